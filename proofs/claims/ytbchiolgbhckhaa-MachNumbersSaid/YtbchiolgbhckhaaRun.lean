/- So many steps of a machine that lies in memory; and what is asked of one. -/
import Derived.Test.YtbchiolgbhckhaaOutcome
import Derived.LoopTactic
set_option linter.unusedVariables false
set_option linter.unusedSimpArgs false
namespace Go.Proofs.Ytbchiolgbhckhaa.Mach
open Go.RowKit Go.Proofs.YtbchiolgbhckhaaW.PrintWords Go.Proofs.YtbchiolgbhckhaaW.PrintMore Go.Proofs.Ytbchiolgbhckhaa.PMachRuns

theorem runN_stop {s : MS} (h : ¬ s.kind = 0) (n : Nat) : runN n s = s := by
  cases n with
  | zero => rfl
  | succ n => simp [runN, h]
theorem runN_go {s : MS} (h : s.kind = 0) {j : Int} (hj : 0 < j) : runN j.toNat s = runN (j - 1).toNat (step1 s) := by
  obtain ⟨n, hn⟩ : ∃ n, j.toNat = n + 1 := ⟨j.toNat - 1, by omega⟩
  rw [hn, show (j - 1).toNat = n by omega]
  simp [runN, h]
def OutOk (s t : MS) : Prop := t.out = s.out ∨ (s.out.length < 4096 ∧ t.out.length = s.out.length + 1)
theorem OutOk.ite {c : Prop} [Decidable c] {s a b : MS} (ha : OutOk s a) (hb : OutOk s b) : OutOk s (if c then a else b) := by
  split
  · exact ha
  · exact hb
theorem exec_ok (x : I5) (s : MS) : OutOk s (exec x s) := by
  unfold exec trapS MS.call
  refine .ite (.inl rfl) (.ite (.ite (.inl rfl) (.ite (.inl rfl) (.ite (.inl rfl) (.inl rfl)))) (.ite (.inl rfl) (.ite (.inl rfl) (.ite (.inl rfl) (.ite (.ite (.inl rfl) (.inl rfl)) (.ite (.ite (.inl rfl) (.inl rfl)) (.ite (.inl rfl) (.ite (.ite (.inl rfl) (.inl rfl)) (.ite (.ite (.inl rfl) (.inl rfl)) (.ite (.ite (.inl rfl) (.inl rfl)) (.ite (.ite (.inl rfl) (.inl rfl)) (.ite (.ite (.inl rfl) (.inl rfl)) (.ite ?_ (.ite ?_ (.ite (.inl rfl) (.ite (.inl rfl) (.inl rfl)))))))))))))))))
  · cases s.inp <;> exact .inl rfl
  · by_cases h : s.out.length < 4096
    · rw [if_pos h]; exact .inr ⟨h, List.length_append⟩
    · rw [if_neg h]; exact .inl rfl
theorem exec_out (x : I5) (s : MS) (h : s.out.length ≤ 4096) : (exec x s).out.length ≤ 4096 := by
  rcases exec_ok x s with e | ⟨e1, e2⟩
  · rw [e]; exact h
  · omega
theorem step1_out (s : MS) (h : s.out.length ≤ 4096) : (step1 s).out.length ≤ 4096 := by
  unfold step1
  dsimp only
  split
  · split
    · exact h
    · exact exec_out _ _ h
  · exact h
/-- How far a machine is, told anew: the output is a row of its own. -/
def Told (B : Nat) (s : MS) (e : Ending) (w' : World) : Prop :=
  ∃ v', e = .returned (.agg #[.int .i64 s.kind, .int .i64 s.panics, v', .int .i64 s.steps]) ∧ w'.ownsRow B 5 1 v' s.out.length (nums .u8 s.out)
theorem Next.size_le {w w' : World} {L L' : Lay} {s s' : MS} (h : Next w L s w' L' s') : w.heap.size ≤ w'.heap.size := h.far.size
theorem own_slice {w : World} {base : Nat} {e : TypeId} {size : Nat} {v : Value} {n : Nat} {xs : List Value} (h : w.ownsRow base e size v n xs) : ∃ A cap, v = .slice A n cap := by
  rcases h.2 with ⟨rfl, rfl⟩ | ⟨g, cap, cur, rfl, _⟩
  · exact ⟨none, 0, rfl⟩
  · exact ⟨_, cap, rfl⟩
/-- An outcome's own place, not yet written. -/
def resO : Obj := .cells #[.int .i64 0, .int .i64 0, .slice none 0 0, .int .i64 0] 34
theorem res_kept {w wr w3 : World} {L L1 : Lay} {s s1 : MS} (h : Holds w L s) (hN : Next (w.alloc resO) L s wr L1 s1) (hb : Below wr.heap.size wr w3) :
    w3.cell? ⟨w.heap.size, 0, none⟩ = some (.int .i64 0) ∧ w3.cell? ⟨w.heap.size, 1, none⟩ = some (.int .i64 0) ∧ w3.cell? ⟨w.heap.size, 2, none⟩ = some (.slice none 0 0) ∧ w3.cell? ⟨w.heap.size, 3, none⟩ = some (.int .i64 0) ∧ ∀ o, w3.frozen? ⟨w.heap.size, o, none⟩ = false := by
  have hz : w.heap.size < (w.alloc resO).heap.size := by simp
  have hk : w3.heap[w.heap.size]? = (w.alloc resO).heap[w.heap.size]? :=
    (hb.block _ (Nat.lt_of_lt_of_le hz hN.far.size)).trans (hN.far.block _ hz (fun hf => by have := h.rows.lt hf; omega))
  refine ⟨(World.cell?_of_block hk).trans ?_, (World.cell?_of_block hk).trans ?_, (World.cell?_of_block hk).trans ?_, (World.cell?_of_block hk).trans ?_, fun o => (World.frozen?_of_block hk).trans ?_⟩ <;> simp [resO]
theorem res_done {w wr w3 : World} {L L1 : Lay} {s s1 : MS} {v : Value} (h : Holds w L s) (hN : Next (w.alloc resO) L s wr L1 s1) (hb : Below wr.heap.size wr w3) (hv : w3.ownsRow wr.heap.size 5 1 v s1.out.length (nums .u8 s1.out)) (a b c d : Value) :
    ∃ B, Next w L s ((((w3.setCell ⟨w.heap.size, 0, none⟩ a).setCell ⟨w.heap.size, 1, none⟩ b).setCell ⟨w.heap.size, 2, none⟩ c).setCell ⟨w.heap.size, 3, none⟩ d) L1 s1 ∧
      ((((w3.setCell ⟨w.heap.size, 0, none⟩ a).setCell ⟨w.heap.size, 1, none⟩ b).setCell ⟨w.heap.size, 2, none⟩ c).setCell ⟨w.heap.size, 3, none⟩ d).ownsRow B 5 1 v s1.out.length (nums .u8 s1.out) ∧ w.heap.size ≤ B ∧ ∀ b, L1.foot s1.inp b → b < B := by
  have hz : w.heap.size < (w.alloc resO).heap.size := by simp
  have hz2 := hN.far.size
  have hlt : ∀ k, L.foot s.inp k → k < w.heap.size := fun k hk => h.rows.lt hk
  have hn1 : ¬ L1.foot s1.inp w.heap.size := fun hf => by
    rcases hN.near _ hf with h' | h'
    · have := hlt _ h'; omega
    · omega
  have h3 := (hN.below hb).holds
  have hset : ∀ {wx : World} (o : Nat) (u : Value), Holds wx L1 s1 → Holds (wx.setCell ⟨w.heap.size, o, none⟩ u) L1 s1 := fun o u hx =>
    hx.frame (by simp [World.setCell]) fun b hb' => Below.heap_setCell _ _ _ _ (fun e => hn1 (show L1.foot s1.inp w.heap.size from (show b = w.heap.size from e) ▸ hb'))
  have hfar : ∀ {wx : World} (o : Nat) (u : Value), Far (L.foot s.inp) w wx → Far (L.foot s.inp) w (wx.setCell ⟨w.heap.size, o, none⟩ u) := fun o u hx =>
    ⟨hx.os, hx.tape, hx.output, by simpa [World.setCell] using hx.size, fun k hk hn => (Below.heap_setCell _ _ _ _ (show k ≠ w.heap.size by omega)).trans (hx.block k hk hn)⟩
  have f3 : Far (L.foot s.inp) w w3 := (Far.of_below (may := L.foot s.inp) ((Below.refl _ _).alloc (Nat.le_refl _) resO)).trans ((hN.far.trans (Far.of_below (may := fun _ => False) hb) (fun _ _ => False.elim))) (fun _ _ h => h)
  refine ⟨wr.heap.size, ⟨hset _ _ (hset _ _ (hset _ _ (hset _ _ h3))), hN.same, hfar _ _ (hfar _ _ (hfar _ _ (hfar _ _ f3))), fun b hb' => (hN.near b hb').imp id (fun h' => by omega)⟩, ?_, by omega, fun b hb' => hN.holds.rows.lt hb'⟩
  have hw : w.heap.size < wr.heap.size := by omega
  exact ownsRow_setCell_below (ownsRow_setCell_below (ownsRow_setCell_below (ownsRow_setCell_below hv (a := ⟨w.heap.size, 0, none⟩) hw _) (a := ⟨w.heap.size, 1, none⟩) hw _) (a := ⟨w.heap.size, 2, none⟩) hw _) (a := ⟨w.heap.size, 3, none⟩) hw _
set_option maxHeartbeats 1000000 in
theorem run_any {w : World} {L : Lay} {s : MS} (h : Holds w L s) (hl : s.out.length ≤ 4096) (n : Int) (hn : n ≤ 9223372036854775807) : Calls Try.prog 25 #[.pointer (some ⟨L.m, 0, none⟩), .int .i64 n] w fun e w' =>
    ∃ L' B, Next w L s w' L' (runN n.toNat s) ∧ Told B (runN n.toNat s) e w' ∧ w.heap.size ≤ B ∧ ∀ b, L'.foot (runN n.toNat s).inp b → b < B := by
  have h1 := h.below ((Below.refl _ _).alloc (Nat.le_refl _) (.cells #[.int .i64 0, .int .i64 0, .slice none 0 0, .int .i64 0] 34))
  have hm := h.hm
  go_enter Try.func25, Try.ntmps25
  go_wp2
  go_loopw [1] (fun i wr => ∃ j L1 s1, i = .int .i64 j ∧ j ≤ n ∧ s1.out.length ≤ 4096 ∧ Next (w.alloc (.cells #[.int .i64 0, .int .i64 0, .slice none 0 0, .int .i64 0] 34)) L s wr L1 s1 ∧ runN j.toNat s1 = runN n.toNat s) (fun i _ => (intOf i).toNat)
  case atStart => exact ⟨n, L, s, rfl, Int.le_refl _, hl, Next.refl h1, rfl⟩
  case round =>
    obtain ⟨j, L1, s1, rfl, hjn, ho, hN, hR⟩ := hrel
    have hL1 : L1.m = L.m := hN.same
    have hH := hN.holds
    by_cases hj : 0 < j
    · by_cases hk : s1.kind = 0
      · have hs := step_any hH hk
        rw [hL1] at hs
        go_wp2_with (go_at_call 17; refine hs.mono ?_; rintro e w2 ⟨rfl, L2, hN2⟩)
        go_roundw
        case rel => exact ⟨j - 1, L2, step1 s1, by go_num, by omega, step1_out _ ho, hN.trans hN2, (runN_go hk hj).symm.trans hR⟩
        case measure => simp [intOf]; omega
      · have hs := step_stop hH hk
        rw [hL1] at hs
        go_wp2_with (go_at_call 17; refine hs.mono ?_; rintro e w2 ⟨rfl, hN2⟩)
        have hN3 := hN.trans hN2
        have hE : runN n.toNat s = s1 := by rw [← hR, runN_stop hk]
        have hout := outcome_any hN2.holds ho
        rw [hL1] at hout
        go_wp2_with (go_at_call 23; refine hout.mono ?_; rintro e w3 ⟨v', rfl, hv', hb3⟩; obtain ⟨A', cap', rfl⟩ := own_slice hv'; obtain ⟨d0, d1, d2, d3, df⟩ := res_kept h hN3 hb3)
        rw [hE]
        exact bodyPost_ret (v := .agg #[.int .i64 s1.kind, .int .i64 s1.panics, .slice A' s1.out.length cap', .int .i64 s1.steps]) (by simp [results, Try.results25, go_sem, d0, d1, d2, d3, df]) rfl (by
          obtain ⟨B, r1, r2, r3, r4⟩ := res_done h hN3 hb3 hv' (.int .i64 s1.kind) (.int .i64 s1.panics) (.slice A' s1.out.length cap') (.int .i64 s1.steps)
          exact ⟨L1, B, r1, ⟨_, rfl, r2⟩, r3, r4⟩)
    · have hE : runN n.toNat s = s1 := by rw [← hR, show j.toNat = 0 by omega]; rfl
      have hN3 := hN
      have hout := outcome_any hH ho
      rw [hL1] at hout
      go_wp2_with (go_at_call 23; refine hout.mono ?_; rintro e w3 ⟨v', rfl, hv', hb3⟩; obtain ⟨A', cap', rfl⟩ := own_slice hv'; obtain ⟨d0, d1, d2, d3, df⟩ := res_kept h hN3 hb3)
      rw [hE]
      exact bodyPost_ret (v := .agg #[.int .i64 s1.kind, .int .i64 s1.panics, .slice A' s1.out.length cap', .int .i64 s1.steps]) (by simp [results, Try.results25, go_sem, d0, d1, d2, d3, df]) rfl (by
        obtain ⟨B, r1, r2, r3, r4⟩ := res_done h hN3 hb3 hv' (.int .i64 s1.kind) (.int .i64 s1.panics) (.slice A' s1.out.length cap') (.int .i64 s1.steps)
        exact ⟨L1, B, r1, ⟨_, rfl, r2⟩, r3, r4⟩)
end Go.Proofs.Ytbchiolgbhckhaa.Mach

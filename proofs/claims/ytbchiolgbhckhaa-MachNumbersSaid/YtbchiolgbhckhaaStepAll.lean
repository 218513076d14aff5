/- One step of a machine that lies in memory, told by the plain state. -/
import Derived.Test.YtbchiolgbhckhaaStep
set_option linter.unusedVariables false
set_option linter.unusedSimpArgs false
namespace Go.Proofs.Ytbchiolgbhckhaa.Mach
open Go.RowKit Go.Proofs.YtbchiolgbhckhaaW.PrintWords Go.Proofs.YtbchiolgbhckhaaW.PrintMore Go.Proofs.Ytbchiolgbhckhaa.PMachRuns

theorem decI_ok {v : Int} {x : I5} (h : decI v = some x) : x.a < 16 ∧ x.b < 16 ∧ x.c < 16 ∧ x.o ≤ 43 ∧ ¬ (33 ≤ x.o ∧ x.o ≤ 40) ∧ -2147483648 ≤ x.i ∧ x.i ≤ 2147483647 := by
  unfold decI at h
  split at h
  · cases h
  rcases uses_cases (wOp v) with ⟨r, m, e, hk, _⟩ | ⟨e, _⟩
  · rw [e] at h
    dsimp only at h
    split at h
    · cases h
      have hw : -2147483648 ≤ wrap32 v ∧ wrap32 v ≤ 2147483647 := by unfold wrap32; omega
      refine ⟨show wA v < 16 by unfold wA; omega, show wB v < 16 by unfold wB; omega, show wC v < 16 by unfold wC; omega, hk, ?_, hw.1, hw.2⟩
      dsimp only
      rintro ⟨k1, k2⟩
      have hc : wOp v = 33 ∨ wOp v = 34 ∨ wOp v = 35 ∨ wOp v = 36 ∨ wOp v = 37 ∨ wOp v = 38 ∨ wOp v = 39 ∨ wOp v = 40 := by omega
      have hn : usesOf (wOp v) = none := by rcases hc with h | h | h | h | h | h | h | h <;> rw [h] <;> rfl
      rw [hn] at e
      cases e
    · cases h
  · rw [e] at h; cases h
theorem op_any {w : World} {L : Lay} {s : MS} (x : I5) (h : Holds w L s) (ho : x.o < 16) (ha : x.a < 16) (hb : x.b < 16) : Calls Try.prog (32 + x.o) (opArgs L x) w (OpEnd w L s (exec x s)) := by
  have hc : x.o = 0 ∨ x.o = 1 ∨ x.o = 2 ∨ x.o = 3 ∨ x.o = 4 ∨ x.o = 5 ∨ x.o = 6 ∨ x.o = 7 ∨ x.o = 8 ∨ x.o = 9 ∨ x.o = 10 ∨ x.o = 11 ∨ x.o = 12 ∨ x.o = 13 ∨ x.o = 14 ∨ x.o = 15 := by omega
  unfold exec
  rcases hc with e | e | e | e | e | e | e | e | e | e | e | e | e | e | e | e
  · rw [if_pos e]
    rw [e]
    exact op_halt x h
  · rw [if_neg (by omega), if_pos e]
    rw [e]
    exact op_trap x h
  · rw [if_neg (by omega), if_neg (by omega), if_pos e]
    rw [e]
    exact op_move x h ha hb
  · rw [if_neg (by omega), if_neg (by omega), if_neg (by omega), if_pos e]
    rw [e]
    exact op_konst x h ha
  · rw [if_neg (by omega), if_neg (by omega), if_neg (by omega), if_neg (by omega), if_pos e]
    rw [e]
    exact op_high x h ha
  · rw [if_neg (by omega), if_neg (by omega), if_neg (by omega), if_neg (by omega), if_neg (by omega), if_pos e]
    rw [e]
    exact op_load x h ha hb
  · rw [if_neg (by omega), if_neg (by omega), if_neg (by omega), if_neg (by omega), if_neg (by omega), if_neg (by omega), if_pos e]
    rw [e]
    exact op_store x h ha hb
  · rw [if_neg (by omega), if_neg (by omega), if_neg (by omega), if_neg (by omega), if_neg (by omega), if_neg (by omega), if_neg (by omega), if_pos e]
    rw [e]
    exact op_jump x h
  · rw [if_neg (by omega), if_neg (by omega), if_neg (by omega), if_neg (by omega), if_neg (by omega), if_neg (by omega), if_neg (by omega), if_neg (by omega), if_pos e]
    rw [e]
    exact op_zero x h ha
  · rw [if_neg (by omega), if_neg (by omega), if_neg (by omega), if_neg (by omega), if_neg (by omega), if_neg (by omega), if_neg (by omega), if_neg (by omega), if_neg (by omega), if_pos e]
    rw [e]
    exact op_some x h ha
  · rw [if_neg (by omega), if_neg (by omega), if_neg (by omega), if_neg (by omega), if_neg (by omega), if_neg (by omega), if_neg (by omega), if_neg (by omega), if_neg (by omega), if_neg (by omega), if_pos e]
    rw [e]
    exact op_call x h
  · rw [if_neg (by omega), if_neg (by omega), if_neg (by omega), if_neg (by omega), if_neg (by omega), if_neg (by omega), if_neg (by omega), if_neg (by omega), if_neg (by omega), if_neg (by omega), if_neg (by omega), if_pos e]
    rw [e]
    exact op_at x h ha
  · rw [if_neg (by omega), if_neg (by omega), if_neg (by omega), if_neg (by omega), if_neg (by omega), if_neg (by omega), if_neg (by omega), if_neg (by omega), if_neg (by omega), if_neg (by omega), if_neg (by omega), if_neg (by omega), if_pos e]
    rw [e]
    exact op_ret x h
  · rw [if_neg (by omega), if_neg (by omega), if_neg (by omega), if_neg (by omega), if_neg (by omega), if_neg (by omega), if_neg (by omega), if_neg (by omega), if_neg (by omega), if_neg (by omega), if_neg (by omega), if_neg (by omega), if_neg (by omega), if_pos e]
    rw [e]
    exact op_read x h ha
  · rw [if_neg (by omega), if_neg (by omega), if_neg (by omega), if_neg (by omega), if_neg (by omega), if_neg (by omega), if_neg (by omega), if_neg (by omega), if_neg (by omega), if_neg (by omega), if_neg (by omega), if_neg (by omega), if_neg (by omega), if_neg (by omega), if_pos e]
    rw [e]
    exact op_write x h ha
  · rw [if_neg (by omega), if_neg (by omega), if_neg (by omega), if_neg (by omega), if_neg (by omega), if_neg (by omega), if_neg (by omega), if_neg (by omega), if_neg (by omega), if_neg (by omega), if_neg (by omega), if_neg (by omega), if_neg (by omega), if_neg (by omega), if_neg (by omega), if_pos e]
    rw [e]
    exact op_room x h ha
theorem words_any {w : World} {L : Lay} {s : MS} (x : I5) (h : Holds w L s) (ho : 16 ≤ x.o) (ho' : x.o ≤ 43) (hn : ¬ (33 ≤ x.o ∧ x.o ≤ 40)) (ha : x.a < 16) (hb : x.b < 16) (hc : x.c < 16) :
    Calls Try.prog 51 (opArgs L x) w (OpEnd w L s (exec x s)) := by
  unfold exec
  repeat rw [if_neg (by omega)]
  exact op_words x h ha hb hc ⟨ho, by omega⟩ fun h40 => un2_ok _ (by omega)
theorem step_any {w : World} {L : Lay} {s : MS} (h : Holds w L s) (h0 : s.kind = 0) :
    Calls Try.prog 17 #[.pointer (some ⟨L.m, 0, none⟩)] w fun e w' => e = .returned (.bool true) ∧ ∃ L', Next w L s w' L' (step1 s) := by
  have hr := h.rows
  have c0 : w.cell? ⟨L.m, 0, none⟩ = some (.slice (some ⟨L.cb, 0, none⟩) s.code.length L.cc) := h.cells 0 (by omega)
  have c23 : w.cell? ⟨L.m, 23, none⟩ = some (.int .i64 s.steps) := h.cells 23 (by omega)
  have c24 : w.cell? ⟨L.m, 24, none⟩ = some (.slice (some ⟨L.ob, 0, none⟩) 16 L.oc) := h.cells 24 (by omega)
  have c21 := h.kind_cell
  rw [h0] at c21
  have n1 := Next.stepd h (wrap64 (s.steps + 1))
  have nf := n1.trans (Next.ends n1.holds 5 0)
  have zf : (endsW (w.setCell ⟨L.m, 23, none⟩ (.int .i64 (wrap64 (s.steps + 1)))) L.m 5 0).heap.size = w.heap.size := by simp [endsW, World.setCell]
  have l1 := hr.lim.1
  by_cases p0 : s.pc < 0
  · refine (step_low L.m L.cb _ _ s.pc s.steps s.panics w h.hm h.free c0 l1 h.pc_cell c21 h.panics_cell c23 p0).mono ?_
    rintro e w' ⟨rfl, hb⟩
    refine ⟨rfl, L, ?_⟩
    unfold step1
    rw [if_neg (by omega)]
    exact nf.below (by rw [zf]; exact hb)
  by_cases p1 : (s.code.length : Int) ≤ s.pc
  · refine (step_high L.m L.cb _ _ s.pc s.steps s.panics w h.hm h.free c0 l1 h.pc_cell c21 h.panics_cell c23 (decide_eq_false p0) p1).mono ?_
    rintro e w' ⟨rfl, hb⟩
    refine ⟨rfl, L, ?_⟩
    unfold step1
    rw [if_neg (by omega)]
    exact nf.below (by rw [zf]; exact hb)
  have hv : w.cell? ⟨L.cb, s.pc.toNat, none⟩ = some (.int .i64 (rd s.code s.pc)) := hr.code_at s.pc.toNat (by omega)
  obtain ⟨g0, g1⟩ : -9223372036854775808 ≤ rd s.code s.pc ∧ rd s.code s.pc ≤ 9223372036854775807 := hr.code_in s.pc.toNat
  obtain ⟨a1, a2, a3, a4, a5⟩ := hr.apart
  have s1 : ∀ x, decI (rd s.code s.pc) = x → step1 s = (match x with | none => { s with steps := wrap64 (s.steps + 1) }.fault | some x => exec x { s with steps := wrap64 (s.steps + 1), pc := s.pc + 1 }) := by
    intro x hx
    unfold step1
    rw [if_pos (by omega), hx, in64 (n := s.pc + 1) (by omega) (by omega)]
    cases x <;> rfl
  cases hd : decI (rd s.code s.pc) with
  | none =>
    rw [s1 _ hd]
    refine (step_bad L.m L.cb _ _ s.pc s.steps s.panics w h.hm h.free c0 l1 h.pc_cell c21 h.panics_cell c23 (decide_eq_false p0) (decide_eq_false p1) _ hv hr.blocks.2.2.1 (Ne.symm a2) a2 (by omega) (by omega) g0 g1 hd).mono ?_
    rintro e w' ⟨rfl, hb⟩
    exact ⟨rfl, L, nf.below (by rw [zf]; exact hb)⟩
  | some x =>
    rw [s1 _ hd]
    dsimp only
    obtain ⟨ha, hb, hc, ho, hn, _⟩ := decI_ok hd
    have n2 := n1.trans (Next.pc n1.holds (s.pc + 1))
    have zp : (pcW (w.setCell ⟨L.m, 23, none⟩ (.int .i64 (wrap64 (s.steps + 1)))) L.m (s.pc + 1)).heap.size = w.heap.size := by simp [pcW, World.setCell]
    have fin : ∀ X, Below w.heap.size (pcW (w.setCell ⟨L.m, 23, none⟩ (.int .i64 (wrap64 (s.steps + 1)))) L.m (s.pc + 1)) X → ∀ e w', OpEnd X L { s with steps := wrap64 (s.steps + 1), pc := s.pc + 1 } (exec x { s with steps := wrap64 (s.steps + 1), pc := s.pc + 1 }) e w' →
        (e = .returned (.tuple #[]) ∧ ∃ L', Next w L s w' L' (exec x { s with steps := wrap64 (s.steps + 1), pc := s.pc + 1 })) ∨ (e = faultP ∧ Below X.heap.size X w' ∧ ∃ L', Next w L s (endsW w' L.m 5 0) L' (exec x { s with steps := wrap64 (s.steps + 1), pc := s.pc + 1 })) := by
      intro X hX e w' hE
      have nX := n2.below (by rw [zp]; exact hX)
      rcases hE with ⟨he, L', hN⟩ | ⟨he, hf, hB⟩
      · exact .inl ⟨he, L', nX.trans hN⟩
      · have nW := nX.below hB
        rw [hf]
        exact .inr ⟨he, hB, L, nW.trans (Next.ends nW.holds 5 0)⟩
    have hX : ∀ X, Below w.heap.size (pcW (w.setCell ⟨L.m, 23, none⟩ (.int .i64 (wrap64 (s.steps + 1)))) L.m (s.pc + 1)) X → Holds X L { s with steps := wrap64 (s.steps + 1), pc := s.pc + 1 } := fun X hX => (n2.below (by rw [zp]; exact hX)).holds
    by_cases h16 : x.o < 16
    · exact step_ops L.m L.cb _ _ s.pc s.steps s.panics w h.hm h.free c0 l1 h.pc_cell c21 h.panics_cell c23 (decide_eq_false p0) (decide_eq_false p1) _ hv hr.blocks.2.2.1 (Ne.symm a2) a2 (by omega) (by omega) x g0 g1 hd
        (fun w' => ∃ L', Next w L s w' L' (exec x { s with steps := wrap64 (s.steps + 1), pc := s.pc + 1 })) (by omega) h16 L.ob L.oc c24 (hr.ops_at x.o h16) hr.blocks.2.2.2 (Ne.symm a3) a3
        (fun X hB => (op_any x (hX X hB) h16 ha hb).mono (fin X hB))
    · exact step_words L.m L.cb _ _ s.pc s.steps s.panics w h.hm h.free c0 l1 h.pc_cell c21 h.panics_cell c23 (decide_eq_false p0) (decide_eq_false p1) _ hv hr.blocks.2.2.1 (Ne.symm a2) a2 (by omega) (by omega) x g0 g1 hd
        (fun w' => ∃ L', Next w L s w' L' (exec x { s with steps := wrap64 (s.steps + 1), pc := s.pc + 1 })) (by omega) L.ob L.oc c24
        (fun X hB => (words_any x (hX X hB) (by omega) ho hn ha hb hc).mono (fin X hB))
/-- A run that is over makes no step. -/
theorem step_stop {w : World} {L : Lay} {s : MS} (h : Holds w L s) (h0 : ¬ s.kind = 0) :
    Calls Try.prog 17 #[.pointer (some ⟨L.m, 0, none⟩)] w fun e w' => e = .returned (.bool false) ∧ Next w L s w' L s := by
  refine (step_over L.m s.kind w h.kind_cell h0 h.hm).mono ?_
  rintro e w' ⟨rfl, hb⟩
  exact ⟨rfl, (Next.refl h).below hb⟩
end Go.Proofs.Ytbchiolgbhckhaa.Mach

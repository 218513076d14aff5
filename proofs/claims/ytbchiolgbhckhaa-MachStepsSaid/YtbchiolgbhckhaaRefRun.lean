/- So many steps of the document's machine. -/
import Derived.Test.YtbchiolgbhckhaaRefStep
import Derived.LoopTactic
set_option linter.unusedVariables false
set_option linter.unusedSimpArgs false
namespace Go.Proofs.Ytbchiolgbhckhaa.Mach
open Go.RowKit Go.Proofs.YtbchiolgbhckhaaW.PrintWords Go.Proofs.YtbchiolgbhckhaaW.PrintMore Go.Proofs.Ytbchiolgbhckhaa.PMachRuns

theorem wpList_app {P : Program} {ops : Array Oper} {rest : List Oper} {o : Oper} {a : Act} {w : World} {Q : Exit → Act → World → Prop} (hgd : o.guard = none) (d x : Operand) (t : TypeId)
    (ho : o.op = .call { callee := .builtin .append, args := #[d, x], argTypes := #[t, t] }) (vd vx v : Value) (w' : World) (hd : a.eval d = vd) (hx : a.eval x = vx) (hr : (Builtin.append_ #[t, t] o.type #[vd, vx]).run P w = .ok v w')
    (h : wpList P ops Q rest (a.put o.dst v) w') : wpList P ops Q (o :: rest) a w := by
  refine wpList_plain hgd fun K hK => ?_
  unfold Oper.wp execOp
  simp only [ho, resolve, invoke, builtin, Sem.run_bind, Sem.run_pure, Result.andThen_ok, List.map_toArray, List.map_cons, List.map_nil, hd, hx, hr]
  exact hK _ _ h
/-- Onto an empty row of one's own a row is appended. -/
theorem app_any {kd : IntKind} (t ty e : TypeId) (i : TypeInfo) (z : Value) (bytes : Nat) (ht : Try.prog.underlying t = some (.slice e)) (hi : Try.prog.info? e = some i) (hz : i.zero = some z) (hsize : i.size = 1) (hby : i.bytes = bytes) (hzs : z.cells.size = 1) (hbs : bytes ≤ 8)
    {w : World} {B g c : Nat} (hown : w.ownsRow B e 1 (.slice (some ⟨g, 0, none⟩) 0 c) 0 []) (hB : B ≤ w.heap.size) {v : Value} {n : Nat} {xs : List Int} (hn : n ≤ 100000000) (h : Reads w v n (nums kd xs)) :
    ∃ g' c' w', (Builtin.append_ #[t, t] ty #[.slice (some ⟨g, 0, none⟩) 0 c, v]).run Try.prog w = .ok (.slice (some ⟨g', 0, none⟩) n c') w' ∧ w'.ownsRow B e 1 (.slice (some ⟨g', 0, none⟩) n c') n (nums kd xs) ∧ w.grownBy w' (some g) ∧ (g' = g ∨ w.heap.size ≤ g') := by
  have hl : xs.length = n := by simpa [nums] using h.1
  rcases h.2.2 with ⟨rfl, rfl⟩ | ⟨a, m, rfl, hx⟩
  · refine ⟨g, c, w, run_append_owned_none w B t ty e i 1 ht hi _ 0 [] hown, ?_, World.grownBy.refl w _, .inl rfl⟩
    rw [List.eq_nil_of_length_eq_zero hl]
    exact hown
  · by_cases hroom : n ≤ c
    · obtain ⟨w', hr, h2, h3⟩ := run_append_fits (P := Try.prog) w B t ty e i 1 ht hi hsize g 0 c [] hown a n m (nums kd xs) (by simp [nums, hl]) hx h.2.1 (by omega)
      rw [Nat.zero_add] at hr h2
      rw [List.nil_append] at h2
      exact ⟨g, c, w', hr, h2, h3, .inl rfl⟩
    · obtain ⟨v', w', hr, ho, hg, hk⟩ := run_append_mine (P := Try.prog) w B t ty e i z 1 bytes ht hi hz hsize hby hzs (by omega) _ 0 [] hown a n m (nums kd xs) (by simp [nums, hl]) hx h.2.1 (by unfold maxLen; omega) (by rw [Nat.zero_add]; have : n * bytes ≤ n * 8 := Nat.mul_le_mul_left _ hbs; omega) hB
      rw [Nat.zero_add, List.nil_append] at ho
      obtain ⟨g', c', rfl⟩ := own_form ho (by omega)
      exact ⟨g', c', w', hr, ho, hg, (hk g' rfl).imp (fun e => by cases e; rfl) id⟩
theorem below_grown {B : Nat} {w w' : World} {g : Nat} (h : w.grownBy w' (some g)) (hg : B ≤ g) (hB : B ≤ w.heap.size) : Below B w w' :=
  ⟨h.os, h.tape, h.output, h.size, fun k hk => h.block k (by omega) (fun e => by cases e; omega)⟩
/-- What an instruction makes of the panic's number. -/
def PanOk (s t : MS) : Prop := t.panics = s.panics ∨ ¬ t.kind = 0
theorem PanOk.ite {c : Prop} [Decidable c] {s a b : MS} (ha : PanOk s a) (hb : PanOk s b) : PanOk s (if c then a else b) := by
  split
  · exact ha
  · exact hb
theorem exec_pan (x : I5) (s : MS) : PanOk s (exec x s) := by
  have n1 : ∀ (k c : Int) (t : MS), ¬ k = 0 → PanOk s (t.ends k c) := fun k c t hk => .inr hk
  unfold exec trapS MS.call
  refine .ite (n1 _ _ _ (by omega)) (.ite (.ite (n1 _ _ _ (by omega)) (.ite (n1 _ _ _ (by omega)) (.ite (n1 _ _ _ (by omega)) (n1 _ _ _ (by omega))))) (.ite (.inl rfl) (.ite (.inl rfl) (.ite (.inl rfl) (.ite (.ite (.inl rfl) (n1 _ _ _ (by omega))) (.ite (.ite (.inl rfl) (n1 _ _ _ (by omega))) (.ite (.inl rfl) (.ite (.ite (.inl rfl) (.inl rfl)) (.ite (.ite (.inl rfl) (.inl rfl)) (.ite (.ite (.inl rfl) (n1 _ _ _ (by omega))) (.ite (.ite (.inl rfl) (n1 _ _ _ (by omega))) (.ite (.ite (.inl rfl) (n1 _ _ _ (by omega))) (.ite ?_ (.ite (.ite (.inl rfl) (.inl rfl)) (.ite (.inl rfl) (.ite (.inl rfl) (n1 _ _ _ (by omega))))))))))))))))))
  cases s.inp <;> exact .inl rfl
theorem step1_pan (s : MS) : PanOk s (step1 s) := by
  unfold step1
  dsimp only
  split
  · split
    · exact .inr (by show ¬ (5 : Int) = 0; decide)
    · exact exec_pan _ { s with steps := wrap64 (s.steps + 1), pc := wrap64 (s.pc + 1) }
  · exact .inr (by show ¬ (5 : Int) = 0; decide)
/-- While a run goes on, no panic's number is told. -/
def Calm (s : MS) : Prop := s.kind = 0 → s.panics = 0
theorem step1_calm {s : MS} (h : Calm s) (hk : s.kind = 0) : Calm (step1 s) := fun h0 => by
  rcases step1_pan s with e | e
  · rw [e]; exact h hk
  · exact absurd h0 e
theorem fresh_calm (code data inp : List Int) (en : Int) (M : Nat) : Calm (fresh code data inp en M) := fun _ => rfl
theorem rres_kept {w wr w3 : World} {L L1 : RLay} {s s1 : MS} (h : RHolds w L s) (hN : RNext (w.alloc resO) L s wr L1 s1) (hb : Below wr.heap.size wr w3) :
    w3.cell? ⟨w.heap.size, 0, none⟩ = some (.int .i64 0) ∧ w3.cell? ⟨w.heap.size, 1, none⟩ = some (.int .i64 0) ∧ w3.cell? ⟨w.heap.size, 2, none⟩ = some (.slice none 0 0) ∧ w3.cell? ⟨w.heap.size, 3, none⟩ = some (.int .i64 0) ∧ ∀ o, w3.frozen? ⟨w.heap.size, o, none⟩ = false := by
  have hz : w.heap.size < (w.alloc resO).heap.size := by simp
  have hk : w3.heap[w.heap.size]? = (w.alloc resO).heap[w.heap.size]? :=
    (hb.block _ (Nat.lt_of_lt_of_le hz hN.far.size)).trans (hN.far.block _ hz (fun hf => by have := h.rows.lt hf; omega))
  refine ⟨(World.cell?_of_block hk).trans ?_, (World.cell?_of_block hk).trans ?_, (World.cell?_of_block hk).trans ?_, (World.cell?_of_block hk).trans ?_, fun o => (World.frozen?_of_block hk).trans ?_⟩ <;> simp [resO]
theorem rres_done {w wr w3 : World} {L L1 : RLay} {s s1 : MS} {v : Value} (h : RHolds w L s) (hN : RNext (w.alloc resO) L s wr L1 s1) (hb : Below wr.heap.size wr w3) (hv : w3.ownsRow wr.heap.size 5 1 v s1.out.length (nums .u8 s1.out)) (a b c d : Value) :
    ∃ B, RNext w L s ((((w3.setCell ⟨w.heap.size, 0, none⟩ a).setCell ⟨w.heap.size, 1, none⟩ b).setCell ⟨w.heap.size, 2, none⟩ c).setCell ⟨w.heap.size, 3, none⟩ d) L1 s1 ∧
      ((((w3.setCell ⟨w.heap.size, 0, none⟩ a).setCell ⟨w.heap.size, 1, none⟩ b).setCell ⟨w.heap.size, 2, none⟩ c).setCell ⟨w.heap.size, 3, none⟩ d).ownsRow B 5 1 v s1.out.length (nums .u8 s1.out) ∧ w.heap.size ≤ B ∧ ∀ b, L1.foot b → b < B := by
  have hz : w.heap.size < (w.alloc resO).heap.size := by simp
  have hz2 := hN.far.size
  have hlt : ∀ k, L.foot k → k < w.heap.size := fun k hk => h.rows.lt hk
  have hn1 : ¬ L1.foot w.heap.size := fun hf => by
    rcases hN.near _ hf with h' | h'
    · have := hlt _ h'; omega
    · omega
  have h3 := (hN.below hb).holds
  have hset : ∀ {wx : World} (o : Nat) (u : Value), RHolds wx L1 s1 → RHolds (wx.setCell ⟨w.heap.size, o, none⟩ u) L1 s1 := fun o u hx =>
    hx.frame (by simp [World.setCell]) fun b hb' => Below.heap_setCell _ _ _ _ (fun e => hn1 (show L1.foot w.heap.size from (show b = w.heap.size from e) ▸ hb'))
  have hfar : ∀ {wx : World} (o : Nat) (u : Value), Far L.foot w wx → Far L.foot w (wx.setCell ⟨w.heap.size, o, none⟩ u) := fun o u hx =>
    ⟨hx.os, hx.tape, hx.output, by simpa [World.setCell] using hx.size, fun k hk hn => (Below.heap_setCell _ _ _ _ (show k ≠ w.heap.size by omega)).trans (hx.block k hk hn)⟩
  have f3 : Far L.foot w w3 := (Far.of_below (may := L.foot) ((Below.refl _ _).alloc (Nat.le_refl _) resO)).trans ((hN.far.trans (Far.of_below (may := fun _ => False) hb) (fun _ _ => False.elim))) (fun _ _ h => h)
  refine ⟨wr.heap.size, ⟨hset _ _ (hset _ _ (hset _ _ (hset _ _ h3))), hN.same, hfar _ _ (hfar _ _ (hfar _ _ (hfar _ _ f3))), fun b hb' => (hN.near b hb').imp id (fun h' => by omega)⟩, ?_, by omega, fun b hb' => hN.holds.rows.lt hb'⟩
  have hw : w.heap.size < wr.heap.size := by omega
  exact ownsRow_setCell_below (ownsRow_setCell_below (ownsRow_setCell_below (ownsRow_setCell_below hv (a := ⟨w.heap.size, 0, none⟩) hw _) (a := ⟨w.heap.size, 1, none⟩) hw _) (a := ⟨w.heap.size, 2, none⟩) hw _) (a := ⟨w.heap.size, 3, none⟩) hw _
/-- The copy of an outcome: what is laid down behind the loop. -/
theorem rcopy {wr : World} {L1 : RLay} {s1 : MS} (h : RHolds wr L1 s1) (hl : s1.out.length ≤ 4096) {A : Option Addr} {c : Nat} (hA : L1.out = .slice A s1.out.length c) (k p st : Value) :
    ∃ g c' w', (Builtin.append_ #[25, 25] 25 #[.slice (some ⟨wr.heap.size + 1, 0, none⟩) 0 0, .slice A s1.out.length c]).run Try.prog ((wr.alloc (.cells #[k, p, .slice A s1.out.length c, st] 34)).alloc (.cells #[] 5)) = .ok (.slice (some ⟨g, 0, none⟩) s1.out.length c') w' ∧
      w'.ownsRow (wr.heap.size + 1) 5 1 (.slice (some ⟨g, 0, none⟩) s1.out.length c') s1.out.length (nums .u8 s1.out) ∧ Below wr.heap.size wr w' ∧ wr.heap.size < w'.heap.size ∧
      w'.cell? ⟨wr.heap.size, 0, none⟩ = some k ∧ w'.cell? ⟨wr.heap.size, 1, none⟩ = some p ∧ w'.cell? ⟨wr.heap.size, 2, none⟩ = some (.slice A s1.out.length c) ∧ w'.cell? ⟨wr.heap.size, 3, none⟩ = some st ∧ ∀ o, w'.frozen? ⟨wr.heap.size, o, none⟩ = false := by
  have hb : Below wr.heap.size wr ((wr.alloc (.cells #[k, p, .slice A s1.out.length c, st] 34)).alloc (.cells #[] 5)) := ((Below.refl _ _).alloc (Nat.le_refl _) _).alloc (by simp) _
  have hr : Reads ((wr.alloc (.cells #[k, p, .slice A s1.out.length c, st] 34)).alloc (.cells #[] 5)) (.slice A s1.out.length c) s1.out.length (nums .u8 s1.out) := own_reads (own_below (hA ▸ h.rows.out_at) hb)
  have hown : ((wr.alloc (.cells #[k, p, .slice A s1.out.length c, st] 34)).alloc (.cells #[] 5)).ownsRow (wr.heap.size + 1) 5 1 (.slice (some ⟨wr.heap.size + 1, 0, none⟩) 0 0) 0 [] := by
    have := World.ownsRow_lit (base := wr.heap.size + 1) (e := 5) (size := 1) (wr.alloc (.cells #[k, p, .slice A s1.out.length c, st] 34)) #[] 0 (by simp) (by unfold maxLen; omega) rfl
    simpa using this
  obtain ⟨g, c', w', e, ho, hg, _⟩ := app_any (kd := .u8) 25 25 5 _ _ 1 rfl rfl rfl rfl rfl rfl (by omega) hown (by simp) (by omega) hr
  have hz := hg.size
  simp only [World.size_alloc] at hz
  have hk : w'.heap[wr.heap.size]? = ((wr.alloc (.cells #[k, p, .slice A s1.out.length c, st] 34)).alloc (.cells #[] 5)).heap[wr.heap.size]? := hg.block _ (by simp; omega) (by intro e; injection e with e; omega)
  refine ⟨g, c', w', e, ho, hb.trans (below_grown hg (by omega) (by simp; omega)), by omega, (World.cell?_of_block hk).trans ?_, (World.cell?_of_block hk).trans ?_, (World.cell?_of_block hk).trans ?_, (World.cell?_of_block hk).trans ?_, fun o => (World.frozen?_of_block hk).trans ?_⟩
  · rw [World.cell?_alloc_past _ _ _ (by simp)]; simp
  · rw [World.cell?_alloc_past _ _ _ (by simp)]; simp
  · rw [World.cell?_alloc_past _ _ _ (by simp)]; simp
  · rw [World.cell?_alloc_past _ _ _ (by simp)]; simp
  · rw [World.frozen?_alloc_past _ _ _ (by simp)]; simp
/-- How far the document's machine is, told; it has come so far. -/
def RTells (w : World) (L : RLay) (s t : MS) (e : Ending) (w' : World) : Prop := ∃ L' B, RNext w L s w' L' t ∧ Told B t e w' ∧ w.heap.size ≤ B ∧ ∀ b, L'.foot b → b < B
set_option maxRecDepth 100000 in
set_option maxHeartbeats 2000000 in
theorem rrun_any {w : World} {L : RLay} {s : MS} (h : RHolds w L s) (hc : Calm s) (hl : s.out.length ≤ 4096) (n : Int) (hn : n ≤ 9223372036854775807) : Calls Try.prog 24 #[.pointer (some ⟨L.m, 0, none⟩), .int .i64 n] w (RTells w L s (runN n.toNat s)) := by
  have h1 := h.below ((Below.refl _ _).alloc (Nat.le_refl _) resO)
  have hm := h.hm
  go_enter Try.func24, Try.ntmps24
  go_wp2
  go_loopw [5] (fun i wr => ∃ k L1 s1, i = .int .i64 k ∧ 0 ≤ k ∧ (k ≤ n ∨ k = 0) ∧ s1.out.length ≤ 4096 ∧ Calm s1 ∧ RNext (w.alloc resO) L s wr L1 s1 ∧ runN (n - k).toNat s1 = runN n.toNat s) (fun i _ => (n - intOf i).toNat)
  case atStart => exact ⟨0, L, s, rfl, Int.le_refl _, .inr rfl, hl, hc, RNext.refl h1, by rw [Int.sub_zero]⟩
  case round =>
    obtain ⟨k, L1, s1, rfl, hk0, hkn, ho, hcm, hN, hR⟩ := hrel
    have hL1 : L1.m = L.m := hN.same
    have hH := hN.holds
    have hc21 : wr.cell? ⟨L.m, 21, none⟩ = some (.int .i64 s1.kind) := hL1 ▸ hH.cells 21 (by omega)
    by_cases hj : k < n
    · by_cases hk : s1.kind = 0
      · have hs := rstep_any hH (hcm hk) hk
        rw [hL1] at hs
        rw [hk] at hc21
        have hkn' : k + 1 ≤ n := by omega
        have HK := Lib.hid hk
        clear hk hkn
        go_wp2_with (go_at_call 18; refine hs.mono ?_; rintro e w2 ⟨rfl, L2, hN2⟩)
        go_roundw
        case rel => exact ⟨k + 1, L2, step1 s1, by go_num, by omega, .inl hkn', step1_out _ ho, step1_calm hcm HK.out, hN.trans hN2, by
          have e := runN_go (s := s1) HK.out (j := n - k) (by omega)
          rw [show n - (k + 1) = n - k - 1 by omega, ← e]
          exact hR⟩
        case measure => simp [intOf]; omega
      · have hE : runN n.toNat s = s1 := by rw [← hR, runN_stop hk]
        have hz : (s1.kind == 0) = false := by simpa using hk
        clear hk hkn hR hcm
        obtain ⟨A, c, hA⟩ := own_slice hH.rows.out_at
        obtain ⟨g, c', w', happ, ho', hb', hz', q0, q1, q2, q3, qf⟩ := rcopy hH ho hA (.int .i64 s1.kind) (.int .i64 s1.panics) (.int .i64 s1.steps)
        have m21 : wr.cell? ⟨L.m, 21, none⟩ = some (.int .i64 s1.kind) := hL1 ▸ hH.cells 21 (by omega)
        have m22 : wr.cell? ⟨L.m, 22, none⟩ = some (.int .i64 s1.panics) := hL1 ▸ hH.cells 22 (by omega)
        have m23 : wr.cell? ⟨L.m, 23, none⟩ = some (.slice A s1.out.length c) := by have := hH.cells 23 (by omega); rw [show rcell L1 s1 23 = L1.out from rfl, hA, hL1] at this; exact this
        have m24 : wr.cell? ⟨L.m, 24, none⟩ = some (.int .i64 s1.steps) := hL1 ▸ hH.cells 24 (by omega)
        have hmr : L.m < wr.heap.size := hL1 ▸ hH.hm
        have hb3 : Below wr.heap.size wr (w'.setCell ⟨wr.heap.size, 2, none⟩ (.slice (some ⟨g, 0, none⟩) s1.out.length c')) := hb'.setCell (Nat.le_refl _) _
        have ho3 : (w'.setCell ⟨wr.heap.size, 2, none⟩ (.slice (some ⟨g, 0, none⟩) s1.out.length c')).ownsRow wr.heap.size 5 1 (.slice (some ⟨g, 0, none⟩) s1.out.length c') s1.out.length (nums .u8 s1.out) := own_le (ownsRow_setCell_below ho' (a := ⟨wr.heap.size, 2, none⟩) (Nat.lt_succ_self _) _) (Nat.le_succ _)
        obtain ⟨d0, d1, d2, d3, df⟩ := rres_kept h hN hb3
        have hw0 : w.heap.size < wr.heap.size := by have := hN.far.size; simp only [World.size_alloc] at this; omega
        have e0 := (World.cell?_setCell_other w' ⟨wr.heap.size, 2, none⟩ ⟨w.heap.size, 0, none⟩ (.slice (some ⟨g, 0, none⟩) s1.out.length c') (by intro e; injection e with e; omega)).symm.trans d0
        have e1 := (World.cell?_setCell_other w' ⟨wr.heap.size, 2, none⟩ ⟨w.heap.size, 1, none⟩ (.slice (some ⟨g, 0, none⟩) s1.out.length c') (by intro e; injection e with e; omega)).symm.trans d1
        have e2 := (World.cell?_setCell_other w' ⟨wr.heap.size, 2, none⟩ ⟨w.heap.size, 2, none⟩ (.slice (some ⟨g, 0, none⟩) s1.out.length c') (by intro e; injection e with e; omega)).symm.trans d2
        have e3 := (World.cell?_setCell_other w' ⟨wr.heap.size, 2, none⟩ ⟨w.heap.size, 3, none⟩ (.slice (some ⟨g, 0, none⟩) s1.out.length c') (by intro e; injection e with e; omega)).symm.trans d3
        have ef : ∀ o, w'.frozen? ⟨w.heap.size, o, none⟩ = false := fun o => by have := df o; rw [World.frozen?_setCell] at this; exact this
        have FIN := rres_done h hN hb3 ho3 (.int .i64 s1.kind) (.int .i64 s1.panics) (.slice (some ⟨g, 0, none⟩) s1.out.length c') (.int .i64 s1.steps)
        clear d0 d1 d2 d3 df ho' hb' hb3 ho3
        have HA := Lib.hid hA
        have HE := Lib.hid hE
        have HF := Lib.hid FIN
        clear hE FIN
        clear hA
        go_wp2_with (refine wpList_app (o := ⟨some 32, _, _, _, _, _⟩) rfl (.tmp 26) (.tmp 31) 25 rfl _ _ _ _ rfl rfl happ ?_)
        rw [HE.out]
        exact bodyPost_ret (v := .agg #[.int .i64 s1.kind, .int .i64 s1.panics, .slice (some ⟨g, 0, none⟩) s1.out.length c', .int .i64 s1.steps]) (by simp [results, Try.results24, go_sem, e0, e1, e2, e3, ef, q0, q1, q2, q3, qf]) rfl (by
          obtain ⟨B, r1, r2, r3, r4⟩ := HF.out
          exact ⟨L1, B, r1, ⟨_, rfl, r2⟩, r3, r4⟩)
    · have hE : runN n.toNat s = s1 := by rw [← hR, show (n - k).toNat = 0 by omega]; rfl
      clear hkn hR hcm
      obtain ⟨A, c, hA⟩ := own_slice hH.rows.out_at
      obtain ⟨g, c', w', happ, ho', hb', hz', q0, q1, q2, q3, qf⟩ := rcopy hH ho hA (.int .i64 s1.kind) (.int .i64 s1.panics) (.int .i64 s1.steps)
      have m21 : wr.cell? ⟨L.m, 21, none⟩ = some (.int .i64 s1.kind) := hL1 ▸ hH.cells 21 (by omega)
      have m22 : wr.cell? ⟨L.m, 22, none⟩ = some (.int .i64 s1.panics) := hL1 ▸ hH.cells 22 (by omega)
      have m23 : wr.cell? ⟨L.m, 23, none⟩ = some (.slice A s1.out.length c) := by have := hH.cells 23 (by omega); rw [show rcell L1 s1 23 = L1.out from rfl, hA, hL1] at this; exact this
      have m24 : wr.cell? ⟨L.m, 24, none⟩ = some (.int .i64 s1.steps) := hL1 ▸ hH.cells 24 (by omega)
      have hmr : L.m < wr.heap.size := hL1 ▸ hH.hm
      have hb3 : Below wr.heap.size wr (w'.setCell ⟨wr.heap.size, 2, none⟩ (.slice (some ⟨g, 0, none⟩) s1.out.length c')) := hb'.setCell (Nat.le_refl _) _
      have ho3 : (w'.setCell ⟨wr.heap.size, 2, none⟩ (.slice (some ⟨g, 0, none⟩) s1.out.length c')).ownsRow wr.heap.size 5 1 (.slice (some ⟨g, 0, none⟩) s1.out.length c') s1.out.length (nums .u8 s1.out) := own_le (ownsRow_setCell_below ho' (a := ⟨wr.heap.size, 2, none⟩) (Nat.lt_succ_self _) _) (Nat.le_succ _)
      obtain ⟨d0, d1, d2, d3, df⟩ := rres_kept h hN hb3
      have hw0 : w.heap.size < wr.heap.size := by have := hN.far.size; simp only [World.size_alloc] at this; omega
      have e0 := (World.cell?_setCell_other w' ⟨wr.heap.size, 2, none⟩ ⟨w.heap.size, 0, none⟩ (.slice (some ⟨g, 0, none⟩) s1.out.length c') (by intro e; injection e with e; omega)).symm.trans d0
      have e1 := (World.cell?_setCell_other w' ⟨wr.heap.size, 2, none⟩ ⟨w.heap.size, 1, none⟩ (.slice (some ⟨g, 0, none⟩) s1.out.length c') (by intro e; injection e with e; omega)).symm.trans d1
      have e2 := (World.cell?_setCell_other w' ⟨wr.heap.size, 2, none⟩ ⟨w.heap.size, 2, none⟩ (.slice (some ⟨g, 0, none⟩) s1.out.length c') (by intro e; injection e with e; omega)).symm.trans d2
      have e3 := (World.cell?_setCell_other w' ⟨wr.heap.size, 2, none⟩ ⟨w.heap.size, 3, none⟩ (.slice (some ⟨g, 0, none⟩) s1.out.length c') (by intro e; injection e with e; omega)).symm.trans d3
      have ef : ∀ o, w'.frozen? ⟨w.heap.size, o, none⟩ = false := fun o => by have := df o; rw [World.frozen?_setCell] at this; exact this
      have FIN := rres_done h hN hb3 ho3 (.int .i64 s1.kind) (.int .i64 s1.panics) (.slice (some ⟨g, 0, none⟩) s1.out.length c') (.int .i64 s1.steps)
      clear d0 d1 d2 d3 df ho' hb' hb3 ho3
      have HA := Lib.hid hA
      have HE := Lib.hid hE
      have HF := Lib.hid FIN
      clear hE FIN
      clear hA
      go_wp2_with (refine wpList_app (o := ⟨some 32, _, _, _, _, _⟩) rfl (.tmp 26) (.tmp 31) 25 rfl _ _ _ _ rfl rfl happ ?_)
      rw [HE.out]
      exact bodyPost_ret (v := .agg #[.int .i64 s1.kind, .int .i64 s1.panics, .slice (some ⟨g, 0, none⟩) s1.out.length c', .int .i64 s1.steps]) (by simp [results, Try.results24, go_sem, e0, e1, e2, e3, ef, q0, q1, q2, q3, qf]) rfl (by
        obtain ⟨B, r1, r2, r3, r4⟩ := HF.out
        exact ⟨L1, B, r1, ⟨_, rfl, r2⟩, r3, r4⟩)
end Go.Proofs.Ytbchiolgbhckhaa.Mach

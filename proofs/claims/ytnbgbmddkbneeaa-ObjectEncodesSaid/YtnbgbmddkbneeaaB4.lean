/- What makes an object right: names, where a symbol lies, which words a relocation may mend. -/
import Derived.Test.YtnbgbmddkbneeaaB2
import Derived.Test.YtnbgbmddkbneeaaB3
set_option linter.unusedVariables false
set_option linter.unusedSimpArgs false
namespace Go.Proofs.Ytnbgbmddkbneeaa.Obj
open Go.RowKit Go.Proofs.YtnbgbmddkbneeaaW.PrintWords Go.Proofs.YtnbgbmddkbneeaaW.PrintMore Go.Proofs.Ytnbgbmddkbneeaa.PLinkWeak
def nm (s : ByteArray) : Bool := decide (1 ≤ s.size ∧ s.size ≤ 60)
theorem name_any (s : ByteArray) (w : World) : Calls Try.prog 27 #[.string s] w fun e w' => e = .returned (.bool (nm s)) ∧ Drawn0 w w' := by
  refine object_name.calls s (nm s) w ?_
  unfold object_name.f nm
  by_cases h : (s.size : Int) ≥ 1
  · rw [if_pos h]; congr 1; rw [Bool.eq_iff_iff]; simp only [decide_eq_true_eq]; omega
  · rw [if_neg h]; congr 1; symm; rw [decide_eq_false_iff_not]; omega
theorem rname_is (s : ByteArray) : mortiseref15_Name.f s = some (nm s) := by
  unfold mortiseref15_Name.f nm
  by_cases h : (s.size : Int) ≥ 1
  · rw [if_pos h]; congr 1; rw [Bool.eq_iff_iff]; simp only [decide_eq_true_eq]; omega
  · rw [if_neg h]; congr 1; symm; rw [decide_eq_false_iff_not]; omega
theorem rname_any (s : ByteArray) (w : World) : Calls Try.prog 30 #[.string s] w fun e w' => e = .returned (.bool (nm s)) ∧ Drawn0 w w' := mortiseref15_Name.calls s (nm s) w (rname_is s)
theorem ite_dec (p q : Prop) [Decidable p] [Decidable q] : (if p then decide q else false) = decide (p ∧ q) := by by_cases h : p <;> simp [h]
/-- Does a symbol's piece lie in its object? -/
def liesP (s : S51) (c d : Int) : Bool :=
  if s.f1 = 1 then decide (0 ≤ s.f3 ∧ s.f3 ≤ c ∧ 0 ≤ s.f4 ∧ s.f4 ≤ c - s.f3 ∧ 1 ≤ s.f4 ∧ 0 ≤ s.f5 ∧ s.f5 ≤ 262144)
  else decide (0 ≤ s.f3 ∧ s.f3 ≤ d ∧ 0 ≤ s.f4 ∧ s.f4 ≤ d - s.f3 ∧ s.f1 = 2 ∧ s.f5 = 0)
theorem lies_is (s : S51) (o : S27) (h5 : o.f5.length ≤ 9223372036854775807) (h6 : o.f6.length ≤ 9223372036854775807) :
    object_lies.f 9 s.f0 s.f1 s.f2 s.f3 s.f4 s.f5 o.f0 o.f1 o.f2 o.f3 o.f4 o.f5 o.f6 = some (liesP s o.f5.length o.f6.length) := by
  have key : ∀ n : Int, 0 ≤ n → n ≤ 9223372036854775807 → object_lies.j0 9 n s.f0 s.f1 s.f2 s.f3 s.f4 s.f5 = some (if 0 ≤ s.f3 ∧ s.f3 ≤ n ∧ 0 ≤ s.f4 ∧ s.f4 ≤ n - s.f3 then (if s.f1 = 1 then decide (1 ≤ s.f4 ∧ 0 ≤ s.f5 ∧ s.f5 ≤ 262144) else decide (s.f1 = 2 ∧ s.f5 = 0)) else false) := by
    intro n n0 n1
    rw [object_lies.j0]
    simp only [object_lies.j1]
    by_cases c0 : s.f3 < 0
    · rw [if_pos c0, if_pos trivial, if_neg (by omega)]
    rw [if_neg c0]
    by_cases c1 : s.f3 > n
    · rw [if_pos c1, if_pos trivial, if_neg (by omega)]
    rw [if_neg c1]
    by_cases c2 : s.f4 < 0
    · rw [if_pos c2, if_pos trivial, if_neg (by omega)]
    rw [if_neg c2, show wrap64 (n - s.f3) = n - s.f3 by unfold wrap64; omega]
    by_cases c3 : s.f4 > n - s.f3
    · rw [if_pos (decide_eq_true c3), if_neg (by omega)]
    rw [if_neg (by simpa using c3), if_pos (show 0 ≤ s.f3 ∧ s.f3 ≤ n ∧ 0 ≤ s.f4 ∧ s.f4 ≤ n - s.f3 by omega)]
    by_cases c4 : s.f1 = 1
    · rw [if_pos c4, if_pos c4]
      by_cases c5 : s.f4 ≥ 1
      · rw [if_pos c5]
        by_cases c6 : s.f5 ≥ 0
        · rw [if_pos c6]; congr 1; rw [Bool.eq_iff_iff]; simp only [decide_eq_true_eq]; omega
        · rw [if_neg c6]; congr 1; symm; rw [decide_eq_false_iff_not]; omega
      · rw [if_neg c5]; congr 1; symm; rw [decide_eq_false_iff_not]; omega
    · rw [if_neg c4, if_neg c4]
      by_cases c5 : s.f1 = 2
      · rw [if_pos c5]; congr 1; rw [Bool.eq_iff_iff]; simp only [decide_eq_true_eq, beq_iff_eq]; omega
      · rw [if_neg c5]; congr 1; symm; rw [decide_eq_false_iff_not]; omega
  unfold object_lies.f liesP
  by_cases c : s.f1 = 1
  · rw [if_pos c, key _ (by omega) (by omega), if_pos c, if_pos c]
    rw [ite_dec]; exact congrArg some (decide_eq_decide.2 (by omega))
  · rw [if_neg c, key _ (by omega) (by omega), if_neg c, if_neg c]
    rw [ite_dec]; exact congrArg some (decide_eq_decide.2 (by omega))
theorem lies_any (s : S51) (o : S27) {cs : List Value} {w : World} (hK : k27.K w o cs) (h5 : o.f5.length ≤ 9223372036854775807) (h6 : o.f6.length ≤ 9223372036854775807) :
    Calls Try.prog 28 #[.agg #[.string s.f0, .int .i64 s.f1, .bool s.f2, .int .i64 s.f3, .int .i64 s.f4, .int .i64 s.f5], .agg cs.toArray] w fun e w' => e = .returned (.bool (liesP s o.f5.length o.f6.length)) ∧ Below w.heap.size w w' := by
  obtain ⟨A2, c2, A3, c3, A4, c4, A5, c5, A6, c6, rfl, l2, g2, l3, g3, l4, g4, l5, g5, l6, g6⟩ := k27_open hK
  exact object_lies.calls 9 s.f0 s.f1 s.f2 s.f3 s.f4 s.f5 o.f0 o.f1 A2 c2 o.f2 A3 c3 o.f3 A4 c4 o.f4 A5 c5 o.f5 A6 c6 o.f6 _ w g2 l2 g3 l3 g4 l4 g5 l5 g6 l6 (lies_is s o h5 h6)
theorem symbol_is (s : S51) (o : S27) (h5 : o.f5.length ≤ 9223372036854775807) (h6 : o.f6.length ≤ 9223372036854775807) :
    mortiseref28_symbol.f 9 o.f0 o.f1 o.f2 o.f3 o.f4 o.f5 o.f6 s.f0 s.f1 s.f2 s.f3 s.f4 s.f5 = some (nm s.f0 && liesP s o.f5.length o.f6.length) := by
  unfold mortiseref28_symbol.f
  rw [rname_is]
  simp only [Option.bind_some]
  cases hn : nm s.f0
  · simp [mortiseref28_symbol.j0]
  simp only [if_true, Bool.true_and, mortiseref28_symbol.j0]
  unfold liesP
  by_cases c0 : s.f3 < 0
  · rw [if_pos c0]; congr 1; symm; split <;> (rw [decide_eq_false_iff_not]; omega)
  rw [if_neg c0]
  by_cases c1 : s.f4 < 0
  · rw [if_pos c1]; congr 1; symm; split <;> (rw [decide_eq_false_iff_not]; omega)
  rw [if_neg c1]
  by_cases c2 : s.f5 < 0
  · rw [if_pos c2]; congr 1; symm; split <;> (rw [decide_eq_false_iff_not]; omega)
  rw [if_neg c2]
  by_cases c3 : s.f5 > 262144
  · rw [if_pos (decide_eq_true c3)]; congr 1; symm; split <;> (rw [decide_eq_false_iff_not]; omega)
  rw [if_neg (by simpa using c3)]
  by_cases c4 : s.f1 = 1
  · rw [if_pos c4, if_pos c4]
    by_cases c5 : s.f4 ≥ 1
    · rw [if_pos c5]
      by_cases c6 : s.f4 ≤ (o.f5.length : Int)
      · rw [if_pos c6, show wrap64 ((o.f5.length : Int) - s.f4) = (o.f5.length : Int) - s.f4 by unfold wrap64; omega]
        congr 1; rw [Bool.eq_iff_iff]; simp only [decide_eq_true_eq]; omega
      · rw [if_neg c6]; congr 1; symm; rw [decide_eq_false_iff_not]; omega
    · rw [if_neg c5]; congr 1; symm; rw [decide_eq_false_iff_not]; omega
  · rw [if_neg c4, if_neg c4]
    by_cases c5 : s.f1 = 2
    · rw [if_pos c5]
      by_cases c7 : s.f5 = 0
      · rw [if_pos c7]
        by_cases c6 : s.f4 ≤ (o.f6.length : Int)
        · rw [if_pos c6, show wrap64 ((o.f6.length : Int) - s.f4) = (o.f6.length : Int) - s.f4 by unfold wrap64; omega]
          congr 1; rw [Bool.eq_iff_iff]; simp only [decide_eq_true_eq]; omega
        · rw [if_neg c6]; congr 1; symm; rw [decide_eq_false_iff_not]; omega
      · rw [if_neg c7]; congr 1; symm; rw [decide_eq_false_iff_not]; omega
    · rw [if_neg c5]; congr 1; symm; rw [decide_eq_false_iff_not]; omega
theorem symbol_any (s : S51) (o : S27) {cs : List Value} {w : World} (hK : k27.K w o cs) (h5 : o.f5.length ≤ 9223372036854775807) (h6 : o.f6.length ≤ 9223372036854775807) :
    Calls Try.prog 31 #[.agg cs.toArray, .agg #[.string s.f0, .int .i64 s.f1, .bool s.f2, .int .i64 s.f3, .int .i64 s.f4, .int .i64 s.f5]] w fun e w' => e = .returned (.bool (nm s.f0 && liesP s o.f5.length o.f6.length)) ∧ Below w.heap.size w w' := by
  obtain ⟨A2, c2, A3, c3, A4, c4, A5, c5, A6, c6, rfl, l2, g2, l3, g3, l4, g4, l5, g5, l6, g6⟩ := k27_open hK
  exact mortiseref28_symbol.calls 9 o.f0 o.f1 A2 c2 o.f2 A3 c3 o.f3 A4 c4 o.f4 A5 c5 o.f5 A6 c6 o.f6 s.f0 s.f1 s.f2 s.f3 s.f4 s.f5 _ w g2 l2 g3 l3 g4 l4 g5 l5 g6 l6 (symbol_is s o h5 h6)
/-- May a word get a symbol's place? -/
def wordP (v : Int) : Bool := match decI v with | none => false | some x => (match usesOf x.o with | some (_, m) => m | none => false) && x.i == 0
def mendsP (r : S64) (code data : List Int) : Bool :=
  if r.f0 = true then decide (0 ≤ r.f1 ∧ r.f1 < data.length) && rd data r.f1 == 0 else decide (0 ≤ r.f1 ∧ r.f1 < code.length) && wordP (rd code r.f1)
set_option maxHeartbeats 1000000 in
theorem uses_yes (k : Nat) (r : Int) (m : Bool) (h : usesOf k = some (r, m)) (w : World) : Calls Try.prog 57 #[.int .i64 (k : Int)] w fun e w' => e = .returned (.tuple #[.int .i64 r, .bool m, .bool true]) ∧ Below w.heap.size w w' := by
  have H := Lib.hid h
  clear h
  go_enter Try.func57, Try.ntmps57
  go_wp2_with (go_at_call 75; refine (of_ok k r m H.out _).mono ?_; rintro e w' ⟨s, rfl, hb⟩)
  go_quiet (fail)
  go_wp2
  go_ret3
  exact ⟨rfl, pw_below_drewN (((Below.refl _ _).trans hb).alloc hb.size _) _⟩
theorem decI_uses {v : Int} {x : I5} (h : decI v = some x) : ∃ r m, usesOf x.o = some (r, m) := by
  unfold decI at h
  split at h
  · cases h
  · cases hu : usesOf (wOp v) with
    | none => rw [hu] at h; cases h
    | some rm =>
      rw [hu] at h
      dsimp only at h
      split at h
      · cases h; exact ⟨rm.1, rm.2, hu⟩
      · cases h
theorem alloc_below (w : World) (o : Obj) : Below w.heap.size w (w.alloc o) := (Below.refl _ _).alloc (Nat.le_refl _) _
theorem bnext {a b c : World} (h : Below a.heap.size a b) (k : Below b.heap.size b c) : Below a.heap.size a c := h.trans (k.mono h.size)
set_option maxHeartbeats 4000000 in
theorem mends_any (r : S64) (o : S27) {cs : List Value} {w : World} (hK : k27.K w o cs) (h5 : o.f5.length ≤ 9223372036854775807) (h6 : o.f6.length ≤ 9223372036854775807) (hc : ∀ k, -9223372036854775808 ≤ o.f5.getD k 0 ∧ o.f5.getD k 0 ≤ 9223372036854775807) :
    Calls Try.prog 29 #[.agg #[.bool r.f0, .int .i64 r.f1, .string r.f2], .agg cs.toArray] w fun e w' => e = .returned (.bool (mendsP r o.f5 o.f6)) ∧ Below w.heap.size w w' := by
  obtain ⟨A2, c2, A3, c3, A4, c4, A5, c5, A6, c6, rfl, l2, g2, l3, g3, l4, g4, l5, g5, l6, g6⟩ := k27_open hK
  have hb0 : Below w.heap.size w ((w.alloc (.cells #[.bool r.f0, .int .i64 r.f1, .string r.f2] 64)).alloc (.cells #[.string o.f0, .int .i64 o.f1, .slice A2 o.f2.length c2, .slice A3 o.f3.length c3, .slice A4 o.f4.length c4, .slice A5 o.f5.length c5, .slice A6 o.f6.length c6] 27)) := bnext (alloc_below _ _) (alloc_below _ _)
  have g5' := Kd.C_below g5 hb0
  have g6' := Kd.C_below g6 hb0
  clear g2 g3 g4 g5 g6 l2 l3 l4 l5 l6 hK
  obtain ⟨d, a, s⟩ := r
  dsimp only at hb0 g5' g6' ⊢
  generalize o.f5 = code at *
  generalize o.f6 = data at *
  unfold mendsP
  dsimp only
  cases d
  · rw [if_neg Bool.false_ne_true]
    by_cases ha : a < 0
    · rw [decide_eq_false (by omega), Bool.false_and]
      have d0 : decide (a < 0) = true := decide_eq_true ha
      clear g5' g6'
      go_enter Try.func29, Try.ntmps29
      go_wp2
      go_ret
      exact ⟨rfl, hb0⟩
    have d0 : decide (a < 0) = false := decide_eq_false ha
    by_cases hl : (code.length : Int) ≤ a
    · rw [decide_eq_false (by omega), Bool.false_and]
      have d1 : decide ((code.length : Int) ≤ a) = true := decide_eq_true hl
      clear g5' g6'
      go_enter Try.func29, Try.ntmps29
      go_wp2
      go_ret
      exact ⟨rfl, hb0⟩
    have d1 : decide ((code.length : Int) ≤ a) = false := decide_eq_false hl
    rw [decide_eq_true (by omega), Bool.true_and]
    obtain ⟨ad, rfl, hcell⟩ := Kd.at_int g5' a (by omega) (by omega)
    have hv := hc a.toNat
    rw [show code.getD a.toNat 0 = rd code a from rfl] at hv
    generalize rd code a = v at *
    unfold wordP
    have h0 : 0 ≤ a := by omega
    have h1 : a < code.length := by omega
    cases hd : decI v with
    | none =>
      have hdec := fun X => decode_none hv.1 hv.2 hd X
      have huse := fun X => uses_yes 0 0 false rfl X
      clear g5' g6' hd hc
      go_enter Try.func29, Try.ntmps29
      go_wp2_with (first | (go_at_call 56; refine (hdec _).mono ?_; rintro e w1 ⟨rfl, hb1⟩) | (go_at_call 57; refine (huse _).mono ?_; rintro e w2 ⟨rfl, hb2⟩; obtain ⟨k1, k2, k3⟩ := bcell' hb2 (World.size_alloc _ _)))
      go_ret
      exact ⟨rfl, bnext hb0 (bnext hb1 (bnext (alloc_below _ _) hb2))⟩
    | some x =>
      obtain ⟨ru, m, hu⟩ := decI_uses hd
      have hdec := fun X => decode_some hv.1 hv.2 hd X
      have huse := fun X => uses_yes x.o ru m hu X
      dsimp only
      rw [hu]
      dsimp only
      clear g5' g6' hd hc hu
      obtain ⟨xo, xa, xb, xc, xi⟩ := x
      dsimp only at hdec huse ⊢
      cases m
      · rw [Bool.false_and]
        go_enter Try.func29, Try.ntmps29
        go_wp2_with (first | (go_at_call 56; refine (hdec _).mono ?_; rintro e w1 ⟨rfl, hb1⟩) | (go_at_call 57; refine (huse _).mono ?_; rintro e w2 ⟨rfl, hb2⟩; obtain ⟨k1, k2, k3⟩ := bcell' hb2 (World.size_alloc _ _)))
        go_ret
        exact ⟨rfl, bnext hb0 (bnext hb1 (bnext (alloc_below _ _) hb2))⟩
      · rw [Bool.true_and]
        go_enter Try.func29, Try.ntmps29
        go_wp2_with (first | (go_at_call 56; refine (hdec _).mono ?_; rintro e w1 ⟨rfl, hb1⟩) | (go_at_call 57; refine (huse _).mono ?_; rintro e w2 ⟨rfl, hb2⟩; obtain ⟨k1, k2, k3⟩ := bcell' hb2 (World.size_alloc _ _)))
        go_ret
        exact ⟨rfl, bnext hb0 (bnext hb1 (bnext (alloc_below _ _) hb2))⟩
  · rw [if_pos rfl]
    by_cases ha : 0 ≤ a
    · have d0 : decide (0 ≤ a) = true := decide_eq_true ha
      by_cases hl : a < (data.length : Int)
      · have d1 : decide (a < (data.length : Int)) = true := decide_eq_true hl
        rw [decide_eq_true (by omega), Bool.true_and]
        obtain ⟨ad, rfl, hcell⟩ := Kd.at_int g6' a ha hl
        generalize rd data a = v at *
        clear g5' g6' hc
        go_enter Try.func29, Try.ntmps29
        go_wp2
        go_ret
        exact ⟨rfl, hb0⟩
      · have d1 : decide (a < (data.length : Int)) = false := decide_eq_false hl
        rw [decide_eq_false (by omega), Bool.false_and]
        clear g5' g6' hc
        go_enter Try.func29, Try.ntmps29
        go_wp2
        go_ret
        exact ⟨rfl, hb0⟩
    · have d0 : decide (0 ≤ a) = false := decide_eq_false ha
      rw [decide_eq_false (by omega), Bool.false_and]
      clear g5' g6' hc
      go_enter Try.func29, Try.ntmps29
      go_wp2
      go_ret
      exact ⟨rfl, hb0⟩
theorem reloc_is (r : S64) (o : S27) (h5 : o.f5.length ≤ 9223372036854775807) (h6 : o.f6.length ≤ 9223372036854775807) (hc : ∀ k, -9223372036854775808 ≤ o.f5.getD k 0 ∧ o.f5.getD k 0 ≤ 9223372036854775807) :
    mortiseref28_reloc.f 10 o.f0 o.f1 o.f2 o.f3 o.f4 o.f5 o.f6 r.f0 r.f1 r.f2 = some (nm r.f2 && mendsP r o.f5 o.f6) := by
  unfold mortiseref28_reloc.f
  rw [rname_is]
  simp only [Option.bind_some]
  cases hn : nm r.f2
  · simp [mortiseref28_reloc.j0]
  simp only [if_true, Bool.true_and, mortiseref28_reloc.j0]
  unfold mendsP
  by_cases c0 : r.f1 < 0
  · rw [if_pos (decide_eq_true c0)]
    congr 1; symm
    split <;> (rw [decide_eq_false (by omega), Bool.false_and])
  rw [if_neg (by simpa using c0)]
  cases hd : r.f0
  · simp only [Bool.false_eq_true, if_false]
    by_cases c1 : r.f1 ≥ (o.f5.length : Int)
    · rw [if_pos c1, decide_eq_false (by omega), Bool.false_and]
    rw [if_neg c1, if_pos (show 0 ≤ r.f1 by omega), if_pos (show r.f1 < (o.f5.length : Int) by omega), decide_eq_true (by omega), Bool.true_and]
    have hv := hc r.f1.toNat
    rw [show o.f5.getD r.f1.toNat 0 = rd o.f5 r.f1 from rfl] at hv
    generalize rd o.f5 r.f1 = v at *
    rw [r2dec v hv.2]
    simp only [Option.bind_some]
    unfold wordP
    cases he : decI v with
    | none =>
      have := uses_cases 0
      simp only [dec6]
      rcases this with ⟨r, m, _, _, _, e⟩ | ⟨_, e⟩ <;> (rw [show ((0 : Nat) : Int) = 0 from rfl] at e; rw [e]; simp)
    | some x =>
      obtain ⟨ru, m, hu⟩ := decI_uses he
      simp only [dec6]
      rcases uses_cases x.o with ⟨r', m', e1, _, _, e⟩ | ⟨e1, _⟩
      · rw [hu] at e1; cases e1
        rw [e, hu]
        cases m <;> simp
      · rw [hu] at e1; cases e1
  · simp only [if_true]
    by_cases c1 : r.f1 < (o.f6.length : Int)
    · rw [if_pos c1, if_pos (show 0 ≤ r.f1 by omega), decide_eq_true (by omega), Bool.true_and]
    · rw [if_neg c1, decide_eq_false (by omega), Bool.false_and]
theorem reloc_any (r : S64) (o : S27) {cs : List Value} {w : World} (hK : k27.K w o cs) (h5 : o.f5.length ≤ 9223372036854775807) (h6 : o.f6.length ≤ 9223372036854775807) (hc : ∀ k, -9223372036854775808 ≤ o.f5.getD k 0 ∧ o.f5.getD k 0 ≤ 9223372036854775807) :
    Calls Try.prog 32 #[.agg cs.toArray, .agg #[.bool r.f0, .int .i64 r.f1, .string r.f2]] w fun e w' => e = .returned (.bool (nm r.f2 && mendsP r o.f5 o.f6)) ∧ Below w.heap.size w w' := by
  obtain ⟨A2, c2, A3, c3, A4, c4, A5, c5, A6, c6, rfl, l2, g2, l3, g3, l4, g4, l5, g5, l6, g6⟩ := k27_open hK
  exact mortiseref28_reloc.calls 10 o.f0 o.f1 A2 c2 o.f2 A3 c3 o.f3 A4 c4 o.f4 A5 c5 o.f5 A6 c6 o.f6 r.f0 r.f1 r.f2 _ w g2 l2 g3 l3 g4 l4 g5 l5 g6 l6 (reloc_is r o h5 h6 hc)
end Go.Proofs.Ytnbgbmddkbneeaa.Obj

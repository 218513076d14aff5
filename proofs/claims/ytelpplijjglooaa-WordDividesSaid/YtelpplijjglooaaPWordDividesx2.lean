-- PRINTED BY print.sh 35421559b90ae4d0a3588c463048766b98c2df88dd9212a6774a882060cdf62d: not written by this session
import Derived.Test.YtelpplijjglooaaPWordDividesx0
import Derived.Test.YtelpplijjglooaaPWordDividesx1
namespace Go.Proofs.Ytelpplijjglooaa.PWordDivides
open Go.RowKit Go.Proofs.YtelpplijjglooaaW.PrintWords Go.Proofs.YtelpplijjglooaaW.PrintLast Go.Proofs.YtelpplijjglooaaW.PrintMore
attribute [local go_sem] max2_int min2_int max_two min_two max_three min_three max_four min_four   -- for this text's walks alone
set_option linter.unusedVariables false
set_option linter.unusedSimpArgs false

/-! ### mortiselaw1_WordDivides: function 4 -/
def mortiselaw1_WordDivides.j0 : Nat → Int → Int → Bool → Option (Bool)
  | 0, _, _, _ => none
  | k + 1, x1, x7, x68 => if x68 = true then (some false) else (if x1 = (-9223372036854775808) then (some true) else (if x1 < 0 then (if x7 > (wrap64 (-(wrap64 (-x1)))) then (some (decide (x7 < (wrap64 (-x1))))) else (some false)) else (if x7 > (wrap64 (-x1)) then (some (decide (x7 < x1))) else (some false))))
def mortiselaw1_WordDivides.f (k : Nat) (a0 : Int) (a1 : Int) : Option (Bool) := (word_Bin.f k 4 a0 a1).bind fun bt111 => ((word_Bin.f k 5 a0 a1).bind fun bt113 => (if a1 = 0 then (if bt111.1 = 0 then (if bt113.1 = 0 then (if bt111.2 = 3 then (some (bt113.2 == 3)) else (some false)) else (some false)) else (some false)) else (if bt111.2 = 0 then (if bt113.2 = 0 then (if (wrap64 ((wrap64 (bt111.1 * a1)) + bt113.1)) = a0 then (if bt113.1 < 0 then (if a0 > 0 then (mortiselaw1_WordDivides.j0 k a1 bt113.1 true) else (if bt113.1 > 0 then (mortiselaw1_WordDivides.j0 k a1 bt113.1 (decide (a0 < 0))) else (mortiselaw1_WordDivides.j0 k a1 bt113.1 false))) else (if bt113.1 > 0 then (mortiselaw1_WordDivides.j0 k a1 bt113.1 (decide (a0 < 0))) else (mortiselaw1_WordDivides.j0 k a1 bt113.1 false))) else (mortiselaw1_WordDivides.j0 k a1 bt113.1 true)) else (mortiselaw1_WordDivides.j0 k a1 bt113.1 true)) else (mortiselaw1_WordDivides.j0 k a1 bt113.1 true))))
theorem mortiselaw1_WordDivides.mono_l : ∀ k, (∀ y0 y1 y2, LeO (mortiselaw1_WordDivides.j0 k y0 y1 y2) (mortiselaw1_WordDivides.j0 (k + 1) y0 y1 y2))
  | 0 => fun _ _ _ r h => by simp [mortiselaw1_WordDivides.j0] at h
  | k + 1 => by
    have ih0 := mortiselaw1_WordDivides.mono_l k
    · intro y0 y1 y2
      unfold mortiselaw1_WordDivides.j0
      repeat' first
      | (with_reducible exact ih0 _ _ _)
      | (with_reducible exact word_Bin.mono _ _ _ _)
      | (with_reducible exact LeO.refl _)
      | (with_reducible exact LeO.none _)
      | (with_reducible refine LeO.ite ?_ ?_)
      | (with_reducible refine LeO.bind ?_ (fun _ => ?_))
      | exact ih0 _ _ _
      | exact word_Bin.mono _ _ _ _
      | exact LeO.none _
      | refine LeO.ite ?_ ?_
      | refine LeO.bind ?_ (fun _ => ?_)
theorem mortiselaw1_WordDivides.mono : ∀ a0 a1 k, LeO (mortiselaw1_WordDivides.f k a0 a1) (mortiselaw1_WordDivides.f (k + 1) a0 a1) := by
  intro a0 a1 k
  have ih0 := mortiselaw1_WordDivides.mono_l k
  unfold mortiselaw1_WordDivides.f
  repeat' first
      | (with_reducible exact ih0 _ _ _)
      | (with_reducible exact word_Bin.mono _ _ _ _)
      | (with_reducible exact LeO.refl _)
      | (with_reducible exact LeO.none _)
      | (with_reducible refine LeO.ite ?_ ?_)
      | (with_reducible refine LeO.bind ?_ (fun _ => ?_))
      | exact ih0 _ _ _
      | exact word_Bin.mono _ _ _ _
      | exact LeO.none _
      | refine LeO.ite ?_ ?_
      | refine LeO.bind ?_ (fun _ => ?_)
set_option maxHeartbeats 8000000 in
set_option maxRecDepth 100000 in
theorem mortiselaw1_WordDivides.calls (k : Nat) (a0 : Int) (a1 : Int) (r : Bool) (w : World) (h : mortiselaw1_WordDivides.f k a0 a1 = some r) :
    Calls Try.prog 4 #[.int .i64 a0, .int .i64 a1] w fun e w' => e = .returned (.bool r) ∧ Drawn0 w w' := by
  have H : ((word_Bin.f k 4 a0 a1).bind fun bt111 => ((word_Bin.f k 5 a0 a1).bind fun bt113 => (if a1 = 0 then (if bt111.1 = 0 then (if bt113.1 = 0 then (if bt111.2 = 3 then (some (bt113.2 == 3)) else (some false)) else (some false)) else (some false)) else (if bt111.2 = 0 then (if bt113.2 = 0 then (if (wrap64 ((wrap64 (bt111.1 * a1)) + bt113.1)) = a0 then (if bt113.1 < 0 then (if a0 > 0 then (mortiselaw1_WordDivides.j0 k a1 bt113.1 true) else (if bt113.1 > 0 then (mortiselaw1_WordDivides.j0 k a1 bt113.1 (decide (a0 < 0))) else (mortiselaw1_WordDivides.j0 k a1 bt113.1 false))) else (if bt113.1 > 0 then (mortiselaw1_WordDivides.j0 k a1 bt113.1 (decide (a0 < 0))) else (mortiselaw1_WordDivides.j0 k a1 bt113.1 false))) else (mortiselaw1_WordDivides.j0 k a1 bt113.1 true)) else (mortiselaw1_WordDivides.j0 k a1 bt113.1 true)) else (mortiselaw1_WordDivides.j0 k a1 bt113.1 true))))) = some r := h
  clear h
  replace H := Option.bind_eq_some_iff.mp H
  obtain ⟨⟨t111, t112⟩, A30, H⟩ := H
  replace H : ((word_Bin.f k 5 a0 a1).bind fun bt113 => (if a1 = 0 then (if t111 = 0 then (if bt113.1 = 0 then (if t112 = 3 then (some (bt113.2 == 3)) else (some false)) else (some false)) else (some false)) else (if t112 = 0 then (if bt113.2 = 0 then (if (wrap64 ((wrap64 (t111 * a1)) + bt113.1)) = a0 then (if bt113.1 < 0 then (if a0 > 0 then (mortiselaw1_WordDivides.j0 k a1 bt113.1 true) else (if bt113.1 > 0 then (mortiselaw1_WordDivides.j0 k a1 bt113.1 (decide (a0 < 0))) else (mortiselaw1_WordDivides.j0 k a1 bt113.1 false))) else (if bt113.1 > 0 then (mortiselaw1_WordDivides.j0 k a1 bt113.1 (decide (a0 < 0))) else (mortiselaw1_WordDivides.j0 k a1 bt113.1 false))) else (mortiselaw1_WordDivides.j0 k a1 bt113.1 true)) else (mortiselaw1_WordDivides.j0 k a1 bt113.1 true)) else (mortiselaw1_WordDivides.j0 k a1 bt113.1 true)))) = some r := H
  have A3 := Aside0.mk A30
  clear A30
  replace H := Option.bind_eq_some_iff.mp H
  obtain ⟨⟨t113, t114⟩, A40, H⟩ := H
  replace H : (if a1 = 0 then (if t111 = 0 then (if t113 = 0 then (if t112 = 3 then (some (t114 == 3)) else (some false)) else (some false)) else (some false)) else (if t112 = 0 then (if t114 = 0 then (if (wrap64 ((wrap64 (t111 * a1)) + t113)) = a0 then (if t113 < 0 then (if a0 > 0 then (mortiselaw1_WordDivides.j0 k a1 t113 true) else (if t113 > 0 then (mortiselaw1_WordDivides.j0 k a1 t113 (decide (a0 < 0))) else (mortiselaw1_WordDivides.j0 k a1 t113 false))) else (if t113 > 0 then (mortiselaw1_WordDivides.j0 k a1 t113 (decide (a0 < 0))) else (mortiselaw1_WordDivides.j0 k a1 t113 false))) else (mortiselaw1_WordDivides.j0 k a1 t113 true)) else (mortiselaw1_WordDivides.j0 k a1 t113 true)) else (mortiselaw1_WordDivides.j0 k a1 t113 true))) = some r := H
  have A4 := Aside0.mk A40
  clear A40
  by_cases c5 : a1 = 0
  · rw [if_pos c5] at H
    have c5b0 : (a1 == 0) = true := beq_iff_eq.mpr c5
    have c5b1 : (a1 != 0) = false := bne_eq_false_iff_eq.mpr c5
    clear c5
    by_cases c6 : t111 = 0
    · rw [if_pos c6] at H
      have c6b0 : (t111 == 0) = true := beq_iff_eq.mpr c6
      have c6b1 : (t111 != 0) = false := bne_eq_false_iff_eq.mpr c6
      clear c6
      by_cases c7 : t113 = 0
      · rw [if_pos c7] at H
        have c7b0 : (t113 == 0) = true := beq_iff_eq.mpr c7
        have c7b1 : (t113 != 0) = false := bne_eq_false_iff_eq.mpr c7
        clear c7
        by_cases c8 : t112 = 3
        · rw [if_pos c8] at H
          have c8b0 : (t112 == 3) = true := beq_iff_eq.mpr c8
          have c8b1 : (t112 != 3) = false := bne_eq_false_iff_eq.mpr c8
          clear c8
          obtain rfl := Option.some.inj H
          go_enter Try.func4, Try.ntmps4
          go_wp2_with (first | ((with_reducible refine gate_callee (f := 9) rfl ?_); refine goesL_ (some 13) rfl rfl Try.func9 (by kernel_rfl) rfl #[.int .i64 4, .int .i64 a0, .int .i64 a1] rfl (by (try simp only [List.map_toArray, List.map_cons, List.map_nil]); first | done | rfl | (simp only [List.length_drop, List.length_take]; rfl)) ?_; (with_reducible refine (word_Bin.calls k 4 a0 a1 t111 t112 _ A3.out).mono ?_); rintro e w' ⟨rfl, ⟨nd, rfl⟩⟩; refine ⟨_, rfl, ?_⟩) | ((with_reducible refine gate_callee (f := 9) rfl ?_); refine goesL_ (some 19) rfl rfl Try.func9 (by kernel_rfl) rfl #[.int .i64 5, .int .i64 a0, .int .i64 a1] rfl (by (try simp only [List.map_toArray, List.map_cons, List.map_nil]); first | done | rfl | (simp only [List.length_drop, List.length_take]; rfl)) ?_; (with_reducible refine (word_Bin.calls k 5 a0 a1 t113 t114 _ A4.out).mono ?_); rintro e w' ⟨rfl, ⟨nd, rfl⟩⟩; refine ⟨_, rfl, ?_⟩))
          go_ret
          exact ⟨by first | rfl | (simp; done) | (simp [*]; done), by repeat (first | exact Drawn0.refl _ | apply Drawn0.step)⟩
        · rw [if_neg c8] at H
          have c8b0 : (t112 == 3) = false := beq_eq_false_iff_ne.mpr c8
          have c8b1 : (t112 != 3) = true := bne_iff_ne.mpr c8
          obtain rfl := Option.some.inj H
          go_enter Try.func4, Try.ntmps4
          go_wp2_with (first | ((with_reducible refine gate_callee (f := 9) rfl ?_); refine goesL_ (some 13) rfl rfl Try.func9 (by kernel_rfl) rfl #[.int .i64 4, .int .i64 a0, .int .i64 a1] rfl (by (try simp only [List.map_toArray, List.map_cons, List.map_nil]); first | done | rfl | (simp only [List.length_drop, List.length_take]; rfl)) ?_; (with_reducible refine (word_Bin.calls k 4 a0 a1 t111 t112 _ A3.out).mono ?_); rintro e w' ⟨rfl, ⟨nd, rfl⟩⟩; refine ⟨_, rfl, ?_⟩) | ((with_reducible refine gate_callee (f := 9) rfl ?_); refine goesL_ (some 19) rfl rfl Try.func9 (by kernel_rfl) rfl #[.int .i64 5, .int .i64 a0, .int .i64 a1] rfl (by (try simp only [List.map_toArray, List.map_cons, List.map_nil]); first | done | rfl | (simp only [List.length_drop, List.length_take]; rfl)) ?_; (with_reducible refine (word_Bin.calls k 5 a0 a1 t113 t114 _ A4.out).mono ?_); rintro e w' ⟨rfl, ⟨nd, rfl⟩⟩; refine ⟨_, rfl, ?_⟩))
          go_ret
          exact ⟨by first | rfl | (simp; done) | (simp [*]; done), by repeat (first | exact Drawn0.refl _ | apply Drawn0.step)⟩
      · rw [if_neg c7] at H
        have c7b0 : (t113 == 0) = false := beq_eq_false_iff_ne.mpr c7
        have c7b1 : (t113 != 0) = true := bne_iff_ne.mpr c7
        obtain rfl := Option.some.inj H
        go_enter Try.func4, Try.ntmps4
        go_wp2_with (first | ((with_reducible refine gate_callee (f := 9) rfl ?_); refine goesL_ (some 13) rfl rfl Try.func9 (by kernel_rfl) rfl #[.int .i64 4, .int .i64 a0, .int .i64 a1] rfl (by (try simp only [List.map_toArray, List.map_cons, List.map_nil]); first | done | rfl | (simp only [List.length_drop, List.length_take]; rfl)) ?_; (with_reducible refine (word_Bin.calls k 4 a0 a1 t111 t112 _ A3.out).mono ?_); rintro e w' ⟨rfl, ⟨nd, rfl⟩⟩; refine ⟨_, rfl, ?_⟩) | ((with_reducible refine gate_callee (f := 9) rfl ?_); refine goesL_ (some 19) rfl rfl Try.func9 (by kernel_rfl) rfl #[.int .i64 5, .int .i64 a0, .int .i64 a1] rfl (by (try simp only [List.map_toArray, List.map_cons, List.map_nil]); first | done | rfl | (simp only [List.length_drop, List.length_take]; rfl)) ?_; (with_reducible refine (word_Bin.calls k 5 a0 a1 t113 t114 _ A4.out).mono ?_); rintro e w' ⟨rfl, ⟨nd, rfl⟩⟩; refine ⟨_, rfl, ?_⟩))
        go_ret
        exact ⟨by first | rfl | (simp; done) | (simp [*]; done), by repeat (first | exact Drawn0.refl _ | apply Drawn0.step)⟩
    · rw [if_neg c6] at H
      have c6b0 : (t111 == 0) = false := beq_eq_false_iff_ne.mpr c6
      have c6b1 : (t111 != 0) = true := bne_iff_ne.mpr c6
      obtain rfl := Option.some.inj H
      go_enter Try.func4, Try.ntmps4
      go_wp2_with (first | ((with_reducible refine gate_callee (f := 9) rfl ?_); refine goesL_ (some 13) rfl rfl Try.func9 (by kernel_rfl) rfl #[.int .i64 4, .int .i64 a0, .int .i64 a1] rfl (by (try simp only [List.map_toArray, List.map_cons, List.map_nil]); first | done | rfl | (simp only [List.length_drop, List.length_take]; rfl)) ?_; (with_reducible refine (word_Bin.calls k 4 a0 a1 t111 t112 _ A3.out).mono ?_); rintro e w' ⟨rfl, ⟨nd, rfl⟩⟩; refine ⟨_, rfl, ?_⟩) | ((with_reducible refine gate_callee (f := 9) rfl ?_); refine goesL_ (some 19) rfl rfl Try.func9 (by kernel_rfl) rfl #[.int .i64 5, .int .i64 a0, .int .i64 a1] rfl (by (try simp only [List.map_toArray, List.map_cons, List.map_nil]); first | done | rfl | (simp only [List.length_drop, List.length_take]; rfl)) ?_; (with_reducible refine (word_Bin.calls k 5 a0 a1 t113 t114 _ A4.out).mono ?_); rintro e w' ⟨rfl, ⟨nd, rfl⟩⟩; refine ⟨_, rfl, ?_⟩))
      go_ret
      exact ⟨by first | rfl | (simp; done) | (simp [*]; done), by repeat (first | exact Drawn0.refl _ | apply Drawn0.step)⟩
  · rw [if_neg c5] at H
    have c5b0 : (a1 == 0) = false := beq_eq_false_iff_ne.mpr c5
    have c5b1 : (a1 != 0) = true := bne_iff_ne.mpr c5
    have HC9 := Aside0.mk H
    clear H
    go_enter Try.func4, Try.ntmps4
    go_upto_region 5 with (first | ((with_reducible refine gate_callee (f := 9) rfl ?_); refine goesL_ (some 13) rfl rfl Try.func9 (by kernel_rfl) rfl #[.int .i64 4, .int .i64 a0, .int .i64 a1] rfl (by (try simp only [List.map_toArray, List.map_cons, List.map_nil]); first | done | rfl | (simp only [List.length_drop, List.length_take]; rfl)) ?_; (with_reducible refine (word_Bin.calls k 4 a0 a1 t111 t112 _ A3.out).mono ?_); rintro e w' ⟨rfl, ⟨nd, rfl⟩⟩; refine ⟨_, rfl, ?_⟩) | ((with_reducible refine gate_callee (f := 9) rfl ?_); refine goesL_ (some 19) rfl rfl Try.func9 (by kernel_rfl) rfl #[.int .i64 5, .int .i64 a0, .int .i64 a1] rfl (by (try simp only [List.map_toArray, List.map_cons, List.map_nil]); first | done | rfl | (simp only [List.length_drop, List.length_take]; rfl)) ?_; (with_reducible refine (word_Bin.calls k 5 a0 a1 t113 t114 _ A4.out).mono ?_); rintro e w' ⟨rfl, ⟨nd, rfl⟩⟩; refine ⟨_, rfl, ?_⟩))
    (try simp only [Act.put, List.setIfInBounds_toArray, List.set_cons_zero, List.set_cons_succ])
    go_cut [68] (fun v68 wc => ∃ (kq : Nat) (x68_8 : Bool), v68 = .bool x68_8 ∧ Aside0 (mortiselaw1_WordDivides.j0 kq a1 t113 x68_8 = some r) ∧ Aside0 (kq ≤ k) ∧ Drawn0 w wc)
    case first =>
      have H := HC9.out
      clear HC9
      by_cases c10 : t112 = 0
      · rw [if_pos c10] at H
        have c10b0 : (t112 == 0) = true := beq_iff_eq.mpr c10
        have c10b1 : (t112 != 0) = false := bne_eq_false_iff_eq.mpr c10
        clear c10
        (first | rw [c10b0] | (simp only [i64_w, i32_w]; rw [c10b0]) | skip)
        by_cases c11 : t114 = 0
        · rw [if_pos c11] at H
          have c11b0 : (t114 == 0) = true := beq_iff_eq.mpr c11
          have c11b1 : (t114 != 0) = false := bne_eq_false_iff_eq.mpr c11
          clear c11
          by_cases c12 : (wrap64 ((wrap64 (t111 * a1)) + t113)) = a0
          · rw [if_pos c12] at H
            have c12b0 : ((wrap64 ((wrap64 (t111 * a1)) + t113)) == a0) = true := beq_iff_eq.mpr c12
            have c12b1 : ((wrap64 ((wrap64 (t111 * a1)) + t113)) != a0) = false := bne_eq_false_iff_eq.mpr c12
            clear c12
            by_cases c13 : t113 < 0
            · rw [if_pos c13] at H
              have c13b0 : decide (t113 < 0) = true := decide_eq_true c13
              clear c13
              by_cases c14 : a0 > 0
              · rw [if_pos c14] at H
                have c14b0 : decide (0 < a0) = true := decide_eq_true c14
                clear c14
                have H' := Aside0.mk H
                clear H
                go_wp2
                go_meet
                case rel => exact ⟨_, (true), (by first | rfl | (simp; done) | (simp [*]; done)), H', ⟨by first | omega | exact Nat.le_refl _⟩, by repeat (first | exact Drawn0.refl _ | apply Drawn0.step)⟩
              · rw [if_neg c14] at H
                have c14b0 : decide (0 < a0) = false := decide_eq_false c14
                clear c14
                by_cases c15 : t113 > 0
                · rw [if_pos c15] at H
                  have c15b0 : decide (0 < t113) = true := decide_eq_true c15
                  clear c15
                  have H' := Aside0.mk H
                  clear H
                  go_wp2
                  go_meet
                  case rel => exact ⟨_, (decide (a0 < 0)), (by first | rfl | (simp; done) | (simp [*]; done)), H', ⟨by first | omega | exact Nat.le_refl _⟩, by repeat (first | exact Drawn0.refl _ | apply Drawn0.step)⟩
                · rw [if_neg c15] at H
                  have c15b0 : decide (0 < t113) = false := decide_eq_false c15
                  clear c15
                  have H' := Aside0.mk H
                  clear H
                  go_wp2
                  go_meet
                  case rel => exact ⟨_, (false), (by first | rfl | (simp; done) | (simp [*]; done)), H', ⟨by first | omega | exact Nat.le_refl _⟩, by repeat (first | exact Drawn0.refl _ | apply Drawn0.step)⟩
            · rw [if_neg c13] at H
              have c13b0 : decide (t113 < 0) = false := decide_eq_false c13
              clear c13
              by_cases c16 : t113 > 0
              · rw [if_pos c16] at H
                have c16b0 : decide (0 < t113) = true := decide_eq_true c16
                clear c16
                have H' := Aside0.mk H
                clear H
                go_wp2
                go_meet
                case rel => exact ⟨_, (decide (a0 < 0)), (by first | rfl | (simp; done) | (simp [*]; done)), H', ⟨by first | omega | exact Nat.le_refl _⟩, by repeat (first | exact Drawn0.refl _ | apply Drawn0.step)⟩
              · rw [if_neg c16] at H
                have c16b0 : decide (0 < t113) = false := decide_eq_false c16
                clear c16
                have H' := Aside0.mk H
                clear H
                go_wp2
                go_meet
                case rel => exact ⟨_, (false), (by first | rfl | (simp; done) | (simp [*]; done)), H', ⟨by first | omega | exact Nat.le_refl _⟩, by repeat (first | exact Drawn0.refl _ | apply Drawn0.step)⟩
          · rw [if_neg c12] at H
            have c12b0 : ((wrap64 ((wrap64 (t111 * a1)) + t113)) == a0) = false := beq_eq_false_iff_ne.mpr c12
            have c12b1 : ((wrap64 ((wrap64 (t111 * a1)) + t113)) != a0) = true := bne_iff_ne.mpr c12
            have H' := Aside0.mk H
            clear H
            go_wp2
            go_meet
            case rel => exact ⟨_, (true), (by first | rfl | (simp; done) | (simp [*]; done)), H', ⟨by first | omega | exact Nat.le_refl _⟩, by repeat (first | exact Drawn0.refl _ | apply Drawn0.step)⟩
        · rw [if_neg c11] at H
          have c11b0 : (t114 == 0) = false := beq_eq_false_iff_ne.mpr c11
          have c11b1 : (t114 != 0) = true := bne_iff_ne.mpr c11
          have H' := Aside0.mk H
          clear H
          go_wp2
          go_meet
          case rel => exact ⟨_, (true), (by first | rfl | (simp; done) | (simp [*]; done)), H', ⟨by first | omega | exact Nat.le_refl _⟩, by repeat (first | exact Drawn0.refl _ | apply Drawn0.step)⟩
      · rw [if_neg c10] at H
        have c10b0 : (t112 == 0) = false := beq_eq_false_iff_ne.mpr c10
        have c10b1 : (t112 != 0) = true := bne_iff_ne.mpr c10
        (first | rw [c10b0] | (simp only [i64_w, i32_w]; rw [c10b0]) | skip)
        have H' := Aside0.mk H
        clear H
        go_wp2
        go_meet
        case rel => exact ⟨_, (true), (by first | rfl | (simp; done) | (simp [*]; done)), H', ⟨by first | omega | exact Nat.le_refl _⟩, by repeat (first | exact Drawn0.refl _ | apply Drawn0.step)⟩
    case rest =>
      clear HC9
      try clear c1
      try clear p2
      try clear c4
      try clear c5
      try clear c5b0
      try clear c5b1
      try clear c6
      try clear c6b0
      try clear c6b1
      try clear p6
      try clear c7
      try clear c7b0
      try clear c7b1
      try clear c8
      try clear c8b0
      try clear c8b1
      try clear c9
      try clear c10
      try clear c10b0
      try clear c10b1
      try clear c11
      try clear c11b0
      try clear c11b1
      try clear c12
      try clear c12b0
      try clear c12b1
      try clear c13
      try clear c13b0
      try clear c14
      try clear c14b0
      try clear c15
      try clear c15b0
      try clear c16
      try clear c16b0
      obtain ⟨kq, x68_8, rfl, HA, HJ8, ⟨mc8, rfl⟩⟩ := hcut
      cases kq with
      | zero => exact absurd HA.out (by simp [mortiselaw1_WordDivides.j0])
      | succ kj8 =>
        have H := HA.out
        clear HA
        simp only [mortiselaw1_WordDivides.j0] at H
        by_cases c17 : x68_8 = true
        · subst c17
          have H1 : (some false) = some r := by rw [if_pos rfl] at H; exact H
          clear H
          have H := H1
          clear H1
          obtain rfl := Option.some.inj H
          go_wp2
          go_ret
          exact ⟨by first | rfl | (simp; done) | (simp [*]; done), by repeat (first | exact Drawn0.refl _ | apply Drawn0.step)⟩
        · replace c17 := Bool.eq_false_iff.mpr c17
          subst c17
          have H1 : (if a1 = (-9223372036854775808) then (some true) else (if a1 < 0 then (if t113 > (wrap64 (-(wrap64 (-a1)))) then (some (decide (t113 < (wrap64 (-a1))))) else (some false)) else (if t113 > (wrap64 (-a1)) then (some (decide (t113 < a1))) else (some false)))) = some r := by rw [if_neg (show ¬ (false = true) by decide)] at H; exact H
          clear H
          have H := H1
          clear H1
          by_cases c18 : a1 = (-9223372036854775808)
          · rw [if_pos c18] at H
            have c18b0 : (a1 == (-9223372036854775808)) = true := beq_iff_eq.mpr c18
            have c18b1 : (a1 != (-9223372036854775808)) = false := bne_eq_false_iff_eq.mpr c18
            clear c18
            obtain rfl := Option.some.inj H
            go_wp2
            go_ret
            exact ⟨by first | rfl | (simp; done) | (simp [*]; done), by repeat (first | exact Drawn0.refl _ | apply Drawn0.step)⟩
          · rw [if_neg c18] at H
            have c18b0 : (a1 == (-9223372036854775808)) = false := beq_eq_false_iff_ne.mpr c18
            have c18b1 : (a1 != (-9223372036854775808)) = true := bne_iff_ne.mpr c18
            by_cases c19 : a1 < 0
            · rw [if_pos c19] at H
              have c19b0 : decide (a1 < 0) = true := decide_eq_true c19
              clear c19
              by_cases c20 : t113 > (wrap64 (-(wrap64 (-a1))))
              · rw [if_pos c20] at H
                have c20b0 : decide ((wrap64 (-(wrap64 (-a1)))) < t113) = true := decide_eq_true c20
                clear c20
                obtain rfl := Option.some.inj H
                go_wp2
                go_ret
                exact ⟨by first | rfl | (simp; done) | (simp [*]; done), by repeat (first | exact Drawn0.refl _ | apply Drawn0.step)⟩
              · rw [if_neg c20] at H
                have c20b0 : decide ((wrap64 (-(wrap64 (-a1)))) < t113) = false := decide_eq_false c20
                clear c20
                obtain rfl := Option.some.inj H
                go_wp2
                go_ret
                exact ⟨by first | rfl | (simp; done) | (simp [*]; done), by repeat (first | exact Drawn0.refl _ | apply Drawn0.step)⟩
            · rw [if_neg c19] at H
              have c19b0 : decide (a1 < 0) = false := decide_eq_false c19
              clear c19
              by_cases c21 : t113 > (wrap64 (-a1))
              · rw [if_pos c21] at H
                have c21b0 : decide ((wrap64 (-a1)) < t113) = true := decide_eq_true c21
                clear c21
                obtain rfl := Option.some.inj H
                go_wp2
                go_ret
                exact ⟨by first | rfl | (simp; done) | (simp [*]; done), by repeat (first | exact Drawn0.refl _ | apply Drawn0.step)⟩
              · rw [if_neg c21] at H
                have c21b0 : decide ((wrap64 (-a1)) < t113) = false := decide_eq_false c21
                clear c21
                obtain rfl := Option.some.inj H
                go_wp2
                go_ret
                exact ⟨by first | rfl | (simp; done) | (simp [*]; done), by repeat (first | exact Drawn0.refl _ | apply Drawn0.step)⟩

/-- THE ONE PURE STATEMENT of mortiselaw1_WordDivides: yours. -/
def mortiselaw1_WordDivides.Pure : Prop := ∀ (a0 : Int) (a1 : Int), (Lit.int .i64 a0).wf = true → (Lit.int .i64 a1).wf = true → ∃ k, mortiselaw1_WordDivides.f k a0 a1 = some true
theorem mortiselaw1_WordDivides.walk (P : mortiselaw1_WordDivides.Pure) (a0 : Int) (a1 : Int) (w : World) (w0 : (Lit.int .i64 a0).wf = true) (w1 : (Lit.int .i64 a1).wf = true) :
    Calls Try.prog 4 #[.int .i64 a0, .int .i64 a1] w fun e w' => e = .returned (.bool true) ∧ Below w.heap.size w w' := by
  obtain ⟨k, h⟩ := P a0 a1 w0 w1
  refine (mortiselaw1_WordDivides.calls k a0 a1 true w h).mono ?_
  rintro e w' ⟨rfl, hd⟩
  exact ⟨rfl, hd.below⟩

end Go.Proofs.Ytelpplijjglooaa.PWordDivides

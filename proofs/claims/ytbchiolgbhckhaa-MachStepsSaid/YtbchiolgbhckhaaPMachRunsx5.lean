-- PRINTED BY print.sh 35421559b90ae4d0a3588c463048766b98c2df88dd9212a6774a882060cdf62d: not written by this session
import Derived.Test.YtbchiolgbhckhaaPMachRunsx0
import Derived.Test.YtbchiolgbhckhaaPMachRunsx4
namespace Go.Proofs.Ytbchiolgbhckhaa.PMachRuns
open Go.RowKit Go.Proofs.YtbchiolgbhckhaaW.PrintWords Go.Proofs.YtbchiolgbhckhaaW.PrintLast Go.Proofs.YtbchiolgbhckhaaW.PrintMore
attribute [local go_sem] max2_int min2_int max_two min_two max_three min_three max_four min_four   -- for this text's walks alone
set_option linter.unusedVariables false
set_option linter.unusedSimpArgs false

/-! ### mortiseref1_Bin: function 54 -/
def mortiseref1_Bin.j0 : Nat → Int → Int → Int → Int → Bool → Option (Int × Int)
  | 0, _, _, _, _, _ => none
  | k + 1, x0, x1, x2, x8, x24 => if x24 = true then (if x2 = 0 then (some (0, 3)) else (if x2 = (-1) then (if x0 = 4 then (some (wrap64 (-x1), 0)) else (some (0, 0))) else (if x0 = 4 then (some (wrap64 (Int.tdiv x1 x2), 0)) else (some (Int.tmod x1 x2, 0))))) else (if x8 = 6 then (some (Go.bits .and .i64 x1 x2, 0)) else (if x8 = 7 then (some (Go.bits .or .i64 x1 x2, 0)) else (if x8 = 8 then (some (Go.bits .xor .i64 x1 x2, 0)) else (if x8 = 9 then (if 0 ≤ (IntKind.u64.wrap (Go.bits .and .i64 x2 63)) then (some (shl .i64 x1 (IntKind.u64.wrap (Go.bits .and .i64 x2 63)), 0)) else (none)) else (if x8 = 10 then (if 0 ≤ (IntKind.u64.wrap (Go.bits .and .i64 x2 63)) then (some (shr .i64 x1 (IntKind.u64.wrap (Go.bits .and .i64 x2 63)), 0)) else (none)) else (if x8 = 11 then ((mortiseref1_one.f (x1 == x2)).bind fun t157 => (some (t157, 0))) else (if x8 = 12 then ((mortiseref1_one.f (x1 != x2)).bind fun t158 => (some (t158, 0))) else (if x8 = 13 then ((mortiseref1_one.f (decide (x1 < x2))).bind fun t159 => (some (t159, 0))) else (if x8 = 14 then ((mortiseref1_one.f (decide (x1 ≤ x2))).bind fun t160 => (some (t160, 0))) else (if x8 = 15 then ((mortiseref1_one.f (decide (x1 > x2))).bind fun t161 => (some (t161, 0))) else (if x8 = 16 then ((mortiseref1_one.f (decide (x1 ≥ x2))).bind fun t162 => (some (t162, 0))) else (some (0, (-1))))))))))))))
def mortiseref1_Bin.f (k : Nat) (a0 : Int) (a1 : Int) (a2 : Int) : Option (Int × Int) := if a0 = 1 then (some (wrap64 (a1 + a2), 0)) else (if a0 = 2 then (some (wrap64 (a1 - a2), 0)) else (if a0 = 3 then (some (wrap64 (a1 * a2), 0)) else (if a0 = 4 then (mortiseref1_Bin.j0 k a0 a1 a2 a0 (a0 == 4)) else (mortiseref1_Bin.j0 k a0 a1 a2 a0 (a0 == 5)))))
theorem mortiseref1_Bin.mono_l : ∀ k, (∀ y0 y1 y2 y3 y4, LeO (mortiseref1_Bin.j0 k y0 y1 y2 y3 y4) (mortiseref1_Bin.j0 (k + 1) y0 y1 y2 y3 y4))
  | 0 => fun _ _ _ _ _ r h => by simp [mortiseref1_Bin.j0] at h
  | k + 1 => by
    have ih0 := mortiseref1_Bin.mono_l k
    · intro y0 y1 y2 y3 y4
      unfold mortiseref1_Bin.j0
      repeat' first
      | (with_reducible exact ih0 _ _ _ _ _)
      | (with_reducible exact LeO.refl _)
      | (with_reducible exact LeO.none _)
      | (with_reducible refine LeO.ite ?_ ?_)
      | (with_reducible refine LeO.bind ?_ (fun _ => ?_))
      | exact ih0 _ _ _ _ _
      | exact LeO.none _
      | refine LeO.ite ?_ ?_
      | refine LeO.bind ?_ (fun _ => ?_)
theorem mortiseref1_Bin.mono : ∀ a0 a1 a2 k, LeO (mortiseref1_Bin.f k a0 a1 a2) (mortiseref1_Bin.f (k + 1) a0 a1 a2) := by
  intro a0 a1 a2 k
  have ih0 := mortiseref1_Bin.mono_l k
  unfold mortiseref1_Bin.f
  repeat' first
      | (with_reducible exact ih0 _ _ _ _ _)
      | (with_reducible exact LeO.refl _)
      | (with_reducible exact LeO.none _)
      | (with_reducible refine LeO.ite ?_ ?_)
      | (with_reducible refine LeO.bind ?_ (fun _ => ?_))
      | exact ih0 _ _ _ _ _
      | exact LeO.none _
      | refine LeO.ite ?_ ?_
      | refine LeO.bind ?_ (fun _ => ?_)
set_option maxHeartbeats 8000000 in
set_option maxRecDepth 100000 in
theorem mortiseref1_Bin.calls (k : Nat) (a0 : Int) (a1 : Int) (a2 : Int) (r1 : Int) (r2 : Int) (w : World) (h : mortiseref1_Bin.f k a0 a1 a2 = some (r1, r2)) :
    Calls Try.prog 54 #[.int .i64 a0, .int .i64 a1, .int .i64 a2] w fun e w' => e = .returned (.tuple #[.int .i64 r1, .int .i64 r2]) ∧ Drawn0 w w' := by
  have H : (if a0 = 1 then (some (wrap64 (a1 + a2), 0)) else (if a0 = 2 then (some (wrap64 (a1 - a2), 0)) else (if a0 = 3 then (some (wrap64 (a1 * a2), 0)) else (if a0 = 4 then (mortiseref1_Bin.j0 k a0 a1 a2 a0 (a0 == 4)) else (mortiseref1_Bin.j0 k a0 a1 a2 a0 (a0 == 5)))))) = some (r1, r2) := h
  clear h
  by_cases c4 : a0 = 1
  · rw [if_pos c4] at H
    have c4b0 : (a0 == 1) = true := beq_iff_eq.mpr c4
    have c4b1 : (a0 != 1) = false := bne_eq_false_iff_eq.mpr c4
    clear c4
    simp only [Option.some.injEq, Prod.mk.injEq] at H
    obtain ⟨rfl, rfl⟩ := H
    go_enter Try.func54, Try.ntmps54
    go_wp2
    go_ret2
    exact ⟨by first | rfl | (simp; done) | (simp [*]; done), by repeat (first | exact Drawn0.refl _ | apply Drawn0.step)⟩
  · rw [if_neg c4] at H
    have c4b0 : (a0 == 1) = false := beq_eq_false_iff_ne.mpr c4
    have c4b1 : (a0 != 1) = true := bne_iff_ne.mpr c4
    by_cases c5 : a0 = 2
    · rw [if_pos c5] at H
      have c5b0 : (a0 == 2) = true := beq_iff_eq.mpr c5
      have c5b1 : (a0 != 2) = false := bne_eq_false_iff_eq.mpr c5
      clear c5
      simp only [Option.some.injEq, Prod.mk.injEq] at H
      obtain ⟨rfl, rfl⟩ := H
      go_enter Try.func54, Try.ntmps54
      go_wp2
      go_ret2
      exact ⟨by first | rfl | (simp; done) | (simp [*]; done), by repeat (first | exact Drawn0.refl _ | apply Drawn0.step)⟩
    · rw [if_neg c5] at H
      have c5b0 : (a0 == 2) = false := beq_eq_false_iff_ne.mpr c5
      have c5b1 : (a0 != 2) = true := bne_iff_ne.mpr c5
      by_cases c6 : a0 = 3
      · rw [if_pos c6] at H
        have c6b0 : (a0 == 3) = true := beq_iff_eq.mpr c6
        have c6b1 : (a0 != 3) = false := bne_eq_false_iff_eq.mpr c6
        clear c6
        simp only [Option.some.injEq, Prod.mk.injEq] at H
        obtain ⟨rfl, rfl⟩ := H
        go_enter Try.func54, Try.ntmps54
        go_wp2
        go_ret2
        exact ⟨by first | rfl | (simp; done) | (simp [*]; done), by repeat (first | exact Drawn0.refl _ | apply Drawn0.step)⟩
      · rw [if_neg c6] at H
        have c6b0 : (a0 == 3) = false := beq_eq_false_iff_ne.mpr c6
        have c6b1 : (a0 != 3) = true := bne_iff_ne.mpr c6
        have HC7 := Aside0.mk H
        clear H
        go_enter Try.func54, Try.ntmps54
        go_upto_if 24 with (fail)
        go_cut [24] (fun v24 wc => ∃ (kq : Nat) (x24_6 : Bool), v24 = .bool x24_6 ∧ Aside0 (mortiseref1_Bin.j0 kq a0 a1 a2 a0 x24_6 = some (r1, r2)) ∧ Aside0 (kq ≤ k) ∧ Drawn0 w wc)
        case first =>
          have H := HC7.out
          clear HC7
          by_cases c8 : a0 = 4
          · rw [if_pos c8] at H
            have c8b0 : (a0 == 4) = true := beq_iff_eq.mpr c8
            have c8b1 : (a0 != 4) = false := bne_eq_false_iff_eq.mpr c8
            clear c8
            (first | rw [c8b0] | (simp only [i64_w, i32_w]; rw [c8b0]) | skip)
            have H' := Aside0.mk H
            clear H
            go_wp2
            go_meet
            case rel => exact ⟨_, ((a0 == 4)), (by first | rfl | (simp; done) | (simp [*]; done)), H', ⟨by first | omega | exact Nat.le_refl _⟩, by repeat (first | exact Drawn0.refl _ | apply Drawn0.step)⟩
          · rw [if_neg c8] at H
            have c8b0 : (a0 == 4) = false := beq_eq_false_iff_ne.mpr c8
            have c8b1 : (a0 != 4) = true := bne_iff_ne.mpr c8
            (first | rw [c8b0] | (simp only [i64_w, i32_w]; rw [c8b0]) | skip)
            have H' := Aside0.mk H
            clear H
            go_wp2
            go_meet
            case rel => exact ⟨_, ((a0 == 5)), (by first | rfl | (simp; done) | (simp [*]; done)), H', ⟨by first | omega | exact Nat.le_refl _⟩, by repeat (first | exact Drawn0.refl _ | apply Drawn0.step)⟩
        case rest =>
          clear HC7
          try clear p2
          try clear c4
          try clear c4b0
          try clear c4b1
          try clear c5
          try clear c5b0
          try clear c5b1
          try clear c6
          try clear c6b0
          try clear c6b1
          try clear p6
          try clear c8
          try clear c8b0
          try clear c8b1
          obtain ⟨kq, x24_6, rfl, HA, HJ6, ⟨mc6, rfl⟩⟩ := hcut
          cases kq with
          | zero => exact absurd HA.out (by simp [mortiseref1_Bin.j0])
          | succ kj6 =>
            have H := HA.out
            clear HA
            simp only [mortiseref1_Bin.j0] at H
            by_cases c9 : x24_6 = true
            · subst c9
              have H1 : (if a2 = 0 then (some (0, 3)) else (if a2 = (-1) then (if a0 = 4 then (some (wrap64 (-a1), 0)) else (some (0, 0))) else (if a0 = 4 then (some (wrap64 (Int.tdiv a1 a2), 0)) else (some (Int.tmod a1 a2, 0))))) = some (r1, r2) := by rw [if_pos rfl] at H; exact H
              clear H
              have H := H1
              clear H1
              by_cases c10 : a2 = 0
              · rw [if_pos c10] at H
                have c10b0 : (a2 == 0) = true := beq_iff_eq.mpr c10
                have c10b1 : (a2 != 0) = false := bne_eq_false_iff_eq.mpr c10
                clear c10
                simp only [Option.some.injEq, Prod.mk.injEq] at H
                obtain ⟨rfl, rfl⟩ := H
                go_wp2
                go_ret2
                exact ⟨by first | rfl | (simp; done) | (simp [*]; done), by repeat (first | exact Drawn0.refl _ | apply Drawn0.step)⟩
              · rw [if_neg c10] at H
                have c10b0 : (a2 == 0) = false := beq_eq_false_iff_ne.mpr c10
                have c10b1 : (a2 != 0) = true := bne_iff_ne.mpr c10
                by_cases c11 : a2 = (-1)
                · rw [if_pos c11] at H
                  have c11b0 : (a2 == (-1)) = true := beq_iff_eq.mpr c11
                  have c11b1 : (a2 != (-1)) = false := bne_eq_false_iff_eq.mpr c11
                  clear c11
                  by_cases c12 : a0 = 4
                  · rw [if_pos c12] at H
                    have c12b0 : (a0 == 4) = true := beq_iff_eq.mpr c12
                    have c12b1 : (a0 != 4) = false := bne_eq_false_iff_eq.mpr c12
                    clear c12
                    simp only [Option.some.injEq, Prod.mk.injEq] at H
                    obtain ⟨rfl, rfl⟩ := H
                    go_wp2
                    go_ret2
                    exact ⟨by first | rfl | (simp; done) | (simp [*]; done), by repeat (first | exact Drawn0.refl _ | apply Drawn0.step)⟩
                  · rw [if_neg c12] at H
                    have c12b0 : (a0 == 4) = false := beq_eq_false_iff_ne.mpr c12
                    have c12b1 : (a0 != 4) = true := bne_iff_ne.mpr c12
                    simp only [Option.some.injEq, Prod.mk.injEq] at H
                    obtain ⟨rfl, rfl⟩ := H
                    go_wp2
                    go_ret2
                    exact ⟨by first | rfl | (simp; done) | (simp [*]; done), by repeat (first | exact Drawn0.refl _ | apply Drawn0.step)⟩
                · rw [if_neg c11] at H
                  have c11b0 : (a2 == (-1)) = false := beq_eq_false_iff_ne.mpr c11
                  have c11b1 : (a2 != (-1)) = true := bne_iff_ne.mpr c11
                  by_cases c13 : a0 = 4
                  · rw [if_pos c13] at H
                    have c13b0 : (a0 == 4) = true := beq_iff_eq.mpr c13
                    have c13b1 : (a0 != 4) = false := bne_eq_false_iff_eq.mpr c13
                    clear c13
                    simp only [Option.some.injEq, Prod.mk.injEq] at H
                    obtain ⟨rfl, rfl⟩ := H
                    go_wp2
                    go_ret2
                    exact ⟨by first | rfl | (simp; done) | (simp [*]; done), by repeat (first | exact Drawn0.refl _ | apply Drawn0.step)⟩
                  · rw [if_neg c13] at H
                    have c13b0 : (a0 == 4) = false := beq_eq_false_iff_ne.mpr c13
                    have c13b1 : (a0 != 4) = true := bne_iff_ne.mpr c13
                    simp only [Option.some.injEq, Prod.mk.injEq] at H
                    obtain ⟨rfl, rfl⟩ := H
                    go_wp2
                    go_ret2
                    exact ⟨by first | rfl | (simp; done) | (simp [*]; done), by repeat (first | exact Drawn0.refl _ | apply Drawn0.step)⟩
            · replace c9 := Bool.eq_false_iff.mpr c9
              subst c9
              have H1 : (if a0 = 6 then (some (Go.bits .and .i64 a1 a2, 0)) else (if a0 = 7 then (some (Go.bits .or .i64 a1 a2, 0)) else (if a0 = 8 then (some (Go.bits .xor .i64 a1 a2, 0)) else (if a0 = 9 then (if 0 ≤ (IntKind.u64.wrap (Go.bits .and .i64 a2 63)) then (some (shl .i64 a1 (IntKind.u64.wrap (Go.bits .and .i64 a2 63)), 0)) else (none)) else (if a0 = 10 then (if 0 ≤ (IntKind.u64.wrap (Go.bits .and .i64 a2 63)) then (some (shr .i64 a1 (IntKind.u64.wrap (Go.bits .and .i64 a2 63)), 0)) else (none)) else (if a0 = 11 then ((mortiseref1_one.f (a1 == a2)).bind fun t157 => (some (t157, 0))) else (if a0 = 12 then ((mortiseref1_one.f (a1 != a2)).bind fun t158 => (some (t158, 0))) else (if a0 = 13 then ((mortiseref1_one.f (decide (a1 < a2))).bind fun t159 => (some (t159, 0))) else (if a0 = 14 then ((mortiseref1_one.f (decide (a1 ≤ a2))).bind fun t160 => (some (t160, 0))) else (if a0 = 15 then ((mortiseref1_one.f (decide (a1 > a2))).bind fun t161 => (some (t161, 0))) else (if a0 = 16 then ((mortiseref1_one.f (decide (a1 ≥ a2))).bind fun t162 => (some (t162, 0))) else (some (0, (-1)))))))))))))) = some (r1, r2) := by rw [if_neg (show ¬ (false = true) by decide)] at H; exact H
              clear H
              have H := H1
              clear H1
              by_cases c14 : a0 = 6
              · rw [if_pos c14] at H
                have c14b0 : (a0 == 6) = true := beq_iff_eq.mpr c14
                have c14b1 : (a0 != 6) = false := bne_eq_false_iff_eq.mpr c14
                clear c14
                simp only [Option.some.injEq, Prod.mk.injEq] at H
                obtain ⟨rfl, rfl⟩ := H
                go_wp2
                go_ret2
                exact ⟨by first | rfl | (simp; done) | (simp [*]; done), by repeat (first | exact Drawn0.refl _ | apply Drawn0.step)⟩
              · rw [if_neg c14] at H
                have c14b0 : (a0 == 6) = false := beq_eq_false_iff_ne.mpr c14
                have c14b1 : (a0 != 6) = true := bne_iff_ne.mpr c14
                by_cases c15 : a0 = 7
                · rw [if_pos c15] at H
                  have c15b0 : (a0 == 7) = true := beq_iff_eq.mpr c15
                  have c15b1 : (a0 != 7) = false := bne_eq_false_iff_eq.mpr c15
                  clear c15
                  simp only [Option.some.injEq, Prod.mk.injEq] at H
                  obtain ⟨rfl, rfl⟩ := H
                  go_wp2
                  go_ret2
                  exact ⟨by first | rfl | (simp; done) | (simp [*]; done), by repeat (first | exact Drawn0.refl _ | apply Drawn0.step)⟩
                · rw [if_neg c15] at H
                  have c15b0 : (a0 == 7) = false := beq_eq_false_iff_ne.mpr c15
                  have c15b1 : (a0 != 7) = true := bne_iff_ne.mpr c15
                  by_cases c16 : a0 = 8
                  · rw [if_pos c16] at H
                    have c16b0 : (a0 == 8) = true := beq_iff_eq.mpr c16
                    have c16b1 : (a0 != 8) = false := bne_eq_false_iff_eq.mpr c16
                    clear c16
                    simp only [Option.some.injEq, Prod.mk.injEq] at H
                    obtain ⟨rfl, rfl⟩ := H
                    go_wp2
                    go_ret2
                    exact ⟨by first | rfl | (simp; done) | (simp [*]; done), by repeat (first | exact Drawn0.refl _ | apply Drawn0.step)⟩
                  · rw [if_neg c16] at H
                    have c16b0 : (a0 == 8) = false := beq_eq_false_iff_ne.mpr c16
                    have c16b1 : (a0 != 8) = true := bne_iff_ne.mpr c16
                    by_cases c17 : a0 = 9
                    · rw [if_pos c17] at H
                      have c17b0 : (a0 == 9) = true := beq_iff_eq.mpr c17
                      have c17b1 : (a0 != 9) = false := bne_eq_false_iff_eq.mpr c17
                      clear c17
                      obtain ⟨ji18, hji18⟩ : ∃ j_ : Int, (IntKind.u64.wrap (Go.bits .and .i64 a2 63)) = j_ := ⟨_, rfl⟩
                      replace H : (if 0 ≤ (ji18) then (some (shl .i64 a1 (ji18), 0)) else (none)) = some (r1, r2) := by first | (rw [hji18] at H; exact H) | (simp only [hji18] at H ⊢; exact H)
                      by_cases c19 : 0 ≤ (ji18)
                      · rw [if_pos c19] at H
                        have c19b0 := eq_true c19
                        have c19b1 : decide (0 ≤ (ji18)) = true := decide_eq_true c19
                        clear c19
                        obtain ⟨ji20, hji20⟩ : ∃ j_ : Int, (shl .i64 a1 (ji18)) = j_ := ⟨_, rfl⟩
                        replace H : (some (ji20, 0)) = some (r1, r2) := by first | (rw [hji20] at H; exact H) | (simp only [hji20] at H ⊢; exact H)
                        have hji20_ : (IntKind.i64.wrap (a1 * 2 ^ min (ji18).toNat 64)) = ji20 := hji20
                        have hji20z : (ji18) ≤ 64 → (IntKind.i64.wrap (a1 * 2 ^ (ji18).toNat)) = ji20 := shl_small hji20
                        have hji20y : (wrap64 (a1 * 2 ^ min (ji18).toNat 64)) = ji20 := (i64_w _).symm.trans hji20_
                        have hji20x : (ji18) ≤ 64 → (wrap64 (a1 * 2 ^ (ji18).toNat)) = ji20 := fun h_ => (i64_w _).symm.trans (hji20z h_)
                        simp only [Option.some.injEq, Prod.mk.injEq] at H
                        obtain ⟨rfl, rfl⟩ := H
                        go_wp2
                        go_ret2
                        exact ⟨by first | rfl | (simp; done) | (simp only [← hji18, ← hji20] <;> (first | rfl | simp)) | (simp [*]; done), by repeat (first | exact Drawn0.refl _ | apply Drawn0.step)⟩
                      · rw [if_neg c19] at H
                        exact absurd H (by simp)
                    · rw [if_neg c17] at H
                      have c17b0 : (a0 == 9) = false := beq_eq_false_iff_ne.mpr c17
                      have c17b1 : (a0 != 9) = true := bne_iff_ne.mpr c17
                      by_cases c21 : a0 = 10
                      · rw [if_pos c21] at H
                        have c21b0 : (a0 == 10) = true := beq_iff_eq.mpr c21
                        have c21b1 : (a0 != 10) = false := bne_eq_false_iff_eq.mpr c21
                        clear c21
                        obtain ⟨ji22, hji22⟩ : ∃ j_ : Int, (IntKind.u64.wrap (Go.bits .and .i64 a2 63)) = j_ := ⟨_, rfl⟩
                        replace H : (if 0 ≤ (ji22) then (some (shr .i64 a1 (ji22), 0)) else (none)) = some (r1, r2) := by first | (rw [hji22] at H; exact H) | (simp only [hji22] at H ⊢; exact H)
                        by_cases c23 : 0 ≤ (ji22)
                        · rw [if_pos c23] at H
                          have c23b0 := eq_true c23
                          have c23b1 : decide (0 ≤ (ji22)) = true := decide_eq_true c23
                          clear c23
                          obtain ⟨ji24, hji24⟩ : ∃ j_ : Int, (shr .i64 a1 (ji22)) = j_ := ⟨_, rfl⟩
                          replace H : (some (ji24, 0)) = some (r1, r2) := by first | (rw [hji24] at H; exact H) | (simp only [hji24] at H ⊢; exact H)
                          have hji24_ : (a1 / 2 ^ min (ji22).toNat 64) = ji24 := hji24
                          have hji24z : (ji22) ≤ 64 → (a1 / 2 ^ (ji22).toNat) = ji24 := shr_small hji24
                          simp only [Option.some.injEq, Prod.mk.injEq] at H
                          obtain ⟨rfl, rfl⟩ := H
                          go_wp2
                          go_ret2
                          exact ⟨by first | rfl | (simp; done) | (simp only [← hji22, ← hji24] <;> (first | rfl | simp)) | (simp [*]; done), by repeat (first | exact Drawn0.refl _ | apply Drawn0.step)⟩
                        · rw [if_neg c23] at H
                          exact absurd H (by simp)
                      · rw [if_neg c21] at H
                        have c21b0 : (a0 == 10) = false := beq_eq_false_iff_ne.mpr c21
                        have c21b1 : (a0 != 10) = true := bne_iff_ne.mpr c21
                        by_cases c25 : a0 = 11
                        · rw [if_pos c25] at H
                          have c25b0 : (a0 == 11) = true := beq_iff_eq.mpr c25
                          have c25b1 : (a0 != 11) = false := bne_eq_false_iff_eq.mpr c25
                          clear c25
                          replace H := Option.bind_eq_some_iff.mp H
                          obtain ⟨t157, A260, H⟩ := H
                          replace H : (some (t157, 0)) = some (r1, r2) := H
                          have A26 := Aside0.mk A260
                          clear A260
                          simp only [Option.some.injEq, Prod.mk.injEq] at H
                          obtain ⟨rfl, rfl⟩ := H
                          go_wp2_with (first | ((with_reducible refine gate_callee (f := 63) rfl ?_); refine goesL_ (some 77) rfl rfl Try.func63 (by kernel_rfl) rfl #[.bool (a1 == a2)] rfl (by (try simp only [List.map_toArray, List.map_cons, List.map_nil]); first | done | rfl | (simp only [List.length_drop, List.length_take]; rfl)) ?_; (with_reducible refine (mortiseref1_one.calls (a1 == a2) t157 _ A26.out).mono ?_); rintro e w' ⟨rfl, ⟨nd, rfl⟩⟩; refine ⟨_, rfl, ?_⟩))
                          go_ret2
                          exact ⟨by first | rfl | (simp; done) | (simp [*]; done), by repeat (first | exact Drawn0.refl _ | apply Drawn0.step)⟩
                        · rw [if_neg c25] at H
                          have c25b0 : (a0 == 11) = false := beq_eq_false_iff_ne.mpr c25
                          have c25b1 : (a0 != 11) = true := bne_iff_ne.mpr c25
                          by_cases c27 : a0 = 12
                          · rw [if_pos c27] at H
                            have c27b0 : (a0 == 12) = true := beq_iff_eq.mpr c27
                            have c27b1 : (a0 != 12) = false := bne_eq_false_iff_eq.mpr c27
                            clear c27
                            replace H := Option.bind_eq_some_iff.mp H
                            obtain ⟨t158, A280, H⟩ := H
                            replace H : (some (t158, 0)) = some (r1, r2) := H
                            have A28 := Aside0.mk A280
                            clear A280
                            simp only [Option.some.injEq, Prod.mk.injEq] at H
                            obtain ⟨rfl, rfl⟩ := H
                            go_wp2_with (first | ((with_reducible refine gate_callee (f := 63) rfl ?_); refine goesL_ (some 83) rfl rfl Try.func63 (by kernel_rfl) rfl #[.bool (a1 != a2)] rfl (by (try simp only [List.map_toArray, List.map_cons, List.map_nil]); first | done | rfl | (simp only [List.length_drop, List.length_take]; rfl)) ?_; (with_reducible refine (mortiseref1_one.calls (a1 != a2) t158 _ A28.out).mono ?_); rintro e w' ⟨rfl, ⟨nd, rfl⟩⟩; refine ⟨_, rfl, ?_⟩))
                            go_ret2
                            exact ⟨by first | rfl | (simp; done) | (simp [*]; done), by repeat (first | exact Drawn0.refl _ | apply Drawn0.step)⟩
                          · rw [if_neg c27] at H
                            have c27b0 : (a0 == 12) = false := beq_eq_false_iff_ne.mpr c27
                            have c27b1 : (a0 != 12) = true := bne_iff_ne.mpr c27
                            by_cases c29 : a0 = 13
                            · rw [if_pos c29] at H
                              have c29b0 : (a0 == 13) = true := beq_iff_eq.mpr c29
                              have c29b1 : (a0 != 13) = false := bne_eq_false_iff_eq.mpr c29
                              clear c29
                              replace H := Option.bind_eq_some_iff.mp H
                              obtain ⟨t159, A300, H⟩ := H
                              replace H : (some (t159, 0)) = some (r1, r2) := H
                              have A30 := Aside0.mk A300
                              clear A300
                              simp only [Option.some.injEq, Prod.mk.injEq] at H
                              obtain ⟨rfl, rfl⟩ := H
                              go_wp2_with (first | ((with_reducible refine gate_callee (f := 63) rfl ?_); refine goesL_ (some 89) rfl rfl Try.func63 (by kernel_rfl) rfl #[.bool (decide (a1 < a2))] rfl (by (try simp only [List.map_toArray, List.map_cons, List.map_nil]); first | done | rfl | (simp only [List.length_drop, List.length_take]; rfl)) ?_; (with_reducible refine (mortiseref1_one.calls (decide (a1 < a2)) t159 _ A30.out).mono ?_); rintro e w' ⟨rfl, ⟨nd, rfl⟩⟩; refine ⟨_, rfl, ?_⟩))
                              go_ret2
                              exact ⟨by first | rfl | (simp; done) | (simp [*]; done), by repeat (first | exact Drawn0.refl _ | apply Drawn0.step)⟩
                            · rw [if_neg c29] at H
                              have c29b0 : (a0 == 13) = false := beq_eq_false_iff_ne.mpr c29
                              have c29b1 : (a0 != 13) = true := bne_iff_ne.mpr c29
                              by_cases c31 : a0 = 14
                              · rw [if_pos c31] at H
                                have c31b0 : (a0 == 14) = true := beq_iff_eq.mpr c31
                                have c31b1 : (a0 != 14) = false := bne_eq_false_iff_eq.mpr c31
                                clear c31
                                replace H := Option.bind_eq_some_iff.mp H
                                obtain ⟨t160, A320, H⟩ := H
                                replace H : (some (t160, 0)) = some (r1, r2) := H
                                have A32 := Aside0.mk A320
                                clear A320
                                simp only [Option.some.injEq, Prod.mk.injEq] at H
                                obtain ⟨rfl, rfl⟩ := H
                                go_wp2_with (first | ((with_reducible refine gate_callee (f := 63) rfl ?_); refine goesL_ (some 95) rfl rfl Try.func63 (by kernel_rfl) rfl #[.bool (decide (a1 ≤ a2))] rfl (by (try simp only [List.map_toArray, List.map_cons, List.map_nil]); first | done | rfl | (simp only [List.length_drop, List.length_take]; rfl)) ?_; (with_reducible refine (mortiseref1_one.calls (decide (a1 ≤ a2)) t160 _ A32.out).mono ?_); rintro e w' ⟨rfl, ⟨nd, rfl⟩⟩; refine ⟨_, rfl, ?_⟩))
                                go_ret2
                                exact ⟨by first | rfl | (simp; done) | (simp [*]; done), by repeat (first | exact Drawn0.refl _ | apply Drawn0.step)⟩
                              · rw [if_neg c31] at H
                                have c31b0 : (a0 == 14) = false := beq_eq_false_iff_ne.mpr c31
                                have c31b1 : (a0 != 14) = true := bne_iff_ne.mpr c31
                                by_cases c33 : a0 = 15
                                · rw [if_pos c33] at H
                                  have c33b0 : (a0 == 15) = true := beq_iff_eq.mpr c33
                                  have c33b1 : (a0 != 15) = false := bne_eq_false_iff_eq.mpr c33
                                  clear c33
                                  replace H := Option.bind_eq_some_iff.mp H
                                  obtain ⟨t161, A340, H⟩ := H
                                  replace H : (some (t161, 0)) = some (r1, r2) := H
                                  have A34 := Aside0.mk A340
                                  clear A340
                                  simp only [Option.some.injEq, Prod.mk.injEq] at H
                                  obtain ⟨rfl, rfl⟩ := H
                                  go_wp2_with (first | ((with_reducible refine gate_callee (f := 63) rfl ?_); refine goesL_ (some 101) rfl rfl Try.func63 (by kernel_rfl) rfl #[.bool (decide (a1 > a2))] rfl (by (try simp only [List.map_toArray, List.map_cons, List.map_nil]); first | done | rfl | (simp only [List.length_drop, List.length_take]; rfl)) ?_; (with_reducible refine (mortiseref1_one.calls (decide (a1 > a2)) t161 _ A34.out).mono ?_); rintro e w' ⟨rfl, ⟨nd, rfl⟩⟩; refine ⟨_, rfl, ?_⟩))
                                  go_ret2
                                  exact ⟨by first | rfl | (simp; done) | (simp [*]; done), by repeat (first | exact Drawn0.refl _ | apply Drawn0.step)⟩
                                · rw [if_neg c33] at H
                                  have c33b0 : (a0 == 15) = false := beq_eq_false_iff_ne.mpr c33
                                  have c33b1 : (a0 != 15) = true := bne_iff_ne.mpr c33
                                  by_cases c35 : a0 = 16
                                  · rw [if_pos c35] at H
                                    have c35b0 : (a0 == 16) = true := beq_iff_eq.mpr c35
                                    have c35b1 : (a0 != 16) = false := bne_eq_false_iff_eq.mpr c35
                                    clear c35
                                    replace H := Option.bind_eq_some_iff.mp H
                                    obtain ⟨t162, A360, H⟩ := H
                                    replace H : (some (t162, 0)) = some (r1, r2) := H
                                    have A36 := Aside0.mk A360
                                    clear A360
                                    simp only [Option.some.injEq, Prod.mk.injEq] at H
                                    obtain ⟨rfl, rfl⟩ := H
                                    go_wp2_with (first | ((with_reducible refine gate_callee (f := 63) rfl ?_); refine goesL_ (some 107) rfl rfl Try.func63 (by kernel_rfl) rfl #[.bool (decide (a1 ≥ a2))] rfl (by (try simp only [List.map_toArray, List.map_cons, List.map_nil]); first | done | rfl | (simp only [List.length_drop, List.length_take]; rfl)) ?_; (with_reducible refine (mortiseref1_one.calls (decide (a1 ≥ a2)) t162 _ A36.out).mono ?_); rintro e w' ⟨rfl, ⟨nd, rfl⟩⟩; refine ⟨_, rfl, ?_⟩))
                                    go_ret2
                                    exact ⟨by first | rfl | (simp; done) | (simp [*]; done), by repeat (first | exact Drawn0.refl _ | apply Drawn0.step)⟩
                                  · rw [if_neg c35] at H
                                    have c35b0 : (a0 == 16) = false := beq_eq_false_iff_ne.mpr c35
                                    have c35b1 : (a0 != 16) = true := bne_iff_ne.mpr c35
                                    simp only [Option.some.injEq, Prod.mk.injEq] at H
                                    obtain ⟨rfl, rfl⟩ := H
                                    go_wp2
                                    go_ret2
                                    exact ⟨by first | rfl | (simp; done) | (simp [*]; done), by repeat (first | exact Drawn0.refl _ | apply Drawn0.step)⟩

-- NOT PRINTED: function 64 (mortiseref3_Machine_trap)

-- NOT PRINTED: function 65 (mortiseref3_Machine_cell)

-- NOT PRINTED: function 66 (mortiseref3_Machine_calls)

-- NOT PRINTED: function 55 (mortiseref3_Machine_plain)

-- NOT PRINTED: function 18 (mortiseref3_Machine_Step)

-- NOT PRINTED: function 24 (mortiseref3_Machine_Run)

-- NOT PRINTED: function 28 (mortiseref3_Run)

-- NOT PRINTED: function 7 (mortiselaw3_MachRuns)

end Go.Proofs.Ytbchiolgbhckhaa.PMachRuns

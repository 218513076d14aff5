-- PRINTED BY print.sh 35421559b90ae4d0a3588c463048766b98c2df88dd9212a6774a882060cdf62d: not written by this session
import Derived.Test.YtnbgbmddkbneeaaPLinkWeakx0
import Derived.Test.YtnbgbmddkbneeaaPLinkWeakx3
namespace Go.Proofs.Ytnbgbmddkbneeaa.PLinkWeak
open Go.RowKit Go.Proofs.YtnbgbmddkbneeaaW.PrintWords Go.Proofs.YtnbgbmddkbneeaaW.PrintLast Go.Proofs.YtnbgbmddkbneeaaW.PrintMore
attribute [local go_sem] max2_int min2_int max_two min_two max_three min_three max_four min_four   -- for this text's walks alone
set_option linter.unusedVariables false
set_option linter.unusedSimpArgs false

/-! ### mortiseref2_Uses: function 59 -/
mutual
def mortiseref2_Uses.j0 : Nat → Int → Bool → Option (Int × Bool × Bool)
  | 0, _, _ => none
  | k + 1, x8, x9 => if x9 = true then (some (0, false, true)) else (if x8 = 1 then (mortiseref2_Uses.j1 k x8 (x8 == 1)) else (if x8 = 7 then (mortiseref2_Uses.j1 k x8 (x8 == 7)) else (mortiseref2_Uses.j1 k x8 (x8 == 10))))
def mortiseref2_Uses.j1 : Nat → Int → Bool → Option (Int × Bool × Bool)
  | 0, _, _ => none
  | k + 1, x8, x12 => if x12 = true then (some (0, true, true)) else (if x8 = 2 then (some (3, false, true)) else (if x8 = 3 then (mortiseref2_Uses.j2 k x8 (x8 == 3)) else (if x8 = 4 then (mortiseref2_Uses.j2 k x8 (x8 == 4)) else (if x8 = 8 then (mortiseref2_Uses.j2 k x8 (x8 == 8)) else (mortiseref2_Uses.j2 k x8 (x8 == 9))))))
def mortiseref2_Uses.j2 : Nat → Int → Bool → Option (Int × Bool × Bool)
  | 0, _, _ => none
  | k + 1, x8, x18 => if x18 = true then (some (1, true, true)) else (if x8 = 5 then (mortiseref2_Uses.j3 k x8 (x8 == 5)) else (mortiseref2_Uses.j3 k x8 (x8 == 6)))
def mortiseref2_Uses.j3 : Nat → Int → Bool → Option (Int × Bool × Bool)
  | 0, _, _ => none
  | k + 1, x8, x23 => if x23 = true then (some (3, true, true)) else (if x8 = 11 then (mortiseref2_Uses.j4 k x8 (x8 == 11)) else (if x8 = 13 then (mortiseref2_Uses.j4 k x8 (x8 == 13)) else (if x8 = 14 then (mortiseref2_Uses.j4 k x8 (x8 == 14)) else (mortiseref2_Uses.j4 k x8 (x8 == 15)))))
def mortiseref2_Uses.j4 : Nat → Int → Bool → Option (Int × Bool × Bool)
  | 0, _, _ => none
  | k + 1, x8, x26 => if x26 = true then (some (1, false, true)) else (if x8 = 41 then (some (3, false, true)) else (if x8 = 42 then (some (3, false, true)) else (if x8 = 43 then (some (3, false, true)) else (some (7, false, true)))))
end
def mortiseref2_Uses.f (k : Nat) (a0 : Int) : Option (Int × Bool × Bool) := (mortiseref2_Name.f a0).bind fun t105 => (if t105.toList = ([] : List UInt8) then (some (0, false, false)) else (if a0 = 0 then (mortiseref2_Uses.j0 k a0 (a0 == 0)) else (mortiseref2_Uses.j0 k a0 (a0 == 12))))
theorem mortiseref2_Uses.mono_l : ∀ k, (∀ y0 y1, LeO (mortiseref2_Uses.j0 k y0 y1) (mortiseref2_Uses.j0 (k + 1) y0 y1)) ∧ (∀ y0 y1, LeO (mortiseref2_Uses.j1 k y0 y1) (mortiseref2_Uses.j1 (k + 1) y0 y1)) ∧ (∀ y0 y1, LeO (mortiseref2_Uses.j2 k y0 y1) (mortiseref2_Uses.j2 (k + 1) y0 y1)) ∧ (∀ y0 y1, LeO (mortiseref2_Uses.j3 k y0 y1) (mortiseref2_Uses.j3 (k + 1) y0 y1)) ∧ (∀ y0 y1, LeO (mortiseref2_Uses.j4 k y0 y1) (mortiseref2_Uses.j4 (k + 1) y0 y1))
  | 0 => ⟨fun _ _ r h => by simp [mortiseref2_Uses.j0] at h, fun _ _ r h => by simp [mortiseref2_Uses.j1] at h, fun _ _ r h => by simp [mortiseref2_Uses.j2] at h, fun _ _ r h => by simp [mortiseref2_Uses.j3] at h, fun _ _ r h => by simp [mortiseref2_Uses.j4] at h⟩
  | k + 1 => by
    obtain ⟨ih0, ih1, ih2, ih3, ih4⟩ := mortiseref2_Uses.mono_l k
    refine ⟨?_, ?_, ?_, ?_, ?_⟩
    · intro y0 y1
      unfold mortiseref2_Uses.j0
      repeat' first
      | (with_reducible exact ih0 _ _)
      | (with_reducible exact ih1 _ _)
      | (with_reducible exact ih2 _ _)
      | (with_reducible exact ih3 _ _)
      | (with_reducible exact ih4 _ _)
      | (with_reducible exact LeO.refl _)
      | (with_reducible exact LeO.none _)
      | (with_reducible refine LeO.ite ?_ ?_)
      | (with_reducible refine LeO.bind ?_ (fun _ => ?_))
      | exact ih0 _ _
      | exact ih1 _ _
      | exact ih2 _ _
      | exact ih3 _ _
      | exact ih4 _ _
      | exact LeO.none _
      | refine LeO.ite ?_ ?_
      | refine LeO.bind ?_ (fun _ => ?_)
    · intro y0 y1
      unfold mortiseref2_Uses.j1
      repeat' first
      | (with_reducible exact ih0 _ _)
      | (with_reducible exact ih1 _ _)
      | (with_reducible exact ih2 _ _)
      | (with_reducible exact ih3 _ _)
      | (with_reducible exact ih4 _ _)
      | (with_reducible exact LeO.refl _)
      | (with_reducible exact LeO.none _)
      | (with_reducible refine LeO.ite ?_ ?_)
      | (with_reducible refine LeO.bind ?_ (fun _ => ?_))
      | exact ih0 _ _
      | exact ih1 _ _
      | exact ih2 _ _
      | exact ih3 _ _
      | exact ih4 _ _
      | exact LeO.none _
      | refine LeO.ite ?_ ?_
      | refine LeO.bind ?_ (fun _ => ?_)
    · intro y0 y1
      unfold mortiseref2_Uses.j2
      repeat' first
      | (with_reducible exact ih0 _ _)
      | (with_reducible exact ih1 _ _)
      | (with_reducible exact ih2 _ _)
      | (with_reducible exact ih3 _ _)
      | (with_reducible exact ih4 _ _)
      | (with_reducible exact LeO.refl _)
      | (with_reducible exact LeO.none _)
      | (with_reducible refine LeO.ite ?_ ?_)
      | (with_reducible refine LeO.bind ?_ (fun _ => ?_))
      | exact ih0 _ _
      | exact ih1 _ _
      | exact ih2 _ _
      | exact ih3 _ _
      | exact ih4 _ _
      | exact LeO.none _
      | refine LeO.ite ?_ ?_
      | refine LeO.bind ?_ (fun _ => ?_)
    · intro y0 y1
      unfold mortiseref2_Uses.j3
      repeat' first
      | (with_reducible exact ih0 _ _)
      | (with_reducible exact ih1 _ _)
      | (with_reducible exact ih2 _ _)
      | (with_reducible exact ih3 _ _)
      | (with_reducible exact ih4 _ _)
      | (with_reducible exact LeO.refl _)
      | (with_reducible exact LeO.none _)
      | (with_reducible refine LeO.ite ?_ ?_)
      | (with_reducible refine LeO.bind ?_ (fun _ => ?_))
      | exact ih0 _ _
      | exact ih1 _ _
      | exact ih2 _ _
      | exact ih3 _ _
      | exact ih4 _ _
      | exact LeO.none _
      | refine LeO.ite ?_ ?_
      | refine LeO.bind ?_ (fun _ => ?_)
    · intro y0 y1
      unfold mortiseref2_Uses.j4
      repeat' first
      | (with_reducible exact ih0 _ _)
      | (with_reducible exact ih1 _ _)
      | (with_reducible exact ih2 _ _)
      | (with_reducible exact ih3 _ _)
      | (with_reducible exact ih4 _ _)
      | (with_reducible exact LeO.refl _)
      | (with_reducible exact LeO.none _)
      | (with_reducible refine LeO.ite ?_ ?_)
      | (with_reducible refine LeO.bind ?_ (fun _ => ?_))
      | exact ih0 _ _
      | exact ih1 _ _
      | exact ih2 _ _
      | exact ih3 _ _
      | exact ih4 _ _
      | exact LeO.none _
      | refine LeO.ite ?_ ?_
      | refine LeO.bind ?_ (fun _ => ?_)
theorem mortiseref2_Uses.mono : ∀ a0 k, LeO (mortiseref2_Uses.f k a0) (mortiseref2_Uses.f (k + 1) a0) := by
  intro a0 k
  obtain ⟨ih0, ih1, ih2, ih3, ih4⟩ := mortiseref2_Uses.mono_l k
  unfold mortiseref2_Uses.f
  repeat' first
      | (with_reducible exact ih0 _ _)
      | (with_reducible exact ih1 _ _)
      | (with_reducible exact ih2 _ _)
      | (with_reducible exact ih3 _ _)
      | (with_reducible exact ih4 _ _)
      | (with_reducible exact LeO.refl _)
      | (with_reducible exact LeO.none _)
      | (with_reducible refine LeO.ite ?_ ?_)
      | (with_reducible refine LeO.bind ?_ (fun _ => ?_))
      | exact ih0 _ _
      | exact ih1 _ _
      | exact ih2 _ _
      | exact ih3 _ _
      | exact ih4 _ _
      | exact LeO.none _
      | refine LeO.ite ?_ ?_
      | refine LeO.bind ?_ (fun _ => ?_)
set_option maxHeartbeats 8000000 in
set_option maxRecDepth 100000 in
theorem mortiseref2_Uses.calls (k : Nat) (a0 : Int) (r1 : Int) (r2 : Bool) (r3 : Bool) (w : World) (h : mortiseref2_Uses.f k a0 = some (r1, r2, r3)) :
    Calls Try.prog 59 #[.int .i64 a0] w fun e w' => e = .returned (.tuple #[.int .i64 r1, .bool r2, .bool r3]) ∧ Drawn0 w w' := by
  have H : ((mortiseref2_Name.f a0).bind fun t105 => (if t105.toList = ([] : List UInt8) then (some (0, false, false)) else (if a0 = 0 then (mortiseref2_Uses.j0 k a0 (a0 == 0)) else (mortiseref2_Uses.j0 k a0 (a0 == 12))))) = some (r1, r2, r3) := h
  clear h
  replace H := Option.bind_eq_some_iff.mp H
  obtain ⟨t105, A20, H⟩ := H
  replace H : (if t105.toList = ([] : List UInt8) then (some (0, false, false)) else (if a0 = 0 then (mortiseref2_Uses.j0 k a0 (a0 == 0)) else (mortiseref2_Uses.j0 k a0 (a0 == 12)))) = some (r1, r2, r3) := H
  have A2 := Aside0.mk A20
  clear A20
  by_cases c3 : t105.toList = ([] : List UInt8)
  · rw [if_pos c3] at H
    have c3b0 : (t105.toList == ([] : List UInt8)) = true := beq_iff_eq.mpr c3
    have c3b1 : (t105.toList != ([] : List UInt8)) = false := bne_eq_false_iff_eq.mpr c3
    clear c3
    simp only [Option.some.injEq, Prod.mk.injEq] at H
    obtain ⟨rfl, rfl, rfl⟩ := H
    go_enter Try.func59, Try.ntmps59
    go_wp2_with (first | ((with_reducible refine gate_callee (f := 77) rfl ?_); refine goesL_ (some 6) rfl rfl Try.func77 (by kernel_rfl) rfl #[.int .i64 a0] rfl (by (try simp only [List.map_toArray, List.map_cons, List.map_nil]); first | done | rfl | (simp only [List.length_drop, List.length_take]; rfl)) ?_; (with_reducible refine (mortiseref2_Name.calls a0 t105 _ A2.out).mono ?_); rintro e w' ⟨rfl, ⟨nd, rfl⟩⟩; refine ⟨_, rfl, ?_⟩))
    go_ret3
    exact ⟨by first | rfl | (simp; done) | (simp [*]; done), by repeat (first | exact Drawn0.refl _ | apply Drawn0.step)⟩
  · rw [if_neg c3] at H
    have c3b0 : (t105.toList == ([] : List UInt8)) = false := beq_eq_false_iff_ne.mpr c3
    have c3b1 : (t105.toList != ([] : List UInt8)) = true := bne_iff_ne.mpr c3
    have HC4 := Aside0.mk H
    clear H
    go_enter Try.func59, Try.ntmps59
    go_upto_if 9 with (first | ((with_reducible refine gate_callee (f := 77) rfl ?_); refine goesL_ (some 6) rfl rfl Try.func77 (by kernel_rfl) rfl #[.int .i64 a0] rfl (by (try simp only [List.map_toArray, List.map_cons, List.map_nil]); first | done | rfl | (simp only [List.length_drop, List.length_take]; rfl)) ?_; (with_reducible refine (mortiseref2_Name.calls a0 t105 _ A2.out).mono ?_); rintro e w' ⟨rfl, ⟨nd, rfl⟩⟩; refine ⟨_, rfl, ?_⟩))
    (try simp only [Act.put, List.setIfInBounds_toArray, List.set_cons_zero, List.set_cons_succ])
    go_cut [9] (fun v9 wc => ∃ (kq : Nat) (x9_3 : Bool), v9 = .bool x9_3 ∧ Aside0 (mortiseref2_Uses.j0 kq a0 x9_3 = some (r1, r2, r3)) ∧ Aside0 (kq ≤ k) ∧ Drawn0 w wc)
    case first =>
      have H := HC4.out
      clear HC4
      by_cases c5 : a0 = 0
      · rw [if_pos c5] at H
        have c5b0 : (a0 == 0) = true := beq_iff_eq.mpr c5
        have c5b1 : (a0 != 0) = false := bne_eq_false_iff_eq.mpr c5
        clear c5
        (first | rw [c5b0] | (simp only [i64_w, i32_w]; rw [c5b0]) | skip)
        have H' := Aside0.mk H
        clear H
        go_wp2
        go_meet
        case rel => exact ⟨_, ((a0 == 0)), (by first | rfl | (simp; done) | (simp [*]; done)), H', ⟨by first | omega | exact Nat.le_refl _⟩, by repeat (first | exact Drawn0.refl _ | apply Drawn0.step)⟩
      · rw [if_neg c5] at H
        have c5b0 : (a0 == 0) = false := beq_eq_false_iff_ne.mpr c5
        have c5b1 : (a0 != 0) = true := bne_iff_ne.mpr c5
        (first | rw [c5b0] | (simp only [i64_w, i32_w]; rw [c5b0]) | skip)
        have H' := Aside0.mk H
        clear H
        go_wp2
        go_meet
        case rel => exact ⟨_, ((a0 == 12)), (by first | rfl | (simp; done) | (simp [*]; done)), H', ⟨by first | omega | exact Nat.le_refl _⟩, by repeat (first | exact Drawn0.refl _ | apply Drawn0.step)⟩
    case rest =>
      clear HC4
      try clear p2
      try clear c3
      try clear c3b0
      try clear c3b1
      try clear c5
      try clear c5b0
      try clear c5b1
      obtain ⟨kq, x9_3, rfl, HA, HJ3, ⟨mc3, rfl⟩⟩ := hcut
      cases kq with
      | zero => exact absurd HA.out (by simp [mortiseref2_Uses.j0])
      | succ kj3 =>
        have H := HA.out
        clear HA
        simp only [mortiseref2_Uses.j0] at H
        by_cases c6 : x9_3 = true
        · subst c6
          have H1 : (some (0, false, true)) = some (r1, r2, r3) := by rw [if_pos rfl] at H; exact H
          clear H
          have H := H1
          clear H1
          simp only [Option.some.injEq, Prod.mk.injEq] at H
          obtain ⟨rfl, rfl, rfl⟩ := H
          go_wp2
          go_ret3
          exact ⟨by first | rfl | (simp; done) | (simp [*]; done), by repeat (first | exact Drawn0.refl _ | apply Drawn0.step)⟩
        · replace c6 := Bool.eq_false_iff.mpr c6
          subst c6
          have H1 : (if a0 = 1 then (mortiseref2_Uses.j1 kj3 a0 (a0 == 1)) else (if a0 = 7 then (mortiseref2_Uses.j1 kj3 a0 (a0 == 7)) else (mortiseref2_Uses.j1 kj3 a0 (a0 == 10)))) = some (r1, r2, r3) := by rw [if_neg (show ¬ (false = true) by decide)] at H; exact H
          clear H
          have H := H1
          clear H1
          have HC7 := Aside0.mk H
          clear H
          go_upto_if 12 with (fail)
          go_cut [12] (fun v12 wc => ∃ (kq : Nat) (x12_6 : Bool), v12 = .bool x12_6 ∧ Aside0 (mortiseref2_Uses.j1 kq a0 x12_6 = some (r1, r2, r3)) ∧ Aside0 (kq ≤ kj3) ∧ Drawn0 w wc)
          case first =>
            have H := HC7.out
            clear HC7
            by_cases c8 : a0 = 1
            · rw [if_pos c8] at H
              have c8b0 : (a0 == 1) = true := beq_iff_eq.mpr c8
              have c8b1 : (a0 != 1) = false := bne_eq_false_iff_eq.mpr c8
              clear c8
              (first | rw [c8b0] | (simp only [i64_w, i32_w]; rw [c8b0]) | skip)
              have H' := Aside0.mk H
              clear H
              go_wp2
              go_meet
              case rel => exact ⟨_, ((a0 == 1)), (by first | rfl | (simp; done) | (simp [*]; done)), H', ⟨by have := HJ3.out; first | omega | exact Nat.le_refl _⟩, by repeat (first | exact Drawn0.refl _ | apply Drawn0.step)⟩
            · rw [if_neg c8] at H
              have c8b0 : (a0 == 1) = false := beq_eq_false_iff_ne.mpr c8
              have c8b1 : (a0 != 1) = true := bne_iff_ne.mpr c8
              (first | rw [c8b0] | (simp only [i64_w, i32_w]; rw [c8b0]) | skip)
              by_cases c9 : a0 = 7
              · rw [if_pos c9] at H
                have c9b0 : (a0 == 7) = true := beq_iff_eq.mpr c9
                have c9b1 : (a0 != 7) = false := bne_eq_false_iff_eq.mpr c9
                clear c9
                have H' := Aside0.mk H
                clear H
                go_wp2
                go_meet
                case rel => exact ⟨_, ((a0 == 7)), (by first | rfl | (simp; done) | (simp [*]; done)), H', ⟨by have := HJ3.out; first | omega | exact Nat.le_refl _⟩, by repeat (first | exact Drawn0.refl _ | apply Drawn0.step)⟩
              · rw [if_neg c9] at H
                have c9b0 : (a0 == 7) = false := beq_eq_false_iff_ne.mpr c9
                have c9b1 : (a0 != 7) = true := bne_iff_ne.mpr c9
                have H' := Aside0.mk H
                clear H
                go_wp2
                go_meet
                case rel => exact ⟨_, ((a0 == 10)), (by first | rfl | (simp; done) | (simp [*]; done)), H', ⟨by have := HJ3.out; first | omega | exact Nat.le_refl _⟩, by repeat (first | exact Drawn0.refl _ | apply Drawn0.step)⟩
          case rest =>
            clear HC7
            try clear p2
            try clear c3
            try clear c3b0
            try clear c3b1
            try clear c5
            try clear c5b0
            try clear c5b1
            try clear c6
            try clear c7
            try clear c8
            try clear c8b0
            try clear c8b1
            try clear c9
            try clear c9b0
            try clear c9b1
            try clear p2
            obtain ⟨kq, x12_6, rfl, HA, HJ6, ⟨mc6, rfl⟩⟩ := hcut
            cases kq with
            | zero => exact absurd HA.out (by simp [mortiseref2_Uses.j1])
            | succ kj6 =>
              have H := HA.out
              clear HA
              simp only [mortiseref2_Uses.j1] at H
              by_cases c10 : x12_6 = true
              · subst c10
                have H1 : (some (0, true, true)) = some (r1, r2, r3) := by rw [if_pos rfl] at H; exact H
                clear H
                have H := H1
                clear H1
                simp only [Option.some.injEq, Prod.mk.injEq] at H
                obtain ⟨rfl, rfl, rfl⟩ := H
                go_wp2
                go_ret3
                exact ⟨by first | rfl | (simp; done) | (simp [*]; done), by repeat (first | exact Drawn0.refl _ | apply Drawn0.step)⟩
              · replace c10 := Bool.eq_false_iff.mpr c10
                subst c10
                have H1 : (if a0 = 2 then (some (3, false, true)) else (if a0 = 3 then (mortiseref2_Uses.j2 kj6 a0 (a0 == 3)) else (if a0 = 4 then (mortiseref2_Uses.j2 kj6 a0 (a0 == 4)) else (if a0 = 8 then (mortiseref2_Uses.j2 kj6 a0 (a0 == 8)) else (mortiseref2_Uses.j2 kj6 a0 (a0 == 9)))))) = some (r1, r2, r3) := by rw [if_neg (show ¬ (false = true) by decide)] at H; exact H
                clear H
                have H := H1
                clear H1
                by_cases c11 : a0 = 2
                · rw [if_pos c11] at H
                  have c11b0 : (a0 == 2) = true := beq_iff_eq.mpr c11
                  have c11b1 : (a0 != 2) = false := bne_eq_false_iff_eq.mpr c11
                  clear c11
                  simp only [Option.some.injEq, Prod.mk.injEq] at H
                  obtain ⟨rfl, rfl, rfl⟩ := H
                  go_wp2
                  go_ret3
                  exact ⟨by first | rfl | (simp; done) | (simp [*]; done), by repeat (first | exact Drawn0.refl _ | apply Drawn0.step)⟩
                · rw [if_neg c11] at H
                  have c11b0 : (a0 == 2) = false := beq_eq_false_iff_ne.mpr c11
                  have c11b1 : (a0 != 2) = true := bne_iff_ne.mpr c11
                  have HC12 := Aside0.mk H
                  clear H
                  go_upto_if 18 with (fail)
                  go_cut [18] (fun v18 wc => ∃ (kq : Nat) (x18_11 : Bool), v18 = .bool x18_11 ∧ Aside0 (mortiseref2_Uses.j2 kq a0 x18_11 = some (r1, r2, r3)) ∧ Aside0 (kq ≤ kj6) ∧ Drawn0 w wc)
                  case first =>
                    have H := HC12.out
                    clear HC12
                    by_cases c13 : a0 = 3
                    · rw [if_pos c13] at H
                      have c13b0 : (a0 == 3) = true := beq_iff_eq.mpr c13
                      have c13b1 : (a0 != 3) = false := bne_eq_false_iff_eq.mpr c13
                      clear c13
                      (first | rw [c13b0] | (simp only [i64_w, i32_w]; rw [c13b0]) | skip)
                      have H' := Aside0.mk H
                      clear H
                      go_wp2
                      go_meet
                      case rel => exact ⟨_, ((a0 == 3)), (by first | rfl | (simp; done) | (simp [*]; done)), H', ⟨by have := HJ3.out; have := HJ6.out; first | omega | exact Nat.le_refl _⟩, by repeat (first | exact Drawn0.refl _ | apply Drawn0.step)⟩
                    · rw [if_neg c13] at H
                      have c13b0 : (a0 == 3) = false := beq_eq_false_iff_ne.mpr c13
                      have c13b1 : (a0 != 3) = true := bne_iff_ne.mpr c13
                      (first | rw [c13b0] | (simp only [i64_w, i32_w]; rw [c13b0]) | skip)
                      by_cases c14 : a0 = 4
                      · rw [if_pos c14] at H
                        have c14b0 : (a0 == 4) = true := beq_iff_eq.mpr c14
                        have c14b1 : (a0 != 4) = false := bne_eq_false_iff_eq.mpr c14
                        clear c14
                        have H' := Aside0.mk H
                        clear H
                        go_wp2
                        go_meet
                        case rel => exact ⟨_, ((a0 == 4)), (by first | rfl | (simp; done) | (simp [*]; done)), H', ⟨by have := HJ3.out; have := HJ6.out; first | omega | exact Nat.le_refl _⟩, by repeat (first | exact Drawn0.refl _ | apply Drawn0.step)⟩
                      · rw [if_neg c14] at H
                        have c14b0 : (a0 == 4) = false := beq_eq_false_iff_ne.mpr c14
                        have c14b1 : (a0 != 4) = true := bne_iff_ne.mpr c14
                        by_cases c15 : a0 = 8
                        · rw [if_pos c15] at H
                          have c15b0 : (a0 == 8) = true := beq_iff_eq.mpr c15
                          have c15b1 : (a0 != 8) = false := bne_eq_false_iff_eq.mpr c15
                          clear c15
                          have H' := Aside0.mk H
                          clear H
                          go_wp2
                          go_meet
                          case rel => exact ⟨_, ((a0 == 8)), (by first | rfl | (simp; done) | (simp [*]; done)), H', ⟨by have := HJ3.out; have := HJ6.out; first | omega | exact Nat.le_refl _⟩, by repeat (first | exact Drawn0.refl _ | apply Drawn0.step)⟩
                        · rw [if_neg c15] at H
                          have c15b0 : (a0 == 8) = false := beq_eq_false_iff_ne.mpr c15
                          have c15b1 : (a0 != 8) = true := bne_iff_ne.mpr c15
                          have H' := Aside0.mk H
                          clear H
                          go_wp2
                          go_meet
                          case rel => exact ⟨_, ((a0 == 9)), (by first | rfl | (simp; done) | (simp [*]; done)), H', ⟨by have := HJ3.out; have := HJ6.out; first | omega | exact Nat.le_refl _⟩, by repeat (first | exact Drawn0.refl _ | apply Drawn0.step)⟩
                  case rest =>
                    clear HC12
                    try clear c1
                    try clear p2
                    try clear c3
                    try clear c3b0
                    try clear c3b1
                    try clear c5
                    try clear c5b0
                    try clear c5b1
                    try clear c6
                    try clear c7
                    try clear c8
                    try clear c8b0
                    try clear c8b1
                    try clear c9
                    try clear c9b0
                    try clear c9b1
                    try clear c10
                    try clear c11
                    try clear c11b0
                    try clear c11b1
                    try clear c13
                    try clear c13b0
                    try clear c13b1
                    try clear c14
                    try clear c14b0
                    try clear c14b1
                    try clear c15
                    try clear c15b0
                    try clear c15b1
                    try clear p2
                    obtain ⟨kq, x18_11, rfl, HA, HJ11, ⟨mc11, rfl⟩⟩ := hcut
                    cases kq with
                    | zero => exact absurd HA.out (by simp [mortiseref2_Uses.j2])
                    | succ kj11 =>
                      have H := HA.out
                      clear HA
                      simp only [mortiseref2_Uses.j2] at H
                      by_cases c16 : x18_11 = true
                      · subst c16
                        have H1 : (some (1, true, true)) = some (r1, r2, r3) := by rw [if_pos rfl] at H; exact H
                        clear H
                        have H := H1
                        clear H1
                        simp only [Option.some.injEq, Prod.mk.injEq] at H
                        obtain ⟨rfl, rfl, rfl⟩ := H
                        go_wp2
                        go_ret3
                        exact ⟨by first | rfl | (simp; done) | (simp [*]; done), by repeat (first | exact Drawn0.refl _ | apply Drawn0.step)⟩
                      · replace c16 := Bool.eq_false_iff.mpr c16
                        subst c16
                        have H1 : (if a0 = 5 then (mortiseref2_Uses.j3 kj11 a0 (a0 == 5)) else (mortiseref2_Uses.j3 kj11 a0 (a0 == 6))) = some (r1, r2, r3) := by rw [if_neg (show ¬ (false = true) by decide)] at H; exact H
                        clear H
                        have H := H1
                        clear H1
                        have HC17 := Aside0.mk H
                        clear H
                        go_upto_if 23 with (fail)
                        go_cut [23] (fun v23 wc => ∃ (kq : Nat) (x23_16 : Bool), v23 = .bool x23_16 ∧ Aside0 (mortiseref2_Uses.j3 kq a0 x23_16 = some (r1, r2, r3)) ∧ Aside0 (kq ≤ kj11) ∧ Drawn0 w wc)
                        case first =>
                          have H := HC17.out
                          clear HC17
                          by_cases c18 : a0 = 5
                          · rw [if_pos c18] at H
                            have c18b0 : (a0 == 5) = true := beq_iff_eq.mpr c18
                            have c18b1 : (a0 != 5) = false := bne_eq_false_iff_eq.mpr c18
                            clear c18
                            (first | rw [c18b0] | (simp only [i64_w, i32_w]; rw [c18b0]) | skip)
                            have H' := Aside0.mk H
                            clear H
                            go_wp2
                            go_meet
                            case rel => exact ⟨_, ((a0 == 5)), (by first | rfl | (simp; done) | (simp [*]; done)), H', ⟨by have := HJ3.out; have := HJ6.out; have := HJ11.out; first | omega | exact Nat.le_refl _⟩, by repeat (first | exact Drawn0.refl _ | apply Drawn0.step)⟩
                          · rw [if_neg c18] at H
                            have c18b0 : (a0 == 5) = false := beq_eq_false_iff_ne.mpr c18
                            have c18b1 : (a0 != 5) = true := bne_iff_ne.mpr c18
                            (first | rw [c18b0] | (simp only [i64_w, i32_w]; rw [c18b0]) | skip)
                            have H' := Aside0.mk H
                            clear H
                            go_wp2
                            go_meet
                            case rel => exact ⟨_, ((a0 == 6)), (by first | rfl | (simp; done) | (simp [*]; done)), H', ⟨by have := HJ3.out; have := HJ6.out; have := HJ11.out; first | omega | exact Nat.le_refl _⟩, by repeat (first | exact Drawn0.refl _ | apply Drawn0.step)⟩
                        case rest =>
                          clear HC17
                          try clear c1
                          try clear p2
                          try clear c3
                          try clear c3b0
                          try clear c3b1
                          try clear c5
                          try clear c5b0
                          try clear c5b1
                          try clear c6
                          try clear c7
                          try clear c8
                          try clear c8b0
                          try clear c8b1
                          try clear c9
                          try clear c9b0
                          try clear c9b1
                          try clear c10
                          try clear c11
                          try clear c11b0
                          try clear c11b1
                          try clear c13
                          try clear c13b0
                          try clear c13b1
                          try clear c14
                          try clear c14b0
                          try clear c14b1
                          try clear c15
                          try clear c15b0
                          try clear c15b1
                          try clear c16
                          try clear c18
                          try clear c18b0
                          try clear c18b1
                          try clear p2
                          obtain ⟨kq, x23_16, rfl, HA, HJ16, ⟨mc16, rfl⟩⟩ := hcut
                          cases kq with
                          | zero => exact absurd HA.out (by simp [mortiseref2_Uses.j3])
                          | succ kj16 =>
                            have H := HA.out
                            clear HA
                            simp only [mortiseref2_Uses.j3] at H
                            by_cases c19 : x23_16 = true
                            · subst c19
                              have H1 : (some (3, true, true)) = some (r1, r2, r3) := by rw [if_pos rfl] at H; exact H
                              clear H
                              have H := H1
                              clear H1
                              simp only [Option.some.injEq, Prod.mk.injEq] at H
                              obtain ⟨rfl, rfl, rfl⟩ := H
                              go_wp2
                              go_ret3
                              exact ⟨by first | rfl | (simp; done) | (simp [*]; done), by repeat (first | exact Drawn0.refl _ | apply Drawn0.step)⟩
                            · replace c19 := Bool.eq_false_iff.mpr c19
                              subst c19
                              have H1 : (if a0 = 11 then (mortiseref2_Uses.j4 kj16 a0 (a0 == 11)) else (if a0 = 13 then (mortiseref2_Uses.j4 kj16 a0 (a0 == 13)) else (if a0 = 14 then (mortiseref2_Uses.j4 kj16 a0 (a0 == 14)) else (mortiseref2_Uses.j4 kj16 a0 (a0 == 15))))) = some (r1, r2, r3) := by rw [if_neg (show ¬ (false = true) by decide)] at H; exact H
                              clear H
                              have H := H1
                              clear H1
                              have HC20 := Aside0.mk H
                              clear H
                              go_upto_if 26 with (fail)
                              go_cut [26] (fun v26 wc => ∃ (kq : Nat) (x26_19 : Bool), v26 = .bool x26_19 ∧ Aside0 (mortiseref2_Uses.j4 kq a0 x26_19 = some (r1, r2, r3)) ∧ Aside0 (kq ≤ kj16) ∧ Drawn0 w wc)
                              case first =>
                                have H := HC20.out
                                clear HC20
                                by_cases c21 : a0 = 11
                                · rw [if_pos c21] at H
                                  have c21b0 : (a0 == 11) = true := beq_iff_eq.mpr c21
                                  have c21b1 : (a0 != 11) = false := bne_eq_false_iff_eq.mpr c21
                                  clear c21
                                  (first | rw [c21b0] | (simp only [i64_w, i32_w]; rw [c21b0]) | skip)
                                  have H' := Aside0.mk H
                                  clear H
                                  go_wp2
                                  go_meet
                                  case rel => exact ⟨_, ((a0 == 11)), (by first | rfl | (simp; done) | (simp [*]; done)), H', ⟨by have := HJ3.out; have := HJ6.out; have := HJ11.out; have := HJ16.out; first | omega | exact Nat.le_refl _⟩, by repeat (first | exact Drawn0.refl _ | apply Drawn0.step)⟩
                                · rw [if_neg c21] at H
                                  have c21b0 : (a0 == 11) = false := beq_eq_false_iff_ne.mpr c21
                                  have c21b1 : (a0 != 11) = true := bne_iff_ne.mpr c21
                                  (first | rw [c21b0] | (simp only [i64_w, i32_w]; rw [c21b0]) | skip)
                                  by_cases c22 : a0 = 13
                                  · rw [if_pos c22] at H
                                    have c22b0 : (a0 == 13) = true := beq_iff_eq.mpr c22
                                    have c22b1 : (a0 != 13) = false := bne_eq_false_iff_eq.mpr c22
                                    clear c22
                                    have H' := Aside0.mk H
                                    clear H
                                    go_wp2
                                    go_meet
                                    case rel => exact ⟨_, ((a0 == 13)), (by first | rfl | (simp; done) | (simp [*]; done)), H', ⟨by have := HJ3.out; have := HJ6.out; have := HJ11.out; have := HJ16.out; first | omega | exact Nat.le_refl _⟩, by repeat (first | exact Drawn0.refl _ | apply Drawn0.step)⟩
                                  · rw [if_neg c22] at H
                                    have c22b0 : (a0 == 13) = false := beq_eq_false_iff_ne.mpr c22
                                    have c22b1 : (a0 != 13) = true := bne_iff_ne.mpr c22
                                    by_cases c23 : a0 = 14
                                    · rw [if_pos c23] at H
                                      have c23b0 : (a0 == 14) = true := beq_iff_eq.mpr c23
                                      have c23b1 : (a0 != 14) = false := bne_eq_false_iff_eq.mpr c23
                                      clear c23
                                      have H' := Aside0.mk H
                                      clear H
                                      go_wp2
                                      go_meet
                                      case rel => exact ⟨_, ((a0 == 14)), (by first | rfl | (simp; done) | (simp [*]; done)), H', ⟨by have := HJ3.out; have := HJ6.out; have := HJ11.out; have := HJ16.out; first | omega | exact Nat.le_refl _⟩, by repeat (first | exact Drawn0.refl _ | apply Drawn0.step)⟩
                                    · rw [if_neg c23] at H
                                      have c23b0 : (a0 == 14) = false := beq_eq_false_iff_ne.mpr c23
                                      have c23b1 : (a0 != 14) = true := bne_iff_ne.mpr c23
                                      have H' := Aside0.mk H
                                      clear H
                                      go_wp2
                                      go_meet
                                      case rel => exact ⟨_, ((a0 == 15)), (by first | rfl | (simp; done) | (simp [*]; done)), H', ⟨by have := HJ3.out; have := HJ6.out; have := HJ11.out; have := HJ16.out; first | omega | exact Nat.le_refl _⟩, by repeat (first | exact Drawn0.refl _ | apply Drawn0.step)⟩
                              case rest =>
                                clear HC20
                                try clear c1
                                try clear c2
                                try clear p2
                                try clear c3
                                try clear c3b0
                                try clear c3b1
                                try clear c5
                                try clear c5b0
                                try clear c5b1
                                try clear c6
                                try clear c7
                                try clear c8
                                try clear c8b0
                                try clear c8b1
                                try clear c9
                                try clear c9b0
                                try clear c9b1
                                try clear c10
                                try clear c11
                                try clear c11b0
                                try clear c11b1
                                try clear c13
                                try clear c13b0
                                try clear c13b1
                                try clear c14
                                try clear c14b0
                                try clear c14b1
                                try clear c15
                                try clear c15b0
                                try clear c15b1
                                try clear c16
                                try clear c18
                                try clear c18b0
                                try clear c18b1
                                try clear c19
                                try clear c21
                                try clear c21b0
                                try clear c21b1
                                try clear c22
                                try clear c22b0
                                try clear c22b1
                                try clear c23
                                try clear c23b0
                                try clear c23b1
                                try clear p2
                                obtain ⟨kq, x26_19, rfl, HA, HJ19, ⟨mc19, rfl⟩⟩ := hcut
                                cases kq with
                                | zero => exact absurd HA.out (by simp [mortiseref2_Uses.j4])
                                | succ kj19 =>
                                  have H := HA.out
                                  clear HA
                                  simp only [mortiseref2_Uses.j4] at H
                                  by_cases c24 : x26_19 = true
                                  · subst c24
                                    have H1 : (some (1, false, true)) = some (r1, r2, r3) := by rw [if_pos rfl] at H; exact H
                                    clear H
                                    have H := H1
                                    clear H1
                                    simp only [Option.some.injEq, Prod.mk.injEq] at H
                                    obtain ⟨rfl, rfl, rfl⟩ := H
                                    go_wp2
                                    go_ret3
                                    exact ⟨by first | rfl | (simp; done) | (simp [*]; done), by repeat (first | exact Drawn0.refl _ | apply Drawn0.step)⟩
                                  · replace c24 := Bool.eq_false_iff.mpr c24
                                    subst c24
                                    have H1 : (if a0 = 41 then (some (3, false, true)) else (if a0 = 42 then (some (3, false, true)) else (if a0 = 43 then (some (3, false, true)) else (some (7, false, true))))) = some (r1, r2, r3) := by rw [if_neg (show ¬ (false = true) by decide)] at H; exact H
                                    clear H
                                    have H := H1
                                    clear H1
                                    by_cases c25 : a0 = 41
                                    · rw [if_pos c25] at H
                                      have c25b0 : (a0 == 41) = true := beq_iff_eq.mpr c25
                                      have c25b1 : (a0 != 41) = false := bne_eq_false_iff_eq.mpr c25
                                      clear c25
                                      simp only [Option.some.injEq, Prod.mk.injEq] at H
                                      obtain ⟨rfl, rfl, rfl⟩ := H
                                      go_wp2
                                      go_ret3
                                      exact ⟨by first | rfl | (simp; done) | (simp [*]; done), by repeat (first | exact Drawn0.refl _ | apply Drawn0.step)⟩
                                    · rw [if_neg c25] at H
                                      have c25b0 : (a0 == 41) = false := beq_eq_false_iff_ne.mpr c25
                                      have c25b1 : (a0 != 41) = true := bne_iff_ne.mpr c25
                                      by_cases c26 : a0 = 42
                                      · rw [if_pos c26] at H
                                        have c26b0 : (a0 == 42) = true := beq_iff_eq.mpr c26
                                        have c26b1 : (a0 != 42) = false := bne_eq_false_iff_eq.mpr c26
                                        clear c26
                                        simp only [Option.some.injEq, Prod.mk.injEq] at H
                                        obtain ⟨rfl, rfl, rfl⟩ := H
                                        go_wp2
                                        go_ret3
                                        exact ⟨by first | rfl | (simp; done) | (simp [*]; done), by repeat (first | exact Drawn0.refl _ | apply Drawn0.step)⟩
                                      · rw [if_neg c26] at H
                                        have c26b0 : (a0 == 42) = false := beq_eq_false_iff_ne.mpr c26
                                        have c26b1 : (a0 != 42) = true := bne_iff_ne.mpr c26
                                        by_cases c27 : a0 = 43
                                        · rw [if_pos c27] at H
                                          have c27b0 : (a0 == 43) = true := beq_iff_eq.mpr c27
                                          have c27b1 : (a0 != 43) = false := bne_eq_false_iff_eq.mpr c27
                                          clear c27
                                          simp only [Option.some.injEq, Prod.mk.injEq] at H
                                          obtain ⟨rfl, rfl, rfl⟩ := H
                                          go_wp2
                                          go_ret3
                                          exact ⟨by first | rfl | (simp; done) | (simp [*]; done), by repeat (first | exact Drawn0.refl _ | apply Drawn0.step)⟩
                                        · rw [if_neg c27] at H
                                          have c27b0 : (a0 == 43) = false := beq_eq_false_iff_ne.mpr c27
                                          have c27b1 : (a0 != 43) = true := bne_iff_ne.mpr c27
                                          simp only [Option.some.injEq, Prod.mk.injEq] at H
                                          obtain ⟨rfl, rfl, rfl⟩ := H
                                          go_wp2
                                          go_ret3
                                          exact ⟨by first | rfl | (simp; done) | (simp [*]; done), by repeat (first | exact Drawn0.refl _ | apply Drawn0.step)⟩

/-! ### mortiseref2_reg: function 80 -/
def mortiseref2_reg.f (a0 : Bool) (a1 : Int) : Option (Bool) := if a0 = true then (if a1 ≥ 0 then (if a1 ≤ 15 then (some true) else (some false)) else (some false)) else (some (a1 == 0))
set_option maxHeartbeats 8000000 in
set_option maxRecDepth 100000 in
theorem mortiseref2_reg.calls (a0 : Bool) (a1 : Int) (r : Bool) (w : World) (h : mortiseref2_reg.f a0 a1 = some r) :
    Calls Try.prog 80 #[.bool a0, .int .i64 a1] w fun e w' => e = .returned (.bool r) ∧ Drawn0 w w' := by
  have H : (if a0 = true then (if a1 ≥ 0 then (if a1 ≤ 15 then (some true) else (some false)) else (some false)) else (some (a1 == 0))) = some r := h
  clear h
  by_cases c3 : a0 = true
  · subst c3
    have H1 : (if a1 ≥ 0 then (if a1 ≤ 15 then (some true) else (some false)) else (some false)) = some r := by rw [if_pos rfl] at H; exact H
    clear H
    have H := H1
    clear H1
    by_cases c4 : a1 ≥ 0
    · rw [if_pos c4] at H
      have c4b0 : decide (0 ≤ a1) = true := decide_eq_true c4
      clear c4
      by_cases c5 : a1 ≤ 15
      · rw [if_pos c5] at H
        have c5b0 : decide (a1 ≤ 15) = true := decide_eq_true c5
        clear c5
        obtain rfl := Option.some.inj H
        go_enter Try.func80, Try.ntmps80
        go_wp2
        go_ret
        exact ⟨by first | rfl | (simp; done) | (simp [*]; done), by repeat (first | exact Drawn0.refl _ | apply Drawn0.step)⟩
      · rw [if_neg c5] at H
        have c5b0 : decide (a1 ≤ 15) = false := decide_eq_false c5
        clear c5
        obtain rfl := Option.some.inj H
        go_enter Try.func80, Try.ntmps80
        go_wp2
        go_ret
        exact ⟨by first | rfl | (simp; done) | (simp [*]; done), by repeat (first | exact Drawn0.refl _ | apply Drawn0.step)⟩
    · rw [if_neg c4] at H
      have c4b0 : decide (0 ≤ a1) = false := decide_eq_false c4
      clear c4
      obtain rfl := Option.some.inj H
      go_enter Try.func80, Try.ntmps80
      go_wp2
      go_ret
      exact ⟨by first | rfl | (simp; done) | (simp [*]; done), by repeat (first | exact Drawn0.refl _ | apply Drawn0.step)⟩
  · replace c3 := Bool.eq_false_iff.mpr c3
    subst c3
    have H1 : (some (a1 == 0)) = some r := by rw [if_neg (show ¬ (false = true) by decide)] at H; exact H
    clear H
    have H := H1
    clear H1
    obtain rfl := Option.some.inj H
    go_enter Try.func80, Try.ntmps80
    go_wp2
    go_ret
    exact ⟨by first | rfl | (simp; done) | (simp [*]; done), by repeat (first | exact Drawn0.refl _ | apply Drawn0.step)⟩

end Go.Proofs.Ytnbgbmddkbneeaa.PLinkWeak

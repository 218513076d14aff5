-- PRINTED BY print.sh 35421559b90ae4d0a3588c463048766b98c2df88dd9212a6774a882060cdf62d: not written by this session
import Derived.Test.YtnbgbmddkbneeaaPLinkWeakx0
namespace Go.Proofs.Ytnbgbmddkbneeaa.PLinkWeak
open Go.RowKit Go.Proofs.YtnbgbmddkbneeaaW.PrintWords Go.Proofs.YtnbgbmddkbneeaaW.PrintLast Go.Proofs.YtnbgbmddkbneeaaW.PrintMore
attribute [local go_sem] max2_int min2_int max_two min_two max_three min_three max_four min_four   -- for this text's walks alone
set_option linter.unusedVariables false
set_option linter.unusedSimpArgs false

/-! ### mortiseref15_Name: function 30 -/
def mortiseref15_Name.f (a0 : ByteArray) : Option (Bool) := if (a0.size : Int) ≥ 1 then (some (decide ((a0.size : Int) ≤ 60))) else (some false)
set_option maxHeartbeats 8000000 in
set_option maxRecDepth 100000 in
theorem mortiseref15_Name.calls (a0 : ByteArray) (r : Bool) (w : World) (h : mortiseref15_Name.f a0 = some r) :
    Calls Try.prog 30 #[.string a0] w fun e w' => e = .returned (.bool r) ∧ Drawn0 w w' := by
  have H : (if (a0.size : Int) ≥ 1 then (some (decide ((a0.size : Int) ≤ 60))) else (some false)) = some r := h
  clear h
  by_cases c2 : (a0.size : Int) ≥ 1
  · rw [if_pos c2] at H
    have c2b0 : decide (1 ≤ (a0.size : Int)) = true := decide_eq_true c2
    have c2b1 : decide (1 ≤ a0.size) = true := decide_eq_true (by omega)
    clear c2
    obtain rfl := Option.some.inj H
    go_enter Try.func30, Try.ntmps30
    go_wp2
    go_ret
    exact ⟨by first | rfl | (simp; done) | (simp [*]; done), by repeat (first | exact Drawn0.refl _ | apply Drawn0.step)⟩
  · rw [if_neg c2] at H
    have c2b0 : decide (1 ≤ (a0.size : Int)) = false := decide_eq_false c2
    have c2b1 : decide (1 ≤ a0.size) = false := decide_eq_false (by omega)
    clear c2
    obtain rfl := Option.some.inj H
    go_enter Try.func30, Try.ntmps30
    go_wp2
    go_ret
    exact ⟨by first | rfl | (simp; done) | (simp [*]; done), by repeat (first | exact Drawn0.refl _ | apply Drawn0.step)⟩

/-! ### mortiseref28_symbol: function 31 -/
def mortiseref28_symbol.j0 : Nat → Bool → ByteArray → Int → List (S44) → List (S51) → List (S64) → List Int → List Int → ByteArray → Int → Bool → Int → Int → Int → Option (Bool)
  | 0, _, _, _, _, _, _, _, _, _, _, _, _, _, _ => none
  | k + 1, x28, x102000, x102001, x102002, x102003, x102004, x102005, x102006, x103000, x103001, x103002, x103003, x103004, x103005 => if x28 = true then (some false) else (if x103001 = 1 then (if x103004 ≥ 1 then (if x103004 ≤ (x102005.length : Int) then (some (decide (x103003 ≤ (wrap64 ((x102005.length : Int) - x103004))))) else (some false)) else (some false)) else (if x103001 = 2 then (if x103005 = 0 then (if x103004 ≤ (x102006.length : Int) then (some (decide (x103003 ≤ (wrap64 ((x102006.length : Int) - x103004))))) else (some false)) else (some false)) else (some false)))
def mortiseref28_symbol.f (k : Nat) (a0_0 : ByteArray) (a0_1 : Int) (l0_2 : List (S44)) (l0_3 : List (S51)) (l0_4 : List (S64)) (l0_5 : List Int) (l0_6 : List Int) (a1_0 : ByteArray) (a1_1 : Int) (a1_2 : Bool) (a1_3 : Int) (a1_4 : Int) (a1_5 : Int) : Option (Bool) := (mortiseref15_Name.f a1_0).bind fun t103 => (if t103 = true then (if a1_3 < 0 then (mortiseref28_symbol.j0 k true a0_0 a0_1 l0_2 l0_3 l0_4 l0_5 l0_6 a1_0 a1_1 a1_2 a1_3 a1_4 a1_5) else (if a1_4 < 0 then (mortiseref28_symbol.j0 k true a0_0 a0_1 l0_2 l0_3 l0_4 l0_5 l0_6 a1_0 a1_1 a1_2 a1_3 a1_4 a1_5) else (if a1_5 < 0 then (mortiseref28_symbol.j0 k true a0_0 a0_1 l0_2 l0_3 l0_4 l0_5 l0_6 a1_0 a1_1 a1_2 a1_3 a1_4 a1_5) else (mortiseref28_symbol.j0 k (decide (a1_5 > 262144)) a0_0 a0_1 l0_2 l0_3 l0_4 l0_5 l0_6 a1_0 a1_1 a1_2 a1_3 a1_4 a1_5)))) else (mortiseref28_symbol.j0 k true a0_0 a0_1 l0_2 l0_3 l0_4 l0_5 l0_6 a1_0 a1_1 a1_2 a1_3 a1_4 a1_5))
theorem mortiseref28_symbol.mono_l : ∀ k, (∀ y0 y1 y2 y3 y4 y5 y6 y7 y8 y9 y10 y11 y12 y13, LeO (mortiseref28_symbol.j0 k y0 y1 y2 y3 y4 y5 y6 y7 y8 y9 y10 y11 y12 y13) (mortiseref28_symbol.j0 (k + 1) y0 y1 y2 y3 y4 y5 y6 y7 y8 y9 y10 y11 y12 y13))
  | 0 => fun _ _ _ _ _ _ _ _ _ _ _ _ _ _ r h => by simp [mortiseref28_symbol.j0] at h
  | k + 1 => by
    have ih0 := mortiseref28_symbol.mono_l k
    · intro y0 y1 y2 y3 y4 y5 y6 y7 y8 y9 y10 y11 y12 y13
      unfold mortiseref28_symbol.j0
      repeat' first
      | (with_reducible exact ih0 _ _ _ _ _ _ _ _ _ _ _ _ _ _)
      | (with_reducible exact LeO.refl _)
      | (with_reducible exact LeO.none _)
      | (with_reducible refine LeO.ite ?_ ?_)
      | (with_reducible refine LeO.bind ?_ (fun _ => ?_))
      | exact ih0 _ _ _ _ _ _ _ _ _ _ _ _ _ _
      | exact LeO.none _
      | refine LeO.ite ?_ ?_
      | refine LeO.bind ?_ (fun _ => ?_)
theorem mortiseref28_symbol.mono : ∀ a0 a1 a2 a3 a4 a5 a6 a7 a8 a9 a10 a11 a12 k, LeO (mortiseref28_symbol.f k a0 a1 a2 a3 a4 a5 a6 a7 a8 a9 a10 a11 a12) (mortiseref28_symbol.f (k + 1) a0 a1 a2 a3 a4 a5 a6 a7 a8 a9 a10 a11 a12) := by
  intro a0 a1 a2 a3 a4 a5 a6 a7 a8 a9 a10 a11 a12 k
  have ih0 := mortiseref28_symbol.mono_l k
  unfold mortiseref28_symbol.f
  repeat' first
      | (with_reducible exact ih0 _ _ _ _ _ _ _ _ _ _ _ _ _ _)
      | (with_reducible exact LeO.refl _)
      | (with_reducible exact LeO.none _)
      | (with_reducible refine LeO.ite ?_ ?_)
      | (with_reducible refine LeO.bind ?_ (fun _ => ?_))
      | exact ih0 _ _ _ _ _ _ _ _ _ _ _ _ _ _
      | exact LeO.none _
      | refine LeO.ite ?_ ?_
      | refine LeO.bind ?_ (fun _ => ?_)
set_option maxHeartbeats 8000000 in
set_option maxRecDepth 100000 in
theorem mortiseref28_symbol.calls (k : Nat) (a0_0 : ByteArray) (a0_1 : Int) (A0_2 : Option Addr) (c0_2 : Nat) (l0_2 : List (S44)) (A0_3 : Option Addr) (c0_3 : Nat) (l0_3 : List (S51)) (A0_4 : Option Addr) (c0_4 : Nat) (l0_4 : List (S64)) (A0_5 : Option Addr) (c0_5 : Nat) (l0_5 : List Int) (A0_6 : Option Addr) (c0_6 : Nat) (l0_6 : List Int) (a1_0 : ByteArray) (a1_1 : Int) (a1_2 : Bool) (a1_3 : Int) (a1_4 : Int) (a1_5 : Int) (r : Bool) (w : World) (hr0_2 : Kd.C k44 w A0_2 l0_2.length l0_2) (hc0_2 : l0_2.length ≤ c0_2) (hr0_3 : Kd.C k51 w A0_3 l0_3.length l0_3) (hc0_3 : l0_3.length ≤ c0_3) (hr0_4 : Kd.C k64 w A0_4 l0_4.length l0_4) (hc0_4 : l0_4.length ≤ c0_4) (hr0_5 : Kd.C (Kd.int .i64) w A0_5 l0_5.length l0_5) (hc0_5 : l0_5.length ≤ c0_5) (hr0_6 : Kd.C (Kd.int .i64) w A0_6 l0_6.length l0_6) (hc0_6 : l0_6.length ≤ c0_6) (h : mortiseref28_symbol.f k a0_0 a0_1 l0_2 l0_3 l0_4 l0_5 l0_6 a1_0 a1_1 a1_2 a1_3 a1_4 a1_5 = some r) :
    Calls Try.prog 31 #[.agg #[.string a0_0, .int .i64 a0_1, .slice A0_2 l0_2.length c0_2, .slice A0_3 l0_3.length c0_3, .slice A0_4 l0_4.length c0_4, .slice A0_5 l0_5.length c0_5, .slice A0_6 l0_6.length c0_6], .agg #[.string a1_0, .int .i64 a1_1, .bool a1_2, .int .i64 a1_3, .int .i64 a1_4, .int .i64 a1_5]] w fun e w' => e = .returned (.bool r) ∧ Below w.heap.size w w' := by
  have hu27 := Try.underlying27
  have hu51 := Try.underlying51
  have HR0_2 := Aside0.mk hr0_2
  have HC0_2 := Aside0.mk hc0_2
  clear hr0_2 hc0_2
  have HR0_3 := Aside0.mk hr0_3
  have HC0_3 := Aside0.mk hc0_3
  clear hr0_3 hc0_3
  have HR0_4 := Aside0.mk hr0_4
  have HC0_4 := Aside0.mk hc0_4
  clear hr0_4 hc0_4
  have HR0_5 := Aside0.mk hr0_5
  have HC0_5 := Aside0.mk hc0_5
  clear hr0_5 hc0_5
  have HR0_6 := Aside0.mk hr0_6
  have HC0_6 := Aside0.mk hc0_6
  clear hr0_6 hc0_6
  have HB := Aside0.mk (Below.refl w.heap.size w)
  have H : ((mortiseref15_Name.f a1_0).bind fun t103 => (if t103 = true then (if a1_3 < 0 then (mortiseref28_symbol.j0 k true a0_0 a0_1 l0_2 l0_3 l0_4 l0_5 l0_6 a1_0 a1_1 a1_2 a1_3 a1_4 a1_5) else (if a1_4 < 0 then (mortiseref28_symbol.j0 k true a0_0 a0_1 l0_2 l0_3 l0_4 l0_5 l0_6 a1_0 a1_1 a1_2 a1_3 a1_4 a1_5) else (if a1_5 < 0 then (mortiseref28_symbol.j0 k true a0_0 a0_1 l0_2 l0_3 l0_4 l0_5 l0_6 a1_0 a1_1 a1_2 a1_3 a1_4 a1_5) else (mortiseref28_symbol.j0 k (decide (a1_5 > 262144)) a0_0 a0_1 l0_2 l0_3 l0_4 l0_5 l0_6 a1_0 a1_1 a1_2 a1_3 a1_4 a1_5)))) else (mortiseref28_symbol.j0 k true a0_0 a0_1 l0_2 l0_3 l0_4 l0_5 l0_6 a1_0 a1_1 a1_2 a1_3 a1_4 a1_5))) = some r := h
  clear h
  have HC3 := Aside0.mk H
  clear H
  go_enter Try.func31, Try.ntmps31
  go_upto_region 1 with (first | ((with_reducible refine gate_dst (N := 2) rfl ?_); (try (refine gate_guard (by rfl) ?_; dsimp only)); refine box_event ?hg (N := 2) ?hd (cs := #[.string a0_0, .int .i64 a0_1, .slice A0_2 l0_2.length c0_2, .slice A0_3 l0_3.length c0_3, .slice A0_4 l0_4.length c0_4, .slice A0_5 l0_5.length c0_5, .slice A0_6 l0_6.length c0_6]) (t := 27) ?hr ?_; (case hd => rfl); (case hg => rfl); (case hr => first | (go_simp; done) | (go_simp; rfl)); intro gb101 hg w4 hbox hb; have n0_ := Aside0.mk (below_step (by repeat (first | (with_reducible first | exact HB.out | apply below_alloc | apply pw_below_drewN | apply below_drew1) | exact HB.out)) hb); have n1_ := Aside0.mk (hbox); have n2_ := Aside0.mk ((by rw [hg]; exact (below_size (by repeat (first | (with_reducible first | exact HB.out | apply below_alloc | apply pw_below_drewN | apply below_drew1) | exact HB.out))) : w.heap.size ≤ gb101)); have n3_ := Aside0.mk ((by rw [hg]; exact (below_size (by repeat (first | (with_reducible first | exact HB.out | apply below_alloc | apply pw_below_drewN | apply below_drew1) | exact HB.out))) : w.heap.size ≤ gb101)); clear HB; have HB := n0_; have BK101 := n1_; have GW101 := n2_; have GE101 := n3_; clear n0_ n1_ n2_ n3_; clear hb hbox hg) | ((with_reducible refine gate_dst (N := 3) rfl ?_); (try (refine gate_guard (by rfl) ?_; dsimp only)); refine box_event ?hg (N := 3) ?hd (cs := #[.string a1_0, .int .i64 a1_1, .bool a1_2, .int .i64 a1_3, .int .i64 a1_4, .int .i64 a1_5]) (t := 51) ?hr ?_; (case hd => rfl); (case hg => rfl); (case hr => first | (go_simp; done) | (go_simp; rfl)); intro gb102 hg w5 hbox hb; have n0_ := Aside0.mk (blk_below (g := gb101) (o := .cells #[.string a0_0, .int .i64 a0_1, .slice A0_2 l0_2.length c0_2, .slice A0_3 l0_3.length c0_3, .slice A0_4 l0_4.length c0_4, .slice A0_5 l0_5.length c0_5, .slice A0_6 l0_6.length c0_6] 27 (0, 0)) (by (with_reducible repeat (first | refine blk_drewN ?_ _ | refine blk_drew ?_ | refine blk_alloc ?_ _)); exact BK101.out) hb); have n1_ := Aside0.mk (below_step (by repeat (first | (with_reducible first | exact HB.out | apply below_alloc | apply pw_below_drewN | apply below_drew1 | refine below_set ?_ GE101.out) | exact HB.out)) hb); have n2_ := Aside0.mk (hbox); have n3_ := Aside0.mk ((by rw [hg]; exact (below_size (by repeat (first | (with_reducible first | exact HB.out | apply below_alloc | apply pw_below_drewN | apply below_drew1 | refine below_set ?_ GE101.out) | exact HB.out))) : w.heap.size ≤ gb102)); have n4_ := Aside0.mk ((by rw [hg]; exact (below_size (by repeat (first | (with_reducible first | exact HB.out | apply below_alloc | apply pw_below_drewN | apply below_drew1 | refine below_set ?_ GE101.out) | exact HB.out))) : w.heap.size ≤ gb102)); have n5_ := Aside0.mk ((by rw [hg]; exact Nat.ne_of_lt (blk_lt (g := gb101) (o := .cells #[.string a0_0, .int .i64 a0_1, .slice A0_2 l0_2.length c0_2, .slice A0_3 l0_3.length c0_3, .slice A0_4 l0_4.length c0_4, .slice A0_5 l0_5.length c0_5, .slice A0_6 l0_6.length c0_6] 27 (0, 0)) (by (with_reducible repeat (first | refine blk_drewN ?_ _ | refine blk_drew ?_ | refine blk_alloc ?_ _)); exact BK101.out)) : gb101 ≠ gb102)); have n6_ := Aside0.mk ((by rw [hg]; exact Nat.ne_of_gt (blk_lt (g := gb101) (o := .cells #[.string a0_0, .int .i64 a0_1, .slice A0_2 l0_2.length c0_2, .slice A0_3 l0_3.length c0_3, .slice A0_4 l0_4.length c0_4, .slice A0_5 l0_5.length c0_5, .slice A0_6 l0_6.length c0_6] 27 (0, 0)) (by (with_reducible repeat (first | refine blk_drewN ?_ _ | refine blk_drew ?_ | refine blk_alloc ?_ _)); exact BK101.out)) : gb102 ≠ gb101)); clear BK101; clear HB; have BK101 := n0_; have HB := n1_; have BK102 := n2_; have GW102 := n3_; have GE102 := n4_; have NB101_102 := n5_; have NB102_101 := n6_; clear n0_ n1_ n2_ n3_ n4_ n5_ n6_; clear hb hbox hg))
  (try simp only [Act.put, List.setIfInBounds_toArray, List.set_cons_zero, List.set_cons_succ])
  go_cut [28] (fun v28 wc => ∃ (kq : Nat) (x28_2 : Bool), v28 = .bool x28_2 ∧ Aside0 (mortiseref28_symbol.j0 kq x28_2 a0_0 a0_1 l0_2 l0_3 l0_4 l0_5 l0_6 a1_0 a1_1 a1_2 a1_3 a1_4 a1_5 = some r) ∧ Aside0 (kq ≤ k) ∧ Aside0 (wc.heap[gb101]? = some (.cells #[.string a0_0, .int .i64 a0_1, (.slice A0_2 l0_2.length c0_2), (.slice A0_3 l0_3.length c0_3), (.slice A0_4 l0_4.length c0_4), (.slice A0_5 l0_5.length c0_5), (.slice A0_6 l0_6.length c0_6)] 27 (0, 0))) ∧ Aside0 (wc.heap[gb102]? = some (.cells #[.string a1_0, .int .i64 a1_1, .bool a1_2, .int .i64 a1_3, .int .i64 a1_4, .int .i64 a1_5] 51 (0, 0))) ∧ Aside0 (Below w.heap.size w wc))
  case first =>
    have H := HC3.out
    clear HC3
    replace H := Option.bind_eq_some_iff.mp H
    obtain ⟨t103, A60, H⟩ := H
    replace H : (if t103 = true then (if a1_3 < 0 then (mortiseref28_symbol.j0 k true a0_0 a0_1 l0_2 l0_3 l0_4 l0_5 l0_6 a1_0 a1_1 a1_2 a1_3 a1_4 a1_5) else (if a1_4 < 0 then (mortiseref28_symbol.j0 k true a0_0 a0_1 l0_2 l0_3 l0_4 l0_5 l0_6 a1_0 a1_1 a1_2 a1_3 a1_4 a1_5) else (if a1_5 < 0 then (mortiseref28_symbol.j0 k true a0_0 a0_1 l0_2 l0_3 l0_4 l0_5 l0_6 a1_0 a1_1 a1_2 a1_3 a1_4 a1_5) else (mortiseref28_symbol.j0 k (decide (a1_5 > 262144)) a0_0 a0_1 l0_2 l0_3 l0_4 l0_5 l0_6 a1_0 a1_1 a1_2 a1_3 a1_4 a1_5)))) else (mortiseref28_symbol.j0 k true a0_0 a0_1 l0_2 l0_3 l0_4 l0_5 l0_6 a1_0 a1_1 a1_2 a1_3 a1_4 a1_5)) = some r := H
    have A6 := Aside0.mk A60
    clear A60
    by_cases c7 : t103 = true
    · subst c7
      have H1 : (if a1_3 < 0 then (mortiseref28_symbol.j0 k true a0_0 a0_1 l0_2 l0_3 l0_4 l0_5 l0_6 a1_0 a1_1 a1_2 a1_3 a1_4 a1_5) else (if a1_4 < 0 then (mortiseref28_symbol.j0 k true a0_0 a0_1 l0_2 l0_3 l0_4 l0_5 l0_6 a1_0 a1_1 a1_2 a1_3 a1_4 a1_5) else (if a1_5 < 0 then (mortiseref28_symbol.j0 k true a0_0 a0_1 l0_2 l0_3 l0_4 l0_5 l0_6 a1_0 a1_1 a1_2 a1_3 a1_4 a1_5) else (mortiseref28_symbol.j0 k (decide (a1_5 > 262144)) a0_0 a0_1 l0_2 l0_3 l0_4 l0_5 l0_6 a1_0 a1_1 a1_2 a1_3 a1_4 a1_5)))) = some r := by rw [if_pos rfl] at H; exact H
      clear H
      have H := H1
      clear H1
      by_cases c8 : a1_3 < 0
      · rw [if_pos c8] at H
        have c8b0 : decide (a1_3 < 0) = true := decide_eq_true c8
        clear c8
        (first | rw [c8b0] | (simp only [i64_w, i32_w]; rw [c8b0]) | skip)
        have H' := Aside0.mk H
        clear H
        have hnb9 := NB102_101.out
        have hnc9 := NB101_102.out
        have hcz10_0 : w5.cell? ⟨gb102, 0, none⟩ = some (.string a1_0) := (blk_cell BK102.out 0).trans rfl
        have hcz10_1 : w5.cell? ⟨gb102, 1, none⟩ = some (.int .i64 a1_1) := (blk_cell BK102.out 1).trans rfl
        have hcz10_2 : w5.cell? ⟨gb102, 2, none⟩ = some (.bool a1_2) := (blk_cell BK102.out 2).trans rfl
        have hcz10_3 : w5.cell? ⟨gb102, 3, none⟩ = some (.int .i64 a1_3) := (blk_cell BK102.out 3).trans rfl
        have hcz10_4 : w5.cell? ⟨gb102, 4, none⟩ = some (.int .i64 a1_4) := (blk_cell BK102.out 4).trans rfl
        have hcz10_5 : w5.cell? ⟨gb102, 5, none⟩ = some (.int .i64 a1_5) := (blk_cell BK102.out 5).trans rfl
        have hfz10_0 := blk_frozen BK102.out 0
        have hfz10_1 := blk_frozen BK102.out 1
        have hfz10_2 := blk_frozen BK102.out 2
        have hfz10_3 := blk_frozen BK102.out 3
        have hfz10_4 := blk_frozen BK102.out 4
        have hfz10_5 := blk_frozen BK102.out 5
        go_wp2_with (first | ((with_reducible refine gate_callee (f := 30) rfl ?_); refine goesL_ (some 7) rfl rfl Try.func30 (by kernel_rfl) rfl #[.string a1_0] rfl (by (try simp only [List.map_toArray, List.map_cons, List.map_nil]); first | done | rfl | (simp only [List.length_drop, List.length_take]; rfl)) ?_; (with_reducible refine (mortiseref15_Name.calls a1_0 true _ A6.out).mono ?_); rintro e w' ⟨rfl, ⟨nd, rfl⟩⟩; refine ⟨_, rfl, ?_⟩))
        go_meet
        case rel => exact ⟨_, (true), (by first | rfl | (simp; done) | (simp [*]; done)), H', ⟨by first | omega | exact Nat.le_refl _⟩, ⟨by (with_reducible repeat (first | refine blk_drewN ?_ _ | refine blk_drew ?_ | refine blk_alloc ?_ _)); exact BK101.out⟩, ⟨by (with_reducible repeat (first | refine blk_drewN ?_ _ | refine blk_drew ?_ | refine blk_alloc ?_ _)); exact BK102.out⟩, ⟨by repeat (first | (with_reducible first | exact HB.out | apply below_alloc | apply pw_below_drewN | apply below_drew1 | refine below_set ?_ GE101.out | refine below_set ?_ GE102.out) | exact HB.out)⟩⟩
      · rw [if_neg c8] at H
        have c8b0 : decide (a1_3 < 0) = false := decide_eq_false c8
        clear c8
        (first | rw [c8b0] | (simp only [i64_w, i32_w]; rw [c8b0]) | skip)
        by_cases c11 : a1_4 < 0
        · rw [if_pos c11] at H
          have c11b0 : decide (a1_4 < 0) = true := decide_eq_true c11
          clear c11
          have H' := Aside0.mk H
          clear H
          have hnb12 := NB102_101.out
          have hnc12 := NB101_102.out
          have hcz13_0 : w5.cell? ⟨gb102, 0, none⟩ = some (.string a1_0) := (blk_cell BK102.out 0).trans rfl
          have hcz13_1 : w5.cell? ⟨gb102, 1, none⟩ = some (.int .i64 a1_1) := (blk_cell BK102.out 1).trans rfl
          have hcz13_2 : w5.cell? ⟨gb102, 2, none⟩ = some (.bool a1_2) := (blk_cell BK102.out 2).trans rfl
          have hcz13_3 : w5.cell? ⟨gb102, 3, none⟩ = some (.int .i64 a1_3) := (blk_cell BK102.out 3).trans rfl
          have hcz13_4 : w5.cell? ⟨gb102, 4, none⟩ = some (.int .i64 a1_4) := (blk_cell BK102.out 4).trans rfl
          have hcz13_5 : w5.cell? ⟨gb102, 5, none⟩ = some (.int .i64 a1_5) := (blk_cell BK102.out 5).trans rfl
          have hfz13_0 := blk_frozen BK102.out 0
          have hfz13_1 := blk_frozen BK102.out 1
          have hfz13_2 := blk_frozen BK102.out 2
          have hfz13_3 := blk_frozen BK102.out 3
          have hfz13_4 := blk_frozen BK102.out 4
          have hfz13_5 := blk_frozen BK102.out 5
          go_wp2_with (first | ((with_reducible refine gate_callee (f := 30) rfl ?_); refine goesL_ (some 7) rfl rfl Try.func30 (by kernel_rfl) rfl #[.string a1_0] rfl (by (try simp only [List.map_toArray, List.map_cons, List.map_nil]); first | done | rfl | (simp only [List.length_drop, List.length_take]; rfl)) ?_; (with_reducible refine (mortiseref15_Name.calls a1_0 true _ A6.out).mono ?_); rintro e w' ⟨rfl, ⟨nd, rfl⟩⟩; refine ⟨_, rfl, ?_⟩))
          go_meet
          case rel => exact ⟨_, (true), (by first | rfl | (simp; done) | (simp [*]; done)), H', ⟨by first | omega | exact Nat.le_refl _⟩, ⟨by (with_reducible repeat (first | refine blk_drewN ?_ _ | refine blk_drew ?_ | refine blk_alloc ?_ _)); exact BK101.out⟩, ⟨by (with_reducible repeat (first | refine blk_drewN ?_ _ | refine blk_drew ?_ | refine blk_alloc ?_ _)); exact BK102.out⟩, ⟨by repeat (first | (with_reducible first | exact HB.out | apply below_alloc | apply pw_below_drewN | apply below_drew1 | refine below_set ?_ GE101.out | refine below_set ?_ GE102.out) | exact HB.out)⟩⟩
        · rw [if_neg c11] at H
          have c11b0 : decide (a1_4 < 0) = false := decide_eq_false c11
          clear c11
          by_cases c14 : a1_5 < 0
          · rw [if_pos c14] at H
            have c14b0 : decide (a1_5 < 0) = true := decide_eq_true c14
            clear c14
            have H' := Aside0.mk H
            clear H
            have hnb15 := NB102_101.out
            have hnc15 := NB101_102.out
            have hcz16_0 : w5.cell? ⟨gb102, 0, none⟩ = some (.string a1_0) := (blk_cell BK102.out 0).trans rfl
            have hcz16_1 : w5.cell? ⟨gb102, 1, none⟩ = some (.int .i64 a1_1) := (blk_cell BK102.out 1).trans rfl
            have hcz16_2 : w5.cell? ⟨gb102, 2, none⟩ = some (.bool a1_2) := (blk_cell BK102.out 2).trans rfl
            have hcz16_3 : w5.cell? ⟨gb102, 3, none⟩ = some (.int .i64 a1_3) := (blk_cell BK102.out 3).trans rfl
            have hcz16_4 : w5.cell? ⟨gb102, 4, none⟩ = some (.int .i64 a1_4) := (blk_cell BK102.out 4).trans rfl
            have hcz16_5 : w5.cell? ⟨gb102, 5, none⟩ = some (.int .i64 a1_5) := (blk_cell BK102.out 5).trans rfl
            have hfz16_0 := blk_frozen BK102.out 0
            have hfz16_1 := blk_frozen BK102.out 1
            have hfz16_2 := blk_frozen BK102.out 2
            have hfz16_3 := blk_frozen BK102.out 3
            have hfz16_4 := blk_frozen BK102.out 4
            have hfz16_5 := blk_frozen BK102.out 5
            go_wp2_with (first | ((with_reducible refine gate_callee (f := 30) rfl ?_); refine goesL_ (some 7) rfl rfl Try.func30 (by kernel_rfl) rfl #[.string a1_0] rfl (by (try simp only [List.map_toArray, List.map_cons, List.map_nil]); first | done | rfl | (simp only [List.length_drop, List.length_take]; rfl)) ?_; (with_reducible refine (mortiseref15_Name.calls a1_0 true _ A6.out).mono ?_); rintro e w' ⟨rfl, ⟨nd, rfl⟩⟩; refine ⟨_, rfl, ?_⟩))
            go_meet
            case rel => exact ⟨_, (true), (by first | rfl | (simp; done) | (simp [*]; done)), H', ⟨by first | omega | exact Nat.le_refl _⟩, ⟨by (with_reducible repeat (first | refine blk_drewN ?_ _ | refine blk_drew ?_ | refine blk_alloc ?_ _)); exact BK101.out⟩, ⟨by (with_reducible repeat (first | refine blk_drewN ?_ _ | refine blk_drew ?_ | refine blk_alloc ?_ _)); exact BK102.out⟩, ⟨by repeat (first | (with_reducible first | exact HB.out | apply below_alloc | apply pw_below_drewN | apply below_drew1 | refine below_set ?_ GE101.out | refine below_set ?_ GE102.out) | exact HB.out)⟩⟩
          · rw [if_neg c14] at H
            have c14b0 : decide (a1_5 < 0) = false := decide_eq_false c14
            clear c14
            have H' := Aside0.mk H
            clear H
            have hnb17 := NB102_101.out
            have hnc17 := NB101_102.out
            have hcz18_0 : w5.cell? ⟨gb102, 0, none⟩ = some (.string a1_0) := (blk_cell BK102.out 0).trans rfl
            have hcz18_1 : w5.cell? ⟨gb102, 1, none⟩ = some (.int .i64 a1_1) := (blk_cell BK102.out 1).trans rfl
            have hcz18_2 : w5.cell? ⟨gb102, 2, none⟩ = some (.bool a1_2) := (blk_cell BK102.out 2).trans rfl
            have hcz18_3 : w5.cell? ⟨gb102, 3, none⟩ = some (.int .i64 a1_3) := (blk_cell BK102.out 3).trans rfl
            have hcz18_4 : w5.cell? ⟨gb102, 4, none⟩ = some (.int .i64 a1_4) := (blk_cell BK102.out 4).trans rfl
            have hcz18_5 : w5.cell? ⟨gb102, 5, none⟩ = some (.int .i64 a1_5) := (blk_cell BK102.out 5).trans rfl
            have hfz18_0 := blk_frozen BK102.out 0
            have hfz18_1 := blk_frozen BK102.out 1
            have hfz18_2 := blk_frozen BK102.out 2
            have hfz18_3 := blk_frozen BK102.out 3
            have hfz18_4 := blk_frozen BK102.out 4
            have hfz18_5 := blk_frozen BK102.out 5
            go_wp2_with (first | ((with_reducible refine gate_callee (f := 30) rfl ?_); refine goesL_ (some 7) rfl rfl Try.func30 (by kernel_rfl) rfl #[.string a1_0] rfl (by (try simp only [List.map_toArray, List.map_cons, List.map_nil]); first | done | rfl | (simp only [List.length_drop, List.length_take]; rfl)) ?_; (with_reducible refine (mortiseref15_Name.calls a1_0 true _ A6.out).mono ?_); rintro e w' ⟨rfl, ⟨nd, rfl⟩⟩; refine ⟨_, rfl, ?_⟩))
            go_meet
            case rel => exact ⟨_, (decide (a1_5 > 262144)), (by first | rfl | (simp; done) | (simp [*]; done)), H', ⟨by first | omega | exact Nat.le_refl _⟩, ⟨by (with_reducible repeat (first | refine blk_drewN ?_ _ | refine blk_drew ?_ | refine blk_alloc ?_ _)); exact BK101.out⟩, ⟨by (with_reducible repeat (first | refine blk_drewN ?_ _ | refine blk_drew ?_ | refine blk_alloc ?_ _)); exact BK102.out⟩, ⟨by repeat (first | (with_reducible first | exact HB.out | apply below_alloc | apply pw_below_drewN | apply below_drew1 | refine below_set ?_ GE101.out | refine below_set ?_ GE102.out) | exact HB.out)⟩⟩
    · replace c7 := Bool.eq_false_iff.mpr c7
      subst c7
      have H1 : (mortiseref28_symbol.j0 k true a0_0 a0_1 l0_2 l0_3 l0_4 l0_5 l0_6 a1_0 a1_1 a1_2 a1_3 a1_4 a1_5) = some r := by rw [if_neg (show ¬ (false = true) by decide)] at H; exact H
      clear H
      have H := H1
      clear H1
      have H' := Aside0.mk H
      clear H
      have hnb19 := NB102_101.out
      have hnc19 := NB101_102.out
      have hcz20_0 : w5.cell? ⟨gb102, 0, none⟩ = some (.string a1_0) := (blk_cell BK102.out 0).trans rfl
      have hcz20_1 : w5.cell? ⟨gb102, 1, none⟩ = some (.int .i64 a1_1) := (blk_cell BK102.out 1).trans rfl
      have hcz20_2 : w5.cell? ⟨gb102, 2, none⟩ = some (.bool a1_2) := (blk_cell BK102.out 2).trans rfl
      have hcz20_3 : w5.cell? ⟨gb102, 3, none⟩ = some (.int .i64 a1_3) := (blk_cell BK102.out 3).trans rfl
      have hcz20_4 : w5.cell? ⟨gb102, 4, none⟩ = some (.int .i64 a1_4) := (blk_cell BK102.out 4).trans rfl
      have hcz20_5 : w5.cell? ⟨gb102, 5, none⟩ = some (.int .i64 a1_5) := (blk_cell BK102.out 5).trans rfl
      have hfz20_0 := blk_frozen BK102.out 0
      have hfz20_1 := blk_frozen BK102.out 1
      have hfz20_2 := blk_frozen BK102.out 2
      have hfz20_3 := blk_frozen BK102.out 3
      have hfz20_4 := blk_frozen BK102.out 4
      have hfz20_5 := blk_frozen BK102.out 5
      go_wp2_with (first | ((with_reducible refine gate_callee (f := 30) rfl ?_); refine goesL_ (some 7) rfl rfl Try.func30 (by kernel_rfl) rfl #[.string a1_0] rfl (by (try simp only [List.map_toArray, List.map_cons, List.map_nil]); first | done | rfl | (simp only [List.length_drop, List.length_take]; rfl)) ?_; (with_reducible refine (mortiseref15_Name.calls a1_0 false _ A6.out).mono ?_); rintro e w' ⟨rfl, ⟨nd, rfl⟩⟩; refine ⟨_, rfl, ?_⟩))
      go_meet
      case rel => exact ⟨_, (true), (by first | rfl | (simp; done) | (simp [*]; done)), H', ⟨by first | omega | exact Nat.le_refl _⟩, ⟨by (with_reducible repeat (first | refine blk_drewN ?_ _ | refine blk_drew ?_ | refine blk_alloc ?_ _)); exact BK101.out⟩, ⟨by (with_reducible repeat (first | refine blk_drewN ?_ _ | refine blk_drew ?_ | refine blk_alloc ?_ _)); exact BK102.out⟩, ⟨by repeat (first | (with_reducible first | exact HB.out | apply below_alloc | apply pw_below_drewN | apply below_drew1 | refine below_set ?_ GE101.out | refine below_set ?_ GE102.out) | exact HB.out)⟩⟩
  case rest =>
    clear HC3
    try clear c1
    try clear p2
    try clear c3
    try clear c7
    try clear c8
    try clear c8b0
    try clear c9
    try clear c11
    try clear c11b0
    try clear c12
    try clear c14
    try clear c14b0
    try clear c15
    try clear c17
    try clear c19
    try clear hcz10_0
    try clear hcz10_1
    try clear hcz10_2
    try clear hcz10_3
    try clear hcz10_4
    try clear hcz10_5
    try clear hcz13_0
    try clear hcz13_1
    try clear hcz13_2
    try clear hcz13_3
    try clear hcz13_4
    try clear hcz13_5
    try clear hcz16_0
    try clear hcz16_1
    try clear hcz16_2
    try clear hcz16_3
    try clear hcz16_4
    try clear hcz16_5
    try clear hcz18_0
    try clear hcz18_1
    try clear hcz18_2
    try clear hcz18_3
    try clear hcz18_4
    try clear hcz18_5
    try clear hcz20_0
    try clear hcz20_1
    try clear hcz20_2
    try clear hcz20_3
    try clear hcz20_4
    try clear hcz20_5
    try clear hfz10_0
    try clear hfz10_1
    try clear hfz10_2
    try clear hfz10_3
    try clear hfz10_4
    try clear hfz10_5
    try clear hfz13_0
    try clear hfz13_1
    try clear hfz13_2
    try clear hfz13_3
    try clear hfz13_4
    try clear hfz13_5
    try clear hfz16_0
    try clear hfz16_1
    try clear hfz16_2
    try clear hfz16_3
    try clear hfz16_4
    try clear hfz16_5
    try clear hfz18_0
    try clear hfz18_1
    try clear hfz18_2
    try clear hfz18_3
    try clear hfz18_4
    try clear hfz18_5
    try clear hfz20_0
    try clear hfz20_1
    try clear hfz20_2
    try clear hfz20_3
    try clear hfz20_4
    try clear hfz20_5
    obtain ⟨kq, x28_2, rfl, HA, HJ2, BK101, BK102, HB⟩ := hcut
    cases kq with
    | zero => exact absurd HA.out (by simp [mortiseref28_symbol.j0])
    | succ kj2 =>
      have H := HA.out
      clear HA
      simp only [mortiseref28_symbol.j0] at H
      by_cases c21 : x28_2 = true
      · subst c21
        have H1 : (some false) = some r := by rw [if_pos rfl] at H; exact H
        clear H
        have H := H1
        clear H1
        obtain rfl := Option.some.inj H
        go_wp2
        go_ret
        exact ⟨by first | rfl | (simp [errW_none, errW_some] <;> rfl) | (simp [*, errW_none, errW_some] <;> rfl), by repeat (first | (with_reducible first | exact HB.out | apply below_alloc | apply pw_below_drewN | apply below_drew1 | refine below_set ?_ GE101.out | refine below_set ?_ GE102.out) | exact HB.out)⟩
      · replace c21 := Bool.eq_false_iff.mpr c21
        subst c21
        have H1 : (if a1_1 = 1 then (if a1_4 ≥ 1 then (if a1_4 ≤ (l0_5.length : Int) then (some (decide (a1_3 ≤ (wrap64 ((l0_5.length : Int) - a1_4))))) else (some false)) else (some false)) else (if a1_1 = 2 then (if a1_5 = 0 then (if a1_4 ≤ (l0_6.length : Int) then (some (decide (a1_3 ≤ (wrap64 ((l0_6.length : Int) - a1_4))))) else (some false)) else (some false)) else (some false))) = some r := by rw [if_neg (show ¬ (false = true) by decide)] at H; exact H
        clear H
        have H := H1
        clear H1
        by_cases c22 : a1_1 = 1
        · rw [if_pos c22] at H
          have c22b0 : (a1_1 == 1) = true := beq_iff_eq.mpr c22
          have c22b1 : (a1_1 != 1) = false := bne_eq_false_iff_eq.mpr c22
          clear c22
          by_cases c23 : a1_4 ≥ 1
          · rw [if_pos c23] at H
            have c23b0 : decide (1 ≤ a1_4) = true := decide_eq_true c23
            clear c23
            by_cases c24 : a1_4 ≤ (l0_5.length : Int)
            · rw [if_pos c24] at H
              have c24b0 : decide (a1_4 ≤ (l0_5.length : Int)) = true := decide_eq_true c24
              clear c24
              obtain rfl := Option.some.inj H
              have hnb25 := NB102_101.out
              have hnc25 := NB101_102.out
              have hcz26_0 : wc.cell? ⟨gb102, 0, none⟩ = some (.string a1_0) := (blk_cell BK102.out 0).trans rfl
              have hcz26_1 : wc.cell? ⟨gb102, 1, none⟩ = some (.int .i64 a1_1) := (blk_cell BK102.out 1).trans rfl
              have hcz26_2 : wc.cell? ⟨gb102, 2, none⟩ = some (.bool a1_2) := (blk_cell BK102.out 2).trans rfl
              have hcz26_3 : wc.cell? ⟨gb102, 3, none⟩ = some (.int .i64 a1_3) := (blk_cell BK102.out 3).trans rfl
              have hcz26_4 : wc.cell? ⟨gb102, 4, none⟩ = some (.int .i64 a1_4) := (blk_cell BK102.out 4).trans rfl
              have hcz26_5 : wc.cell? ⟨gb102, 5, none⟩ = some (.int .i64 a1_5) := (blk_cell BK102.out 5).trans rfl
              have hfz26_0 := blk_frozen BK102.out 0
              have hfz26_1 := blk_frozen BK102.out 1
              have hfz26_2 := blk_frozen BK102.out 2
              have hfz26_3 := blk_frozen BK102.out 3
              have hfz26_4 := blk_frozen BK102.out 4
              have hfz26_5 := blk_frozen BK102.out 5
              have hcz27_0 : wc.cell? ⟨gb101, 0, none⟩ = some (.string a0_0) := (blk_cell BK101.out 0).trans rfl
              have hcz27_1 : wc.cell? ⟨gb101, 1, none⟩ = some (.int .i64 a0_1) := (blk_cell BK101.out 1).trans rfl
              have hcz27_2 : wc.cell? ⟨gb101, 2, none⟩ = some (.slice A0_2 l0_2.length c0_2) := (blk_cell BK101.out 2).trans rfl
              have hcz27_3 : wc.cell? ⟨gb101, 3, none⟩ = some (.slice A0_3 l0_3.length c0_3) := (blk_cell BK101.out 3).trans rfl
              have hcz27_4 : wc.cell? ⟨gb101, 4, none⟩ = some (.slice A0_4 l0_4.length c0_4) := (blk_cell BK101.out 4).trans rfl
              have hcz27_5 : wc.cell? ⟨gb101, 5, none⟩ = some (.slice A0_5 l0_5.length c0_5) := (blk_cell BK101.out 5).trans rfl
              have hcz27_6 : wc.cell? ⟨gb101, 6, none⟩ = some (.slice A0_6 l0_6.length c0_6) := (blk_cell BK101.out 6).trans rfl
              have hfz27_0 := blk_frozen BK101.out 0
              have hfz27_1 := blk_frozen BK101.out 1
              have hfz27_2 := blk_frozen BK101.out 2
              have hfz27_3 := blk_frozen BK101.out 3
              have hfz27_4 := blk_frozen BK101.out 4
              have hfz27_5 := blk_frozen BK101.out 5
              have hfz27_6 := blk_frozen BK101.out 6
              go_wp2
              go_ret
              exact ⟨by first | rfl | (simp [errW_none, errW_some] <;> rfl) | (simp [*, errW_none, errW_some] <;> rfl), by repeat (first | (with_reducible first | exact HB.out | apply below_alloc | apply pw_below_drewN | apply below_drew1 | refine below_set ?_ GE101.out | refine below_set ?_ GE102.out) | exact HB.out)⟩
            · rw [if_neg c24] at H
              have c24b0 : decide (a1_4 ≤ (l0_5.length : Int)) = false := decide_eq_false c24
              clear c24
              obtain rfl := Option.some.inj H
              have hnb28 := NB102_101.out
              have hnc28 := NB101_102.out
              have hcz29_0 : wc.cell? ⟨gb102, 0, none⟩ = some (.string a1_0) := (blk_cell BK102.out 0).trans rfl
              have hcz29_1 : wc.cell? ⟨gb102, 1, none⟩ = some (.int .i64 a1_1) := (blk_cell BK102.out 1).trans rfl
              have hcz29_2 : wc.cell? ⟨gb102, 2, none⟩ = some (.bool a1_2) := (blk_cell BK102.out 2).trans rfl
              have hcz29_3 : wc.cell? ⟨gb102, 3, none⟩ = some (.int .i64 a1_3) := (blk_cell BK102.out 3).trans rfl
              have hcz29_4 : wc.cell? ⟨gb102, 4, none⟩ = some (.int .i64 a1_4) := (blk_cell BK102.out 4).trans rfl
              have hcz29_5 : wc.cell? ⟨gb102, 5, none⟩ = some (.int .i64 a1_5) := (blk_cell BK102.out 5).trans rfl
              have hfz29_0 := blk_frozen BK102.out 0
              have hfz29_1 := blk_frozen BK102.out 1
              have hfz29_2 := blk_frozen BK102.out 2
              have hfz29_3 := blk_frozen BK102.out 3
              have hfz29_4 := blk_frozen BK102.out 4
              have hfz29_5 := blk_frozen BK102.out 5
              have hcz30_0 : wc.cell? ⟨gb101, 0, none⟩ = some (.string a0_0) := (blk_cell BK101.out 0).trans rfl
              have hcz30_1 : wc.cell? ⟨gb101, 1, none⟩ = some (.int .i64 a0_1) := (blk_cell BK101.out 1).trans rfl
              have hcz30_2 : wc.cell? ⟨gb101, 2, none⟩ = some (.slice A0_2 l0_2.length c0_2) := (blk_cell BK101.out 2).trans rfl
              have hcz30_3 : wc.cell? ⟨gb101, 3, none⟩ = some (.slice A0_3 l0_3.length c0_3) := (blk_cell BK101.out 3).trans rfl
              have hcz30_4 : wc.cell? ⟨gb101, 4, none⟩ = some (.slice A0_4 l0_4.length c0_4) := (blk_cell BK101.out 4).trans rfl
              have hcz30_5 : wc.cell? ⟨gb101, 5, none⟩ = some (.slice A0_5 l0_5.length c0_5) := (blk_cell BK101.out 5).trans rfl
              have hcz30_6 : wc.cell? ⟨gb101, 6, none⟩ = some (.slice A0_6 l0_6.length c0_6) := (blk_cell BK101.out 6).trans rfl
              have hfz30_0 := blk_frozen BK101.out 0
              have hfz30_1 := blk_frozen BK101.out 1
              have hfz30_2 := blk_frozen BK101.out 2
              have hfz30_3 := blk_frozen BK101.out 3
              have hfz30_4 := blk_frozen BK101.out 4
              have hfz30_5 := blk_frozen BK101.out 5
              have hfz30_6 := blk_frozen BK101.out 6
              go_wp2
              go_ret
              exact ⟨by first | rfl | (simp [errW_none, errW_some] <;> rfl) | (simp [*, errW_none, errW_some] <;> rfl), by repeat (first | (with_reducible first | exact HB.out | apply below_alloc | apply pw_below_drewN | apply below_drew1 | refine below_set ?_ GE101.out | refine below_set ?_ GE102.out) | exact HB.out)⟩
          · rw [if_neg c23] at H
            have c23b0 : decide (1 ≤ a1_4) = false := decide_eq_false c23
            clear c23
            obtain rfl := Option.some.inj H
            have hnb31 := NB102_101.out
            have hnc31 := NB101_102.out
            have hcz32_0 : wc.cell? ⟨gb102, 0, none⟩ = some (.string a1_0) := (blk_cell BK102.out 0).trans rfl
            have hcz32_1 : wc.cell? ⟨gb102, 1, none⟩ = some (.int .i64 a1_1) := (blk_cell BK102.out 1).trans rfl
            have hcz32_2 : wc.cell? ⟨gb102, 2, none⟩ = some (.bool a1_2) := (blk_cell BK102.out 2).trans rfl
            have hcz32_3 : wc.cell? ⟨gb102, 3, none⟩ = some (.int .i64 a1_3) := (blk_cell BK102.out 3).trans rfl
            have hcz32_4 : wc.cell? ⟨gb102, 4, none⟩ = some (.int .i64 a1_4) := (blk_cell BK102.out 4).trans rfl
            have hcz32_5 : wc.cell? ⟨gb102, 5, none⟩ = some (.int .i64 a1_5) := (blk_cell BK102.out 5).trans rfl
            have hfz32_0 := blk_frozen BK102.out 0
            have hfz32_1 := blk_frozen BK102.out 1
            have hfz32_2 := blk_frozen BK102.out 2
            have hfz32_3 := blk_frozen BK102.out 3
            have hfz32_4 := blk_frozen BK102.out 4
            have hfz32_5 := blk_frozen BK102.out 5
            go_wp2
            go_ret
            exact ⟨by first | rfl | (simp [errW_none, errW_some] <;> rfl) | (simp [*, errW_none, errW_some] <;> rfl), by repeat (first | (with_reducible first | exact HB.out | apply below_alloc | apply pw_below_drewN | apply below_drew1 | refine below_set ?_ GE101.out | refine below_set ?_ GE102.out) | exact HB.out)⟩
        · rw [if_neg c22] at H
          have c22b0 : (a1_1 == 1) = false := beq_eq_false_iff_ne.mpr c22
          have c22b1 : (a1_1 != 1) = true := bne_iff_ne.mpr c22
          by_cases c33 : a1_1 = 2
          · rw [if_pos c33] at H
            have c33b0 : (a1_1 == 2) = true := beq_iff_eq.mpr c33
            have c33b1 : (a1_1 != 2) = false := bne_eq_false_iff_eq.mpr c33
            clear c33
            by_cases c34 : a1_5 = 0
            · rw [if_pos c34] at H
              have c34b0 : (a1_5 == 0) = true := beq_iff_eq.mpr c34
              have c34b1 : (a1_5 != 0) = false := bne_eq_false_iff_eq.mpr c34
              clear c34
              by_cases c35 : a1_4 ≤ (l0_6.length : Int)
              · rw [if_pos c35] at H
                have c35b0 : decide (a1_4 ≤ (l0_6.length : Int)) = true := decide_eq_true c35
                clear c35
                obtain rfl := Option.some.inj H
                have hnb36 := NB102_101.out
                have hnc36 := NB101_102.out
                have hcz37_0 : wc.cell? ⟨gb102, 0, none⟩ = some (.string a1_0) := (blk_cell BK102.out 0).trans rfl
                have hcz37_1 : wc.cell? ⟨gb102, 1, none⟩ = some (.int .i64 a1_1) := (blk_cell BK102.out 1).trans rfl
                have hcz37_2 : wc.cell? ⟨gb102, 2, none⟩ = some (.bool a1_2) := (blk_cell BK102.out 2).trans rfl
                have hcz37_3 : wc.cell? ⟨gb102, 3, none⟩ = some (.int .i64 a1_3) := (blk_cell BK102.out 3).trans rfl
                have hcz37_4 : wc.cell? ⟨gb102, 4, none⟩ = some (.int .i64 a1_4) := (blk_cell BK102.out 4).trans rfl
                have hcz37_5 : wc.cell? ⟨gb102, 5, none⟩ = some (.int .i64 a1_5) := (blk_cell BK102.out 5).trans rfl
                have hfz37_0 := blk_frozen BK102.out 0
                have hfz37_1 := blk_frozen BK102.out 1
                have hfz37_2 := blk_frozen BK102.out 2
                have hfz37_3 := blk_frozen BK102.out 3
                have hfz37_4 := blk_frozen BK102.out 4
                have hfz37_5 := blk_frozen BK102.out 5
                have hcz38_0 : wc.cell? ⟨gb101, 0, none⟩ = some (.string a0_0) := (blk_cell BK101.out 0).trans rfl
                have hcz38_1 : wc.cell? ⟨gb101, 1, none⟩ = some (.int .i64 a0_1) := (blk_cell BK101.out 1).trans rfl
                have hcz38_2 : wc.cell? ⟨gb101, 2, none⟩ = some (.slice A0_2 l0_2.length c0_2) := (blk_cell BK101.out 2).trans rfl
                have hcz38_3 : wc.cell? ⟨gb101, 3, none⟩ = some (.slice A0_3 l0_3.length c0_3) := (blk_cell BK101.out 3).trans rfl
                have hcz38_4 : wc.cell? ⟨gb101, 4, none⟩ = some (.slice A0_4 l0_4.length c0_4) := (blk_cell BK101.out 4).trans rfl
                have hcz38_5 : wc.cell? ⟨gb101, 5, none⟩ = some (.slice A0_5 l0_5.length c0_5) := (blk_cell BK101.out 5).trans rfl
                have hcz38_6 : wc.cell? ⟨gb101, 6, none⟩ = some (.slice A0_6 l0_6.length c0_6) := (blk_cell BK101.out 6).trans rfl
                have hfz38_0 := blk_frozen BK101.out 0
                have hfz38_1 := blk_frozen BK101.out 1
                have hfz38_2 := blk_frozen BK101.out 2
                have hfz38_3 := blk_frozen BK101.out 3
                have hfz38_4 := blk_frozen BK101.out 4
                have hfz38_5 := blk_frozen BK101.out 5
                have hfz38_6 := blk_frozen BK101.out 6
                go_wp2
                go_ret
                exact ⟨by first | rfl | (simp [errW_none, errW_some] <;> rfl) | (simp [*, errW_none, errW_some] <;> rfl), by repeat (first | (with_reducible first | exact HB.out | apply below_alloc | apply pw_below_drewN | apply below_drew1 | refine below_set ?_ GE101.out | refine below_set ?_ GE102.out) | exact HB.out)⟩
              · rw [if_neg c35] at H
                have c35b0 : decide (a1_4 ≤ (l0_6.length : Int)) = false := decide_eq_false c35
                clear c35
                obtain rfl := Option.some.inj H
                have hnb39 := NB102_101.out
                have hnc39 := NB101_102.out
                have hcz40_0 : wc.cell? ⟨gb102, 0, none⟩ = some (.string a1_0) := (blk_cell BK102.out 0).trans rfl
                have hcz40_1 : wc.cell? ⟨gb102, 1, none⟩ = some (.int .i64 a1_1) := (blk_cell BK102.out 1).trans rfl
                have hcz40_2 : wc.cell? ⟨gb102, 2, none⟩ = some (.bool a1_2) := (blk_cell BK102.out 2).trans rfl
                have hcz40_3 : wc.cell? ⟨gb102, 3, none⟩ = some (.int .i64 a1_3) := (blk_cell BK102.out 3).trans rfl
                have hcz40_4 : wc.cell? ⟨gb102, 4, none⟩ = some (.int .i64 a1_4) := (blk_cell BK102.out 4).trans rfl
                have hcz40_5 : wc.cell? ⟨gb102, 5, none⟩ = some (.int .i64 a1_5) := (blk_cell BK102.out 5).trans rfl
                have hfz40_0 := blk_frozen BK102.out 0
                have hfz40_1 := blk_frozen BK102.out 1
                have hfz40_2 := blk_frozen BK102.out 2
                have hfz40_3 := blk_frozen BK102.out 3
                have hfz40_4 := blk_frozen BK102.out 4
                have hfz40_5 := blk_frozen BK102.out 5
                have hcz41_0 : wc.cell? ⟨gb101, 0, none⟩ = some (.string a0_0) := (blk_cell BK101.out 0).trans rfl
                have hcz41_1 : wc.cell? ⟨gb101, 1, none⟩ = some (.int .i64 a0_1) := (blk_cell BK101.out 1).trans rfl
                have hcz41_2 : wc.cell? ⟨gb101, 2, none⟩ = some (.slice A0_2 l0_2.length c0_2) := (blk_cell BK101.out 2).trans rfl
                have hcz41_3 : wc.cell? ⟨gb101, 3, none⟩ = some (.slice A0_3 l0_3.length c0_3) := (blk_cell BK101.out 3).trans rfl
                have hcz41_4 : wc.cell? ⟨gb101, 4, none⟩ = some (.slice A0_4 l0_4.length c0_4) := (blk_cell BK101.out 4).trans rfl
                have hcz41_5 : wc.cell? ⟨gb101, 5, none⟩ = some (.slice A0_5 l0_5.length c0_5) := (blk_cell BK101.out 5).trans rfl
                have hcz41_6 : wc.cell? ⟨gb101, 6, none⟩ = some (.slice A0_6 l0_6.length c0_6) := (blk_cell BK101.out 6).trans rfl
                have hfz41_0 := blk_frozen BK101.out 0
                have hfz41_1 := blk_frozen BK101.out 1
                have hfz41_2 := blk_frozen BK101.out 2
                have hfz41_3 := blk_frozen BK101.out 3
                have hfz41_4 := blk_frozen BK101.out 4
                have hfz41_5 := blk_frozen BK101.out 5
                have hfz41_6 := blk_frozen BK101.out 6
                go_wp2
                go_ret
                exact ⟨by first | rfl | (simp [errW_none, errW_some] <;> rfl) | (simp [*, errW_none, errW_some] <;> rfl), by repeat (first | (with_reducible first | exact HB.out | apply below_alloc | apply pw_below_drewN | apply below_drew1 | refine below_set ?_ GE101.out | refine below_set ?_ GE102.out) | exact HB.out)⟩
            · rw [if_neg c34] at H
              have c34b0 : (a1_5 == 0) = false := beq_eq_false_iff_ne.mpr c34
              have c34b1 : (a1_5 != 0) = true := bne_iff_ne.mpr c34
              obtain rfl := Option.some.inj H
              have hnb42 := NB102_101.out
              have hnc42 := NB101_102.out
              have hcz43_0 : wc.cell? ⟨gb102, 0, none⟩ = some (.string a1_0) := (blk_cell BK102.out 0).trans rfl
              have hcz43_1 : wc.cell? ⟨gb102, 1, none⟩ = some (.int .i64 a1_1) := (blk_cell BK102.out 1).trans rfl
              have hcz43_2 : wc.cell? ⟨gb102, 2, none⟩ = some (.bool a1_2) := (blk_cell BK102.out 2).trans rfl
              have hcz43_3 : wc.cell? ⟨gb102, 3, none⟩ = some (.int .i64 a1_3) := (blk_cell BK102.out 3).trans rfl
              have hcz43_4 : wc.cell? ⟨gb102, 4, none⟩ = some (.int .i64 a1_4) := (blk_cell BK102.out 4).trans rfl
              have hcz43_5 : wc.cell? ⟨gb102, 5, none⟩ = some (.int .i64 a1_5) := (blk_cell BK102.out 5).trans rfl
              have hfz43_0 := blk_frozen BK102.out 0
              have hfz43_1 := blk_frozen BK102.out 1
              have hfz43_2 := blk_frozen BK102.out 2
              have hfz43_3 := blk_frozen BK102.out 3
              have hfz43_4 := blk_frozen BK102.out 4
              have hfz43_5 := blk_frozen BK102.out 5
              go_wp2
              go_ret
              exact ⟨by first | rfl | (simp [errW_none, errW_some] <;> rfl) | (simp [*, errW_none, errW_some] <;> rfl), by repeat (first | (with_reducible first | exact HB.out | apply below_alloc | apply pw_below_drewN | apply below_drew1 | refine below_set ?_ GE101.out | refine below_set ?_ GE102.out) | exact HB.out)⟩
          · rw [if_neg c33] at H
            have c33b0 : (a1_1 == 2) = false := beq_eq_false_iff_ne.mpr c33
            have c33b1 : (a1_1 != 2) = true := bne_iff_ne.mpr c33
            obtain rfl := Option.some.inj H
            have hnb44 := NB102_101.out
            have hnc44 := NB101_102.out
            have hcz45_0 : wc.cell? ⟨gb102, 0, none⟩ = some (.string a1_0) := (blk_cell BK102.out 0).trans rfl
            have hcz45_1 : wc.cell? ⟨gb102, 1, none⟩ = some (.int .i64 a1_1) := (blk_cell BK102.out 1).trans rfl
            have hcz45_2 : wc.cell? ⟨gb102, 2, none⟩ = some (.bool a1_2) := (blk_cell BK102.out 2).trans rfl
            have hcz45_3 : wc.cell? ⟨gb102, 3, none⟩ = some (.int .i64 a1_3) := (blk_cell BK102.out 3).trans rfl
            have hcz45_4 : wc.cell? ⟨gb102, 4, none⟩ = some (.int .i64 a1_4) := (blk_cell BK102.out 4).trans rfl
            have hcz45_5 : wc.cell? ⟨gb102, 5, none⟩ = some (.int .i64 a1_5) := (blk_cell BK102.out 5).trans rfl
            have hfz45_0 := blk_frozen BK102.out 0
            have hfz45_1 := blk_frozen BK102.out 1
            have hfz45_2 := blk_frozen BK102.out 2
            have hfz45_3 := blk_frozen BK102.out 3
            have hfz45_4 := blk_frozen BK102.out 4
            have hfz45_5 := blk_frozen BK102.out 5
            go_wp2
            go_ret
            exact ⟨by first | rfl | (simp [errW_none, errW_some] <;> rfl) | (simp [*, errW_none, errW_some] <;> rfl), by repeat (first | (with_reducible first | exact HB.out | apply below_alloc | apply pw_below_drewN | apply below_drew1 | refine below_set ?_ GE101.out | refine below_set ?_ GE102.out) | exact HB.out)⟩

/-! ### mortiseref2_Sum: function 81 -/
def mortiseref2_Sum.f (a0 : Int) : Option (ByteArray) := if a0 = 17 then (some (⟨#[97, 100, 100]⟩ : ByteArray)) else (if a0 = 18 then (some (⟨#[115, 117, 98]⟩ : ByteArray)) else (if a0 = 19 then (some (⟨#[109, 117, 108]⟩ : ByteArray)) else (if a0 = 20 then (some (⟨#[100, 105, 118]⟩ : ByteArray)) else (if a0 = 21 then (some (⟨#[114, 101, 109]⟩ : ByteArray)) else (if a0 = 22 then (some (⟨#[97, 110, 100]⟩ : ByteArray)) else (if a0 = 23 then (some (⟨#[111, 114]⟩ : ByteArray)) else (if a0 = 24 then (some (⟨#[120, 111, 114]⟩ : ByteArray)) else (if a0 = 25 then (some (⟨#[115, 104, 108]⟩ : ByteArray)) else (if a0 = 26 then (some (⟨#[115, 104, 114]⟩ : ByteArray)) else (if a0 = 27 then (some (⟨#[101, 113]⟩ : ByteArray)) else (if a0 = 28 then (some (⟨#[110, 101]⟩ : ByteArray)) else (if a0 = 29 then (some (⟨#[108, 116]⟩ : ByteArray)) else (if a0 = 30 then (some (⟨#[108, 101]⟩ : ByteArray)) else (if a0 = 31 then (some (⟨#[103, 116]⟩ : ByteArray)) else (if a0 = 32 then (some (⟨#[103, 101]⟩ : ByteArray)) else (if a0 = 41 then (some (⟨#[110, 101, 103]⟩ : ByteArray)) else (if a0 = 42 then (some (⟨#[102, 108, 105, 112]⟩ : ByteArray)) else (if a0 = 43 then (some (⟨#[98, 97, 110, 103]⟩ : ByteArray)) else (some (⟨#[]⟩ : ByteArray))))))))))))))))))))
set_option maxHeartbeats 8000000 in
set_option maxRecDepth 100000 in
theorem mortiseref2_Sum.calls (a0 : Int) (r : ByteArray) (w : World) (h : mortiseref2_Sum.f a0 = some r) :
    Calls Try.prog 81 #[.int .i64 a0] w fun e w' => e = .returned (.string r) ∧ Drawn0 w w' := by
  have H : (if a0 = 17 then (some (⟨#[97, 100, 100]⟩ : ByteArray)) else (if a0 = 18 then (some (⟨#[115, 117, 98]⟩ : ByteArray)) else (if a0 = 19 then (some (⟨#[109, 117, 108]⟩ : ByteArray)) else (if a0 = 20 then (some (⟨#[100, 105, 118]⟩ : ByteArray)) else (if a0 = 21 then (some (⟨#[114, 101, 109]⟩ : ByteArray)) else (if a0 = 22 then (some (⟨#[97, 110, 100]⟩ : ByteArray)) else (if a0 = 23 then (some (⟨#[111, 114]⟩ : ByteArray)) else (if a0 = 24 then (some (⟨#[120, 111, 114]⟩ : ByteArray)) else (if a0 = 25 then (some (⟨#[115, 104, 108]⟩ : ByteArray)) else (if a0 = 26 then (some (⟨#[115, 104, 114]⟩ : ByteArray)) else (if a0 = 27 then (some (⟨#[101, 113]⟩ : ByteArray)) else (if a0 = 28 then (some (⟨#[110, 101]⟩ : ByteArray)) else (if a0 = 29 then (some (⟨#[108, 116]⟩ : ByteArray)) else (if a0 = 30 then (some (⟨#[108, 101]⟩ : ByteArray)) else (if a0 = 31 then (some (⟨#[103, 116]⟩ : ByteArray)) else (if a0 = 32 then (some (⟨#[103, 101]⟩ : ByteArray)) else (if a0 = 41 then (some (⟨#[110, 101, 103]⟩ : ByteArray)) else (if a0 = 42 then (some (⟨#[102, 108, 105, 112]⟩ : ByteArray)) else (if a0 = 43 then (some (⟨#[98, 97, 110, 103]⟩ : ByteArray)) else (some (⟨#[]⟩ : ByteArray))))))))))))))))))))) = some r := h
  clear h
  by_cases c2 : a0 = 17
  · rw [if_pos c2] at H
    have c2b0 : (a0 == 17) = true := beq_iff_eq.mpr c2
    have c2b1 : (a0 != 17) = false := bne_eq_false_iff_eq.mpr c2
    clear c2
    obtain rfl := Option.some.inj H
    go_enter Try.func81, Try.ntmps81
    go_wp2
    go_ret
    exact ⟨by first | rfl | (simp; done) | (simp [*]; done), by repeat (first | exact Drawn0.refl _ | apply Drawn0.step)⟩
  · rw [if_neg c2] at H
    have c2b0 : (a0 == 17) = false := beq_eq_false_iff_ne.mpr c2
    have c2b1 : (a0 != 17) = true := bne_iff_ne.mpr c2
    by_cases c3 : a0 = 18
    · rw [if_pos c3] at H
      have c3b0 : (a0 == 18) = true := beq_iff_eq.mpr c3
      have c3b1 : (a0 != 18) = false := bne_eq_false_iff_eq.mpr c3
      clear c3
      obtain rfl := Option.some.inj H
      go_enter Try.func81, Try.ntmps81
      go_wp2
      go_ret
      exact ⟨by first | rfl | (simp; done) | (simp [*]; done), by repeat (first | exact Drawn0.refl _ | apply Drawn0.step)⟩
    · rw [if_neg c3] at H
      have c3b0 : (a0 == 18) = false := beq_eq_false_iff_ne.mpr c3
      have c3b1 : (a0 != 18) = true := bne_iff_ne.mpr c3
      by_cases c4 : a0 = 19
      · rw [if_pos c4] at H
        have c4b0 : (a0 == 19) = true := beq_iff_eq.mpr c4
        have c4b1 : (a0 != 19) = false := bne_eq_false_iff_eq.mpr c4
        clear c4
        obtain rfl := Option.some.inj H
        go_enter Try.func81, Try.ntmps81
        go_wp2
        go_ret
        exact ⟨by first | rfl | (simp; done) | (simp [*]; done), by repeat (first | exact Drawn0.refl _ | apply Drawn0.step)⟩
      · rw [if_neg c4] at H
        have c4b0 : (a0 == 19) = false := beq_eq_false_iff_ne.mpr c4
        have c4b1 : (a0 != 19) = true := bne_iff_ne.mpr c4
        by_cases c5 : a0 = 20
        · rw [if_pos c5] at H
          have c5b0 : (a0 == 20) = true := beq_iff_eq.mpr c5
          have c5b1 : (a0 != 20) = false := bne_eq_false_iff_eq.mpr c5
          clear c5
          obtain rfl := Option.some.inj H
          go_enter Try.func81, Try.ntmps81
          go_wp2
          go_ret
          exact ⟨by first | rfl | (simp; done) | (simp [*]; done), by repeat (first | exact Drawn0.refl _ | apply Drawn0.step)⟩
        · rw [if_neg c5] at H
          have c5b0 : (a0 == 20) = false := beq_eq_false_iff_ne.mpr c5
          have c5b1 : (a0 != 20) = true := bne_iff_ne.mpr c5
          by_cases c6 : a0 = 21
          · rw [if_pos c6] at H
            have c6b0 : (a0 == 21) = true := beq_iff_eq.mpr c6
            have c6b1 : (a0 != 21) = false := bne_eq_false_iff_eq.mpr c6
            clear c6
            obtain rfl := Option.some.inj H
            go_enter Try.func81, Try.ntmps81
            go_wp2
            go_ret
            exact ⟨by first | rfl | (simp; done) | (simp [*]; done), by repeat (first | exact Drawn0.refl _ | apply Drawn0.step)⟩
          · rw [if_neg c6] at H
            have c6b0 : (a0 == 21) = false := beq_eq_false_iff_ne.mpr c6
            have c6b1 : (a0 != 21) = true := bne_iff_ne.mpr c6
            by_cases c7 : a0 = 22
            · rw [if_pos c7] at H
              have c7b0 : (a0 == 22) = true := beq_iff_eq.mpr c7
              have c7b1 : (a0 != 22) = false := bne_eq_false_iff_eq.mpr c7
              clear c7
              obtain rfl := Option.some.inj H
              go_enter Try.func81, Try.ntmps81
              go_wp2
              go_ret
              exact ⟨by first | rfl | (simp; done) | (simp [*]; done), by repeat (first | exact Drawn0.refl _ | apply Drawn0.step)⟩
            · rw [if_neg c7] at H
              have c7b0 : (a0 == 22) = false := beq_eq_false_iff_ne.mpr c7
              have c7b1 : (a0 != 22) = true := bne_iff_ne.mpr c7
              by_cases c8 : a0 = 23
              · rw [if_pos c8] at H
                have c8b0 : (a0 == 23) = true := beq_iff_eq.mpr c8
                have c8b1 : (a0 != 23) = false := bne_eq_false_iff_eq.mpr c8
                clear c8
                obtain rfl := Option.some.inj H
                go_enter Try.func81, Try.ntmps81
                go_wp2
                go_ret
                exact ⟨by first | rfl | (simp; done) | (simp [*]; done), by repeat (first | exact Drawn0.refl _ | apply Drawn0.step)⟩
              · rw [if_neg c8] at H
                have c8b0 : (a0 == 23) = false := beq_eq_false_iff_ne.mpr c8
                have c8b1 : (a0 != 23) = true := bne_iff_ne.mpr c8
                by_cases c9 : a0 = 24
                · rw [if_pos c9] at H
                  have c9b0 : (a0 == 24) = true := beq_iff_eq.mpr c9
                  have c9b1 : (a0 != 24) = false := bne_eq_false_iff_eq.mpr c9
                  clear c9
                  obtain rfl := Option.some.inj H
                  go_enter Try.func81, Try.ntmps81
                  go_wp2
                  go_ret
                  exact ⟨by first | rfl | (simp; done) | (simp [*]; done), by repeat (first | exact Drawn0.refl _ | apply Drawn0.step)⟩
                · rw [if_neg c9] at H
                  have c9b0 : (a0 == 24) = false := beq_eq_false_iff_ne.mpr c9
                  have c9b1 : (a0 != 24) = true := bne_iff_ne.mpr c9
                  by_cases c10 : a0 = 25
                  · rw [if_pos c10] at H
                    have c10b0 : (a0 == 25) = true := beq_iff_eq.mpr c10
                    have c10b1 : (a0 != 25) = false := bne_eq_false_iff_eq.mpr c10
                    clear c10
                    obtain rfl := Option.some.inj H
                    go_enter Try.func81, Try.ntmps81
                    go_wp2
                    go_ret
                    exact ⟨by first | rfl | (simp; done) | (simp [*]; done), by repeat (first | exact Drawn0.refl _ | apply Drawn0.step)⟩
                  · rw [if_neg c10] at H
                    have c10b0 : (a0 == 25) = false := beq_eq_false_iff_ne.mpr c10
                    have c10b1 : (a0 != 25) = true := bne_iff_ne.mpr c10
                    by_cases c11 : a0 = 26
                    · rw [if_pos c11] at H
                      have c11b0 : (a0 == 26) = true := beq_iff_eq.mpr c11
                      have c11b1 : (a0 != 26) = false := bne_eq_false_iff_eq.mpr c11
                      clear c11
                      obtain rfl := Option.some.inj H
                      go_enter Try.func81, Try.ntmps81
                      go_wp2
                      go_ret
                      exact ⟨by first | rfl | (simp; done) | (simp [*]; done), by repeat (first | exact Drawn0.refl _ | apply Drawn0.step)⟩
                    · rw [if_neg c11] at H
                      have c11b0 : (a0 == 26) = false := beq_eq_false_iff_ne.mpr c11
                      have c11b1 : (a0 != 26) = true := bne_iff_ne.mpr c11
                      by_cases c12 : a0 = 27
                      · rw [if_pos c12] at H
                        have c12b0 : (a0 == 27) = true := beq_iff_eq.mpr c12
                        have c12b1 : (a0 != 27) = false := bne_eq_false_iff_eq.mpr c12
                        clear c12
                        obtain rfl := Option.some.inj H
                        go_enter Try.func81, Try.ntmps81
                        go_wp2
                        go_ret
                        exact ⟨by first | rfl | (simp; done) | (simp [*]; done), by repeat (first | exact Drawn0.refl _ | apply Drawn0.step)⟩
                      · rw [if_neg c12] at H
                        have c12b0 : (a0 == 27) = false := beq_eq_false_iff_ne.mpr c12
                        have c12b1 : (a0 != 27) = true := bne_iff_ne.mpr c12
                        by_cases c13 : a0 = 28
                        · rw [if_pos c13] at H
                          have c13b0 : (a0 == 28) = true := beq_iff_eq.mpr c13
                          have c13b1 : (a0 != 28) = false := bne_eq_false_iff_eq.mpr c13
                          clear c13
                          obtain rfl := Option.some.inj H
                          go_enter Try.func81, Try.ntmps81
                          go_wp2
                          go_ret
                          exact ⟨by first | rfl | (simp; done) | (simp [*]; done), by repeat (first | exact Drawn0.refl _ | apply Drawn0.step)⟩
                        · rw [if_neg c13] at H
                          have c13b0 : (a0 == 28) = false := beq_eq_false_iff_ne.mpr c13
                          have c13b1 : (a0 != 28) = true := bne_iff_ne.mpr c13
                          by_cases c14 : a0 = 29
                          · rw [if_pos c14] at H
                            have c14b0 : (a0 == 29) = true := beq_iff_eq.mpr c14
                            have c14b1 : (a0 != 29) = false := bne_eq_false_iff_eq.mpr c14
                            clear c14
                            obtain rfl := Option.some.inj H
                            go_enter Try.func81, Try.ntmps81
                            go_wp2
                            go_ret
                            exact ⟨by first | rfl | (simp; done) | (simp [*]; done), by repeat (first | exact Drawn0.refl _ | apply Drawn0.step)⟩
                          · rw [if_neg c14] at H
                            have c14b0 : (a0 == 29) = false := beq_eq_false_iff_ne.mpr c14
                            have c14b1 : (a0 != 29) = true := bne_iff_ne.mpr c14
                            by_cases c15 : a0 = 30
                            · rw [if_pos c15] at H
                              have c15b0 : (a0 == 30) = true := beq_iff_eq.mpr c15
                              have c15b1 : (a0 != 30) = false := bne_eq_false_iff_eq.mpr c15
                              clear c15
                              obtain rfl := Option.some.inj H
                              go_enter Try.func81, Try.ntmps81
                              go_wp2
                              go_ret
                              exact ⟨by first | rfl | (simp; done) | (simp [*]; done), by repeat (first | exact Drawn0.refl _ | apply Drawn0.step)⟩
                            · rw [if_neg c15] at H
                              have c15b0 : (a0 == 30) = false := beq_eq_false_iff_ne.mpr c15
                              have c15b1 : (a0 != 30) = true := bne_iff_ne.mpr c15
                              by_cases c16 : a0 = 31
                              · rw [if_pos c16] at H
                                have c16b0 : (a0 == 31) = true := beq_iff_eq.mpr c16
                                have c16b1 : (a0 != 31) = false := bne_eq_false_iff_eq.mpr c16
                                clear c16
                                obtain rfl := Option.some.inj H
                                go_enter Try.func81, Try.ntmps81
                                go_wp2
                                go_ret
                                exact ⟨by first | rfl | (simp; done) | (simp [*]; done), by repeat (first | exact Drawn0.refl _ | apply Drawn0.step)⟩
                              · rw [if_neg c16] at H
                                have c16b0 : (a0 == 31) = false := beq_eq_false_iff_ne.mpr c16
                                have c16b1 : (a0 != 31) = true := bne_iff_ne.mpr c16
                                by_cases c17 : a0 = 32
                                · rw [if_pos c17] at H
                                  have c17b0 : (a0 == 32) = true := beq_iff_eq.mpr c17
                                  have c17b1 : (a0 != 32) = false := bne_eq_false_iff_eq.mpr c17
                                  clear c17
                                  obtain rfl := Option.some.inj H
                                  go_enter Try.func81, Try.ntmps81
                                  go_wp2
                                  go_ret
                                  exact ⟨by first | rfl | (simp; done) | (simp [*]; done), by repeat (first | exact Drawn0.refl _ | apply Drawn0.step)⟩
                                · rw [if_neg c17] at H
                                  have c17b0 : (a0 == 32) = false := beq_eq_false_iff_ne.mpr c17
                                  have c17b1 : (a0 != 32) = true := bne_iff_ne.mpr c17
                                  by_cases c18 : a0 = 41
                                  · rw [if_pos c18] at H
                                    have c18b0 : (a0 == 41) = true := beq_iff_eq.mpr c18
                                    have c18b1 : (a0 != 41) = false := bne_eq_false_iff_eq.mpr c18
                                    clear c18
                                    obtain rfl := Option.some.inj H
                                    go_enter Try.func81, Try.ntmps81
                                    go_wp2
                                    go_ret
                                    exact ⟨by first | rfl | (simp; done) | (simp [*]; done), by repeat (first | exact Drawn0.refl _ | apply Drawn0.step)⟩
                                  · rw [if_neg c18] at H
                                    have c18b0 : (a0 == 41) = false := beq_eq_false_iff_ne.mpr c18
                                    have c18b1 : (a0 != 41) = true := bne_iff_ne.mpr c18
                                    by_cases c19 : a0 = 42
                                    · rw [if_pos c19] at H
                                      have c19b0 : (a0 == 42) = true := beq_iff_eq.mpr c19
                                      have c19b1 : (a0 != 42) = false := bne_eq_false_iff_eq.mpr c19
                                      clear c19
                                      obtain rfl := Option.some.inj H
                                      go_enter Try.func81, Try.ntmps81
                                      go_wp2
                                      go_ret
                                      exact ⟨by first | rfl | (simp; done) | (simp [*]; done), by repeat (first | exact Drawn0.refl _ | apply Drawn0.step)⟩
                                    · rw [if_neg c19] at H
                                      have c19b0 : (a0 == 42) = false := beq_eq_false_iff_ne.mpr c19
                                      have c19b1 : (a0 != 42) = true := bne_iff_ne.mpr c19
                                      by_cases c20 : a0 = 43
                                      · rw [if_pos c20] at H
                                        have c20b0 : (a0 == 43) = true := beq_iff_eq.mpr c20
                                        have c20b1 : (a0 != 43) = false := bne_eq_false_iff_eq.mpr c20
                                        clear c20
                                        obtain rfl := Option.some.inj H
                                        go_enter Try.func81, Try.ntmps81
                                        go_wp2
                                        go_ret
                                        exact ⟨by first | rfl | (simp; done) | (simp [*]; done), by repeat (first | exact Drawn0.refl _ | apply Drawn0.step)⟩
                                      · rw [if_neg c20] at H
                                        have c20b0 : (a0 == 43) = false := beq_eq_false_iff_ne.mpr c20
                                        have c20b1 : (a0 != 43) = true := bne_iff_ne.mpr c20
                                        obtain rfl := Option.some.inj H
                                        go_enter Try.func81, Try.ntmps81
                                        go_wp2
                                        go_ret
                                        exact ⟨by first | rfl | (simp; done) | (simp [*]; done), by repeat (first | exact Drawn0.refl _ | apply Drawn0.step)⟩

end Go.Proofs.Ytnbgbmddkbneeaa.PLinkWeak

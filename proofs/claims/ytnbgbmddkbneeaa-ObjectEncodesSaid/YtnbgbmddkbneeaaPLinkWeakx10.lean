-- PRINTED BY print.sh 35421559b90ae4d0a3588c463048766b98c2df88dd9212a6774a882060cdf62d: not written by this session
import Derived.Test.YtnbgbmddkbneeaaPLinkWeakx0
namespace Go.Proofs.Ytnbgbmddkbneeaa.PLinkWeak
open Go.RowKit Go.Proofs.YtnbgbmddkbneeaaW.PrintWords Go.Proofs.YtnbgbmddkbneeaaW.PrintLast Go.Proofs.YtnbgbmddkbneeaaW.PrintMore
attribute [local go_sem] max2_int min2_int max_two min_two max_three min_three max_four min_four   -- for this text's walks alone
set_option linter.unusedVariables false
set_option linter.unusedSimpArgs false

-- NOT PRINTED: function 44 (mortiseref28_Bad)

-- NOT PRINTED: function 18 (mortiselaw30_linked)

/-! ### object_name: function 27 -/
def object_name.f (a0 : ByteArray) : Option (Bool) := if (a0.size : Int) ≥ 1 then (some (decide ((a0.size : Int) ≤ 60))) else (some false)
set_option maxHeartbeats 8000000 in
set_option maxRecDepth 100000 in
theorem object_name.calls (a0 : ByteArray) (r : Bool) (w : World) (h : object_name.f a0 = some r) :
    Calls Try.prog 27 #[.string a0] w fun e w' => e = .returned (.bool r) ∧ Drawn0 w w' := by
  have H : (if (a0.size : Int) ≥ 1 then (some (decide ((a0.size : Int) ≤ 60))) else (some false)) = some r := h
  clear h
  by_cases c2 : (a0.size : Int) ≥ 1
  · rw [if_pos c2] at H
    have c2b0 : decide (1 ≤ (a0.size : Int)) = true := decide_eq_true c2
    have c2b1 : decide (1 ≤ a0.size) = true := decide_eq_true (by omega)
    clear c2
    obtain rfl := Option.some.inj H
    go_enter Try.func27, Try.ntmps27
    go_wp2
    go_ret
    exact ⟨by first | rfl | (simp; done) | (simp [*]; done), by repeat (first | exact Drawn0.refl _ | apply Drawn0.step)⟩
  · rw [if_neg c2] at H
    have c2b0 : decide (1 ≤ (a0.size : Int)) = false := decide_eq_false c2
    have c2b1 : decide (1 ≤ a0.size) = false := decide_eq_false (by omega)
    clear c2
    obtain rfl := Option.some.inj H
    go_enter Try.func27, Try.ntmps27
    go_wp2
    go_ret
    exact ⟨by first | rfl | (simp; done) | (simp [*]; done), by repeat (first | exact Drawn0.refl _ | apply Drawn0.step)⟩

/-! ### object_lies: function 28 -/
mutual
def object_lies.j0 : Nat → Int → ByteArray → Int → Bool → Int → Int → Int → Option (Bool)
  | 0, _, _, _, _, _, _, _ => none
  | k + 1, x5, x189000, x189001, x189002, x189003, x189004, x189005 => if x189003 < 0 then (object_lies.j1 k true x189000 x189001 x189002 x189003 x189004 x189005) else (if x189003 > x5 then (object_lies.j1 k true x189000 x189001 x189002 x189003 x189004 x189005) else (if x189004 < 0 then (object_lies.j1 k true x189000 x189001 x189002 x189003 x189004 x189005) else (object_lies.j1 k (decide (x189004 > (wrap64 (x5 - x189003)))) x189000 x189001 x189002 x189003 x189004 x189005)))
def object_lies.j1 : Nat → Bool → ByteArray → Int → Bool → Int → Int → Int → Option (Bool)
  | 0, _, _, _, _, _, _, _ => none
  | k + 1, x15, x189000, x189001, x189002, x189003, x189004, x189005 => if x15 = true then (some false) else (if x189001 = 1 then (if x189004 ≥ 1 then (if x189005 ≥ 0 then (some (decide (x189005 ≤ 262144))) else (some false)) else (some false)) else (if x189001 = 2 then (some (x189005 == 0)) else (some false)))
end
def object_lies.f (k : Nat) (a0_0 : ByteArray) (a0_1 : Int) (a0_2 : Bool) (a0_3 : Int) (a0_4 : Int) (a0_5 : Int) (a1_0 : ByteArray) (a1_1 : Int) (l1_2 : List (S44)) (l1_3 : List (S51)) (l1_4 : List (S64)) (l1_5 : List Int) (l1_6 : List Int) : Option (Bool) := if a0_1 = 1 then (object_lies.j0 k (l1_5.length : Int) a0_0 a0_1 a0_2 a0_3 a0_4 a0_5) else (object_lies.j0 k (l1_6.length : Int) a0_0 a0_1 a0_2 a0_3 a0_4 a0_5)
theorem object_lies.mono_l : ∀ k, (∀ y0 y1 y2 y3 y4 y5 y6, LeO (object_lies.j0 k y0 y1 y2 y3 y4 y5 y6) (object_lies.j0 (k + 1) y0 y1 y2 y3 y4 y5 y6)) ∧ (∀ y0 y1 y2 y3 y4 y5 y6, LeO (object_lies.j1 k y0 y1 y2 y3 y4 y5 y6) (object_lies.j1 (k + 1) y0 y1 y2 y3 y4 y5 y6))
  | 0 => ⟨fun _ _ _ _ _ _ _ r h => by simp [object_lies.j0] at h, fun _ _ _ _ _ _ _ r h => by simp [object_lies.j1] at h⟩
  | k + 1 => by
    obtain ⟨ih0, ih1⟩ := object_lies.mono_l k
    refine ⟨?_, ?_⟩
    · intro y0 y1 y2 y3 y4 y5 y6
      unfold object_lies.j0
      repeat' first
      | (with_reducible exact ih0 _ _ _ _ _ _ _)
      | (with_reducible exact ih1 _ _ _ _ _ _ _)
      | (with_reducible exact LeO.refl _)
      | (with_reducible exact LeO.none _)
      | (with_reducible refine LeO.ite ?_ ?_)
      | (with_reducible refine LeO.bind ?_ (fun _ => ?_))
      | exact ih0 _ _ _ _ _ _ _
      | exact ih1 _ _ _ _ _ _ _
      | exact LeO.none _
      | refine LeO.ite ?_ ?_
      | refine LeO.bind ?_ (fun _ => ?_)
    · intro y0 y1 y2 y3 y4 y5 y6
      unfold object_lies.j1
      repeat' first
      | (with_reducible exact ih0 _ _ _ _ _ _ _)
      | (with_reducible exact ih1 _ _ _ _ _ _ _)
      | (with_reducible exact LeO.refl _)
      | (with_reducible exact LeO.none _)
      | (with_reducible refine LeO.ite ?_ ?_)
      | (with_reducible refine LeO.bind ?_ (fun _ => ?_))
      | exact ih0 _ _ _ _ _ _ _
      | exact ih1 _ _ _ _ _ _ _
      | exact LeO.none _
      | refine LeO.ite ?_ ?_
      | refine LeO.bind ?_ (fun _ => ?_)
theorem object_lies.mono : ∀ a0 a1 a2 a3 a4 a5 a6 a7 a8 a9 a10 a11 a12 k, LeO (object_lies.f k a0 a1 a2 a3 a4 a5 a6 a7 a8 a9 a10 a11 a12) (object_lies.f (k + 1) a0 a1 a2 a3 a4 a5 a6 a7 a8 a9 a10 a11 a12) := by
  intro a0 a1 a2 a3 a4 a5 a6 a7 a8 a9 a10 a11 a12 k
  obtain ⟨ih0, ih1⟩ := object_lies.mono_l k
  unfold object_lies.f
  repeat' first
      | (with_reducible exact ih0 _ _ _ _ _ _ _)
      | (with_reducible exact ih1 _ _ _ _ _ _ _)
      | (with_reducible exact LeO.refl _)
      | (with_reducible exact LeO.none _)
      | (with_reducible refine LeO.ite ?_ ?_)
      | (with_reducible refine LeO.bind ?_ (fun _ => ?_))
      | exact ih0 _ _ _ _ _ _ _
      | exact ih1 _ _ _ _ _ _ _
      | exact LeO.none _
      | refine LeO.ite ?_ ?_
      | refine LeO.bind ?_ (fun _ => ?_)
set_option maxHeartbeats 8000000 in
set_option maxRecDepth 100000 in
theorem object_lies.calls (k : Nat) (a0_0 : ByteArray) (a0_1 : Int) (a0_2 : Bool) (a0_3 : Int) (a0_4 : Int) (a0_5 : Int) (a1_0 : ByteArray) (a1_1 : Int) (A1_2 : Option Addr) (c1_2 : Nat) (l1_2 : List (S44)) (A1_3 : Option Addr) (c1_3 : Nat) (l1_3 : List (S51)) (A1_4 : Option Addr) (c1_4 : Nat) (l1_4 : List (S64)) (A1_5 : Option Addr) (c1_5 : Nat) (l1_5 : List Int) (A1_6 : Option Addr) (c1_6 : Nat) (l1_6 : List Int) (r : Bool) (w : World) (hr1_2 : Kd.C k44 w A1_2 l1_2.length l1_2) (hc1_2 : l1_2.length ≤ c1_2) (hr1_3 : Kd.C k51 w A1_3 l1_3.length l1_3) (hc1_3 : l1_3.length ≤ c1_3) (hr1_4 : Kd.C k64 w A1_4 l1_4.length l1_4) (hc1_4 : l1_4.length ≤ c1_4) (hr1_5 : Kd.C (Kd.int .i64) w A1_5 l1_5.length l1_5) (hc1_5 : l1_5.length ≤ c1_5) (hr1_6 : Kd.C (Kd.int .i64) w A1_6 l1_6.length l1_6) (hc1_6 : l1_6.length ≤ c1_6) (h : object_lies.f k a0_0 a0_1 a0_2 a0_3 a0_4 a0_5 a1_0 a1_1 l1_2 l1_3 l1_4 l1_5 l1_6 = some r) :
    Calls Try.prog 28 #[.agg #[.string a0_0, .int .i64 a0_1, .bool a0_2, .int .i64 a0_3, .int .i64 a0_4, .int .i64 a0_5], .agg #[.string a1_0, .int .i64 a1_1, .slice A1_2 l1_2.length c1_2, .slice A1_3 l1_3.length c1_3, .slice A1_4 l1_4.length c1_4, .slice A1_5 l1_5.length c1_5, .slice A1_6 l1_6.length c1_6]] w fun e w' => e = .returned (.bool r) ∧ Below w.heap.size w w' := by
  have hu51 := Try.underlying51
  have hu27 := Try.underlying27
  have HR1_2 := Aside0.mk hr1_2
  have HC1_2 := Aside0.mk hc1_2
  clear hr1_2 hc1_2
  have HR1_3 := Aside0.mk hr1_3
  have HC1_3 := Aside0.mk hc1_3
  clear hr1_3 hc1_3
  have HR1_4 := Aside0.mk hr1_4
  have HC1_4 := Aside0.mk hc1_4
  clear hr1_4 hc1_4
  have HR1_5 := Aside0.mk hr1_5
  have HC1_5 := Aside0.mk hc1_5
  clear hr1_5 hc1_5
  have HR1_6 := Aside0.mk hr1_6
  have HC1_6 := Aside0.mk hc1_6
  clear hr1_6 hc1_6
  have HB := Aside0.mk (Below.refl w.heap.size w)
  have H : (if a0_1 = 1 then (object_lies.j0 k (l1_5.length : Int) a0_0 a0_1 a0_2 a0_3 a0_4 a0_5) else (object_lies.j0 k (l1_6.length : Int) a0_0 a0_1 a0_2 a0_3 a0_4 a0_5)) = some r := h
  clear h
  have HC3 := Aside0.mk H
  clear H
  go_enter Try.func28, Try.ntmps28
  go_upto_if 11 with (first | ((with_reducible refine gate_dst (N := 2) rfl ?_); refine box_event ?hg (N := 2) ?hd (cs := #[.string a0_0, .int .i64 a0_1, .bool a0_2, .int .i64 a0_3, .int .i64 a0_4, .int .i64 a0_5]) (t := 51) ?hr ?_; (case hd => rfl); (case hg => rfl); (case hr => first | (go_simp; done) | (go_simp; rfl)); intro gb188 hg w4 hbox hb; have n0_ := Aside0.mk (below_step (by repeat (first | (with_reducible first | exact HB.out | apply below_alloc | apply pw_below_drewN | apply below_drew1) | exact HB.out)) hb); have n1_ := Aside0.mk (hbox); have n2_ := Aside0.mk ((by rw [hg]; exact (below_size (by repeat (first | (with_reducible first | exact HB.out | apply below_alloc | apply pw_below_drewN | apply below_drew1) | exact HB.out))) : w.heap.size ≤ gb188)); have n3_ := Aside0.mk ((by rw [hg]; exact (below_size (by repeat (first | (with_reducible first | exact HB.out | apply below_alloc | apply pw_below_drewN | apply below_drew1) | exact HB.out))) : w.heap.size ≤ gb188)); clear HB; have HB := n0_; have BK188 := n1_; have GW188 := n2_; have GE188 := n3_; clear n0_ n1_ n2_ n3_; clear hb hbox hg) | ((with_reducible refine gate_dst (N := 3) rfl ?_); refine box_event ?hg (N := 3) ?hd (cs := #[.string a1_0, .int .i64 a1_1, .slice A1_2 l1_2.length c1_2, .slice A1_3 l1_3.length c1_3, .slice A1_4 l1_4.length c1_4, .slice A1_5 l1_5.length c1_5, .slice A1_6 l1_6.length c1_6]) (t := 27) ?hr ?_; (case hd => rfl); (case hg => rfl); (case hr => first | (go_simp; done) | (go_simp; rfl)); intro gb189 hg w5 hbox hb; have n0_ := Aside0.mk (blk_below (g := gb188) (o := .cells #[.string a0_0, .int .i64 a0_1, .bool a0_2, .int .i64 a0_3, .int .i64 a0_4, .int .i64 a0_5] 51 (0, 0)) (by (with_reducible repeat (first | refine blk_drewN ?_ _ | refine blk_drew ?_ | refine blk_alloc ?_ _)); exact BK188.out) hb); have n1_ := Aside0.mk (below_step (by repeat (first | (with_reducible first | exact HB.out | apply below_alloc | apply pw_below_drewN | apply below_drew1 | refine below_set ?_ GE188.out) | exact HB.out)) hb); have n2_ := Aside0.mk (hbox); have n3_ := Aside0.mk ((by rw [hg]; exact (below_size (by repeat (first | (with_reducible first | exact HB.out | apply below_alloc | apply pw_below_drewN | apply below_drew1 | refine below_set ?_ GE188.out) | exact HB.out))) : w.heap.size ≤ gb189)); have n4_ := Aside0.mk ((by rw [hg]; exact (below_size (by repeat (first | (with_reducible first | exact HB.out | apply below_alloc | apply pw_below_drewN | apply below_drew1 | refine below_set ?_ GE188.out) | exact HB.out))) : w.heap.size ≤ gb189)); have n5_ := Aside0.mk ((by rw [hg]; exact Nat.ne_of_lt (blk_lt (g := gb188) (o := .cells #[.string a0_0, .int .i64 a0_1, .bool a0_2, .int .i64 a0_3, .int .i64 a0_4, .int .i64 a0_5] 51 (0, 0)) (by (with_reducible repeat (first | refine blk_drewN ?_ _ | refine blk_drew ?_ | refine blk_alloc ?_ _)); exact BK188.out)) : gb188 ≠ gb189)); have n6_ := Aside0.mk ((by rw [hg]; exact Nat.ne_of_gt (blk_lt (g := gb188) (o := .cells #[.string a0_0, .int .i64 a0_1, .bool a0_2, .int .i64 a0_3, .int .i64 a0_4, .int .i64 a0_5] 51 (0, 0)) (by (with_reducible repeat (first | refine blk_drewN ?_ _ | refine blk_drew ?_ | refine blk_alloc ?_ _)); exact BK188.out)) : gb189 ≠ gb188)); clear BK188; clear HB; have BK188 := n0_; have HB := n1_; have BK189 := n2_; have GW189 := n3_; have GE189 := n4_; have NB188_189 := n5_; have NB189_188 := n6_; clear n0_ n1_ n2_ n3_ n4_ n5_ n6_; clear hb hbox hg; have hnb6 := NB189_188.out; have hnc6 := NB188_189.out; have hcz7_0 : w5.cell? ⟨gb189, 0, none⟩ = some (.string a1_0) := (blk_cell BK189.out 0).trans rfl; have hcz7_1 : w5.cell? ⟨gb189, 1, none⟩ = some (.int .i64 a1_1) := (blk_cell BK189.out 1).trans rfl; have hcz7_2 : w5.cell? ⟨gb189, 2, none⟩ = some (.slice A1_2 l1_2.length c1_2) := (blk_cell BK189.out 2).trans rfl; have hcz7_3 : w5.cell? ⟨gb189, 3, none⟩ = some (.slice A1_3 l1_3.length c1_3) := (blk_cell BK189.out 3).trans rfl; have hcz7_4 : w5.cell? ⟨gb189, 4, none⟩ = some (.slice A1_4 l1_4.length c1_4) := (blk_cell BK189.out 4).trans rfl; have hcz7_5 : w5.cell? ⟨gb189, 5, none⟩ = some (.slice A1_5 l1_5.length c1_5) := (blk_cell BK189.out 5).trans rfl; have hcz7_6 : w5.cell? ⟨gb189, 6, none⟩ = some (.slice A1_6 l1_6.length c1_6) := (blk_cell BK189.out 6).trans rfl; have hfz7_0 := blk_frozen BK189.out 0; have hfz7_1 := blk_frozen BK189.out 1; have hfz7_2 := blk_frozen BK189.out 2; have hfz7_3 := blk_frozen BK189.out 3; have hfz7_4 := blk_frozen BK189.out 4; have hfz7_5 := blk_frozen BK189.out 5; have hfz7_6 := blk_frozen BK189.out 6; have hcz8_0 : w5.cell? ⟨gb188, 0, none⟩ = some (.string a0_0) := (blk_cell BK188.out 0).trans rfl; have hcz8_1 : w5.cell? ⟨gb188, 1, none⟩ = some (.int .i64 a0_1) := (blk_cell BK188.out 1).trans rfl; have hcz8_2 : w5.cell? ⟨gb188, 2, none⟩ = some (.bool a0_2) := (blk_cell BK188.out 2).trans rfl; have hcz8_3 : w5.cell? ⟨gb188, 3, none⟩ = some (.int .i64 a0_3) := (blk_cell BK188.out 3).trans rfl; have hcz8_4 : w5.cell? ⟨gb188, 4, none⟩ = some (.int .i64 a0_4) := (blk_cell BK188.out 4).trans rfl; have hcz8_5 : w5.cell? ⟨gb188, 5, none⟩ = some (.int .i64 a0_5) := (blk_cell BK188.out 5).trans rfl; have hfz8_0 := blk_frozen BK188.out 0; have hfz8_1 := blk_frozen BK188.out 1; have hfz8_2 := blk_frozen BK188.out 2; have hfz8_3 := blk_frozen BK188.out 3; have hfz8_4 := blk_frozen BK188.out 4; have hfz8_5 := blk_frozen BK188.out 5))
  (try simp only [Act.put, List.setIfInBounds_toArray, List.set_cons_zero, List.set_cons_succ])
  go_cut [5] (fun v5 wc => ∃ (kq : Nat) (x5_2 : Int), v5 = .int .i64 x5_2 ∧ Aside0 (object_lies.j0 kq x5_2 a0_0 a0_1 a0_2 a0_3 a0_4 a0_5 = some r) ∧ Aside0 (kq ≤ k) ∧ Aside0 (wc.heap[gb188]? = some (.cells #[.string a0_0, .int .i64 a0_1, .bool a0_2, .int .i64 a0_3, .int .i64 a0_4, .int .i64 a0_5] 51 (0, 0))) ∧ Aside0 (wc.heap[gb189]? = some (.cells #[.string a1_0, .int .i64 a1_1, (.slice A1_2 l1_2.length c1_2), (.slice A1_3 l1_3.length c1_3), (.slice A1_4 l1_4.length c1_4), (.slice A1_5 l1_5.length c1_5), (.slice A1_6 l1_6.length c1_6)] 27 (0, 0))) ∧ Aside0 (Below w.heap.size w wc))
  case first =>
    have H := HC3.out
    clear HC3
    by_cases c9 : a0_1 = 1
    · rw [if_pos c9] at H
      have c9b0 : (a0_1 == 1) = true := beq_iff_eq.mpr c9
      have c9b1 : (a0_1 != 1) = false := bne_eq_false_iff_eq.mpr c9
      clear c9
      (first | rw [c9b0] | (simp only [i64_w, i32_w]; rw [c9b0]) | skip)
      have H' := Aside0.mk H
      clear H
      have hnb10 := NB189_188.out
      have hnc10 := NB188_189.out
      have hcz11_0 : w5.cell? ⟨gb189, 0, none⟩ = some (.string a1_0) := (blk_cell BK189.out 0).trans rfl
      have hcz11_1 : w5.cell? ⟨gb189, 1, none⟩ = some (.int .i64 a1_1) := (blk_cell BK189.out 1).trans rfl
      have hcz11_2 : w5.cell? ⟨gb189, 2, none⟩ = some (.slice A1_2 l1_2.length c1_2) := (blk_cell BK189.out 2).trans rfl
      have hcz11_3 : w5.cell? ⟨gb189, 3, none⟩ = some (.slice A1_3 l1_3.length c1_3) := (blk_cell BK189.out 3).trans rfl
      have hcz11_4 : w5.cell? ⟨gb189, 4, none⟩ = some (.slice A1_4 l1_4.length c1_4) := (blk_cell BK189.out 4).trans rfl
      have hcz11_5 : w5.cell? ⟨gb189, 5, none⟩ = some (.slice A1_5 l1_5.length c1_5) := (blk_cell BK189.out 5).trans rfl
      have hcz11_6 : w5.cell? ⟨gb189, 6, none⟩ = some (.slice A1_6 l1_6.length c1_6) := (blk_cell BK189.out 6).trans rfl
      have hfz11_0 := blk_frozen BK189.out 0
      have hfz11_1 := blk_frozen BK189.out 1
      have hfz11_2 := blk_frozen BK189.out 2
      have hfz11_3 := blk_frozen BK189.out 3
      have hfz11_4 := blk_frozen BK189.out 4
      have hfz11_5 := blk_frozen BK189.out 5
      have hfz11_6 := blk_frozen BK189.out 6
      go_wp2
      go_meet
      case rel => exact ⟨_, ((l1_5.length : Int)), (by first | rfl | (simp; done) | (simp [*]; done)), H', ⟨by first | omega | exact Nat.le_refl _⟩, ⟨by (with_reducible repeat (first | refine blk_drewN ?_ _ | refine blk_drew ?_ | refine blk_alloc ?_ _)); exact BK188.out⟩, ⟨by (with_reducible repeat (first | refine blk_drewN ?_ _ | refine blk_drew ?_ | refine blk_alloc ?_ _)); exact BK189.out⟩, ⟨by repeat (first | (with_reducible first | exact HB.out | apply below_alloc | apply pw_below_drewN | apply below_drew1 | refine below_set ?_ GE188.out | refine below_set ?_ GE189.out) | exact HB.out)⟩⟩
    · rw [if_neg c9] at H
      have c9b0 : (a0_1 == 1) = false := beq_eq_false_iff_ne.mpr c9
      have c9b1 : (a0_1 != 1) = true := bne_iff_ne.mpr c9
      (first | rw [c9b0] | (simp only [i64_w, i32_w]; rw [c9b0]) | skip)
      have H' := Aside0.mk H
      clear H
      go_wp2
      go_meet
      case rel => exact ⟨_, ((l1_6.length : Int)), (by first | rfl | (simp; done) | (simp [*]; done)), H', ⟨by first | omega | exact Nat.le_refl _⟩, ⟨by (with_reducible repeat (first | refine blk_drewN ?_ _ | refine blk_drew ?_ | refine blk_alloc ?_ _)); exact BK188.out⟩, ⟨by (with_reducible repeat (first | refine blk_drewN ?_ _ | refine blk_drew ?_ | refine blk_alloc ?_ _)); exact BK189.out⟩, ⟨by repeat (first | (with_reducible first | exact HB.out | apply below_alloc | apply pw_below_drewN | apply below_drew1 | refine below_set ?_ GE188.out | refine below_set ?_ GE189.out) | exact HB.out)⟩⟩
  case rest =>
    clear HC3
    try clear c1
    try clear c2
    try clear p2
    try clear c6
    try clear c9
    try clear c9b0
    try clear c9b1
    try clear c10
    try clear hcz11_0
    try clear hcz11_1
    try clear hcz11_2
    try clear hcz11_3
    try clear hcz11_4
    try clear hcz11_5
    try clear hcz11_6
    try clear hcz7_0
    try clear hcz7_1
    try clear hcz7_2
    try clear hcz7_3
    try clear hcz7_4
    try clear hcz7_5
    try clear hcz7_6
    try clear hcz8_0
    try clear hcz8_1
    try clear hcz8_2
    try clear hcz8_3
    try clear hcz8_4
    try clear hcz8_5
    try clear hfz11_0
    try clear hfz11_1
    try clear hfz11_2
    try clear hfz11_3
    try clear hfz11_4
    try clear hfz11_5
    try clear hfz11_6
    try clear hfz7_0
    try clear hfz7_1
    try clear hfz7_2
    try clear hfz7_3
    try clear hfz7_4
    try clear hfz7_5
    try clear hfz7_6
    try clear hfz8_0
    try clear hfz8_1
    try clear hfz8_2
    try clear hfz8_3
    try clear hfz8_4
    try clear hfz8_5
    obtain ⟨kq, x5_2, rfl, HA, HJ2, BK188, BK189, HB⟩ := hcut
    cases kq with
    | zero => exact absurd HA.out (by simp [object_lies.j0])
    | succ kj2 =>
      have H := HA.out
      clear HA
      simp only [object_lies.j0] at H
      have HC12 := Aside0.mk H
      clear H
      go_upto_region 4 with (fail)
      go_cut [15] (fun v15 wc => ∃ (kq : Nat) (x15_11 : Bool), v15 = .bool x15_11 ∧ Aside0 (object_lies.j1 kq x15_11 a0_0 a0_1 a0_2 a0_3 a0_4 a0_5 = some r) ∧ Aside0 (kq ≤ kj2) ∧ Aside0 (wc.heap[gb188]? = some (.cells #[.string a0_0, .int .i64 a0_1, .bool a0_2, .int .i64 a0_3, .int .i64 a0_4, .int .i64 a0_5] 51 (0, 0))) ∧ Aside0 (wc.heap[gb189]? = some (.cells #[.string a1_0, .int .i64 a1_1, (.slice A1_2 l1_2.length c1_2), (.slice A1_3 l1_3.length c1_3), (.slice A1_4 l1_4.length c1_4), (.slice A1_5 l1_5.length c1_5), (.slice A1_6 l1_6.length c1_6)] 27 (0, 0))) ∧ Aside0 (Below w.heap.size w wc))
      case first =>
        have H := HC12.out
        clear HC12
        by_cases c13 : a0_3 < 0
        · rw [if_pos c13] at H
          have c13b0 : decide (a0_3 < 0) = true := decide_eq_true c13
          clear c13
          (first | rw [c13b0] | (simp only [i64_w, i32_w]; rw [c13b0]) | skip)
          have H' := Aside0.mk H
          clear H
          have hnb14 := NB188_189.out
          have hnc14 := NB189_188.out
          have hcz15_0 : wc.cell? ⟨gb188, 0, none⟩ = some (.string a0_0) := (blk_cell BK188.out 0).trans rfl
          have hcz15_1 : wc.cell? ⟨gb188, 1, none⟩ = some (.int .i64 a0_1) := (blk_cell BK188.out 1).trans rfl
          have hcz15_2 : wc.cell? ⟨gb188, 2, none⟩ = some (.bool a0_2) := (blk_cell BK188.out 2).trans rfl
          have hcz15_3 : wc.cell? ⟨gb188, 3, none⟩ = some (.int .i64 a0_3) := (blk_cell BK188.out 3).trans rfl
          have hcz15_4 : wc.cell? ⟨gb188, 4, none⟩ = some (.int .i64 a0_4) := (blk_cell BK188.out 4).trans rfl
          have hcz15_5 : wc.cell? ⟨gb188, 5, none⟩ = some (.int .i64 a0_5) := (blk_cell BK188.out 5).trans rfl
          have hfz15_0 := blk_frozen BK188.out 0
          have hfz15_1 := blk_frozen BK188.out 1
          have hfz15_2 := blk_frozen BK188.out 2
          have hfz15_3 := blk_frozen BK188.out 3
          have hfz15_4 := blk_frozen BK188.out 4
          have hfz15_5 := blk_frozen BK188.out 5
          go_wp2
          go_meet
          case rel => exact ⟨_, (true), (by first | rfl | (simp; done) | (simp [*]; done)), H', ⟨by have := HJ2.out; first | omega | exact Nat.le_refl _⟩, ⟨by (with_reducible repeat (first | refine blk_drewN ?_ _ | refine blk_drew ?_ | refine blk_alloc ?_ _)); exact BK188.out⟩, ⟨by (with_reducible repeat (first | refine blk_drewN ?_ _ | refine blk_drew ?_ | refine blk_alloc ?_ _)); exact BK189.out⟩, ⟨by repeat (first | (with_reducible first | exact HB.out | apply below_alloc | apply pw_below_drewN | apply below_drew1 | refine below_set ?_ GE188.out | refine below_set ?_ GE189.out) | exact HB.out)⟩⟩
        · rw [if_neg c13] at H
          have c13b0 : decide (a0_3 < 0) = false := decide_eq_false c13
          clear c13
          (first | rw [c13b0] | (simp only [i64_w, i32_w]; rw [c13b0]) | skip)
          by_cases c16 : a0_3 > x5_2
          · rw [if_pos c16] at H
            have c16b0 : decide (x5_2 < a0_3) = true := decide_eq_true c16
            clear c16
            have H' := Aside0.mk H
            clear H
            have hnb17 := NB188_189.out
            have hnc17 := NB189_188.out
            have hcz18_0 : wc.cell? ⟨gb188, 0, none⟩ = some (.string a0_0) := (blk_cell BK188.out 0).trans rfl
            have hcz18_1 : wc.cell? ⟨gb188, 1, none⟩ = some (.int .i64 a0_1) := (blk_cell BK188.out 1).trans rfl
            have hcz18_2 : wc.cell? ⟨gb188, 2, none⟩ = some (.bool a0_2) := (blk_cell BK188.out 2).trans rfl
            have hcz18_3 : wc.cell? ⟨gb188, 3, none⟩ = some (.int .i64 a0_3) := (blk_cell BK188.out 3).trans rfl
            have hcz18_4 : wc.cell? ⟨gb188, 4, none⟩ = some (.int .i64 a0_4) := (blk_cell BK188.out 4).trans rfl
            have hcz18_5 : wc.cell? ⟨gb188, 5, none⟩ = some (.int .i64 a0_5) := (blk_cell BK188.out 5).trans rfl
            have hfz18_0 := blk_frozen BK188.out 0
            have hfz18_1 := blk_frozen BK188.out 1
            have hfz18_2 := blk_frozen BK188.out 2
            have hfz18_3 := blk_frozen BK188.out 3
            have hfz18_4 := blk_frozen BK188.out 4
            have hfz18_5 := blk_frozen BK188.out 5
            go_wp2
            go_meet
            case rel => exact ⟨_, (true), (by first | rfl | (simp; done) | (simp [*]; done)), H', ⟨by have := HJ2.out; first | omega | exact Nat.le_refl _⟩, ⟨by (with_reducible repeat (first | refine blk_drewN ?_ _ | refine blk_drew ?_ | refine blk_alloc ?_ _)); exact BK188.out⟩, ⟨by (with_reducible repeat (first | refine blk_drewN ?_ _ | refine blk_drew ?_ | refine blk_alloc ?_ _)); exact BK189.out⟩, ⟨by repeat (first | (with_reducible first | exact HB.out | apply below_alloc | apply pw_below_drewN | apply below_drew1 | refine below_set ?_ GE188.out | refine below_set ?_ GE189.out) | exact HB.out)⟩⟩
          · rw [if_neg c16] at H
            have c16b0 : decide (x5_2 < a0_3) = false := decide_eq_false c16
            clear c16
            by_cases c19 : a0_4 < 0
            · rw [if_pos c19] at H
              have c19b0 : decide (a0_4 < 0) = true := decide_eq_true c19
              clear c19
              have H' := Aside0.mk H
              clear H
              have hnb20 := NB188_189.out
              have hnc20 := NB189_188.out
              have hcz21_0 : wc.cell? ⟨gb188, 0, none⟩ = some (.string a0_0) := (blk_cell BK188.out 0).trans rfl
              have hcz21_1 : wc.cell? ⟨gb188, 1, none⟩ = some (.int .i64 a0_1) := (blk_cell BK188.out 1).trans rfl
              have hcz21_2 : wc.cell? ⟨gb188, 2, none⟩ = some (.bool a0_2) := (blk_cell BK188.out 2).trans rfl
              have hcz21_3 : wc.cell? ⟨gb188, 3, none⟩ = some (.int .i64 a0_3) := (blk_cell BK188.out 3).trans rfl
              have hcz21_4 : wc.cell? ⟨gb188, 4, none⟩ = some (.int .i64 a0_4) := (blk_cell BK188.out 4).trans rfl
              have hcz21_5 : wc.cell? ⟨gb188, 5, none⟩ = some (.int .i64 a0_5) := (blk_cell BK188.out 5).trans rfl
              have hfz21_0 := blk_frozen BK188.out 0
              have hfz21_1 := blk_frozen BK188.out 1
              have hfz21_2 := blk_frozen BK188.out 2
              have hfz21_3 := blk_frozen BK188.out 3
              have hfz21_4 := blk_frozen BK188.out 4
              have hfz21_5 := blk_frozen BK188.out 5
              go_wp2
              go_meet
              case rel => exact ⟨_, (true), (by first | rfl | (simp; done) | (simp [*]; done)), H', ⟨by have := HJ2.out; first | omega | exact Nat.le_refl _⟩, ⟨by (with_reducible repeat (first | refine blk_drewN ?_ _ | refine blk_drew ?_ | refine blk_alloc ?_ _)); exact BK188.out⟩, ⟨by (with_reducible repeat (first | refine blk_drewN ?_ _ | refine blk_drew ?_ | refine blk_alloc ?_ _)); exact BK189.out⟩, ⟨by repeat (first | (with_reducible first | exact HB.out | apply below_alloc | apply pw_below_drewN | apply below_drew1 | refine below_set ?_ GE188.out | refine below_set ?_ GE189.out) | exact HB.out)⟩⟩
            · rw [if_neg c19] at H
              have c19b0 : decide (a0_4 < 0) = false := decide_eq_false c19
              clear c19
              have H' := Aside0.mk H
              clear H
              have hnb22 := NB188_189.out
              have hnc22 := NB189_188.out
              have hcz23_0 : wc.cell? ⟨gb188, 0, none⟩ = some (.string a0_0) := (blk_cell BK188.out 0).trans rfl
              have hcz23_1 : wc.cell? ⟨gb188, 1, none⟩ = some (.int .i64 a0_1) := (blk_cell BK188.out 1).trans rfl
              have hcz23_2 : wc.cell? ⟨gb188, 2, none⟩ = some (.bool a0_2) := (blk_cell BK188.out 2).trans rfl
              have hcz23_3 : wc.cell? ⟨gb188, 3, none⟩ = some (.int .i64 a0_3) := (blk_cell BK188.out 3).trans rfl
              have hcz23_4 : wc.cell? ⟨gb188, 4, none⟩ = some (.int .i64 a0_4) := (blk_cell BK188.out 4).trans rfl
              have hcz23_5 : wc.cell? ⟨gb188, 5, none⟩ = some (.int .i64 a0_5) := (blk_cell BK188.out 5).trans rfl
              have hfz23_0 := blk_frozen BK188.out 0
              have hfz23_1 := blk_frozen BK188.out 1
              have hfz23_2 := blk_frozen BK188.out 2
              have hfz23_3 := blk_frozen BK188.out 3
              have hfz23_4 := blk_frozen BK188.out 4
              have hfz23_5 := blk_frozen BK188.out 5
              go_wp2
              go_meet
              case rel => exact ⟨_, (decide (a0_4 > (wrap64 (x5_2 - a0_3)))), (by first | rfl | (simp; done) | (simp [*]; done)), H', ⟨by have := HJ2.out; first | omega | exact Nat.le_refl _⟩, ⟨by (with_reducible repeat (first | refine blk_drewN ?_ _ | refine blk_drew ?_ | refine blk_alloc ?_ _)); exact BK188.out⟩, ⟨by (with_reducible repeat (first | refine blk_drewN ?_ _ | refine blk_drew ?_ | refine blk_alloc ?_ _)); exact BK189.out⟩, ⟨by repeat (first | (with_reducible first | exact HB.out | apply below_alloc | apply pw_below_drewN | apply below_drew1 | refine below_set ?_ GE188.out | refine below_set ?_ GE189.out) | exact HB.out)⟩⟩
      case rest =>
        clear HC12
        try clear c1
        try clear c2
        try clear p2
        try clear c6
        try clear p6
        try clear c9
        try clear c9b0
        try clear c9b1
        try clear c10
        try clear c13
        try clear c13b0
        try clear c14
        try clear c16
        try clear c16b0
        try clear c17
        try clear c19
        try clear c19b0
        try clear c20
        try clear c22
        try clear hcz11_0
        try clear hcz11_1
        try clear hcz11_2
        try clear hcz11_3
        try clear hcz11_4
        try clear hcz11_5
        try clear hcz11_6
        try clear hcz15_0
        try clear hcz15_1
        try clear hcz15_2
        try clear hcz15_3
        try clear hcz15_4
        try clear hcz15_5
        try clear hcz18_0
        try clear hcz18_1
        try clear hcz18_2
        try clear hcz18_3
        try clear hcz18_4
        try clear hcz18_5
        try clear hcz21_0
        try clear hcz21_1
        try clear hcz21_2
        try clear hcz21_3
        try clear hcz21_4
        try clear hcz21_5
        try clear hcz23_0
        try clear hcz23_1
        try clear hcz23_2
        try clear hcz23_3
        try clear hcz23_4
        try clear hcz23_5
        try clear hcz7_0
        try clear hcz7_1
        try clear hcz7_2
        try clear hcz7_3
        try clear hcz7_4
        try clear hcz7_5
        try clear hcz7_6
        try clear hcz8_0
        try clear hcz8_1
        try clear hcz8_2
        try clear hcz8_3
        try clear hcz8_4
        try clear hcz8_5
        try clear hfz11_0
        try clear hfz11_1
        try clear hfz11_2
        try clear hfz11_3
        try clear hfz11_4
        try clear hfz11_5
        try clear hfz11_6
        try clear hfz15_0
        try clear hfz15_1
        try clear hfz15_2
        try clear hfz15_3
        try clear hfz15_4
        try clear hfz15_5
        try clear hfz18_0
        try clear hfz18_1
        try clear hfz18_2
        try clear hfz18_3
        try clear hfz18_4
        try clear hfz18_5
        try clear hfz21_0
        try clear hfz21_1
        try clear hfz21_2
        try clear hfz21_3
        try clear hfz21_4
        try clear hfz21_5
        try clear hfz23_0
        try clear hfz23_1
        try clear hfz23_2
        try clear hfz23_3
        try clear hfz23_4
        try clear hfz23_5
        try clear hfz7_0
        try clear hfz7_1
        try clear hfz7_2
        try clear hfz7_3
        try clear hfz7_4
        try clear hfz7_5
        try clear hfz7_6
        try clear hfz8_0
        try clear hfz8_1
        try clear hfz8_2
        try clear hfz8_3
        try clear hfz8_4
        try clear hfz8_5
        try clear p2
        obtain ⟨kq, x15_11, rfl, HA, HJ11, BK188, BK189, HB⟩ := hcut
        cases kq with
        | zero => exact absurd HA.out (by simp [object_lies.j1])
        | succ kj11 =>
          have H := HA.out
          clear HA
          simp only [object_lies.j1] at H
          by_cases c24 : x15_11 = true
          · subst c24
            have H1 : (some false) = some r := by rw [if_pos rfl] at H; exact H
            clear H
            have H := H1
            clear H1
            obtain rfl := Option.some.inj H
            go_wp2
            go_ret
            exact ⟨by first | rfl | (simp [errW_none, errW_some] <;> rfl) | (simp [*, errW_none, errW_some] <;> rfl), by repeat (first | (with_reducible first | exact HB.out | apply below_alloc | apply pw_below_drewN | apply below_drew1 | refine below_set ?_ GE188.out | refine below_set ?_ GE189.out) | exact HB.out)⟩
          · replace c24 := Bool.eq_false_iff.mpr c24
            subst c24
            have H1 : (if a0_1 = 1 then (if a0_4 ≥ 1 then (if a0_5 ≥ 0 then (some (decide (a0_5 ≤ 262144))) else (some false)) else (some false)) else (if a0_1 = 2 then (some (a0_5 == 0)) else (some false))) = some r := by rw [if_neg (show ¬ (false = true) by decide)] at H; exact H
            clear H
            have H := H1
            clear H1
            by_cases c25 : a0_1 = 1
            · rw [if_pos c25] at H
              have c25b0 : (a0_1 == 1) = true := beq_iff_eq.mpr c25
              have c25b1 : (a0_1 != 1) = false := bne_eq_false_iff_eq.mpr c25
              clear c25
              by_cases c26 : a0_4 ≥ 1
              · rw [if_pos c26] at H
                have c26b0 : decide (1 ≤ a0_4) = true := decide_eq_true c26
                clear c26
                by_cases c27 : a0_5 ≥ 0
                · rw [if_pos c27] at H
                  have c27b0 : decide (0 ≤ a0_5) = true := decide_eq_true c27
                  clear c27
                  obtain rfl := Option.some.inj H
                  have hnb28 := NB188_189.out
                  have hnc28 := NB189_188.out
                  have hcz29_0 : wc.cell? ⟨gb188, 0, none⟩ = some (.string a0_0) := (blk_cell BK188.out 0).trans rfl
                  have hcz29_1 : wc.cell? ⟨gb188, 1, none⟩ = some (.int .i64 a0_1) := (blk_cell BK188.out 1).trans rfl
                  have hcz29_2 : wc.cell? ⟨gb188, 2, none⟩ = some (.bool a0_2) := (blk_cell BK188.out 2).trans rfl
                  have hcz29_3 : wc.cell? ⟨gb188, 3, none⟩ = some (.int .i64 a0_3) := (blk_cell BK188.out 3).trans rfl
                  have hcz29_4 : wc.cell? ⟨gb188, 4, none⟩ = some (.int .i64 a0_4) := (blk_cell BK188.out 4).trans rfl
                  have hcz29_5 : wc.cell? ⟨gb188, 5, none⟩ = some (.int .i64 a0_5) := (blk_cell BK188.out 5).trans rfl
                  have hfz29_0 := blk_frozen BK188.out 0
                  have hfz29_1 := blk_frozen BK188.out 1
                  have hfz29_2 := blk_frozen BK188.out 2
                  have hfz29_3 := blk_frozen BK188.out 3
                  have hfz29_4 := blk_frozen BK188.out 4
                  have hfz29_5 := blk_frozen BK188.out 5
                  go_wp2
                  go_ret
                  exact ⟨by first | rfl | (simp [errW_none, errW_some] <;> rfl) | (simp [*, errW_none, errW_some] <;> rfl), by repeat (first | (with_reducible first | exact HB.out | apply below_alloc | apply pw_below_drewN | apply below_drew1 | refine below_set ?_ GE188.out | refine below_set ?_ GE189.out) | exact HB.out)⟩
                · rw [if_neg c27] at H
                  have c27b0 : decide (0 ≤ a0_5) = false := decide_eq_false c27
                  clear c27
                  obtain rfl := Option.some.inj H
                  have hnb30 := NB188_189.out
                  have hnc30 := NB189_188.out
                  have hcz31_0 : wc.cell? ⟨gb188, 0, none⟩ = some (.string a0_0) := (blk_cell BK188.out 0).trans rfl
                  have hcz31_1 : wc.cell? ⟨gb188, 1, none⟩ = some (.int .i64 a0_1) := (blk_cell BK188.out 1).trans rfl
                  have hcz31_2 : wc.cell? ⟨gb188, 2, none⟩ = some (.bool a0_2) := (blk_cell BK188.out 2).trans rfl
                  have hcz31_3 : wc.cell? ⟨gb188, 3, none⟩ = some (.int .i64 a0_3) := (blk_cell BK188.out 3).trans rfl
                  have hcz31_4 : wc.cell? ⟨gb188, 4, none⟩ = some (.int .i64 a0_4) := (blk_cell BK188.out 4).trans rfl
                  have hcz31_5 : wc.cell? ⟨gb188, 5, none⟩ = some (.int .i64 a0_5) := (blk_cell BK188.out 5).trans rfl
                  have hfz31_0 := blk_frozen BK188.out 0
                  have hfz31_1 := blk_frozen BK188.out 1
                  have hfz31_2 := blk_frozen BK188.out 2
                  have hfz31_3 := blk_frozen BK188.out 3
                  have hfz31_4 := blk_frozen BK188.out 4
                  have hfz31_5 := blk_frozen BK188.out 5
                  go_wp2
                  go_ret
                  exact ⟨by first | rfl | (simp [errW_none, errW_some] <;> rfl) | (simp [*, errW_none, errW_some] <;> rfl), by repeat (first | (with_reducible first | exact HB.out | apply below_alloc | apply pw_below_drewN | apply below_drew1 | refine below_set ?_ GE188.out | refine below_set ?_ GE189.out) | exact HB.out)⟩
              · rw [if_neg c26] at H
                have c26b0 : decide (1 ≤ a0_4) = false := decide_eq_false c26
                clear c26
                obtain rfl := Option.some.inj H
                have hnb32 := NB188_189.out
                have hnc32 := NB189_188.out
                have hcz33_0 : wc.cell? ⟨gb188, 0, none⟩ = some (.string a0_0) := (blk_cell BK188.out 0).trans rfl
                have hcz33_1 : wc.cell? ⟨gb188, 1, none⟩ = some (.int .i64 a0_1) := (blk_cell BK188.out 1).trans rfl
                have hcz33_2 : wc.cell? ⟨gb188, 2, none⟩ = some (.bool a0_2) := (blk_cell BK188.out 2).trans rfl
                have hcz33_3 : wc.cell? ⟨gb188, 3, none⟩ = some (.int .i64 a0_3) := (blk_cell BK188.out 3).trans rfl
                have hcz33_4 : wc.cell? ⟨gb188, 4, none⟩ = some (.int .i64 a0_4) := (blk_cell BK188.out 4).trans rfl
                have hcz33_5 : wc.cell? ⟨gb188, 5, none⟩ = some (.int .i64 a0_5) := (blk_cell BK188.out 5).trans rfl
                have hfz33_0 := blk_frozen BK188.out 0
                have hfz33_1 := blk_frozen BK188.out 1
                have hfz33_2 := blk_frozen BK188.out 2
                have hfz33_3 := blk_frozen BK188.out 3
                have hfz33_4 := blk_frozen BK188.out 4
                have hfz33_5 := blk_frozen BK188.out 5
                go_wp2
                go_ret
                exact ⟨by first | rfl | (simp [errW_none, errW_some] <;> rfl) | (simp [*, errW_none, errW_some] <;> rfl), by repeat (first | (with_reducible first | exact HB.out | apply below_alloc | apply pw_below_drewN | apply below_drew1 | refine below_set ?_ GE188.out | refine below_set ?_ GE189.out) | exact HB.out)⟩
            · rw [if_neg c25] at H
              have c25b0 : (a0_1 == 1) = false := beq_eq_false_iff_ne.mpr c25
              have c25b1 : (a0_1 != 1) = true := bne_iff_ne.mpr c25
              by_cases c34 : a0_1 = 2
              · rw [if_pos c34] at H
                have c34b0 : (a0_1 == 2) = true := beq_iff_eq.mpr c34
                have c34b1 : (a0_1 != 2) = false := bne_eq_false_iff_eq.mpr c34
                clear c34
                obtain rfl := Option.some.inj H
                have hnb35 := NB188_189.out
                have hnc35 := NB189_188.out
                have hcz36_0 : wc.cell? ⟨gb188, 0, none⟩ = some (.string a0_0) := (blk_cell BK188.out 0).trans rfl
                have hcz36_1 : wc.cell? ⟨gb188, 1, none⟩ = some (.int .i64 a0_1) := (blk_cell BK188.out 1).trans rfl
                have hcz36_2 : wc.cell? ⟨gb188, 2, none⟩ = some (.bool a0_2) := (blk_cell BK188.out 2).trans rfl
                have hcz36_3 : wc.cell? ⟨gb188, 3, none⟩ = some (.int .i64 a0_3) := (blk_cell BK188.out 3).trans rfl
                have hcz36_4 : wc.cell? ⟨gb188, 4, none⟩ = some (.int .i64 a0_4) := (blk_cell BK188.out 4).trans rfl
                have hcz36_5 : wc.cell? ⟨gb188, 5, none⟩ = some (.int .i64 a0_5) := (blk_cell BK188.out 5).trans rfl
                have hfz36_0 := blk_frozen BK188.out 0
                have hfz36_1 := blk_frozen BK188.out 1
                have hfz36_2 := blk_frozen BK188.out 2
                have hfz36_3 := blk_frozen BK188.out 3
                have hfz36_4 := blk_frozen BK188.out 4
                have hfz36_5 := blk_frozen BK188.out 5
                go_wp2
                go_ret
                exact ⟨by first | rfl | (simp [errW_none, errW_some] <;> rfl) | (simp [*, errW_none, errW_some] <;> rfl), by repeat (first | (with_reducible first | exact HB.out | apply below_alloc | apply pw_below_drewN | apply below_drew1 | refine below_set ?_ GE188.out | refine below_set ?_ GE189.out) | exact HB.out)⟩
              · rw [if_neg c34] at H
                have c34b0 : (a0_1 == 2) = false := beq_eq_false_iff_ne.mpr c34
                have c34b1 : (a0_1 != 2) = true := bne_iff_ne.mpr c34
                obtain rfl := Option.some.inj H
                have hnb37 := NB188_189.out
                have hnc37 := NB189_188.out
                have hcz38_0 : wc.cell? ⟨gb188, 0, none⟩ = some (.string a0_0) := (blk_cell BK188.out 0).trans rfl
                have hcz38_1 : wc.cell? ⟨gb188, 1, none⟩ = some (.int .i64 a0_1) := (blk_cell BK188.out 1).trans rfl
                have hcz38_2 : wc.cell? ⟨gb188, 2, none⟩ = some (.bool a0_2) := (blk_cell BK188.out 2).trans rfl
                have hcz38_3 : wc.cell? ⟨gb188, 3, none⟩ = some (.int .i64 a0_3) := (blk_cell BK188.out 3).trans rfl
                have hcz38_4 : wc.cell? ⟨gb188, 4, none⟩ = some (.int .i64 a0_4) := (blk_cell BK188.out 4).trans rfl
                have hcz38_5 : wc.cell? ⟨gb188, 5, none⟩ = some (.int .i64 a0_5) := (blk_cell BK188.out 5).trans rfl
                have hfz38_0 := blk_frozen BK188.out 0
                have hfz38_1 := blk_frozen BK188.out 1
                have hfz38_2 := blk_frozen BK188.out 2
                have hfz38_3 := blk_frozen BK188.out 3
                have hfz38_4 := blk_frozen BK188.out 4
                have hfz38_5 := blk_frozen BK188.out 5
                go_wp2
                go_ret
                exact ⟨by first | rfl | (simp [errW_none, errW_some] <;> rfl) | (simp [*, errW_none, errW_some] <;> rfl), by repeat (first | (with_reducible first | exact HB.out | apply below_alloc | apply pw_below_drewN | apply below_drew1 | refine below_set ?_ GE188.out | refine below_set ?_ GE189.out) | exact HB.out)⟩

-- NOT PRINTED: function 75 (isa_of)

/-! ### isa_may: function 79 -/
def isa_may.f (a0 : Int) (a1 : Bool) : Option (Bool) := if a0 = 0 then (some true) else (if a1 = true then (if a0 > 0 then (some (decide (a0 < 16))) else (some false)) else (some false))
set_option maxHeartbeats 8000000 in
set_option maxRecDepth 100000 in
theorem isa_may.calls (a0 : Int) (a1 : Bool) (r : Bool) (w : World) (h : isa_may.f a0 a1 = some r) :
    Calls Try.prog 79 #[.int .i64 a0, .bool a1] w fun e w' => e = .returned (.bool r) ∧ Drawn0 w w' := by
  have H : (if a0 = 0 then (some true) else (if a1 = true then (if a0 > 0 then (some (decide (a0 < 16))) else (some false)) else (some false))) = some r := h
  clear h
  by_cases c3 : a0 = 0
  · rw [if_pos c3] at H
    have c3b0 : (a0 == 0) = true := beq_iff_eq.mpr c3
    have c3b1 : (a0 != 0) = false := bne_eq_false_iff_eq.mpr c3
    clear c3
    obtain rfl := Option.some.inj H
    go_enter Try.func79, Try.ntmps79
    go_wp2
    go_ret
    exact ⟨by first | rfl | (simp; done) | (simp [*]; done), by repeat (first | exact Drawn0.refl _ | apply Drawn0.step)⟩
  · rw [if_neg c3] at H
    have c3b0 : (a0 == 0) = false := beq_eq_false_iff_ne.mpr c3
    have c3b1 : (a0 != 0) = true := bne_iff_ne.mpr c3
    by_cases c4 : a1 = true
    · subst c4
      have H1 : (if a0 > 0 then (some (decide (a0 < 16))) else (some false)) = some r := by rw [if_pos rfl] at H; exact H
      clear H
      have H := H1
      clear H1
      by_cases c5 : a0 > 0
      · rw [if_pos c5] at H
        have c5b0 : decide (0 < a0) = true := decide_eq_true c5
        clear c5
        obtain rfl := Option.some.inj H
        go_enter Try.func79, Try.ntmps79
        go_wp2
        go_ret
        exact ⟨by first | rfl | (simp; done) | (simp [*]; done), by repeat (first | exact Drawn0.refl _ | apply Drawn0.step)⟩
      · rw [if_neg c5] at H
        have c5b0 : decide (0 < a0) = false := decide_eq_false c5
        clear c5
        obtain rfl := Option.some.inj H
        go_enter Try.func79, Try.ntmps79
        go_wp2
        go_ret
        exact ⟨by first | rfl | (simp; done) | (simp [*]; done), by repeat (first | exact Drawn0.refl _ | apply Drawn0.step)⟩
    · replace c4 := Bool.eq_false_iff.mpr c4
      subst c4
      have H1 : (some false) = some r := by rw [if_neg (show ¬ (false = true) by decide)] at H; exact H
      clear H
      have H := H1
      clear H1
      obtain rfl := Option.some.inj H
      go_enter Try.func79, Try.ntmps79
      go_wp2
      go_ret
      exact ⟨by first | rfl | (simp; done) | (simp [*]; done), by repeat (first | exact Drawn0.refl _ | apply Drawn0.step)⟩

-- NOT PRINTED: function 68 (isa_Encode)

-- NOT PRINTED: function 56 (isa_Decode)

-- NOT PRINTED: function 57 (isa_Uses)

-- NOT PRINTED: function 29 (object_mends)

-- NOT PRINTED: function 14 (object_Valid)

-- NOT PRINTED: function 46 (link_linker_packages)

-- NOT PRINTED: function 47 (link_linker_collect)

-- NOT PRINTED: function 48 (link_linker_symbols)

-- NOT PRINTED: function 49 (link_linker_large)

-- NOT PRINTED: function 50 (link_linker_image)

-- NOT PRINTED: function 51 (link_linker_counted)

-- NOT PRINTED: function 20 (link_Link)

/-! ### mortiselaw30_num: function 21 -/
def mortiselaw30_num.f (a0 : Int) : Option (Int) := some a0
set_option maxHeartbeats 8000000 in
set_option maxRecDepth 100000 in
theorem mortiselaw30_num.calls (a0 : Int) (r : Int) (w : World) (h : mortiselaw30_num.f a0 = some r) :
    Calls Try.prog 21 #[.int .i64 a0] w fun e w' => e = .returned (.int .i64 r) ∧ Drawn0 w w' := by
  have H : (some a0) = some r := h
  clear h
  obtain rfl := Option.some.inj H
  go_enter Try.func21, Try.ntmps21
  go_wp2
  go_ret
  exact ⟨by first | rfl | (simp; done) | (simp [*]; done), by repeat (first | exact Drawn0.refl _ | apply Drawn0.step)⟩

/-! ### mortiseref28_Words: function 23 -/
def mortiseref28_Words.l0 : Nat → List Int → List Int → Int → Option (Bool)
  | 0, _, _, _ => none
  | k + 1, x0, x1, x5 => if x5 < (x0.length : Int) then (if 0 ≤ x5 then (if x5 < (x1.length : Int) then (if (rd x0 x5) = (rd x1 x5) then (mortiseref28_Words.l0 k x0 x1 (wrap64 (x5 + 1))) else (some false)) else (none)) else (none)) else (some true)
def mortiseref28_Words.f (k : Nat) (l0 : List Int) (l1 : List Int) : Option (Bool) := if (l0.length : Int) = (l1.length : Int) then (mortiseref28_Words.l0 k l0 l1 0) else (some false)
theorem mortiseref28_Words.mono_l : ∀ k, (∀ y0 y1 y2, LeO (mortiseref28_Words.l0 k y0 y1 y2) (mortiseref28_Words.l0 (k + 1) y0 y1 y2))
  | 0 => fun _ _ _ r h => by simp [mortiseref28_Words.l0] at h
  | k + 1 => by
    have ih0 := mortiseref28_Words.mono_l k
    · intro y0 y1 y2
      unfold mortiseref28_Words.l0
      repeat' first
      | (with_reducible exact ih0 _ _ _)
      | (with_reducible exact LeO.refl _)
      | (with_reducible exact LeO.none _)
      | (with_reducible refine LeO.ite ?_ ?_)
      | (with_reducible refine LeO.bind ?_ (fun _ => ?_))
      | exact ih0 _ _ _
      | exact LeO.none _
      | refine LeO.ite ?_ ?_
      | refine LeO.bind ?_ (fun _ => ?_)
theorem mortiseref28_Words.mono : ∀ a0 a1 k, LeO (mortiseref28_Words.f k a0 a1) (mortiseref28_Words.f (k + 1) a0 a1) := by
  intro a0 a1 k
  have ih0 := mortiseref28_Words.mono_l k
  unfold mortiseref28_Words.f
  repeat' first
      | (with_reducible exact ih0 _ _ _)
      | (with_reducible exact LeO.refl _)
      | (with_reducible exact LeO.none _)
      | (with_reducible refine LeO.ite ?_ ?_)
      | (with_reducible refine LeO.bind ?_ (fun _ => ?_))
      | exact ih0 _ _ _
      | exact LeO.none _
      | refine LeO.ite ?_ ?_
      | refine LeO.bind ?_ (fun _ => ?_)
set_option maxHeartbeats 8000000 in
set_option maxRecDepth 100000 in
theorem mortiseref28_Words.calls (k : Nat) (A0 : Option Addr) (c0 : Nat) (l0 : List Int) (A1 : Option Addr) (c1 : Nat) (l1 : List Int) (r : Bool) (w : World) (hr0 : Kd.C (Kd.int .i64) w A0 l0.length l0) (hc0 : l0.length ≤ c0) (hr1 : Kd.C (Kd.int .i64) w A1 l1.length l1) (hc1 : l1.length ≤ c1) (h : mortiseref28_Words.f k l0 l1 = some r) :
    Calls Try.prog 23 #[.slice A0 l0.length c0, .slice A1 l1.length c1] w fun e w' => e = .returned (.bool r) ∧ Drawn0 w w' := by
  have HR0 := Aside0.mk hr0
  have HC0 := Aside0.mk hc0
  clear hr0 hc0
  have HR1 := Aside0.mk hr1
  have HC1 := Aside0.mk hc1
  clear hr1 hc1
  have H : (if (l0.length : Int) = (l1.length : Int) then (mortiseref28_Words.l0 k l0 l1 0) else (some false)) = some r := h
  clear h
  by_cases c3 : (l0.length : Int) = (l1.length : Int)
  · rw [if_pos c3] at H
    have c3b0 : ((l0.length : Int) == (l1.length : Int)) = true := beq_iff_eq.mpr c3
    have c3b1 : ((l0.length : Int) != (l1.length : Int)) = false := bne_eq_false_iff_eq.mpr c3
    have c3b2 : (l0.length == l1.length) = true := by first | simpa using c3 | (simp at c3 ⊢; omega)
    clear c3
    have H' := Aside0.mk H
    clear H
    go_enter Try.func23, Try.ntmps23
    go_wp2
    repeat (go_quiet (fail); try go_wp2)
    go_loopg [5] k (fun kq v5 w' => ∃ (x5_1 : Int), v5 = .int .i64 x5_1 ∧ Aside0 (mortiseref28_Words.l0 kq l0 l1 x5_1 = some r) ∧ Aside0 (kq ≤ k) ∧ Drawn0 w w')
    case atStart => exact ⟨(0), (by first | rfl | (simp; done) | (simp [*]; done)), H', ⟨Nat.le_refl _⟩, by repeat (first | exact Drawn0.refl _ | apply Drawn0.step)⟩
    case round =>
      clear H'
      try clear c1
      try clear c2
      try clear p2
      try clear c3
      try clear c3b0
      try clear c3b1
      try clear c3b2
      obtain ⟨x5_1, rfl, HA, HK1, ⟨m1, rfl⟩⟩ := hrel
      cases gk with
      | zero => exact absurd HA.out (by simp [mortiseref28_Words.l0])
      | succ k1 =>
        have H := HA.out
        clear HA
        simp only [mortiseref28_Words.l0] at H
        by_cases c4 : x5_1 < (l0.length : Int)
        · rw [if_pos c4] at H
          have c4b0 : decide (x5_1 < (l0.length : Int)) = true := decide_eq_true c4
          clear c4
          by_cases c5 : 0 ≤ x5_1
          · rw [if_pos c5] at H
            have c5b0 : decide (0 ≤ x5_1) = true := decide_eq_true c5
            clear c5
            by_cases c6 : x5_1 < (l1.length : Int)
            · rw [if_pos c6] at H
              have c6b0 : decide (x5_1 < (l1.length : Int)) = true := decide_eq_true c6
              clear c6
              by_cases c7 : (rd l0 x5_1) = (rd l1 x5_1)
              · rw [if_pos c7] at H
                have c7b0 : ((rd l0 x5_1) == (rd l1 x5_1)) = true := beq_iff_eq.mpr c7
                have c7b1 : ((rd l0 x5_1) != (rd l1 x5_1)) = false := bne_eq_false_iff_eq.mpr c7
                clear c7
                have H' := Aside0.mk H
                clear H
                have p200 : 0 ≤ (x5_1 : Int) := of_decide_eq_true (by first | (with_reducible assumption) | assumption)
                have q200 : x5_1 < (l0.length : Int) := of_decide_eq_true (by first | (with_reducible assumption) | assumption)
                obtain ⟨ad200, e200, hx200_0⟩ := Kd.at_int HR0.out x5_1 p200 q200
                cases e200
                replace p200 := eq_true p200
                replace q200 := eq_true q200
                have p201 : 0 ≤ (x5_1 : Int) := of_decide_eq_true (by first | (with_reducible assumption) | assumption)
                have q201 : x5_1 < (l1.length : Int) := of_decide_eq_true (by first | (with_reducible assumption) | assumption)
                obtain ⟨ad201, e201, hx201_0⟩ := Kd.at_int HR1.out x5_1 p201 q201
                cases e201
                replace p201 := eq_true p201
                replace q201 := eq_true q201
                go_wp2
                repeat (go_quiet (fail); try go_wp2)
                go_roundg k1
                case measure => have := HK1.out; omega
                case rel => exact ⟨(wrap64 (x5_1 + 1)), (by first | rfl | (simp; done) | (simp [*]; done)), H', ⟨by have := HK1.out; omega⟩, by repeat (first | exact Drawn0.refl _ | apply Drawn0.step)⟩
              · rw [if_neg c7] at H
                have c7b0 : ((rd l0 x5_1) == (rd l1 x5_1)) = false := beq_eq_false_iff_ne.mpr c7
                have c7b1 : ((rd l0 x5_1) != (rd l1 x5_1)) = true := bne_iff_ne.mpr c7
                obtain rfl := Option.some.inj H
                have p200 : 0 ≤ (x5_1 : Int) := of_decide_eq_true (by first | (with_reducible assumption) | assumption)
                have q200 : x5_1 < (l0.length : Int) := of_decide_eq_true (by first | (with_reducible assumption) | assumption)
                obtain ⟨ad200, e200, hx200_0⟩ := Kd.at_int HR0.out x5_1 p200 q200
                cases e200
                replace p200 := eq_true p200
                replace q200 := eq_true q200
                have p201 : 0 ≤ (x5_1 : Int) := of_decide_eq_true (by first | (with_reducible assumption) | assumption)
                have q201 : x5_1 < (l1.length : Int) := of_decide_eq_true (by first | (with_reducible assumption) | assumption)
                obtain ⟨ad201, e201, hx201_0⟩ := Kd.at_int HR1.out x5_1 p201 q201
                cases e201
                replace p201 := eq_true p201
                replace q201 := eq_true q201
                go_wp2
                repeat (go_quiet (fail); try go_wp2)
                go_ret
                exact ⟨by first | rfl | (simp; done) | (simp [*]; done), by repeat (first | exact Drawn0.refl _ | apply Drawn0.step)⟩
            · rw [if_neg c6] at H
              exact absurd H (by simp)
          · rw [if_neg c5] at H
            exact absurd H (by simp)
        · rw [if_neg c4] at H
          have c4b0 : decide (x5_1 < (l0.length : Int)) = false := decide_eq_false c4
          clear c4
          obtain rfl := Option.some.inj H
          go_wp2
          repeat (go_quiet (fail); try go_wp2)
          go_ret
          exact ⟨by first | rfl | (simp; done) | (simp [*]; done), by repeat (first | exact Drawn0.refl _ | apply Drawn0.step)⟩
  · rw [if_neg c3] at H
    have c3b0 : ((l0.length : Int) == (l1.length : Int)) = false := beq_eq_false_iff_ne.mpr c3
    have c3b1 : ((l0.length : Int) != (l1.length : Int)) = true := bne_iff_ne.mpr c3
    have c3b2 : (l0.length == l1.length) = false := by first | simpa using c3 | (simp at c3 ⊢; omega)
    obtain rfl := Option.some.inj H
    go_enter Try.func23, Try.ntmps23
    go_wp2
    repeat (go_quiet (fail); try go_wp2)
    go_ret
    exact ⟨by first | rfl | (simp; done) | (simp [*]; done), by repeat (first | exact Drawn0.refl _ | apply Drawn0.step)⟩

/-! ### mortiseref28_SameImage: function 45 -/
def mortiseref28_SameImage.f (k : Nat) (l0_0 : List Int) (l0_1 : List Int) (a0_2 : Int) (l1_0 : List Int) (l1_1 : List Int) (a1_2 : Int) : Option (Bool) := if a0_2 = a1_2 then ((mortiseref28_Words.f k l0_0 l1_0).bind fun t204 => (if t204 = true then ((mortiseref28_Words.f k l0_1 l1_1).bind fun t205 => (some t205)) else (some false))) else (some false)
theorem mortiseref28_SameImage.mono : ∀ a0 a1 a2 a3 a4 a5 k, LeO (mortiseref28_SameImage.f k a0 a1 a2 a3 a4 a5) (mortiseref28_SameImage.f (k + 1) a0 a1 a2 a3 a4 a5) := by
  intro a0 a1 a2 a3 a4 a5 k
  unfold mortiseref28_SameImage.f
  repeat' first
      | (with_reducible exact mortiseref28_Words.mono _ _ _)
      | (with_reducible exact LeO.refl _)
      | (with_reducible exact LeO.none _)
      | (with_reducible refine LeO.ite ?_ ?_)
      | (with_reducible refine LeO.bind ?_ (fun _ => ?_))
      | exact mortiseref28_Words.mono _ _ _
      | exact LeO.none _
      | refine LeO.ite ?_ ?_
      | refine LeO.bind ?_ (fun _ => ?_)
set_option maxHeartbeats 8000000 in
set_option maxRecDepth 100000 in
theorem mortiseref28_SameImage.calls (k : Nat) (A0_0 : Option Addr) (c0_0 : Nat) (l0_0 : List Int) (A0_1 : Option Addr) (c0_1 : Nat) (l0_1 : List Int) (a0_2 : Int) (A1_0 : Option Addr) (c1_0 : Nat) (l1_0 : List Int) (A1_1 : Option Addr) (c1_1 : Nat) (l1_1 : List Int) (a1_2 : Int) (r : Bool) (w : World) (hr0_0 : Kd.C (Kd.int .i64) w A0_0 l0_0.length l0_0) (hc0_0 : l0_0.length ≤ c0_0) (hr0_1 : Kd.C (Kd.int .i64) w A0_1 l0_1.length l0_1) (hc0_1 : l0_1.length ≤ c0_1) (hr1_0 : Kd.C (Kd.int .i64) w A1_0 l1_0.length l1_0) (hc1_0 : l1_0.length ≤ c1_0) (hr1_1 : Kd.C (Kd.int .i64) w A1_1 l1_1.length l1_1) (hc1_1 : l1_1.length ≤ c1_1) (h : mortiseref28_SameImage.f k l0_0 l0_1 a0_2 l1_0 l1_1 a1_2 = some r) :
    Calls Try.prog 45 #[.agg #[.slice A0_0 l0_0.length c0_0, .slice A0_1 l0_1.length c0_1, .int .i64 a0_2], .agg #[.slice A1_0 l1_0.length c1_0, .slice A1_1 l1_1.length c1_1, .int .i64 a1_2]] w fun e w' => e = .returned (.bool r) ∧ Below w.heap.size w w' := by
  have hu46 := Try.underlying46
  have HR0_0 := Aside0.mk hr0_0
  have HC0_0 := Aside0.mk hc0_0
  clear hr0_0 hc0_0
  have HR0_1 := Aside0.mk hr0_1
  have HC0_1 := Aside0.mk hc0_1
  clear hr0_1 hc0_1
  have HR1_0 := Aside0.mk hr1_0
  have HC1_0 := Aside0.mk hc1_0
  clear hr1_0 hc1_0
  have HR1_1 := Aside0.mk hr1_1
  have HC1_1 := Aside0.mk hc1_1
  clear hr1_1 hc1_1
  have HB := Aside0.mk (Below.refl w.heap.size w)
  have H : (if a0_2 = a1_2 then ((mortiseref28_Words.f k l0_0 l1_0).bind fun t204 => (if t204 = true then ((mortiseref28_Words.f k l0_1 l1_1).bind fun t205 => (some t205)) else (some false))) else (some false)) = some r := h
  clear h
  by_cases c3 : a0_2 = a1_2
  · rw [if_pos c3] at H
    have c3b0 : (a0_2 == a1_2) = true := beq_iff_eq.mpr c3
    have c3b1 : (a0_2 != a1_2) = false := bne_eq_false_iff_eq.mpr c3
    clear c3
    replace H := Option.bind_eq_some_iff.mp H
    obtain ⟨t204, A40, H⟩ := H
    replace H : (if t204 = true then ((mortiseref28_Words.f k l0_1 l1_1).bind fun t205 => (some t205)) else (some false)) = some r := H
    have A4 := Aside0.mk A40
    clear A40
    by_cases c5 : t204 = true
    · subst c5
      have H1 : ((mortiseref28_Words.f k l0_1 l1_1).bind fun t205 => (some t205)) = some r := by rw [if_pos rfl] at H; exact H
      clear H
      have H := H1
      clear H1
      replace H := Option.bind_eq_some_iff.mp H
      obtain ⟨t205, A60, H⟩ := H
      replace H : (some t205) = some r := H
      have A6 := Aside0.mk A60
      clear A60
      obtain rfl := Option.some.inj H
      go_enter Try.func45, Try.ntmps45
      go_wp2_with (first | ((with_reducible refine gate_dst (N := 2) rfl ?_); refine box_event ?hg (N := 2) ?hd (cs := #[.slice A0_0 l0_0.length c0_0, .slice A0_1 l0_1.length c0_1, .int .i64 a0_2]) (t := 46) ?hr ?_; (case hd => rfl); (case hg => rfl); (case hr => first | (go_simp; done) | (go_simp; rfl)); intro gb202 hg w7 hbox hb; have n0_ := Aside0.mk (below_step (by repeat (first | (with_reducible first | exact HB.out | apply below_alloc | apply pw_below_drewN | apply below_drew1) | exact HB.out)) hb); have n1_ := Aside0.mk (hbox); have n2_ := Aside0.mk ((by rw [hg]; exact (below_size (by repeat (first | (with_reducible first | exact HB.out | apply below_alloc | apply pw_below_drewN | apply below_drew1) | exact HB.out))) : w.heap.size ≤ gb202)); have n3_ := Aside0.mk ((by rw [hg]; exact (below_size (by repeat (first | (with_reducible first | exact HB.out | apply below_alloc | apply pw_below_drewN | apply below_drew1) | exact HB.out))) : w.heap.size ≤ gb202)); clear HB; have HB := n0_; have BK202 := n1_; have GW202 := n2_; have GE202 := n3_; clear n0_ n1_ n2_ n3_; clear hb hbox hg) | ((with_reducible refine gate_dst (N := 3) rfl ?_); refine box_event ?hg (N := 3) ?hd (cs := #[.slice A1_0 l1_0.length c1_0, .slice A1_1 l1_1.length c1_1, .int .i64 a1_2]) (t := 46) ?hr ?_; (case hd => rfl); (case hg => rfl); (case hr => first | (go_simp; done) | (go_simp; rfl)); intro gb203 hg w8 hbox hb; have n0_ := Aside0.mk (blk_below (g := gb202) (o := .cells #[.slice A0_0 l0_0.length c0_0, .slice A0_1 l0_1.length c0_1, .int .i64 a0_2] 46 (0, 0)) (by (with_reducible repeat (first | refine blk_drewN ?_ _ | refine blk_drew ?_ | refine blk_alloc ?_ _)); exact BK202.out) hb); have n1_ := Aside0.mk (below_step (by repeat (first | (with_reducible first | exact HB.out | apply below_alloc | apply pw_below_drewN | apply below_drew1 | refine below_set ?_ GE202.out) | exact HB.out)) hb); have n2_ := Aside0.mk (hbox); have n3_ := Aside0.mk ((by rw [hg]; exact (below_size (by repeat (first | (with_reducible first | exact HB.out | apply below_alloc | apply pw_below_drewN | apply below_drew1 | refine below_set ?_ GE202.out) | exact HB.out))) : w.heap.size ≤ gb203)); have n4_ := Aside0.mk ((by rw [hg]; exact (below_size (by repeat (first | (with_reducible first | exact HB.out | apply below_alloc | apply pw_below_drewN | apply below_drew1 | refine below_set ?_ GE202.out) | exact HB.out))) : w.heap.size ≤ gb203)); have n5_ := Aside0.mk ((by rw [hg]; exact Nat.ne_of_lt (blk_lt (g := gb202) (o := .cells #[.slice A0_0 l0_0.length c0_0, .slice A0_1 l0_1.length c0_1, .int .i64 a0_2] 46 (0, 0)) (by (with_reducible repeat (first | refine blk_drewN ?_ _ | refine blk_drew ?_ | refine blk_alloc ?_ _)); exact BK202.out)) : gb202 ≠ gb203)); have n6_ := Aside0.mk ((by rw [hg]; exact Nat.ne_of_gt (blk_lt (g := gb202) (o := .cells #[.slice A0_0 l0_0.length c0_0, .slice A0_1 l0_1.length c0_1, .int .i64 a0_2] 46 (0, 0)) (by (with_reducible repeat (first | refine blk_drewN ?_ _ | refine blk_drew ?_ | refine blk_alloc ?_ _)); exact BK202.out)) : gb203 ≠ gb202)); clear BK202; clear HB; have BK202 := n0_; have HB := n1_; have BK203 := n2_; have GW203 := n3_; have GE203 := n4_; have NB202_203 := n5_; have NB203_202 := n6_; clear n0_ n1_ n2_ n3_ n4_ n5_ n6_; clear hb hbox hg; have hnb9 := NB202_203.out; have hnc9 := NB203_202.out; have hcz10_0 : w8.cell? ⟨gb202, 0, none⟩ = some (.slice A0_0 l0_0.length c0_0) := (blk_cell BK202.out 0).trans rfl; have hcz10_1 : w8.cell? ⟨gb202, 1, none⟩ = some (.slice A0_1 l0_1.length c0_1) := (blk_cell BK202.out 1).trans rfl; have hcz10_2 : w8.cell? ⟨gb202, 2, none⟩ = some (.int .i64 a0_2) := (blk_cell BK202.out 2).trans rfl; have hfz10_0 := blk_frozen BK202.out 0; have hfz10_1 := blk_frozen BK202.out 1; have hfz10_2 := blk_frozen BK202.out 2; have hcz11_0 : w8.cell? ⟨gb203, 0, none⟩ = some (.slice A1_0 l1_0.length c1_0) := (blk_cell BK203.out 0).trans rfl; have hcz11_1 : w8.cell? ⟨gb203, 1, none⟩ = some (.slice A1_1 l1_1.length c1_1) := (blk_cell BK203.out 1).trans rfl; have hcz11_2 : w8.cell? ⟨gb203, 2, none⟩ = some (.int .i64 a1_2) := (blk_cell BK203.out 2).trans rfl; have hfz11_0 := blk_frozen BK203.out 0; have hfz11_1 := blk_frozen BK203.out 1; have hfz11_2 := blk_frozen BK203.out 2) | (go_at_call 23; (with_reducible refine (mortiseref28_Words.calls k _ _ l0_0 _ _ l1_0 true _ ?side1 ?side2 ?side3 ?side4 A4.out).mono ?_); (case side1 => repeat (first | exact (Kd.C_below HR0_0.out HB.out) | (with_reducible refine Kd.C_alloc ?_ _) | (with_reducible refine Kd.C_drewN ?_ _) | (with_reducible refine Kd.C_drew ?_))); (case side2 => exact HC0_0.out); (case side3 => repeat (first | exact (Kd.C_below HR1_0.out HB.out) | (with_reducible refine Kd.C_alloc ?_ _) | (with_reducible refine Kd.C_drewN ?_ _) | (with_reducible refine Kd.C_drew ?_))); (case side4 => exact HC1_0.out); rintro e w' ⟨rfl, ⟨nd, rfl⟩⟩) | (go_at_call 23; (with_reducible refine (mortiseref28_Words.calls k _ _ l0_1 _ _ l1_1 t205 _ ?side1 ?side2 ?side3 ?side4 A6.out).mono ?_); (case side1 => repeat (first | exact (Kd.C_below HR0_1.out (by repeat (first | (with_reducible first | exact HB.out | apply below_alloc | apply pw_below_drewN | apply below_drew1 | refine below_set ?_ GE202.out | refine below_set ?_ GE203.out) | exact HB.out))) | (with_reducible refine Kd.C_alloc ?_ _) | (with_reducible refine Kd.C_drewN ?_ _) | (with_reducible refine Kd.C_drew ?_))); (case side2 => exact HC0_1.out); (case side3 => repeat (first | exact (Kd.C_below HR1_1.out (by repeat (first | (with_reducible first | exact HB.out | apply below_alloc | apply pw_below_drewN | apply below_drew1 | refine below_set ?_ GE202.out | refine below_set ?_ GE203.out) | exact HB.out))) | (with_reducible refine Kd.C_alloc ?_ _) | (with_reducible refine Kd.C_drewN ?_ _) | (with_reducible refine Kd.C_drew ?_))); (case side4 => exact HC1_1.out); rintro e w' ⟨rfl, ⟨nd, rfl⟩⟩))
      go_ret
      exact ⟨by first | rfl | (simp [errW_none, errW_some] <;> rfl) | (simp [*, errW_none, errW_some] <;> rfl), by repeat (first | (with_reducible first | exact HB.out | apply below_alloc | apply pw_below_drewN | apply below_drew1 | refine below_set ?_ GE202.out | refine below_set ?_ GE203.out) | exact HB.out)⟩
    · replace c5 := Bool.eq_false_iff.mpr c5
      subst c5
      have H1 : (some false) = some r := by rw [if_neg (show ¬ (false = true) by decide)] at H; exact H
      clear H
      have H := H1
      clear H1
      obtain rfl := Option.some.inj H
      go_enter Try.func45, Try.ntmps45
      go_wp2_with (first | ((with_reducible refine gate_dst (N := 2) rfl ?_); refine box_event ?hg (N := 2) ?hd (cs := #[.slice A0_0 l0_0.length c0_0, .slice A0_1 l0_1.length c0_1, .int .i64 a0_2]) (t := 46) ?hr ?_; (case hd => rfl); (case hg => rfl); (case hr => first | (go_simp; done) | (go_simp; rfl)); intro gb202 hg w12 hbox hb; have n0_ := Aside0.mk (below_step (by repeat (first | (with_reducible first | exact HB.out | apply below_alloc | apply pw_below_drewN | apply below_drew1) | exact HB.out)) hb); have n1_ := Aside0.mk (hbox); have n2_ := Aside0.mk ((by rw [hg]; exact (below_size (by repeat (first | (with_reducible first | exact HB.out | apply below_alloc | apply pw_below_drewN | apply below_drew1) | exact HB.out))) : w.heap.size ≤ gb202)); have n3_ := Aside0.mk ((by rw [hg]; exact (below_size (by repeat (first | (with_reducible first | exact HB.out | apply below_alloc | apply pw_below_drewN | apply below_drew1) | exact HB.out))) : w.heap.size ≤ gb202)); clear HB; have HB := n0_; have BK202 := n1_; have GW202 := n2_; have GE202 := n3_; clear n0_ n1_ n2_ n3_; clear hb hbox hg) | ((with_reducible refine gate_dst (N := 3) rfl ?_); refine box_event ?hg (N := 3) ?hd (cs := #[.slice A1_0 l1_0.length c1_0, .slice A1_1 l1_1.length c1_1, .int .i64 a1_2]) (t := 46) ?hr ?_; (case hd => rfl); (case hg => rfl); (case hr => first | (go_simp; done) | (go_simp; rfl)); intro gb203 hg w13 hbox hb; have n0_ := Aside0.mk (blk_below (g := gb202) (o := .cells #[.slice A0_0 l0_0.length c0_0, .slice A0_1 l0_1.length c0_1, .int .i64 a0_2] 46 (0, 0)) (by (with_reducible repeat (first | refine blk_drewN ?_ _ | refine blk_drew ?_ | refine blk_alloc ?_ _)); exact BK202.out) hb); have n1_ := Aside0.mk (below_step (by repeat (first | (with_reducible first | exact HB.out | apply below_alloc | apply pw_below_drewN | apply below_drew1 | refine below_set ?_ GE202.out) | exact HB.out)) hb); have n2_ := Aside0.mk (hbox); have n3_ := Aside0.mk ((by rw [hg]; exact (below_size (by repeat (first | (with_reducible first | exact HB.out | apply below_alloc | apply pw_below_drewN | apply below_drew1 | refine below_set ?_ GE202.out) | exact HB.out))) : w.heap.size ≤ gb203)); have n4_ := Aside0.mk ((by rw [hg]; exact (below_size (by repeat (first | (with_reducible first | exact HB.out | apply below_alloc | apply pw_below_drewN | apply below_drew1 | refine below_set ?_ GE202.out) | exact HB.out))) : w.heap.size ≤ gb203)); have n5_ := Aside0.mk ((by rw [hg]; exact Nat.ne_of_lt (blk_lt (g := gb202) (o := .cells #[.slice A0_0 l0_0.length c0_0, .slice A0_1 l0_1.length c0_1, .int .i64 a0_2] 46 (0, 0)) (by (with_reducible repeat (first | refine blk_drewN ?_ _ | refine blk_drew ?_ | refine blk_alloc ?_ _)); exact BK202.out)) : gb202 ≠ gb203)); have n6_ := Aside0.mk ((by rw [hg]; exact Nat.ne_of_gt (blk_lt (g := gb202) (o := .cells #[.slice A0_0 l0_0.length c0_0, .slice A0_1 l0_1.length c0_1, .int .i64 a0_2] 46 (0, 0)) (by (with_reducible repeat (first | refine blk_drewN ?_ _ | refine blk_drew ?_ | refine blk_alloc ?_ _)); exact BK202.out)) : gb203 ≠ gb202)); clear BK202; clear HB; have BK202 := n0_; have HB := n1_; have BK203 := n2_; have GW203 := n3_; have GE203 := n4_; have NB202_203 := n5_; have NB203_202 := n6_; clear n0_ n1_ n2_ n3_ n4_ n5_ n6_; clear hb hbox hg; have hnb14 := NB202_203.out; have hnc14 := NB203_202.out; have hcz15_0 : w13.cell? ⟨gb202, 0, none⟩ = some (.slice A0_0 l0_0.length c0_0) := (blk_cell BK202.out 0).trans rfl; have hcz15_1 : w13.cell? ⟨gb202, 1, none⟩ = some (.slice A0_1 l0_1.length c0_1) := (blk_cell BK202.out 1).trans rfl; have hcz15_2 : w13.cell? ⟨gb202, 2, none⟩ = some (.int .i64 a0_2) := (blk_cell BK202.out 2).trans rfl; have hfz15_0 := blk_frozen BK202.out 0; have hfz15_1 := blk_frozen BK202.out 1; have hfz15_2 := blk_frozen BK202.out 2; have hcz16_0 : w13.cell? ⟨gb203, 0, none⟩ = some (.slice A1_0 l1_0.length c1_0) := (blk_cell BK203.out 0).trans rfl; have hcz16_1 : w13.cell? ⟨gb203, 1, none⟩ = some (.slice A1_1 l1_1.length c1_1) := (blk_cell BK203.out 1).trans rfl; have hcz16_2 : w13.cell? ⟨gb203, 2, none⟩ = some (.int .i64 a1_2) := (blk_cell BK203.out 2).trans rfl; have hfz16_0 := blk_frozen BK203.out 0; have hfz16_1 := blk_frozen BK203.out 1; have hfz16_2 := blk_frozen BK203.out 2) | (go_at_call 23; (with_reducible refine (mortiseref28_Words.calls k _ _ l0_0 _ _ l1_0 false _ ?side1 ?side2 ?side3 ?side4 A4.out).mono ?_); (case side1 => repeat (first | exact (Kd.C_below HR0_0.out HB.out) | (with_reducible refine Kd.C_alloc ?_ _) | (with_reducible refine Kd.C_drewN ?_ _) | (with_reducible refine Kd.C_drew ?_))); (case side2 => exact HC0_0.out); (case side3 => repeat (first | exact (Kd.C_below HR1_0.out HB.out) | (with_reducible refine Kd.C_alloc ?_ _) | (with_reducible refine Kd.C_drewN ?_ _) | (with_reducible refine Kd.C_drew ?_))); (case side4 => exact HC1_0.out); rintro e w' ⟨rfl, ⟨nd, rfl⟩⟩))
      go_ret
      exact ⟨by first | rfl | (simp [errW_none, errW_some] <;> rfl) | (simp [*, errW_none, errW_some] <;> rfl), by repeat (first | (with_reducible first | exact HB.out | apply below_alloc | apply pw_below_drewN | apply below_drew1 | refine below_set ?_ GE202.out | refine below_set ?_ GE203.out) | exact HB.out)⟩
  · rw [if_neg c3] at H
    have c3b0 : (a0_2 == a1_2) = false := beq_eq_false_iff_ne.mpr c3
    have c3b1 : (a0_2 != a1_2) = true := bne_iff_ne.mpr c3
    obtain rfl := Option.some.inj H
    go_enter Try.func45, Try.ntmps45
    go_wp2_with (first | ((with_reducible refine gate_dst (N := 2) rfl ?_); refine box_event ?hg (N := 2) ?hd (cs := #[.slice A0_0 l0_0.length c0_0, .slice A0_1 l0_1.length c0_1, .int .i64 a0_2]) (t := 46) ?hr ?_; (case hd => rfl); (case hg => rfl); (case hr => first | (go_simp; done) | (go_simp; rfl)); intro gb202 hg w17 hbox hb; have n0_ := Aside0.mk (below_step (by repeat (first | (with_reducible first | exact HB.out | apply below_alloc | apply pw_below_drewN | apply below_drew1) | exact HB.out)) hb); have n1_ := Aside0.mk (hbox); have n2_ := Aside0.mk ((by rw [hg]; exact (below_size (by repeat (first | (with_reducible first | exact HB.out | apply below_alloc | apply pw_below_drewN | apply below_drew1) | exact HB.out))) : w.heap.size ≤ gb202)); have n3_ := Aside0.mk ((by rw [hg]; exact (below_size (by repeat (first | (with_reducible first | exact HB.out | apply below_alloc | apply pw_below_drewN | apply below_drew1) | exact HB.out))) : w.heap.size ≤ gb202)); clear HB; have HB := n0_; have BK202 := n1_; have GW202 := n2_; have GE202 := n3_; clear n0_ n1_ n2_ n3_; clear hb hbox hg) | ((with_reducible refine gate_dst (N := 3) rfl ?_); refine box_event ?hg (N := 3) ?hd (cs := #[.slice A1_0 l1_0.length c1_0, .slice A1_1 l1_1.length c1_1, .int .i64 a1_2]) (t := 46) ?hr ?_; (case hd => rfl); (case hg => rfl); (case hr => first | (go_simp; done) | (go_simp; rfl)); intro gb203 hg w18 hbox hb; have n0_ := Aside0.mk (blk_below (g := gb202) (o := .cells #[.slice A0_0 l0_0.length c0_0, .slice A0_1 l0_1.length c0_1, .int .i64 a0_2] 46 (0, 0)) (by (with_reducible repeat (first | refine blk_drewN ?_ _ | refine blk_drew ?_ | refine blk_alloc ?_ _)); exact BK202.out) hb); have n1_ := Aside0.mk (below_step (by repeat (first | (with_reducible first | exact HB.out | apply below_alloc | apply pw_below_drewN | apply below_drew1 | refine below_set ?_ GE202.out) | exact HB.out)) hb); have n2_ := Aside0.mk (hbox); have n3_ := Aside0.mk ((by rw [hg]; exact (below_size (by repeat (first | (with_reducible first | exact HB.out | apply below_alloc | apply pw_below_drewN | apply below_drew1 | refine below_set ?_ GE202.out) | exact HB.out))) : w.heap.size ≤ gb203)); have n4_ := Aside0.mk ((by rw [hg]; exact (below_size (by repeat (first | (with_reducible first | exact HB.out | apply below_alloc | apply pw_below_drewN | apply below_drew1 | refine below_set ?_ GE202.out) | exact HB.out))) : w.heap.size ≤ gb203)); have n5_ := Aside0.mk ((by rw [hg]; exact Nat.ne_of_lt (blk_lt (g := gb202) (o := .cells #[.slice A0_0 l0_0.length c0_0, .slice A0_1 l0_1.length c0_1, .int .i64 a0_2] 46 (0, 0)) (by (with_reducible repeat (first | refine blk_drewN ?_ _ | refine blk_drew ?_ | refine blk_alloc ?_ _)); exact BK202.out)) : gb202 ≠ gb203)); have n6_ := Aside0.mk ((by rw [hg]; exact Nat.ne_of_gt (blk_lt (g := gb202) (o := .cells #[.slice A0_0 l0_0.length c0_0, .slice A0_1 l0_1.length c0_1, .int .i64 a0_2] 46 (0, 0)) (by (with_reducible repeat (first | refine blk_drewN ?_ _ | refine blk_drew ?_ | refine blk_alloc ?_ _)); exact BK202.out)) : gb203 ≠ gb202)); clear BK202; clear HB; have BK202 := n0_; have HB := n1_; have BK203 := n2_; have GW203 := n3_; have GE203 := n4_; have NB202_203 := n5_; have NB203_202 := n6_; clear n0_ n1_ n2_ n3_ n4_ n5_ n6_; clear hb hbox hg; have hnb19 := NB202_203.out; have hnc19 := NB203_202.out; have hcz20_0 : w18.cell? ⟨gb202, 0, none⟩ = some (.slice A0_0 l0_0.length c0_0) := (blk_cell BK202.out 0).trans rfl; have hcz20_1 : w18.cell? ⟨gb202, 1, none⟩ = some (.slice A0_1 l0_1.length c0_1) := (blk_cell BK202.out 1).trans rfl; have hcz20_2 : w18.cell? ⟨gb202, 2, none⟩ = some (.int .i64 a0_2) := (blk_cell BK202.out 2).trans rfl; have hfz20_0 := blk_frozen BK202.out 0; have hfz20_1 := blk_frozen BK202.out 1; have hfz20_2 := blk_frozen BK202.out 2; have hcz21_0 : w18.cell? ⟨gb203, 0, none⟩ = some (.slice A1_0 l1_0.length c1_0) := (blk_cell BK203.out 0).trans rfl; have hcz21_1 : w18.cell? ⟨gb203, 1, none⟩ = some (.slice A1_1 l1_1.length c1_1) := (blk_cell BK203.out 1).trans rfl; have hcz21_2 : w18.cell? ⟨gb203, 2, none⟩ = some (.int .i64 a1_2) := (blk_cell BK203.out 2).trans rfl; have hfz21_0 := blk_frozen BK203.out 0; have hfz21_1 := blk_frozen BK203.out 1; have hfz21_2 := blk_frozen BK203.out 2))
    go_ret
    exact ⟨by first | rfl | (simp [errW_none, errW_some] <;> rfl) | (simp [*, errW_none, errW_some] <;> rfl), by repeat (first | (with_reducible first | exact HB.out | apply below_alloc | apply pw_below_drewN | apply below_drew1 | refine below_set ?_ GE202.out | refine below_set ?_ GE203.out) | exact HB.out)⟩

-- NOT PRINTED: function 19 (mortiselaw30_awake)

end Go.Proofs.Ytnbgbmddkbneeaa.PLinkWeak

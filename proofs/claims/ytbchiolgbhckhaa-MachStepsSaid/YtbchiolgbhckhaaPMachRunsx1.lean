-- PRINTED BY print.sh 35421559b90ae4d0a3588c463048766b98c2df88dd9212a6774a882060cdf62d: not written by this session
import Derived.Test.YtbchiolgbhckhaaPMachRunsx0
namespace Go.Proofs.Ytbchiolgbhckhaa.PMachRuns
open Go.RowKit Go.Proofs.YtbchiolgbhckhaaW.PrintWords Go.Proofs.YtbchiolgbhckhaaW.PrintLast Go.Proofs.YtbchiolgbhckhaaW.PrintMore
attribute [local go_sem] max2_int min2_int max_two min_two max_three min_three max_four min_four   -- for this text's walks alone
set_option linter.unusedVariables false
set_option linter.unusedSimpArgs false

/-! ### mortiselaw3_heavy: function 12 -/
def mortiselaw3_heavy.f (l0_0 : List Int) (l0_1 : List Int) (a0_2 : Int) (a1 : Int) (l2 : List Int) (a3 : Int) : Option (Bool) := if (l0_0.length : Int) > 2000 then (some true) else (if (l0_1.length : Int) > 2000 then (some true) else (if a1 > 5000 then (some true) else (if (l2.length : Int) > 100 then (some true) else (some (decide (a3 > 3000))))))
set_option maxHeartbeats 8000000 in
set_option maxRecDepth 100000 in
theorem mortiselaw3_heavy.calls (A0_0 : Option Addr) (c0_0 : Nat) (l0_0 : List Int) (A0_1 : Option Addr) (c0_1 : Nat) (l0_1 : List Int) (a0_2 : Int) (a1 : Int) (A2 : Option Addr) (c2 : Nat) (l2 : List Int) (a3 : Int) (r : Bool) (w : World) (hr0_0 : Kd.C (Kd.int .i64) w A0_0 l0_0.length l0_0) (hc0_0 : l0_0.length ≤ c0_0) (hr0_1 : Kd.C (Kd.int .i64) w A0_1 l0_1.length l0_1) (hc0_1 : l0_1.length ≤ c0_1) (hr2 : Kd.C (Kd.int .u8) w A2 l2.length l2) (hc2 : l2.length ≤ c2) (h : mortiselaw3_heavy.f l0_0 l0_1 a0_2 a1 l2 a3 = some r) :
    Calls Try.prog 12 #[.agg #[.slice A0_0 l0_0.length c0_0, .slice A0_1 l0_1.length c0_1, .int .i64 a0_2], .int .i64 a1, .slice A2 l2.length c2, .int .i64 a3] w fun e w' => e = .returned (.bool r) ∧ Below w.heap.size w w' := by
  have hu24 := Try.underlying24
  have HR0_0 := Aside0.mk hr0_0
  have HC0_0 := Aside0.mk hc0_0
  clear hr0_0 hc0_0
  have HR0_1 := Aside0.mk hr0_1
  have HC0_1 := Aside0.mk hc0_1
  clear hr0_1 hc0_1
  have HR2 := Aside0.mk hr2
  have HC2 := Aside0.mk hc2
  clear hr2 hc2
  have HB := Aside0.mk (Below.refl w.heap.size w)
  have H : (if (l0_0.length : Int) > 2000 then (some true) else (if (l0_1.length : Int) > 2000 then (some true) else (if a1 > 5000 then (some true) else (if (l2.length : Int) > 100 then (some true) else (some (decide (a3 > 3000))))))) = some r := h
  clear h
  by_cases c5 : (l0_0.length : Int) > 2000
  · rw [if_pos c5] at H
    have c5b0 : decide (2000 < (l0_0.length : Int)) = true := decide_eq_true c5
    have c5b1 : decide (2000 < l0_0.length) = true := decide_eq_true (by omega)
    clear c5
    obtain rfl := Option.some.inj H
    go_enter Try.func12, Try.ntmps12
    go_wp2_with (first | ((with_reducible refine gate_dst (N := 4) rfl ?_); (try (refine gate_guard (by rfl) ?_; dsimp only)); refine box_event ?hg (N := 4) ?hd (cs := #[.slice A0_0 l0_0.length c0_0, .slice A0_1 l0_1.length c0_1, .int .i64 a0_2]) (t := 24) ?hr ?_; (case hd => rfl); (case hg => rfl); (case hr => first | (go_simp; done) | (go_simp; rfl)); intro gb101 hg w6 hbox hb; have n0_ := Aside0.mk (below_step (by repeat (first | (with_reducible first | exact HB.out | apply below_alloc | apply pw_below_drewN | apply below_drew1) | exact HB.out)) hb); have n1_ := Aside0.mk (hbox); have n2_ := Aside0.mk ((by rw [hg]; exact (below_size (by repeat (first | (with_reducible first | exact HB.out | apply below_alloc | apply pw_below_drewN | apply below_drew1) | exact HB.out))) : w.heap.size ≤ gb101)); have n3_ := Aside0.mk ((by rw [hg]; exact (below_size (by repeat (first | (with_reducible first | exact HB.out | apply below_alloc | apply pw_below_drewN | apply below_drew1) | exact HB.out))) : w.heap.size ≤ gb101)); clear HB; have HB := n0_; have BK101 := n1_; have GW101 := n2_; have GE101 := n3_; clear n0_ n1_ n2_ n3_; clear hb hbox hg; have hcz7_0 : w6.cell? ⟨gb101, 0, none⟩ = some (.slice A0_0 l0_0.length c0_0) := (blk_cell BK101.out 0).trans rfl; have hcz7_1 : w6.cell? ⟨gb101, 1, none⟩ = some (.slice A0_1 l0_1.length c0_1) := (blk_cell BK101.out 1).trans rfl; have hcz7_2 : w6.cell? ⟨gb101, 2, none⟩ = some (.int .i64 a0_2) := (blk_cell BK101.out 2).trans rfl; have hfz7_0 := blk_frozen BK101.out 0; have hfz7_1 := blk_frozen BK101.out 1; have hfz7_2 := blk_frozen BK101.out 2))
    go_ret
    exact ⟨by first | rfl | (simp [errW_none, errW_some] <;> rfl) | (simp [*, errW_none, errW_some] <;> rfl), by repeat (first | (with_reducible first | exact HB.out | apply below_alloc | apply pw_below_drewN | apply below_drew1 | refine below_set ?_ GE101.out) | exact HB.out)⟩
  · rw [if_neg c5] at H
    have c5b0 : decide (2000 < (l0_0.length : Int)) = false := decide_eq_false c5
    have c5b1 : decide (2000 < l0_0.length) = false := decide_eq_false (by omega)
    clear c5
    by_cases c8 : (l0_1.length : Int) > 2000
    · rw [if_pos c8] at H
      have c8b0 : decide (2000 < (l0_1.length : Int)) = true := decide_eq_true c8
      have c8b1 : decide (2000 < l0_1.length) = true := decide_eq_true (by omega)
      clear c8
      obtain rfl := Option.some.inj H
      go_enter Try.func12, Try.ntmps12
      go_wp2_with (first | ((with_reducible refine gate_dst (N := 4) rfl ?_); (try (refine gate_guard (by rfl) ?_; dsimp only)); refine box_event ?hg (N := 4) ?hd (cs := #[.slice A0_0 l0_0.length c0_0, .slice A0_1 l0_1.length c0_1, .int .i64 a0_2]) (t := 24) ?hr ?_; (case hd => rfl); (case hg => rfl); (case hr => first | (go_simp; done) | (go_simp; rfl)); intro gb101 hg w9 hbox hb; have n0_ := Aside0.mk (below_step (by repeat (first | (with_reducible first | exact HB.out | apply below_alloc | apply pw_below_drewN | apply below_drew1) | exact HB.out)) hb); have n1_ := Aside0.mk (hbox); have n2_ := Aside0.mk ((by rw [hg]; exact (below_size (by repeat (first | (with_reducible first | exact HB.out | apply below_alloc | apply pw_below_drewN | apply below_drew1) | exact HB.out))) : w.heap.size ≤ gb101)); have n3_ := Aside0.mk ((by rw [hg]; exact (below_size (by repeat (first | (with_reducible first | exact HB.out | apply below_alloc | apply pw_below_drewN | apply below_drew1) | exact HB.out))) : w.heap.size ≤ gb101)); clear HB; have HB := n0_; have BK101 := n1_; have GW101 := n2_; have GE101 := n3_; clear n0_ n1_ n2_ n3_; clear hb hbox hg; have hcz10_0 : w9.cell? ⟨gb101, 0, none⟩ = some (.slice A0_0 l0_0.length c0_0) := (blk_cell BK101.out 0).trans rfl; have hcz10_1 : w9.cell? ⟨gb101, 1, none⟩ = some (.slice A0_1 l0_1.length c0_1) := (blk_cell BK101.out 1).trans rfl; have hcz10_2 : w9.cell? ⟨gb101, 2, none⟩ = some (.int .i64 a0_2) := (blk_cell BK101.out 2).trans rfl; have hfz10_0 := blk_frozen BK101.out 0; have hfz10_1 := blk_frozen BK101.out 1; have hfz10_2 := blk_frozen BK101.out 2))
      go_ret
      exact ⟨by first | rfl | (simp [errW_none, errW_some] <;> rfl) | (simp [*, errW_none, errW_some] <;> rfl), by repeat (first | (with_reducible first | exact HB.out | apply below_alloc | apply pw_below_drewN | apply below_drew1 | refine below_set ?_ GE101.out) | exact HB.out)⟩
    · rw [if_neg c8] at H
      have c8b0 : decide (2000 < (l0_1.length : Int)) = false := decide_eq_false c8
      have c8b1 : decide (2000 < l0_1.length) = false := decide_eq_false (by omega)
      clear c8
      by_cases c11 : a1 > 5000
      · rw [if_pos c11] at H
        have c11b0 : decide (5000 < a1) = true := decide_eq_true c11
        clear c11
        obtain rfl := Option.some.inj H
        go_enter Try.func12, Try.ntmps12
        go_wp2_with (first | ((with_reducible refine gate_dst (N := 4) rfl ?_); (try (refine gate_guard (by rfl) ?_; dsimp only)); refine box_event ?hg (N := 4) ?hd (cs := #[.slice A0_0 l0_0.length c0_0, .slice A0_1 l0_1.length c0_1, .int .i64 a0_2]) (t := 24) ?hr ?_; (case hd => rfl); (case hg => rfl); (case hr => first | (go_simp; done) | (go_simp; rfl)); intro gb101 hg w12 hbox hb; have n0_ := Aside0.mk (below_step (by repeat (first | (with_reducible first | exact HB.out | apply below_alloc | apply pw_below_drewN | apply below_drew1) | exact HB.out)) hb); have n1_ := Aside0.mk (hbox); have n2_ := Aside0.mk ((by rw [hg]; exact (below_size (by repeat (first | (with_reducible first | exact HB.out | apply below_alloc | apply pw_below_drewN | apply below_drew1) | exact HB.out))) : w.heap.size ≤ gb101)); have n3_ := Aside0.mk ((by rw [hg]; exact (below_size (by repeat (first | (with_reducible first | exact HB.out | apply below_alloc | apply pw_below_drewN | apply below_drew1) | exact HB.out))) : w.heap.size ≤ gb101)); clear HB; have HB := n0_; have BK101 := n1_; have GW101 := n2_; have GE101 := n3_; clear n0_ n1_ n2_ n3_; clear hb hbox hg; have hcz13_0 : w12.cell? ⟨gb101, 0, none⟩ = some (.slice A0_0 l0_0.length c0_0) := (blk_cell BK101.out 0).trans rfl; have hcz13_1 : w12.cell? ⟨gb101, 1, none⟩ = some (.slice A0_1 l0_1.length c0_1) := (blk_cell BK101.out 1).trans rfl; have hcz13_2 : w12.cell? ⟨gb101, 2, none⟩ = some (.int .i64 a0_2) := (blk_cell BK101.out 2).trans rfl; have hfz13_0 := blk_frozen BK101.out 0; have hfz13_1 := blk_frozen BK101.out 1; have hfz13_2 := blk_frozen BK101.out 2))
        go_ret
        exact ⟨by first | rfl | (simp [errW_none, errW_some] <;> rfl) | (simp [*, errW_none, errW_some] <;> rfl), by repeat (first | (with_reducible first | exact HB.out | apply below_alloc | apply pw_below_drewN | apply below_drew1 | refine below_set ?_ GE101.out) | exact HB.out)⟩
      · rw [if_neg c11] at H
        have c11b0 : decide (5000 < a1) = false := decide_eq_false c11
        clear c11
        by_cases c14 : (l2.length : Int) > 100
        · rw [if_pos c14] at H
          have c14b0 : decide (100 < (l2.length : Int)) = true := decide_eq_true c14
          have c14b1 : decide (100 < l2.length) = true := decide_eq_true (by omega)
          clear c14
          obtain rfl := Option.some.inj H
          go_enter Try.func12, Try.ntmps12
          go_wp2_with (first | ((with_reducible refine gate_dst (N := 4) rfl ?_); (try (refine gate_guard (by rfl) ?_; dsimp only)); refine box_event ?hg (N := 4) ?hd (cs := #[.slice A0_0 l0_0.length c0_0, .slice A0_1 l0_1.length c0_1, .int .i64 a0_2]) (t := 24) ?hr ?_; (case hd => rfl); (case hg => rfl); (case hr => first | (go_simp; done) | (go_simp; rfl)); intro gb101 hg w15 hbox hb; have n0_ := Aside0.mk (below_step (by repeat (first | (with_reducible first | exact HB.out | apply below_alloc | apply pw_below_drewN | apply below_drew1) | exact HB.out)) hb); have n1_ := Aside0.mk (hbox); have n2_ := Aside0.mk ((by rw [hg]; exact (below_size (by repeat (first | (with_reducible first | exact HB.out | apply below_alloc | apply pw_below_drewN | apply below_drew1) | exact HB.out))) : w.heap.size ≤ gb101)); have n3_ := Aside0.mk ((by rw [hg]; exact (below_size (by repeat (first | (with_reducible first | exact HB.out | apply below_alloc | apply pw_below_drewN | apply below_drew1) | exact HB.out))) : w.heap.size ≤ gb101)); clear HB; have HB := n0_; have BK101 := n1_; have GW101 := n2_; have GE101 := n3_; clear n0_ n1_ n2_ n3_; clear hb hbox hg; have hcz16_0 : w15.cell? ⟨gb101, 0, none⟩ = some (.slice A0_0 l0_0.length c0_0) := (blk_cell BK101.out 0).trans rfl; have hcz16_1 : w15.cell? ⟨gb101, 1, none⟩ = some (.slice A0_1 l0_1.length c0_1) := (blk_cell BK101.out 1).trans rfl; have hcz16_2 : w15.cell? ⟨gb101, 2, none⟩ = some (.int .i64 a0_2) := (blk_cell BK101.out 2).trans rfl; have hfz16_0 := blk_frozen BK101.out 0; have hfz16_1 := blk_frozen BK101.out 1; have hfz16_2 := blk_frozen BK101.out 2))
          go_ret
          exact ⟨by first | rfl | (simp [errW_none, errW_some] <;> rfl) | (simp [*, errW_none, errW_some] <;> rfl), by repeat (first | (with_reducible first | exact HB.out | apply below_alloc | apply pw_below_drewN | apply below_drew1 | refine below_set ?_ GE101.out) | exact HB.out)⟩
        · rw [if_neg c14] at H
          have c14b0 : decide (100 < (l2.length : Int)) = false := decide_eq_false c14
          have c14b1 : decide (100 < l2.length) = false := decide_eq_false (by omega)
          clear c14
          obtain rfl := Option.some.inj H
          go_enter Try.func12, Try.ntmps12
          go_wp2_with (first | ((with_reducible refine gate_dst (N := 4) rfl ?_); (try (refine gate_guard (by rfl) ?_; dsimp only)); refine box_event ?hg (N := 4) ?hd (cs := #[.slice A0_0 l0_0.length c0_0, .slice A0_1 l0_1.length c0_1, .int .i64 a0_2]) (t := 24) ?hr ?_; (case hd => rfl); (case hg => rfl); (case hr => first | (go_simp; done) | (go_simp; rfl)); intro gb101 hg w17 hbox hb; have n0_ := Aside0.mk (below_step (by repeat (first | (with_reducible first | exact HB.out | apply below_alloc | apply pw_below_drewN | apply below_drew1) | exact HB.out)) hb); have n1_ := Aside0.mk (hbox); have n2_ := Aside0.mk ((by rw [hg]; exact (below_size (by repeat (first | (with_reducible first | exact HB.out | apply below_alloc | apply pw_below_drewN | apply below_drew1) | exact HB.out))) : w.heap.size ≤ gb101)); have n3_ := Aside0.mk ((by rw [hg]; exact (below_size (by repeat (first | (with_reducible first | exact HB.out | apply below_alloc | apply pw_below_drewN | apply below_drew1) | exact HB.out))) : w.heap.size ≤ gb101)); clear HB; have HB := n0_; have BK101 := n1_; have GW101 := n2_; have GE101 := n3_; clear n0_ n1_ n2_ n3_; clear hb hbox hg; have hcz18_0 : w17.cell? ⟨gb101, 0, none⟩ = some (.slice A0_0 l0_0.length c0_0) := (blk_cell BK101.out 0).trans rfl; have hcz18_1 : w17.cell? ⟨gb101, 1, none⟩ = some (.slice A0_1 l0_1.length c0_1) := (blk_cell BK101.out 1).trans rfl; have hcz18_2 : w17.cell? ⟨gb101, 2, none⟩ = some (.int .i64 a0_2) := (blk_cell BK101.out 2).trans rfl; have hfz18_0 := blk_frozen BK101.out 0; have hfz18_1 := blk_frozen BK101.out 1; have hfz18_2 := blk_frozen BK101.out 2))
          go_ret
          exact ⟨by first | rfl | (simp [errW_none, errW_some] <;> rfl) | (simp [*, errW_none, errW_some] <;> rfl), by repeat (first | (with_reducible first | exact HB.out | apply below_alloc | apply pw_below_drewN | apply below_drew1 | refine below_set ?_ GE101.out) | exact HB.out)⟩

/-! ### mortiseref2_Sum: function 75 -/
def mortiseref2_Sum.f (a0 : Int) : Option (ByteArray) := if a0 = 17 then (some (⟨#[97, 100, 100]⟩ : ByteArray)) else (if a0 = 18 then (some (⟨#[115, 117, 98]⟩ : ByteArray)) else (if a0 = 19 then (some (⟨#[109, 117, 108]⟩ : ByteArray)) else (if a0 = 20 then (some (⟨#[100, 105, 118]⟩ : ByteArray)) else (if a0 = 21 then (some (⟨#[114, 101, 109]⟩ : ByteArray)) else (if a0 = 22 then (some (⟨#[97, 110, 100]⟩ : ByteArray)) else (if a0 = 23 then (some (⟨#[111, 114]⟩ : ByteArray)) else (if a0 = 24 then (some (⟨#[120, 111, 114]⟩ : ByteArray)) else (if a0 = 25 then (some (⟨#[115, 104, 108]⟩ : ByteArray)) else (if a0 = 26 then (some (⟨#[115, 104, 114]⟩ : ByteArray)) else (if a0 = 27 then (some (⟨#[101, 113]⟩ : ByteArray)) else (if a0 = 28 then (some (⟨#[110, 101]⟩ : ByteArray)) else (if a0 = 29 then (some (⟨#[108, 116]⟩ : ByteArray)) else (if a0 = 30 then (some (⟨#[108, 101]⟩ : ByteArray)) else (if a0 = 31 then (some (⟨#[103, 116]⟩ : ByteArray)) else (if a0 = 32 then (some (⟨#[103, 101]⟩ : ByteArray)) else (if a0 = 41 then (some (⟨#[110, 101, 103]⟩ : ByteArray)) else (if a0 = 42 then (some (⟨#[102, 108, 105, 112]⟩ : ByteArray)) else (if a0 = 43 then (some (⟨#[98, 97, 110, 103]⟩ : ByteArray)) else (some (⟨#[]⟩ : ByteArray))))))))))))))))))))
set_option maxHeartbeats 8000000 in
set_option maxRecDepth 100000 in
theorem mortiseref2_Sum.calls (a0 : Int) (r : ByteArray) (w : World) (h : mortiseref2_Sum.f a0 = some r) :
    Calls Try.prog 75 #[.int .i64 a0] w fun e w' => e = .returned (.string r) ∧ Drawn0 w w' := by
  have H : (if a0 = 17 then (some (⟨#[97, 100, 100]⟩ : ByteArray)) else (if a0 = 18 then (some (⟨#[115, 117, 98]⟩ : ByteArray)) else (if a0 = 19 then (some (⟨#[109, 117, 108]⟩ : ByteArray)) else (if a0 = 20 then (some (⟨#[100, 105, 118]⟩ : ByteArray)) else (if a0 = 21 then (some (⟨#[114, 101, 109]⟩ : ByteArray)) else (if a0 = 22 then (some (⟨#[97, 110, 100]⟩ : ByteArray)) else (if a0 = 23 then (some (⟨#[111, 114]⟩ : ByteArray)) else (if a0 = 24 then (some (⟨#[120, 111, 114]⟩ : ByteArray)) else (if a0 = 25 then (some (⟨#[115, 104, 108]⟩ : ByteArray)) else (if a0 = 26 then (some (⟨#[115, 104, 114]⟩ : ByteArray)) else (if a0 = 27 then (some (⟨#[101, 113]⟩ : ByteArray)) else (if a0 = 28 then (some (⟨#[110, 101]⟩ : ByteArray)) else (if a0 = 29 then (some (⟨#[108, 116]⟩ : ByteArray)) else (if a0 = 30 then (some (⟨#[108, 101]⟩ : ByteArray)) else (if a0 = 31 then (some (⟨#[103, 116]⟩ : ByteArray)) else (if a0 = 32 then (some (⟨#[103, 101]⟩ : ByteArray)) else (if a0 = 41 then (some (⟨#[110, 101, 103]⟩ : ByteArray)) else (if a0 = 42 then (some (⟨#[102, 108, 105, 112]⟩ : ByteArray)) else (if a0 = 43 then (some (⟨#[98, 97, 110, 103]⟩ : ByteArray)) else (some (⟨#[]⟩ : ByteArray))))))))))))))))))))) = some r := h
  clear h
  by_cases c2 : a0 = 17
  · rw [if_pos c2] at H
    have c2b0 : (a0 == 17) = true := beq_iff_eq.mpr c2
    have c2b1 : (a0 != 17) = false := bne_eq_false_iff_eq.mpr c2
    clear c2
    obtain rfl := Option.some.inj H
    go_enter Try.func75, Try.ntmps75
    go_wp2
    go_ret
    exact ⟨by first | rfl | (simp; done) | (simp [*]; done), by repeat (first | exact Drawn0.refl _ | apply Drawn0.step)⟩
  · rw [if_neg c2] at H
    have c2b0 : (a0 == 17) = false := beq_eq_false_iff_ne.mpr c2
    have c2b1 : (a0 != 17) = true := bne_iff_ne.mpr c2
    by_cases c3 : a0 = 18
    · rw [if_pos c3] at H
      have c3b0 : (a0 == 18) = true := beq_iff_eq.mpr c3
      have c3b1 : (a0 != 18) = false := bne_eq_false_iff_eq.mpr c3
      clear c3
      obtain rfl := Option.some.inj H
      go_enter Try.func75, Try.ntmps75
      go_wp2
      go_ret
      exact ⟨by first | rfl | (simp; done) | (simp [*]; done), by repeat (first | exact Drawn0.refl _ | apply Drawn0.step)⟩
    · rw [if_neg c3] at H
      have c3b0 : (a0 == 18) = false := beq_eq_false_iff_ne.mpr c3
      have c3b1 : (a0 != 18) = true := bne_iff_ne.mpr c3
      by_cases c4 : a0 = 19
      · rw [if_pos c4] at H
        have c4b0 : (a0 == 19) = true := beq_iff_eq.mpr c4
        have c4b1 : (a0 != 19) = false := bne_eq_false_iff_eq.mpr c4
        clear c4
        obtain rfl := Option.some.inj H
        go_enter Try.func75, Try.ntmps75
        go_wp2
        go_ret
        exact ⟨by first | rfl | (simp; done) | (simp [*]; done), by repeat (first | exact Drawn0.refl _ | apply Drawn0.step)⟩
      · rw [if_neg c4] at H
        have c4b0 : (a0 == 19) = false := beq_eq_false_iff_ne.mpr c4
        have c4b1 : (a0 != 19) = true := bne_iff_ne.mpr c4
        by_cases c5 : a0 = 20
        · rw [if_pos c5] at H
          have c5b0 : (a0 == 20) = true := beq_iff_eq.mpr c5
          have c5b1 : (a0 != 20) = false := bne_eq_false_iff_eq.mpr c5
          clear c5
          obtain rfl := Option.some.inj H
          go_enter Try.func75, Try.ntmps75
          go_wp2
          go_ret
          exact ⟨by first | rfl | (simp; done) | (simp [*]; done), by repeat (first | exact Drawn0.refl _ | apply Drawn0.step)⟩
        · rw [if_neg c5] at H
          have c5b0 : (a0 == 20) = false := beq_eq_false_iff_ne.mpr c5
          have c5b1 : (a0 != 20) = true := bne_iff_ne.mpr c5
          by_cases c6 : a0 = 21
          · rw [if_pos c6] at H
            have c6b0 : (a0 == 21) = true := beq_iff_eq.mpr c6
            have c6b1 : (a0 != 21) = false := bne_eq_false_iff_eq.mpr c6
            clear c6
            obtain rfl := Option.some.inj H
            go_enter Try.func75, Try.ntmps75
            go_wp2
            go_ret
            exact ⟨by first | rfl | (simp; done) | (simp [*]; done), by repeat (first | exact Drawn0.refl _ | apply Drawn0.step)⟩
          · rw [if_neg c6] at H
            have c6b0 : (a0 == 21) = false := beq_eq_false_iff_ne.mpr c6
            have c6b1 : (a0 != 21) = true := bne_iff_ne.mpr c6
            by_cases c7 : a0 = 22
            · rw [if_pos c7] at H
              have c7b0 : (a0 == 22) = true := beq_iff_eq.mpr c7
              have c7b1 : (a0 != 22) = false := bne_eq_false_iff_eq.mpr c7
              clear c7
              obtain rfl := Option.some.inj H
              go_enter Try.func75, Try.ntmps75
              go_wp2
              go_ret
              exact ⟨by first | rfl | (simp; done) | (simp [*]; done), by repeat (first | exact Drawn0.refl _ | apply Drawn0.step)⟩
            · rw [if_neg c7] at H
              have c7b0 : (a0 == 22) = false := beq_eq_false_iff_ne.mpr c7
              have c7b1 : (a0 != 22) = true := bne_iff_ne.mpr c7
              by_cases c8 : a0 = 23
              · rw [if_pos c8] at H
                have c8b0 : (a0 == 23) = true := beq_iff_eq.mpr c8
                have c8b1 : (a0 != 23) = false := bne_eq_false_iff_eq.mpr c8
                clear c8
                obtain rfl := Option.some.inj H
                go_enter Try.func75, Try.ntmps75
                go_wp2
                go_ret
                exact ⟨by first | rfl | (simp; done) | (simp [*]; done), by repeat (first | exact Drawn0.refl _ | apply Drawn0.step)⟩
              · rw [if_neg c8] at H
                have c8b0 : (a0 == 23) = false := beq_eq_false_iff_ne.mpr c8
                have c8b1 : (a0 != 23) = true := bne_iff_ne.mpr c8
                by_cases c9 : a0 = 24
                · rw [if_pos c9] at H
                  have c9b0 : (a0 == 24) = true := beq_iff_eq.mpr c9
                  have c9b1 : (a0 != 24) = false := bne_eq_false_iff_eq.mpr c9
                  clear c9
                  obtain rfl := Option.some.inj H
                  go_enter Try.func75, Try.ntmps75
                  go_wp2
                  go_ret
                  exact ⟨by first | rfl | (simp; done) | (simp [*]; done), by repeat (first | exact Drawn0.refl _ | apply Drawn0.step)⟩
                · rw [if_neg c9] at H
                  have c9b0 : (a0 == 24) = false := beq_eq_false_iff_ne.mpr c9
                  have c9b1 : (a0 != 24) = true := bne_iff_ne.mpr c9
                  by_cases c10 : a0 = 25
                  · rw [if_pos c10] at H
                    have c10b0 : (a0 == 25) = true := beq_iff_eq.mpr c10
                    have c10b1 : (a0 != 25) = false := bne_eq_false_iff_eq.mpr c10
                    clear c10
                    obtain rfl := Option.some.inj H
                    go_enter Try.func75, Try.ntmps75
                    go_wp2
                    go_ret
                    exact ⟨by first | rfl | (simp; done) | (simp [*]; done), by repeat (first | exact Drawn0.refl _ | apply Drawn0.step)⟩
                  · rw [if_neg c10] at H
                    have c10b0 : (a0 == 25) = false := beq_eq_false_iff_ne.mpr c10
                    have c10b1 : (a0 != 25) = true := bne_iff_ne.mpr c10
                    by_cases c11 : a0 = 26
                    · rw [if_pos c11] at H
                      have c11b0 : (a0 == 26) = true := beq_iff_eq.mpr c11
                      have c11b1 : (a0 != 26) = false := bne_eq_false_iff_eq.mpr c11
                      clear c11
                      obtain rfl := Option.some.inj H
                      go_enter Try.func75, Try.ntmps75
                      go_wp2
                      go_ret
                      exact ⟨by first | rfl | (simp; done) | (simp [*]; done), by repeat (first | exact Drawn0.refl _ | apply Drawn0.step)⟩
                    · rw [if_neg c11] at H
                      have c11b0 : (a0 == 26) = false := beq_eq_false_iff_ne.mpr c11
                      have c11b1 : (a0 != 26) = true := bne_iff_ne.mpr c11
                      by_cases c12 : a0 = 27
                      · rw [if_pos c12] at H
                        have c12b0 : (a0 == 27) = true := beq_iff_eq.mpr c12
                        have c12b1 : (a0 != 27) = false := bne_eq_false_iff_eq.mpr c12
                        clear c12
                        obtain rfl := Option.some.inj H
                        go_enter Try.func75, Try.ntmps75
                        go_wp2
                        go_ret
                        exact ⟨by first | rfl | (simp; done) | (simp [*]; done), by repeat (first | exact Drawn0.refl _ | apply Drawn0.step)⟩
                      · rw [if_neg c12] at H
                        have c12b0 : (a0 == 27) = false := beq_eq_false_iff_ne.mpr c12
                        have c12b1 : (a0 != 27) = true := bne_iff_ne.mpr c12
                        by_cases c13 : a0 = 28
                        · rw [if_pos c13] at H
                          have c13b0 : (a0 == 28) = true := beq_iff_eq.mpr c13
                          have c13b1 : (a0 != 28) = false := bne_eq_false_iff_eq.mpr c13
                          clear c13
                          obtain rfl := Option.some.inj H
                          go_enter Try.func75, Try.ntmps75
                          go_wp2
                          go_ret
                          exact ⟨by first | rfl | (simp; done) | (simp [*]; done), by repeat (first | exact Drawn0.refl _ | apply Drawn0.step)⟩
                        · rw [if_neg c13] at H
                          have c13b0 : (a0 == 28) = false := beq_eq_false_iff_ne.mpr c13
                          have c13b1 : (a0 != 28) = true := bne_iff_ne.mpr c13
                          by_cases c14 : a0 = 29
                          · rw [if_pos c14] at H
                            have c14b0 : (a0 == 29) = true := beq_iff_eq.mpr c14
                            have c14b1 : (a0 != 29) = false := bne_eq_false_iff_eq.mpr c14
                            clear c14
                            obtain rfl := Option.some.inj H
                            go_enter Try.func75, Try.ntmps75
                            go_wp2
                            go_ret
                            exact ⟨by first | rfl | (simp; done) | (simp [*]; done), by repeat (first | exact Drawn0.refl _ | apply Drawn0.step)⟩
                          · rw [if_neg c14] at H
                            have c14b0 : (a0 == 29) = false := beq_eq_false_iff_ne.mpr c14
                            have c14b1 : (a0 != 29) = true := bne_iff_ne.mpr c14
                            by_cases c15 : a0 = 30
                            · rw [if_pos c15] at H
                              have c15b0 : (a0 == 30) = true := beq_iff_eq.mpr c15
                              have c15b1 : (a0 != 30) = false := bne_eq_false_iff_eq.mpr c15
                              clear c15
                              obtain rfl := Option.some.inj H
                              go_enter Try.func75, Try.ntmps75
                              go_wp2
                              go_ret
                              exact ⟨by first | rfl | (simp; done) | (simp [*]; done), by repeat (first | exact Drawn0.refl _ | apply Drawn0.step)⟩
                            · rw [if_neg c15] at H
                              have c15b0 : (a0 == 30) = false := beq_eq_false_iff_ne.mpr c15
                              have c15b1 : (a0 != 30) = true := bne_iff_ne.mpr c15
                              by_cases c16 : a0 = 31
                              · rw [if_pos c16] at H
                                have c16b0 : (a0 == 31) = true := beq_iff_eq.mpr c16
                                have c16b1 : (a0 != 31) = false := bne_eq_false_iff_eq.mpr c16
                                clear c16
                                obtain rfl := Option.some.inj H
                                go_enter Try.func75, Try.ntmps75
                                go_wp2
                                go_ret
                                exact ⟨by first | rfl | (simp; done) | (simp [*]; done), by repeat (first | exact Drawn0.refl _ | apply Drawn0.step)⟩
                              · rw [if_neg c16] at H
                                have c16b0 : (a0 == 31) = false := beq_eq_false_iff_ne.mpr c16
                                have c16b1 : (a0 != 31) = true := bne_iff_ne.mpr c16
                                by_cases c17 : a0 = 32
                                · rw [if_pos c17] at H
                                  have c17b0 : (a0 == 32) = true := beq_iff_eq.mpr c17
                                  have c17b1 : (a0 != 32) = false := bne_eq_false_iff_eq.mpr c17
                                  clear c17
                                  obtain rfl := Option.some.inj H
                                  go_enter Try.func75, Try.ntmps75
                                  go_wp2
                                  go_ret
                                  exact ⟨by first | rfl | (simp; done) | (simp [*]; done), by repeat (first | exact Drawn0.refl _ | apply Drawn0.step)⟩
                                · rw [if_neg c17] at H
                                  have c17b0 : (a0 == 32) = false := beq_eq_false_iff_ne.mpr c17
                                  have c17b1 : (a0 != 32) = true := bne_iff_ne.mpr c17
                                  by_cases c18 : a0 = 41
                                  · rw [if_pos c18] at H
                                    have c18b0 : (a0 == 41) = true := beq_iff_eq.mpr c18
                                    have c18b1 : (a0 != 41) = false := bne_eq_false_iff_eq.mpr c18
                                    clear c18
                                    obtain rfl := Option.some.inj H
                                    go_enter Try.func75, Try.ntmps75
                                    go_wp2
                                    go_ret
                                    exact ⟨by first | rfl | (simp; done) | (simp [*]; done), by repeat (first | exact Drawn0.refl _ | apply Drawn0.step)⟩
                                  · rw [if_neg c18] at H
                                    have c18b0 : (a0 == 41) = false := beq_eq_false_iff_ne.mpr c18
                                    have c18b1 : (a0 != 41) = true := bne_iff_ne.mpr c18
                                    by_cases c19 : a0 = 42
                                    · rw [if_pos c19] at H
                                      have c19b0 : (a0 == 42) = true := beq_iff_eq.mpr c19
                                      have c19b1 : (a0 != 42) = false := bne_eq_false_iff_eq.mpr c19
                                      clear c19
                                      obtain rfl := Option.some.inj H
                                      go_enter Try.func75, Try.ntmps75
                                      go_wp2
                                      go_ret
                                      exact ⟨by first | rfl | (simp; done) | (simp [*]; done), by repeat (first | exact Drawn0.refl _ | apply Drawn0.step)⟩
                                    · rw [if_neg c19] at H
                                      have c19b0 : (a0 == 42) = false := beq_eq_false_iff_ne.mpr c19
                                      have c19b1 : (a0 != 42) = true := bne_iff_ne.mpr c19
                                      by_cases c20 : a0 = 43
                                      · rw [if_pos c20] at H
                                        have c20b0 : (a0 == 43) = true := beq_iff_eq.mpr c20
                                        have c20b1 : (a0 != 43) = false := bne_eq_false_iff_eq.mpr c20
                                        clear c20
                                        obtain rfl := Option.some.inj H
                                        go_enter Try.func75, Try.ntmps75
                                        go_wp2
                                        go_ret
                                        exact ⟨by first | rfl | (simp; done) | (simp [*]; done), by repeat (first | exact Drawn0.refl _ | apply Drawn0.step)⟩
                                      · rw [if_neg c20] at H
                                        have c20b0 : (a0 == 43) = false := beq_eq_false_iff_ne.mpr c20
                                        have c20b1 : (a0 != 43) = true := bne_iff_ne.mpr c20
                                        obtain rfl := Option.some.inj H
                                        go_enter Try.func75, Try.ntmps75
                                        go_wp2
                                        go_ret
                                        exact ⟨by first | rfl | (simp; done) | (simp [*]; done), by repeat (first | exact Drawn0.refl _ | apply Drawn0.step)⟩

/-! ### mortiseref2_Name: function 74 -/
def mortiseref2_Name.f (a0 : Int) : Option (ByteArray) := if a0 = 0 then (some (⟨#[104, 97, 108, 116]⟩ : ByteArray)) else (if a0 = 1 then (some (⟨#[116, 114, 97, 112]⟩ : ByteArray)) else (if a0 = 2 then (some (⟨#[109, 111, 118, 101]⟩ : ByteArray)) else (if a0 = 3 then (some (⟨#[99, 111, 110, 115, 116]⟩ : ByteArray)) else (if a0 = 4 then (some (⟨#[104, 105, 103, 104]⟩ : ByteArray)) else (if a0 = 5 then (some (⟨#[108, 111, 97, 100]⟩ : ByteArray)) else (if a0 = 6 then (some (⟨#[115, 116, 111, 114, 101]⟩ : ByteArray)) else (if a0 = 7 then (some (⟨#[106, 117, 109, 112]⟩ : ByteArray)) else (if a0 = 8 then (some (⟨#[122, 101, 114, 111]⟩ : ByteArray)) else (if a0 = 9 then (some (⟨#[115, 111, 109, 101]⟩ : ByteArray)) else (if a0 = 10 then (some (⟨#[99, 97, 108, 108]⟩ : ByteArray)) else (if a0 = 11 then (some (⟨#[97, 116]⟩ : ByteArray)) else (if a0 = 12 then (some (⟨#[114, 101, 116]⟩ : ByteArray)) else (if a0 = 13 then (some (⟨#[105, 110]⟩ : ByteArray)) else (if a0 = 14 then (some (⟨#[111, 117, 116]⟩ : ByteArray)) else (if a0 = 15 then (some (⟨#[114, 111, 111, 109]⟩ : ByteArray)) else ((mortiseref2_Sum.f a0).bind fun t102 => (some t102)))))))))))))))))
set_option maxHeartbeats 8000000 in
set_option maxRecDepth 100000 in
theorem mortiseref2_Name.calls (a0 : Int) (r : ByteArray) (w : World) (h : mortiseref2_Name.f a0 = some r) :
    Calls Try.prog 74 #[.int .i64 a0] w fun e w' => e = .returned (.string r) ∧ Drawn0 w w' := by
  have H : (if a0 = 0 then (some (⟨#[104, 97, 108, 116]⟩ : ByteArray)) else (if a0 = 1 then (some (⟨#[116, 114, 97, 112]⟩ : ByteArray)) else (if a0 = 2 then (some (⟨#[109, 111, 118, 101]⟩ : ByteArray)) else (if a0 = 3 then (some (⟨#[99, 111, 110, 115, 116]⟩ : ByteArray)) else (if a0 = 4 then (some (⟨#[104, 105, 103, 104]⟩ : ByteArray)) else (if a0 = 5 then (some (⟨#[108, 111, 97, 100]⟩ : ByteArray)) else (if a0 = 6 then (some (⟨#[115, 116, 111, 114, 101]⟩ : ByteArray)) else (if a0 = 7 then (some (⟨#[106, 117, 109, 112]⟩ : ByteArray)) else (if a0 = 8 then (some (⟨#[122, 101, 114, 111]⟩ : ByteArray)) else (if a0 = 9 then (some (⟨#[115, 111, 109, 101]⟩ : ByteArray)) else (if a0 = 10 then (some (⟨#[99, 97, 108, 108]⟩ : ByteArray)) else (if a0 = 11 then (some (⟨#[97, 116]⟩ : ByteArray)) else (if a0 = 12 then (some (⟨#[114, 101, 116]⟩ : ByteArray)) else (if a0 = 13 then (some (⟨#[105, 110]⟩ : ByteArray)) else (if a0 = 14 then (some (⟨#[111, 117, 116]⟩ : ByteArray)) else (if a0 = 15 then (some (⟨#[114, 111, 111, 109]⟩ : ByteArray)) else ((mortiseref2_Sum.f a0).bind fun t102 => (some t102)))))))))))))))))) = some r := h
  clear h
  by_cases c2 : a0 = 0
  · rw [if_pos c2] at H
    have c2b0 : (a0 == 0) = true := beq_iff_eq.mpr c2
    have c2b1 : (a0 != 0) = false := bne_eq_false_iff_eq.mpr c2
    clear c2
    obtain rfl := Option.some.inj H
    go_enter Try.func74, Try.ntmps74
    go_wp2
    go_ret
    exact ⟨by first | rfl | (simp; done) | (simp [*]; done), by repeat (first | exact Drawn0.refl _ | apply Drawn0.step)⟩
  · rw [if_neg c2] at H
    have c2b0 : (a0 == 0) = false := beq_eq_false_iff_ne.mpr c2
    have c2b1 : (a0 != 0) = true := bne_iff_ne.mpr c2
    by_cases c3 : a0 = 1
    · rw [if_pos c3] at H
      have c3b0 : (a0 == 1) = true := beq_iff_eq.mpr c3
      have c3b1 : (a0 != 1) = false := bne_eq_false_iff_eq.mpr c3
      clear c3
      obtain rfl := Option.some.inj H
      go_enter Try.func74, Try.ntmps74
      go_wp2
      go_ret
      exact ⟨by first | rfl | (simp; done) | (simp [*]; done), by repeat (first | exact Drawn0.refl _ | apply Drawn0.step)⟩
    · rw [if_neg c3] at H
      have c3b0 : (a0 == 1) = false := beq_eq_false_iff_ne.mpr c3
      have c3b1 : (a0 != 1) = true := bne_iff_ne.mpr c3
      by_cases c4 : a0 = 2
      · rw [if_pos c4] at H
        have c4b0 : (a0 == 2) = true := beq_iff_eq.mpr c4
        have c4b1 : (a0 != 2) = false := bne_eq_false_iff_eq.mpr c4
        clear c4
        obtain rfl := Option.some.inj H
        go_enter Try.func74, Try.ntmps74
        go_wp2
        go_ret
        exact ⟨by first | rfl | (simp; done) | (simp [*]; done), by repeat (first | exact Drawn0.refl _ | apply Drawn0.step)⟩
      · rw [if_neg c4] at H
        have c4b0 : (a0 == 2) = false := beq_eq_false_iff_ne.mpr c4
        have c4b1 : (a0 != 2) = true := bne_iff_ne.mpr c4
        by_cases c5 : a0 = 3
        · rw [if_pos c5] at H
          have c5b0 : (a0 == 3) = true := beq_iff_eq.mpr c5
          have c5b1 : (a0 != 3) = false := bne_eq_false_iff_eq.mpr c5
          clear c5
          obtain rfl := Option.some.inj H
          go_enter Try.func74, Try.ntmps74
          go_wp2
          go_ret
          exact ⟨by first | rfl | (simp; done) | (simp [*]; done), by repeat (first | exact Drawn0.refl _ | apply Drawn0.step)⟩
        · rw [if_neg c5] at H
          have c5b0 : (a0 == 3) = false := beq_eq_false_iff_ne.mpr c5
          have c5b1 : (a0 != 3) = true := bne_iff_ne.mpr c5
          by_cases c6 : a0 = 4
          · rw [if_pos c6] at H
            have c6b0 : (a0 == 4) = true := beq_iff_eq.mpr c6
            have c6b1 : (a0 != 4) = false := bne_eq_false_iff_eq.mpr c6
            clear c6
            obtain rfl := Option.some.inj H
            go_enter Try.func74, Try.ntmps74
            go_wp2
            go_ret
            exact ⟨by first | rfl | (simp; done) | (simp [*]; done), by repeat (first | exact Drawn0.refl _ | apply Drawn0.step)⟩
          · rw [if_neg c6] at H
            have c6b0 : (a0 == 4) = false := beq_eq_false_iff_ne.mpr c6
            have c6b1 : (a0 != 4) = true := bne_iff_ne.mpr c6
            by_cases c7 : a0 = 5
            · rw [if_pos c7] at H
              have c7b0 : (a0 == 5) = true := beq_iff_eq.mpr c7
              have c7b1 : (a0 != 5) = false := bne_eq_false_iff_eq.mpr c7
              clear c7
              obtain rfl := Option.some.inj H
              go_enter Try.func74, Try.ntmps74
              go_wp2
              go_ret
              exact ⟨by first | rfl | (simp; done) | (simp [*]; done), by repeat (first | exact Drawn0.refl _ | apply Drawn0.step)⟩
            · rw [if_neg c7] at H
              have c7b0 : (a0 == 5) = false := beq_eq_false_iff_ne.mpr c7
              have c7b1 : (a0 != 5) = true := bne_iff_ne.mpr c7
              by_cases c8 : a0 = 6
              · rw [if_pos c8] at H
                have c8b0 : (a0 == 6) = true := beq_iff_eq.mpr c8
                have c8b1 : (a0 != 6) = false := bne_eq_false_iff_eq.mpr c8
                clear c8
                obtain rfl := Option.some.inj H
                go_enter Try.func74, Try.ntmps74
                go_wp2
                go_ret
                exact ⟨by first | rfl | (simp; done) | (simp [*]; done), by repeat (first | exact Drawn0.refl _ | apply Drawn0.step)⟩
              · rw [if_neg c8] at H
                have c8b0 : (a0 == 6) = false := beq_eq_false_iff_ne.mpr c8
                have c8b1 : (a0 != 6) = true := bne_iff_ne.mpr c8
                by_cases c9 : a0 = 7
                · rw [if_pos c9] at H
                  have c9b0 : (a0 == 7) = true := beq_iff_eq.mpr c9
                  have c9b1 : (a0 != 7) = false := bne_eq_false_iff_eq.mpr c9
                  clear c9
                  obtain rfl := Option.some.inj H
                  go_enter Try.func74, Try.ntmps74
                  go_wp2
                  go_ret
                  exact ⟨by first | rfl | (simp; done) | (simp [*]; done), by repeat (first | exact Drawn0.refl _ | apply Drawn0.step)⟩
                · rw [if_neg c9] at H
                  have c9b0 : (a0 == 7) = false := beq_eq_false_iff_ne.mpr c9
                  have c9b1 : (a0 != 7) = true := bne_iff_ne.mpr c9
                  by_cases c10 : a0 = 8
                  · rw [if_pos c10] at H
                    have c10b0 : (a0 == 8) = true := beq_iff_eq.mpr c10
                    have c10b1 : (a0 != 8) = false := bne_eq_false_iff_eq.mpr c10
                    clear c10
                    obtain rfl := Option.some.inj H
                    go_enter Try.func74, Try.ntmps74
                    go_wp2
                    go_ret
                    exact ⟨by first | rfl | (simp; done) | (simp [*]; done), by repeat (first | exact Drawn0.refl _ | apply Drawn0.step)⟩
                  · rw [if_neg c10] at H
                    have c10b0 : (a0 == 8) = false := beq_eq_false_iff_ne.mpr c10
                    have c10b1 : (a0 != 8) = true := bne_iff_ne.mpr c10
                    by_cases c11 : a0 = 9
                    · rw [if_pos c11] at H
                      have c11b0 : (a0 == 9) = true := beq_iff_eq.mpr c11
                      have c11b1 : (a0 != 9) = false := bne_eq_false_iff_eq.mpr c11
                      clear c11
                      obtain rfl := Option.some.inj H
                      go_enter Try.func74, Try.ntmps74
                      go_wp2
                      go_ret
                      exact ⟨by first | rfl | (simp; done) | (simp [*]; done), by repeat (first | exact Drawn0.refl _ | apply Drawn0.step)⟩
                    · rw [if_neg c11] at H
                      have c11b0 : (a0 == 9) = false := beq_eq_false_iff_ne.mpr c11
                      have c11b1 : (a0 != 9) = true := bne_iff_ne.mpr c11
                      by_cases c12 : a0 = 10
                      · rw [if_pos c12] at H
                        have c12b0 : (a0 == 10) = true := beq_iff_eq.mpr c12
                        have c12b1 : (a0 != 10) = false := bne_eq_false_iff_eq.mpr c12
                        clear c12
                        obtain rfl := Option.some.inj H
                        go_enter Try.func74, Try.ntmps74
                        go_wp2
                        go_ret
                        exact ⟨by first | rfl | (simp; done) | (simp [*]; done), by repeat (first | exact Drawn0.refl _ | apply Drawn0.step)⟩
                      · rw [if_neg c12] at H
                        have c12b0 : (a0 == 10) = false := beq_eq_false_iff_ne.mpr c12
                        have c12b1 : (a0 != 10) = true := bne_iff_ne.mpr c12
                        by_cases c13 : a0 = 11
                        · rw [if_pos c13] at H
                          have c13b0 : (a0 == 11) = true := beq_iff_eq.mpr c13
                          have c13b1 : (a0 != 11) = false := bne_eq_false_iff_eq.mpr c13
                          clear c13
                          obtain rfl := Option.some.inj H
                          go_enter Try.func74, Try.ntmps74
                          go_wp2
                          go_ret
                          exact ⟨by first | rfl | (simp; done) | (simp [*]; done), by repeat (first | exact Drawn0.refl _ | apply Drawn0.step)⟩
                        · rw [if_neg c13] at H
                          have c13b0 : (a0 == 11) = false := beq_eq_false_iff_ne.mpr c13
                          have c13b1 : (a0 != 11) = true := bne_iff_ne.mpr c13
                          by_cases c14 : a0 = 12
                          · rw [if_pos c14] at H
                            have c14b0 : (a0 == 12) = true := beq_iff_eq.mpr c14
                            have c14b1 : (a0 != 12) = false := bne_eq_false_iff_eq.mpr c14
                            clear c14
                            obtain rfl := Option.some.inj H
                            go_enter Try.func74, Try.ntmps74
                            go_wp2
                            go_ret
                            exact ⟨by first | rfl | (simp; done) | (simp [*]; done), by repeat (first | exact Drawn0.refl _ | apply Drawn0.step)⟩
                          · rw [if_neg c14] at H
                            have c14b0 : (a0 == 12) = false := beq_eq_false_iff_ne.mpr c14
                            have c14b1 : (a0 != 12) = true := bne_iff_ne.mpr c14
                            by_cases c15 : a0 = 13
                            · rw [if_pos c15] at H
                              have c15b0 : (a0 == 13) = true := beq_iff_eq.mpr c15
                              have c15b1 : (a0 != 13) = false := bne_eq_false_iff_eq.mpr c15
                              clear c15
                              obtain rfl := Option.some.inj H
                              go_enter Try.func74, Try.ntmps74
                              go_wp2
                              go_ret
                              exact ⟨by first | rfl | (simp; done) | (simp [*]; done), by repeat (first | exact Drawn0.refl _ | apply Drawn0.step)⟩
                            · rw [if_neg c15] at H
                              have c15b0 : (a0 == 13) = false := beq_eq_false_iff_ne.mpr c15
                              have c15b1 : (a0 != 13) = true := bne_iff_ne.mpr c15
                              by_cases c16 : a0 = 14
                              · rw [if_pos c16] at H
                                have c16b0 : (a0 == 14) = true := beq_iff_eq.mpr c16
                                have c16b1 : (a0 != 14) = false := bne_eq_false_iff_eq.mpr c16
                                clear c16
                                obtain rfl := Option.some.inj H
                                go_enter Try.func74, Try.ntmps74
                                go_wp2
                                go_ret
                                exact ⟨by first | rfl | (simp; done) | (simp [*]; done), by repeat (first | exact Drawn0.refl _ | apply Drawn0.step)⟩
                              · rw [if_neg c16] at H
                                have c16b0 : (a0 == 14) = false := beq_eq_false_iff_ne.mpr c16
                                have c16b1 : (a0 != 14) = true := bne_iff_ne.mpr c16
                                by_cases c17 : a0 = 15
                                · rw [if_pos c17] at H
                                  have c17b0 : (a0 == 15) = true := beq_iff_eq.mpr c17
                                  have c17b1 : (a0 != 15) = false := bne_eq_false_iff_eq.mpr c17
                                  clear c17
                                  obtain rfl := Option.some.inj H
                                  go_enter Try.func74, Try.ntmps74
                                  go_wp2
                                  go_ret
                                  exact ⟨by first | rfl | (simp; done) | (simp [*]; done), by repeat (first | exact Drawn0.refl _ | apply Drawn0.step)⟩
                                · rw [if_neg c17] at H
                                  have c17b0 : (a0 == 15) = false := beq_eq_false_iff_ne.mpr c17
                                  have c17b1 : (a0 != 15) = true := bne_iff_ne.mpr c17
                                  replace H := Option.bind_eq_some_iff.mp H
                                  obtain ⟨t102, A180, H⟩ := H
                                  replace H : (some t102) = some r := H
                                  have A18 := Aside0.mk A180
                                  clear A180
                                  obtain rfl := Option.some.inj H
                                  go_enter Try.func74, Try.ntmps74
                                  go_wp2_with (first | ((with_reducible refine gate_callee (f := 75) rfl ?_); refine goesL_ (some 37) rfl rfl Try.func75 (by kernel_rfl) rfl #[.int .i64 a0] rfl (by (try simp only [List.map_toArray, List.map_cons, List.map_nil]); first | done | rfl | (simp only [List.length_drop, List.length_take]; rfl)) ?_; (with_reducible refine (mortiseref2_Sum.calls a0 t102 _ A18.out).mono ?_); rintro e w' ⟨rfl, ⟨nd, rfl⟩⟩; refine ⟨_, rfl, ?_⟩))
                                  go_ret
                                  exact ⟨by first | rfl | (simp; done) | (simp [*]; done), by repeat (first | exact Drawn0.refl _ | apply Drawn0.step)⟩

end Go.Proofs.Ytbchiolgbhckhaa.PMachRuns

-- PRINTED BY print.sh 35421559b90ae4d0a3588c463048766b98c2df88dd9212a6774a882060cdf62d: not written by this session
import Derived.Test.YtnbgbmddkbneeaaPLinkWeakx0
import Derived.Test.YtnbgbmddkbneeaaPLinkWeakx2
import Derived.Test.YtnbgbmddkbneeaaPLinkWeakx4
import Derived.Test.YtnbgbmddkbneeaaPLinkWeakx5
namespace Go.Proofs.Ytnbgbmddkbneeaa.PLinkWeak
open Go.RowKit Go.Proofs.YtnbgbmddkbneeaaW.PrintWords Go.Proofs.YtnbgbmddkbneeaaW.PrintLast Go.Proofs.YtnbgbmddkbneeaaW.PrintMore
attribute [local go_sem] max2_int min2_int max_two min_two max_three min_three max_four min_four   -- for this text's walks alone
set_option linter.unusedVariables false
set_option linter.unusedSimpArgs false

/-! ### mortiseref28_reloc: function 32 -/
def mortiseref28_reloc.j0 : Nat → Bool → ByteArray → Int → List (S44) → List (S51) → List (S64) → List Int → List Int → Bool → Int → ByteArray → Option (Bool)
  | 0, _, _, _, _, _, _, _, _, _, _, _ => none
  | k + 1, x18, x121000, x121001, x121002, x121003, x121004, x121005, x121006, x122000, x122001, x122002 => if x18 = true then (some false) else (if x122000 = true then (if x122001 < (x121006.length : Int) then (if 0 ≤ x122001 then (some ((rd x121006 x122001) == 0)) else (none)) else (some false)) else (if x122001 ≥ (x121005.length : Int) then (some false) else (if 0 ≤ x122001 then (if x122001 < (x121005.length : Int) then ((mortiseref2_Decode.f k (rd x121005 x122001)).bind fun bt125 => ((mortiseref2_Uses.f k bt125.1).bind fun bt132 => (if bt125.2.2.2.2.2 = 0 then (if bt132.2.1 = true then (some (bt125.2.2.2.2.1 == 0)) else (some false)) else (some false)))) else (none)) else (none))))
def mortiseref28_reloc.f (k : Nat) (a0_0 : ByteArray) (a0_1 : Int) (l0_2 : List (S44)) (l0_3 : List (S51)) (l0_4 : List (S64)) (l0_5 : List Int) (l0_6 : List Int) (a1_0 : Bool) (a1_1 : Int) (a1_2 : ByteArray) : Option (Bool) := (mortiseref15_Name.f a1_2).bind fun t122 => (if t122 = true then (mortiseref28_reloc.j0 k (decide (a1_1 < 0)) a0_0 a0_1 l0_2 l0_3 l0_4 l0_5 l0_6 a1_0 a1_1 a1_2) else (mortiseref28_reloc.j0 k true a0_0 a0_1 l0_2 l0_3 l0_4 l0_5 l0_6 a1_0 a1_1 a1_2))
theorem mortiseref28_reloc.mono_l : ∀ k, (∀ y0 y1 y2 y3 y4 y5 y6 y7 y8 y9 y10, LeO (mortiseref28_reloc.j0 k y0 y1 y2 y3 y4 y5 y6 y7 y8 y9 y10) (mortiseref28_reloc.j0 (k + 1) y0 y1 y2 y3 y4 y5 y6 y7 y8 y9 y10))
  | 0 => fun _ _ _ _ _ _ _ _ _ _ _ r h => by simp [mortiseref28_reloc.j0] at h
  | k + 1 => by
    have ih0 := mortiseref28_reloc.mono_l k
    · intro y0 y1 y2 y3 y4 y5 y6 y7 y8 y9 y10
      unfold mortiseref28_reloc.j0
      repeat' first
      | (with_reducible exact ih0 _ _ _ _ _ _ _ _ _ _ _)
      | (with_reducible exact mortiseref2_Decode.mono _ _)
      | (with_reducible exact mortiseref2_Uses.mono _ _)
      | (with_reducible exact LeO.refl _)
      | (with_reducible exact LeO.none _)
      | (with_reducible refine LeO.ite ?_ ?_)
      | (with_reducible refine LeO.bind ?_ (fun _ => ?_))
      | exact ih0 _ _ _ _ _ _ _ _ _ _ _
      | exact mortiseref2_Decode.mono _ _
      | exact mortiseref2_Uses.mono _ _
      | exact LeO.none _
      | refine LeO.ite ?_ ?_
      | refine LeO.bind ?_ (fun _ => ?_)
theorem mortiseref28_reloc.mono : ∀ a0 a1 a2 a3 a4 a5 a6 a7 a8 a9 k, LeO (mortiseref28_reloc.f k a0 a1 a2 a3 a4 a5 a6 a7 a8 a9) (mortiseref28_reloc.f (k + 1) a0 a1 a2 a3 a4 a5 a6 a7 a8 a9) := by
  intro a0 a1 a2 a3 a4 a5 a6 a7 a8 a9 k
  have ih0 := mortiseref28_reloc.mono_l k
  unfold mortiseref28_reloc.f
  repeat' first
      | (with_reducible exact ih0 _ _ _ _ _ _ _ _ _ _ _)
      | (with_reducible exact mortiseref2_Decode.mono _ _)
      | (with_reducible exact mortiseref2_Uses.mono _ _)
      | (with_reducible exact LeO.refl _)
      | (with_reducible exact LeO.none _)
      | (with_reducible refine LeO.ite ?_ ?_)
      | (with_reducible refine LeO.bind ?_ (fun _ => ?_))
      | exact ih0 _ _ _ _ _ _ _ _ _ _ _
      | exact mortiseref2_Decode.mono _ _
      | exact mortiseref2_Uses.mono _ _
      | exact LeO.none _
      | refine LeO.ite ?_ ?_
      | refine LeO.bind ?_ (fun _ => ?_)
set_option maxHeartbeats 8000000 in
set_option maxRecDepth 100000 in
theorem mortiseref28_reloc.calls (k : Nat) (a0_0 : ByteArray) (a0_1 : Int) (A0_2 : Option Addr) (c0_2 : Nat) (l0_2 : List (S44)) (A0_3 : Option Addr) (c0_3 : Nat) (l0_3 : List (S51)) (A0_4 : Option Addr) (c0_4 : Nat) (l0_4 : List (S64)) (A0_5 : Option Addr) (c0_5 : Nat) (l0_5 : List Int) (A0_6 : Option Addr) (c0_6 : Nat) (l0_6 : List Int) (a1_0 : Bool) (a1_1 : Int) (a1_2 : ByteArray) (r : Bool) (w : World) (hr0_2 : Kd.C k44 w A0_2 l0_2.length l0_2) (hc0_2 : l0_2.length ≤ c0_2) (hr0_3 : Kd.C k51 w A0_3 l0_3.length l0_3) (hc0_3 : l0_3.length ≤ c0_3) (hr0_4 : Kd.C k64 w A0_4 l0_4.length l0_4) (hc0_4 : l0_4.length ≤ c0_4) (hr0_5 : Kd.C (Kd.int .i64) w A0_5 l0_5.length l0_5) (hc0_5 : l0_5.length ≤ c0_5) (hr0_6 : Kd.C (Kd.int .i64) w A0_6 l0_6.length l0_6) (hc0_6 : l0_6.length ≤ c0_6) (h : mortiseref28_reloc.f k a0_0 a0_1 l0_2 l0_3 l0_4 l0_5 l0_6 a1_0 a1_1 a1_2 = some r) :
    Calls Try.prog 32 #[.agg #[.string a0_0, .int .i64 a0_1, .slice A0_2 l0_2.length c0_2, .slice A0_3 l0_3.length c0_3, .slice A0_4 l0_4.length c0_4, .slice A0_5 l0_5.length c0_5, .slice A0_6 l0_6.length c0_6], .agg #[.bool a1_0, .int .i64 a1_1, .string a1_2]] w fun e w' => e = .returned (.bool r) ∧ Below w.heap.size w w' := by
  have hu27 := Try.underlying27
  have hu64 := Try.underlying64
  have hu100 := Try.underlying100
  have HR0_2 := Aside0.mk hr0_2
  have HC0_2 := Aside0.mk hc0_2
  clear hr0_2 hc0_2
  have HR0_3 := Aside0.mk hr0_3
  have HC0_3 := Aside0.mk hc0_3
  clear hr0_3 hc0_3
  have HR0_4 := Aside0.mk hr0_4
  have HC0_4 := Aside0.mk hc0_4
  clear hr0_4 hc0_4
  have HR0_5 := Aside0.mk hr0_5
  have HC0_5 := Aside0.mk hc0_5
  clear hr0_5 hc0_5
  have HR0_6 := Aside0.mk hr0_6
  have HC0_6 := Aside0.mk hc0_6
  clear hr0_6 hc0_6
  have HB := Aside0.mk (Below.refl w.heap.size w)
  have H : ((mortiseref15_Name.f a1_2).bind fun t122 => (if t122 = true then (mortiseref28_reloc.j0 k (decide (a1_1 < 0)) a0_0 a0_1 l0_2 l0_3 l0_4 l0_5 l0_6 a1_0 a1_1 a1_2) else (mortiseref28_reloc.j0 k true a0_0 a0_1 l0_2 l0_3 l0_4 l0_5 l0_6 a1_0 a1_1 a1_2))) = some r := h
  clear h
  have HC3 := Aside0.mk H
  clear H
  go_enter Try.func32, Try.ntmps32
  go_upto_region 1 with (first | ((with_reducible refine gate_dst (N := 2) rfl ?_); refine box_event ?hg (N := 2) ?hd (cs := #[.string a0_0, .int .i64 a0_1, .slice A0_2 l0_2.length c0_2, .slice A0_3 l0_3.length c0_3, .slice A0_4 l0_4.length c0_4, .slice A0_5 l0_5.length c0_5, .slice A0_6 l0_6.length c0_6]) (t := 27) ?hr ?_; (case hd => rfl); (case hg => rfl); (case hr => first | (go_simp; done) | (go_simp; rfl)); intro gb120 hg w4 hbox hb; have n0_ := Aside0.mk (below_step (by repeat (first | (with_reducible first | exact HB.out | apply below_alloc | apply pw_below_drewN | apply below_drew1) | exact HB.out)) hb); have n1_ := Aside0.mk (hbox); have n2_ := Aside0.mk ((by rw [hg]; exact (below_size (by repeat (first | (with_reducible first | exact HB.out | apply below_alloc | apply pw_below_drewN | apply below_drew1) | exact HB.out))) : w.heap.size ≤ gb120)); have n3_ := Aside0.mk ((by rw [hg]; exact (below_size (by repeat (first | (with_reducible first | exact HB.out | apply below_alloc | apply pw_below_drewN | apply below_drew1) | exact HB.out))) : w.heap.size ≤ gb120)); clear HB; have HB := n0_; have BK120 := n1_; have GW120 := n2_; have GE120 := n3_; clear n0_ n1_ n2_ n3_; clear hb hbox hg) | ((with_reducible refine gate_dst (N := 3) rfl ?_); refine box_event ?hg (N := 3) ?hd (cs := #[.bool a1_0, .int .i64 a1_1, .string a1_2]) (t := 64) ?hr ?_; (case hd => rfl); (case hg => rfl); (case hr => first | (go_simp; done) | (go_simp; rfl)); intro gb121 hg w5 hbox hb; have n0_ := Aside0.mk (blk_below (g := gb120) (o := .cells #[.string a0_0, .int .i64 a0_1, .slice A0_2 l0_2.length c0_2, .slice A0_3 l0_3.length c0_3, .slice A0_4 l0_4.length c0_4, .slice A0_5 l0_5.length c0_5, .slice A0_6 l0_6.length c0_6] 27 (0, 0)) (by (with_reducible repeat (first | refine blk_drewN ?_ _ | refine blk_drew ?_ | refine blk_alloc ?_ _)); exact BK120.out) hb); have n1_ := Aside0.mk (below_step (by repeat (first | (with_reducible first | exact HB.out | apply below_alloc | apply pw_below_drewN | apply below_drew1 | refine below_set ?_ GE120.out) | exact HB.out)) hb); have n2_ := Aside0.mk (hbox); have n3_ := Aside0.mk ((by rw [hg]; exact (below_size (by repeat (first | (with_reducible first | exact HB.out | apply below_alloc | apply pw_below_drewN | apply below_drew1 | refine below_set ?_ GE120.out) | exact HB.out))) : w.heap.size ≤ gb121)); have n4_ := Aside0.mk ((by rw [hg]; exact (below_size (by repeat (first | (with_reducible first | exact HB.out | apply below_alloc | apply pw_below_drewN | apply below_drew1 | refine below_set ?_ GE120.out) | exact HB.out))) : w.heap.size ≤ gb121)); have n5_ := Aside0.mk ((by rw [hg]; exact Nat.ne_of_lt (blk_lt (g := gb120) (o := .cells #[.string a0_0, .int .i64 a0_1, .slice A0_2 l0_2.length c0_2, .slice A0_3 l0_3.length c0_3, .slice A0_4 l0_4.length c0_4, .slice A0_5 l0_5.length c0_5, .slice A0_6 l0_6.length c0_6] 27 (0, 0)) (by (with_reducible repeat (first | refine blk_drewN ?_ _ | refine blk_drew ?_ | refine blk_alloc ?_ _)); exact BK120.out)) : gb120 ≠ gb121)); have n6_ := Aside0.mk ((by rw [hg]; exact Nat.ne_of_gt (blk_lt (g := gb120) (o := .cells #[.string a0_0, .int .i64 a0_1, .slice A0_2 l0_2.length c0_2, .slice A0_3 l0_3.length c0_3, .slice A0_4 l0_4.length c0_4, .slice A0_5 l0_5.length c0_5, .slice A0_6 l0_6.length c0_6] 27 (0, 0)) (by (with_reducible repeat (first | refine blk_drewN ?_ _ | refine blk_drew ?_ | refine blk_alloc ?_ _)); exact BK120.out)) : gb121 ≠ gb120)); clear BK120; clear HB; have BK120 := n0_; have HB := n1_; have BK121 := n2_; have GW121 := n3_; have GE121 := n4_; have NB120_121 := n5_; have NB121_120 := n6_; clear n0_ n1_ n2_ n3_ n4_ n5_ n6_; clear hb hbox hg))
  (try simp only [Act.put, List.setIfInBounds_toArray, List.set_cons_zero, List.set_cons_succ])
  go_cut [18] (fun v18 wc => ∃ (kq : Nat) (x18_2 : Bool), v18 = .bool x18_2 ∧ Aside0 (mortiseref28_reloc.j0 kq x18_2 a0_0 a0_1 l0_2 l0_3 l0_4 l0_5 l0_6 a1_0 a1_1 a1_2 = some r) ∧ Aside0 (kq ≤ k) ∧ Aside0 (wc.heap[gb120]? = some (.cells #[.string a0_0, .int .i64 a0_1, (.slice A0_2 l0_2.length c0_2), (.slice A0_3 l0_3.length c0_3), (.slice A0_4 l0_4.length c0_4), (.slice A0_5 l0_5.length c0_5), (.slice A0_6 l0_6.length c0_6)] 27 (0, 0))) ∧ Aside0 (wc.heap[gb121]? = some (.cells #[.bool a1_0, .int .i64 a1_1, .string a1_2] 64 (0, 0))) ∧ Aside0 (Below w.heap.size w wc))
  case first =>
    have H := HC3.out
    clear HC3
    replace H := Option.bind_eq_some_iff.mp H
    obtain ⟨t122, A60, H⟩ := H
    replace H : (if t122 = true then (mortiseref28_reloc.j0 k (decide (a1_1 < 0)) a0_0 a0_1 l0_2 l0_3 l0_4 l0_5 l0_6 a1_0 a1_1 a1_2) else (mortiseref28_reloc.j0 k true a0_0 a0_1 l0_2 l0_3 l0_4 l0_5 l0_6 a1_0 a1_1 a1_2)) = some r := H
    have A6 := Aside0.mk A60
    clear A60
    by_cases c7 : t122 = true
    · subst c7
      have H1 : (mortiseref28_reloc.j0 k (decide (a1_1 < 0)) a0_0 a0_1 l0_2 l0_3 l0_4 l0_5 l0_6 a1_0 a1_1 a1_2) = some r := by rw [if_pos rfl] at H; exact H
      clear H
      have H := H1
      clear H1
      have H' := Aside0.mk H
      clear H
      have hnb8 := NB121_120.out
      have hnc8 := NB120_121.out
      have hcz9_0 : w5.cell? ⟨gb121, 0, none⟩ = some (.bool a1_0) := (blk_cell BK121.out 0).trans rfl
      have hcz9_1 : w5.cell? ⟨gb121, 1, none⟩ = some (.int .i64 a1_1) := (blk_cell BK121.out 1).trans rfl
      have hcz9_2 : w5.cell? ⟨gb121, 2, none⟩ = some (.string a1_2) := (blk_cell BK121.out 2).trans rfl
      have hfz9_0 := blk_frozen BK121.out 0
      have hfz9_1 := blk_frozen BK121.out 1
      have hfz9_2 := blk_frozen BK121.out 2
      go_wp2_with (first | ((with_reducible refine gate_callee (f := 30) rfl ?_); refine goesL_ (some 12) rfl rfl Try.func30 (by kernel_rfl) rfl #[.string a1_2] rfl (by (try simp only [List.map_toArray, List.map_cons, List.map_nil]); first | done | rfl | (simp only [List.length_drop, List.length_take]; rfl)) ?_; (with_reducible refine (mortiseref15_Name.calls a1_2 true _ A6.out).mono ?_); rintro e w' ⟨rfl, ⟨nd, rfl⟩⟩; refine ⟨_, rfl, ?_⟩))
      go_meet
      case rel => exact ⟨_, (decide (a1_1 < 0)), (by first | rfl | (simp; done) | (simp [*]; done)), H', ⟨by first | omega | exact Nat.le_refl _⟩, ⟨by (with_reducible repeat (first | refine blk_drewN ?_ _ | refine blk_drew ?_ | refine blk_alloc ?_ _)); exact BK120.out⟩, ⟨by (with_reducible repeat (first | refine blk_drewN ?_ _ | refine blk_drew ?_ | refine blk_alloc ?_ _)); exact BK121.out⟩, ⟨by repeat (first | (with_reducible first | exact HB.out | apply below_alloc | apply pw_below_drewN | apply below_drew1 | refine below_set ?_ GE120.out | refine below_set ?_ GE121.out) | exact HB.out)⟩⟩
    · replace c7 := Bool.eq_false_iff.mpr c7
      subst c7
      have H1 : (mortiseref28_reloc.j0 k true a0_0 a0_1 l0_2 l0_3 l0_4 l0_5 l0_6 a1_0 a1_1 a1_2) = some r := by rw [if_neg (show ¬ (false = true) by decide)] at H; exact H
      clear H
      have H := H1
      clear H1
      have H' := Aside0.mk H
      clear H
      have hnb10 := NB121_120.out
      have hnc10 := NB120_121.out
      have hcz11_0 : w5.cell? ⟨gb121, 0, none⟩ = some (.bool a1_0) := (blk_cell BK121.out 0).trans rfl
      have hcz11_1 : w5.cell? ⟨gb121, 1, none⟩ = some (.int .i64 a1_1) := (blk_cell BK121.out 1).trans rfl
      have hcz11_2 : w5.cell? ⟨gb121, 2, none⟩ = some (.string a1_2) := (blk_cell BK121.out 2).trans rfl
      have hfz11_0 := blk_frozen BK121.out 0
      have hfz11_1 := blk_frozen BK121.out 1
      have hfz11_2 := blk_frozen BK121.out 2
      go_wp2_with (first | ((with_reducible refine gate_callee (f := 30) rfl ?_); refine goesL_ (some 12) rfl rfl Try.func30 (by kernel_rfl) rfl #[.string a1_2] rfl (by (try simp only [List.map_toArray, List.map_cons, List.map_nil]); first | done | rfl | (simp only [List.length_drop, List.length_take]; rfl)) ?_; (with_reducible refine (mortiseref15_Name.calls a1_2 false _ A6.out).mono ?_); rintro e w' ⟨rfl, ⟨nd, rfl⟩⟩; refine ⟨_, rfl, ?_⟩))
      go_meet
      case rel => exact ⟨_, (true), (by first | rfl | (simp; done) | (simp [*]; done)), H', ⟨by first | omega | exact Nat.le_refl _⟩, ⟨by (with_reducible repeat (first | refine blk_drewN ?_ _ | refine blk_drew ?_ | refine blk_alloc ?_ _)); exact BK120.out⟩, ⟨by (with_reducible repeat (first | refine blk_drewN ?_ _ | refine blk_drew ?_ | refine blk_alloc ?_ _)); exact BK121.out⟩, ⟨by repeat (first | (with_reducible first | exact HB.out | apply below_alloc | apply pw_below_drewN | apply below_drew1 | refine below_set ?_ GE120.out | refine below_set ?_ GE121.out) | exact HB.out)⟩⟩
  case rest =>
    clear HC3
    try clear c1
    try clear p2
    try clear c3
    try clear c7
    try clear c8
    try clear c10
    try clear hcz11_0
    try clear hcz11_1
    try clear hcz11_2
    try clear hcz9_0
    try clear hcz9_1
    try clear hcz9_2
    try clear hfz11_0
    try clear hfz11_1
    try clear hfz11_2
    try clear hfz9_0
    try clear hfz9_1
    try clear hfz9_2
    obtain ⟨kq, x18_2, rfl, HA, HJ2, BK120, BK121, HB⟩ := hcut
    cases kq with
    | zero => exact absurd HA.out (by simp [mortiseref28_reloc.j0])
    | succ kj2 =>
      have H := HA.out
      clear HA
      simp only [mortiseref28_reloc.j0] at H
      by_cases c12 : x18_2 = true
      · subst c12
        have H1 : (some false) = some r := by rw [if_pos rfl] at H; exact H
        clear H
        have H := H1
        clear H1
        obtain rfl := Option.some.inj H
        go_wp2
        go_ret
        exact ⟨by first | rfl | (simp [errW_none, errW_some] <;> rfl) | (simp [*, errW_none, errW_some] <;> rfl), by repeat (first | (with_reducible first | exact HB.out | apply below_alloc | apply pw_below_drewN | apply below_drew1 | refine below_set ?_ GE120.out | refine below_set ?_ GE121.out) | exact HB.out)⟩
      · replace c12 := Bool.eq_false_iff.mpr c12
        subst c12
        have H1 : (if a1_0 = true then (if a1_1 < (l0_6.length : Int) then (if 0 ≤ a1_1 then (some ((rd l0_6 a1_1) == 0)) else (none)) else (some false)) else (if a1_1 ≥ (l0_5.length : Int) then (some false) else (if 0 ≤ a1_1 then (if a1_1 < (l0_5.length : Int) then ((mortiseref2_Decode.f kj2 (rd l0_5 a1_1)).bind fun bt125 => ((mortiseref2_Uses.f kj2 bt125.1).bind fun bt132 => (if bt125.2.2.2.2.2 = 0 then (if bt132.2.1 = true then (some (bt125.2.2.2.2.1 == 0)) else (some false)) else (some false)))) else (none)) else (none)))) = some r := by rw [if_neg (show ¬ (false = true) by decide)] at H; exact H
        clear H
        have H := H1
        clear H1
        by_cases c13 : a1_0 = true
        · subst c13
          have H1 : (if a1_1 < (l0_6.length : Int) then (if 0 ≤ a1_1 then (some ((rd l0_6 a1_1) == 0)) else (none)) else (some false)) = some r := by rw [if_pos rfl] at H; exact H
          clear H
          have H := H1
          clear H1
          by_cases c14 : a1_1 < (l0_6.length : Int)
          · rw [if_pos c14] at H
            have c14b0 : decide (a1_1 < (l0_6.length : Int)) = true := decide_eq_true c14
            clear c14
            by_cases c15 : 0 ≤ a1_1
            · rw [if_pos c15] at H
              have c15b0 : decide (0 ≤ a1_1) = true := decide_eq_true c15
              clear c15
              obtain rfl := Option.some.inj H
              have hnb16 := NB121_120.out
              have hnc16 := NB120_121.out
              have hcz17_0 : wc.cell? ⟨gb121, 0, none⟩ = some (.bool true) := (blk_cell BK121.out 0).trans rfl
              have hcz17_1 : wc.cell? ⟨gb121, 1, none⟩ = some (.int .i64 a1_1) := (blk_cell BK121.out 1).trans rfl
              have hcz17_2 : wc.cell? ⟨gb121, 2, none⟩ = some (.string a1_2) := (blk_cell BK121.out 2).trans rfl
              have hfz17_0 := blk_frozen BK121.out 0
              have hfz17_1 := blk_frozen BK121.out 1
              have hfz17_2 := blk_frozen BK121.out 2
              have hcz18_0 : wc.cell? ⟨gb120, 0, none⟩ = some (.string a0_0) := (blk_cell BK120.out 0).trans rfl
              have hcz18_1 : wc.cell? ⟨gb120, 1, none⟩ = some (.int .i64 a0_1) := (blk_cell BK120.out 1).trans rfl
              have hcz18_2 : wc.cell? ⟨gb120, 2, none⟩ = some (.slice A0_2 l0_2.length c0_2) := (blk_cell BK120.out 2).trans rfl
              have hcz18_3 : wc.cell? ⟨gb120, 3, none⟩ = some (.slice A0_3 l0_3.length c0_3) := (blk_cell BK120.out 3).trans rfl
              have hcz18_4 : wc.cell? ⟨gb120, 4, none⟩ = some (.slice A0_4 l0_4.length c0_4) := (blk_cell BK120.out 4).trans rfl
              have hcz18_5 : wc.cell? ⟨gb120, 5, none⟩ = some (.slice A0_5 l0_5.length c0_5) := (blk_cell BK120.out 5).trans rfl
              have hcz18_6 : wc.cell? ⟨gb120, 6, none⟩ = some (.slice A0_6 l0_6.length c0_6) := (blk_cell BK120.out 6).trans rfl
              have hfz18_0 := blk_frozen BK120.out 0
              have hfz18_1 := blk_frozen BK120.out 1
              have hfz18_2 := blk_frozen BK120.out 2
              have hfz18_3 := blk_frozen BK120.out 3
              have hfz18_4 := blk_frozen BK120.out 4
              have hfz18_5 := blk_frozen BK120.out 5
              have hfz18_6 := blk_frozen BK120.out 6
              have p123 : 0 ≤ (a1_1 : Int) := of_decide_eq_true (by first | (with_reducible assumption) | assumption)
              have q123 : a1_1 < (l0_6.length : Int) := of_decide_eq_true (by first | (with_reducible assumption) | assumption)
              obtain ⟨ad123, e123, hx123_0⟩ := Kd.at_int HR0_6.out a1_1 p123 q123
              cases e123
              replace hx123_0 := (HB.out.cell (World.block_lt_of_cell? w _ hx123_0)).trans hx123_0
              replace p123 := eq_true p123
              replace q123 := eq_true q123
              go_wp2
              go_ret
              exact ⟨by first | rfl | (simp [errW_none, errW_some] <;> rfl) | (simp [*, errW_none, errW_some] <;> rfl), by repeat (first | (with_reducible first | exact HB.out | apply below_alloc | apply pw_below_drewN | apply below_drew1 | refine below_set ?_ GE120.out | refine below_set ?_ GE121.out) | exact HB.out)⟩
            · rw [if_neg c15] at H
              exact absurd H (by simp)
          · rw [if_neg c14] at H
            have c14b0 : decide (a1_1 < (l0_6.length : Int)) = false := decide_eq_false c14
            clear c14
            obtain rfl := Option.some.inj H
            have hnb19 := NB121_120.out
            have hnc19 := NB120_121.out
            have hcz20_0 : wc.cell? ⟨gb121, 0, none⟩ = some (.bool true) := (blk_cell BK121.out 0).trans rfl
            have hcz20_1 : wc.cell? ⟨gb121, 1, none⟩ = some (.int .i64 a1_1) := (blk_cell BK121.out 1).trans rfl
            have hcz20_2 : wc.cell? ⟨gb121, 2, none⟩ = some (.string a1_2) := (blk_cell BK121.out 2).trans rfl
            have hfz20_0 := blk_frozen BK121.out 0
            have hfz20_1 := blk_frozen BK121.out 1
            have hfz20_2 := blk_frozen BK121.out 2
            have hcz21_0 : wc.cell? ⟨gb120, 0, none⟩ = some (.string a0_0) := (blk_cell BK120.out 0).trans rfl
            have hcz21_1 : wc.cell? ⟨gb120, 1, none⟩ = some (.int .i64 a0_1) := (blk_cell BK120.out 1).trans rfl
            have hcz21_2 : wc.cell? ⟨gb120, 2, none⟩ = some (.slice A0_2 l0_2.length c0_2) := (blk_cell BK120.out 2).trans rfl
            have hcz21_3 : wc.cell? ⟨gb120, 3, none⟩ = some (.slice A0_3 l0_3.length c0_3) := (blk_cell BK120.out 3).trans rfl
            have hcz21_4 : wc.cell? ⟨gb120, 4, none⟩ = some (.slice A0_4 l0_4.length c0_4) := (blk_cell BK120.out 4).trans rfl
            have hcz21_5 : wc.cell? ⟨gb120, 5, none⟩ = some (.slice A0_5 l0_5.length c0_5) := (blk_cell BK120.out 5).trans rfl
            have hcz21_6 : wc.cell? ⟨gb120, 6, none⟩ = some (.slice A0_6 l0_6.length c0_6) := (blk_cell BK120.out 6).trans rfl
            have hfz21_0 := blk_frozen BK120.out 0
            have hfz21_1 := blk_frozen BK120.out 1
            have hfz21_2 := blk_frozen BK120.out 2
            have hfz21_3 := blk_frozen BK120.out 3
            have hfz21_4 := blk_frozen BK120.out 4
            have hfz21_5 := blk_frozen BK120.out 5
            have hfz21_6 := blk_frozen BK120.out 6
            go_wp2
            go_ret
            exact ⟨by first | rfl | (simp [errW_none, errW_some] <;> rfl) | (simp [*, errW_none, errW_some] <;> rfl), by repeat (first | (with_reducible first | exact HB.out | apply below_alloc | apply pw_below_drewN | apply below_drew1 | refine below_set ?_ GE120.out | refine below_set ?_ GE121.out) | exact HB.out)⟩
        · replace c13 := Bool.eq_false_iff.mpr c13
          subst c13
          have H1 : (if a1_1 ≥ (l0_5.length : Int) then (some false) else (if 0 ≤ a1_1 then (if a1_1 < (l0_5.length : Int) then ((mortiseref2_Decode.f kj2 (rd l0_5 a1_1)).bind fun bt125 => ((mortiseref2_Uses.f kj2 bt125.1).bind fun bt132 => (if bt125.2.2.2.2.2 = 0 then (if bt132.2.1 = true then (some (bt125.2.2.2.2.1 == 0)) else (some false)) else (some false)))) else (none)) else (none))) = some r := by rw [if_neg (show ¬ (false = true) by decide)] at H; exact H
          clear H
          have H := H1
          clear H1
          by_cases c22 : a1_1 ≥ (l0_5.length : Int)
          · rw [if_pos c22] at H
            have c22b0 : decide ((l0_5.length : Int) ≤ a1_1) = true := decide_eq_true c22
            clear c22
            obtain rfl := Option.some.inj H
            have hnb23 := NB121_120.out
            have hnc23 := NB120_121.out
            have hcz24_0 : wc.cell? ⟨gb121, 0, none⟩ = some (.bool false) := (blk_cell BK121.out 0).trans rfl
            have hcz24_1 : wc.cell? ⟨gb121, 1, none⟩ = some (.int .i64 a1_1) := (blk_cell BK121.out 1).trans rfl
            have hcz24_2 : wc.cell? ⟨gb121, 2, none⟩ = some (.string a1_2) := (blk_cell BK121.out 2).trans rfl
            have hfz24_0 := blk_frozen BK121.out 0
            have hfz24_1 := blk_frozen BK121.out 1
            have hfz24_2 := blk_frozen BK121.out 2
            have hcz25_0 : wc.cell? ⟨gb120, 0, none⟩ = some (.string a0_0) := (blk_cell BK120.out 0).trans rfl
            have hcz25_1 : wc.cell? ⟨gb120, 1, none⟩ = some (.int .i64 a0_1) := (blk_cell BK120.out 1).trans rfl
            have hcz25_2 : wc.cell? ⟨gb120, 2, none⟩ = some (.slice A0_2 l0_2.length c0_2) := (blk_cell BK120.out 2).trans rfl
            have hcz25_3 : wc.cell? ⟨gb120, 3, none⟩ = some (.slice A0_3 l0_3.length c0_3) := (blk_cell BK120.out 3).trans rfl
            have hcz25_4 : wc.cell? ⟨gb120, 4, none⟩ = some (.slice A0_4 l0_4.length c0_4) := (blk_cell BK120.out 4).trans rfl
            have hcz25_5 : wc.cell? ⟨gb120, 5, none⟩ = some (.slice A0_5 l0_5.length c0_5) := (blk_cell BK120.out 5).trans rfl
            have hcz25_6 : wc.cell? ⟨gb120, 6, none⟩ = some (.slice A0_6 l0_6.length c0_6) := (blk_cell BK120.out 6).trans rfl
            have hfz25_0 := blk_frozen BK120.out 0
            have hfz25_1 := blk_frozen BK120.out 1
            have hfz25_2 := blk_frozen BK120.out 2
            have hfz25_3 := blk_frozen BK120.out 3
            have hfz25_4 := blk_frozen BK120.out 4
            have hfz25_5 := blk_frozen BK120.out 5
            have hfz25_6 := blk_frozen BK120.out 6
            go_wp2
            go_ret
            exact ⟨by first | rfl | (simp [errW_none, errW_some] <;> rfl) | (simp [*, errW_none, errW_some] <;> rfl), by repeat (first | (with_reducible first | exact HB.out | apply below_alloc | apply pw_below_drewN | apply below_drew1 | refine below_set ?_ GE120.out | refine below_set ?_ GE121.out) | exact HB.out)⟩
          · rw [if_neg c22] at H
            have c22b0 : decide ((l0_5.length : Int) ≤ a1_1) = false := decide_eq_false c22
            clear c22
            by_cases c26 : 0 ≤ a1_1
            · rw [if_pos c26] at H
              have c26b0 : decide (0 ≤ a1_1) = true := decide_eq_true c26
              clear c26
              by_cases c27 : a1_1 < (l0_5.length : Int)
              · rw [if_pos c27] at H
                have c27b0 : decide (a1_1 < (l0_5.length : Int)) = true := decide_eq_true c27
                clear c27
                replace H := Option.bind_eq_some_iff.mp H
                obtain ⟨⟨t125, t126, t127, t128, t129, t130⟩, A280, H⟩ := H
                replace H : ((mortiseref2_Uses.f kj2 t125).bind fun bt132 => (if t130 = 0 then (if bt132.2.1 = true then (some (t129 == 0)) else (some false)) else (some false))) = some r := H
                have A28 := Aside0.mk A280
                clear A280
                replace H := Option.bind_eq_some_iff.mp H
                obtain ⟨⟨t132, t133, t134⟩, A290, H⟩ := H
                replace H : (if t130 = 0 then (if t133 = true then (some (t129 == 0)) else (some false)) else (some false)) = some r := H
                have A29 := Aside0.mk A290
                clear A290
                by_cases c30 : t130 = 0
                · rw [if_pos c30] at H
                  have c30b0 : (t130 == 0) = true := beq_iff_eq.mpr c30
                  have c30b1 : (t130 != 0) = false := bne_eq_false_iff_eq.mpr c30
                  clear c30
                  by_cases c31 : t133 = true
                  · subst c31
                    have H1 : (some (t129 == 0)) = some r := by rw [if_pos rfl] at H; exact H
                    clear H
                    have H := H1
                    clear H1
                    obtain rfl := Option.some.inj H
                    have hnb32 := NB121_120.out
                    have hnc32 := NB120_121.out
                    have hcz33_0 : wc.cell? ⟨gb121, 0, none⟩ = some (.bool false) := (blk_cell BK121.out 0).trans rfl
                    have hcz33_1 : wc.cell? ⟨gb121, 1, none⟩ = some (.int .i64 a1_1) := (blk_cell BK121.out 1).trans rfl
                    have hcz33_2 : wc.cell? ⟨gb121, 2, none⟩ = some (.string a1_2) := (blk_cell BK121.out 2).trans rfl
                    have hfz33_0 := blk_frozen BK121.out 0
                    have hfz33_1 := blk_frozen BK121.out 1
                    have hfz33_2 := blk_frozen BK121.out 2
                    have hcz34_0 : wc.cell? ⟨gb120, 0, none⟩ = some (.string a0_0) := (blk_cell BK120.out 0).trans rfl
                    have hcz34_1 : wc.cell? ⟨gb120, 1, none⟩ = some (.int .i64 a0_1) := (blk_cell BK120.out 1).trans rfl
                    have hcz34_2 : wc.cell? ⟨gb120, 2, none⟩ = some (.slice A0_2 l0_2.length c0_2) := (blk_cell BK120.out 2).trans rfl
                    have hcz34_3 : wc.cell? ⟨gb120, 3, none⟩ = some (.slice A0_3 l0_3.length c0_3) := (blk_cell BK120.out 3).trans rfl
                    have hcz34_4 : wc.cell? ⟨gb120, 4, none⟩ = some (.slice A0_4 l0_4.length c0_4) := (blk_cell BK120.out 4).trans rfl
                    have hcz34_5 : wc.cell? ⟨gb120, 5, none⟩ = some (.slice A0_5 l0_5.length c0_5) := (blk_cell BK120.out 5).trans rfl
                    have hcz34_6 : wc.cell? ⟨gb120, 6, none⟩ = some (.slice A0_6 l0_6.length c0_6) := (blk_cell BK120.out 6).trans rfl
                    have hfz34_0 := blk_frozen BK120.out 0
                    have hfz34_1 := blk_frozen BK120.out 1
                    have hfz34_2 := blk_frozen BK120.out 2
                    have hfz34_3 := blk_frozen BK120.out 3
                    have hfz34_4 := blk_frozen BK120.out 4
                    have hfz34_5 := blk_frozen BK120.out 5
                    have hfz34_6 := blk_frozen BK120.out 6
                    have p124 : 0 ≤ (a1_1 : Int) := of_decide_eq_true (by first | (with_reducible assumption) | assumption)
                    have q124 : a1_1 < (l0_5.length : Int) := of_decide_eq_true (by first | (with_reducible assumption) | assumption)
                    obtain ⟨ad124, e124, hx124_0⟩ := Kd.at_int HR0_5.out a1_1 p124 q124
                    cases e124
                    replace hx124_0 := (HB.out.cell (World.block_lt_of_cell? w _ hx124_0)).trans hx124_0
                    replace p124 := eq_true p124
                    replace q124 := eq_true q124
                    go_wp2_with (first | ((with_reducible refine gate_callee (f := 58) rfl ?_); refine goesL_ (some 49) rfl rfl Try.func58 (by kernel_rfl) rfl #[.int .i64 (rd l0_5 a1_1)] rfl (by (try simp only [List.map_toArray, List.map_cons, List.map_nil]); first | done | rfl | (simp only [List.length_drop, List.length_take]; rfl)) ?_; (with_reducible refine (mortiseref2_Decode.calls kj2 (rd l0_5 a1_1) t125 t126 t127 t128 t129 t130 _ A28.out).mono ?_); rintro e w35 ⟨rfl, hb⟩; refine ⟨_, rfl, ?_⟩; have n0_ := Aside0.mk (blk_below (g := gb120) (o := .cells #[.string a0_0, .int .i64 a0_1, .slice A0_2 l0_2.length c0_2, .slice A0_3 l0_3.length c0_3, .slice A0_4 l0_4.length c0_4, .slice (some ad124) l0_5.length c0_5, .slice A0_6 l0_6.length c0_6] 27 (0, 0)) (by (with_reducible repeat (first | refine blk_drewN ?_ _ | refine blk_drew ?_ | refine blk_alloc ?_ _)); exact BK120.out) hb); have n1_ := Aside0.mk (blk_below (g := gb121) (o := .cells #[.bool false, .int .i64 a1_1, .string a1_2] 64 (0, 0)) (by (with_reducible repeat (first | refine blk_drewN ?_ _ | refine blk_drew ?_ | refine blk_alloc ?_ _)); exact BK121.out) hb); have n2_ := Aside0.mk (below_step (by repeat (first | (with_reducible first | exact HB.out | apply below_alloc | apply pw_below_drewN | apply below_drew1 | refine below_set ?_ GE120.out | refine below_set ?_ GE121.out) | exact HB.out)) hb); clear BK120; clear BK121; clear HB; have BK120 := n0_; have BK121 := n1_; have HB := n2_; clear n0_ n1_ n2_; (try clear hb); (try clear hb2); (try clear hk); (try clear hi)) | ((with_reducible refine gate_dst (N := 5) rfl ?_); refine box_event ?hg (N := 5) ?hd (cs := #[.int .i64 0, .int .i64 0, .int .i64 0, .int .i64 0, .int .i64 0]) (t := 100) ?hr ?_; (case hd => rfl); (case hg => rfl); (case hr => first | (go_simp; done) | (go_simp; rfl)); intro gb131 hg w36 hbox hb; have n0_ := Aside0.mk (blk_below (g := gb120) (o := .cells #[.string a0_0, .int .i64 a0_1, .slice A0_2 l0_2.length c0_2, .slice A0_3 l0_3.length c0_3, .slice A0_4 l0_4.length c0_4, .slice (some ad124) l0_5.length c0_5, .slice A0_6 l0_6.length c0_6] 27 (0, 0)) (by (with_reducible repeat (first | refine blk_drewN ?_ _ | refine blk_drew ?_ | refine blk_alloc ?_ _)); exact BK120.out) hb); have n1_ := Aside0.mk (blk_below (g := gb121) (o := .cells #[.bool false, .int .i64 a1_1, .string a1_2] 64 (0, 0)) (by (with_reducible repeat (first | refine blk_drewN ?_ _ | refine blk_drew ?_ | refine blk_alloc ?_ _)); exact BK121.out) hb); have n2_ := Aside0.mk (below_step (by repeat (first | (with_reducible first | exact HB.out | apply below_alloc | apply pw_below_drewN | apply below_drew1 | refine below_set ?_ GE120.out | refine below_set ?_ GE121.out) | exact HB.out)) hb); have n3_ := Aside0.mk (hbox); have n4_ := Aside0.mk ((by rw [hg]; exact (below_size (by repeat (first | (with_reducible first | exact HB.out | apply below_alloc | apply pw_below_drewN | apply below_drew1 | refine below_set ?_ GE120.out | refine below_set ?_ GE121.out) | exact HB.out))) : w.heap.size ≤ gb131)); have n5_ := Aside0.mk ((by rw [hg]; exact (below_size (by repeat (first | (with_reducible first | exact HB.out | apply below_alloc | apply pw_below_drewN | apply below_drew1 | refine below_set ?_ GE120.out | refine below_set ?_ GE121.out) | exact HB.out))) : w.heap.size ≤ gb131)); have n6_ := Aside0.mk ((by rw [hg]; exact Nat.ne_of_lt (blk_lt (g := gb120) (o := .cells #[.string a0_0, .int .i64 a0_1, .slice A0_2 l0_2.length c0_2, .slice A0_3 l0_3.length c0_3, .slice A0_4 l0_4.length c0_4, .slice (some ad124) l0_5.length c0_5, .slice A0_6 l0_6.length c0_6] 27 (0, 0)) (by (with_reducible repeat (first | refine blk_drewN ?_ _ | refine blk_drew ?_ | refine blk_alloc ?_ _)); exact BK120.out)) : gb120 ≠ gb131)); have n7_ := Aside0.mk ((by rw [hg]; exact Nat.ne_of_gt (blk_lt (g := gb120) (o := .cells #[.string a0_0, .int .i64 a0_1, .slice A0_2 l0_2.length c0_2, .slice A0_3 l0_3.length c0_3, .slice A0_4 l0_4.length c0_4, .slice (some ad124) l0_5.length c0_5, .slice A0_6 l0_6.length c0_6] 27 (0, 0)) (by (with_reducible repeat (first | refine blk_drewN ?_ _ | refine blk_drew ?_ | refine blk_alloc ?_ _)); exact BK120.out)) : gb131 ≠ gb120)); have n8_ := Aside0.mk ((by rw [hg]; exact Nat.ne_of_lt (blk_lt (g := gb121) (o := .cells #[.bool false, .int .i64 a1_1, .string a1_2] 64 (0, 0)) (by (with_reducible repeat (first | refine blk_drewN ?_ _ | refine blk_drew ?_ | refine blk_alloc ?_ _)); exact BK121.out)) : gb121 ≠ gb131)); have n9_ := Aside0.mk ((by rw [hg]; exact Nat.ne_of_gt (blk_lt (g := gb121) (o := .cells #[.bool false, .int .i64 a1_1, .string a1_2] 64 (0, 0)) (by (with_reducible repeat (first | refine blk_drewN ?_ _ | refine blk_drew ?_ | refine blk_alloc ?_ _)); exact BK121.out)) : gb131 ≠ gb121)); clear BK120; clear BK121; clear HB; have BK120 := n0_; have BK121 := n1_; have HB := n2_; have BK131 := n3_; have GW131 := n4_; have GE131 := n5_; have NB120_131 := n6_; have NB131_120 := n7_; have NB121_131 := n8_; have NB131_121 := n9_; clear n0_ n1_ n2_ n3_ n4_ n5_ n6_ n7_ n8_ n9_; clear hb hbox hg; have hnb37 := NB131_120.out; have hnc37 := NB120_131.out; have hnb38 := NB131_121.out; have hnc38 := NB121_131.out; have hcz39_0 : w36.cell? ⟨gb131, 0, none⟩ = some (.int .i64 0) := (blk_cell BK131.out 0).trans rfl; have hcz39_1 : w36.cell? ⟨gb131, 1, none⟩ = some (.int .i64 0) := (blk_cell BK131.out 1).trans rfl; have hcz39_2 : w36.cell? ⟨gb131, 2, none⟩ = some (.int .i64 0) := (blk_cell BK131.out 2).trans rfl; have hcz39_3 : w36.cell? ⟨gb131, 3, none⟩ = some (.int .i64 0) := (blk_cell BK131.out 3).trans rfl; have hcz39_4 : w36.cell? ⟨gb131, 4, none⟩ = some (.int .i64 0) := (blk_cell BK131.out 4).trans rfl; have hfz39_0 := blk_frozen BK131.out 0; have hfz39_1 := blk_frozen BK131.out 1; have hfz39_2 := blk_frozen BK131.out 2; have hfz39_3 := blk_frozen BK131.out 3; have hfz39_4 := blk_frozen BK131.out 4) | ((with_reducible refine gate_callee (f := 59) rfl ?_); refine goesL_ (some 55) rfl rfl Try.func59 (by kernel_rfl) rfl #[.int .i64 t125] rfl (by (try simp only [List.map_toArray, List.map_cons, List.map_nil]); first | done | rfl | (simp only [List.length_drop, List.length_take]; rfl)) ?_; (with_reducible refine (mortiseref2_Uses.calls kj2 t125 t132 true t134 _ A29.out).mono ?_); rintro e w' ⟨rfl, ⟨nd, rfl⟩⟩; refine ⟨_, rfl, ?_⟩))
                    go_ret
                    exact ⟨by first | rfl | (simp [errW_none, errW_some] <;> rfl) | (simp [*, errW_none, errW_some] <;> rfl), by repeat (first | (with_reducible first | exact HB.out | apply below_alloc | apply pw_below_drewN | apply below_drew1 | refine below_set ?_ GE120.out | refine below_set ?_ GE121.out | refine below_set ?_ GE131.out) | exact HB.out)⟩
                  · replace c31 := Bool.eq_false_iff.mpr c31
                    subst c31
                    have H1 : (some false) = some r := by rw [if_neg (show ¬ (false = true) by decide)] at H; exact H
                    clear H
                    have H := H1
                    clear H1
                    obtain rfl := Option.some.inj H
                    have hnb40 := NB121_120.out
                    have hnc40 := NB120_121.out
                    have hcz41_0 : wc.cell? ⟨gb121, 0, none⟩ = some (.bool false) := (blk_cell BK121.out 0).trans rfl
                    have hcz41_1 : wc.cell? ⟨gb121, 1, none⟩ = some (.int .i64 a1_1) := (blk_cell BK121.out 1).trans rfl
                    have hcz41_2 : wc.cell? ⟨gb121, 2, none⟩ = some (.string a1_2) := (blk_cell BK121.out 2).trans rfl
                    have hfz41_0 := blk_frozen BK121.out 0
                    have hfz41_1 := blk_frozen BK121.out 1
                    have hfz41_2 := blk_frozen BK121.out 2
                    have hcz42_0 : wc.cell? ⟨gb120, 0, none⟩ = some (.string a0_0) := (blk_cell BK120.out 0).trans rfl
                    have hcz42_1 : wc.cell? ⟨gb120, 1, none⟩ = some (.int .i64 a0_1) := (blk_cell BK120.out 1).trans rfl
                    have hcz42_2 : wc.cell? ⟨gb120, 2, none⟩ = some (.slice A0_2 l0_2.length c0_2) := (blk_cell BK120.out 2).trans rfl
                    have hcz42_3 : wc.cell? ⟨gb120, 3, none⟩ = some (.slice A0_3 l0_3.length c0_3) := (blk_cell BK120.out 3).trans rfl
                    have hcz42_4 : wc.cell? ⟨gb120, 4, none⟩ = some (.slice A0_4 l0_4.length c0_4) := (blk_cell BK120.out 4).trans rfl
                    have hcz42_5 : wc.cell? ⟨gb120, 5, none⟩ = some (.slice A0_5 l0_5.length c0_5) := (blk_cell BK120.out 5).trans rfl
                    have hcz42_6 : wc.cell? ⟨gb120, 6, none⟩ = some (.slice A0_6 l0_6.length c0_6) := (blk_cell BK120.out 6).trans rfl
                    have hfz42_0 := blk_frozen BK120.out 0
                    have hfz42_1 := blk_frozen BK120.out 1
                    have hfz42_2 := blk_frozen BK120.out 2
                    have hfz42_3 := blk_frozen BK120.out 3
                    have hfz42_4 := blk_frozen BK120.out 4
                    have hfz42_5 := blk_frozen BK120.out 5
                    have hfz42_6 := blk_frozen BK120.out 6
                    have p124 : 0 ≤ (a1_1 : Int) := of_decide_eq_true (by first | (with_reducible assumption) | assumption)
                    have q124 : a1_1 < (l0_5.length : Int) := of_decide_eq_true (by first | (with_reducible assumption) | assumption)
                    obtain ⟨ad124, e124, hx124_0⟩ := Kd.at_int HR0_5.out a1_1 p124 q124
                    cases e124
                    replace hx124_0 := (HB.out.cell (World.block_lt_of_cell? w _ hx124_0)).trans hx124_0
                    replace p124 := eq_true p124
                    replace q124 := eq_true q124
                    go_wp2_with (first | ((with_reducible refine gate_callee (f := 58) rfl ?_); refine goesL_ (some 49) rfl rfl Try.func58 (by kernel_rfl) rfl #[.int .i64 (rd l0_5 a1_1)] rfl (by (try simp only [List.map_toArray, List.map_cons, List.map_nil]); first | done | rfl | (simp only [List.length_drop, List.length_take]; rfl)) ?_; (with_reducible refine (mortiseref2_Decode.calls kj2 (rd l0_5 a1_1) t125 t126 t127 t128 t129 t130 _ A28.out).mono ?_); rintro e w43 ⟨rfl, hb⟩; refine ⟨_, rfl, ?_⟩; have n0_ := Aside0.mk (blk_below (g := gb120) (o := .cells #[.string a0_0, .int .i64 a0_1, .slice A0_2 l0_2.length c0_2, .slice A0_3 l0_3.length c0_3, .slice A0_4 l0_4.length c0_4, .slice (some ad124) l0_5.length c0_5, .slice A0_6 l0_6.length c0_6] 27 (0, 0)) (by (with_reducible repeat (first | refine blk_drewN ?_ _ | refine blk_drew ?_ | refine blk_alloc ?_ _)); exact BK120.out) hb); have n1_ := Aside0.mk (blk_below (g := gb121) (o := .cells #[.bool false, .int .i64 a1_1, .string a1_2] 64 (0, 0)) (by (with_reducible repeat (first | refine blk_drewN ?_ _ | refine blk_drew ?_ | refine blk_alloc ?_ _)); exact BK121.out) hb); have n2_ := Aside0.mk (below_step (by repeat (first | (with_reducible first | exact HB.out | apply below_alloc | apply pw_below_drewN | apply below_drew1 | refine below_set ?_ GE120.out | refine below_set ?_ GE121.out) | exact HB.out)) hb); clear BK120; clear BK121; clear HB; have BK120 := n0_; have BK121 := n1_; have HB := n2_; clear n0_ n1_ n2_; (try clear hb); (try clear hb2); (try clear hk); (try clear hi)) | ((with_reducible refine gate_dst (N := 5) rfl ?_); refine box_event ?hg (N := 5) ?hd (cs := #[.int .i64 0, .int .i64 0, .int .i64 0, .int .i64 0, .int .i64 0]) (t := 100) ?hr ?_; (case hd => rfl); (case hg => rfl); (case hr => first | (go_simp; done) | (go_simp; rfl)); intro gb131 hg w44 hbox hb; have n0_ := Aside0.mk (blk_below (g := gb120) (o := .cells #[.string a0_0, .int .i64 a0_1, .slice A0_2 l0_2.length c0_2, .slice A0_3 l0_3.length c0_3, .slice A0_4 l0_4.length c0_4, .slice (some ad124) l0_5.length c0_5, .slice A0_6 l0_6.length c0_6] 27 (0, 0)) (by (with_reducible repeat (first | refine blk_drewN ?_ _ | refine blk_drew ?_ | refine blk_alloc ?_ _)); exact BK120.out) hb); have n1_ := Aside0.mk (blk_below (g := gb121) (o := .cells #[.bool false, .int .i64 a1_1, .string a1_2] 64 (0, 0)) (by (with_reducible repeat (first | refine blk_drewN ?_ _ | refine blk_drew ?_ | refine blk_alloc ?_ _)); exact BK121.out) hb); have n2_ := Aside0.mk (below_step (by repeat (first | (with_reducible first | exact HB.out | apply below_alloc | apply pw_below_drewN | apply below_drew1 | refine below_set ?_ GE120.out | refine below_set ?_ GE121.out) | exact HB.out)) hb); have n3_ := Aside0.mk (hbox); have n4_ := Aside0.mk ((by rw [hg]; exact (below_size (by repeat (first | (with_reducible first | exact HB.out | apply below_alloc | apply pw_below_drewN | apply below_drew1 | refine below_set ?_ GE120.out | refine below_set ?_ GE121.out) | exact HB.out))) : w.heap.size ≤ gb131)); have n5_ := Aside0.mk ((by rw [hg]; exact (below_size (by repeat (first | (with_reducible first | exact HB.out | apply below_alloc | apply pw_below_drewN | apply below_drew1 | refine below_set ?_ GE120.out | refine below_set ?_ GE121.out) | exact HB.out))) : w.heap.size ≤ gb131)); have n6_ := Aside0.mk ((by rw [hg]; exact Nat.ne_of_lt (blk_lt (g := gb120) (o := .cells #[.string a0_0, .int .i64 a0_1, .slice A0_2 l0_2.length c0_2, .slice A0_3 l0_3.length c0_3, .slice A0_4 l0_4.length c0_4, .slice (some ad124) l0_5.length c0_5, .slice A0_6 l0_6.length c0_6] 27 (0, 0)) (by (with_reducible repeat (first | refine blk_drewN ?_ _ | refine blk_drew ?_ | refine blk_alloc ?_ _)); exact BK120.out)) : gb120 ≠ gb131)); have n7_ := Aside0.mk ((by rw [hg]; exact Nat.ne_of_gt (blk_lt (g := gb120) (o := .cells #[.string a0_0, .int .i64 a0_1, .slice A0_2 l0_2.length c0_2, .slice A0_3 l0_3.length c0_3, .slice A0_4 l0_4.length c0_4, .slice (some ad124) l0_5.length c0_5, .slice A0_6 l0_6.length c0_6] 27 (0, 0)) (by (with_reducible repeat (first | refine blk_drewN ?_ _ | refine blk_drew ?_ | refine blk_alloc ?_ _)); exact BK120.out)) : gb131 ≠ gb120)); have n8_ := Aside0.mk ((by rw [hg]; exact Nat.ne_of_lt (blk_lt (g := gb121) (o := .cells #[.bool false, .int .i64 a1_1, .string a1_2] 64 (0, 0)) (by (with_reducible repeat (first | refine blk_drewN ?_ _ | refine blk_drew ?_ | refine blk_alloc ?_ _)); exact BK121.out)) : gb121 ≠ gb131)); have n9_ := Aside0.mk ((by rw [hg]; exact Nat.ne_of_gt (blk_lt (g := gb121) (o := .cells #[.bool false, .int .i64 a1_1, .string a1_2] 64 (0, 0)) (by (with_reducible repeat (first | refine blk_drewN ?_ _ | refine blk_drew ?_ | refine blk_alloc ?_ _)); exact BK121.out)) : gb131 ≠ gb121)); clear BK120; clear BK121; clear HB; have BK120 := n0_; have BK121 := n1_; have HB := n2_; have BK131 := n3_; have GW131 := n4_; have GE131 := n5_; have NB120_131 := n6_; have NB131_120 := n7_; have NB121_131 := n8_; have NB131_121 := n9_; clear n0_ n1_ n2_ n3_ n4_ n5_ n6_ n7_ n8_ n9_; clear hb hbox hg; have hnb45 := NB131_120.out; have hnc45 := NB120_131.out; have hnb46 := NB131_121.out; have hnc46 := NB121_131.out; have hcz47_0 : w44.cell? ⟨gb131, 0, none⟩ = some (.int .i64 0) := (blk_cell BK131.out 0).trans rfl; have hcz47_1 : w44.cell? ⟨gb131, 1, none⟩ = some (.int .i64 0) := (blk_cell BK131.out 1).trans rfl; have hcz47_2 : w44.cell? ⟨gb131, 2, none⟩ = some (.int .i64 0) := (blk_cell BK131.out 2).trans rfl; have hcz47_3 : w44.cell? ⟨gb131, 3, none⟩ = some (.int .i64 0) := (blk_cell BK131.out 3).trans rfl; have hcz47_4 : w44.cell? ⟨gb131, 4, none⟩ = some (.int .i64 0) := (blk_cell BK131.out 4).trans rfl; have hfz47_0 := blk_frozen BK131.out 0; have hfz47_1 := blk_frozen BK131.out 1; have hfz47_2 := blk_frozen BK131.out 2; have hfz47_3 := blk_frozen BK131.out 3; have hfz47_4 := blk_frozen BK131.out 4) | ((with_reducible refine gate_callee (f := 59) rfl ?_); refine goesL_ (some 55) rfl rfl Try.func59 (by kernel_rfl) rfl #[.int .i64 t125] rfl (by (try simp only [List.map_toArray, List.map_cons, List.map_nil]); first | done | rfl | (simp only [List.length_drop, List.length_take]; rfl)) ?_; (with_reducible refine (mortiseref2_Uses.calls kj2 t125 t132 false t134 _ A29.out).mono ?_); rintro e w' ⟨rfl, ⟨nd, rfl⟩⟩; refine ⟨_, rfl, ?_⟩))
                    go_ret
                    exact ⟨by first | rfl | (simp [errW_none, errW_some] <;> rfl) | (simp [*, errW_none, errW_some] <;> rfl), by repeat (first | (with_reducible first | exact HB.out | apply below_alloc | apply pw_below_drewN | apply below_drew1 | refine below_set ?_ GE120.out | refine below_set ?_ GE121.out | refine below_set ?_ GE131.out) | exact HB.out)⟩
                · rw [if_neg c30] at H
                  have c30b0 : (t130 == 0) = false := beq_eq_false_iff_ne.mpr c30
                  have c30b1 : (t130 != 0) = true := bne_iff_ne.mpr c30
                  obtain rfl := Option.some.inj H
                  have hnb48 := NB121_120.out
                  have hnc48 := NB120_121.out
                  have hcz49_0 : wc.cell? ⟨gb121, 0, none⟩ = some (.bool false) := (blk_cell BK121.out 0).trans rfl
                  have hcz49_1 : wc.cell? ⟨gb121, 1, none⟩ = some (.int .i64 a1_1) := (blk_cell BK121.out 1).trans rfl
                  have hcz49_2 : wc.cell? ⟨gb121, 2, none⟩ = some (.string a1_2) := (blk_cell BK121.out 2).trans rfl
                  have hfz49_0 := blk_frozen BK121.out 0
                  have hfz49_1 := blk_frozen BK121.out 1
                  have hfz49_2 := blk_frozen BK121.out 2
                  have hcz50_0 : wc.cell? ⟨gb120, 0, none⟩ = some (.string a0_0) := (blk_cell BK120.out 0).trans rfl
                  have hcz50_1 : wc.cell? ⟨gb120, 1, none⟩ = some (.int .i64 a0_1) := (blk_cell BK120.out 1).trans rfl
                  have hcz50_2 : wc.cell? ⟨gb120, 2, none⟩ = some (.slice A0_2 l0_2.length c0_2) := (blk_cell BK120.out 2).trans rfl
                  have hcz50_3 : wc.cell? ⟨gb120, 3, none⟩ = some (.slice A0_3 l0_3.length c0_3) := (blk_cell BK120.out 3).trans rfl
                  have hcz50_4 : wc.cell? ⟨gb120, 4, none⟩ = some (.slice A0_4 l0_4.length c0_4) := (blk_cell BK120.out 4).trans rfl
                  have hcz50_5 : wc.cell? ⟨gb120, 5, none⟩ = some (.slice A0_5 l0_5.length c0_5) := (blk_cell BK120.out 5).trans rfl
                  have hcz50_6 : wc.cell? ⟨gb120, 6, none⟩ = some (.slice A0_6 l0_6.length c0_6) := (blk_cell BK120.out 6).trans rfl
                  have hfz50_0 := blk_frozen BK120.out 0
                  have hfz50_1 := blk_frozen BK120.out 1
                  have hfz50_2 := blk_frozen BK120.out 2
                  have hfz50_3 := blk_frozen BK120.out 3
                  have hfz50_4 := blk_frozen BK120.out 4
                  have hfz50_5 := blk_frozen BK120.out 5
                  have hfz50_6 := blk_frozen BK120.out 6
                  have p124 : 0 ≤ (a1_1 : Int) := of_decide_eq_true (by first | (with_reducible assumption) | assumption)
                  have q124 : a1_1 < (l0_5.length : Int) := of_decide_eq_true (by first | (with_reducible assumption) | assumption)
                  obtain ⟨ad124, e124, hx124_0⟩ := Kd.at_int HR0_5.out a1_1 p124 q124
                  cases e124
                  replace hx124_0 := (HB.out.cell (World.block_lt_of_cell? w _ hx124_0)).trans hx124_0
                  replace p124 := eq_true p124
                  replace q124 := eq_true q124
                  go_wp2_with (first | ((with_reducible refine gate_callee (f := 58) rfl ?_); refine goesL_ (some 49) rfl rfl Try.func58 (by kernel_rfl) rfl #[.int .i64 (rd l0_5 a1_1)] rfl (by (try simp only [List.map_toArray, List.map_cons, List.map_nil]); first | done | rfl | (simp only [List.length_drop, List.length_take]; rfl)) ?_; (with_reducible refine (mortiseref2_Decode.calls kj2 (rd l0_5 a1_1) t125 t126 t127 t128 t129 t130 _ A28.out).mono ?_); rintro e w51 ⟨rfl, hb⟩; refine ⟨_, rfl, ?_⟩; have n0_ := Aside0.mk (blk_below (g := gb120) (o := .cells #[.string a0_0, .int .i64 a0_1, .slice A0_2 l0_2.length c0_2, .slice A0_3 l0_3.length c0_3, .slice A0_4 l0_4.length c0_4, .slice (some ad124) l0_5.length c0_5, .slice A0_6 l0_6.length c0_6] 27 (0, 0)) (by (with_reducible repeat (first | refine blk_drewN ?_ _ | refine blk_drew ?_ | refine blk_alloc ?_ _)); exact BK120.out) hb); have n1_ := Aside0.mk (blk_below (g := gb121) (o := .cells #[.bool false, .int .i64 a1_1, .string a1_2] 64 (0, 0)) (by (with_reducible repeat (first | refine blk_drewN ?_ _ | refine blk_drew ?_ | refine blk_alloc ?_ _)); exact BK121.out) hb); have n2_ := Aside0.mk (below_step (by repeat (first | (with_reducible first | exact HB.out | apply below_alloc | apply pw_below_drewN | apply below_drew1 | refine below_set ?_ GE120.out | refine below_set ?_ GE121.out) | exact HB.out)) hb); clear BK120; clear BK121; clear HB; have BK120 := n0_; have BK121 := n1_; have HB := n2_; clear n0_ n1_ n2_; (try clear hb); (try clear hb2); (try clear hk); (try clear hi)) | ((with_reducible refine gate_dst (N := 5) rfl ?_); refine box_event ?hg (N := 5) ?hd (cs := #[.int .i64 0, .int .i64 0, .int .i64 0, .int .i64 0, .int .i64 0]) (t := 100) ?hr ?_; (case hd => rfl); (case hg => rfl); (case hr => first | (go_simp; done) | (go_simp; rfl)); intro gb131 hg w52 hbox hb; have n0_ := Aside0.mk (blk_below (g := gb120) (o := .cells #[.string a0_0, .int .i64 a0_1, .slice A0_2 l0_2.length c0_2, .slice A0_3 l0_3.length c0_3, .slice A0_4 l0_4.length c0_4, .slice (some ad124) l0_5.length c0_5, .slice A0_6 l0_6.length c0_6] 27 (0, 0)) (by (with_reducible repeat (first | refine blk_drewN ?_ _ | refine blk_drew ?_ | refine blk_alloc ?_ _)); exact BK120.out) hb); have n1_ := Aside0.mk (blk_below (g := gb121) (o := .cells #[.bool false, .int .i64 a1_1, .string a1_2] 64 (0, 0)) (by (with_reducible repeat (first | refine blk_drewN ?_ _ | refine blk_drew ?_ | refine blk_alloc ?_ _)); exact BK121.out) hb); have n2_ := Aside0.mk (below_step (by repeat (first | (with_reducible first | exact HB.out | apply below_alloc | apply pw_below_drewN | apply below_drew1 | refine below_set ?_ GE120.out | refine below_set ?_ GE121.out) | exact HB.out)) hb); have n3_ := Aside0.mk (hbox); have n4_ := Aside0.mk ((by rw [hg]; exact (below_size (by repeat (first | (with_reducible first | exact HB.out | apply below_alloc | apply pw_below_drewN | apply below_drew1 | refine below_set ?_ GE120.out | refine below_set ?_ GE121.out) | exact HB.out))) : w.heap.size ≤ gb131)); have n5_ := Aside0.mk ((by rw [hg]; exact (below_size (by repeat (first | (with_reducible first | exact HB.out | apply below_alloc | apply pw_below_drewN | apply below_drew1 | refine below_set ?_ GE120.out | refine below_set ?_ GE121.out) | exact HB.out))) : w.heap.size ≤ gb131)); have n6_ := Aside0.mk ((by rw [hg]; exact Nat.ne_of_lt (blk_lt (g := gb120) (o := .cells #[.string a0_0, .int .i64 a0_1, .slice A0_2 l0_2.length c0_2, .slice A0_3 l0_3.length c0_3, .slice A0_4 l0_4.length c0_4, .slice (some ad124) l0_5.length c0_5, .slice A0_6 l0_6.length c0_6] 27 (0, 0)) (by (with_reducible repeat (first | refine blk_drewN ?_ _ | refine blk_drew ?_ | refine blk_alloc ?_ _)); exact BK120.out)) : gb120 ≠ gb131)); have n7_ := Aside0.mk ((by rw [hg]; exact Nat.ne_of_gt (blk_lt (g := gb120) (o := .cells #[.string a0_0, .int .i64 a0_1, .slice A0_2 l0_2.length c0_2, .slice A0_3 l0_3.length c0_3, .slice A0_4 l0_4.length c0_4, .slice (some ad124) l0_5.length c0_5, .slice A0_6 l0_6.length c0_6] 27 (0, 0)) (by (with_reducible repeat (first | refine blk_drewN ?_ _ | refine blk_drew ?_ | refine blk_alloc ?_ _)); exact BK120.out)) : gb131 ≠ gb120)); have n8_ := Aside0.mk ((by rw [hg]; exact Nat.ne_of_lt (blk_lt (g := gb121) (o := .cells #[.bool false, .int .i64 a1_1, .string a1_2] 64 (0, 0)) (by (with_reducible repeat (first | refine blk_drewN ?_ _ | refine blk_drew ?_ | refine blk_alloc ?_ _)); exact BK121.out)) : gb121 ≠ gb131)); have n9_ := Aside0.mk ((by rw [hg]; exact Nat.ne_of_gt (blk_lt (g := gb121) (o := .cells #[.bool false, .int .i64 a1_1, .string a1_2] 64 (0, 0)) (by (with_reducible repeat (first | refine blk_drewN ?_ _ | refine blk_drew ?_ | refine blk_alloc ?_ _)); exact BK121.out)) : gb131 ≠ gb121)); clear BK120; clear BK121; clear HB; have BK120 := n0_; have BK121 := n1_; have HB := n2_; have BK131 := n3_; have GW131 := n4_; have GE131 := n5_; have NB120_131 := n6_; have NB131_120 := n7_; have NB121_131 := n8_; have NB131_121 := n9_; clear n0_ n1_ n2_ n3_ n4_ n5_ n6_ n7_ n8_ n9_; clear hb hbox hg; have hnb53 := NB131_120.out; have hnc53 := NB120_131.out; have hnb54 := NB131_121.out; have hnc54 := NB121_131.out; have hcz55_0 : w52.cell? ⟨gb131, 0, none⟩ = some (.int .i64 0) := (blk_cell BK131.out 0).trans rfl; have hcz55_1 : w52.cell? ⟨gb131, 1, none⟩ = some (.int .i64 0) := (blk_cell BK131.out 1).trans rfl; have hcz55_2 : w52.cell? ⟨gb131, 2, none⟩ = some (.int .i64 0) := (blk_cell BK131.out 2).trans rfl; have hcz55_3 : w52.cell? ⟨gb131, 3, none⟩ = some (.int .i64 0) := (blk_cell BK131.out 3).trans rfl; have hcz55_4 : w52.cell? ⟨gb131, 4, none⟩ = some (.int .i64 0) := (blk_cell BK131.out 4).trans rfl; have hfz55_0 := blk_frozen BK131.out 0; have hfz55_1 := blk_frozen BK131.out 1; have hfz55_2 := blk_frozen BK131.out 2; have hfz55_3 := blk_frozen BK131.out 3; have hfz55_4 := blk_frozen BK131.out 4) | ((with_reducible refine gate_callee (f := 59) rfl ?_); refine goesL_ (some 55) rfl rfl Try.func59 (by kernel_rfl) rfl #[.int .i64 t125] rfl (by (try simp only [List.map_toArray, List.map_cons, List.map_nil]); first | done | rfl | (simp only [List.length_drop, List.length_take]; rfl)) ?_; (with_reducible refine (mortiseref2_Uses.calls kj2 t125 t132 t133 t134 _ A29.out).mono ?_); rintro e w' ⟨rfl, ⟨nd, rfl⟩⟩; refine ⟨_, rfl, ?_⟩))
                  go_ret
                  exact ⟨by first | rfl | (simp [errW_none, errW_some] <;> rfl) | (simp [*, errW_none, errW_some] <;> rfl), by repeat (first | (with_reducible first | exact HB.out | apply below_alloc | apply pw_below_drewN | apply below_drew1 | refine below_set ?_ GE120.out | refine below_set ?_ GE121.out | refine below_set ?_ GE131.out) | exact HB.out)⟩
              · rw [if_neg c27] at H
                exact absurd H (by simp)
            · rw [if_neg c26] at H
              exact absurd H (by simp)

-- NOT PRINTED: function 15 (mortiseref28_Valid)

/-! ### mortiselaw28_Great: function 11 -/
def mortiselaw28_Great.f (a0_0 : ByteArray) (a0_1 : Int) (l0_2 : List (S44)) (l0_3 : List (S51)) (l0_4 : List (S64)) (l0_5 : List Int) (l0_6 : List Int) : Option (Bool) := if (l0_3.length : Int) > 200 then (some true) else (if (l0_4.length : Int) > 400 then (some true) else (if (l0_2.length : Int) > 50 then (some true) else (if (l0_5.length : Int) > 70000 then (some true) else (some (decide ((l0_6.length : Int) > 30000))))))
set_option maxHeartbeats 8000000 in
set_option maxRecDepth 100000 in
theorem mortiselaw28_Great.calls (a0_0 : ByteArray) (a0_1 : Int) (A0_2 : Option Addr) (c0_2 : Nat) (l0_2 : List (S44)) (A0_3 : Option Addr) (c0_3 : Nat) (l0_3 : List (S51)) (A0_4 : Option Addr) (c0_4 : Nat) (l0_4 : List (S64)) (A0_5 : Option Addr) (c0_5 : Nat) (l0_5 : List Int) (A0_6 : Option Addr) (c0_6 : Nat) (l0_6 : List Int) (r : Bool) (w : World) (hr0_2 : Kd.C k44 w A0_2 l0_2.length l0_2) (hc0_2 : l0_2.length ≤ c0_2) (hr0_3 : Kd.C k51 w A0_3 l0_3.length l0_3) (hc0_3 : l0_3.length ≤ c0_3) (hr0_4 : Kd.C k64 w A0_4 l0_4.length l0_4) (hc0_4 : l0_4.length ≤ c0_4) (hr0_5 : Kd.C (Kd.int .i64) w A0_5 l0_5.length l0_5) (hc0_5 : l0_5.length ≤ c0_5) (hr0_6 : Kd.C (Kd.int .i64) w A0_6 l0_6.length l0_6) (hc0_6 : l0_6.length ≤ c0_6) (h : mortiselaw28_Great.f a0_0 a0_1 l0_2 l0_3 l0_4 l0_5 l0_6 = some r) :
    Calls Try.prog 11 #[.agg #[.string a0_0, .int .i64 a0_1, .slice A0_2 l0_2.length c0_2, .slice A0_3 l0_3.length c0_3, .slice A0_4 l0_4.length c0_4, .slice A0_5 l0_5.length c0_5, .slice A0_6 l0_6.length c0_6]] w fun e w' => e = .returned (.bool r) ∧ Below w.heap.size w w' := by
  have hu27 := Try.underlying27
  have HR0_2 := Aside0.mk hr0_2
  have HC0_2 := Aside0.mk hc0_2
  clear hr0_2 hc0_2
  have HR0_3 := Aside0.mk hr0_3
  have HC0_3 := Aside0.mk hc0_3
  clear hr0_3 hc0_3
  have HR0_4 := Aside0.mk hr0_4
  have HC0_4 := Aside0.mk hc0_4
  clear hr0_4 hc0_4
  have HR0_5 := Aside0.mk hr0_5
  have HC0_5 := Aside0.mk hc0_5
  clear hr0_5 hc0_5
  have HR0_6 := Aside0.mk hr0_6
  have HC0_6 := Aside0.mk hc0_6
  clear hr0_6 hc0_6
  have HB := Aside0.mk (Below.refl w.heap.size w)
  have H : (if (l0_3.length : Int) > 200 then (some true) else (if (l0_4.length : Int) > 400 then (some true) else (if (l0_2.length : Int) > 50 then (some true) else (if (l0_5.length : Int) > 70000 then (some true) else (some (decide ((l0_6.length : Int) > 30000))))))) = some r := h
  clear h
  by_cases c2 : (l0_3.length : Int) > 200
  · rw [if_pos c2] at H
    have c2b0 : decide (200 < (l0_3.length : Int)) = true := decide_eq_true c2
    have c2b1 : decide (200 < l0_3.length) = true := decide_eq_true (by omega)
    clear c2
    obtain rfl := Option.some.inj H
    go_enter Try.func11, Try.ntmps11
    go_wp2_with (first | ((with_reducible refine gate_dst (N := 1) rfl ?_); (try (refine gate_guard (by rfl) ?_; dsimp only)); refine box_event ?hg (N := 1) ?hd (cs := #[.string a0_0, .int .i64 a0_1, .slice A0_2 l0_2.length c0_2, .slice A0_3 l0_3.length c0_3, .slice A0_4 l0_4.length c0_4, .slice A0_5 l0_5.length c0_5, .slice A0_6 l0_6.length c0_6]) (t := 27) ?hr ?_; (case hd => rfl); (case hg => rfl); (case hr => first | (go_simp; done) | (go_simp; rfl)); intro gb151 hg w3 hbox hb; have n0_ := Aside0.mk (below_step (by repeat (first | (with_reducible first | exact HB.out | apply below_alloc | apply pw_below_drewN | apply below_drew1) | exact HB.out)) hb); have n1_ := Aside0.mk (hbox); have n2_ := Aside0.mk ((by rw [hg]; exact (below_size (by repeat (first | (with_reducible first | exact HB.out | apply below_alloc | apply pw_below_drewN | apply below_drew1) | exact HB.out))) : w.heap.size ≤ gb151)); have n3_ := Aside0.mk ((by rw [hg]; exact (below_size (by repeat (first | (with_reducible first | exact HB.out | apply below_alloc | apply pw_below_drewN | apply below_drew1) | exact HB.out))) : w.heap.size ≤ gb151)); clear HB; have HB := n0_; have BK151 := n1_; have GW151 := n2_; have GE151 := n3_; clear n0_ n1_ n2_ n3_; clear hb hbox hg; have hcz4_0 : w3.cell? ⟨gb151, 0, none⟩ = some (.string a0_0) := (blk_cell BK151.out 0).trans rfl; have hcz4_1 : w3.cell? ⟨gb151, 1, none⟩ = some (.int .i64 a0_1) := (blk_cell BK151.out 1).trans rfl; have hcz4_2 : w3.cell? ⟨gb151, 2, none⟩ = some (.slice A0_2 l0_2.length c0_2) := (blk_cell BK151.out 2).trans rfl; have hcz4_3 : w3.cell? ⟨gb151, 3, none⟩ = some (.slice A0_3 l0_3.length c0_3) := (blk_cell BK151.out 3).trans rfl; have hcz4_4 : w3.cell? ⟨gb151, 4, none⟩ = some (.slice A0_4 l0_4.length c0_4) := (blk_cell BK151.out 4).trans rfl; have hcz4_5 : w3.cell? ⟨gb151, 5, none⟩ = some (.slice A0_5 l0_5.length c0_5) := (blk_cell BK151.out 5).trans rfl; have hcz4_6 : w3.cell? ⟨gb151, 6, none⟩ = some (.slice A0_6 l0_6.length c0_6) := (blk_cell BK151.out 6).trans rfl; have hfz4_0 := blk_frozen BK151.out 0; have hfz4_1 := blk_frozen BK151.out 1; have hfz4_2 := blk_frozen BK151.out 2; have hfz4_3 := blk_frozen BK151.out 3; have hfz4_4 := blk_frozen BK151.out 4; have hfz4_5 := blk_frozen BK151.out 5; have hfz4_6 := blk_frozen BK151.out 6))
    go_ret
    exact ⟨by first | rfl | (simp [errW_none, errW_some] <;> rfl) | (simp [*, errW_none, errW_some] <;> rfl), by repeat (first | (with_reducible first | exact HB.out | apply below_alloc | apply pw_below_drewN | apply below_drew1 | refine below_set ?_ GE151.out) | exact HB.out)⟩
  · rw [if_neg c2] at H
    have c2b0 : decide (200 < (l0_3.length : Int)) = false := decide_eq_false c2
    have c2b1 : decide (200 < l0_3.length) = false := decide_eq_false (by omega)
    clear c2
    by_cases c5 : (l0_4.length : Int) > 400
    · rw [if_pos c5] at H
      have c5b0 : decide (400 < (l0_4.length : Int)) = true := decide_eq_true c5
      have c5b1 : decide (400 < l0_4.length) = true := decide_eq_true (by omega)
      clear c5
      obtain rfl := Option.some.inj H
      go_enter Try.func11, Try.ntmps11
      go_wp2_with (first | ((with_reducible refine gate_dst (N := 1) rfl ?_); (try (refine gate_guard (by rfl) ?_; dsimp only)); refine box_event ?hg (N := 1) ?hd (cs := #[.string a0_0, .int .i64 a0_1, .slice A0_2 l0_2.length c0_2, .slice A0_3 l0_3.length c0_3, .slice A0_4 l0_4.length c0_4, .slice A0_5 l0_5.length c0_5, .slice A0_6 l0_6.length c0_6]) (t := 27) ?hr ?_; (case hd => rfl); (case hg => rfl); (case hr => first | (go_simp; done) | (go_simp; rfl)); intro gb151 hg w6 hbox hb; have n0_ := Aside0.mk (below_step (by repeat (first | (with_reducible first | exact HB.out | apply below_alloc | apply pw_below_drewN | apply below_drew1) | exact HB.out)) hb); have n1_ := Aside0.mk (hbox); have n2_ := Aside0.mk ((by rw [hg]; exact (below_size (by repeat (first | (with_reducible first | exact HB.out | apply below_alloc | apply pw_below_drewN | apply below_drew1) | exact HB.out))) : w.heap.size ≤ gb151)); have n3_ := Aside0.mk ((by rw [hg]; exact (below_size (by repeat (first | (with_reducible first | exact HB.out | apply below_alloc | apply pw_below_drewN | apply below_drew1) | exact HB.out))) : w.heap.size ≤ gb151)); clear HB; have HB := n0_; have BK151 := n1_; have GW151 := n2_; have GE151 := n3_; clear n0_ n1_ n2_ n3_; clear hb hbox hg; have hcz7_0 : w6.cell? ⟨gb151, 0, none⟩ = some (.string a0_0) := (blk_cell BK151.out 0).trans rfl; have hcz7_1 : w6.cell? ⟨gb151, 1, none⟩ = some (.int .i64 a0_1) := (blk_cell BK151.out 1).trans rfl; have hcz7_2 : w6.cell? ⟨gb151, 2, none⟩ = some (.slice A0_2 l0_2.length c0_2) := (blk_cell BK151.out 2).trans rfl; have hcz7_3 : w6.cell? ⟨gb151, 3, none⟩ = some (.slice A0_3 l0_3.length c0_3) := (blk_cell BK151.out 3).trans rfl; have hcz7_4 : w6.cell? ⟨gb151, 4, none⟩ = some (.slice A0_4 l0_4.length c0_4) := (blk_cell BK151.out 4).trans rfl; have hcz7_5 : w6.cell? ⟨gb151, 5, none⟩ = some (.slice A0_5 l0_5.length c0_5) := (blk_cell BK151.out 5).trans rfl; have hcz7_6 : w6.cell? ⟨gb151, 6, none⟩ = some (.slice A0_6 l0_6.length c0_6) := (blk_cell BK151.out 6).trans rfl; have hfz7_0 := blk_frozen BK151.out 0; have hfz7_1 := blk_frozen BK151.out 1; have hfz7_2 := blk_frozen BK151.out 2; have hfz7_3 := blk_frozen BK151.out 3; have hfz7_4 := blk_frozen BK151.out 4; have hfz7_5 := blk_frozen BK151.out 5; have hfz7_6 := blk_frozen BK151.out 6))
      go_ret
      exact ⟨by first | rfl | (simp [errW_none, errW_some] <;> rfl) | (simp [*, errW_none, errW_some] <;> rfl), by repeat (first | (with_reducible first | exact HB.out | apply below_alloc | apply pw_below_drewN | apply below_drew1 | refine below_set ?_ GE151.out) | exact HB.out)⟩
    · rw [if_neg c5] at H
      have c5b0 : decide (400 < (l0_4.length : Int)) = false := decide_eq_false c5
      have c5b1 : decide (400 < l0_4.length) = false := decide_eq_false (by omega)
      clear c5
      by_cases c8 : (l0_2.length : Int) > 50
      · rw [if_pos c8] at H
        have c8b0 : decide (50 < (l0_2.length : Int)) = true := decide_eq_true c8
        have c8b1 : decide (50 < l0_2.length) = true := decide_eq_true (by omega)
        clear c8
        obtain rfl := Option.some.inj H
        go_enter Try.func11, Try.ntmps11
        go_wp2_with (first | ((with_reducible refine gate_dst (N := 1) rfl ?_); (try (refine gate_guard (by rfl) ?_; dsimp only)); refine box_event ?hg (N := 1) ?hd (cs := #[.string a0_0, .int .i64 a0_1, .slice A0_2 l0_2.length c0_2, .slice A0_3 l0_3.length c0_3, .slice A0_4 l0_4.length c0_4, .slice A0_5 l0_5.length c0_5, .slice A0_6 l0_6.length c0_6]) (t := 27) ?hr ?_; (case hd => rfl); (case hg => rfl); (case hr => first | (go_simp; done) | (go_simp; rfl)); intro gb151 hg w9 hbox hb; have n0_ := Aside0.mk (below_step (by repeat (first | (with_reducible first | exact HB.out | apply below_alloc | apply pw_below_drewN | apply below_drew1) | exact HB.out)) hb); have n1_ := Aside0.mk (hbox); have n2_ := Aside0.mk ((by rw [hg]; exact (below_size (by repeat (first | (with_reducible first | exact HB.out | apply below_alloc | apply pw_below_drewN | apply below_drew1) | exact HB.out))) : w.heap.size ≤ gb151)); have n3_ := Aside0.mk ((by rw [hg]; exact (below_size (by repeat (first | (with_reducible first | exact HB.out | apply below_alloc | apply pw_below_drewN | apply below_drew1) | exact HB.out))) : w.heap.size ≤ gb151)); clear HB; have HB := n0_; have BK151 := n1_; have GW151 := n2_; have GE151 := n3_; clear n0_ n1_ n2_ n3_; clear hb hbox hg; have hcz10_0 : w9.cell? ⟨gb151, 0, none⟩ = some (.string a0_0) := (blk_cell BK151.out 0).trans rfl; have hcz10_1 : w9.cell? ⟨gb151, 1, none⟩ = some (.int .i64 a0_1) := (blk_cell BK151.out 1).trans rfl; have hcz10_2 : w9.cell? ⟨gb151, 2, none⟩ = some (.slice A0_2 l0_2.length c0_2) := (blk_cell BK151.out 2).trans rfl; have hcz10_3 : w9.cell? ⟨gb151, 3, none⟩ = some (.slice A0_3 l0_3.length c0_3) := (blk_cell BK151.out 3).trans rfl; have hcz10_4 : w9.cell? ⟨gb151, 4, none⟩ = some (.slice A0_4 l0_4.length c0_4) := (blk_cell BK151.out 4).trans rfl; have hcz10_5 : w9.cell? ⟨gb151, 5, none⟩ = some (.slice A0_5 l0_5.length c0_5) := (blk_cell BK151.out 5).trans rfl; have hcz10_6 : w9.cell? ⟨gb151, 6, none⟩ = some (.slice A0_6 l0_6.length c0_6) := (blk_cell BK151.out 6).trans rfl; have hfz10_0 := blk_frozen BK151.out 0; have hfz10_1 := blk_frozen BK151.out 1; have hfz10_2 := blk_frozen BK151.out 2; have hfz10_3 := blk_frozen BK151.out 3; have hfz10_4 := blk_frozen BK151.out 4; have hfz10_5 := blk_frozen BK151.out 5; have hfz10_6 := blk_frozen BK151.out 6))
        go_ret
        exact ⟨by first | rfl | (simp [errW_none, errW_some] <;> rfl) | (simp [*, errW_none, errW_some] <;> rfl), by repeat (first | (with_reducible first | exact HB.out | apply below_alloc | apply pw_below_drewN | apply below_drew1 | refine below_set ?_ GE151.out) | exact HB.out)⟩
      · rw [if_neg c8] at H
        have c8b0 : decide (50 < (l0_2.length : Int)) = false := decide_eq_false c8
        have c8b1 : decide (50 < l0_2.length) = false := decide_eq_false (by omega)
        clear c8
        by_cases c11 : (l0_5.length : Int) > 70000
        · rw [if_pos c11] at H
          have c11b0 : decide (70000 < (l0_5.length : Int)) = true := decide_eq_true c11
          have c11b1 : decide (70000 < l0_5.length) = true := decide_eq_true (by omega)
          clear c11
          obtain rfl := Option.some.inj H
          go_enter Try.func11, Try.ntmps11
          go_wp2_with (first | ((with_reducible refine gate_dst (N := 1) rfl ?_); (try (refine gate_guard (by rfl) ?_; dsimp only)); refine box_event ?hg (N := 1) ?hd (cs := #[.string a0_0, .int .i64 a0_1, .slice A0_2 l0_2.length c0_2, .slice A0_3 l0_3.length c0_3, .slice A0_4 l0_4.length c0_4, .slice A0_5 l0_5.length c0_5, .slice A0_6 l0_6.length c0_6]) (t := 27) ?hr ?_; (case hd => rfl); (case hg => rfl); (case hr => first | (go_simp; done) | (go_simp; rfl)); intro gb151 hg w12 hbox hb; have n0_ := Aside0.mk (below_step (by repeat (first | (with_reducible first | exact HB.out | apply below_alloc | apply pw_below_drewN | apply below_drew1) | exact HB.out)) hb); have n1_ := Aside0.mk (hbox); have n2_ := Aside0.mk ((by rw [hg]; exact (below_size (by repeat (first | (with_reducible first | exact HB.out | apply below_alloc | apply pw_below_drewN | apply below_drew1) | exact HB.out))) : w.heap.size ≤ gb151)); have n3_ := Aside0.mk ((by rw [hg]; exact (below_size (by repeat (first | (with_reducible first | exact HB.out | apply below_alloc | apply pw_below_drewN | apply below_drew1) | exact HB.out))) : w.heap.size ≤ gb151)); clear HB; have HB := n0_; have BK151 := n1_; have GW151 := n2_; have GE151 := n3_; clear n0_ n1_ n2_ n3_; clear hb hbox hg; have hcz13_0 : w12.cell? ⟨gb151, 0, none⟩ = some (.string a0_0) := (blk_cell BK151.out 0).trans rfl; have hcz13_1 : w12.cell? ⟨gb151, 1, none⟩ = some (.int .i64 a0_1) := (blk_cell BK151.out 1).trans rfl; have hcz13_2 : w12.cell? ⟨gb151, 2, none⟩ = some (.slice A0_2 l0_2.length c0_2) := (blk_cell BK151.out 2).trans rfl; have hcz13_3 : w12.cell? ⟨gb151, 3, none⟩ = some (.slice A0_3 l0_3.length c0_3) := (blk_cell BK151.out 3).trans rfl; have hcz13_4 : w12.cell? ⟨gb151, 4, none⟩ = some (.slice A0_4 l0_4.length c0_4) := (blk_cell BK151.out 4).trans rfl; have hcz13_5 : w12.cell? ⟨gb151, 5, none⟩ = some (.slice A0_5 l0_5.length c0_5) := (blk_cell BK151.out 5).trans rfl; have hcz13_6 : w12.cell? ⟨gb151, 6, none⟩ = some (.slice A0_6 l0_6.length c0_6) := (blk_cell BK151.out 6).trans rfl; have hfz13_0 := blk_frozen BK151.out 0; have hfz13_1 := blk_frozen BK151.out 1; have hfz13_2 := blk_frozen BK151.out 2; have hfz13_3 := blk_frozen BK151.out 3; have hfz13_4 := blk_frozen BK151.out 4; have hfz13_5 := blk_frozen BK151.out 5; have hfz13_6 := blk_frozen BK151.out 6))
          go_ret
          exact ⟨by first | rfl | (simp [errW_none, errW_some] <;> rfl) | (simp [*, errW_none, errW_some] <;> rfl), by repeat (first | (with_reducible first | exact HB.out | apply below_alloc | apply pw_below_drewN | apply below_drew1 | refine below_set ?_ GE151.out) | exact HB.out)⟩
        · rw [if_neg c11] at H
          have c11b0 : decide (70000 < (l0_5.length : Int)) = false := decide_eq_false c11
          have c11b1 : decide (70000 < l0_5.length) = false := decide_eq_false (by omega)
          clear c11
          obtain rfl := Option.some.inj H
          go_enter Try.func11, Try.ntmps11
          go_wp2_with (first | ((with_reducible refine gate_dst (N := 1) rfl ?_); (try (refine gate_guard (by rfl) ?_; dsimp only)); refine box_event ?hg (N := 1) ?hd (cs := #[.string a0_0, .int .i64 a0_1, .slice A0_2 l0_2.length c0_2, .slice A0_3 l0_3.length c0_3, .slice A0_4 l0_4.length c0_4, .slice A0_5 l0_5.length c0_5, .slice A0_6 l0_6.length c0_6]) (t := 27) ?hr ?_; (case hd => rfl); (case hg => rfl); (case hr => first | (go_simp; done) | (go_simp; rfl)); intro gb151 hg w14 hbox hb; have n0_ := Aside0.mk (below_step (by repeat (first | (with_reducible first | exact HB.out | apply below_alloc | apply pw_below_drewN | apply below_drew1) | exact HB.out)) hb); have n1_ := Aside0.mk (hbox); have n2_ := Aside0.mk ((by rw [hg]; exact (below_size (by repeat (first | (with_reducible first | exact HB.out | apply below_alloc | apply pw_below_drewN | apply below_drew1) | exact HB.out))) : w.heap.size ≤ gb151)); have n3_ := Aside0.mk ((by rw [hg]; exact (below_size (by repeat (first | (with_reducible first | exact HB.out | apply below_alloc | apply pw_below_drewN | apply below_drew1) | exact HB.out))) : w.heap.size ≤ gb151)); clear HB; have HB := n0_; have BK151 := n1_; have GW151 := n2_; have GE151 := n3_; clear n0_ n1_ n2_ n3_; clear hb hbox hg; have hcz15_0 : w14.cell? ⟨gb151, 0, none⟩ = some (.string a0_0) := (blk_cell BK151.out 0).trans rfl; have hcz15_1 : w14.cell? ⟨gb151, 1, none⟩ = some (.int .i64 a0_1) := (blk_cell BK151.out 1).trans rfl; have hcz15_2 : w14.cell? ⟨gb151, 2, none⟩ = some (.slice A0_2 l0_2.length c0_2) := (blk_cell BK151.out 2).trans rfl; have hcz15_3 : w14.cell? ⟨gb151, 3, none⟩ = some (.slice A0_3 l0_3.length c0_3) := (blk_cell BK151.out 3).trans rfl; have hcz15_4 : w14.cell? ⟨gb151, 4, none⟩ = some (.slice A0_4 l0_4.length c0_4) := (blk_cell BK151.out 4).trans rfl; have hcz15_5 : w14.cell? ⟨gb151, 5, none⟩ = some (.slice A0_5 l0_5.length c0_5) := (blk_cell BK151.out 5).trans rfl; have hcz15_6 : w14.cell? ⟨gb151, 6, none⟩ = some (.slice A0_6 l0_6.length c0_6) := (blk_cell BK151.out 6).trans rfl; have hfz15_0 := blk_frozen BK151.out 0; have hfz15_1 := blk_frozen BK151.out 1; have hfz15_2 := blk_frozen BK151.out 2; have hfz15_3 := blk_frozen BK151.out 3; have hfz15_4 := blk_frozen BK151.out 4; have hfz15_5 := blk_frozen BK151.out 5; have hfz15_6 := blk_frozen BK151.out 6))
          go_ret
          exact ⟨by first | rfl | (simp [errW_none, errW_some] <;> rfl) | (simp [*, errW_none, errW_some] <;> rfl), by repeat (first | (with_reducible first | exact HB.out | apply below_alloc | apply pw_below_drewN | apply below_drew1 | refine below_set ?_ GE151.out) | exact HB.out)⟩

/-! ### mortiselaw30_heavy: function 24 -/
mutual
def mortiselaw30_heavy.j0 : Nat → List (S27) → Bool → Option (Bool)
  | 0, _, _ => none
  | k + 1, x0, x14 => if x14 = true then (some true) else (mortiselaw30_heavy.l0 k x0 0 0)
def mortiselaw30_heavy.l0 : Nat → List (S27) → Int → Int → Option (Bool)
  | 0, _, _, _ => none
  | k + 1, x0, x5, x6 => if x6 < (x0.length : Int) then (if 0 ≤ x6 then ((mortiselaw28_Great.f ((rd_T27 x0 x6).f0) ((rd_T27 x0 x6).f1) ((rd_T27 x0 x6).f2) ((rd_T27 x0 x6).f3) ((rd_T27 x0 x6).f4) ((rd_T27 x0 x6).f5) ((rd_T27 x0 x6).f6)).bind fun t153 => (if t153 = true then (some true) else (mortiselaw30_heavy.l0 k x0 (wrap64 ((wrap64 (x5 + (((rd_T27 x0 x6).f3).length : Int))) + (((rd_T27 x0 x6).f4).length : Int))) (wrap64 (x6 + 1))))) else (none)) else (some (decide (x5 > 1000)))
end
def mortiselaw30_heavy.f (k : Nat) (l0 : List (S27)) (l1 : List ByteArray) : Option (Bool) := if (l0.length : Int) > 10 then (mortiselaw30_heavy.j0 k l0 true) else (mortiselaw30_heavy.j0 k l0 (decide ((l1.length : Int) > 1100)))
theorem mortiselaw30_heavy.mono_l : ∀ k, (∀ y0 y1, LeO (mortiselaw30_heavy.j0 k y0 y1) (mortiselaw30_heavy.j0 (k + 1) y0 y1)) ∧ (∀ y0 y1 y2, LeO (mortiselaw30_heavy.l0 k y0 y1 y2) (mortiselaw30_heavy.l0 (k + 1) y0 y1 y2))
  | 0 => ⟨fun _ _ r h => by simp [mortiselaw30_heavy.j0] at h, fun _ _ _ r h => by simp [mortiselaw30_heavy.l0] at h⟩
  | k + 1 => by
    obtain ⟨ih0, ih1⟩ := mortiselaw30_heavy.mono_l k
    refine ⟨?_, ?_⟩
    · intro y0 y1
      unfold mortiselaw30_heavy.j0
      repeat' first
      | (with_reducible exact ih0 _ _)
      | (with_reducible exact ih1 _ _ _)
      | (with_reducible exact LeO.refl _)
      | (with_reducible exact LeO.none _)
      | (with_reducible refine LeO.ite ?_ ?_)
      | (with_reducible refine LeO.bind ?_ (fun _ => ?_))
      | exact ih0 _ _
      | exact ih1 _ _ _
      | exact LeO.none _
      | refine LeO.ite ?_ ?_
      | refine LeO.bind ?_ (fun _ => ?_)
    · intro y0 y1 y2
      unfold mortiselaw30_heavy.l0
      repeat' first
      | (with_reducible exact ih0 _ _)
      | (with_reducible exact ih1 _ _ _)
      | (with_reducible exact LeO.refl _)
      | (with_reducible exact LeO.none _)
      | (with_reducible refine LeO.ite ?_ ?_)
      | (with_reducible refine LeO.bind ?_ (fun _ => ?_))
      | exact ih0 _ _
      | exact ih1 _ _ _
      | exact LeO.none _
      | refine LeO.ite ?_ ?_
      | refine LeO.bind ?_ (fun _ => ?_)
theorem mortiselaw30_heavy.mono : ∀ a0 a1 k, LeO (mortiselaw30_heavy.f k a0 a1) (mortiselaw30_heavy.f (k + 1) a0 a1) := by
  intro a0 a1 k
  obtain ⟨ih0, ih1⟩ := mortiselaw30_heavy.mono_l k
  unfold mortiselaw30_heavy.f
  repeat' first
      | (with_reducible exact ih0 _ _)
      | (with_reducible exact ih1 _ _ _)
      | (with_reducible exact LeO.refl _)
      | (with_reducible exact LeO.none _)
      | (with_reducible refine LeO.ite ?_ ?_)
      | (with_reducible refine LeO.bind ?_ (fun _ => ?_))
      | exact ih0 _ _
      | exact ih1 _ _ _
      | exact LeO.none _
      | refine LeO.ite ?_ ?_
      | refine LeO.bind ?_ (fun _ => ?_)
set_option maxHeartbeats 8000000 in
set_option maxRecDepth 100000 in
theorem mortiselaw30_heavy.calls (k : Nat) (A0 : Option Addr) (c0 : Nat) (l0 : List (S27)) (A1 : Option Addr) (c1 : Nat) (l1 : List ByteArray) (r : Bool) (w : World) (hr0 : Kd.C k27 w A0 l0.length l0) (hc0 : l0.length ≤ c0) (hr1 : Kd.C Kd.string w A1 l1.length l1) (hc1 : l1.length ≤ c1) (h : mortiselaw30_heavy.f k l0 l1 = some r) :
    Calls Try.prog 24 #[.slice A0 l0.length c0, .slice A1 l1.length c1] w fun e w' => e = .returned (.bool r) ∧ Below w.heap.size w w' := by
  have hu27 := Try.underlying27
  have HR0 := Aside0.mk hr0
  have HC0 := Aside0.mk hc0
  clear hr0 hc0
  have HR1 := Aside0.mk hr1
  have HC1 := Aside0.mk hc1
  clear hr1 hc1
  have HB := Aside0.mk (Below.refl w.heap.size w)
  have H : (if (l0.length : Int) > 10 then (mortiselaw30_heavy.j0 k l0 true) else (mortiselaw30_heavy.j0 k l0 (decide ((l1.length : Int) > 1100)))) = some r := h
  clear h
  have HC3 := Aside0.mk H
  clear H
  go_enter Try.func24, Try.ntmps24
  go_upto_region 1 with (fail)
  repeat (go_quiet (fail); go_upto_region 1 with (fail))
  go_cut [14] (fun v14 wc => ∃ (kq : Nat) (x14_2 : Bool), v14 = .bool x14_2 ∧ Aside0 (mortiselaw30_heavy.j0 kq l0 x14_2 = some r) ∧ Aside0 (kq ≤ k) ∧ Aside0 (Below w.heap.size w wc))
  case first =>
    have H := HC3.out
    clear HC3
    by_cases c4 : (l0.length : Int) > 10
    · rw [if_pos c4] at H
      have c4b0 : decide (10 < (l0.length : Int)) = true := decide_eq_true c4
      have c4b1 : decide (10 < l0.length) = true := decide_eq_true (by omega)
      clear c4
      (first | rw [c4b0] | (simp only [i64_w, i32_w]; rw [c4b0]) | skip)
      have H' := Aside0.mk H
      clear H
      go_wp2
      repeat (go_quiet (fail); try go_wp2)
      go_meet
      case rel => exact ⟨_, (true), (by first | rfl | (simp; done) | (simp [*]; done)), H', ⟨by first | omega | exact Nat.le_refl _⟩, ⟨by repeat (first | (with_reducible first | exact HB.out | apply below_alloc | apply pw_below_drewN | apply below_drew1) | exact HB.out)⟩⟩
    · rw [if_neg c4] at H
      have c4b0 : decide (10 < (l0.length : Int)) = false := decide_eq_false c4
      have c4b1 : decide (10 < l0.length) = false := decide_eq_false (by omega)
      clear c4
      (first | rw [c4b0] | (simp only [i64_w, i32_w]; rw [c4b0]) | skip)
      have H' := Aside0.mk H
      clear H
      go_wp2
      repeat (go_quiet (fail); try go_wp2)
      go_meet
      case rel => exact ⟨_, (decide ((l1.length : Int) > 1100)), (by first | rfl | (simp; done) | (simp [*]; done)), H', ⟨by first | omega | exact Nat.le_refl _⟩, ⟨by repeat (first | (with_reducible first | exact HB.out | apply below_alloc | apply pw_below_drewN | apply below_drew1) | exact HB.out)⟩⟩
  case rest =>
    clear HC3
    try clear c1
    try clear c2
    try clear p2
    try clear c4
    try clear c4b0
    try clear c4b1
    obtain ⟨kq, x14_2, rfl, HA, HJ2, HB⟩ := hcut
    cases kq with
    | zero => exact absurd HA.out (by simp [mortiselaw30_heavy.j0])
    | succ kj2 =>
      have H := HA.out
      clear HA
      simp only [mortiselaw30_heavy.j0] at H
      by_cases c5 : x14_2 = true
      · subst c5
        have H1 : (some true) = some r := by rw [if_pos rfl] at H; exact H
        clear H
        have H := H1
        clear H1
        obtain rfl := Option.some.inj H
        go_wp2
        repeat (go_quiet (fail); try go_wp2)
        go_ret
        exact ⟨by first | rfl | (simp [errW_none, errW_some] <;> rfl) | (simp [*, errW_none, errW_some] <;> rfl), by repeat (first | (with_reducible first | exact HB.out | apply below_alloc | apply pw_below_drewN | apply below_drew1) | exact HB.out)⟩
      · replace c5 := Bool.eq_false_iff.mpr c5
        subst c5
        have H1 : (mortiselaw30_heavy.l0 kj2 l0 0 0) = some r := by rw [if_neg (show ¬ (false = true) by decide)] at H; exact H
        clear H
        have H := H1
        clear H1
        have H' := Aside0.mk H
        clear H
        go_wp2
        repeat (go_quiet (fail); try go_wp2)
        go_loopg [5, 6] kj2 (fun kq v5 v6 w' => ∃ (x5_2 : Int) (x6_2 : Int), v5 = .int .i64 x5_2 ∧ v6 = .int .i64 x6_2 ∧ Aside0 (mortiselaw30_heavy.l0 kq l0 x5_2 x6_2 = some r) ∧ Aside0 (kq ≤ kj2) ∧ Aside0 (Below w.heap.size w w'))
        case atStart => exact ⟨(0), (0), (by first | rfl | (simp; done) | (simp [*]; done)), (by first | rfl | (simp; done) | (simp [*]; done)), H', ⟨Nat.le_refl _⟩, ⟨by repeat (first | (with_reducible first | exact HB.out | apply below_alloc | apply pw_below_drewN | apply below_drew1) | exact HB.out)⟩⟩
        case round =>
          clear H'
          try clear c1
          try clear c2
          try clear p2
          try clear c4
          try clear c4b0
          try clear c4b1
          try clear c5
          try clear p2
          obtain ⟨x5_2, x6_2, rfl, rfl, HA, HK2, HB⟩ := hrel
          cases gk with
          | zero => exact absurd HA.out (by simp [mortiselaw30_heavy.l0])
          | succ k2 =>
            have H := HA.out
            clear HA
            simp only [mortiselaw30_heavy.l0] at H
            by_cases c6 : x6_2 < (l0.length : Int)
            · rw [if_pos c6] at H
              have c6b0 : decide (x6_2 < (l0.length : Int)) = true := decide_eq_true c6
              clear c6
              by_cases c7 : 0 ≤ x6_2
              · rw [if_pos c7] at H
                have c7b0 : decide (0 ≤ x6_2) = true := decide_eq_true c7
                clear c7
                replace H := Option.bind_eq_some_iff.mp H
                obtain ⟨t153, A80, H⟩ := H
                replace H : (if t153 = true then (some true) else (mortiselaw30_heavy.l0 k2 l0 (wrap64 ((wrap64 (x5_2 + (((rd_T27 l0 x6_2).f3).length : Int))) + (((rd_T27 l0 x6_2).f4).length : Int))) (wrap64 (x6_2 + 1)))) = some r := H
                have A8 := Aside0.mk A80
                clear A80
                by_cases c9 : t153 = true
                · subst c9
                  have H1 : (some true) = some r := by rw [if_pos rfl] at H; exact H
                  clear H
                  have H := H1
                  clear H1
                  obtain rfl := Option.some.inj H
                  have p152 : 0 ≤ (x6_2 : Int) := of_decide_eq_true (by first | (with_reducible assumption) | assumption)
                  have q152 : x6_2 < (l0.length : Int) := of_decide_eq_true (by first | (with_reducible assumption) | assumption)
                  obtain ⟨ad152, A152_2, c152_2, A152_3, c152_3, A152_4, c152_4, A152_5, c152_5, A152_6, c152_6, e152, hx152_0, hx152_1, hx152_2, hx152_3, hx152_4, hx152_5, hx152_6, hl152_2, hi152_2, hl152_3, hi152_3, hl152_4, hi152_4, hl152_5, hi152_5, hl152_6, hi152_6⟩ := at_T27 HR0.out x6_2 p152 q152
                  cases e152
                  replace hx152_0 := (HB.out.cell (World.block_lt_of_cell? w _ hx152_0)).trans hx152_0
                  replace hx152_1 := (HB.out.cell (World.block_lt_of_cell? w _ hx152_1)).trans hx152_1
                  replace hx152_2 := (HB.out.cell (World.block_lt_of_cell? w _ hx152_2)).trans hx152_2
                  replace hx152_3 := (HB.out.cell (World.block_lt_of_cell? w _ hx152_3)).trans hx152_3
                  replace hx152_4 := (HB.out.cell (World.block_lt_of_cell? w _ hx152_4)).trans hx152_4
                  replace hx152_5 := (HB.out.cell (World.block_lt_of_cell? w _ hx152_5)).trans hx152_5
                  replace hx152_6 := (HB.out.cell (World.block_lt_of_cell? w _ hx152_6)).trans hx152_6
                  have HR152_2 := Aside0.mk hi152_2
                  have HC152_2 := Aside0.mk hl152_2
                  clear hi152_2 hl152_2
                  have HR152_3 := Aside0.mk hi152_3
                  have HC152_3 := Aside0.mk hl152_3
                  clear hi152_3 hl152_3
                  have HR152_4 := Aside0.mk hi152_4
                  have HC152_4 := Aside0.mk hl152_4
                  clear hi152_4 hl152_4
                  have HR152_5 := Aside0.mk hi152_5
                  have HC152_5 := Aside0.mk hl152_5
                  clear hi152_5 hl152_5
                  have HR152_6 := Aside0.mk hi152_6
                  have HC152_6 := Aside0.mk hl152_6
                  clear hi152_6 hl152_6
                  replace p152 := eq_true p152
                  replace q152 := eq_true q152
                  go_wp2_with (first | (go_at_call 11; (with_reducible refine (mortiselaw28_Great.calls ((rd_T27 l0 x6_2).f0) ((rd_T27 l0 x6_2).f1) _ _ ((rd_T27 l0 x6_2).f2) _ _ ((rd_T27 l0 x6_2).f3) _ _ ((rd_T27 l0 x6_2).f4) _ _ ((rd_T27 l0 x6_2).f5) _ _ ((rd_T27 l0 x6_2).f6) true _ ?side1 ?side2 ?side3 ?side4 ?side5 ?side6 ?side7 ?side8 ?side9 ?side10 A8.out).mono ?_); (case side1 => repeat (first | exact (Kd.C_below HR152_2.out HB.out) | (with_reducible refine Kd.C_alloc ?_ _) | (with_reducible refine Kd.C_drewN ?_ _) | (with_reducible refine Kd.C_drew ?_))); (case side2 => exact HC152_2.out); (case side3 => repeat (first | exact (Kd.C_below HR152_3.out HB.out) | (with_reducible refine Kd.C_alloc ?_ _) | (with_reducible refine Kd.C_drewN ?_ _) | (with_reducible refine Kd.C_drew ?_))); (case side4 => exact HC152_3.out); (case side5 => repeat (first | exact (Kd.C_below HR152_4.out HB.out) | (with_reducible refine Kd.C_alloc ?_ _) | (with_reducible refine Kd.C_drewN ?_ _) | (with_reducible refine Kd.C_drew ?_))); (case side6 => exact HC152_4.out); (case side7 => repeat (first | exact (Kd.C_below HR152_5.out HB.out) | (with_reducible refine Kd.C_alloc ?_ _) | (with_reducible refine Kd.C_drewN ?_ _) | (with_reducible refine Kd.C_drew ?_))); (case side8 => exact HC152_5.out); (case side9 => repeat (first | exact (Kd.C_below HR152_6.out HB.out) | (with_reducible refine Kd.C_alloc ?_ _) | (with_reducible refine Kd.C_drewN ?_ _) | (with_reducible refine Kd.C_drew ?_))); (case side10 => exact HC152_6.out); rintro e w10 ⟨rfl, hb⟩; have n0_ := Aside0.mk (below_step (by repeat (first | (with_reducible first | exact HB.out | apply below_alloc | apply pw_below_drewN | apply below_drew1) | exact HB.out)) hb); clear HB; have HB := n0_; clear n0_; (try clear hb); (try clear hb2); (try clear hk); (try clear hi)))
                  repeat (go_quiet (first | (go_at_call 11; (with_reducible refine (mortiselaw28_Great.calls ((rd_T27 l0 x6_2).f0) ((rd_T27 l0 x6_2).f1) _ _ ((rd_T27 l0 x6_2).f2) _ _ ((rd_T27 l0 x6_2).f3) _ _ ((rd_T27 l0 x6_2).f4) _ _ ((rd_T27 l0 x6_2).f5) _ _ ((rd_T27 l0 x6_2).f6) true _ ?side1 ?side2 ?side3 ?side4 ?side5 ?side6 ?side7 ?side8 ?side9 ?side10 A8.out).mono ?_); (case side1 => repeat (first | exact (Kd.C_below HR152_2.out HB.out) | (with_reducible refine Kd.C_alloc ?_ _) | (with_reducible refine Kd.C_drewN ?_ _) | (with_reducible refine Kd.C_drew ?_))); (case side2 => exact HC152_2.out); (case side3 => repeat (first | exact (Kd.C_below HR152_3.out HB.out) | (with_reducible refine Kd.C_alloc ?_ _) | (with_reducible refine Kd.C_drewN ?_ _) | (with_reducible refine Kd.C_drew ?_))); (case side4 => exact HC152_3.out); (case side5 => repeat (first | exact (Kd.C_below HR152_4.out HB.out) | (with_reducible refine Kd.C_alloc ?_ _) | (with_reducible refine Kd.C_drewN ?_ _) | (with_reducible refine Kd.C_drew ?_))); (case side6 => exact HC152_4.out); (case side7 => repeat (first | exact (Kd.C_below HR152_5.out HB.out) | (with_reducible refine Kd.C_alloc ?_ _) | (with_reducible refine Kd.C_drewN ?_ _) | (with_reducible refine Kd.C_drew ?_))); (case side8 => exact HC152_5.out); (case side9 => repeat (first | exact (Kd.C_below HR152_6.out HB.out) | (with_reducible refine Kd.C_alloc ?_ _) | (with_reducible refine Kd.C_drewN ?_ _) | (with_reducible refine Kd.C_drew ?_))); (case side10 => exact HC152_6.out); rintro e w10 ⟨rfl, hb⟩; have n0_ := Aside0.mk (below_step (by repeat (first | (with_reducible first | exact HB.out | apply below_alloc | apply pw_below_drewN | apply below_drew1) | exact HB.out)) hb); clear HB; have HB := n0_; clear n0_; (try clear hb); (try clear hb2); (try clear hk); (try clear hi))); try go_wp2_with (first | (go_at_call 11; (with_reducible refine (mortiselaw28_Great.calls ((rd_T27 l0 x6_2).f0) ((rd_T27 l0 x6_2).f1) _ _ ((rd_T27 l0 x6_2).f2) _ _ ((rd_T27 l0 x6_2).f3) _ _ ((rd_T27 l0 x6_2).f4) _ _ ((rd_T27 l0 x6_2).f5) _ _ ((rd_T27 l0 x6_2).f6) true _ ?side1 ?side2 ?side3 ?side4 ?side5 ?side6 ?side7 ?side8 ?side9 ?side10 A8.out).mono ?_); (case side1 => repeat (first | exact (Kd.C_below HR152_2.out HB.out) | (with_reducible refine Kd.C_alloc ?_ _) | (with_reducible refine Kd.C_drewN ?_ _) | (with_reducible refine Kd.C_drew ?_))); (case side2 => exact HC152_2.out); (case side3 => repeat (first | exact (Kd.C_below HR152_3.out HB.out) | (with_reducible refine Kd.C_alloc ?_ _) | (with_reducible refine Kd.C_drewN ?_ _) | (with_reducible refine Kd.C_drew ?_))); (case side4 => exact HC152_3.out); (case side5 => repeat (first | exact (Kd.C_below HR152_4.out HB.out) | (with_reducible refine Kd.C_alloc ?_ _) | (with_reducible refine Kd.C_drewN ?_ _) | (with_reducible refine Kd.C_drew ?_))); (case side6 => exact HC152_4.out); (case side7 => repeat (first | exact (Kd.C_below HR152_5.out HB.out) | (with_reducible refine Kd.C_alloc ?_ _) | (with_reducible refine Kd.C_drewN ?_ _) | (with_reducible refine Kd.C_drew ?_))); (case side8 => exact HC152_5.out); (case side9 => repeat (first | exact (Kd.C_below HR152_6.out HB.out) | (with_reducible refine Kd.C_alloc ?_ _) | (with_reducible refine Kd.C_drewN ?_ _) | (with_reducible refine Kd.C_drew ?_))); (case side10 => exact HC152_6.out); rintro e w10 ⟨rfl, hb⟩; have n0_ := Aside0.mk (below_step (by repeat (first | (with_reducible first | exact HB.out | apply below_alloc | apply pw_below_drewN | apply below_drew1) | exact HB.out)) hb); clear HB; have HB := n0_; clear n0_; (try clear hb); (try clear hb2); (try clear hk); (try clear hi))))
                  go_ret
                  exact ⟨by first | rfl | (simp [errW_none, errW_some] <;> rfl) | (simp [*, errW_none, errW_some] <;> rfl), by repeat (first | (with_reducible first | exact HB.out | apply below_alloc | apply pw_below_drewN | apply below_drew1) | exact HB.out)⟩
                · replace c9 := Bool.eq_false_iff.mpr c9
                  subst c9
                  have H1 : (mortiselaw30_heavy.l0 k2 l0 (wrap64 ((wrap64 (x5_2 + (((rd_T27 l0 x6_2).f3).length : Int))) + (((rd_T27 l0 x6_2).f4).length : Int))) (wrap64 (x6_2 + 1))) = some r := by rw [if_neg (show ¬ (false = true) by decide)] at H; exact H
                  clear H
                  have H := H1
                  clear H1
                  have H' := Aside0.mk H
                  clear H
                  have p152 : 0 ≤ (x6_2 : Int) := of_decide_eq_true (by first | (with_reducible assumption) | assumption)
                  have q152 : x6_2 < (l0.length : Int) := of_decide_eq_true (by first | (with_reducible assumption) | assumption)
                  obtain ⟨ad152, A152_2, c152_2, A152_3, c152_3, A152_4, c152_4, A152_5, c152_5, A152_6, c152_6, e152, hx152_0, hx152_1, hx152_2, hx152_3, hx152_4, hx152_5, hx152_6, hl152_2, hi152_2, hl152_3, hi152_3, hl152_4, hi152_4, hl152_5, hi152_5, hl152_6, hi152_6⟩ := at_T27 HR0.out x6_2 p152 q152
                  cases e152
                  replace hx152_0 := (HB.out.cell (World.block_lt_of_cell? w _ hx152_0)).trans hx152_0
                  replace hx152_1 := (HB.out.cell (World.block_lt_of_cell? w _ hx152_1)).trans hx152_1
                  replace hx152_2 := (HB.out.cell (World.block_lt_of_cell? w _ hx152_2)).trans hx152_2
                  replace hx152_3 := (HB.out.cell (World.block_lt_of_cell? w _ hx152_3)).trans hx152_3
                  replace hx152_4 := (HB.out.cell (World.block_lt_of_cell? w _ hx152_4)).trans hx152_4
                  replace hx152_5 := (HB.out.cell (World.block_lt_of_cell? w _ hx152_5)).trans hx152_5
                  replace hx152_6 := (HB.out.cell (World.block_lt_of_cell? w _ hx152_6)).trans hx152_6
                  have HR152_2 := Aside0.mk hi152_2
                  have HC152_2 := Aside0.mk hl152_2
                  clear hi152_2 hl152_2
                  have HR152_3 := Aside0.mk hi152_3
                  have HC152_3 := Aside0.mk hl152_3
                  clear hi152_3 hl152_3
                  have HR152_4 := Aside0.mk hi152_4
                  have HC152_4 := Aside0.mk hl152_4
                  clear hi152_4 hl152_4
                  have HR152_5 := Aside0.mk hi152_5
                  have HC152_5 := Aside0.mk hl152_5
                  clear hi152_5 hl152_5
                  have HR152_6 := Aside0.mk hi152_6
                  have HC152_6 := Aside0.mk hl152_6
                  clear hi152_6 hl152_6
                  replace p152 := eq_true p152
                  replace q152 := eq_true q152
                  go_wp2_with (first | (go_at_call 11; (with_reducible refine (mortiselaw28_Great.calls ((rd_T27 l0 x6_2).f0) ((rd_T27 l0 x6_2).f1) _ _ ((rd_T27 l0 x6_2).f2) _ _ ((rd_T27 l0 x6_2).f3) _ _ ((rd_T27 l0 x6_2).f4) _ _ ((rd_T27 l0 x6_2).f5) _ _ ((rd_T27 l0 x6_2).f6) false _ ?side1 ?side2 ?side3 ?side4 ?side5 ?side6 ?side7 ?side8 ?side9 ?side10 A8.out).mono ?_); (case side1 => repeat (first | exact (Kd.C_below HR152_2.out HB.out) | (with_reducible refine Kd.C_alloc ?_ _) | (with_reducible refine Kd.C_drewN ?_ _) | (with_reducible refine Kd.C_drew ?_))); (case side2 => exact HC152_2.out); (case side3 => repeat (first | exact (Kd.C_below HR152_3.out HB.out) | (with_reducible refine Kd.C_alloc ?_ _) | (with_reducible refine Kd.C_drewN ?_ _) | (with_reducible refine Kd.C_drew ?_))); (case side4 => exact HC152_3.out); (case side5 => repeat (first | exact (Kd.C_below HR152_4.out HB.out) | (with_reducible refine Kd.C_alloc ?_ _) | (with_reducible refine Kd.C_drewN ?_ _) | (with_reducible refine Kd.C_drew ?_))); (case side6 => exact HC152_4.out); (case side7 => repeat (first | exact (Kd.C_below HR152_5.out HB.out) | (with_reducible refine Kd.C_alloc ?_ _) | (with_reducible refine Kd.C_drewN ?_ _) | (with_reducible refine Kd.C_drew ?_))); (case side8 => exact HC152_5.out); (case side9 => repeat (first | exact (Kd.C_below HR152_6.out HB.out) | (with_reducible refine Kd.C_alloc ?_ _) | (with_reducible refine Kd.C_drewN ?_ _) | (with_reducible refine Kd.C_drew ?_))); (case side10 => exact HC152_6.out); rintro e w11 ⟨rfl, hb⟩; have n0_ := Aside0.mk (below_step (by repeat (first | (with_reducible first | exact HB.out | apply below_alloc | apply pw_below_drewN | apply below_drew1) | exact HB.out)) hb); clear HB; have HB := n0_; clear n0_; (try clear hb); (try clear hb2); (try clear hk); (try clear hi); have p154 : 0 ≤ (x6_2 : Int) := of_decide_eq_true (by first | (with_reducible assumption) | assumption); have q154 : x6_2 < (l0.length : Int) := of_decide_eq_true (by first | (with_reducible assumption) | assumption); obtain ⟨ad154, A154_2, c154_2, A154_3, c154_3, A154_4, c154_4, A154_5, c154_5, A154_6, c154_6, e154, hx154_0, hx154_1, hx154_2, hx154_3, hx154_4, hx154_5, hx154_6, hl154_2, hi154_2, hl154_3, hi154_3, hl154_4, hi154_4, hl154_5, hi154_5, hl154_6, hi154_6⟩ := at_T27 HR0.out x6_2 p154 q154; obtain rfl : ad152 = ad154 := (by injection e154); replace hx154_0 := (HB.out.cell (World.block_lt_of_cell? w _ hx154_0)).trans hx154_0; replace hx154_1 := (HB.out.cell (World.block_lt_of_cell? w _ hx154_1)).trans hx154_1; replace hx154_2 := (HB.out.cell (World.block_lt_of_cell? w _ hx154_2)).trans hx154_2; replace hx154_3 := (HB.out.cell (World.block_lt_of_cell? w _ hx154_3)).trans hx154_3; replace hx154_4 := (HB.out.cell (World.block_lt_of_cell? w _ hx154_4)).trans hx154_4; replace hx154_5 := (HB.out.cell (World.block_lt_of_cell? w _ hx154_5)).trans hx154_5; replace hx154_6 := (HB.out.cell (World.block_lt_of_cell? w _ hx154_6)).trans hx154_6; have HR154_2 := Aside0.mk hi154_2; have HC154_2 := Aside0.mk hl154_2; clear hi154_2 hl154_2; have HR154_3 := Aside0.mk hi154_3; have HC154_3 := Aside0.mk hl154_3; clear hi154_3 hl154_3; have HR154_4 := Aside0.mk hi154_4; have HC154_4 := Aside0.mk hl154_4; clear hi154_4 hl154_4; have HR154_5 := Aside0.mk hi154_5; have HC154_5 := Aside0.mk hl154_5; clear hi154_5 hl154_5; have HR154_6 := Aside0.mk hi154_6; have HC154_6 := Aside0.mk hl154_6; clear hi154_6 hl154_6; replace p154 := eq_true p154; replace q154 := eq_true q154; have p155 : 0 ≤ (x6_2 : Int) := of_decide_eq_true (by first | (with_reducible assumption) | assumption); have q155 : x6_2 < (l0.length : Int) := of_decide_eq_true (by first | (with_reducible assumption) | assumption); obtain ⟨ad155, A155_2, c155_2, A155_3, c155_3, A155_4, c155_4, A155_5, c155_5, A155_6, c155_6, e155, hx155_0, hx155_1, hx155_2, hx155_3, hx155_4, hx155_5, hx155_6, hl155_2, hi155_2, hl155_3, hi155_3, hl155_4, hi155_4, hl155_5, hi155_5, hl155_6, hi155_6⟩ := at_T27 HR0.out x6_2 p155 q155; obtain rfl : ad152 = ad155 := (by injection e155); replace hx155_0 := (HB.out.cell (World.block_lt_of_cell? w _ hx155_0)).trans hx155_0; replace hx155_1 := (HB.out.cell (World.block_lt_of_cell? w _ hx155_1)).trans hx155_1; replace hx155_2 := (HB.out.cell (World.block_lt_of_cell? w _ hx155_2)).trans hx155_2; replace hx155_3 := (HB.out.cell (World.block_lt_of_cell? w _ hx155_3)).trans hx155_3; replace hx155_4 := (HB.out.cell (World.block_lt_of_cell? w _ hx155_4)).trans hx155_4; replace hx155_5 := (HB.out.cell (World.block_lt_of_cell? w _ hx155_5)).trans hx155_5; replace hx155_6 := (HB.out.cell (World.block_lt_of_cell? w _ hx155_6)).trans hx155_6; have HR155_2 := Aside0.mk hi155_2; have HC155_2 := Aside0.mk hl155_2; clear hi155_2 hl155_2; have HR155_3 := Aside0.mk hi155_3; have HC155_3 := Aside0.mk hl155_3; clear hi155_3 hl155_3; have HR155_4 := Aside0.mk hi155_4; have HC155_4 := Aside0.mk hl155_4; clear hi155_4 hl155_4; have HR155_5 := Aside0.mk hi155_5; have HC155_5 := Aside0.mk hl155_5; clear hi155_5 hl155_5; have HR155_6 := Aside0.mk hi155_6; have HC155_6 := Aside0.mk hl155_6; clear hi155_6 hl155_6; replace p155 := eq_true p155; replace q155 := eq_true q155; have ea_ := Option.some.inj (hx154_2.symm.trans hx155_2); injection ea_ with ea_ en_ ec_; subst ea_; subst ec_; clear en_; have ea_ := Option.some.inj (hx154_3.symm.trans hx155_3); injection ea_ with ea_ en_ ec_; subst ea_; subst ec_; clear en_; have ea_ := Option.some.inj (hx154_4.symm.trans hx155_4); injection ea_ with ea_ en_ ec_; subst ea_; subst ec_; clear en_; have ea_ := Option.some.inj (hx154_5.symm.trans hx155_5); injection ea_ with ea_ en_ ec_; subst ea_; subst ec_; clear en_; have ea_ := Option.some.inj (hx154_6.symm.trans hx155_6); injection ea_ with ea_ en_ ec_; subst ea_; subst ec_; clear en_))
                  repeat (go_quiet (first | (go_at_call 11; (with_reducible refine (mortiselaw28_Great.calls ((rd_T27 l0 x6_2).f0) ((rd_T27 l0 x6_2).f1) _ _ ((rd_T27 l0 x6_2).f2) _ _ ((rd_T27 l0 x6_2).f3) _ _ ((rd_T27 l0 x6_2).f4) _ _ ((rd_T27 l0 x6_2).f5) _ _ ((rd_T27 l0 x6_2).f6) false _ ?side1 ?side2 ?side3 ?side4 ?side5 ?side6 ?side7 ?side8 ?side9 ?side10 A8.out).mono ?_); (case side1 => repeat (first | exact (Kd.C_below HR152_2.out HB.out) | (with_reducible refine Kd.C_alloc ?_ _) | (with_reducible refine Kd.C_drewN ?_ _) | (with_reducible refine Kd.C_drew ?_))); (case side2 => exact HC152_2.out); (case side3 => repeat (first | exact (Kd.C_below HR152_3.out HB.out) | (with_reducible refine Kd.C_alloc ?_ _) | (with_reducible refine Kd.C_drewN ?_ _) | (with_reducible refine Kd.C_drew ?_))); (case side4 => exact HC152_3.out); (case side5 => repeat (first | exact (Kd.C_below HR152_4.out HB.out) | (with_reducible refine Kd.C_alloc ?_ _) | (with_reducible refine Kd.C_drewN ?_ _) | (with_reducible refine Kd.C_drew ?_))); (case side6 => exact HC152_4.out); (case side7 => repeat (first | exact (Kd.C_below HR152_5.out HB.out) | (with_reducible refine Kd.C_alloc ?_ _) | (with_reducible refine Kd.C_drewN ?_ _) | (with_reducible refine Kd.C_drew ?_))); (case side8 => exact HC152_5.out); (case side9 => repeat (first | exact (Kd.C_below HR152_6.out HB.out) | (with_reducible refine Kd.C_alloc ?_ _) | (with_reducible refine Kd.C_drewN ?_ _) | (with_reducible refine Kd.C_drew ?_))); (case side10 => exact HC152_6.out); rintro e w11 ⟨rfl, hb⟩; have n0_ := Aside0.mk (below_step (by repeat (first | (with_reducible first | exact HB.out | apply below_alloc | apply pw_below_drewN | apply below_drew1) | exact HB.out)) hb); clear HB; have HB := n0_; clear n0_; (try clear hb); (try clear hb2); (try clear hk); (try clear hi); have p154 : 0 ≤ (x6_2 : Int) := of_decide_eq_true (by first | (with_reducible assumption) | assumption); have q154 : x6_2 < (l0.length : Int) := of_decide_eq_true (by first | (with_reducible assumption) | assumption); obtain ⟨ad154, A154_2, c154_2, A154_3, c154_3, A154_4, c154_4, A154_5, c154_5, A154_6, c154_6, e154, hx154_0, hx154_1, hx154_2, hx154_3, hx154_4, hx154_5, hx154_6, hl154_2, hi154_2, hl154_3, hi154_3, hl154_4, hi154_4, hl154_5, hi154_5, hl154_6, hi154_6⟩ := at_T27 HR0.out x6_2 p154 q154; obtain rfl : ad152 = ad154 := (by injection e154); replace hx154_0 := (HB.out.cell (World.block_lt_of_cell? w _ hx154_0)).trans hx154_0; replace hx154_1 := (HB.out.cell (World.block_lt_of_cell? w _ hx154_1)).trans hx154_1; replace hx154_2 := (HB.out.cell (World.block_lt_of_cell? w _ hx154_2)).trans hx154_2; replace hx154_3 := (HB.out.cell (World.block_lt_of_cell? w _ hx154_3)).trans hx154_3; replace hx154_4 := (HB.out.cell (World.block_lt_of_cell? w _ hx154_4)).trans hx154_4; replace hx154_5 := (HB.out.cell (World.block_lt_of_cell? w _ hx154_5)).trans hx154_5; replace hx154_6 := (HB.out.cell (World.block_lt_of_cell? w _ hx154_6)).trans hx154_6; have HR154_2 := Aside0.mk hi154_2; have HC154_2 := Aside0.mk hl154_2; clear hi154_2 hl154_2; have HR154_3 := Aside0.mk hi154_3; have HC154_3 := Aside0.mk hl154_3; clear hi154_3 hl154_3; have HR154_4 := Aside0.mk hi154_4; have HC154_4 := Aside0.mk hl154_4; clear hi154_4 hl154_4; have HR154_5 := Aside0.mk hi154_5; have HC154_5 := Aside0.mk hl154_5; clear hi154_5 hl154_5; have HR154_6 := Aside0.mk hi154_6; have HC154_6 := Aside0.mk hl154_6; clear hi154_6 hl154_6; replace p154 := eq_true p154; replace q154 := eq_true q154; have p155 : 0 ≤ (x6_2 : Int) := of_decide_eq_true (by first | (with_reducible assumption) | assumption); have q155 : x6_2 < (l0.length : Int) := of_decide_eq_true (by first | (with_reducible assumption) | assumption); obtain ⟨ad155, A155_2, c155_2, A155_3, c155_3, A155_4, c155_4, A155_5, c155_5, A155_6, c155_6, e155, hx155_0, hx155_1, hx155_2, hx155_3, hx155_4, hx155_5, hx155_6, hl155_2, hi155_2, hl155_3, hi155_3, hl155_4, hi155_4, hl155_5, hi155_5, hl155_6, hi155_6⟩ := at_T27 HR0.out x6_2 p155 q155; obtain rfl : ad152 = ad155 := (by injection e155); replace hx155_0 := (HB.out.cell (World.block_lt_of_cell? w _ hx155_0)).trans hx155_0; replace hx155_1 := (HB.out.cell (World.block_lt_of_cell? w _ hx155_1)).trans hx155_1; replace hx155_2 := (HB.out.cell (World.block_lt_of_cell? w _ hx155_2)).trans hx155_2; replace hx155_3 := (HB.out.cell (World.block_lt_of_cell? w _ hx155_3)).trans hx155_3; replace hx155_4 := (HB.out.cell (World.block_lt_of_cell? w _ hx155_4)).trans hx155_4; replace hx155_5 := (HB.out.cell (World.block_lt_of_cell? w _ hx155_5)).trans hx155_5; replace hx155_6 := (HB.out.cell (World.block_lt_of_cell? w _ hx155_6)).trans hx155_6; have HR155_2 := Aside0.mk hi155_2; have HC155_2 := Aside0.mk hl155_2; clear hi155_2 hl155_2; have HR155_3 := Aside0.mk hi155_3; have HC155_3 := Aside0.mk hl155_3; clear hi155_3 hl155_3; have HR155_4 := Aside0.mk hi155_4; have HC155_4 := Aside0.mk hl155_4; clear hi155_4 hl155_4; have HR155_5 := Aside0.mk hi155_5; have HC155_5 := Aside0.mk hl155_5; clear hi155_5 hl155_5; have HR155_6 := Aside0.mk hi155_6; have HC155_6 := Aside0.mk hl155_6; clear hi155_6 hl155_6; replace p155 := eq_true p155; replace q155 := eq_true q155; have ea_ := Option.some.inj (hx154_2.symm.trans hx155_2); injection ea_ with ea_ en_ ec_; subst ea_; subst ec_; clear en_; have ea_ := Option.some.inj (hx154_3.symm.trans hx155_3); injection ea_ with ea_ en_ ec_; subst ea_; subst ec_; clear en_; have ea_ := Option.some.inj (hx154_4.symm.trans hx155_4); injection ea_ with ea_ en_ ec_; subst ea_; subst ec_; clear en_; have ea_ := Option.some.inj (hx154_5.symm.trans hx155_5); injection ea_ with ea_ en_ ec_; subst ea_; subst ec_; clear en_; have ea_ := Option.some.inj (hx154_6.symm.trans hx155_6); injection ea_ with ea_ en_ ec_; subst ea_; subst ec_; clear en_)); try go_wp2_with (first | (go_at_call 11; (with_reducible refine (mortiselaw28_Great.calls ((rd_T27 l0 x6_2).f0) ((rd_T27 l0 x6_2).f1) _ _ ((rd_T27 l0 x6_2).f2) _ _ ((rd_T27 l0 x6_2).f3) _ _ ((rd_T27 l0 x6_2).f4) _ _ ((rd_T27 l0 x6_2).f5) _ _ ((rd_T27 l0 x6_2).f6) false _ ?side1 ?side2 ?side3 ?side4 ?side5 ?side6 ?side7 ?side8 ?side9 ?side10 A8.out).mono ?_); (case side1 => repeat (first | exact (Kd.C_below HR152_2.out HB.out) | (with_reducible refine Kd.C_alloc ?_ _) | (with_reducible refine Kd.C_drewN ?_ _) | (with_reducible refine Kd.C_drew ?_))); (case side2 => exact HC152_2.out); (case side3 => repeat (first | exact (Kd.C_below HR152_3.out HB.out) | (with_reducible refine Kd.C_alloc ?_ _) | (with_reducible refine Kd.C_drewN ?_ _) | (with_reducible refine Kd.C_drew ?_))); (case side4 => exact HC152_3.out); (case side5 => repeat (first | exact (Kd.C_below HR152_4.out HB.out) | (with_reducible refine Kd.C_alloc ?_ _) | (with_reducible refine Kd.C_drewN ?_ _) | (with_reducible refine Kd.C_drew ?_))); (case side6 => exact HC152_4.out); (case side7 => repeat (first | exact (Kd.C_below HR152_5.out HB.out) | (with_reducible refine Kd.C_alloc ?_ _) | (with_reducible refine Kd.C_drewN ?_ _) | (with_reducible refine Kd.C_drew ?_))); (case side8 => exact HC152_5.out); (case side9 => repeat (first | exact (Kd.C_below HR152_6.out HB.out) | (with_reducible refine Kd.C_alloc ?_ _) | (with_reducible refine Kd.C_drewN ?_ _) | (with_reducible refine Kd.C_drew ?_))); (case side10 => exact HC152_6.out); rintro e w11 ⟨rfl, hb⟩; have n0_ := Aside0.mk (below_step (by repeat (first | (with_reducible first | exact HB.out | apply below_alloc | apply pw_below_drewN | apply below_drew1) | exact HB.out)) hb); clear HB; have HB := n0_; clear n0_; (try clear hb); (try clear hb2); (try clear hk); (try clear hi); have p154 : 0 ≤ (x6_2 : Int) := of_decide_eq_true (by first | (with_reducible assumption) | assumption); have q154 : x6_2 < (l0.length : Int) := of_decide_eq_true (by first | (with_reducible assumption) | assumption); obtain ⟨ad154, A154_2, c154_2, A154_3, c154_3, A154_4, c154_4, A154_5, c154_5, A154_6, c154_6, e154, hx154_0, hx154_1, hx154_2, hx154_3, hx154_4, hx154_5, hx154_6, hl154_2, hi154_2, hl154_3, hi154_3, hl154_4, hi154_4, hl154_5, hi154_5, hl154_6, hi154_6⟩ := at_T27 HR0.out x6_2 p154 q154; obtain rfl : ad152 = ad154 := (by injection e154); replace hx154_0 := (HB.out.cell (World.block_lt_of_cell? w _ hx154_0)).trans hx154_0; replace hx154_1 := (HB.out.cell (World.block_lt_of_cell? w _ hx154_1)).trans hx154_1; replace hx154_2 := (HB.out.cell (World.block_lt_of_cell? w _ hx154_2)).trans hx154_2; replace hx154_3 := (HB.out.cell (World.block_lt_of_cell? w _ hx154_3)).trans hx154_3; replace hx154_4 := (HB.out.cell (World.block_lt_of_cell? w _ hx154_4)).trans hx154_4; replace hx154_5 := (HB.out.cell (World.block_lt_of_cell? w _ hx154_5)).trans hx154_5; replace hx154_6 := (HB.out.cell (World.block_lt_of_cell? w _ hx154_6)).trans hx154_6; have HR154_2 := Aside0.mk hi154_2; have HC154_2 := Aside0.mk hl154_2; clear hi154_2 hl154_2; have HR154_3 := Aside0.mk hi154_3; have HC154_3 := Aside0.mk hl154_3; clear hi154_3 hl154_3; have HR154_4 := Aside0.mk hi154_4; have HC154_4 := Aside0.mk hl154_4; clear hi154_4 hl154_4; have HR154_5 := Aside0.mk hi154_5; have HC154_5 := Aside0.mk hl154_5; clear hi154_5 hl154_5; have HR154_6 := Aside0.mk hi154_6; have HC154_6 := Aside0.mk hl154_6; clear hi154_6 hl154_6; replace p154 := eq_true p154; replace q154 := eq_true q154; have p155 : 0 ≤ (x6_2 : Int) := of_decide_eq_true (by first | (with_reducible assumption) | assumption); have q155 : x6_2 < (l0.length : Int) := of_decide_eq_true (by first | (with_reducible assumption) | assumption); obtain ⟨ad155, A155_2, c155_2, A155_3, c155_3, A155_4, c155_4, A155_5, c155_5, A155_6, c155_6, e155, hx155_0, hx155_1, hx155_2, hx155_3, hx155_4, hx155_5, hx155_6, hl155_2, hi155_2, hl155_3, hi155_3, hl155_4, hi155_4, hl155_5, hi155_5, hl155_6, hi155_6⟩ := at_T27 HR0.out x6_2 p155 q155; obtain rfl : ad152 = ad155 := (by injection e155); replace hx155_0 := (HB.out.cell (World.block_lt_of_cell? w _ hx155_0)).trans hx155_0; replace hx155_1 := (HB.out.cell (World.block_lt_of_cell? w _ hx155_1)).trans hx155_1; replace hx155_2 := (HB.out.cell (World.block_lt_of_cell? w _ hx155_2)).trans hx155_2; replace hx155_3 := (HB.out.cell (World.block_lt_of_cell? w _ hx155_3)).trans hx155_3; replace hx155_4 := (HB.out.cell (World.block_lt_of_cell? w _ hx155_4)).trans hx155_4; replace hx155_5 := (HB.out.cell (World.block_lt_of_cell? w _ hx155_5)).trans hx155_5; replace hx155_6 := (HB.out.cell (World.block_lt_of_cell? w _ hx155_6)).trans hx155_6; have HR155_2 := Aside0.mk hi155_2; have HC155_2 := Aside0.mk hl155_2; clear hi155_2 hl155_2; have HR155_3 := Aside0.mk hi155_3; have HC155_3 := Aside0.mk hl155_3; clear hi155_3 hl155_3; have HR155_4 := Aside0.mk hi155_4; have HC155_4 := Aside0.mk hl155_4; clear hi155_4 hl155_4; have HR155_5 := Aside0.mk hi155_5; have HC155_5 := Aside0.mk hl155_5; clear hi155_5 hl155_5; have HR155_6 := Aside0.mk hi155_6; have HC155_6 := Aside0.mk hl155_6; clear hi155_6 hl155_6; replace p155 := eq_true p155; replace q155 := eq_true q155; have ea_ := Option.some.inj (hx154_2.symm.trans hx155_2); injection ea_ with ea_ en_ ec_; subst ea_; subst ec_; clear en_; have ea_ := Option.some.inj (hx154_3.symm.trans hx155_3); injection ea_ with ea_ en_ ec_; subst ea_; subst ec_; clear en_; have ea_ := Option.some.inj (hx154_4.symm.trans hx155_4); injection ea_ with ea_ en_ ec_; subst ea_; subst ec_; clear en_; have ea_ := Option.some.inj (hx154_5.symm.trans hx155_5); injection ea_ with ea_ en_ ec_; subst ea_; subst ec_; clear en_; have ea_ := Option.some.inj (hx154_6.symm.trans hx155_6); injection ea_ with ea_ en_ ec_; subst ea_; subst ec_; clear en_)))
                  go_roundg k2
                  case measure => have := HJ2.out; have := HK2.out; omega
                  case rel => exact ⟨(wrap64 ((wrap64 (x5_2 + (((rd_T27 l0 x6_2).f3).length : Int))) + (((rd_T27 l0 x6_2).f4).length : Int))), (wrap64 (x6_2 + 1)), (by first | rfl | (simp; done) | (simp [*]; done)), (by first | rfl | (simp; done) | (simp [*]; done)), H', ⟨by have := HJ2.out; have := HK2.out; omega⟩, ⟨by repeat (first | (with_reducible first | exact HB.out | apply below_alloc | apply pw_below_drewN | apply below_drew1) | exact HB.out)⟩⟩
              · rw [if_neg c7] at H
                exact absurd H (by simp)
            · rw [if_neg c6] at H
              have c6b0 : decide (x6_2 < (l0.length : Int)) = false := decide_eq_false c6
              clear c6
              obtain rfl := Option.some.inj H
              go_wp2
              repeat (go_quiet (fail); try go_wp2)
              go_ret
              exact ⟨by first | rfl | (simp [errW_none, errW_some] <;> rfl) | (simp [*, errW_none, errW_some] <;> rfl), by repeat (first | (with_reducible first | exact HB.out | apply below_alloc | apply pw_below_drewN | apply below_drew1) | exact HB.out)⟩

end Go.Proofs.Ytnbgbmddkbneeaa.PLinkWeak

/- Step by step the program's machine and the document's tell the same: the walk. -/
import Derived.Test.YtbchiolgbhckhaaPair
set_option linter.unusedVariables false
set_option linter.unusedSimpArgs false
namespace Go.Proofs.Ytbchiolgbhckhaa.Mach
open Go.RowKit Go.Proofs.YtbchiolgbhckhaaW.PrintWords Go.Proofs.YtbchiolgbhckhaaW.PrintMore Go.Proofs.Ytbchiolgbhckhaa.PMachRuns
theorem of_drew {w w' : World} (h : Below w.drew.heap.size w.drew w') : Below w.heap.size w w' := ((Below.refl _ _).drew).trans (h.mono (Nat.le_refl _))
section
variable {P : Program} {ops : Array Oper} {Q : Exit → Act → World → Prop} {S : World → Prop} {T : Act → World → Prop} {i : Nat} {r : Way} {a : Act} {w : World} {o : Oper}
/-- A guarded operation that turns the world, its guard being met. -/
theorem tree_turn_g (ho : ops[i]? = some o) (hw : Region.wanted o (yielded ops a.tmps) = true)
    (h : ∀ K : Act → World → Prop, (∀ a w, S w → (S w → wpTree P ops Q S T r a w) → K a w) → o.wp P a w K Q) : wpTree P ops Q S T (.turn i r) a w := by
  unfold wpTree
  refine wpOp_step ho (fun K hK => ?_)
  rw [if_pos hw]
  exact h K fun a w hS hW => hK a w ⟨hS, hW⟩
/-- A guarded operation, its guard not being met. -/
theorem tree_skip (ho : ops[i]? = some o) (hw : Region.wanted o (yielded ops a.tmps) = false) (hQ : ∀ c a w, Q (.panic c) (a.put o.dst undef) w → Q (.panic c) a w)
    (h : wpTree P ops Q S T r (a.put o.dst undef) w) : wpTree P ops Q S T (.read i r) a w := ⟨o, undef, ho, hQ, .inr ⟨hw, rfl⟩, h⟩
end
attribute [local irreducible] wpTree Region.wanted yielded
set_option maxRecDepth 100000 in
set_option maxHeartbeats 4000000 in
theorem machSteps_walk {A1 A2 A3 : Option Addr} {n1 c1 n2 c2 n3 c3 : Nat} {en : Int} {code data inp : List Int} (w : World) (him : Image w A1 n1 c1 A2 n2 c2 code data) (mem : Int) (hin : Input w A3 n3 c3 inp) (n at' : Int) (l1 : n1 ≤ c1) (l2 : n2 ≤ c2) (m1 : c1 ≤ maxLen) (m2 : c2 ≤ maxLen) (hmw : (Lit.int .i64 mem).wf = true) (l3 : n3 ≤ c3) (m3 : c3 ≤ maxLen) (hnw : (Lit.int .i64 n).wf = true) (haw : (Lit.int .i64 at').wf = true) :
    Calls Try.prog 3 #[.agg #[.slice A1 n1 c1, .slice A2 n2 c2, .int .i64 en], .int .i64 mem, .slice A3 n3 c3, .int .i64 n, .int .i64 at'] w fun e w' => e = .returned (.bool true) ∧ Below w.heap.size w w' := by
  have hn' := (Num.wf_i64 hnw).2
  clear hmw hnw haw
  have im : ∀ X, Below w.heap.size w X → Image X A1 n1 c1 A2 n2 c2 code data := fun X h => him.below h
  have inn : ∀ X, Below w.heap.size w X → Input X A3 n3 c3 inp := fun X h => hin.below h
  have hb0 := alloc_below w (.cells #[.slice A1 n1 c1, .slice A2 n2 c2, .int .i64 en] 24)
  by_cases hh : (n1 : Int) > 2000 ∨ (n2 : Int) > 2000 ∨ mem > 5000 ∨ (n3 : Int) > 100 ∨ n > 3000
  · have hv := heavy_any (en := en) (mem := mem) (fuel := n) (im _ hb0) (inn _ hb0) l1 l2 l3 m1 m2 m3 true (by rw [decide_eq_true hh])
    clear hh him hin
    go_enter Try.func3, Try.ntmps3
    go_wp2_with (first | (go_at_call 12; refine hv.mono ?_; rintro e w1 ⟨rfl, hb1⟩) | (go_at_call 13; refine (awake_any _).mono ?_; rintro e w2 ⟨rfl, hb2⟩))
    go_ret
    exact ⟨rfl, bnext hb0 (bnext hb1 hb2)⟩
  have hv := heavy_any (en := en) (mem := mem) (fuel := n) (im _ hb0) (inn _ hb0) l1 l2 l3 m1 m2 m3 false (by rw [decide_eq_false hh])
  clear hh
  by_cases he : newErr n1 n2 n3 en mem = 0
  rotate_left
  · have hn : ∀ X : World, Calls Try.prog 14 #[.agg #[.slice A1 n1 c1, .slice A2 n2 c2, .int .i64 en], .int .i64 mem, .slice A3 n3 c3] X _ := fun X => new_bad X rfl he
    have hn2 : ∀ X : World, Calls Try.prog 15 #[.agg #[.slice A1 n1 c1, .slice A2 n2 c2, .int .i64 en], .int .i64 mem, .slice A3 n3 c3] X _ := fun X => rnew_bad X rfl he
    have hz : (newErr n1 n2 n3 en mem != 0) = true := by simpa using he
    have hz3 : (newErr n1 n2 n3 en mem != newErr n1 n2 n3 en mem) = false := by simp
    generalize newErr n1 n2 n3 en mem = er at hn hn2 hz hz3
    clear he him hin
    go_enter Try.func3, Try.ntmps3
    go_upto_region 5 with (first | (go_at_call 12; refine hv.mono ?_; rintro e w1 ⟨rfl, hb1⟩; have t1 := bnext hb0 hb1; obtain ⟨e1, e2, e3, e4⟩ := img_kept hb1) | (go_at_call 14; refine (hn _).mono ?_; rintro e w2 ⟨rfl, hb2⟩; have t2 := bnext t1 hb2; obtain ⟨e1, e2, e3, e4⟩ := img_kept (bnext hb1 hb2)) | (go_at_call 15; refine (hn2 _).mono ?_; rintro e w3 ⟨rfl, hb3⟩; have t3 := bnext t2 hb3) | (refine wpList_store_over (o := ⟨none, .store 36 (.tmp 13) (.tmp 37), _, _, _, _⟩) rfl 36 (.tmp 13) (.tmp 37) rfl w3.heap.size ZS rfl rfl 36 ZS (heap_alloc_new w3 _) size36 rfl ZS_one (fun w4 hS => ?_)))
    have hS4 := hS.size
    simp only [World.size_alloc] at hS4
    have hb4 : Below w3.heap.size w3 w4 := ⟨hS.os, hS.tape, hS.output, by omega, fun k hk => (hS.block k (by omega)).trans (Below.heap_alloc _ _ _ hk)⟩
    have t4 := bnext t3 hb4
    clear hS e1 e2 e3 e4
    go_wp2_with (first | (go_at_call 16; refine (num_any _ _).mono ?_; rintro e w7 ⟨rfl, rfl⟩) | (go_at_call 13; refine (awake_any _).mono ?_; rintro e w9 ⟨rfl, hb9⟩))
    go_ret
    exact ⟨rfl, bnext t4 hb9⟩
  obtain ⟨f1, f2, f3, f4, f5, f6, f7, f8⟩ := newErr_ok he
  obtain ⟨M, rfl⟩ : ∃ M : Nat, mem = (M : Int) := ⟨mem.toNat, by omega⟩
  have hn : ∀ X, Below w.heap.size w X → _ := fun X hX => new_good (im X hX) (inn X hX) he
  have hn2 : ∀ X, Below w.heap.size w X → Calls Try.prog 15 #[.agg #[.slice A1 n1 c1, .slice A2 n2 c2, .int .i64 en], .int .i64 (M : Int), .slice A3 n3 c3] X (RNewOk X code data inp n1 n3 M en) := fun X hX => by
    have := rnew_good (im X hX) (inn X hX) he
    rwa [Int.toNat_natCast] at this
  have hcode := him.code_in
  have hinp := hin.in_
  have hdl : data.length = n2 := by have := him.data_at.1; simpa [nums] using this
  obtain ⟨K, hF⟩ : ∃ K : Nat, max 0 (min n 300) = (K : Int) := ⟨(max 0 (min n 300)).toNat, by omega⟩
  have hK3 : K ≤ 300 := by omega
  have ia : (fresh code data inp en M).inp = inp := rfl
  have cF := fresh_calm code data inp en M
  have oF := fresh_outin code data inp en M
  clear him hin he
  go_enter Try.func3, Try.ntmps3
  go_upto_region 5 with (first | (go_at_call 12; refine hv.mono ?_; rintro e w1 ⟨rfl, hb1⟩; have t1 := bnext hb0 hb1; obtain ⟨e1, e2, e3, e4⟩ := img_kept hb1) | (go_at_call 14; refine (hn _ t1).mono ?_; rintro e w2 ⟨L, rfl, hH, hb2, hft⟩; rw [Int.toNat_natCast] at hH; have t2 := bnext t1 hb2; obtain ⟨e1, e2, e3, e4⟩ := img_kept (bnext hb1 hb2)) | (go_at_call 15; refine (hn2 _ t2).mono ?_; rintro e w3 ⟨cb, cc, mb, ib, ic, rfl, hb3, ro, ri, hm, hf, h0, h1, n01, n21⟩) | (refine wpList_store_over (o := ⟨none, .store 36 (.tmp 13) (.tmp 37), _, _, _, _⟩) rfl 36 (.tmp 13) (.tmp 37) rfl w3.heap.size (VS cb n1 cc mb M en ib n3 ic (.int .i64 (M : Int))) rfl rfl 36 ZS (heap_alloc_new w3 _) size36 rfl (VS_one _ _ _ _ _ _ _ _ _ _) (fun w4 hS => ?_)))
  obtain ⟨hR, hftR, hb4⟩ := rmade hb3 ro ri hm hf h0 h1 n01 n21 (by omega) (by omega) (by omega) (by omega) hcode hinp hS
  have hP0 : Pair w1 w4 L.m w3.heap.size (fresh code data inp en M) (fresh code data inp en M) := Pair.start hH hR hb2 (bnext hb3 hb4) (fun b x => hft b (ia ▸ x)) hftR
  clear hS e1 e2 e3 e4 hR hftR hH hft ro ri hm hf h0 h1 n01 n21 hn hn2 im inn hcode hinp ia f1 f2 f3 f4 f5 f6 f7 f8
  generalize fresh code data inp en M = fa at *
  generalize w3.heap.size = r at *
  generalize L.m = m at *
  clear hb3 hb4
  go_wp2_with (go_at_call 16; refine (num_any _ _).mono ?_; rintro e w7 ⟨rfl, rfl⟩)
  go_loopw [15] (fun i wr => ∃ k : Nat, i = .int .i64 (k : Int) ∧ k ≤ K ∧ Pair w1 wr m r (runN k fa) (runN k fa)) (fun i _ => K - (intOf i).toNat)
  case atStart => exact ⟨0, by go_num, Nat.zero_le _, hP0⟩
  case round =>
    obtain ⟨k, rfl, hk, hP⟩ := hrel
    have hC : Calm (runN k fa) := runN_calm k cF
    have hC1 : Calm (runN 1 (runN k fa)) := runN_calm 1 hC
    have oL : (runN 1 (runN k fa)).out.length ≤ 4096 := (runN_outin 1 (runN_outin k oF)).1
    have hnx := Lib.hid (runN_one k fa)
    generalize hs : runN k fa = s at *
    have HS := Lib.hid hs
    clear hs
    by_cases hlt : k < K
    · have d1 : decide ((k : Int) < n) = true := decide_eq_true (by omega)
      have d2 : decide ((k : Int) < 300) = true := decide_eq_true (by omega)
      go_wp2
      refine region_tree2 (fun _ _ => True) (.read 0 (.turn 1 (.turn 2 (.read 3 (.read 4 (.read 5 (.read 7 (.fork 6 (.turn 8 (.read 9 .done)) 8 (.turn 6 (.read 9 .done)))))))))) 10
        (fun a W a' w' => Pair w1 w' m r (runN 1 s) (runN 1 s) ∧ a' = ((((((((((a.put (some 63) (.pointer (some ⟨m, 0, none⟩))).put (some 64) (.bool s.goes)).put (some 65) (.bool s.goes)).put (some 66) (.bool false)).put (some 67) (.bool false)).put (some 68) (.pointer (some ⟨m, 0, none⟩))).put (some 70) (.pointer (some ⟨r, 18, none⟩))).put (some 69) (.int .i64 (runN 1 s).pc)).put (some 71) (.int .i64 (runN 1 s).pc)).put (some 72) (.bool false))) mixed (by kernel_rfl) trivial ?_ ?_
      refine tree_read (some 63) (.pointer (some ⟨m, 0, none⟩)) rfl rfl (fun _ _ _ h => h) (by kernel_rfl) ?y0 ?_
      case y0 => intro w' hS; go_simp <;> first | rfl | simp
      refine tree_turn_g rfl (by kernel_rfl) (fun K hK => ?_)
      go_simp
      refine (hP.keep (Below.refl _ _).drew).first.mono ?_
      rintro e v1 ⟨rfl, P1⟩
      go_simp
      refine hK _ _ trivial (fun _ => ?_)
      clear hK K
      refine tree_turn_g rfl (by kernel_rfl) (fun K hK => ?_)
      go_simp
      refine (P1.second hC).mono ?_
      rintro e v2 ⟨rfl, P2⟩
      go_simp
      refine hK _ _ trivial (fun _ => ?_)
      clear hK K P1
      refine tree_read (some 66) (.bool false) rfl rfl (fun _ _ _ h => h) (by kernel_rfl) ?y3 ?_
      case y3 => intro w' hS; go_simp <;> first | rfl | simp
      refine tree_read (some 67) (.bool false) rfl rfl (fun _ _ _ h => h) (by kernel_rfl) ?y4 ?_
      case y4 => intro w' hS; go_simp <;> first | rfl | simp
      refine tree_read (some 68) (.pointer (some ⟨m, 0, none⟩)) rfl rfl (fun _ _ _ h => h) (by kernel_rfl) ?y5 ?_
      case y5 => intro w' hS; go_simp <;> first | rfl | simp
      refine tree_read (some 70) (.pointer (some ⟨r, 18, none⟩)) rfl rfl (fun _ _ _ h => h) (by kernel_rfl) ?y7 ?_
      case y7 => intro w' hS; go_simp <;> first | rfl | simp
      refine tree_fork_g rfl (by kernel_rfl) rfl (by kernel_rfl) (fun K hK => ?_) (fun K hK => ?_)
      · go_simp
        refine (P2.pc_ask).mono ?_
        rintro e v3 ⟨rfl, rfl⟩
        go_simp
        refine hK _ _ trivial (fun _ => ?_)
        clear hK K
        refine tree_turn_g rfl (by kernel_rfl) (fun K hK => ?_)
        have h18 := P2.pc_cell
        go_simp
        refine hK _ _ trivial (fun _ => ?_)
        clear hK K h18
        refine tree_read (some 72) (.bool false) rfl rfl (fun _ _ _ h => h) (by kernel_rfl) ?ya9 ?_
        case ya9 => intro w' hS; go_simp <;> first | rfl | simp
        exact tree_done ⟨P2, by kernel_rfl⟩
      · have h18 := P2.pc_cell
        go_simp
        refine hK _ _ trivial (fun _ => ?_)
        clear hK K h18
        refine tree_turn_g rfl (by kernel_rfl) (fun K hK => ?_)
        go_simp
        refine (P2.pc_ask).mono ?_
        rintro e v3 ⟨rfl, rfl⟩
        go_simp
        refine hK _ _ trivial (fun _ => ?_)
        clear hK K
        refine tree_read (some 72) (.bool false) rfl rfl (fun _ _ _ h => h) (by kernel_rfl) ?yb9 ?_
        case yb9 => intro w' hS; go_simp <;> first | rfl | simp
        exact tree_done ⟨P2, by kernel_rfl⟩
      rintro a' w6 ⟨hQ, rfl⟩
      simp only [List.drop_succ_cons, List.drop_zero]
      go_simp
      go_wp2
      go_loopw [16] (fun j wr2 => ∃ q : Nat, j = .int .i64 (q : Int) ∧ q ≤ 16 ∧ Pair w1 wr2 m r (runN 1 s) (runN 1 s)) (fun j _ => 16 - (intOf j).toNat)
      case atStart => exact ⟨0, by go_num, Nat.zero_le _, hQ⟩
      case round =>
        clear hQ
        obtain ⟨q, rfl, hq, hQ⟩ := hrel
        generalize ht : runN 1 s = t at *
        have HT := Lib.hid ht
        clear ht
        by_cases hlt2 : q < 16
        · have d3 : decide ((q : Int) < 16) = true := decide_eq_true (by omega)
          have d4 : (0 : Int) ≤ (q : Int) := by omega
          have d5 : (q : Int) < 16 := by omega
          have hreg := hQ.reg_cell q hlt2
          go_wp2
          go_quiet ((go_at_call 20; exact Calls.quiet_of_same ((hQ.reg_ask (below_drewN (Below.refl _ _)) q hlt2).mono fun e w' h => ⟨h.1, h.2.symm⟩)))
          go_wp2
          go_roundw
          case rel => exact ⟨q + 1, by go_num, by omega, hQ.keep (below_drewN (Below.refl _ _))⟩
          case measure => simp [intOf]; omega
        · have d3 : decide ((q : Int) < 16) = false := decide_eq_false (by omega)
          obtain ⟨mb, cap, hsl, hcl, hlen⟩ := hQ.mem_cell
          have hX : Below wr.heap.size wr wr := Below.refl _ _
          have ma : ∀ X, Below wr.heap.size wr X → _ := fun X hX => hQ.mem_ask hX at'
          by_cases c1 : 0 ≤ at' ∧ at' < (t.mem.length : Int)
          · obtain ⟨c1, c2⟩ := c1
            have hcell : wr.cell? ⟨mb, at'.toNat, none⟩ = some (.int .i64 (rd t.mem at')) := hcl at'.toNat (by omega)
            simp only [if_pos (And.intro c1 c2)] at ma
            have c1' : decide ((0 : Int) ≤ at') = true := decide_eq_true c1
            have c2' : decide (at' < (t.mem.length : Int)) = true := decide_eq_true c2
            clear hcl
            go_wp2_with (first | (go_at_call 21; refine (ma _ hX).mono ?_; rintro e v1 ⟨rfl, rfl⟩) | (go_at_call 23; refine (hQ.ask hX oL rfl rfl rfl rfl).mono ?_; rintro e v2 ⟨A11, c11, rfl, R1, hb1⟩; have hX1 := hX.trans (hb1.mono hX.size)) | (go_at_call 24; refine (hQ.rest hX1 hC1 oL rfl rfl rfl rfl).mono ?_; rintro e v3 ⟨A12, c12, rfl, ⟨B12, R2⟩, hQ3, fr, sz⟩; have R1' := own_kept R1 hX.size fr) | (go_at_call 22; refine (same_any (own_reads R1') (own_reads R2) (own_cap R1).1 (own_cap R2).1 (by omega) (by omega) rfl rfl rfl rfl).mono ?_; rintro e v4 ⟨rfl, hb4⟩))
            go_roundw
            case rel => exact ⟨k + 1, by go_num, by omega, by rw [← runN_one, HS.out, HT.out]; exact hQ3.keep hb4⟩
            case measure => simp [intOf]; omega
          · simp only [if_neg c1] at ma
            clear hcl
            by_cases c0 : 0 ≤ at'
            · have c1' : decide ((0 : Int) ≤ at') = true := decide_eq_true c0
              have c2' : decide (at' < (t.mem.length : Int)) = false := decide_eq_false (by omega)
              clear c1
              go_wp2_with (first | (go_at_call 21; refine (ma _ hX).mono ?_; rintro e v1 ⟨rfl, rfl⟩) | (go_at_call 23; refine (hQ.ask hX oL rfl rfl rfl rfl).mono ?_; rintro e v2 ⟨A11, c11, rfl, R1, hb1⟩; have hX1 := hX.trans (hb1.mono hX.size)) | (go_at_call 24; refine (hQ.rest hX1 hC1 oL rfl rfl rfl rfl).mono ?_; rintro e v3 ⟨A12, c12, rfl, ⟨B12, R2⟩, hQ3, fr, sz⟩; have R1' := own_kept R1 hX.size fr) | (go_at_call 22; refine (same_any (own_reads R1') (own_reads R2) (own_cap R1).1 (own_cap R2).1 (by omega) (by omega) rfl rfl rfl rfl).mono ?_; rintro e v4 ⟨rfl, hb4⟩))
              go_roundw
              case rel => exact ⟨k + 1, by go_num, by omega, by rw [← runN_one, HS.out, HT.out]; exact hQ3.keep hb4⟩
              case measure => simp [intOf]; omega
            · have c1' : decide ((0 : Int) ≤ at') = false := decide_eq_false c0
              clear c1
              go_wp2_with (first | (go_at_call 21; refine (ma _ hX).mono ?_; rintro e v1 ⟨rfl, rfl⟩) | (go_at_call 23; refine (hQ.ask hX oL rfl rfl rfl rfl).mono ?_; rintro e v2 ⟨A11, c11, rfl, R1, hb1⟩; have hX1 := hX.trans (hb1.mono hX.size)) | (go_at_call 24; refine (hQ.rest hX1 hC1 oL rfl rfl rfl rfl).mono ?_; rintro e v3 ⟨A12, c12, rfl, ⟨B12, R2⟩, hQ3, fr, sz⟩; have R1' := own_kept R1 hX.size fr) | (go_at_call 22; refine (same_any (own_reads R1') (own_reads R2) (own_cap R1).1 (own_cap R2).1 (by omega) (by omega) rfl rfl rfl rfl).mono ?_; rintro e v4 ⟨rfl, hb4⟩))
              go_roundw
              case rel => exact ⟨k + 1, by go_num, by omega, by rw [← runN_one, HS.out, HT.out]; exact hQ3.keep hb4⟩
              case measure => simp [intOf]; omega
    · obtain rfl : k = K := by omega
      by_cases d1 : (k : Int) < n
      · have d1' : decide ((k : Int) < n) = true := decide_eq_true d1
        have d2' : decide ((k : Int) < 300) = false := decide_eq_false (by omega)
        go_wp2
        obtain ⟨wo, rfl⟩ : ∃ wo : World, wo = wr := ⟨_, rfl⟩
        go_loopw [18] (fun j wr3 => ∃ q : Nat, j = .int .i64 (q : Int) ∧ q ≤ s.mem.length ∧ Below wo.heap.size wo wr3) (fun j _ => s.mem.length - (intOf j).toNat)
        case atStart => exact ⟨0, by go_num, Nat.zero_le _, Below.refl _ _⟩
        case round =>
          obtain ⟨q, rfl, hq, hX⟩ := hrel
          have hQ := hP.keep hX
          obtain ⟨mb, cap, hsl, hcl, hlen⟩ := hQ.mem_cell
          by_cases hlt2 : q < s.mem.length
          · have hcell := hcl q hlt2
            have d4 : (0 : Int) ≤ (q : Int) := by omega
            have d5 : (q : Int) < (s.mem.length : Int) := by omega
            clear hcl
            go_wp2
            go_quiet ((go_at_call 21; exact Calls.quiet_of_same ((hQ.mem_at (below_drewN (Below.refl _ _)) q hlt2).mono fun e w' h => ⟨h.1, h.2.symm⟩)))
            go_wp2
            go_roundw
            case rel => exact ⟨q + 1, by go_num, by omega, hX.trans ((below_drewN (Below.refl _ _)).mono hX.size)⟩
            case measure => simp [intOf]; omega
          · obtain rfl : q = s.mem.length := by omega
            clear hcl
            go_wp2_with (first | (go_at_call 20; refine (reg_out _ (by first | exact .inr (by decide) | exact .inl (by decide)) _).mono ?_; rintro e v1 ⟨rfl, rfl⟩) | (go_at_call 21; refine (hQ.mem_end (Below.refl _ _)).mono ?_; rintro e v2 ⟨rfl, rfl⟩) | (go_at_call 13; refine (awake_any _).mono ?_; rintro e v3 ⟨rfl, hb9⟩))
            go_ret
            exact ⟨rfl, bnext t1 (bnext hQ.below hb9)⟩
      · have d1' : decide ((k : Int) < n) = false := decide_eq_false d1
        go_wp2
        obtain ⟨wo, rfl⟩ : ∃ wo : World, wo = wr := ⟨_, rfl⟩
        go_loopw [18] (fun j wr3 => ∃ q : Nat, j = .int .i64 (q : Int) ∧ q ≤ s.mem.length ∧ Below wo.heap.size wo wr3) (fun j _ => s.mem.length - (intOf j).toNat)
        case atStart => exact ⟨0, by go_num, Nat.zero_le _, Below.refl _ _⟩
        case round =>
          obtain ⟨q, rfl, hq, hX⟩ := hrel
          have hQ := hP.keep hX
          obtain ⟨mb, cap, hsl, hcl, hlen⟩ := hQ.mem_cell
          by_cases hlt2 : q < s.mem.length
          · have hcell := hcl q hlt2
            have d4 : (0 : Int) ≤ (q : Int) := by omega
            have d5 : (q : Int) < (s.mem.length : Int) := by omega
            clear hcl
            go_wp2
            go_quiet ((go_at_call 21; exact Calls.quiet_of_same ((hQ.mem_at (below_drewN (Below.refl _ _)) q hlt2).mono fun e w' h => ⟨h.1, h.2.symm⟩)))
            go_wp2
            go_roundw
            case rel => exact ⟨q + 1, by go_num, by omega, hX.trans ((below_drewN (Below.refl _ _)).mono hX.size)⟩
            case measure => simp [intOf]; omega
          · obtain rfl : q = s.mem.length := by omega
            clear hcl
            go_wp2_with (first | (go_at_call 20; refine (reg_out _ (by first | exact .inr (by decide) | exact .inl (by decide)) _).mono ?_; rintro e v1 ⟨rfl, rfl⟩) | (go_at_call 21; refine (hQ.mem_end (Below.refl _ _)).mono ?_; rintro e v2 ⟨rfl, rfl⟩) | (go_at_call 13; refine (awake_any _).mono ?_; rintro e v3 ⟨rfl, hb9⟩))
            go_ret
            exact ⟨rfl, bnext t1 (bnext hQ.below hb9)⟩
end Go.Proofs.Ytbchiolgbhckhaa.Mach

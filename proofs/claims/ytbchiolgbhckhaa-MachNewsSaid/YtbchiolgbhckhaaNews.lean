/- Which machines can be made is the document's: the walk. -/
import Derived.Test.YtbchiolgbhckhaaRefMade
set_option linter.unusedVariables false
set_option linter.unusedSimpArgs false
namespace Go.Proofs.Ytbchiolgbhckhaa.Mach
open Go.RowKit Go.Proofs.YtbchiolgbhckhaaW.PrintWords Go.Proofs.YtbchiolgbhckhaaW.PrintMore Go.Proofs.Ytbchiolgbhckhaa.PMachRuns
theorem of_drew {w w' : World} (h : Below w.drew.heap.size w.drew w') : Below w.heap.size w w' := ((Below.refl _ _).drew).trans (h.mono (Nat.le_refl _))
section
variable {P : Program} {ops : Array Oper} {Q : Exit → Act → World → Prop} {S : World → Prop} {T : Act → World → Prop} {i : Nat} {r : Way} {a : Act} {w : World} {o : Oper}
theorem tree_turn_g (ho : ops[i]? = some o) (hw : Region.wanted o (yielded ops a.tmps) = true)
    (h : ∀ K : Act → World → Prop, (∀ a w, S w → (S w → wpTree P ops Q S T r a w) → K a w) → o.wp P a w K Q) : wpTree P ops Q S T (.turn i r) a w := by
  unfold wpTree
  refine wpOp_step ho (fun K hK => ?_)
  rw [if_pos hw]
  exact h K fun a w hS hW => hK a w ⟨hS, hW⟩
theorem tree_skip (ho : ops[i]? = some o) (hw : Region.wanted o (yielded ops a.tmps) = false) (hQ : ∀ c a w, Q (.panic c) (a.put o.dst undef) w → Q (.panic c) a w)
    (h : wpTree P ops Q S T r (a.put o.dst undef) w) : wpTree P ops Q S T (.read i r) a w := ⟨o, undef, ho, hQ, .inr ⟨hw, rfl⟩, h⟩
end
theorem reg_at {w w1 : World} {L : Lay} {s : MS} {m : Nat} {v i : Int} (a : Nat) (h : Holds w L s) (hb : Below w.heap.size w w1) (ha : a < 16) (hi : i = (a : Int)) (hm : L.m = m) (hv : s.reg a = v) :
    Calls Try.prog 20 #[.pointer (some ⟨m, 0, none⟩), .int .i64 i] w1 fun e w' => e = .returned (.int .i64 v) ∧ w1 = w' := by
  subst hi hm hv
  exact reg_some (h.below hb) a ha
theorem tsk {P : Program} {ops : Array Oper} {Q : Exit → Act → World → Prop} {S : World → Prop} {T : Act → World → Prop} {i : Nat} {r : Way} {a : Act} {w : World} {o : Oper} (d : Option Nat) (ho : ops[i]? = some o) (hd : o.dst = d) (hw : Region.wanted o (yielded ops a.tmps) = false) (hQ : ∀ c a w, Q (.panic c) (a.put d undef) w → Q (.panic c) a w)
    (h : wpTree P ops Q S T r (a.put d undef) w) : wpTree P ops Q S T (.read i r) a w := by
  subst hd; exact tree_skip ho hw hQ h
attribute [local irreducible] wpTree Region.wanted yielded
set_option maxRecDepth 100000 in
set_option maxHeartbeats 4000000 in
theorem machNews_walk {A1 A2 A3 : Option Addr} {n1 c1 n2 c2 n3 c3 : Nat} {en : Int} {code data inp : List Int} (w : World) (him : Image w A1 n1 c1 A2 n2 c2 code data) (mem : Int) (hin : Input w A3 n3 c3 inp) (l1 : n1 ≤ c1) (l2 : n2 ≤ c2) (m1 : c1 ≤ maxLen) (m2 : c2 ≤ maxLen) (hmw : (Lit.int .i64 mem).wf = true) (l3 : n3 ≤ c3) (m3 : c3 ≤ maxLen) :
    Calls Try.prog 11 #[.agg #[.slice A1 n1 c1, .slice A2 n2 c2, .int .i64 en], .int .i64 mem, .slice A3 n3 c3] w fun e w' => e = .returned (.bool true) ∧ Below w.heap.size w w' := by
  clear hmw
  have im : ∀ X, Below w.heap.size w X → Image X A1 n1 c1 A2 n2 c2 code data := fun X h => him.below h
  have inn : ∀ X, Below w.heap.size w X → Input X A3 n3 c3 inp := fun X h => hin.below h
  have hb0 := alloc_below w (.cells #[.slice A1 n1 c1, .slice A2 n2 c2, .int .i64 en] 24)
  by_cases h10 : (10000 : Int) < n3
  · have hd : decide ((10000 : Int) < n3) = true := decide_eq_true h10
    clear him hin
    go_enter Try.func11, Try.ntmps11
    go_wp2_with (go_at_call 13; refine (awake_any _).mono ?_; rintro e w2 ⟨rfl, hb2⟩)
    go_ret
    exact ⟨rfl, bnext hb0 hb2⟩
  have hd : decide ((10000 : Int) < n3) = false := decide_eq_false h10
  by_cases he : newErr n1 n2 n3 en mem = 0
  · obtain ⟨f1, f2, f3, f4, f5, f6, f7, f8⟩ := newErr_ok he
    obtain ⟨M, rfl⟩ : ∃ M : Nat, mem = (M : Int) := ⟨mem.toNat, by omega⟩
    have hn : ∀ X, Below w.heap.size w X → _ := fun X hX => new_good (im X hX) (inn X hX) he
    have hn2 : ∀ X, Below w.heap.size w X → Calls Try.prog 15 #[.agg #[.slice A1 n1 c1, .slice A2 n2 c2, .int .i64 en], .int .i64 (M : Int), .slice A3 n3 c3] X (RNewOk X code data inp n1 n3 M en) := fun X hX => by
      have := rnew_good (im X hX) (inn X hX) he
      rwa [Int.toNat_natCast] at this
    clear him hin he h10
    go_enter Try.func11, Try.ntmps11
    go_upto_region 5 with (first | (go_at_call 14; refine (hn _ hb0).mono ?_; rintro e w2 ⟨L, rfl, hH, hb2, hft⟩; rw [Int.toNat_natCast] at hH; have t2 := bnext hb0 hb2; obtain ⟨e1, e2, e3, e4⟩ := img_kept hb2) | (go_at_call 15; refine (hn2 _ t2).mono ?_; rintro e w3 ⟨cb, cc, mb, ib, ic, rfl, hb3, _⟩; have t3 := bnext t2 hb3) | (refine wpList_store_over (o := ⟨none, .store 36 (.tmp 9) (.tmp 27), _, _, _, _⟩) rfl 36 (.tmp 9) (.tmp 27) rfl w3.heap.size (VS cb n1 cc mb M en ib n3 ic (.int .i64 (M : Int))) rfl rfl 36 ZS (heap_alloc_new w3 _) size36 rfl (VS_one _ _ _ _ _ _ _ _ _ _) (fun w4 hS => ?_)))
    have hS4 := hS.size
    simp only [World.size_alloc] at hS4
    have hb4 : Below w3.heap.size w3 w4 := ⟨hS.os, hS.tape, hS.output, by omega, fun k hk => (hS.block k (by omega)).trans (Below.heap_alloc _ _ _ hk)⟩
    have t4 := bnext t3 hb4
    have hbX := bnext hb3 hb4
    have tb4 := bnext hb2 hbX
    clear hS e1 e2 e3 e4
    go_wp2_with (go_at_call 16; refine (num_any _ _).mono ?_; rintro e w7 ⟨rfl, rfl⟩)
    refine region_tree2 (fun W w' => Below W.heap.size W w') (.read 0 (.read 1 (.read 2 (.read 3 (.read 5 (.read 6 (.turn 4 (.read 7 (.read 8 (.read 9 (.read 11 (.turn 10 (.read 12 (.read 13 (.read 14 (.read 15 (.turn 16 (.read 17 (.read 18 (.read 19 (.read 20 (.turn 21 (.read 22 (.read 23 (.read 24 (.read 25 (.read 26 (.turn 27 .done)))))))))))))))))))))))))))) 28
      (fun a W a' w' => Below W.heap.size W w' ∧ ∃ vA vn vc, a' = ((((((((((((((((((((((((((((a.put (some 40) (.pointer (some ⟨L.m, 0, none⟩))).put (some 41) (.bool false)).put (some 42) (.bool false)).put (some 43) (.pointer (some ⟨L.m, 0, none⟩))).put (some 45) (.pointer (some ⟨w.heap.size, 2, none⟩))).put (some 46) (.int .i64 en)).put (some 44) (.int .i64 en)).put (some 47) (.bool true)).put (some 48) (.bool true)).put (some 49) (.pointer (some ⟨L.m, 0, none⟩))).put (some 51) (.int .i64 (M : Int))).put (some 50) (.int .i64 (M : Int))).put (some 52) (.bool true)).put (some 53) (.bool true)).put (some 54) (.bool true)).put (some 55) (.pointer (some ⟨L.m, 0, none⟩))).put (some 56) (.int .i64 0)).put (some 57) (.bool true)).put (some 58) (.bool true)).put (some 59) (.bool true)).put (some 60) (.pointer (some ⟨L.m, 0, none⟩))).put (some 61) (.agg #[.int .i64 0, .int .i64 0, .slice vA vn vc, .int .i64 0])).put (some 62) (.int .i64 0)).put (some 63) (.bool true)).put (some 64) (.bool true)).put (some 65) (.bool true)).put (some 66) (.bool true)).put (some 67) (.bool true))) mixed (by kernel_rfl) (Below.refl _ _) ?_ ?_
    refine tree_read (some 40) (.pointer (some ⟨L.m, 0, none⟩)) rfl rfl (fun _ _ _ h => h) (by kernel_rfl) ?y0 ?_
    case y0 => intro w' hS; go_simp <;> first | rfl | simp
    refine tree_read (some 41) (.bool false) rfl rfl (fun _ _ _ h => h) (by kernel_rfl) ?y1 ?_
    case y1 => intro w' hS; go_simp <;> first | rfl | simp
    refine tree_read (some 42) (.bool false) rfl rfl (fun _ _ _ h => h) (by kernel_rfl) ?y2 ?_
    case y2 => intro w' hS; go_simp <;> first | rfl | simp
    refine tree_read (some 43) (.pointer (some ⟨L.m, 0, none⟩)) rfl rfl (fun _ _ _ h => h) (by kernel_rfl) ?y3 ?_
    case y3 => intro w' hS; go_simp <;> first | rfl | simp
    refine tree_read (some 45) (.pointer (some ⟨w.heap.size, 2, none⟩)) rfl rfl (fun _ _ _ h => h) (by kernel_rfl) ?y5 ?_
    case y5 => intro w' hS; go_simp <;> first | rfl | simp
    refine tree_read (some 46) (.int .i64 en) rfl rfl (fun _ _ _ h => h) (by kernel_rfl) ?y6 ?_
    case y6 => intro w' hS; obtain ⟨e1, e2, e3, e4⟩ := img_kept (bnext tb4 (of_drew hS)); go_simp <;> first | rfl | simp
    refine tree_turn_g rfl (by kernel_rfl) (fun K hK => ?_)
    go_simp
    refine (pc_some (hH.below (hbX.drew))).mono ?_
    rintro e w8 ⟨rfl, rfl⟩
    go_simp
    refine hK _ _ (Below.refl _ _) fun _ => ?_
    clear hK K
    refine tree_read (some 47) (.bool true) rfl rfl (fun _ _ _ h => h) (by kernel_rfl) ?y7 ?_
    case y7 => intro w' hS; go_simp <;> first | rfl | simp
    refine tree_read (some 48) (.bool true) rfl rfl (fun _ _ _ h => h) (by kernel_rfl) ?y8 ?_
    case y8 => intro w' hS; go_simp <;> first | rfl | simp
    refine tree_read (some 49) (.pointer (some ⟨L.m, 0, none⟩)) rfl rfl (fun _ _ _ h => h) (by kernel_rfl) ?y9 ?_
    case y9 => intro w' hS; go_simp <;> first | rfl | simp
    refine tree_read (some 51) (.int .i64 (M : Int)) rfl rfl (fun _ _ _ h => h) (by kernel_rfl) ?y11 ?_
    case y11 => intro w' hS; go_simp <;> first | rfl | simp
    refine tree_turn_g rfl (by kernel_rfl) (fun K hK => ?_)
    go_simp
    refine (reg_at 15 hH (hbX.drew) (by decide) rfl rfl rfl).mono ?_
    rintro e w8 ⟨rfl, rfl⟩
    go_simp
    refine hK _ _ (Below.refl _ _) fun _ => ?_
    clear hK K
    refine tree_read (some 52) (.bool true) rfl rfl (fun _ _ _ h => h) (by kernel_rfl) ?y12 ?_
    case y12 => intro w' hS; go_simp <;> first | rfl | simp
    refine tree_read (some 53) (.bool true) rfl rfl (fun _ _ _ h => h) (by kernel_rfl) ?y13 ?_
    case y13 => intro w' hS; go_simp <;> first | rfl | simp
    refine tree_read (some 54) (.bool true) rfl rfl (fun _ _ _ h => h) (by kernel_rfl) ?y14 ?_
    case y14 => intro w' hS; go_simp <;> first | rfl | simp
    refine tree_read (some 55) (.pointer (some ⟨L.m, 0, none⟩)) rfl rfl (fun _ _ _ h => h) (by kernel_rfl) ?y15 ?_
    case y15 => intro w' hS; go_simp <;> first | rfl | simp
    refine tree_turn_g rfl (by kernel_rfl) (fun K hK => ?_)
    go_simp
    refine (reg_at 0 hH (hbX.drew) (by decide) rfl rfl rfl).mono ?_
    rintro e w8 ⟨rfl, rfl⟩
    go_simp
    refine hK _ _ (Below.refl _ _) fun _ => ?_
    clear hK K
    refine tree_read (some 57) (.bool true) rfl rfl (fun _ _ _ h => h) (by kernel_rfl) ?y17 ?_
    case y17 => intro w' hS; go_simp <;> first | rfl | simp
    refine tree_read (some 58) (.bool true) rfl rfl (fun _ _ _ h => h) (by kernel_rfl) ?y18 ?_
    case y18 => intro w' hS; go_simp <;> first | rfl | simp
    refine tree_read (some 59) (.bool true) rfl rfl (fun _ _ _ h => h) (by kernel_rfl) ?y19 ?_
    case y19 => intro w' hS; go_simp <;> first | rfl | simp
    refine tree_read (some 60) (.pointer (some ⟨L.m, 0, none⟩)) rfl rfl (fun _ _ _ h => h) (by kernel_rfl) ?y20 ?_
    case y20 => intro w' hS; go_simp <;> first | rfl | simp
    refine tree_turn_g rfl (by kernel_rfl) (fun K hK => ?_)
    go_simp
    refine (outcome_any (hH.below (hbX.drew)) (Nat.zero_le _)).mono ?_
    rintro e w8 ⟨v8, rfl, ho8, hb8⟩
    obtain ⟨A8, c8, rfl⟩ := own_slice ho8
    go_simp
    refine hK _ _ hb8 (fun _ => ?_)
    clear hK K
    refine tree_read (some 62) (.int .i64 0) rfl rfl (fun _ _ _ h => h) (by kernel_rfl) ?y22 ?_
    case y22 => intro w' hS; go_simp <;> first | rfl | simp
    refine tree_read (some 63) (.bool true) rfl rfl (fun _ _ _ h => h) (by kernel_rfl) ?y23 ?_
    case y23 => intro w' hS; go_simp <;> first | rfl | simp
    refine tree_read (some 64) (.bool true) rfl rfl (fun _ _ _ h => h) (by kernel_rfl) ?y24 ?_
    case y24 => intro w' hS; go_simp <;> first | rfl | simp
    refine tree_read (some 65) (.bool true) rfl rfl (fun _ _ _ h => h) (by kernel_rfl) ?y25 ?_
    case y25 => intro w' hS; go_simp <;> first | rfl | simp
    refine tree_read (some 66) (.bool true) rfl rfl (fun _ _ _ h => h) (by kernel_rfl) ?y26 ?_
    case y26 => intro w' hS; go_simp <;> first | rfl | simp
    refine tree_turn_g rfl (by kernel_rfl) (fun K hK => ?_)
    go_simp
    refine (awake_any _).mono ?_
    rintro e wz ⟨rfl, hbw⟩
    go_simp
    have hbz := hb8.trans (hbw.mono hb8.size)
    refine hK _ _ hbz (fun _ => ?_)
    clear hK K
    exact tree_done ⟨hbz, A8, (fresh code data inp en M).out.length, c8, by kernel_rfl⟩
    rintro a' w6 ⟨hb6, vA, vn, vc, rfl⟩
    simp only [List.drop_succ_cons, List.drop_zero]
    go_simp
    go_wp2
    go_ret
    exact ⟨rfl, bnext t4 (of_drew hb6)⟩
  · have hn : ∀ X : World, Calls Try.prog 14 #[.agg #[.slice A1 n1 c1, .slice A2 n2 c2, .int .i64 en], .int .i64 mem, .slice A3 n3 c3] X _ := fun X => new_bad X rfl he
    have hn2 : ∀ X : World, Calls Try.prog 15 #[.agg #[.slice A1 n1 c1, .slice A2 n2 c2, .int .i64 en], .int .i64 mem, .slice A3 n3 c3] X _ := fun X => rnew_bad X rfl he
    have hz : (newErr n1 n2 n3 en mem != 0) = true := by simpa using he
    have hz2 : (newErr n1 n2 n3 en mem == 0) = false := by simpa using he
    have hz3 : (newErr n1 n2 n3 en mem != newErr n1 n2 n3 en mem) = false := by simp
    generalize newErr n1 n2 n3 en mem = er at hn hn2 hz hz2 hz3
    clear he h10 him hin
    go_enter Try.func11, Try.ntmps11
    go_upto_region 5 with (first | (go_at_call 14; refine (hn _).mono ?_; rintro e w2 ⟨rfl, hb2⟩; have t2 := bnext hb0 hb2; obtain ⟨e1, e2, e3, e4⟩ := img_kept hb2) | (go_at_call 15; refine (hn2 _).mono ?_; rintro e w3 ⟨rfl, hb3⟩; have t3 := bnext t2 hb3) | (refine wpList_store_over (o := ⟨none, .store 36 (.tmp 9) (.tmp 27), _, _, _, _⟩) rfl 36 (.tmp 9) (.tmp 27) rfl w3.heap.size ZS rfl rfl 36 ZS (heap_alloc_new w3 _) size36 rfl ZS_one (fun w4 hS => ?_)))
    have hS4 := hS.size
    simp only [World.size_alloc] at hS4
    have hb4 : Below w3.heap.size w3 w4 := ⟨hS.os, hS.tape, hS.output, by omega, fun k hk => (hS.block k (by omega)).trans (Below.heap_alloc _ _ _ hk)⟩
    have t4 := bnext t3 hb4
    clear hS e1 e2 e3 e4
    go_wp2_with (go_at_call 16; refine (num_any _ _).mono ?_; rintro e w7 ⟨rfl, rfl⟩)
    refine region_tree2 (fun W w' => Below W.heap.size W w') (.read 0 (.read 1 (.read 2 (.read 3 (.read 5 (.read 6 (.read 4 (.read 7 (.read 8 (.read 9 (.read 11 (.read 10 (.read 12 (.read 13 (.read 14 (.read 15 (.read 16 (.read 17 (.read 18 (.read 19 (.read 20 (.read 21 (.read 22 (.read 23 (.read 24 (.read 25 (.read 26 (.turn 27 .done)))))))))))))))))))))))))))) 28
      (fun a W a' w' => Below W.heap.size W w' ∧ a' = ((((((((((((((((((((((((((((a.put (some 40) (.pointer none)).put (some 41) (.bool true)).put (some 42) (.bool true)).put (some 43) (undef)).put (some 45) (undef)).put (some 46) (undef)).put (some 44) (undef)).put (some 47) (undef)).put (some 48) (undef)).put (some 49) (undef)).put (some 51) (undef)).put (some 50) (undef)).put (some 52) (undef)).put (some 53) (undef)).put (some 54) (undef)).put (some 55) (undef)).put (some 56) (undef)).put (some 57) (undef)).put (some 58) (undef)).put (some 59) (undef)).put (some 60) (undef)).put (some 61) (undef)).put (some 62) (undef)).put (some 63) (undef)).put (some 64) (undef)).put (some 65) (.bool true)).put (some 66) (.bool true)).put (some 67) (.bool true))) mixed (by kernel_rfl) (Below.refl _ _) ?_ ?_
    refine tree_read (some 40) (.pointer none) rfl rfl (fun _ _ _ h => h) (by kernel_rfl) ?yn0 ?_
    case yn0 => intro w' hS; go_simp <;> first | rfl | simp
    refine tree_read (some 41) (.bool true) rfl rfl (fun _ _ _ h => h) (by kernel_rfl) ?yn1 ?_
    case yn1 => intro w' hS; go_simp <;> first | rfl | simp
    refine tree_read (some 42) (.bool true) rfl rfl (fun _ _ _ h => h) (by kernel_rfl) ?yn2 ?_
    case yn2 => intro w' hS; go_simp <;> first | rfl | simp
    refine tsk (some 43) rfl rfl (by kernel_rfl) (fun _ _ _ h => h) ?_
    refine tsk (some 45) rfl rfl (by kernel_rfl) (fun _ _ _ h => h) ?_
    refine tsk (some 46) rfl rfl (by kernel_rfl) (fun _ _ _ h => h) ?_
    refine tsk (some 44) rfl rfl (by kernel_rfl) (fun _ _ _ h => h) ?_
    refine tsk (some 47) rfl rfl (by kernel_rfl) (fun _ _ _ h => h) ?_
    refine tsk (some 48) rfl rfl (by kernel_rfl) (fun _ _ _ h => h) ?_
    refine tsk (some 49) rfl rfl (by kernel_rfl) (fun _ _ _ h => h) ?_
    refine tsk (some 51) rfl rfl (by kernel_rfl) (fun _ _ _ h => h) ?_
    refine tsk (some 50) rfl rfl (by kernel_rfl) (fun _ _ _ h => h) ?_
    refine tsk (some 52) rfl rfl (by kernel_rfl) (fun _ _ _ h => h) ?_
    refine tsk (some 53) rfl rfl (by kernel_rfl) (fun _ _ _ h => h) ?_
    refine tsk (some 54) rfl rfl (by kernel_rfl) (fun _ _ _ h => h) ?_
    refine tsk (some 55) rfl rfl (by kernel_rfl) (fun _ _ _ h => h) ?_
    refine tsk (some 56) rfl rfl (by kernel_rfl) (fun _ _ _ h => h) ?_
    refine tsk (some 57) rfl rfl (by kernel_rfl) (fun _ _ _ h => h) ?_
    refine tsk (some 58) rfl rfl (by kernel_rfl) (fun _ _ _ h => h) ?_
    refine tsk (some 59) rfl rfl (by kernel_rfl) (fun _ _ _ h => h) ?_
    refine tsk (some 60) rfl rfl (by kernel_rfl) (fun _ _ _ h => h) ?_
    refine tsk (some 61) rfl rfl (by kernel_rfl) (fun _ _ _ h => h) ?_
    refine tsk (some 62) rfl rfl (by kernel_rfl) (fun _ _ _ h => h) ?_
    refine tsk (some 63) rfl rfl (by kernel_rfl) (fun _ _ _ h => h) ?_
    refine tsk (some 64) rfl rfl (by kernel_rfl) (fun _ _ _ h => h) ?_
    refine tree_read (some 65) (.bool true) rfl rfl (fun _ _ _ h => h) (by kernel_rfl) ?yn25 ?_
    case yn25 => intro w' hS; go_simp <;> first | rfl | simp
    refine tree_read (some 66) (.bool true) rfl rfl (fun _ _ _ h => h) (by kernel_rfl) ?yn26 ?_
    case yn26 => intro w' hS; go_simp <;> first | rfl | simp
    refine tree_turn_g rfl (by kernel_rfl) (fun K hK => ?_)
    go_simp
    refine (awake_any _).mono ?_
    rintro e wz ⟨rfl, hbz⟩
    go_simp
    refine hK _ _ hbz (fun _ => ?_)
    clear hK K
    exact tree_done ⟨hbz, by kernel_rfl⟩
    rintro a' w6 ⟨hb6, rfl⟩
    simp only [List.drop_succ_cons, List.drop_zero]
    go_simp
    go_wp2
    go_ret
    exact ⟨rfl, bnext t4 (of_drew hb6)⟩
end Go.Proofs.Ytbchiolgbhckhaa.Mach

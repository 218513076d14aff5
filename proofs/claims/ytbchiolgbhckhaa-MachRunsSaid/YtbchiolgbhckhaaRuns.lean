/- Any image with any memory, input and steps ends as the document says: the walk. -/
import Derived.Test.YtbchiolgbhckhaaRefWhole
set_option linter.unusedVariables false
set_option linter.unusedSimpArgs false
namespace Go.Proofs.Ytbchiolgbhckhaa.Mach
open Go.RowKit Go.Proofs.YtbchiolgbhckhaaW.PrintWords Go.Proofs.YtbchiolgbhckhaaW.PrintMore Go.Proofs.Ytbchiolgbhckhaa.PMachRuns
section
variable {P : Program} {ops : Array Oper} {Q : Exit → Act → World → Prop} {S : World → Prop} {T : Act → World → Prop} {i : Nat} {r : Way} {a : Act} {w : World} {o : Oper}
/-- A guarded operation that turns the world, its guard being met. -/
theorem tree_turn_g (ho : ops[i]? = some o) (hw : Region.wanted o (yielded ops a.tmps) = true)
    (h : ∀ K : Act → World → Prop, (∀ a w, S w → (S w → wpTree P ops Q S T r a w) → K a w) → o.wp P a w K Q) : wpTree P ops Q S T (.turn i r) a w := by
  unfold wpTree
  refine wpOp_step ho (fun K hK => ?_)
  rw [if_pos hw]
  exact h K fun a w hS hW => hK a w ⟨hS, hW⟩
end
theorem of_drew {w w' : World} (h : Below w.drew.heap.size w.drew w') : Below w.heap.size w w' := ((Below.refl _ _).drew).trans (h.mono (Nat.le_refl _))
/-- A whole run of the document's machine, its end told in parts. -/
theorem rwhole_lit {A1 A2 A3 : Option Addr} {n1 c1 n2 c2 n3 c3 : Nat} {en mem : Int} {code data inp : List Int} {w : World} (him : Image w A1 n1 c1 A2 n2 c2 code data) (hin : Input w A3 n3 c3 inp) (fuel : Int) (hfu : fuel ≤ 9223372036854775807)
    {k p st : Int} {o : List Int} (hk : (whole n1 n2 n3 en mem code data inp fuel).kind = k) (hp : (whole n1 n2 n3 en mem code data inp fuel).panics = p) (ho : (whole n1 n2 n3 en mem code data inp fuel).out = o) (hs : (whole n1 n2 n3 en mem code data inp fuel).steps = st) :
    Calls Try.prog 28 #[.agg #[.slice A1 n1 c1, .slice A2 n2 c2, .int .i64 en], .int .i64 mem, .slice A3 n3 c3, .int .i64 fuel] w fun e w' =>
      ∃ A n c, e = .returned (.agg #[.int .i64 k, .int .i64 p, .slice A n c, .int .i64 st]) ∧ (∃ B, w'.ownsRow B 5 1 (.slice A n c) n (nums .u8 o) ∧ w.heap.size ≤ B) ∧ n ≤ c ∧ c ≤ maxLen ∧ n ≤ 4096 ∧ Below w.heap.size w w' := by
  refine (rwhole_any him hin fuel hfu).mono ?_
  rintro e w' ⟨B, ⟨v, rfl, hv⟩, hB, hb⟩
  have hoi := (whole_outin n1 n2 n3 en mem code data inp fuel).1
  rw [hk, hp, hs]
  rw [ho] at hv hoi
  obtain ⟨A, c, rfl⟩ := own_slice hv
  exact ⟨A, _, c, rfl, ⟨B, hv, hB⟩, (own_cap hv).1, (own_cap hv).2, hoi, hb⟩
set_option maxRecDepth 100000 in
set_option maxHeartbeats 2000000 in
theorem machRuns_walk {A1 A2 A3 : Option Addr} {n1 c1 n2 c2 n3 c3 : Nat} {en : Int} {code data inp : List Int} (w : World) (him : Image w A1 n1 c1 A2 n2 c2 code data) (mem : Int) (hin : Input w A3 n3 c3 inp) (fuel : Int) (l1 : n1 ≤ c1) (l2 : n2 ≤ c2) (m1 : c1 ≤ maxLen) (m2 : c2 ≤ maxLen) (hmw : (Lit.int .i64 mem).wf = true) (l3 : n3 ≤ c3) (m3 : c3 ≤ maxLen) (hfw : (Lit.int .i64 fuel).wf = true) :
    Calls Try.prog 7 #[.agg #[.slice A1 n1 c1, .slice A2 n2 c2, .int .i64 en], .int .i64 mem, .slice A3 n3 c3, .int .i64 fuel] w fun e w' => e = .returned (.bool true) ∧ Below w.heap.size w w' := by
  have hfu := (Num.wf_i64 hfw).2
  clear hmw hfw
  have im : ∀ X, Below w.heap.size w X → Image X A1 n1 c1 A2 n2 c2 code data := fun X h => him.below h
  have inn : ∀ X, Below w.heap.size w X → Input X A3 n3 c3 inp := fun X h => hin.below h
  have hb0 := alloc_below w (.cells #[.slice A1 n1 c1, .slice A2 n2 c2, .int .i64 en] 24)
  by_cases hh : (n1 : Int) > 2000 ∨ (n2 : Int) > 2000 ∨ mem > 5000 ∨ (n3 : Int) > 100 ∨ fuel > 3000
  · have hv := heavy_any (en := en) (mem := mem) (fuel := fuel) (im _ hb0) (inn _ hb0) l1 l2 l3 m1 m2 m3 true (by rw [decide_eq_true hh])
    clear hh him hin
    go_enter Try.func7, Try.ntmps7
    go_wp2_with (first | (go_at_call 12; refine hv.mono ?_; rintro e w1 ⟨rfl, hb1⟩) | (go_at_call 13; refine (awake_any _).mono ?_; rintro e w2 ⟨rfl, hb2⟩))
    go_ret
    exact ⟨rfl, bnext hb0 (bnext hb1 hb2)⟩
  · have hv := heavy_any (en := en) (mem := mem) (fuel := fuel) (im _ hb0) (inn _ hb0) l1 l2 l3 m1 m2 m3 false (by rw [decide_eq_false hh])
    clear hh him hin
    obtain ⟨k1, hk1⟩ : ∃ k, (whole n1 n2 n3 en mem code data inp fuel).kind = k := ⟨_, rfl⟩
    obtain ⟨p1, hp1⟩ : ∃ k, (whole n1 n2 n3 en mem code data inp fuel).panics = k := ⟨_, rfl⟩
    obtain ⟨s1, hs1⟩ : ∃ k, (whole n1 n2 n3 en mem code data inp fuel).steps = k := ⟨_, rfl⟩
    obtain ⟨o1, ho1⟩ : ∃ k, (whole n1 n2 n3 en mem code data inp fuel).out = k := ⟨_, rfl⟩
    have r1 : ∀ X, Below w.heap.size w X → _ := fun X h => mrun_lit (im X h) (inn X h) fuel hfu hk1 hp1 ho1 hs1
    have r2 : ∀ X, Below w.heap.size w X → _ := fun X h => rwhole_lit (im X h) (inn X h) fuel hfu hk1 hp1 ho1 hs1
    clear hfu hk1 hp1 ho1 hs1
    go_enter Try.func7, Try.ntmps7
    go_wp2_with (first | (go_at_call 12; refine hv.mono ?_; rintro e w1 ⟨rfl, hb1⟩; have t1 := bnext hb0 hb1; obtain ⟨e1, e2, e3, e4⟩ := img_kept hb1))
    refine (r1 _ t1).mono ?_
    rintro e w2 ⟨B1, j1, d1, rfl, ⟨u1, R1, _⟩, x1, y1, z1, hb2⟩
    have t2 := bnext t1 hb2
    have t3 := bnext t2 (alloc_below w2 (.cells #[.int .i64 k1, .int .i64 p1, .slice B1 j1 d1, .int .i64 s1] 34))
    have tb3 := bnext (bnext hb1 hb2) (alloc_below w2 (.cells #[.int .i64 k1, .int .i64 p1, .slice B1 j1 d1, .int .i64 s1] 34))
    clear e1 e2 e3 e4
    go_wp2_with (fail)
    refine region_tree2 (fun W w' => Below W.heap.size W w') (.read 0 (.read 1 (.read 2 (.read 3 (.read 4 (.turn 5 (.turn 6 (.read 7 (.turn 8 .done))))))))) 9
      (fun a W a' w' => Below W.heap.size W w' ∧ ∃ x, a' = (((((((((a.put (some 21) (.agg #[.int .i64 k1, .int .i64 p1, .slice B1 j1 d1, .int .i64 s1])).put (some 22) (.agg #[.slice A1 n1 c1, .slice A2 n2 c2, .int .i64 en])).put (some 23) (.int .i64 mem)).put (some 24) (.slice A3 n3 c3)).put (some 25) (.int .i64 fuel)).put (some 26) x).put (some 27) (.bool true)).put (some 28) (.bool true)).put (some 29) (.bool true))) mixed (by kernel_rfl) (Below.refl _ _) ?_ ?_
    refine tree_read (some 21) ?v0 rfl rfl (fun _ _ _ h => h) rfl ?y0 ?_
    case y0 => intro w' hS; obtain ⟨e1, e2, e3, e4, e5⟩ := out_kept (X := w') (w := w2) (v0 := .int .i64 k1) (v1 := .int .i64 p1) (v2 := .slice B1 j1 d1) (v3 := .int .i64 s1) (t := 34) (of_drew hS); go_simp; try rfl
    refine tree_read (some 22) ?v1 rfl rfl (fun _ _ _ h => h) rfl ?y1 ?_
    case y1 => intro w' hS; obtain ⟨e1, e2, e3, e4⟩ := img_kept (bnext tb3 (of_drew hS)); go_simp; try rfl
    refine tree_read (some 23) ?v2 rfl rfl (fun _ _ _ h => h) rfl ?y2 ?_
    case y2 => intro w' hS; go_simp; try rfl
    refine tree_read (some 24) ?v3 rfl rfl (fun _ _ _ h => h) rfl ?y3 ?_
    case y3 => intro w' hS; go_simp; try rfl
    refine tree_read (some 25) ?v4 rfl rfl (fun _ _ _ h => h) rfl ?y4 ?_
    case y4 => intro w' hS; go_simp; try rfl
    refine tree_turn rfl rfl (fun K hK => ?_)
    go_simp
    refine (r2 _ t3.drew).mono ?_
    rintro e w3 ⟨B2, j2, d2, rfl, ⟨u2, R2, _⟩, x2, y2, z2, hb3⟩
    have hb3' := hb3
    go_simp
    refine hK _ _ hb3 (fun _ => ?_)
    clear hK K
    refine tree_turn rfl rfl (fun K hK => ?_)
    go_simp
    have R1' := own_reads (own_below R1 (bnext (alloc_below w2 (.cells #[.int .i64 k1, .int .i64 p1, .slice B1 j1 d1, .int .i64 s1] 34)) (of_drew hb3')))
    refine (same_any R1' (own_reads R2) x1 x2 (by omega) (by omega) rfl rfl rfl rfl).mono ?_
    rintro e w4 ⟨rfl, hb4⟩
    go_simp
    refine hK _ _ (hb3'.trans (hb4.mono hb3'.size)) (fun _ => ?_)
    clear hK K
    refine tree_read (some 28) ?v7 rfl rfl (fun _ _ _ h => h) rfl ?y7 ?_
    case y7 => intro w' hS; go_simp; try rfl
    refine tree_turn_g rfl (by kernel_rfl) (fun K hK => ?_)
    go_simp
    refine (awake_any _).mono ?_
    rintro e w5 ⟨rfl, hb5⟩
    go_simp
    have hb35 := hb3'.trans (Below.mono (bnext hb4 hb5) hb3'.size)
    refine hK _ _ hb35 (fun _ => ?_)
    clear hK K
    exact tree_done ⟨hb35, .agg #[.int .i64 k1, .int .i64 p1, .slice B2 j2 d2, .int .i64 s1], by kernel_rfl⟩
    rintro a' w6 ⟨hb6, x, rfl⟩
    simp only [List.drop_succ_cons, List.drop_zero]
    go_simp
    go_wp2
    go_ret
    exact ⟨rfl, bnext t3 (of_drew hb6)⟩
end Go.Proofs.Ytbchiolgbhckhaa.Mach

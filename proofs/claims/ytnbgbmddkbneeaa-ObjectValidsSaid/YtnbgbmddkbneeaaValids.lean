/- Which objects may be: the statement's walk. -/
import Derived.Test.YtnbgbmddkbneeaaB15
import Derived.Test.YtnbgbmddkbneeaaB14
set_option linter.unusedVariables false
set_option linter.unusedSimpArgs false
namespace Go.Proofs.Ytnbgbmddkbneeaa.Obj
open Go.RowKit Go.Proofs.YtnbgbmddkbneeaaW.PrintWords Go.Proofs.YtnbgbmddkbneeaaW.PrintMore Go.Proofs.Ytnbgbmddkbneeaa.PLinkWeak
/-- Not great: the bounds. -/
theorem small_of {o : S27} (h : mortiselaw28_Great.f o.f0 o.f1 o.f2 o.f3 o.f4 o.f5 o.f6 = some false) : o.f2.length ≤ 50 ∧ o.f3.length ≤ 200 ∧ o.f4.length ≤ 400 ∧ o.f5.length ≤ 70000 ∧ o.f6.length ≤ 30000 := by
  unfold mortiselaw28_Great.f at h
  repeat' split at h
  all_goals simp at h
  omega
theorem great_any (o : S27) {cs : List Value} {w : World} (hK : k27.K w o cs) : ∃ b, mortiselaw28_Great.f o.f0 o.f1 o.f2 o.f3 o.f4 o.f5 o.f6 = some b ∧ Calls Try.prog 11 #[.agg cs.toArray] w fun e w' => e = .returned (.bool b) ∧ Below w.heap.size w w' := by
  obtain ⟨b, hb⟩ : ∃ b, mortiselaw28_Great.f o.f0 o.f1 o.f2 o.f3 o.f4 o.f5 o.f6 = some b := by
    unfold mortiselaw28_Great.f
    repeat' split
    all_goals exact ⟨_, rfl⟩
  obtain ⟨A2, c2, A3, c3, A4, c4, A5, c5, A6, c6, rfl, l2, g2, l3, g3, l4, g4, l5, g5, l6, g6⟩ := k27_open hK
  exact ⟨b, hb, mortiselaw28_Great.calls _ _ _ _ _ _ _ _ _ _ _ _ _ _ _ _ _ b w g2 l2 g3 l3 g4 l4 g5 l5 g6 l6 hb⟩
set_option maxRecDepth 100000 in
set_option maxHeartbeats 2000000 in
theorem objectValids_walk (o : S27) (hW : Wf o) {cs : List Value} {w : World} (hK : k27.K w o cs) :
    Calls Try.prog 3 #[.agg cs.toArray] w fun e w' => e = .returned (.bool true) ∧ Below w.heap.size w w' := by
  obtain ⟨b, hb, -⟩ := great_any o hK
  have hgr := Lib.hid (fun (X : World) (hX : Below w.heap.size w X) => (great_any o (k27.K_below hX hK)))
  have haw := Lib.hid (fun X : World => awake_any X)
  have hgr' : ∀ X : World, Below w.heap.size w X → Calls Try.prog 11 #[.agg cs.toArray] X fun e w' => e = .returned (.bool b) ∧ Below X.heap.size X w' := by
    intro X hX
    obtain ⟨b', e', h⟩ := hgr.out X hX
    rw [hb] at e'
    cases e'
    exact h
  have hG := Lib.hid hgr'
  clear hgr hgr'
  cases b
  · obtain ⟨s2, s3, s4, s5, s6⟩ := small_of hb
    have hF := hW.fine (by omega)
    have hva := Lib.hid (fun (X : World) (hX : Below w.heap.size w X) => valid_any o hF (k27.K_below hX hK))
    have hrv := Lib.hid (fun (X : World) (hX : Below w.heap.size w X) => rvalid_any o hF (k27.K_below hX hK))
    clear s2 s3 s4 s5 s6 hF hW hb
    obtain ⟨A2, c2, A3, c3, A4, c4, A5, c5, A6, c6, rfl, _⟩ := k27_open hK
    clear hK
    have hb0 : Below w.heap.size w (w.alloc (.cells #[.string o.f0, .int .i64 o.f1, .slice A2 o.f2.length c2, .slice A3 o.f3.length c3, .slice A4 o.f4.length c4, .slice A5 o.f5.length c5, .slice A6 o.f6.length c6] 27)) := alloc_below _ _
    generalize validP o = V at *
    go_enter Try.func3, Try.ntmps3
    go_wp2_with (go_at_call 11; refine (hG.out _ hb0).mono ?_; rintro e w1 ⟨rfl, hb1⟩; obtain ⟨e0, e1, e2, e3, e4, e5, e6, ez⟩ := box27_kept hb1)
    refine region_tree2 (fun W w' => Below W.heap.size W w') (.read 0 (.read 3 (.turn 1 (.turn 2 (.turn 4 (.read 5 (.read 6 (.turn 7 .done)))))))) 8
      (fun a W a' w' => Below W.heap.size W w' ∧ a' = ((((((((a.put (some 6) (.agg #[.string o.f0, .int .i64 o.f1, .slice A2 o.f2.length c2, .slice A3 o.f3.length c3, .slice A4 o.f4.length c4, .slice A5 o.f5.length c5, .slice A6 o.f6.length c6])).put (some 9) (.agg #[.string o.f0, .int .i64 o.f1, .slice A2 o.f2.length c2, .slice A3 o.f3.length c3, .slice A4 o.f4.length c4, .slice A5 o.f5.length c5, .slice A6 o.f6.length c6])).put (some 7) (.int .i64 V)).put (some 8) (.int .i64 V)).put (some 10) (.int .i64 V)).put (some 11) (.bool true)).put (some 12) (.bool true)).put (some 13) (.bool true))) mixed (by kernel_rfl) (Below.refl _ _) ?_ ?_
    · refine tree_read (some 6) (.agg #[.string o.f0, .int .i64 o.f1, .slice A2 o.f2.length c2, .slice A3 o.f3.length c3, .slice A4 o.f4.length c4, .slice A5 o.f5.length c5, .slice A6 o.f6.length c6]) rfl rfl (fun _ _ _ h => h) (by kernel_rfl) ?y0 ?_
      case y0 => intro w' hS; obtain ⟨e0, e1, e2, e3, e4, e5, e6, ez⟩ := box27_kept (bnext hb1 (of_drew hS)); go_simp <;> first | rfl | simp
      refine tree_read (some 9) (.agg #[.string o.f0, .int .i64 o.f1, .slice A2 o.f2.length c2, .slice A3 o.f3.length c3, .slice A4 o.f4.length c4, .slice A5 o.f5.length c5, .slice A6 o.f6.length c6]) rfl rfl (fun _ _ _ h => h) (by kernel_rfl) ?y1 ?_
      case y1 => intro w' hS; obtain ⟨e0, e1, e2, e3, e4, e5, e6, ez⟩ := box27_kept (bnext hb1 (of_drew hS)); go_simp <;> first | rfl | simp
      refine tree_turn_g rfl (by kernel_rfl) (fun K hK => ?_)
      go_simp
      refine (hva.out _ (bnext hb0 (bnext hb1 (of_drew (Below.refl _ _))))).mono ?_
      rintro e v1 ⟨rfl, b1⟩
      go_simp
      refine hK _ _ b1 (fun _ => ?_)
      clear hK K
      refine tree_turn_g rfl (by kernel_rfl) (fun K hK => ?_)
      go_simp
      refine (errno_any _ _).mono ?_
      rintro e v2 ⟨rfl, rfl⟩
      go_simp
      refine hK _ _ b1 (fun _ => ?_)
      clear hK K
      refine tree_turn_g rfl (by kernel_rfl) (fun K hK => ?_)
      go_simp
      refine (hrv.out _ (bnext hb0 (bnext hb1 (of_drew b1)))).mono ?_
      rintro e v3 ⟨rfl, b2⟩
      go_simp
      have b3 := bnext b1 b2
      refine hK _ _ b3 (fun _ => ?_)
      clear hK K
      refine tree_read (some 11) (.bool true) rfl rfl (fun _ _ _ h => h) (by kernel_rfl) ?y5 ?_
      case y5 => intro w' hS; go_simp <;> first | rfl | simp
      refine tree_read (some 12) (.bool true) rfl rfl (fun _ _ _ h => h) (by kernel_rfl) ?y6 ?_
      case y6 => intro w' hS; go_simp <;> first | rfl | simp
      refine tree_turn_g rfl (by kernel_rfl) (fun K hK => ?_)
      go_simp
      refine (haw.out _).mono ?_
      rintro e v4 ⟨rfl, b4⟩
      go_simp
      refine hK _ _ (bnext b3 b4) (fun _ => ?_)
      clear hK K
      exact tree_done ⟨bnext b3 b4, by kernel_rfl⟩
    · rintro a' w6 ⟨b6, rfl⟩
      simp only [List.drop_succ_cons, List.drop_zero]
      go_simp
      go_wp2
      go_ret
      exact ⟨rfl, bnext hb0 (bnext hb1 (of_drew b6))⟩
  · clear hW hb
    obtain ⟨A2, c2, A3, c3, A4, c4, A5, c5, A6, c6, rfl, _⟩ := k27_open hK
    clear hK
    have hb0 : Below w.heap.size w (w.alloc (.cells #[.string o.f0, .int .i64 o.f1, .slice A2 o.f2.length c2, .slice A3 o.f3.length c3, .slice A4 o.f4.length c4, .slice A5 o.f5.length c5, .slice A6 o.f6.length c6] 27)) := alloc_below _ _
    go_enter Try.func3, Try.ntmps3
    go_wp2_with (first | (go_at_call 11; refine (hG.out _ hb0).mono ?_; rintro e w1 ⟨rfl, hb1⟩; obtain ⟨e0, e1, e2, e3, e4, e5, e6, ez⟩ := box27_kept hb1) | (go_at_call 12; refine (haw.out _).mono ?_; rintro e w2 ⟨rfl, hb2⟩))
    go_ret
    exact ⟨rfl, bnext hb0 (bnext hb1 hb2)⟩
end Go.Proofs.Ytnbgbmddkbneeaa.Obj

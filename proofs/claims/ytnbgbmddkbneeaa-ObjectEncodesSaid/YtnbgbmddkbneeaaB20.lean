/- How great an object is. -/
import Derived.Test.YtnbgbmddkbneeaaB15
import Derived.Test.YtnbgbmddkbneeaaB14
set_option linter.unusedVariables false
set_option linter.unusedSimpArgs false
namespace Go.Proofs.Ytnbgbmddkbneeaa.Obj
open Go.RowKit Go.Proofs.YtnbgbmddkbneeaaW.PrintWords Go.Proofs.YtnbgbmddkbneeaaW.PrintMore Go.Proofs.Ytnbgbmddkbneeaa.PLinkWeak
/-- Not great: the bounds. -/
theorem small_of {o : S27} (h : mortiselaw28_Great.f o.f0 o.f1 o.f2 o.f3 o.f4 o.f5 o.f6 = some false) : o.f2.length ≤ 50 ∧ o.f3.length ≤ 200 ∧ o.f4.length ≤ 400 ∧ o.f5.length ≤ 70000 ∧ o.f6.length ≤ 30000 := by
  unfold mortiselaw28_Great.f at h
  repeat' split at h
  all_goals simp at h
  omega
theorem great_any (o : S27) {cs : List Value} {w : World} (hK : k27.K w o cs) : ∃ b, mortiselaw28_Great.f o.f0 o.f1 o.f2 o.f3 o.f4 o.f5 o.f6 = some b ∧ Calls Try.prog 11 #[.agg cs.toArray] w fun e w' => e = .returned (.bool b) ∧ Below w.heap.size w w' := by
  obtain ⟨b, hb⟩ : ∃ b, mortiselaw28_Great.f o.f0 o.f1 o.f2 o.f3 o.f4 o.f5 o.f6 = some b := by
    unfold mortiselaw28_Great.f
    repeat' split
    all_goals exact ⟨_, rfl⟩
  obtain ⟨A2, c2, A3, c3, A4, c4, A5, c5, A6, c6, rfl, l2, g2, l3, g3, l4, g4, l5, g5, l6, g6⟩ := k27_open hK
  exact ⟨b, hb, mortiselaw28_Great.calls _ _ _ _ _ _ _ _ _ _ _ _ _ _ _ _ _ b w g2 l2 g3 l3 g4 l4 g5 l5 g6 l6 hb⟩
theorem great_at (o : S27) {cs : List Value} {w : World} (hK : k27.K w o cs) : ∃ b, mortiselaw28_Great.f o.f0 o.f1 o.f2 o.f3 o.f4 o.f5 o.f6 = some b ∧ Hid (∀ X : World, Below w.heap.size w X → Calls Try.prog 11 #[.agg cs.toArray] X fun e w' => e = .returned (.bool b) ∧ Below X.heap.size X w') := by
  obtain ⟨b, hb, -⟩ := great_any o hK
  refine ⟨b, hb, Lib.hid fun X hX => ?_⟩
  obtain ⟨b', e', h⟩ := great_any o (k27.K_below hX hK)
  rw [hb] at e'
  cases e'
  exact h
end Go.Proofs.Ytnbgbmddkbneeaa.Obj

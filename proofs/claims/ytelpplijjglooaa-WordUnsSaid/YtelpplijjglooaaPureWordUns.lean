/- The operations of one word answer the same, whatever the operation and the word; the document's example holds. -/
import Derived.Test.YtelpplijjglooaaPWordUnsx1
namespace Go.Proofs.Ytelpplijjglooaa.Pure
open Go.RowKit Go.Proofs.Ytelpplijjglooaa.PWordUns Go.Proofs.YtelpplijjglooaaW.PrintWords Go.Proofs.YtelpplijjglooaaW.PrintLast

theorem awake_true : mortiselaw1_awake.f 3 = some true := by
  simp [mortiselaw1_awake.f, word_Bin.f, word_Bin.j0, word_quotient.f, word_quotient.j0, wrap64]

theorem un_same (op a : Int) : ∃ r, word_Un.f op a = some r ∧ mortiseref1_Un.f op a = some r := by
  unfold word_Un.f mortiseref1_Un.f word_truth.f mortiseref1_one.f
  by_cases h1 : op = 1
  · simp [h1]
  by_cases h2 : op = 2
  · simp [h2]
  by_cases h3 : op = 3
  · by_cases h0 : a = 0 <;> simp [h3, h0]
  · simp [h1, h2, h3]

theorem WordUns : mortiselaw1_WordUns.Pure := by
  intro op a _ _
  refine ⟨3, ?_⟩
  obtain ⟨r, e1, e2⟩ := un_same op a
  unfold mortiselaw1_WordUns.f
  rw [e1, e2, awake_true]
  simp

end Go.Proofs.Ytelpplijjglooaa.Pure

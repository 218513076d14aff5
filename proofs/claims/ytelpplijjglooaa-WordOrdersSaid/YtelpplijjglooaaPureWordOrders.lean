/- Of any two numbers just one of less, the same, more holds; the other three are those turned round. -/
import Derived.Test.YtelpplijjglooaaPWordOrdersx1
namespace Go.Proofs.Ytelpplijjglooaa.Pure
open Go.RowKit Go.Proofs.Ytelpplijjglooaa.PWordOrders Go.Proofs.YtelpplijjglooaaW.PrintWords Go.Proofs.YtelpplijjglooaaW.PrintLast

def one (b : Bool) : Int := if b then 1 else 0
theorem ord_eq (a b : Int) : word_Bin.f 3 13 a b = some (one (decide (a < b)), 0) ∧ word_Bin.f 3 11 a b = some (one (a == b), 0) ∧ word_Bin.f 3 15 a b = some (one (decide (a > b)), 0) ∧
    word_Bin.f 3 16 a b = some (one (decide (a ≥ b)), 0) ∧ word_Bin.f 3 12 a b = some (one (a != b), 0) ∧ word_Bin.f 3 14 a b = some (one (decide (a ≤ b)), 0) := by
  have t : ∀ c : Bool, word_truth.f c = some (one c) := fun c => by cases c <;> rfl
  refine ⟨?_, ?_, ?_, ?_, ?_, ?_⟩ <;> simp [word_Bin.f, word_Bin.j0, t]

theorem WordOrders : mortiselaw1_WordOrders.Pure := by
  intro a b _ _
  refine ⟨3, ?_⟩
  obtain ⟨h1, h2, h3, h4, h5, h6⟩ := ord_eq a b
  unfold mortiselaw1_WordOrders.f
  rw [h1, h2, h3, h4, h5, h6, (ord_eq b a).1]
  rcases Int.lt_trichotomy a b with h | h | h
  · have x1 : ¬ b ≤ a := by omega
    have x2 : a ≤ b := by omega
    have x3 : ¬ b < a := by omega
    have x4 : (a == b) = false := by rw [beq_eq_false_iff_ne]; omega
    have x5 : (a != b) = true := by rw [bne_iff_ne]; omega
    simp [h, x1, x2, x3, x4, x5, one, wrap64]
  · subst h
    simp [one, wrap64]
  · have x1 : b ≤ a := by omega
    have x2 : ¬ a ≤ b := by omega
    have x3 : ¬ a < b := by omega
    have x4 : (a == b) = false := by rw [beq_eq_false_iff_ne]; omega
    have x5 : (a != b) = true := by rw [bne_iff_ne]; omega
    simp [h, x1, x2, x3, x4, x5, one, wrap64]

end Go.Proofs.Ytelpplijjglooaa.Pure

/- The two operations of two words answer the same, whatever the operation and the words; the document's example holds. -/
import Derived.Test.YtelpplijjglooaaPWordBinsx2
import Derived.Test.YtelpplijjglooaaNum
namespace Go.Proofs.Ytelpplijjglooaa.Pure
open Go.RowKit Go.Proofs.Ytelpplijjglooaa.PWordBins Go.Proofs.YtelpplijjglooaaW.PrintWords Go.Proofs.YtelpplijjglooaaW.PrintLast Go.Proofs.YtelpplijjglooaaW.PrintMore Go.Proofs.Ytelpplijjglooaa.Num

theorem awake_true : mortiselaw1_awake.f 3 = some true := by
  simp [mortiselaw1_awake.f, word_Bin.f, word_Bin.j0, word_quotient.f, word_quotient.j0, wrap64]

theorem bin_same (op a b : Int) : ∃ r, word_Bin.f 3 op a b = some r ∧ mortiseref1_Bin.f 3 op a b = some r := by
  have h64 : 0 ≤ b % 64 := by omega
  unfold word_Bin.f mortiseref1_Bin.f
  by_cases h1 : op = 1
  · simp [h1]
  by_cases h2 : op = 2
  · simp [h2]
  by_cases h3 : op = 3
  · simp [h3]
  by_cases h4 : op = 4
  · subst h4
    by_cases hb : b = 0
    · simp [word_Bin.j0, mortiseref1_Bin.j0, word_quotient.f, hb]
    by_cases hm : b = -1
    · simp [word_Bin.j0, mortiseref1_Bin.j0, word_quotient.f, word_quotient.j0, hm]
    · simp [word_Bin.j0, mortiseref1_Bin.j0, word_quotient.f, word_quotient.j0, hb, hm]
  by_cases h5 : op = 5
  · subst h5
    by_cases hb : b = 0
    · simp [word_Bin.j0, mortiseref1_Bin.j0, word_quotient.f, hb]
    by_cases hm : b = -1
    · simp [word_Bin.j0, mortiseref1_Bin.j0, word_quotient.f, word_quotient.j0, hm]
    · simp [word_Bin.j0, mortiseref1_Bin.j0, word_quotient.f, word_quotient.j0, hb, hm]
  · have e : IntKind.u64.wrap (b % 64) = b % 64 := by rw [u64_wrap]; omega
    have t : ∀ c : Bool, word_truth.f c = mortiseref1_one.f c := fun _ => rfl
    have s : ∀ c : Bool, ∃ n, mortiseref1_one.f c = some n := fun c => by cases c <;> exact ⟨_, rfl⟩
    have x5 : (op == 5) = false := beq_eq_false_iff_ne.2 h5
    rw [if_neg h1, if_neg h2, if_neg h3, if_neg h4, if_neg h1, if_neg h2, if_neg h3, if_neg h4, x5]
    simp only [word_Bin.j0, mortiseref1_Bin.j0, word_shift.f, mask63_i, e, t]
    rw [mask63_u]
    simp only [Option.bind_some, if_pos h64]
    by_cases h6 : op = 6
    · simp [h6]
    by_cases h7 : op = 7
    · simp [h7]
    by_cases h8 : op = 8
    · simp [h8]
    by_cases h9 : op = 9
    · simp [h9]
    by_cases h10 : op = 10
    · simp [h10]
    by_cases h11 : op = 11
    · obtain ⟨n, hn⟩ := s (a == b); simp [h11, hn]
    by_cases h12 : op = 12
    · obtain ⟨n, hn⟩ := s (a != b); simp [h12, hn]
    by_cases h13 : op = 13
    · obtain ⟨n, hn⟩ := s (decide (a < b)); simp [h13, hn]
    by_cases h14 : op = 14
    · obtain ⟨n, hn⟩ := s (decide (a ≤ b)); simp [h14, hn]
    by_cases h15 : op = 15
    · obtain ⟨n, hn⟩ := s (decide (b < a)); simp [h15, hn]
    by_cases h16 : op = 16
    · obtain ⟨n, hn⟩ := s (decide (b ≤ a)); simp [h16, hn]
    · simp [h6, h7, h8, h9, h10, h11, h12, h13, h14, h15, h16]

theorem WordBins : mortiselaw1_WordBins.Pure := by
  intro op a b _ _ _
  refine ⟨3, ?_⟩
  obtain ⟨r, e1, e2⟩ := bin_same op a b
  unfold mortiselaw1_WordBins.f
  rw [e1, e2, awake_true]
  simp

end Go.Proofs.Ytelpplijjglooaa.Pure

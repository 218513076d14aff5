/- A quotient times the divisor, and what is left over, is the number again; what is left has the number's sign and is nearer to 0 than the divisor. -/
import Derived.Test.YtelpplijjglooaaPWordDividesx2
import Derived.Test.YtelpplijjglooaaNum
namespace Go.Proofs.Ytelpplijjglooaa.Pure
open Go.RowKit Go.Proofs.Ytelpplijjglooaa.PWordDivides Go.Proofs.YtelpplijjglooaaW.PrintWords Go.Proofs.YtelpplijjglooaaW.PrintLast Go.Proofs.YtelpplijjglooaaW.PrintMore Go.Proofs.Ytelpplijjglooaa.Num

theorem div_zero (a : Int) : word_Bin.f 3 4 a 0 = some (0, 3) ∧ word_Bin.f 3 5 a 0 = some (0, 3) := by
  constructor <;> simp [word_Bin.f, word_Bin.j0, word_quotient.f]
theorem div_minus (a : Int) : word_Bin.f 3 4 a (-1) = some (wrap64 (-a), 0) ∧ word_Bin.f 3 5 a (-1) = some (0, 0) := by
  constructor <;> simp [word_Bin.f, word_Bin.j0, word_quotient.f, word_quotient.j0]
theorem div_else (a b : Int) (h : b ≠ 0) (h' : b ≠ -1) : word_Bin.f 3 4 a b = some (wrap64 (Int.tdiv a b), 0) ∧ word_Bin.f 3 5 a b = some (Int.tmod a b, 0) := by
  constructor <;> simp [word_Bin.f, word_Bin.j0, word_quotient.f, word_quotient.j0, h, h']

theorem tdiv_in (a b : Int) (ha : -9223372036854775808 ≤ a ∧ a ≤ 9223372036854775807) (h : b ≠ 0) (h' : b ≠ -1) : wrap64 (Int.tdiv a b) = Int.tdiv a b := by
  have hb : -9223372036854775808 ≤ Int.tdiv a b ∧ Int.tdiv a b ≤ 9223372036854775807 := by
    by_cases h1 : b = 1
    · subst h1; rw [Int.tdiv_one]; exact ha
    · have e : (Int.tdiv a b).natAbs = a.natAbs / b.natAbs := Int.natAbs_tdiv a b
      have h2 : 2 ≤ b.natAbs := by omega
      have h3 : a.natAbs / b.natAbs ≤ a.natAbs / 2 := Nat.div_le_div_left h2 (by omega)
      omega
  unfold wrap64; omega

theorem WordDivides : mortiselaw1_WordDivides.Pure := by
  intro a b ha hb
  have ha := wf_i64 ha
  have hb := wf_i64 hb
  refine ⟨3, ?_⟩
  unfold mortiselaw1_WordDivides.f
  by_cases h0 : b = 0
  · subst h0
    rw [(div_zero a).1, (div_zero a).2]
    simp
  by_cases h1 : b = -1
  · subst h1
    rw [(div_minus a).1, (div_minus a).2]
    have e : wrap64 (wrap64 (wrap64 (-a) * -1) + 0) = a := by unfold wrap64; omega
    have e1 : wrap64 1 = 1 := by unfold wrap64; omega
    have e2 : wrap64 (-1) = -1 := by unfold wrap64; omega
    simp only [Option.bind_some, e]
    simp [mortiselaw1_WordDivides.j0, e1, e2]
  · rw [(div_else a b h0 h1).1, (div_else a b h0 h1).2]
    simp only [Option.bind_some]
    rw [tdiv_in a b ha h0 h1]
    have hsum := Int.tdiv_mul_add_tmod a b
    have hr := Int.natAbs_tmod a b
    have hlt : a.natAbs % b.natAbs < b.natAbs := Nat.mod_lt _ (by omega)
    have hpos : 0 ≤ a → 0 ≤ Int.tmod a b := fun h => Int.tmod_nonneg b h
    have hneg : a ≤ 0 → Int.tmod a b ≤ 0 := fun h => by
      have := Int.tmod_nonneg b (a := -a) (by omega)
      rw [Int.neg_tmod] at this
      omega
    generalize Int.tmod a b = r at *
    generalize Int.tdiv a b * b = p at *
    have e : wrap64 (wrap64 p + r) = a := by unfold wrap64; omega
    have e3 : -9223372036854775808 < b → wrap64 (-b) = -b := fun h => by unfold wrap64; omega
    have e4 : -9223372036854775808 < b → wrap64 (-(-b)) = b := fun h => by unfold wrap64; omega
    have key : mortiselaw1_WordDivides.j0 3 b r false = some true := by
      show mortiselaw1_WordDivides.j0 (2 + 1) b r false = some true
      rw [mortiselaw1_WordDivides.j0, if_neg (by decide)]
      by_cases hm : b = -9223372036854775808
      · rw [if_pos hm]
      · rw [if_neg hm, e3 (by omega), e4 (by omega)]
        by_cases hn : b < 0
        · rw [if_pos hn, if_pos (by omega), decide_eq_true (by omega)]
        · rw [if_neg hn, if_pos (by omega), decide_eq_true (by omega)]
    rw [if_neg h0, if_pos True.intro, if_pos True.intro, if_pos e]
    by_cases g1 : r < 0
    · have g2 : ¬ a > 0 := by omega
      have g3 : ¬ r > 0 := by omega
      rw [if_pos g1, if_neg g2, if_neg g3, key]
    · rw [if_neg g1]
      by_cases g3 : r > 0
      · rw [if_pos g3, decide_eq_false (by omega), key]
      · rw [if_neg g3, key]

end Go.Proofs.Ytelpplijjglooaa.Pure

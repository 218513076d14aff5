/- What is turned twice is what it was; a number less itself is 0; each bit is in just one of and, xor of two. -/
import Derived.Test.YtelpplijjglooaaPWordTwicex1
import Derived.Test.YtelpplijjglooaaNum
namespace Go.Proofs.Ytelpplijjglooaa.Pure
open Go.RowKit Go.Proofs.Ytelpplijjglooaa.PWordTwice Go.Proofs.YtelpplijjglooaaW.PrintWords Go.Proofs.YtelpplijjglooaaW.PrintLast Go.Proofs.Ytelpplijjglooaa.Num

theorem awake_true : mortiselaw1_awake.f 3 = some true := by
  simp [mortiselaw1_awake.f, word_Bin.f, word_Bin.j0, word_quotient.f, word_quotient.j0, wrap64]
theorem un_eq (a : Int) : word_Un.f 1 a = some (wrap64 (-a), 0) ∧ word_Un.f 2 a = some (Go.bits .xor .i64 (-1) a, 0) := by
  constructor <;> simp [word_Un.f]
theorem bin_eq (a b : Int) : word_Bin.f 3 8 a b = some (Go.bits .xor .i64 a b, 0) ∧ word_Bin.f 3 6 a b = some (Go.bits .and .i64 a b, 0) ∧ word_Bin.f 3 7 a b = some (Go.bits .or .i64 a b, 0) ∧
    word_Bin.f 3 1 a b = some (wrap64 (a + b), 0) ∧ word_Bin.f 3 2 a b = some (wrap64 (a - b), 0) := by
  refine ⟨?_, ?_, ?_, ?_, ?_⟩ <;> simp [word_Bin.f, word_Bin.j0]

theorem neg_twice {a : Int} (ha : -9223372036854775808 ≤ a ∧ a ≤ 9223372036854775807) : wrap64 (-wrap64 (-a)) = a := by unfold wrap64; omega
theorem less_itself (a : Int) : wrap64 (a - a) = 0 := by unfold wrap64; omega
/-- The law over any two functions that answer so. -/
theorem twice_of (U : Int → Int → Option (Int × Int)) (B : Int → Int → Int → Option (Int × Int)) (W : Option Bool) (a b n n2 f f2 x x2 d r s z : Int)
    (h1 : U 1 a = some (n, 0)) (h2 : U 1 n = some (n2, 0)) (h3 : U 2 a = some (f, 0)) (h4 : U 2 f = some (f2, 0)) (h5 : B 8 a b = some (x, 0)) (h6 : B 8 x b = some (x2, 0))
    (h7 : B 6 a b = some (d, 0)) (h8 : B 7 a b = some (r, 0)) (h9 : B 1 d x = some (s, 0)) (h10 : B 2 a a = some (z, 0)) (hW : W = some true)
    (e1 : n2 = a) (e2 : f2 = a) (e3 : x2 = a) (e4 : s = r) (e5 : z = 0) :
    ((U 1 a).bind fun b1 => ((U 1 b1.1).bind fun b2 => ((U 2 a).bind fun b3 => ((U 2 b3.1).bind fun b4 => ((B 8 a b).bind fun b5 => ((B 8 b5.1 b).bind fun b6 => ((B 6 a b).bind fun b7 =>
      ((B 7 a b).bind fun b8 => ((B 1 b7.1 b5.1).bind fun b9 => ((B 2 a a).bind fun b10 =>
      (if b2.1 = a then (if b4.1 = a then (if b6.1 = a then (if b9.1 = b8.1 then (if b10.1 = 0 then (W.bind fun t => some t) else some false) else some false) else some false) else some false) else some false))))))))))) = some true := by
  subst hW
  simp only [h1, h2, h3, h4, h5, h6, h7, h8, h9, h10, Option.bind_some, if_pos e1, if_pos e2, if_pos e3, if_pos e4, if_pos e5]

theorem WordTwice : mortiselaw1_WordTwice.Pure := by
  intro a b ha _
  have ha := wf_i64 ha
  refine ⟨3, ?_⟩
  obtain ⟨h5, h7, h8, _, _⟩ := bin_eq a b
  exact twice_of word_Un.f (word_Bin.f 3) (mortiselaw1_awake.f 3) a b _ _ _ _ _ _ _ _ _ _ (un_eq a).1 (un_eq _).1 (un_eq a).2 (un_eq _).2 h5 (bin_eq _ b).1 h7 h8
    (bin_eq _ _).2.2.2.1 (bin_eq a a).2.2.2.2 awake_true (neg_twice ha) (flip_twice ha) (xor_twice b ha) (and_xor_or a b) (less_itself a)

end Go.Proofs.Ytelpplijjglooaa.Pure

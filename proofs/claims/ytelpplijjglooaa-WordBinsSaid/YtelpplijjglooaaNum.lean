/- Numbers of 64 bits: what bit by bit operations and wrapped sums are, as numbers. -/
import Derived.RowKit
import Derived.Laws.Entries
namespace Go.Proofs.Ytelpplijjglooaa.Num
open Go Go.RowKit

theorem wrap64_eq (n : Int) : wrap64 n = (BitVec.ofInt 64 n).toInt := by
  rw [BitVec.toInt_ofInt]
  unfold wrap64
  simp only [Int.bmod]
  omega

theorem i64_wrap_eq (n : Int) : IntKind.i64.wrap n = wrap64 n := by
  simp only [IntKind.wrap, IntKind.signed, IntKind.bits, wrap64, Bool.true_and]
  split <;> simp_all <;> omega

theorem i64_wrap_toNat (x : BitVec 64) : IntKind.i64.wrap (x.toNat : Int) = x.toInt := by
  rw [i64_wrap_eq, wrap64_eq]; simp

theorem bits_and (a b : Int) : bits .and .i64 a b = (BitVec.ofInt 64 a &&& BitVec.ofInt 64 b).toInt := i64_wrap_toNat _
theorem bits_or (a b : Int) : bits .or .i64 a b = (BitVec.ofInt 64 a ||| BitVec.ofInt 64 b).toInt := i64_wrap_toNat _
theorem bits_xor (a b : Int) : bits .xor .i64 a b = (BitVec.ofInt 64 a ^^^ BitVec.ofInt 64 b).toInt := i64_wrap_toNat _

theorem ofInt_toInt (x : BitVec 64) : BitVec.ofInt 64 x.toInt = x := by simp

theorem wf_i64 {a : Int} (h : (Lit.int .i64 a).wf = true) : -9223372036854775808 ≤ a ∧ a ≤ 9223372036854775807 := by
  simpa [Lit.wf, IntKind.min, IntKind.max, IntKind.signed, IntKind.bits] using h
theorem wf_u8 {a : Int} (h : (Lit.int .u8 a).wf = true) : 0 ≤ a ∧ a ≤ 255 := by
  simpa [Lit.wf, IntKind.min, IntKind.max, IntKind.signed, IntKind.bits] using h

theorem toInt_ofInt_in {a : Int} (h : -9223372036854775808 ≤ a ∧ a ≤ 9223372036854775807) : (BitVec.ofInt 64 a).toInt = a := by
  rw [← wrap64_eq]; unfold wrap64; omega

theorem u64_wrap (n : Int) : IntKind.u64.wrap n = n % 18446744073709551616 := by
  simp [IntKind.wrap, IntKind.signed, IntKind.bits]

/-- The six low bits of a word without a sign. -/
theorem mask63_u (b : Int) : bits .and .u64 (IntKind.u64.wrap b) 63 = b % 64 := by
  rw [u64_wrap]
  show IntKind.u64.wrap ((BitVec.ofInt 64 (b % 18446744073709551616) &&& BitVec.ofInt 64 63).toNat : Int) = b % 64
  rw [u64_wrap, BitVec.toNat_and]
  have e : (BitVec.ofInt 64 63).toNat = 2 ^ 6 - 1 := by decide
  rw [e, Nat.and_two_pow_sub_one_eq_mod]
  simp only [BitVec.toNat_ofInt]
  omega
/-- The six low bits of a word with a sign. -/
theorem mask63_i (b : Int) : bits .and .i64 b 63 = b % 64 := by
  show IntKind.i64.wrap ((BitVec.ofInt 64 b &&& BitVec.ofInt 64 63).toNat : Int) = b % 64
  rw [i64_wrap_eq, BitVec.toNat_and]
  have e : (BitVec.ofInt 64 63).toNat = 2 ^ 6 - 1 := by decide
  rw [e, Nat.and_two_pow_sub_one_eq_mod]
  simp only [BitVec.toNat_ofInt]
  unfold wrap64
  omega
/-- Turning each bit twice. -/
theorem flip_twice {a : Int} (h : -9223372036854775808 ≤ a ∧ a ≤ 9223372036854775807) : bits .xor .i64 (-1) (bits .xor .i64 (-1) a) = a := by
  rw [bits_xor, bits_xor, ofInt_toInt, ← BitVec.xor_assoc, BitVec.xor_self, BitVec.zero_xor, toInt_ofInt_in h]
theorem xor_twice {a : Int} (b : Int) (h : -9223372036854775808 ≤ a ∧ a ≤ 9223372036854775807) : bits .xor .i64 (bits .xor .i64 a b) b = a := by
  rw [bits_xor, bits_xor, ofInt_toInt, BitVec.xor_assoc, BitVec.xor_self, BitVec.xor_zero, toInt_ofInt_in h]
theorem and_xor_or (a b : Int) : wrap64 (bits .and .i64 a b + bits .xor .i64 a b) = bits .or .i64 a b := by
  rw [bits_and, bits_or, bits_xor, wrap64_eq, BitVec.ofInt_add, ofInt_toInt, ofInt_toInt]
  congr 1
  generalize BitVec.ofInt 64 a = x
  generalize BitVec.ofInt 64 b = y
  rw [BitVec.add_eq_or_of_and_eq_zero]
  · ext i; simp; cases x[i] <;> cases y[i] <;> rfl
  · ext i; simp; cases x[i] <;> cases y[i] <;> simp
end Go.Proofs.Ytelpplijjglooaa.Num

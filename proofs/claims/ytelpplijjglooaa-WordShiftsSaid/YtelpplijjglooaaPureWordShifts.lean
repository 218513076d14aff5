/- A number is shifted so many times by one; behind 63 it begins anew. -/
import Derived.Test.YtelpplijjglooaaPWordShiftsx1
import Derived.Test.YtelpplijjglooaaNum
namespace Go.Proofs.Ytelpplijjglooaa.Pure
open Go.RowKit Go.Proofs.Ytelpplijjglooaa.PWordShifts Go.Proofs.YtelpplijjglooaaW.PrintWords Go.Proofs.YtelpplijjglooaaW.PrintLast Go.Proofs.YtelpplijjglooaaW.PrintMore Go.Proofs.Ytelpplijjglooaa.Num

theorem awake_true (k : Nat) : mortiselaw1_awake.f (k + 3) = some true := by
  simp [mortiselaw1_awake.f, word_Bin.f, word_Bin.j0, word_quotient.f, word_quotient.j0, wrap64]
theorem bin_mul (k : Nat) (a : Int) : word_Bin.f k 3 a 2 = some (wrap64 (a * 2), 0) := by simp [word_Bin.f]
theorem bin_shl (k : Nat) (a b : Int) : word_Bin.f (k + 1) 9 a b = some (shl .i64 a (b % 64), 0) := by
  have h64 : 0 ≤ b % 64 := by omega
  simp [word_Bin.f, word_Bin.j0, word_shift.f, mask63_u, h64]
theorem bin_shr (k : Nat) (a b : Int) : word_Bin.f (k + 1) 10 a b = some (shr .i64 a (b % 64), 0) := by
  have h64 : 0 ≤ b % 64 := by omega
  simp [word_Bin.f, word_Bin.j0, word_shift.f, mask63_u, h64]
theorem shl_is (a : Int) (i : Nat) (h : i ≤ 64) : shl .i64 a i = wrap64 (a * 2 ^ i) := by
  unfold shl
  rw [i64_wrap_eq, Int.toNat_natCast, Nat.min_eq_left (by exact h)]
theorem shr_is (a : Int) (i : Nat) (h : i ≤ 64) : shr .i64 a i = a / 2 ^ i := by
  unfold shr
  rw [Int.toNat_natCast, Nat.min_eq_left (by exact h)]
theorem double (p : Int) : wrap64 (wrap64 p * 2) = wrap64 (p * 2) := by unfold wrap64; omega

theorem loop_tells (a n : Int) (h0 : 0 ≤ n) (_ : n ≤ 255) (d : Nat) : ∀ (k i : Nat), d < k → i + d = (n % 64).toNat →
    mortiselaw1_WordShifts.l0 (k + 4) a n (shl .i64 a (n % 64)) 0 (shr .i64 a (n % 64)) 0 (wrap64 (a * 2 ^ i)) (a / 2 ^ i) i = some true := by
  have e64 : Int.tmod n 64 = n % 64 := Int.tmod_eq_emod_of_nonneg h0
  induction d with
  | zero =>
    intro k i hk hi
    obtain ⟨k, rfl⟩ : ∃ m, k = m + 1 := ⟨k - 1, by omega⟩
    have hi' : n % 64 = (i : Int) := by omega
    rw [show k + 1 + 4 = (k + 4) + 1 from by omega, mortiselaw1_WordShifts.l0, e64]
    rw [if_neg (by omega), bin_shl, bin_shr]
    simp only [Option.bind_some]
    have e1 : wrap64 (n + 64) % 64 = n % 64 := by unfold wrap64; omega
    have e2 : wrap64 (n - 256) % 64 = n % 64 := by unfold wrap64; omega
    rw [e1, e2, hi', shl_is a i (by omega), shr_is a i (by omega), awake_true]
    simp
  | succ d ih =>
    intro k i hk hi
    obtain ⟨k, rfl⟩ : ∃ m, k = m + 1 := ⟨k - 1, by omega⟩
    have := ih k (i + 1) (by omega) (by omega)
    rw [show k + 1 + 4 = (k + 4) + 1 from by omega, mortiselaw1_WordShifts.l0, e64]
    rw [if_pos (by omega), bin_mul, bin_shr]
    simp only [Option.bind_some]
    have e1 : wrap64 ((i : Int) + 1) = ((i + 1 : Nat) : Int) := by unfold wrap64; omega
    have e2 : shr .i64 (a / 2 ^ i) (1 % 64) = a / 2 ^ (i + 1) := by
      have := shr_is (a / 2 ^ i) 1 (by omega)
      rw [show (1 : Int) % 64 = ((1 : Nat) : Int) from rfl, this, Int.pow_succ, Int.ediv_ediv_of_nonneg (Int.le_of_lt (Int.pow_pos (by decide)))]
      rfl
    rw [e1, e2, double, Int.mul_assoc, ← Int.pow_succ]
    exact this

theorem WordShifts : mortiselaw1_WordShifts.Pure := by
  intro a n _ hn
  have hn := wf_u8 hn
  have e : wrap64 n = n := by unfold wrap64; omega
  refine ⟨70, ?_⟩
  unfold mortiselaw1_WordShifts.f
  rw [e, bin_shl, bin_shr]
  simp only [Option.bind_some]
  have h := loop_tells a n hn.1 hn.2 (n % 64).toNat 66 0 (by omega) (by omega)
  rename_i ha _
  have ha := wf_i64 ha
  have e0 : wrap64 (a * 2 ^ 0) = a := by unfold wrap64; omega
  rw [e0] at h
  simpa using h

end Go.Proofs.Ytelpplijjglooaa.Pure

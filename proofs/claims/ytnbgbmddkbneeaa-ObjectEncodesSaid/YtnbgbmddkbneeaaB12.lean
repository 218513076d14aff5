/- The sum of bytes. -/
import Derived.Test.YtnbgbmddkbneeaaB10
set_option linter.unusedVariables false
set_option linter.unusedSimpArgs false
namespace Go.Proofs.Ytnbgbmddkbneeaa.Obj
open Go.RowKit Go.Proofs.YtnbgbmddkbneeaaW.PrintWords Go.Proofs.YtnbgbmddkbneeaaW.PrintMore Go.Proofs.Ytnbgbmddkbneeaa.PLinkWeak
def sumStep (s b : Int) : Int := IntKind.u64.wrap (bits .xor .u64 s b * 1099511628211)
def sumU (l : List Int) : Int := l.foldl sumStep 14695981039346656037
def sumF (l : List Int) : Int := wrap64 (sumU l)
theorem sumU_succ (l : List Int) (k : Nat) (h : k < l.length) : sumU (l.take (k + 1)) = sumStep (sumU (l.take k)) (l.getD k 0) := by
  have e : l.getD k 0 = l[k] := by simp [List.getD_eq_getElem?_getD, h]
  unfold sumU
  rw [List.take_succ_eq_append_getElem h, List.foldl_append, e]
  rfl
theorem sumU_nil (l : List Int) : sumU (l.take 0) = 14695981039346656037 := rfl
theorem u8_u64 {b : Int} (h : 0 ≤ b ∧ b ≤ 255) : IntKind.u64.wrap b = b := by rw [u64_is]; omega
set_option maxRecDepth 100000 in
set_option maxHeartbeats 1000000 in
theorem sum_any (l : List Int) {A : Option Addr} {c : Nat} {w : World} (hr : Kd.C (Kd.int .u8) w A l.length l) (hm : l.length ≤ 100000000) (hb : ∀ b ∈ l, 0 ≤ b ∧ b ≤ 255) :
    Calls Try.prog 36 #[.slice A l.length c] w fun e w' => e = .returned (.int .i64 (sumF l)) ∧ w = w' := by
  have HM := Lib.hid hm
  have HB := Lib.hid hb
  clear hm hb
  have H0 := Lib.hid (sumU_nil l)
  go_enter Try.func36, Try.ntmps36
  go_wp2
  go_loopw [3, 8] (fun s i wr => ∃ k : Nat, k ≤ l.length ∧ i = .int .i64 (k : Int) ∧ s = .int .u64 (sumU (l.take k)) ∧ w = wr) (fun _ i _ => l.length - (intOf i).toNat)
  case atStart => exact ⟨0, Nat.zero_le _, by go_num, by rw [H0.out], rfl⟩
  case round =>
    obtain ⟨k, hk, rfl, rfl, rfl⟩ := hrel
    by_cases hlt : k < l.length
    · have p0 : (0 : Int) ≤ (k : Int) := by omega
      have p1 : (k : Int) < (l.length : Int) := by omega
      have hm : (k : Int) < 9223372036854775807 := by have := HM.out; omega
      obtain ⟨ad, rfl, x0⟩ := Kd.at_int hr (k : Int) p0 p1
      have hs := sumU_succ l k hlt
      have hbb := u8_u64 (HB.out (l.getD k 0) (getD_mem hlt))
      rw [show rd l (k : Int) = l.getD k 0 from rfl] at x0
      simp only [Int.toNat_natCast] at x0
      generalize l.getD k 0 = b at *
      generalize hq : sumU (l.take k) = s at *
      have Hs := Lib.hid hs
      have Hbb := Lib.hid hbb
      clear hs hq hbb
      go_wp2
      go_roundw
      case rel => exact ⟨k + 1, by omega, by go_num, by rw [Hs.out]; unfold sumStep; rw [Hbb.out], by first | rfl | trivial⟩
      case measure => simp [intOf]; omega
    · obtain rfl : k = l.length := by omega
      rw [List.take_length]
      go_wp2
      go_ret
      exact ⟨rfl, rfl⟩
end Go.Proofs.Ytnbgbmddkbneeaa.Obj

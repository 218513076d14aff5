/- The document's example, and an error's number. -/
import Derived.Test.YtnbgbmddkbneeaaB13
import Derived.Test.YtnbgbmddkbneeaaB7
set_option linter.unusedVariables false
set_option linter.unusedSimpArgs false
namespace Go.Proofs.Ytnbgbmddkbneeaa.Obj
open Go.RowKit Go.Proofs.YtnbgbmddkbneeaaW.PrintWords Go.Proofs.YtnbgbmddkbneeaaW.PrintMore Go.Proofs.Ytnbgbmddkbneeaa.PLinkWeak
set_option maxRecDepth 100000 in
theorem errno_any (i : Int) (w : World) : Calls Try.prog 13 #[.int .i64 i] w fun e w' => e = .returned (.int .i64 i) ∧ w = w' := by
  go_enter Try.func13, Try.ntmps13
  go_wp2
  go_ret
  exact ⟨rfl, rfl⟩
def oA : S27 := ⟨⟨#[97]⟩, 0, [], [], [], [], []⟩
def z27c (s : ByteArray) : List Value := [.string s, .int .i64 0, .slice none 0 0, .slice none 0 0, .slice none 0 0, .slice none 0 0, .slice none 0 0]
theorem nil27 (s : ByteArray) (w : World) : k27.K w ⟨s, 0, [], [], [], [], []⟩ (z27c s) :=
  k27_mk w ⟨s, 0, [], [], [], [], []⟩ (Nat.le_refl _) (Kd.C_nil _ _) (Nat.le_refl _) (Kd.C_nil _ _) (Nat.le_refl _) (Kd.C_nil _ _) (Nat.le_refl _) (Kd.C_nil _ _) (Nat.le_refl _) (Kd.C_nil _ _)
theorem fineA : Fine oA := ⟨by simp [oA], by simp [oA], by simp [oA], by simp [oA], by simp [oA], by simp [oA]⟩
theorem validA : validP oA = 0 := by decide +kernel
theorem encA1 : (encP oA).1.length = 69 := by decide +kernel
theorem encA2 : (encP oA).2 = 0 := by decide +kernel
set_option maxRecDepth 100000 in
set_option maxHeartbeats 1000000 in
theorem awake_any (w : World) : Calls Try.prog 12 #[] w fun e w' => e = .returned (.bool true) ∧ Below w.heap.size w w' := by
  have hv := fun X : World => valid_any oA fineA (nil27 ⟨#[97]⟩ X)
  have he := fun X : World => encode_any' oA fineA (by simp [oA]) (by simp [oA]) (by simp [oA]) (nil27 ⟨#[97]⟩ X)
  unfold EncPost at he
  rw [validA] at hv
  simp only [encA1, encA2] at he
  simp only [z27c] at hv he
  go_enter Try.func12, Try.ntmps12
  go_wp2_with (first | (go_at_call 16; refine (he _).mono ?_; rintro e w1 ⟨A1, c1, rfl, ho, hb1⟩; clear ho) | (go_at_call 13; refine (errno_any _ _).mono ?_; rintro e w2 ⟨rfl, rfl⟩) | (go_at_call 14; refine (hv _).mono ?_; rintro e w3 ⟨rfl, hb3⟩))
  go_ret
  exact ⟨rfl, bnext hb1 hb3⟩
end Go.Proofs.Ytnbgbmddkbneeaa.Obj

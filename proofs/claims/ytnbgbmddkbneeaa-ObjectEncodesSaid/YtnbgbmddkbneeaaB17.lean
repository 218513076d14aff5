/- The document's writer: texts, truths, lists, sums. -/
import Derived.Test.YtnbgbmddkbneeaaB16
set_option linter.unusedVariables false
set_option linter.unusedSimpArgs false
namespace Go.Proofs.Ytnbgbmddkbneeaa.Obj
open Go.RowKit Go.Proofs.YtnbgbmddkbneeaaW.PrintWords Go.Proofs.YtnbgbmddkbneeaaW.PrintMore Go.Proofs.Ytnbgbmddkbneeaa.PLinkWeak
/-- What a call of the document's writer does. -/
def RPost (g : Nat) (b : List Int) (w : World) (e : Ending) (w' : World) : Prop := e = .returned (.tuple #[]) ∧ ∃ a', Cap a' b ∧ WrIs 81 tlR w' g a' ∧ Keep w w' g
set_option maxRecDepth 100000 in
set_option maxHeartbeats 1000000 in
theorem rtext_any {w : World} {g : Nat} {a b : List Int} (s : ByteArray) (h : WrIs 81 tlR w g a) (hc : Cap a b) (hs : s.size ≤ 60) :
    Calls Try.prog 37 #[.pointer (some ⟨g, 0, none⟩), .string s] w (RPost g (b ++ eText s) w) := by
  unfold RPost
  have H1 := Lib.hid (rnum_eq (s.size : Int) h hc.1)
  have hc1 := hc.num s.size
  have p0 : ¬ ((262144 : Int) < (s.size : Int)) := by omega
  have p1 : decide ((262144 : Int) < (s.size : Int)) = false := decide_eq_false p0
  have p2 : decide (262144 < s.size) = false := decide_eq_false (by omega)
  have hs' : s.size ≤ 60 := hs
  have HS := Lib.hid hs'
  clear h hc hs hs'
  unfold eText
  rw [← List.append_assoc]
  generalize numR a s.size = a1 at *
  have HC := Lib.hid hc1
  by_cases hf : 262144 < a1.length
  · have hfu := fun X (h : WrIs 81 tlR X g a1) => decide_eq_true hf ▸ full_any h HC.out.1
    have HR := Lib.hid (hc1.full hf (bytesOf s))
    have HF := Lib.hid hfu
    clear hc1 hf hfu
    go_enter Try.func37, Try.ntmps37
    go_wp2_with (first | (go_at_call 38; refine H1.out.mono ?_; rintro e w1 ⟨rfl, hW1, hK1⟩; have HW1 := Lib.hid hW1; have HK1 := Lib.hid hK1; clear hW1 hK1) | (go_at_call 43; refine (HF.out _ HW1.out).mono ?_; rintro e w2 ⟨rfl, rfl⟩))
    go_end0
    exact ⟨rfl, a1, HR.out, HW1.out, HK1.out⟩
  · have hfu := fun X (h : WrIs 81 tlR X g a1) => decide_eq_false hf ▸ full_any h HC.out.1
    have HR := Lib.hid (hc1.room hf (bytesOf s) (by rw [bytesOf_length]; have := HS.out; omega) (bytesOf_in s))
    have HF := Lib.hid hfu
    have HL := Lib.hid hc1.1
    clear hc1 hf hfu
    go_enter Try.func37, Try.ntmps37
    go_wp2_with (first | (go_at_call 38; refine H1.out.mono ?_; rintro e w1 ⟨rfl, hW1, hK1⟩; have HW1 := Lib.hid hW1; have HK1 := Lib.hid hK1; clear hW1 hK1; obtain ⟨A, c, hv⟩ := HW1.out.slot; obtain ⟨A', n', c', w2, hr, hW2, hK2, hf2, hl2, hv2⟩ := append_str s 34 HW1.out hv (Below.refl _ _) (by have := HL.out; have := HS.out; omega); have HW2 := Lib.hid hW2; have HK2 := Lib.hid hK2; have Hr := Lib.hid hr; clear hr hW2 hK2) | (go_at_call 43; refine (HF.out _ HW1.out).mono ?_; rintro e w3 ⟨rfl, rfl⟩) | (refine wpList_app (o := ⟨some 28, _, _, _, _, _⟩) rfl (.tmp 26) (.tmp 27) 34 9 rfl _ _ _ _ rfl rfl Hr.out ?_))
    go_end0
    exact ⟨rfl, _, HR.out, HW2.out, HK1.out.trans HK2.out⟩
set_option maxRecDepth 100000 in
set_option maxHeartbeats 1000000 in
theorem rbool_any {w : World} {g : Nat} {a b : List Int} (t : Bool) (h : WrIs 81 tlR w g a) (hc : Cap a b) :
    Calls Try.prog 40 #[.pointer (some ⟨g, 0, none⟩), .bool t] w (RPost g (b ++ eBool t) w) := by
  unfold RPost eBool
  cases t
  · have H1 := Lib.hid (rnum_any 0 h hc)
    clear h hc
    go_enter Try.func40, Try.ntmps40
    go_wp2_with (go_at_call 38; refine H1.out.mono ?_; rintro e w1 ⟨rfl, a1, hc1, hW1, hK1⟩)
    go_end0
    exact ⟨rfl, a1, hc1, hW1, hK1⟩
  · have H1 := Lib.hid (rnum_any 1 h hc)
    clear h hc
    go_enter Try.func40, Try.ntmps40
    go_wp2_with (go_at_call 38; refine H1.out.mono ?_; rintro e w1 ⟨rfl, a1, hc1, hW1, hK1⟩)
    go_end0
    exact ⟨rfl, a1, hc1, hW1, hK1⟩
set_option maxRecDepth 100000 in
set_option maxHeartbeats 1000000 in
theorem rwords_any {w0 w : World} {g : Nat} {a b : List Int} (l : List Int) {A : Option Addr} {c : Nat} (h : WrIs 81 tlR w g a) (hcap : Cap a b) (hb : Below w0.heap.size w0 w) (hg : w0.heap.size ≤ g) (hr : Kd.C (Kd.int .i64) w0 A l.length l) (hl : l.length ≤ 90000000) :
    Calls Try.prog 41 #[.pointer (some ⟨g, 0, none⟩), .slice A l.length c] w (RPost g (b ++ eWords l) w) := by
  unfold RPost
  have H1 := Lib.hid (rnum_any (l.length : Int) h hcap)
  have HL := Lib.hid hl
  have HG := Lib.hid hg
  have Hh := Lib.hid h
  clear h hl hg hcap
  go_enter Try.func41, Try.ntmps41
  go_wp2_with (go_at_call 38; refine H1.out.mono ?_; rintro e w1 ⟨rfl, a1, hc1, hW1, hK1⟩)
  go_loopw [4] (fun i wr => ∃ k : Nat, k ≤ l.length ∧ i = .int .i64 (k : Int) ∧ ∃ a2, Cap a2 (b ++ le8 l.length ++ (l.take k).flatMap le8) ∧ WrIs 81 tlR wr g a2 ∧ Keep w wr g) (fun i _ => l.length - (intOf i).toNat)
  case atStart => exact ⟨0, by omega, by go_num, a1, by simpa using hc1, hW1, hK1⟩
  case round =>
    obtain ⟨k, hk, rfl, a2, hc2, hW, hK⟩ := hrel
    by_cases hlt : k < l.length
    · have p0 : (0 : Int) ≤ (k : Int) := by omega
      have p1 : (k : Int) < (l.length : Int) := by omega
      have hbz := hb.trans (hK.low Hh.out HG.out)
      obtain ⟨ad, rfl, x0⟩ := Kd.at_int (Kd.C_below hr hbz) (k : Int) p0 p1
      have hm : (k : Int) < 9223372036854775807 := by have := HL.out; omega
      have hnum := rnum_any (rd l (k : Int)) hW hc2
      have hfs := flat_succ le8 l k 0 hlt
      rw [show l.getD k 0 = rd l (k : Int) from rfl] at hfs
      simp only [Int.toNat_natCast] at x0
      generalize rd l (k : Int) = x at *
      have H2 := Lib.hid hnum
      have Hf := Lib.hid hfs
      have HK := Lib.hid hK
      clear hnum hfs hW hK hbz hc2
      go_wp2_with (go_at_call 38; refine H2.out.mono ?_; rintro e w2 ⟨rfl, a3, hc3, hW3, hK3⟩)
      go_roundw
      case rel => exact ⟨k + 1, by omega, by go_num, a3, by rw [Hf.out, ← List.append_assoc]; exact hc3, hW3, HK.out.trans hK3⟩
      case measure => simp [intOf]; omega
    · obtain rfl : k = l.length := by omega
      go_wp2
      go_end0
      exact ⟨rfl, a2, by unfold eWords; rw [List.take_length, List.append_assoc] at hc2; exact hc2, hW, hK⟩
set_option maxRecDepth 100000 in
set_option maxHeartbeats 1000000 in
theorem rsum_any (l : List Int) {A : Option Addr} {c : Nat} {w : World} (hr : Kd.C (Kd.int .u8) w A l.length l) (hm : l.length ≤ 100000000) (hb : ∀ b ∈ l, 0 ≤ b ∧ b ≤ 255) :
    Calls Try.prog 42 #[.slice A l.length c] w fun e w' => e = .returned (.int .i64 (sumF l)) ∧ w = w' := by
  have HM := Lib.hid hm
  have HB := Lib.hid hb
  clear hm hb
  have H0 := Lib.hid (sumU_nil l)
  go_enter Try.func42, Try.ntmps42
  go_wp2
  go_loopw [3, 4] (fun s i wr => ∃ k : Nat, k ≤ l.length ∧ i = .int .i64 (k : Int) ∧ s = .int .u64 (sumU (l.take k)) ∧ w = wr) (fun _ i _ => l.length - (intOf i).toNat)
  case atStart => exact ⟨0, Nat.zero_le _, by go_num, by rw [H0.out], rfl⟩
  case round =>
    obtain ⟨k, hk, rfl, rfl, rfl⟩ := hrel
    by_cases hlt : k < l.length
    · have p0 : (0 : Int) ≤ (k : Int) := by omega
      have p1 : (k : Int) < (l.length : Int) := by omega
      have hm : (k : Int) < 9223372036854775807 := by have := HM.out; omega
      obtain ⟨ad, rfl, x0⟩ := Kd.at_int hr (k : Int) p0 p1
      have hs := sumU_succ l k hlt
      have hbb := u8_u64 (HB.out (l.getD k 0) (getD_mem hlt))
      rw [show rd l (k : Int) = l.getD k 0 from rfl] at x0
      simp only [Int.toNat_natCast] at x0
      generalize l.getD k 0 = b at *
      generalize hq : sumU (l.take k) = s at *
      have Hs := Lib.hid hs
      have Hbb := Lib.hid hbb
      clear hs hq hbb
      go_wp2
      go_roundw
      case rel => exact ⟨k + 1, by omega, by go_num, by rw [Hs.out]; unfold sumStep; rw [Hbb.out], by first | rfl | trivial⟩
      case measure => simp [intOf]; omega
    · obtain rfl : k = l.length := by omega
      rw [List.take_length]
      go_wp2
      go_ret
      exact ⟨rfl, rfl⟩
end Go.Proofs.Ytnbgbmddkbneeaa.Obj

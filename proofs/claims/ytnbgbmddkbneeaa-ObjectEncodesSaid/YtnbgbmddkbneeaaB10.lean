/- Texts, truths, lists of words as bytes. -/
import Derived.Test.YtnbgbmddkbneeaaB9
set_option linter.unusedVariables false
set_option linter.unusedSimpArgs false
namespace Go.Proofs.Ytnbgbmddkbneeaa.Obj
open Go.RowKit Go.Proofs.YtnbgbmddkbneeaaW.PrintWords Go.Proofs.YtnbgbmddkbneeaaW.PrintMore Go.Proofs.Ytnbgbmddkbneeaa.PLinkWeak
theorem le8_len (v : Int) : (le8 v).length = 8 := by simp [le8]
def eText (s : ByteArray) : List Int := le8 s.size ++ bytesOf s
def eBool (b : Bool) : List Int := le8 (if b = true then 1 else 0)
def eWords (l : List Int) : List Int := le8 l.length ++ l.flatMap le8
theorem eText_len (s : ByteArray) : (eText s).length = 8 + s.size := by simp [eText, le8_len, bytesOf_length]
theorem flat8_len (l : List Int) : (l.flatMap le8).length = 8 * l.length := by induction l with
  | nil => rfl
  | cons x l ih => rw [List.flatMap_cons, List.length_append, ih, le8_len, List.length_cons]; omega
theorem eWords_len (l : List Int) : (eWords l).length = 8 + 8 * l.length := by rw [eWords, List.length_append, le8_len, flat8_len]
set_option maxRecDepth 100000 in
set_option maxHeartbeats 1000000 in
theorem text_any {w : World} {g : Nat} {out : List Int} (s : ByteArray) (h : WrIs 74 [] w g out) (hl : out.length + s.size ≤ 100000000) :
    Calls Try.prog 60 #[.pointer (some ⟨g, 0, none⟩), .string s] w fun e w' => e = .returned (.tuple #[]) ∧ WrIs 74 [] w' g (out ++ eText s) ∧ Keep w w' g := by
  have h1 := num_any (s.size : Int) h (by omega)
  have h2 : ∀ X, WrIs 74 [] X g (out ++ le8 s.size) → _ := fun X hX => raw_any s hX (by rw [List.length_append, le8_len]; omega)
  have H1 := Lib.hid h1
  have H2 := Lib.hid h2
  clear h1 h2 hl h
  go_enter Try.func60, Try.ntmps60
  go_wp2_with (first | (go_at_call 35; refine H1.out.mono ?_; rintro e w1 ⟨rfl, hW1, hK1⟩; have HW1 := Lib.hid hW1; have HK1 := Lib.hid hK1; clear hW1 hK1) | (go_at_call 33; refine (H2.out _ HW1.out).mono ?_; rintro e w2 ⟨rfl, hW2, hK2⟩; have HW2 := Lib.hid hW2; have HK2 := Lib.hid hK2; clear hW2 hK2))
  go_end0
  exact ⟨rfl, by have := HW2.out; unfold eText; rw [← List.append_assoc]; exact this, HK1.out.trans HK2.out⟩
set_option maxRecDepth 100000 in
set_option maxHeartbeats 1000000 in
theorem truth_any {w : World} {g : Nat} {out : List Int} (b : Bool) (h : WrIs 74 [] w g out) (hl : out.length ≤ 100000000) :
    Calls Try.prog 61 #[.pointer (some ⟨g, 0, none⟩), .bool b] w fun e w' => e = .returned (.tuple #[]) ∧ WrIs 74 [] w' g (out ++ eBool b) ∧ Keep w w' g := by
  unfold eBool
  cases b
  · have H1 := Lib.hid (num_any 0 h hl)
    clear h hl
    go_enter Try.func61, Try.ntmps61
    go_wp2_with (go_at_call 35; refine H1.out.mono ?_; rintro e w1 ⟨rfl, hW1, hK1⟩; have HW1 := Lib.hid hW1; have HK1 := Lib.hid hK1; clear hW1 hK1)
    go_end0
    exact ⟨rfl, HW1.out, HK1.out⟩
  · have H1 := Lib.hid (num_any 1 h hl)
    clear h hl
    go_enter Try.func61, Try.ntmps61
    go_wp2_with (go_at_call 35; refine H1.out.mono ?_; rintro e w1 ⟨rfl, hW1, hK1⟩; have HW1 := Lib.hid hW1; have HK1 := Lib.hid hK1; clear hW1 hK1)
    go_end0
    exact ⟨rfl, HW1.out, HK1.out⟩
theorem flat_succ {α : Type} (f : α → List Int) (l : List α) (k : Nat) (d : α) (h : k < l.length) : (l.take (k + 1)).flatMap f = (l.take k).flatMap f ++ f (l.getD k d) := by
  rw [List.take_succ_eq_append_getElem h, List.flatMap_append]
  simp [List.getD_eq_getElem?_getD, h]
theorem take8_len (l : List Int) (k : Nat) : ((l.take k).flatMap le8).length ≤ 8 * l.length := by
  rw [flat8_len]; have := List.length_take_le k l; have := List.length_take_le' k l; omega
set_option maxRecDepth 100000 in
set_option maxHeartbeats 1000000 in
theorem words_any {w0 w : World} {g : Nat} {out : List Int} (l : List Int) {A : Option Addr} {c : Nat} (h : WrIs 74 [] w g out) (hb : Below w0.heap.size w0 w) (hg : w0.heap.size ≤ g) (hr : Kd.C (Kd.int .i64) w0 A l.length l) (hl : out.length + 8 * l.length ≤ 90000000) :
    Calls Try.prog 62 #[.pointer (some ⟨g, 0, none⟩), .slice A l.length c] w fun e w' => e = .returned (.tuple #[]) ∧ WrIs 74 [] w' g (out ++ eWords l) ∧ Keep w w' g := by
  have H1 := Lib.hid (num_any (l.length : Int) h (by omega))
  have HL := Lib.hid hl
  have HG := Lib.hid hg
  have Hh := Lib.hid h
  clear h hl hg
  go_enter Try.func62, Try.ntmps62
  go_wp2_with (go_at_call 35; refine H1.out.mono ?_; rintro e w1 ⟨rfl, hW1, hK1⟩; have HW1 := Lib.hid hW1; have HK1 := Lib.hid hK1; clear hW1 hK1)
  go_loopw [12] (fun i wr => ∃ k : Nat, k ≤ l.length ∧ i = .int .i64 (k : Int) ∧ WrIs 74 [] wr g (out ++ le8 l.length ++ (l.take k).flatMap le8) ∧ Keep w wr g) (fun i _ => l.length - (intOf i).toNat)
  case atStart => exact ⟨0, by omega, by go_num, by simpa using HW1.out, HK1.out⟩
  case round =>
    obtain ⟨k, hk, rfl, hW, hK⟩ := hrel
    by_cases hlt : k < l.length
    · have p0 : (0 : Int) ≤ (k : Int) := by omega
      have p1 : (k : Int) < (l.length : Int) := by omega
      have hbz := hb.trans (hK.low Hh.out HG.out)
      obtain ⟨ad, rfl, x0⟩ := Kd.at_int (Kd.C_below hr hbz) (k : Int) p0 p1
      have hm : (k : Int) < 9223372036854775807 := by have := HL.out; omega
      have hnum := num_any (rd l (k : Int)) hW (by have := HL.out; have := take8_len l k; rw [List.length_append, List.length_append, le8_len]; omega)
      have hfs := flat_succ le8 l k 0 hlt
      rw [show l.getD k 0 = rd l (k : Int) from rfl] at hfs
      simp only [Int.toNat_natCast] at x0
      generalize rd l (k : Int) = x at *
      have H2 := Lib.hid hnum
      have Hf := Lib.hid hfs
      have HK := Lib.hid hK
      clear hnum hfs hW hK hbz
      go_wp2_with (go_at_call 35; refine H2.out.mono ?_; rintro e w2 ⟨rfl, hW2, hK2⟩; have HW2 := Lib.hid hW2; have HK2 := Lib.hid hK2; clear hW2 hK2)
      go_roundw
      case rel => exact ⟨k + 1, by omega, by go_num, by rw [Hf.out, ← List.append_assoc]; exact HW2.out, HK.out.trans HK2.out⟩
      case measure => simp [intOf]; omega
    · obtain rfl : k = l.length := by omega
      go_wp2
      go_end0
      exact ⟨rfl, by unfold eWords; rw [List.take_length, List.append_assoc] at hW; exact hW, hK⟩
end Go.Proofs.Ytnbgbmddkbneeaa.Obj

/- The document's writer: imports. -/
import Derived.Test.YtnbgbmddkbneeaaB17
set_option linter.unusedVariables false
set_option linter.unusedSimpArgs false
namespace Go.Proofs.Ytnbgbmddkbneeaa.Obj
open Go.RowKit Go.Proofs.YtnbgbmddkbneeaaW.PrintWords Go.Proofs.YtnbgbmddkbneeaaW.PrintMore Go.Proofs.Ytnbgbmddkbneeaa.PLinkWeak
set_option maxRecDepth 100000 in
set_option maxHeartbeats 1000000 in
theorem rimps_any {w0 w : World} {g : Nat} {a b : List Int} (l : List S44) {A : Option Addr} {c : Nat} (h : WrIs 81 tlR w g a) (hcap : Cap a b) (hb : Below w0.heap.size w0 w) (hg : w0.heap.size ≤ g) (hr : Kd.C k44 w0 A l.length l) (hl : l.length ≤ 300000) (hn : ∀ x ∈ l, x.f0.size ≤ 60) :
    Calls Try.prog 39 #[.pointer (some ⟨g, 0, none⟩), .slice A l.length c] w (RPost g (b ++ le8 l.length ++ l.flatMap eImp) w) := by
  unfold RPost
  have H1 := Lib.hid (rnum_any (l.length : Int) h hcap)
  have HL := Lib.hid hl
  have HG := Lib.hid hg
  have Hh := Lib.hid h
  have HN := Lib.hid hn
  clear h hl hg hcap hn
  go_enter Try.func39, Try.ntmps39
  go_wp2_with (go_at_call 38; refine H1.out.mono ?_; rintro e w1 ⟨rfl, a1, hc1, hW1, hK1⟩)
  go_loopw [4] (fun i wr => ∃ k : Nat, k ≤ l.length ∧ i = .int .i64 (k : Int) ∧ ∃ a2, Cap a2 (b ++ le8 l.length ++ (l.take k).flatMap eImp) ∧ WrIs 81 tlR wr g a2 ∧ Keep w wr g) (fun i _ => l.length - (intOf i).toNat)
  case atStart => exact ⟨0, by omega, by go_num, a1, by simpa using hc1, hW1, hK1⟩
  case round =>
    obtain ⟨k, hk, rfl, a2, hc2, hW, hK⟩ := hrel
    by_cases hlt : k < l.length
    · have p0 : (0 : Int) ≤ (k : Int) := by omega
      have p1 : (k : Int) < (l.length : Int) := by omega
      by_cases hf : 262144 < a2.length
      · have hfu := Lib.hid (full_any hW hc2.1)
        rw [decide_eq_true hf] at hfu
        have hfin := hc2.full hf ((l.drop k).flatMap eImp)
        rw [List.append_assoc _ ((l.take k).flatMap eImp), ← List.flatMap_append, List.take_append_drop] at hfin
        have HF := Lib.hid hfin
        have HW := Lib.hid hW
        clear hf hfin hW hc2
        go_wp2_with (go_at_call 43; refine hfu.out.mono ?_; rintro e w2 ⟨rfl, rfl⟩)
        go_end0
        exact ⟨rfl, a2, HF.out, HW.out, hK⟩
      · have hfu := Lib.hid (full_any hW hc2.1)
        rw [decide_eq_false hf] at hfu
        have hbz := Lib.hid (hb.trans (hK.low Hh.out HG.out))
        have hx : (l.getD k z44) ∈ l := getD_mem hlt
        have hsz := HN.out _ hx
        have hfs := flat_succ eImp l k z44 hlt
        obtain ⟨ad, rfl, x0, x1⟩ := at_T44 (Kd.C_below hr hbz.out) (k : Int) p0 p1
        have x2 := fun X (hX : Below w0.heap.size w0 X) => at_T44 (Kd.C_below hr hX) (k : Int) p0 p1
        have hm : (k : Int) < 9223372036854775807 := by have := HL.out; omega
        rw [show rd_T44 l (k : Int) = l.getD k z44 from rfl] at x0 x1 x2
        simp only [Int.toNat_natCast] at x0 x1 x2
        generalize l.getD k z44 = x at *
        have HT := Lib.hid (rtext_any x.f0 hW hc2 hsz)
        have HX := Lib.hid x2
        have Hf := Lib.hid hfs
        have HW := Lib.hid hW
        clear x2 hfs hW hc2 hf hsz hx
        go_wp2_with (first | (go_at_call 43; refine hfu.out.mono ?_; rintro e w2 ⟨rfl, rfl⟩) | (go_at_call 37; refine HT.out.mono ?_; rintro e w3 ⟨rfl, a3, hc3, hW3, hK3⟩; obtain ⟨ad', hA, y0, y1⟩ := HX.out w3 (hbz.out.trans (hK3.low HW.out HG.out)); cases hA) | (go_at_call 38; refine (rnum_any x.f1 hW3 hc3).mono ?_; rintro e w4 ⟨rfl, a4, hc4, hW4, hK4⟩))
        go_roundw
        case rel => exact ⟨k + 1, by omega, by go_num, a4, by rw [Hf.out]; unfold eImp; simp only [List.append_assoc] at hc4 ⊢; exact hc4, hW4, (hK.trans hK3).trans hK4⟩
        case measure => simp [intOf]; omega
    · obtain rfl : k = l.length := by omega
      go_wp2
      go_end0
      exact ⟨rfl, a2, by rw [List.take_length] at hc2; exact hc2, hW, hK⟩
end Go.Proofs.Ytnbgbmddkbneeaa.Obj

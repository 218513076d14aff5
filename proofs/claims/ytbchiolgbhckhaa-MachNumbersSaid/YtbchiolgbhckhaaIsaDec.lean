/- What isa.Decode hands back of a word: the instruction that it is, or an error. -/
import Derived.Test.YtbchiolgbhckhaaDec
set_option linter.unusedVariables false
set_option linter.unusedSimpArgs false
namespace Go.Proofs.Ytbchiolgbhckhaa.Mach
open Go.RowKit Go.Proofs.YtbchiolgbhckhaaW.PrintWords Go.Proofs.Ytbchiolgbhckhaa.PMachRuns
set_option maxHeartbeats 1000000 in
theorem decode_a (v : Int) (k a b c : Nat) (i E W : Int) (h1 : wrap64 (IntKind.u64.wrap v / 72057594037927936) = (k : Int)) (h2 : wrap64 (bits BinOp.and IntKind.u64 (IntKind.u64.wrap v / 4503599627370496) 15) = (a : Int))
    (h3 : wrap64 (bits BinOp.and IntKind.u64 (IntKind.u64.wrap v / 281474976710656) 15) = (b : Int)) (h4 : wrap64 (bits BinOp.and IntKind.u64 (IntKind.u64.wrap v / 17592186044416) 15) = (c : Int)) (h5 : wrap64 (wrap32 (IntKind.u64.wrap v)) = i)
    (ha : a < 16) (hb : b < 16) (hc : c < 16) (i0 : -2147483648 ≤ i) (i1 : i ≤ 2147483647) (he : enc2 k a b c i = (W, E)) (hE : (E != 0) = true) (w : World) :
    Calls Try.prog 50 #[.int .i64 v] w fun e w' => e = .returned (.tuple #[.agg #[.int .i64 0, .int .i64 0, .int .i64 0, .int .i64 0, .int .i64 0], .int .i64 4]) ∧ Below w.heap.size w w' := by
  have hcall := fun wx => encode_any k a b c i ha hb hc i0 i1 wx
  rw [he] at hcall
  dsimp only at hcall
  have H := Lib.hid hcall
  clear hcall he
  go_enter Try.func50, Try.ntmps50
  go_wp2_with (go_at_call 60; refine (H.out _).mono ?_; rintro e w' ⟨rfl, hb⟩; obtain ⟨hc, hf, hz⟩ := bcell' (n := w.heap.size + 2) hb (by simp))
  exact bodyPost_ret (v := .tuple #[.agg #[.int .i64 0, .int .i64 0, .int .i64 0, .int .i64 0, .int .i64 0], .int .i64 4]) (by simp [results, Try.results50, go_sem, hc, hz, hf]) rfl ⟨rfl, by repeat (first | exact ((((Below.refl _ _).alloc (Nat.le_refl _) _).alloc (by simp) _).trans (hb.mono (by simp; omega))) | refine Below.setCell ?_ (by simp) _)⟩
set_option maxHeartbeats 1000000 in
theorem decode_b (v : Int) (k a b c : Nat) (i E W : Int) (h1 : wrap64 (IntKind.u64.wrap v / 72057594037927936) = (k : Int)) (h2 : wrap64 (bits BinOp.and IntKind.u64 (IntKind.u64.wrap v / 4503599627370496) 15) = (a : Int))
    (h3 : wrap64 (bits BinOp.and IntKind.u64 (IntKind.u64.wrap v / 281474976710656) 15) = (b : Int)) (h4 : wrap64 (bits BinOp.and IntKind.u64 (IntKind.u64.wrap v / 17592186044416) 15) = (c : Int)) (h5 : wrap64 (wrap32 (IntKind.u64.wrap v)) = i)
    (ha : a < 16) (hb : b < 16) (hc : c < 16) (i0 : -2147483648 ≤ i) (i1 : i ≤ 2147483647) (he : enc2 k a b c i = (W, E)) (hE : (E != 0) = false) (hW : (W != v) = true) (w : World) :
    Calls Try.prog 50 #[.int .i64 v] w fun e w' => e = .returned (.tuple #[.agg #[.int .i64 0, .int .i64 0, .int .i64 0, .int .i64 0, .int .i64 0], .int .i64 4]) ∧ Below w.heap.size w w' := by
  have hcall := fun wx => encode_any k a b c i ha hb hc i0 i1 wx
  rw [he] at hcall
  dsimp only at hcall
  have H := Lib.hid hcall
  clear hcall he
  go_enter Try.func50, Try.ntmps50
  go_wp2_with (go_at_call 60; refine (H.out _).mono ?_; rintro e w' ⟨rfl, hb⟩; obtain ⟨hc, hf, hz⟩ := bcell' (n := w.heap.size + 2) hb (by simp))
  exact bodyPost_ret (v := .tuple #[.agg #[.int .i64 0, .int .i64 0, .int .i64 0, .int .i64 0, .int .i64 0], .int .i64 4]) (by simp [results, Try.results50, go_sem, hc, hz, hf]) rfl ⟨rfl, by repeat (first | exact ((((Below.refl _ _).alloc (Nat.le_refl _) _).alloc (by simp) _).trans (hb.mono (by simp; omega))) | refine Below.setCell ?_ (by simp) _)⟩
set_option maxHeartbeats 1000000 in
theorem decode_c (v : Int) (k a b c : Nat) (i E W : Int) (h1 : wrap64 (IntKind.u64.wrap v / 72057594037927936) = (k : Int)) (h2 : wrap64 (bits BinOp.and IntKind.u64 (IntKind.u64.wrap v / 4503599627370496) 15) = (a : Int))
    (h3 : wrap64 (bits BinOp.and IntKind.u64 (IntKind.u64.wrap v / 281474976710656) 15) = (b : Int)) (h4 : wrap64 (bits BinOp.and IntKind.u64 (IntKind.u64.wrap v / 17592186044416) 15) = (c : Int)) (h5 : wrap64 (wrap32 (IntKind.u64.wrap v)) = i)
    (ha : a < 16) (hb : b < 16) (hc : c < 16) (i0 : -2147483648 ≤ i) (i1 : i ≤ 2147483647) (he : enc2 k a b c i = (W, E)) (hE : (E != 0) = false) (hW : (W != v) = false) (w : World) :
    Calls Try.prog 50 #[.int .i64 v] w fun e w' => e = .returned (.tuple #[.agg #[.int .i64 k, .int .i64 a, .int .i64 b, .int .i64 c, .int .i64 i], .int .i64 0]) ∧ Below w.heap.size w w' := by
  have hcall := fun wx => encode_any k a b c i ha hb hc i0 i1 wx
  rw [he] at hcall
  dsimp only at hcall
  have H := Lib.hid hcall
  clear hcall he
  go_enter Try.func50, Try.ntmps50
  go_wp2_with (go_at_call 60; refine (H.out _).mono ?_; rintro e w' ⟨rfl, hb⟩; obtain ⟨hc, hf, hz⟩ := bcell' (n := w.heap.size + 2) hb (by simp))
  exact bodyPost_ret (v := .tuple #[.agg #[.int .i64 k, .int .i64 a, .int .i64 b, .int .i64 c, .int .i64 i], .int .i64 0]) (by simp [results, Try.results50, go_sem, hc, hz, hf]) rfl ⟨rfl, by repeat (first | exact ((((Below.refl _ _).alloc (Nat.le_refl _) _).alloc (by simp) _).trans (hb.mono (by simp; omega))) | refine Below.setCell ?_ (by simp) _)⟩
end Go.Proofs.Ytbchiolgbhckhaa.Mach

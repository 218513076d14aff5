/- What isa.Encode hands back: of an instruction that there is its word, else an error. -/
import Derived.Test.YtbchiolgbhckhaaIsaOf
set_option linter.unusedVariables false
set_option linter.unusedSimpArgs false
namespace Go.Proofs.Ytbchiolgbhckhaa.Mach
open Go.RowKit Go.Proofs.YtbchiolgbhckhaaW.PrintWords Go.Proofs.Ytbchiolgbhckhaa.PMachRuns

theorem bcell' {W w1 : World} {n : Nat} (hb : Below W.heap.size W w1) (hn : W.heap.size = n) : (∀ b o, b < n → w1.cell? ⟨b, o, none⟩ = W.cell? ⟨b, o, none⟩) ∧ (∀ b o, b < n → w1.frozen? ⟨b, o, none⟩ = W.frozen? ⟨b, o, none⟩) ∧ (∀ b, b < n → b < w1.heap.size) := by
  subst hn
  exact ⟨fun b o h => hb.cell (p := ⟨b, o, none⟩) h, fun b o h => hb.frozen (p := ⟨b, o, none⟩) h, fun b h => Nat.lt_of_lt_of_le h hb.size⟩

/-- May a register stand there? -/
def mayB (x : Int) (has : Bool) : Bool := (isa_may.f x has).getD false
theorem may_any (x : Int) (has : Bool) (w : World) : Calls Try.prog 70 #[.int .i64 x, .bool has] w fun e w' => e = .returned (.bool (mayB x has)) ∧ Drawn0 w w' := by
  refine isa_may.calls x has (mayB x has) w ?_
  unfold mayB isa_may.f
  split
  · rfl
  · split
    · split <;> rfl
    · rfl

set_option maxHeartbeats 1000000 in
theorem encode_no_op (n a b c i : Int) (h : n < 0 ∨ usesOf n.toNat = none) (w : World) :
    Calls Try.prog 60 #[.agg #[.int .i64 n, .int .i64 a, .int .i64 b, .int .i64 c, .int .i64 i]] w fun e w' => e = .returned (.tuple #[.int .i64 0, .int .i64 4]) ∧ Below w.heap.size w w' := by
  have H := Lib.hid h
  clear h
  go_enter Try.func60, Try.ntmps60
  go_wp2_with (go_at_call 69; refine (of_no n H.out _).mono ?_; rintro e w' ⟨rfl, hb⟩)
  go_ret2
  exact ⟨rfl, ((Below.refl _ _).alloc (Nat.le_refl _) _).trans ((hb.alloc hb.size _).mono (by simp))⟩

set_option maxHeartbeats 1000000 in
theorem encode_no_a (k : Nat) (a b c i r : Int) (m hA hB hC : Bool) (h : usesOf k = some (r, m)) (h1 : (bits .and .i64 r 1 != 0) = hA) (h2 : (bits .and .i64 r 2 != 0) = hB) (h3 : (bits .and .i64 r 4 != 0) = hC) (ma : mayB a hA = false) (w : World) :
    Calls Try.prog 60 #[.agg #[.int .i64 k, .int .i64 a, .int .i64 b, .int .i64 c, .int .i64 i]] w fun e w' => e = .returned (.tuple #[.int .i64 0, .int .i64 4]) ∧ Below w.heap.size w w' := by
  have H := Lib.hid h
  clear h
  go_enter Try.func60, Try.ntmps60
  go_wp2_with (first | (go_at_call 69; refine (of_ok k r m H.out _).mono ?_; rintro e w' ⟨s, rfl, hb⟩; obtain ⟨hc, hf, hz⟩ := bcell' hb (World.size_alloc _ _)) | (go_at_call 70; refine (may_any _ _ _).mono ?_; rintro e w'' ⟨rfl, ⟨nd, rfl⟩⟩))
  go_ret2
  exact ⟨rfl, by repeat (first | exact ((Below.refl _ _).alloc (Nat.le_refl _) _).trans ((hb.alloc hb.size _).mono (by simp)) | refine pw_below_drewN ?_ _)⟩
set_option maxHeartbeats 1000000 in
theorem encode_no_b (k : Nat) (a b c i r : Int) (m hA hB hC : Bool) (h : usesOf k = some (r, m)) (h1 : (bits .and .i64 r 1 != 0) = hA) (h2 : (bits .and .i64 r 2 != 0) = hB) (h3 : (bits .and .i64 r 4 != 0) = hC) (ma : mayB a hA = true) (mb : mayB b hB = false) (w : World) :
    Calls Try.prog 60 #[.agg #[.int .i64 k, .int .i64 a, .int .i64 b, .int .i64 c, .int .i64 i]] w fun e w' => e = .returned (.tuple #[.int .i64 0, .int .i64 4]) ∧ Below w.heap.size w w' := by
  have H := Lib.hid h
  clear h
  go_enter Try.func60, Try.ntmps60
  go_wp2_with (first | (go_at_call 69; refine (of_ok k r m H.out _).mono ?_; rintro e w' ⟨s, rfl, hb⟩; obtain ⟨hc, hf, hz⟩ := bcell' hb (World.size_alloc _ _)) | (go_at_call 70; refine (may_any _ _ _).mono ?_; rintro e w'' ⟨rfl, ⟨nd, rfl⟩⟩))
  go_ret2
  exact ⟨rfl, by repeat (first | exact ((Below.refl _ _).alloc (Nat.le_refl _) _).trans ((hb.alloc hb.size _).mono (by simp)) | refine pw_below_drewN ?_ _)⟩
set_option maxHeartbeats 1000000 in
theorem encode_no_c (k : Nat) (a b c i r : Int) (m hA hB hC : Bool) (h : usesOf k = some (r, m)) (h1 : (bits .and .i64 r 1 != 0) = hA) (h2 : (bits .and .i64 r 2 != 0) = hB) (h3 : (bits .and .i64 r 4 != 0) = hC) (ma : mayB a hA = true) (mb : mayB b hB = true) (mc : mayB c hC = false) (w : World) :
    Calls Try.prog 60 #[.agg #[.int .i64 k, .int .i64 a, .int .i64 b, .int .i64 c, .int .i64 i]] w fun e w' => e = .returned (.tuple #[.int .i64 0, .int .i64 4]) ∧ Below w.heap.size w w' := by
  have H := Lib.hid h
  clear h
  go_enter Try.func60, Try.ntmps60
  go_wp2_with (first | (go_at_call 69; refine (of_ok k r m H.out _).mono ?_; rintro e w' ⟨s, rfl, hb⟩; obtain ⟨hc, hf, hz⟩ := bcell' hb (World.size_alloc _ _)) | (go_at_call 70; refine (may_any _ _ _).mono ?_; rintro e w'' ⟨rfl, ⟨nd, rfl⟩⟩))
  go_ret2
  exact ⟨rfl, by repeat (first | exact ((Below.refl _ _).alloc (Nat.le_refl _) _).trans ((hb.alloc hb.size _).mono (by simp)) | refine pw_below_drewN ?_ _)⟩
set_option maxHeartbeats 1000000 in
theorem encode_no_i (k : Nat) (a b c i r : Int) (m hA hB hC : Bool) (h : usesOf k = some (r, m)) (h1 : (bits .and .i64 r 1 != 0) = hA) (h2 : (bits .and .i64 r 2 != 0) = hB) (h3 : (bits .and .i64 r 4 != 0) = hC) (ma : mayB a hA = true) (mb : mayB b hB = true) (mc : mayB c hC = true) (hm : m = false) (hi : (i != 0) = true) (w : World) :
    Calls Try.prog 60 #[.agg #[.int .i64 k, .int .i64 a, .int .i64 b, .int .i64 c, .int .i64 i]] w fun e w' => e = .returned (.tuple #[.int .i64 0, .int .i64 4]) ∧ Below w.heap.size w w' := by
  have H := Lib.hid h
  clear h
  go_enter Try.func60, Try.ntmps60
  go_wp2_with (first | (go_at_call 69; refine (of_ok k r m H.out _).mono ?_; rintro e w' ⟨s, rfl, hb⟩; obtain ⟨hc, hf, hz⟩ := bcell' hb (World.size_alloc _ _)) | (go_at_call 70; refine (may_any _ _ _).mono ?_; rintro e w'' ⟨rfl, ⟨nd, rfl⟩⟩))
  go_ret2
  exact ⟨rfl, by repeat (first | exact ((Below.refl _ _).alloc (Nat.le_refl _) _).trans ((hb.alloc hb.size _).mono (by simp)) | refine pw_below_drewN ?_ _)⟩
set_option maxHeartbeats 1000000 in
theorem encode_yes_i (k : Nat) (a b c i r : Int) (m hA hB hC : Bool) (h : usesOf k = some (r, m)) (h1 : (bits .and .i64 r 1 != 0) = hA) (h2 : (bits .and .i64 r 2 != 0) = hB) (h3 : (bits .and .i64 r 4 != 0) = hC) (ma : mayB a hA = true) (mb : mayB b hB = true) (mc : mayB c hC = true) (hm : m = true) (i0 : -2147483648 ≤ i) (i1 : i ≤ 2147483647) (w : World) :
    Calls Try.prog 60 #[.agg #[.int .i64 k, .int .i64 a, .int .i64 b, .int .i64 c, .int .i64 i]] w fun e w' => e = .returned (.tuple #[.int .i64 (bits .or .i64 (bits .or .i64 (bits .or .i64 (bits .or .i64 (wrap64 (k * 72057594037927936)) (wrap64 (a * 4503599627370496))) (wrap64 (b * 281474976710656))) (wrap64 (c * 17592186044416))) (i % 4294967296)), .int .i64 0]) ∧ Below w.heap.size w w' := by
  have H := Lib.hid h
  clear h
  go_enter Try.func60, Try.ntmps60
  go_wp2_with (first | (go_at_call 69; refine (of_ok k r m H.out _).mono ?_; rintro e w' ⟨s, rfl, hb⟩; obtain ⟨hc, hf, hz⟩ := bcell' hb (World.size_alloc _ _)) | (go_at_call 70; refine (may_any _ _ _).mono ?_; rintro e w'' ⟨rfl, ⟨nd, rfl⟩⟩))
  go_ret2
  exact ⟨rfl, by repeat (first | exact ((Below.refl _ _).alloc (Nat.le_refl _) _).trans ((hb.alloc hb.size _).mono (by simp)) | refine pw_below_drewN ?_ _)⟩
set_option maxHeartbeats 1000000 in
theorem encode_yes_0 (k : Nat) (a b c i r : Int) (m hA hB hC : Bool) (h : usesOf k = some (r, m)) (h1 : (bits .and .i64 r 1 != 0) = hA) (h2 : (bits .and .i64 r 2 != 0) = hB) (h3 : (bits .and .i64 r 4 != 0) = hC) (ma : mayB a hA = true) (mb : mayB b hB = true) (mc : mayB c hC = true) (hm : m = false) (hi : (i != 0) = false) (i0 : -2147483648 ≤ i) (i1 : i ≤ 2147483647) (w : World) :
    Calls Try.prog 60 #[.agg #[.int .i64 k, .int .i64 a, .int .i64 b, .int .i64 c, .int .i64 i]] w fun e w' => e = .returned (.tuple #[.int .i64 (bits .or .i64 (bits .or .i64 (bits .or .i64 (bits .or .i64 (wrap64 (k * 72057594037927936)) (wrap64 (a * 4503599627370496))) (wrap64 (b * 281474976710656))) (wrap64 (c * 17592186044416))) (i % 4294967296)), .int .i64 0]) ∧ Below w.heap.size w w' := by
  have H := Lib.hid h
  clear h
  go_enter Try.func60, Try.ntmps60
  go_wp2_with (first | (go_at_call 69; refine (of_ok k r m H.out _).mono ?_; rintro e w' ⟨s, rfl, hb⟩; obtain ⟨hc, hf, hz⟩ := bcell' hb (World.size_alloc _ _)) | (go_at_call 70; refine (may_any _ _ _).mono ?_; rintro e w'' ⟨rfl, ⟨nd, rfl⟩⟩))
  go_ret2
  exact ⟨rfl, by repeat (first | exact ((Below.refl _ _).alloc (Nat.le_refl _) _).trans ((hb.alloc hb.size _).mono (by simp)) | refine pw_below_drewN ?_ _)⟩
end Go.Proofs.Ytbchiolgbhckhaa.Mach

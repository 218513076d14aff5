/- The operations of the machine, one walk each: calls and returns. -/
import Derived.Test.YtbchiolgbhckhaaOps2
set_option linter.unusedVariables false
set_option linter.unusedSimpArgs false
namespace Go.Proofs.Ytbchiolgbhckhaa.Mach
open Go.RowKit Go.Proofs.YtbchiolgbhckhaaW.PrintWords Go.Proofs.YtbchiolgbhckhaaW.PrintMore Go.Proofs.Ytbchiolgbhckhaa.PMachRuns

set_option maxHeartbeats 1000000 in
theorem call_yes (m mb n cp a b c : Nat) (o i xa xb xc x15 pc k v : Int) (w : World) (hm : m < w.heap.size) (hf : ∀ o, w.frozen? ⟨m, o, none⟩ = false) (hmem : w.cell? ⟨m, 1, none⟩ = some (.slice (some ⟨mb, 0, none⟩) n cp)) (hn : n ≤ 262144) (h15 : w.cell? ⟨m, 17, none⟩ = some (.int .i64 x15)) (h18 : w.cell? ⟨m, 18, none⟩ = some (.int .i64 pc)) (hk : IntKind.i64.wrap (x15 - 1) = k) (k0 : 0 ≤ k) (k1 : k < n) (hv : w.cell? ⟨mb, k.toNat, none⟩ = some (.int .i64 v)) (hmb : mb < w.heap.size) (hfm : w.frozen? ⟨mb, k.toNat, none⟩ = false) (hne : ¬ m = mb) (hne' : ¬ mb = m) :
    Calls Try.prog 42 #[.pointer (some ⟨m, 0, none⟩), .agg #[.int .i64 o, .int .i64 a, .int .i64 b, .int .i64 c, .int .i64 i]] w (Did w (pcW (enterW w m mb k pc) m i)) := by
  have f1 := (World.cell?_alloc_past (w := w) (.cells #[.int .i64 o, .int .i64 a, .int .i64 b, .int .i64 c, .int .i64 i] 50) m 1 hm).trans hmem
  have f2 := (World.cell?_alloc_past (w := w) (.cells #[.int .i64 o, .int .i64 a, .int .i64 b, .int .i64 c, .int .i64 i] 50) m 17 hm).trans h15
  have f3 := (World.cell?_alloc_past (w := w) (.cells #[.int .i64 o, .int .i64 a, .int .i64 b, .int .i64 c, .int .i64 i] 50) m 18 hm).trans h18
  have f6 : ∀ o', (w.alloc (.cells #[.int .i64 o, .int .i64 a, .int .i64 b, .int .i64 c, .int .i64 i] 50)).frozen? ⟨m, o', none⟩ = false := fun o' => (World.frozen?_alloc_past (w := w) (.cells #[.int .i64 o, .int .i64 a, .int .i64 b, .int .i64 c, .int .i64 i] 50) m o' hm).trans (hf o')
  have f4 := (World.cell?_alloc_past (w := w) (.cells #[.int .i64 o, .int .i64 a, .int .i64 b, .int .i64 c, .int .i64 i] 50) mb k.toNat hmb).trans hv
  have f5 := (World.frozen?_alloc_past (w := w) (.cells #[.int .i64 o, .int .i64 a, .int .i64 b, .int .i64 c, .int .i64 i] 50) mb k.toNat hmb).trans hfm
  have hm2 : m < (w.alloc (.cells #[.int .i64 o, .int .i64 a, .int .i64 b, .int .i64 c, .int .i64 i] 50)).heap.size := by simp; omega
  have hmb2 : mb < (w.alloc (.cells #[.int .i64 o, .int .i64 a, .int .i64 b, .int .i64 c, .int .i64 i] 50)).heap.size := by simp; omega
  go_enter Try.func42, Try.ntmps42
  go_wp2_with (go_at_call 59; refine (enter_yes m mb n cp x15 pc k v _ (by exact hm2) (by exact f6) (by exact f1) hn (by exact f2) (by exact f3) hk k0 k1 (by exact f4) (by exact hmb2) (by exact f5) hne hne').mono ?_; rintro e w' ⟨rfl, rfl⟩; unfold enterW regW memW)
  go_end0
  exact ⟨rfl, by repeat (first | exact (Below.refl _ _).alloc (by simp [endsW, regW, memW, pcW, enterW]) _ | refine Below.drew ?_)⟩
set_option maxHeartbeats 1000000 in
theorem call_no (m n cp a b c : Nat) (A : Option Addr) (o i xa xb xc x15 pc k : Int) (w : World) (hm : m < w.heap.size) (hf : ∀ o, w.frozen? ⟨m, o, none⟩ = false) (hmem : w.cell? ⟨m, 1, none⟩ = some (.slice A n cp)) (hn : n ≤ 262144) (h15 : w.cell? ⟨m, 17, none⟩ = some (.int .i64 x15)) (h18 : w.cell? ⟨m, 18, none⟩ = some (.int .i64 pc)) (hk : IntKind.i64.wrap (x15 - 1) = k) (k0 : k < 0 ∨ n ≤ k) :
    Calls Try.prog 42 #[.pointer (some ⟨m, 0, none⟩), .agg #[.int .i64 o, .int .i64 a, .int .i64 b, .int .i64 c, .int .i64 i]] w (Died w) := by
  have f1 := (World.cell?_alloc_past (w := w) (.cells #[.int .i64 o, .int .i64 a, .int .i64 b, .int .i64 c, .int .i64 i] 50) m 1 hm).trans hmem
  have f2 := (World.cell?_alloc_past (w := w) (.cells #[.int .i64 o, .int .i64 a, .int .i64 b, .int .i64 c, .int .i64 i] 50) m 17 hm).trans h15
  have f3 := (World.cell?_alloc_past (w := w) (.cells #[.int .i64 o, .int .i64 a, .int .i64 b, .int .i64 c, .int .i64 i] 50) m 18 hm).trans h18
  have f6 : ∀ o', (w.alloc (.cells #[.int .i64 o, .int .i64 a, .int .i64 b, .int .i64 c, .int .i64 i] 50)).frozen? ⟨m, o', none⟩ = false := fun o' => (World.frozen?_alloc_past (w := w) (.cells #[.int .i64 o, .int .i64 a, .int .i64 b, .int .i64 c, .int .i64 i] 50) m o' hm).trans (hf o')
  have hm2 : m < (w.alloc (.cells #[.int .i64 o, .int .i64 a, .int .i64 b, .int .i64 c, .int .i64 i] 50)).heap.size := by simp; omega
  go_enter Try.func42, Try.ntmps42
  have K0 := Lib.hid k0
  clear k0
  go_wp2_with (go_at_call 59; refine (enter_no m n cp A x15 pc k _ (by exact hm2) (by exact f6) (by exact f1) hn (by exact f2) (by exact f3) hk K0.out).mono ?_; rintro e w' ⟨rfl, rfl⟩; dsimp only [faultP])
  exact ⟨rfl, rfl, ((Below.refl _ _).alloc (Nat.le_refl _) _).drew⟩
set_option maxHeartbeats 1000000 in
theorem at_yes_15 (m mb n cp a b c : Nat) (o i xa xb xc x15 pc k v : Int) (w : World) (hm : m < w.heap.size) (hf : ∀ o, w.frozen? ⟨m, o, none⟩ = false) (hmem : w.cell? ⟨m, 1, none⟩ = some (.slice (some ⟨mb, 0, none⟩) n cp)) (hn : n ≤ 262144) (h15 : w.cell? ⟨m, 17, none⟩ = some (.int .i64 x15)) (h18 : w.cell? ⟨m, 18, none⟩ = some (.int .i64 pc)) (hk : IntKind.i64.wrap (x15 - 1) = k) (k0 : 0 ≤ k) (k1 : k < n) (hv : w.cell? ⟨mb, k.toNat, none⟩ = some (.int .i64 v)) (hmb : mb < w.heap.size) (hfm : w.frozen? ⟨mb, k.toNat, none⟩ = false) (hne : ¬ m = mb) (hne' : ¬ mb = m) (e15 : 2 + a = 17) :
    Calls Try.prog 43 #[.pointer (some ⟨m, 0, none⟩), .agg #[.int .i64 o, .int .i64 a, .int .i64 b, .int .i64 c, .int .i64 i]] w (Did w (pcW (enterW w m mb k pc) m k)) := by
  have la : (a : Int) < 16 := by omega
  have f1 := (World.cell?_alloc_past (w := w) (.cells #[.int .i64 o, .int .i64 a, .int .i64 b, .int .i64 c, .int .i64 i] 50) m 1 hm).trans hmem
  have f2 := (World.cell?_alloc_past (w := w) (.cells #[.int .i64 o, .int .i64 a, .int .i64 b, .int .i64 c, .int .i64 i] 50) m 17 hm).trans h15
  have f3 := (World.cell?_alloc_past (w := w) (.cells #[.int .i64 o, .int .i64 a, .int .i64 b, .int .i64 c, .int .i64 i] 50) m 18 hm).trans h18
  have f6 : ∀ o', (w.alloc (.cells #[.int .i64 o, .int .i64 a, .int .i64 b, .int .i64 c, .int .i64 i] 50)).frozen? ⟨m, o', none⟩ = false := fun o' => (World.frozen?_alloc_past (w := w) (.cells #[.int .i64 o, .int .i64 a, .int .i64 b, .int .i64 c, .int .i64 i] 50) m o' hm).trans (hf o')
  have f4 := (World.cell?_alloc_past (w := w) (.cells #[.int .i64 o, .int .i64 a, .int .i64 b, .int .i64 c, .int .i64 i] 50) mb k.toNat hmb).trans hv
  have f5 := (World.frozen?_alloc_past (w := w) (.cells #[.int .i64 o, .int .i64 a, .int .i64 b, .int .i64 c, .int .i64 i] 50) mb k.toNat hmb).trans hfm
  have hm2 : m < (w.alloc (.cells #[.int .i64 o, .int .i64 a, .int .i64 b, .int .i64 c, .int .i64 i] 50)).heap.size := by simp; omega
  have hmb2 : mb < (w.alloc (.cells #[.int .i64 o, .int .i64 a, .int .i64 b, .int .i64 c, .int .i64 i] 50)).heap.size := by simp; omega
  go_enter Try.func43, Try.ntmps43
  go_wp2_with (go_at_call 59; refine (enter_yes m mb n cp x15 pc k v _ (by exact hm2) (by exact f6) (by exact f1) hn (by exact f2) (by exact f3) hk k0 k1 (by exact f4) (by exact hmb2) (by exact f5) hne hne').mono ?_; rintro e w' ⟨rfl, rfl⟩; unfold enterW regW memW)
  refine region_tail 10 mixed (by kernel_rfl) ?_
  simp only [List.take_succ_cons, List.take_zero, List.drop_succ_cons, List.drop_zero]
  repeat still_step
  refine wpStill_nil ?_
  go_wp2
  go_end0
  exact ⟨rfl, by repeat (first | exact (Below.refl _ _).alloc (by simp [endsW, regW, memW, pcW, enterW]) _ | refine Below.drew ?_)⟩
set_option maxHeartbeats 1000000 in
theorem at_yes (m mb n cp a b c : Nat) (o i xa xb xc x15 pc k v : Int) (w : World) (hm : m < w.heap.size) (hf : ∀ o, w.frozen? ⟨m, o, none⟩ = false) (hmem : w.cell? ⟨m, 1, none⟩ = some (.slice (some ⟨mb, 0, none⟩) n cp)) (hn : n ≤ 262144) (h15 : w.cell? ⟨m, 17, none⟩ = some (.int .i64 x15)) (h18 : w.cell? ⟨m, 18, none⟩ = some (.int .i64 pc)) (hk : IntKind.i64.wrap (x15 - 1) = k) (k0 : 0 ≤ k) (k1 : k < n) (hv : w.cell? ⟨mb, k.toNat, none⟩ = some (.int .i64 v)) (hmb : mb < w.heap.size) (hfm : w.frozen? ⟨mb, k.toNat, none⟩ = false) (hne : ¬ m = mb) (hne' : ¬ mb = m) (ha : w.cell? ⟨m, 2 + a, none⟩ = some (.int .i64 xa)) (la : (a : Int) < 16) (g15 : ¬ a = 15) :
    Calls Try.prog 43 #[.pointer (some ⟨m, 0, none⟩), .agg #[.int .i64 o, .int .i64 a, .int .i64 b, .int .i64 c, .int .i64 i]] w (Did w (pcW (enterW w m mb k pc) m xa)) := by
  have g1 : ¬ (17 = 2 + a) := by omega
  have g2 : ¬ (2 + a = 17) := by omega
  have g3 : ¬ (15 = a) := by omega
  have f1 := (World.cell?_alloc_past (w := w) (.cells #[.int .i64 o, .int .i64 a, .int .i64 b, .int .i64 c, .int .i64 i] 50) m 1 hm).trans hmem
  have f2 := (World.cell?_alloc_past (w := w) (.cells #[.int .i64 o, .int .i64 a, .int .i64 b, .int .i64 c, .int .i64 i] 50) m 17 hm).trans h15
  have f3 := (World.cell?_alloc_past (w := w) (.cells #[.int .i64 o, .int .i64 a, .int .i64 b, .int .i64 c, .int .i64 i] 50) m 18 hm).trans h18
  have f6 : ∀ o', (w.alloc (.cells #[.int .i64 o, .int .i64 a, .int .i64 b, .int .i64 c, .int .i64 i] 50)).frozen? ⟨m, o', none⟩ = false := fun o' => (World.frozen?_alloc_past (w := w) (.cells #[.int .i64 o, .int .i64 a, .int .i64 b, .int .i64 c, .int .i64 i] 50) m o' hm).trans (hf o')
  have f4 := (World.cell?_alloc_past (w := w) (.cells #[.int .i64 o, .int .i64 a, .int .i64 b, .int .i64 c, .int .i64 i] 50) mb k.toNat hmb).trans hv
  have f5 := (World.frozen?_alloc_past (w := w) (.cells #[.int .i64 o, .int .i64 a, .int .i64 b, .int .i64 c, .int .i64 i] 50) mb k.toNat hmb).trans hfm
  have hm2 : m < (w.alloc (.cells #[.int .i64 o, .int .i64 a, .int .i64 b, .int .i64 c, .int .i64 i] 50)).heap.size := by simp; omega
  have hmb2 : mb < (w.alloc (.cells #[.int .i64 o, .int .i64 a, .int .i64 b, .int .i64 c, .int .i64 i] 50)).heap.size := by simp; omega
  go_enter Try.func43, Try.ntmps43
  go_wp2_with (go_at_call 59; refine (enter_yes m mb n cp x15 pc k v _ (by exact hm2) (by exact f6) (by exact f1) hn (by exact f2) (by exact f3) hk k0 k1 (by exact f4) (by exact hmb2) (by exact f5) hne hne').mono ?_; rintro e w' ⟨rfl, rfl⟩; unfold enterW regW memW)
  refine region_tail 10 mixed (by kernel_rfl) ?_
  simp only [List.take_succ_cons, List.take_zero, List.drop_succ_cons, List.drop_zero]
  repeat still_step
  refine wpStill_nil ?_
  go_wp2
  go_end0
  exact ⟨rfl, by repeat (first | exact (Below.refl _ _).alloc (by simp [endsW, regW, memW, pcW, enterW]) _ | refine Below.drew ?_)⟩
set_option maxHeartbeats 1000000 in
theorem at_no (m n cp a b c : Nat) (A : Option Addr) (o i xa xb xc x15 pc k : Int) (w : World) (hm : m < w.heap.size) (hf : ∀ o, w.frozen? ⟨m, o, none⟩ = false) (hmem : w.cell? ⟨m, 1, none⟩ = some (.slice A n cp)) (hn : n ≤ 262144) (h15 : w.cell? ⟨m, 17, none⟩ = some (.int .i64 x15)) (h18 : w.cell? ⟨m, 18, none⟩ = some (.int .i64 pc)) (hk : IntKind.i64.wrap (x15 - 1) = k) (k0 : k < 0 ∨ n ≤ k) :
    Calls Try.prog 43 #[.pointer (some ⟨m, 0, none⟩), .agg #[.int .i64 o, .int .i64 a, .int .i64 b, .int .i64 c, .int .i64 i]] w (Died w) := by
  have f1 := (World.cell?_alloc_past (w := w) (.cells #[.int .i64 o, .int .i64 a, .int .i64 b, .int .i64 c, .int .i64 i] 50) m 1 hm).trans hmem
  have f2 := (World.cell?_alloc_past (w := w) (.cells #[.int .i64 o, .int .i64 a, .int .i64 b, .int .i64 c, .int .i64 i] 50) m 17 hm).trans h15
  have f3 := (World.cell?_alloc_past (w := w) (.cells #[.int .i64 o, .int .i64 a, .int .i64 b, .int .i64 c, .int .i64 i] 50) m 18 hm).trans h18
  have f6 : ∀ o', (w.alloc (.cells #[.int .i64 o, .int .i64 a, .int .i64 b, .int .i64 c, .int .i64 i] 50)).frozen? ⟨m, o', none⟩ = false := fun o' => (World.frozen?_alloc_past (w := w) (.cells #[.int .i64 o, .int .i64 a, .int .i64 b, .int .i64 c, .int .i64 i] 50) m o' hm).trans (hf o')
  have hm2 : m < (w.alloc (.cells #[.int .i64 o, .int .i64 a, .int .i64 b, .int .i64 c, .int .i64 i] 50)).heap.size := by simp; omega
  go_enter Try.func43, Try.ntmps43
  have K0 := Lib.hid k0
  clear k0
  go_wp2_with (go_at_call 59; refine (enter_no m n cp A x15 pc k _ (by exact hm2) (by exact f6) (by exact f1) hn (by exact f2) (by exact f3) hk K0.out).mono ?_; rintro e w' ⟨rfl, rfl⟩; dsimp only [faultP])
  exact ⟨rfl, rfl, ((Below.refl _ _).alloc (Nat.le_refl _) _).drew⟩
set_option maxHeartbeats 1000000 in
theorem ret_yes (m mb n cp a b c : Nat) (o i xa xb xc x15 pc v : Int) (w : World) (hm : m < w.heap.size) (hf : ∀ o, w.frozen? ⟨m, o, none⟩ = false) (hmem : w.cell? ⟨m, 1, none⟩ = some (.slice (some ⟨mb, 0, none⟩) n cp)) (hn : n ≤ 262144) (h15 : w.cell? ⟨m, 17, none⟩ = some (.int .i64 x15)) (h18 : w.cell? ⟨m, 18, none⟩ = some (.int .i64 pc)) (k0 : 0 ≤ x15) (k1 : x15 < n) (hv : w.cell? ⟨mb, x15.toNat, none⟩ = some (.int .i64 v)) (hmb : mb < w.heap.size) :
    Calls Try.prog 44 #[.pointer (some ⟨m, 0, none⟩), .agg #[.int .i64 o, .int .i64 a, .int .i64 b, .int .i64 c, .int .i64 i]] w (Did w (regW (pcW w m v) m 15 (x15 + 1))) := by
  have f1 := (World.cell?_alloc_past (w := w) (.cells #[.int .i64 o, .int .i64 a, .int .i64 b, .int .i64 c, .int .i64 i] 50) m 1 hm).trans hmem
  have f2 := (World.cell?_alloc_past (w := w) (.cells #[.int .i64 o, .int .i64 a, .int .i64 b, .int .i64 c, .int .i64 i] 50) m 17 hm).trans h15
  have f3 := (World.cell?_alloc_past (w := w) (.cells #[.int .i64 o, .int .i64 a, .int .i64 b, .int .i64 c, .int .i64 i] 50) m 18 hm).trans h18
  have f6 : ∀ o', (w.alloc (.cells #[.int .i64 o, .int .i64 a, .int .i64 b, .int .i64 c, .int .i64 i] 50)).frozen? ⟨m, o', none⟩ = false := fun o' => (World.frozen?_alloc_past (w := w) (.cells #[.int .i64 o, .int .i64 a, .int .i64 b, .int .i64 c, .int .i64 i] 50) m o' hm).trans (hf o')
  go_enter Try.func44, Try.ntmps44
  go_wp2_with (go_at_call 58; refine (word_yes m mb n cp _ _ k0 k1 hn (by exact f1)).mono ?_; rintro e w' ⟨rfl, rfl⟩)
  refine region_tail 9 mixed (by kernel_rfl) ?_
  simp only [List.take_succ_cons, List.take_zero, List.drop_succ_cons, List.drop_zero]
  repeat still_step
  refine wpStill_nil ?_
  go_wp2
  go_end0
  exact ⟨rfl, by repeat (first | exact (Below.refl _ _).alloc (by simp [endsW, regW, memW, pcW, enterW]) _ | refine Below.drew ?_)⟩
set_option maxHeartbeats 1000000 in
theorem ret_no (m n cp a b c : Nat) (A : Option Addr) (o i xa xb xc x15 pc : Int) (w : World) (hm : m < w.heap.size) (hf : ∀ o, w.frozen? ⟨m, o, none⟩ = false) (hmem : w.cell? ⟨m, 1, none⟩ = some (.slice A n cp)) (hn : n ≤ 262144) (h15 : w.cell? ⟨m, 17, none⟩ = some (.int .i64 x15)) (h18 : w.cell? ⟨m, 18, none⟩ = some (.int .i64 pc)) (k0 : x15 < 0 ∨ n ≤ x15) :
    Calls Try.prog 44 #[.pointer (some ⟨m, 0, none⟩), .agg #[.int .i64 o, .int .i64 a, .int .i64 b, .int .i64 c, .int .i64 i]] w (Died w) := by
  have f1 := (World.cell?_alloc_past (w := w) (.cells #[.int .i64 o, .int .i64 a, .int .i64 b, .int .i64 c, .int .i64 i] 50) m 1 hm).trans hmem
  have f2 := (World.cell?_alloc_past (w := w) (.cells #[.int .i64 o, .int .i64 a, .int .i64 b, .int .i64 c, .int .i64 i] 50) m 17 hm).trans h15
  have f3 := (World.cell?_alloc_past (w := w) (.cells #[.int .i64 o, .int .i64 a, .int .i64 b, .int .i64 c, .int .i64 i] 50) m 18 hm).trans h18
  have f6 : ∀ o', (w.alloc (.cells #[.int .i64 o, .int .i64 a, .int .i64 b, .int .i64 c, .int .i64 i] 50)).frozen? ⟨m, o', none⟩ = false := fun o' => (World.frozen?_alloc_past (w := w) (.cells #[.int .i64 o, .int .i64 a, .int .i64 b, .int .i64 c, .int .i64 i] 50) m o' hm).trans (hf o')
  go_enter Try.func44, Try.ntmps44
  have K0 := Lib.hid k0
  clear k0
  go_wp2_with (go_at_call 58; refine (word_no m A n cp _ _ K0.out hn (by exact f1)).mono ?_; rintro e w' ⟨rfl, rfl⟩; dsimp only [faultP])
  exact ⟨rfl, rfl, (Below.refl _ _).alloc (Nat.le_refl _) _⟩
end Go.Proofs.Ytbchiolgbhckhaa.Mach

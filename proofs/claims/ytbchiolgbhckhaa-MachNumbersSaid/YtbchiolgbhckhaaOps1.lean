/- The operations of the machine, one walk each: what each writes into the machine's own words. -/
import Derived.Test.YtbchiolgbhckhaaState
import Derived.Deep.RegionHeld3
set_option linter.unusedVariables false
set_option linter.unusedSimpArgs false
namespace Go.Proofs.Ytbchiolgbhckhaa.Mach
open Go.RowKit Go.Proofs.YtbchiolgbhckhaaW.PrintWords Go.Proofs.YtbchiolgbhckhaaW.PrintMore Go.Proofs.Ytbchiolgbhckhaa.PMachRuns

def faultP : Ending := .panicked [{ v := .iface 65 (.agg #[]), recovered := false }]
set_option maxHeartbeats 400000 in
theorem word_yes (m : Nat) (b : Nat) (n c : Nat) (a : Int) (w : World) (h0 : 0 ≤ a) (h1 : a < n) (hn : n ≤ 262144) (hc : w.cell? ⟨m, 1, none⟩ = some (.slice (some ⟨b, 0, none⟩) n c)) :
    Calls Try.prog 58 #[.pointer (some ⟨m, 0, none⟩), .int .i64 a] w fun e w' => e = .returned (.pointer (some ⟨b, a.toNat, none⟩)) ∧ w' = w := by
  go_enter Try.func58, Try.ntmps58
  go_wp2
  go_ret
  exact ⟨rfl, rfl⟩
set_option maxHeartbeats 400000 in
theorem word_no (m : Nat) (b : Option Addr) (n c : Nat) (a : Int) (w : World) (h : a < 0 ∨ n ≤ a) (hn : n ≤ 262144) (hc : w.cell? ⟨m, 1, none⟩ = some (.slice b n c)) :
    Calls Try.prog 58 #[.pointer (some ⟨m, 0, none⟩), .int .i64 a] w fun e w' => e = faultP ∧ w = w' := by
  go_enter Try.func58, Try.ntmps58
  rcases h with h | h
  · go_wp2
    exact ⟨rfl, rfl, rfl⟩
  · go_wp2
    exact ⟨rfl, rfl, rfl⟩
set_option maxHeartbeats 400000 in
theorem ends_any (m : Nat) (x y k c : Int) (w : World) (h6 : w.cell? ⟨m, 21, none⟩ = some (.int .i64 x)) (h7 : w.cell? ⟨m, 22, none⟩ = some (.int .i64 y)) (hf : ∀ o, w.frozen? ⟨m, o, none⟩ = false) :
    Calls Try.prog 49 #[.pointer (some ⟨m, 0, none⟩), .int .i64 k, .int .i64 c] w fun e w' => e = .returned (.tuple #[]) ∧ w' = (w.setCell ⟨m, 21, none⟩ (.int .i64 k)).setCell ⟨m, 22, none⟩ (.int .i64 c) := by
  go_enter Try.func49, Try.ntmps49
  go_wp2
  go_end0
  exact ⟨rfl, rfl⟩
/-- The end of a run, told. -/
def endsW (w : World) (m : Nat) (k c : Int) : World := (w.setCell ⟨m, 21, none⟩ (.int .i64 k)).setCell ⟨m, 22, none⟩ (.int .i64 c)
def regW (w : World) (m k : Nat) (v : Int) : World := w.setCell ⟨m, 2 + k, none⟩ (.int .i64 v)
def Did (w W : World) (e : Ending) (w' : World) : Prop := e = .returned (.tuple #[]) ∧ Below w.heap.size W w'

set_option maxHeartbeats 400000 in
theorem halt_any (m : Nat) (o a b c i x y : Int) (w : World) (hm : m < w.heap.size) (hf : ∀ o, w.frozen? ⟨m, o, none⟩ = false) (h6 : w.cell? ⟨m, 21, none⟩ = some (.int .i64 x)) (h7 : w.cell? ⟨m, 22, none⟩ = some (.int .i64 y)) :
    Calls Try.prog 32 #[.pointer (some ⟨m, 0, none⟩), .agg #[.int .i64 o, .int .i64 a, .int .i64 b, .int .i64 c, .int .i64 i]] w (Did w (endsW w m 1 0)) := by
  go_enter Try.func32, Try.ntmps32
  go_wp2
  go_end0
  go_wp2
  go_end0
  exact ⟨rfl, (Below.refl _ _).alloc (by simp [endsW, regW]) _⟩
set_option maxHeartbeats 400000 in
theorem trap_1 (m : Nat) (o a b c i x y : Int) (w : World) (hm : m < w.heap.size) (hf : ∀ o, w.frozen? ⟨m, o, none⟩ = false) (h6 : w.cell? ⟨m, 21, none⟩ = some (.int .i64 x)) (h7 : w.cell? ⟨m, 22, none⟩ = some (.int .i64 y)) (i0 : 1 ≤ i) (i1 : i ≤ 999) :
    Calls Try.prog 33 #[.pointer (some ⟨m, 0, none⟩), .agg #[.int .i64 o, .int .i64 a, .int .i64 b, .int .i64 c, .int .i64 i]] w (Did w (endsW w m 2 i)) := by
  go_enter Try.func33, Try.ntmps33
  go_wp2
  go_end0
  go_wp2
  go_end0
  exact ⟨rfl, (Below.refl _ _).alloc (by simp [endsW, regW]) _⟩
set_option maxHeartbeats 400000 in
theorem trap_2 (m : Nat) (o a b c i x y : Int) (w : World) (hm : m < w.heap.size) (hf : ∀ o, w.frozen? ⟨m, o, none⟩ = false) (h6 : w.cell? ⟨m, 21, none⟩ = some (.int .i64 x)) (h7 : w.cell? ⟨m, 22, none⟩ = some (.int .i64 y)) (i0 : i = 1000) :
    Calls Try.prog 33 #[.pointer (some ⟨m, 0, none⟩), .agg #[.int .i64 o, .int .i64 a, .int .i64 b, .int .i64 c, .int .i64 i]] w (Did w (endsW w m 3 0)) := by
  go_enter Try.func33, Try.ntmps33
  subst i0
  go_wp2
  go_end0
  go_wp2
  go_end0
  exact ⟨rfl, (Below.refl _ _).alloc (by simp [endsW, regW]) _⟩
set_option maxHeartbeats 400000 in
theorem trap_3 (m : Nat) (o a b c i x y : Int) (w : World) (hm : m < w.heap.size) (hf : ∀ o, w.frozen? ⟨m, o, none⟩ = false) (h6 : w.cell? ⟨m, 21, none⟩ = some (.int .i64 x)) (h7 : w.cell? ⟨m, 22, none⟩ = some (.int .i64 y)) (i0 : i = 1001) :
    Calls Try.prog 33 #[.pointer (some ⟨m, 0, none⟩), .agg #[.int .i64 o, .int .i64 a, .int .i64 b, .int .i64 c, .int .i64 i]] w (Did w (endsW w m 4 0)) := by
  go_enter Try.func33, Try.ntmps33
  subst i0
  go_wp2
  go_end0
  go_wp2
  go_end0
  exact ⟨rfl, (Below.refl _ _).alloc (by simp [endsW, regW]) _⟩
set_option maxHeartbeats 400000 in
theorem trap_4 (m : Nat) (o a b c i x y : Int) (w : World) (hm : m < w.heap.size) (hf : ∀ o, w.frozen? ⟨m, o, none⟩ = false) (h6 : w.cell? ⟨m, 21, none⟩ = some (.int .i64 x)) (h7 : w.cell? ⟨m, 22, none⟩ = some (.int .i64 y)) (i0 : i < 1) :
    Calls Try.prog 33 #[.pointer (some ⟨m, 0, none⟩), .agg #[.int .i64 o, .int .i64 a, .int .i64 b, .int .i64 c, .int .i64 i]] w (Did w (endsW w m 5 0)) := by
  go_enter Try.func33, Try.ntmps33
  go_wp2
  go_end0
  go_wp2
  go_end0
  exact ⟨rfl, (Below.refl _ _).alloc (by simp [endsW, regW]) _⟩
set_option maxHeartbeats 400000 in
theorem trap_5 (m : Nat) (o a b c i x y : Int) (w : World) (hm : m < w.heap.size) (hf : ∀ o, w.frozen? ⟨m, o, none⟩ = false) (h6 : w.cell? ⟨m, 21, none⟩ = some (.int .i64 x)) (h7 : w.cell? ⟨m, 22, none⟩ = some (.int .i64 y)) (i0 : 999 < i) (i1 : ¬ i = 1000) (i2 : ¬ i = 1001) :
    Calls Try.prog 33 #[.pointer (some ⟨m, 0, none⟩), .agg #[.int .i64 o, .int .i64 a, .int .i64 b, .int .i64 c, .int .i64 i]] w (Did w (endsW w m 5 0)) := by
  go_enter Try.func33, Try.ntmps33
  go_wp2
  go_end0
  go_wp2
  go_end0
  exact ⟨rfl, (Below.refl _ _).alloc (by simp [endsW, regW]) _⟩
set_option maxHeartbeats 400000 in
theorem move_any (m a b c : Nat) (o i xa xb xc : Int) (w : World) (hm : m < w.heap.size) (hf : ∀ o, w.frozen? ⟨m, o, none⟩ = false) (ha : w.cell? ⟨m, 2 + a, none⟩ = some (.int .i64 xa)) (la : (a : Int) < 16) (hb : w.cell? ⟨m, 2 + b, none⟩ = some (.int .i64 xb)) (lb : (b : Int) < 16) :
    Calls Try.prog 34 #[.pointer (some ⟨m, 0, none⟩), .agg #[.int .i64 o, .int .i64 a, .int .i64 b, .int .i64 c, .int .i64 i]] w (Did w (regW w m a xb)) := by
  go_enter Try.func34, Try.ntmps34
  go_wp2
  refine region_tail 13 mixed (by kernel_rfl) ?_
  simp only [List.take_succ_cons, List.take_zero, List.drop_succ_cons, List.drop_zero]
  repeat still_step
  refine wpStill_nil ?_
  go_wp2
  go_end0
  exact ⟨rfl, ((Below.refl _ _).alloc (by simp [endsW, regW]) _).drew⟩
set_option maxHeartbeats 400000 in
theorem konst_any (m a b c : Nat) (o i xa xb xc : Int) (w : World) (hm : m < w.heap.size) (hf : ∀ o, w.frozen? ⟨m, o, none⟩ = false) (ha : w.cell? ⟨m, 2 + a, none⟩ = some (.int .i64 xa)) (la : (a : Int) < 16) :
    Calls Try.prog 35 #[.pointer (some ⟨m, 0, none⟩), .agg #[.int .i64 o, .int .i64 a, .int .i64 b, .int .i64 c, .int .i64 i]] w (Did w (regW w m a i)) := by
  go_enter Try.func35, Try.ntmps35
  go_wp2
  refine region_tail 8 mixed (by kernel_rfl) ?_
  simp only [List.take_succ_cons, List.take_zero, List.drop_succ_cons, List.drop_zero]
  repeat still_step
  refine wpStill_nil ?_
  go_wp2
  go_end0
  exact ⟨rfl, ((Below.refl _ _).alloc (by simp [endsW, regW]) _).drew⟩
set_option maxHeartbeats 400000 in
theorem high_any (m a b c : Nat) (o i xa xb xc : Int) (w : World) (hm : m < w.heap.size) (hf : ∀ o, w.frozen? ⟨m, o, none⟩ = false) (ha : w.cell? ⟨m, 2 + a, none⟩ = some (.int .i64 xa)) (la : (a : Int) < 16) :
    Calls Try.prog 36 #[.pointer (some ⟨m, 0, none⟩), .agg #[.int .i64 o, .int .i64 a, .int .i64 b, .int .i64 c, .int .i64 i]] w (Did w (regW w m a (wrap64 (wrap64 (xa * 4294967296) + wrap64 (i % 4294967296))))) := by
  go_enter Try.func36, Try.ntmps36
  go_wp2
  refine region_tail 19 mixed (by kernel_rfl) ?_
  simp only [List.take_succ_cons, List.take_zero, List.drop_succ_cons, List.drop_zero]
  repeat still_step
  refine wpStill_nil ?_
  go_wp2
  go_end0
  exact ⟨rfl, ((Below.refl _ _).alloc (by simp [endsW, regW]) _).drew⟩
set_option maxHeartbeats 400000 in
theorem load_yes (m mb n cp a b c : Nat) (o i xa xb xc k v : Int) (w : World) (hm : m < w.heap.size) (hf : ∀ o, w.frozen? ⟨m, o, none⟩ = false) (hmem : w.cell? ⟨m, 1, none⟩ = some (.slice (some ⟨mb, 0, none⟩) n cp)) (hn : n ≤ 262144) (ha : w.cell? ⟨m, 2 + a, none⟩ = some (.int .i64 xa)) (la : (a : Int) < 16) (hb : w.cell? ⟨m, 2 + b, none⟩ = some (.int .i64 xb)) (lb : (b : Int) < 16) (hk : IntKind.i64.wrap (xb + i) = k) (k0 : 0 ≤ k) (k1 : k < n) (hv : w.cell? ⟨mb, k.toNat, none⟩ = some (.int .i64 v)) (hmb : mb < w.heap.size) :
    Calls Try.prog 37 #[.pointer (some ⟨m, 0, none⟩), .agg #[.int .i64 o, .int .i64 a, .int .i64 b, .int .i64 c, .int .i64 i]] w (Did w (regW w m a v)) := by
  go_enter Try.func37, Try.ntmps37
  go_wp2
  refine region_tail 20 mixed (by kernel_rfl) ?_
  simp only [List.take_succ_cons, List.take_zero, List.drop_succ_cons, List.drop_zero]
  repeat (first | still_step | still_call (word_yes m mb n cp _ _ k0 k1 hn ((World.cell?_alloc_past _ m 1 hm).trans hmem)))
  refine wpStill_nil ?_
  go_wp2
  go_end0
  exact ⟨rfl, ((Below.refl _ _).alloc (by simp [endsW, regW]) _).drew⟩
def Died (w : World) (e : Ending) (w' : World) : Prop := e = faultP ∧ Below w.heap.size w w'
set_option maxHeartbeats 1000000 in
theorem load_no (m n cp a b c : Nat) (A : Option Addr) (o i xa xb xc k : Int) (w : World) (hm : m < w.heap.size) (hf : ∀ o, w.frozen? ⟨m, o, none⟩ = false) (hmem : w.cell? ⟨m, 1, none⟩ = some (.slice A n cp)) (hn : n ≤ 262144) (ha : w.cell? ⟨m, 2 + a, none⟩ = some (.int .i64 xa)) (la : (a : Int) < 16) (hb : w.cell? ⟨m, 2 + b, none⟩ = some (.int .i64 xb)) (lb : (b : Int) < 16) (hk : IntKind.i64.wrap (xb + i) = k) (k0 : k < 0 ∨ n ≤ k) :
    Calls Try.prog 37 #[.pointer (some ⟨m, 0, none⟩), .agg #[.int .i64 o, .int .i64 a, .int .i64 b, .int .i64 c, .int .i64 i]] w (Died w) := by
  have K0 := Lib.hid k0
  clear k0
  have hmem' := (World.cell?_alloc_past (w := w) (.cells #[.int .i64 o, .int .i64 a, .int .i64 b, .int .i64 c, .int .i64 i] 50) m 1 hm).trans hmem
  go_enter Try.func37, Try.ntmps37
  go_wp2
  refine wp_region_held_drew (S := fun w' => w' = (w.alloc (.cells #[.int .i64 o, .int .i64 a, .int .i64 b, .int .i64 c, .int .i64 i] 50)).drew) mixed rfl (fun _ => ?_)
  refine wpAnyH_take (i := 0) (v := ?v0) rfl (by kernel_rfl) (by kernel_rfl) (by kernel_rfl) (fun _ _ _ h => h) (Or.inl ⟨by rfl, ?y0⟩) rfl ?_
  case y0 => intro w' hS; subst hS; go_simp; rfl
  refine wpAnyH_take (i := 1) (v := ?v1) rfl (by kernel_rfl) (by kernel_rfl) (by kernel_rfl) (fun _ _ _ h => h) (Or.inl ⟨by rfl, ?y1⟩) rfl ?_
  case y1 => intro w' hS; subst hS; go_simp; rfl
  refine wpAnyH_take (i := 2) (v := ?v2) rfl (by kernel_rfl) (by kernel_rfl) (by kernel_rfl) (fun _ _ _ h => h) (Or.inl ⟨by rfl, ?y2⟩) rfl ?_
  case y2 => intro w' hS; subst hS; go_simp; rfl
  refine wpAnyH_take (i := 3) (v := ?v3) rfl (by kernel_rfl) (by kernel_rfl) (by kernel_rfl) (fun _ _ _ h => h) (Or.inl ⟨by rfl, ?y3⟩) rfl ?_
  case y3 => intro w' hS; subst hS; go_simp; rfl
  refine wpAnyH_take (i := 4) (v := ?v4) rfl (by kernel_rfl) (by kernel_rfl) (by kernel_rfl) (fun _ _ _ h => h) (Or.inl ⟨by rfl, ?y4⟩) rfl ?_
  case y4 => intro w' hS; subst hS; go_simp; rfl
  refine wpAnyH_take (i := 5) (v := ?v5) rfl (by kernel_rfl) (by kernel_rfl) (by kernel_rfl) (fun _ _ _ h => h) (Or.inl ⟨by rfl, ?y5⟩) rfl ?_
  case y5 => intro w' hS; subst hS; go_simp; rfl
  refine wpAnyH_take (i := 6) (v := ?v6) rfl (by kernel_rfl) (by kernel_rfl) (by kernel_rfl) (fun _ _ _ h => h) (Or.inl ⟨by rfl, ?y6⟩) rfl ?_
  case y6 => intro w' hS; subst hS; go_simp; rfl
  refine wpAnyH_take (i := 7) (v := ?v7) rfl (by kernel_rfl) (by kernel_rfl) (by kernel_rfl) (fun _ _ _ h => h) (Or.inl ⟨by rfl, ?y7⟩) rfl ?_
  case y7 => intro w' hS; subst hS; go_simp; rfl
  refine wpAnyH_take (i := 8) (v := ?v8) rfl (by kernel_rfl) (by kernel_rfl) (by kernel_rfl) (fun _ _ _ h => h) (Or.inl ⟨by rfl, ?y8⟩) rfl ?_
  case y8 => intro w' hS; subst hS; go_simp; rfl
  refine wpAnyH_take (i := 9) (v := ?v9) rfl (by kernel_rfl) (by kernel_rfl) (by kernel_rfl) (fun _ _ _ h => h) (Or.inl ⟨by rfl, ?y9⟩) rfl ?_
  case y9 => intro w' hS; subst hS; go_simp; rfl
  refine wpAnyH_take (i := 10) (v := ?v10) rfl (by kernel_rfl) (by kernel_rfl) (by kernel_rfl) (fun _ _ _ h => h) (Or.inl ⟨by rfl, ?y10⟩) rfl ?_
  case y10 => intro w' hS; subst hS; go_simp; rfl
  refine wpAnyH_take (i := 11) (v := ?v11) rfl (by kernel_rfl) (by kernel_rfl) (by kernel_rfl) (fun _ _ _ h => h) (Or.inl ⟨by rfl, ?y11⟩) rfl ?_
  case y11 => intro w' hS; subst hS; go_simp; rfl
  refine wpAnyH_take (i := 12) (v := ?v12) rfl (by kernel_rfl) (by kernel_rfl) (by kernel_rfl) (fun _ _ _ h => h) (Or.inl ⟨by rfl, ?y12⟩) rfl ?_
  case y12 => intro w' hS; subst hS; go_simp; rfl
  refine wpAnyH_take (i := 13) (v := ?v13) rfl (by kernel_rfl) (by kernel_rfl) (by kernel_rfl) (fun _ _ _ h => h) (Or.inl ⟨by rfl, ?y13⟩) rfl ?_
  case y13 => intro w' hS; subst hS; go_simp; rfl
  refine wpAnyH_take (i := 17) (v := ?v17) rfl (by kernel_rfl) (by kernel_rfl) (by kernel_rfl) (fun _ _ _ h => h) (Or.inl ⟨by rfl, ?y17⟩) rfl ?_
  case y17 => intro w' hS; subst hS; go_simp; rfl
  refine wpAnyH_take (i := 18) (v := ?v18) rfl (by kernel_rfl) (by kernel_rfl) (by kernel_rfl) (fun _ _ _ h => h) (Or.inl ⟨by rfl, ?y18⟩) rfl ?_
  case y18 => intro w' hS; subst hS; go_simp; rfl
  refine wpAnyH_ready (rs := [14]) (by kernel_rfl) (by simp) (AllReadyH.cons rfl (fun K' hK => ?_) AllReadyH.nil)
  go_simp
  refine (word_no m A n cp k _ K0.out hn (by exact hmem')).mono ?_
  rintro e w1 ⟨rfl, rfl⟩
  exact ⟨rfl, rfl, ((Below.refl _ _).alloc (Nat.le_refl _) _).drew⟩
end Go.Proofs.Ytbchiolgbhckhaa.Mach

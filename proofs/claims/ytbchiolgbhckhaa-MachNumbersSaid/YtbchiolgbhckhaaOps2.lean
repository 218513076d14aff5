/- The operations of the machine, one walk each: those that lay words down, jump, call. -/
import Derived.Test.YtbchiolgbhckhaaOps1
set_option linter.unusedVariables false
set_option linter.unusedSimpArgs false
namespace Go.Proofs.Ytbchiolgbhckhaa.Mach
open Go.RowKit Go.Proofs.YtbchiolgbhckhaaW.PrintWords Go.Proofs.YtbchiolgbhckhaaW.PrintMore Go.Proofs.Ytbchiolgbhckhaa.PMachRuns

def memW (w : World) (mb k : Nat) (v : Int) : World := w.setCell ⟨mb, k, none⟩ (.int .i64 v)
def pcW (w : World) (m : Nat) (v : Int) : World := w.setCell ⟨m, 18, none⟩ (.int .i64 v)
set_option maxHeartbeats 400000 in
theorem store_yes (m mb n cp a b c : Nat) (o i xa xb xc k v : Int) (w : World) (hm : m < w.heap.size) (hf : ∀ o, w.frozen? ⟨m, o, none⟩ = false) (hmem : w.cell? ⟨m, 1, none⟩ = some (.slice (some ⟨mb, 0, none⟩) n cp)) (hn : n ≤ 262144) (ha : w.cell? ⟨m, 2 + a, none⟩ = some (.int .i64 xa)) (la : (a : Int) < 16) (hb : w.cell? ⟨m, 2 + b, none⟩ = some (.int .i64 xb)) (lb : (b : Int) < 16) (hk : IntKind.i64.wrap (xb + i) = k) (k0 : 0 ≤ k) (k1 : k < n) (hv : w.cell? ⟨mb, k.toNat, none⟩ = some (.int .i64 v)) (hmb : mb < w.heap.size) (hfm : w.frozen? ⟨mb, k.toNat, none⟩ = false) (hne : ¬ m = mb) (hne' : ¬ mb = m) :
    Calls Try.prog 38 #[.pointer (some ⟨m, 0, none⟩), .agg #[.int .i64 o, .int .i64 a, .int .i64 b, .int .i64 c, .int .i64 i]] w (Did w (memW w mb k.toNat xa)) := by
  go_enter Try.func38, Try.ntmps38
  go_wp2
  refine region_tail 20 mixed (by kernel_rfl) ?_
  simp only [List.take_succ_cons, List.take_zero, List.drop_succ_cons, List.drop_zero]
  repeat (first | still_step | still_call (word_yes m mb n cp _ _ k0 k1 hn ((World.cell?_alloc_past _ m 1 hm).trans hmem)))
  refine wpStill_nil ?_
  go_wp2
  go_end0
  exact ⟨rfl, ((Below.refl _ _).alloc (by simp [endsW, regW, memW, pcW]) _).drew⟩
set_option maxHeartbeats 1000000 in
theorem store_no (m n cp a b c : Nat) (A : Option Addr) (o i xa xb xc k : Int) (w : World) (hm : m < w.heap.size) (hf : ∀ o, w.frozen? ⟨m, o, none⟩ = false) (hmem : w.cell? ⟨m, 1, none⟩ = some (.slice A n cp)) (hn : n ≤ 262144) (ha : w.cell? ⟨m, 2 + a, none⟩ = some (.int .i64 xa)) (la : (a : Int) < 16) (hb : w.cell? ⟨m, 2 + b, none⟩ = some (.int .i64 xb)) (lb : (b : Int) < 16) (hk : IntKind.i64.wrap (xb + i) = k) (k0 : k < 0 ∨ n ≤ k) :
    Calls Try.prog 38 #[.pointer (some ⟨m, 0, none⟩), .agg #[.int .i64 o, .int .i64 a, .int .i64 b, .int .i64 c, .int .i64 i]] w (Died w) := by
  have K0 := Lib.hid k0
  clear k0
  have hmem' := (World.cell?_alloc_past (w := w) (.cells #[.int .i64 o, .int .i64 a, .int .i64 b, .int .i64 c, .int .i64 i] 50) m 1 hm).trans hmem
  go_enter Try.func38, Try.ntmps38
  go_wp2
  refine wp_region_held_drew (S := fun w' => w' = (w.alloc (.cells #[.int .i64 o, .int .i64 a, .int .i64 b, .int .i64 c, .int .i64 i] 50)).drew) mixed rfl (fun _ => ?_)
  refine wpAnyH_take (i := 0) (v := ?v0) rfl (by kernel_rfl) (by kernel_rfl) (by kernel_rfl) (fun _ _ _ h => h) (Or.inl ⟨by rfl, ?y0⟩) rfl ?_
  case y0 => intro w' hS; subst hS; go_simp; rfl
  refine wpAnyH_take (i := 1) (v := ?v1) rfl (by kernel_rfl) (by kernel_rfl) (by kernel_rfl) (fun _ _ _ h => h) (Or.inl ⟨by rfl, ?y1⟩) rfl ?_
  case y1 => intro w' hS; subst hS; go_simp; rfl
  refine wpAnyH_take (i := 2) (v := ?v2) rfl (by kernel_rfl) (by kernel_rfl) (by kernel_rfl) (fun _ _ _ h => h) (Or.inl ⟨by rfl, ?y2⟩) rfl ?_
  case y2 => intro w' hS; subst hS; go_simp; rfl
  refine wpAnyH_take (i := 3) (v := ?v3) rfl (by kernel_rfl) (by kernel_rfl) (by kernel_rfl) (fun _ _ _ h => h) (Or.inl ⟨by rfl, ?y3⟩) rfl ?_
  case y3 => intro w' hS; subst hS; go_simp; rfl
  refine wpAnyH_take (i := 4) (v := ?v4) rfl (by kernel_rfl) (by kernel_rfl) (by kernel_rfl) (fun _ _ _ h => h) (Or.inl ⟨by rfl, ?y4⟩) rfl ?_
  case y4 => intro w' hS; subst hS; go_simp; rfl
  refine wpAnyH_take (i := 5) (v := ?v5) rfl (by kernel_rfl) (by kernel_rfl) (by kernel_rfl) (fun _ _ _ h => h) (Or.inl ⟨by rfl, ?y5⟩) rfl ?_
  case y5 => intro w' hS; subst hS; go_simp; rfl
  refine wpAnyH_take (i := 6) (v := ?v6) rfl (by kernel_rfl) (by kernel_rfl) (by kernel_rfl) (fun _ _ _ h => h) (Or.inl ⟨by rfl, ?y6⟩) rfl ?_
  case y6 => intro w' hS; subst hS; go_simp; rfl
  refine wpAnyH_take (i := 7) (v := ?v7) rfl (by kernel_rfl) (by kernel_rfl) (by kernel_rfl) (fun _ _ _ h => h) (Or.inl ⟨by rfl, ?y7⟩) rfl ?_
  case y7 => intro w' hS; subst hS; go_simp; rfl
  refine wpAnyH_take (i := 8) (v := ?v8) rfl (by kernel_rfl) (by kernel_rfl) (by kernel_rfl) (fun _ _ _ h => h) (Or.inl ⟨by rfl, ?y8⟩) rfl ?_
  case y8 => intro w' hS; subst hS; go_simp; rfl
  refine wpAnyH_take (i := 9) (v := ?v9) rfl (by kernel_rfl) (by kernel_rfl) (by kernel_rfl) (fun _ _ _ h => h) (Or.inl ⟨by rfl, ?y9⟩) rfl ?_
  case y9 => intro w' hS; subst hS; go_simp; rfl
  refine wpAnyH_take (i := 10) (v := ?v10) rfl (by kernel_rfl) (by kernel_rfl) (by kernel_rfl) (fun _ _ _ h => h) (Or.inl ⟨by rfl, ?y10⟩) rfl ?_
  case y10 => intro w' hS; subst hS; go_simp; rfl
  refine wpAnyH_take (i := 12) (v := ?v12) rfl (by kernel_rfl) (by kernel_rfl) (by kernel_rfl) (fun _ _ _ h => h) (Or.inl ⟨by rfl, ?y12⟩) rfl ?_
  case y12 => intro w' hS; subst hS; go_simp; rfl
  refine wpAnyH_take (i := 13) (v := ?v13) rfl (by kernel_rfl) (by kernel_rfl) (by kernel_rfl) (fun _ _ _ h => h) (Or.inl ⟨by rfl, ?y13⟩) rfl ?_
  case y13 => intro w' hS; subst hS; go_simp; rfl
  refine wpAnyH_take (i := 14) (v := ?v14) rfl (by kernel_rfl) (by kernel_rfl) (by kernel_rfl) (fun _ _ _ h => h) (Or.inl ⟨by rfl, ?y14⟩) rfl ?_
  case y14 => intro w' hS; subst hS; go_simp; rfl
  refine wpAnyH_take (i := 15) (v := ?v15) rfl (by kernel_rfl) (by kernel_rfl) (by kernel_rfl) (fun _ _ _ h => h) (Or.inl ⟨by rfl, ?y15⟩) rfl ?_
  case y15 => intro w' hS; subst hS; go_simp; rfl
  refine wpAnyH_take (i := 16) (v := ?v16) rfl (by kernel_rfl) (by kernel_rfl) (by kernel_rfl) (fun _ _ _ h => h) (Or.inl ⟨by rfl, ?y16⟩) rfl ?_
  case y16 => intro w' hS; subst hS; go_simp; rfl
  refine wpAnyH_take (i := 17) (v := ?v17) rfl (by kernel_rfl) (by kernel_rfl) (by kernel_rfl) (fun _ _ _ h => h) (Or.inl ⟨by rfl, ?y17⟩) rfl ?_
  case y17 => intro w' hS; subst hS; go_simp; rfl
  refine wpAnyH_take (i := 18) (v := ?v18) rfl (by kernel_rfl) (by kernel_rfl) (by kernel_rfl) (fun _ _ _ h => h) (Or.inl ⟨by rfl, ?y18⟩) rfl ?_
  case y18 => intro w' hS; subst hS; go_simp; rfl
  refine wpAnyH_ready (rs := [11]) (by kernel_rfl) (by simp) (AllReadyH.cons rfl (fun K' hK => ?_) AllReadyH.nil)
  go_simp
  refine (word_no m A n cp k _ K0.out hn (by exact hmem')).mono ?_
  rintro e w1 ⟨rfl, rfl⟩
  exact ⟨rfl, rfl, ((Below.refl _ _).alloc (Nat.le_refl _) _).drew⟩
set_option maxHeartbeats 400000 in
theorem jump_any (m a b c : Nat) (o i xa xb xc pc : Int) (w : World) (hm : m < w.heap.size) (hf : ∀ o, w.frozen? ⟨m, o, none⟩ = false) (h18 : w.cell? ⟨m, 18, none⟩ = some (.int .i64 pc)) :
    Calls Try.prog 39 #[.pointer (some ⟨m, 0, none⟩), .agg #[.int .i64 o, .int .i64 a, .int .i64 b, .int .i64 c, .int .i64 i]] w (Did w (pcW w m (wrap64 (pc + i)))) := by
  go_enter Try.func39, Try.ntmps39
  go_wp2
  refine region_tail 9 mixed (by kernel_rfl) ?_
  simp only [List.take_succ_cons, List.take_zero, List.drop_succ_cons, List.drop_zero]
  repeat still_step
  refine wpStill_nil ?_
  go_wp2
  go_end0
  exact ⟨rfl, ((Below.refl _ _).alloc (by simp [endsW, regW, memW, pcW]) _).drew⟩
set_option maxHeartbeats 400000 in
theorem zero_yes (m a b c : Nat) (o i xa xb xc pc : Int) (w : World) (hm : m < w.heap.size) (hf : ∀ o, w.frozen? ⟨m, o, none⟩ = false) (h18 : w.cell? ⟨m, 18, none⟩ = some (.int .i64 pc)) (ha : w.cell? ⟨m, 2 + a, none⟩ = some (.int .i64 xa)) (la : (a : Int) < 16) (z : (xa == 0) = true) :
    Calls Try.prog 40 #[.pointer (some ⟨m, 0, none⟩), .agg #[.int .i64 o, .int .i64 a, .int .i64 b, .int .i64 c, .int .i64 i]] w (Did w (pcW w m (wrap64 (pc + i)))) := by
  go_enter Try.func40, Try.ntmps40
  go_wp2
  refine region_still mixed (by kernel_rfl) ?_
  repeat still_step
  refine wpStill_nil ?_
  go_wp2
  refine region_tail 9 mixed (by kernel_rfl) ?_
  simp only [List.take_succ_cons, List.take_zero, List.drop_succ_cons, List.drop_zero]
  repeat still_step
  refine wpStill_nil ?_
  go_wp2
  go_end0
  exact ⟨rfl, ((Below.refl _ _).alloc (by simp [endsW, regW, memW, pcW]) _).drew.drew⟩
set_option maxHeartbeats 400000 in
theorem zero_no (m a b c : Nat) (o i xa xb xc pc : Int) (w : World) (hm : m < w.heap.size) (hf : ∀ o, w.frozen? ⟨m, o, none⟩ = false) (h18 : w.cell? ⟨m, 18, none⟩ = some (.int .i64 pc)) (ha : w.cell? ⟨m, 2 + a, none⟩ = some (.int .i64 xa)) (la : (a : Int) < 16) (z : (xa == 0) = false) :
    Calls Try.prog 40 #[.pointer (some ⟨m, 0, none⟩), .agg #[.int .i64 o, .int .i64 a, .int .i64 b, .int .i64 c, .int .i64 i]] w (Did w w) := by
  go_enter Try.func40, Try.ntmps40
  go_wp2
  refine region_still mixed (by kernel_rfl) ?_
  repeat still_step
  refine wpStill_nil ?_
  go_wp2
  go_end0
  exact ⟨rfl, ((Below.refl _ _).alloc (by simp [endsW, regW, memW, pcW]) _).drew⟩
set_option maxHeartbeats 400000 in
theorem some_yes (m a b c : Nat) (o i xa xb xc pc : Int) (w : World) (hm : m < w.heap.size) (hf : ∀ o, w.frozen? ⟨m, o, none⟩ = false) (h18 : w.cell? ⟨m, 18, none⟩ = some (.int .i64 pc)) (ha : w.cell? ⟨m, 2 + a, none⟩ = some (.int .i64 xa)) (la : (a : Int) < 16) (z : (xa != 0) = true) :
    Calls Try.prog 41 #[.pointer (some ⟨m, 0, none⟩), .agg #[.int .i64 o, .int .i64 a, .int .i64 b, .int .i64 c, .int .i64 i]] w (Did w (pcW w m (wrap64 (pc + i)))) := by
  go_enter Try.func41, Try.ntmps41
  go_wp2
  refine region_still mixed (by kernel_rfl) ?_
  repeat still_step
  refine wpStill_nil ?_
  go_wp2
  refine region_tail 9 mixed (by kernel_rfl) ?_
  simp only [List.take_succ_cons, List.take_zero, List.drop_succ_cons, List.drop_zero]
  repeat still_step
  refine wpStill_nil ?_
  go_wp2
  go_end0
  exact ⟨rfl, ((Below.refl _ _).alloc (by simp [endsW, regW, memW, pcW]) _).drew.drew⟩
set_option maxHeartbeats 400000 in
theorem some_no (m a b c : Nat) (o i xa xb xc pc : Int) (w : World) (hm : m < w.heap.size) (hf : ∀ o, w.frozen? ⟨m, o, none⟩ = false) (h18 : w.cell? ⟨m, 18, none⟩ = some (.int .i64 pc)) (ha : w.cell? ⟨m, 2 + a, none⟩ = some (.int .i64 xa)) (la : (a : Int) < 16) (z : (xa != 0) = false) :
    Calls Try.prog 41 #[.pointer (some ⟨m, 0, none⟩), .agg #[.int .i64 o, .int .i64 a, .int .i64 b, .int .i64 c, .int .i64 i]] w (Did w w) := by
  go_enter Try.func41, Try.ntmps41
  go_wp2
  refine region_still mixed (by kernel_rfl) ?_
  repeat still_step
  refine wpStill_nil ?_
  go_wp2
  go_end0
  exact ⟨rfl, ((Below.refl _ _).alloc (by simp [endsW, regW, memW, pcW]) _).drew⟩
set_option maxHeartbeats 400000 in
theorem room_any (m n cp a b c : Nat) (A : Option Addr) (o i xa xb xc : Int) (w : World) (hm : m < w.heap.size) (hf : ∀ o, w.frozen? ⟨m, o, none⟩ = false) (hmem : w.cell? ⟨m, 1, none⟩ = some (.slice A n cp)) (hn : n ≤ 262144) (ha : w.cell? ⟨m, 2 + a, none⟩ = some (.int .i64 xa)) (la : (a : Int) < 16) :
    Calls Try.prog 47 #[.pointer (some ⟨m, 0, none⟩), .agg #[.int .i64 o, .int .i64 a, .int .i64 b, .int .i64 c, .int .i64 i]] w (Did w (regW w m a n)) := by
  go_enter Try.func47, Try.ntmps47
  go_wp2
  refine region_tail 11 mixed (by kernel_rfl) ?_
  simp only [List.take_succ_cons, List.take_zero, List.drop_succ_cons, List.drop_zero]
  repeat still_step
  refine wpStill_nil ?_
  go_wp2
  go_end0
  exact ⟨rfl, ((Below.refl _ _).alloc (by simp [endsW, regW, memW, pcW]) _).drew⟩
def enterW (w : World) (m mb : Nat) (k pc : Int) : World := regW (memW w mb k.toNat pc) m 15 k
set_option maxHeartbeats 400000 in
theorem enter_yes (m mb n cp : Nat) (x15 pc k v : Int) (w : World) (hm : m < w.heap.size) (hf : ∀ o, w.frozen? ⟨m, o, none⟩ = false) (hmem : w.cell? ⟨m, 1, none⟩ = some (.slice (some ⟨mb, 0, none⟩) n cp)) (hn : n ≤ 262144) (h15 : w.cell? ⟨m, 17, none⟩ = some (.int .i64 x15)) (h18 : w.cell? ⟨m, 18, none⟩ = some (.int .i64 pc)) (hk : IntKind.i64.wrap (x15 - 1) = k) (k0 : 0 ≤ k) (k1 : k < n) (hv : w.cell? ⟨mb, k.toNat, none⟩ = some (.int .i64 v)) (hmb : mb < w.heap.size) (hfm : w.frozen? ⟨mb, k.toNat, none⟩ = false) (hne : ¬ m = mb) (hne' : ¬ mb = m) :
    Calls Try.prog 59 #[.pointer (some ⟨m, 0, none⟩)] w fun e w' => e = .returned (.tuple #[]) ∧ w' = (enterW w m mb k pc).drew.drew := by
  have hk' : wrap64 (x15 - 1) = k := by rw [← hk, Num.i64_wrap_eq]
  go_enter Try.func59, Try.ntmps59
  go_wp2
  refine region_tail 13 mixed (by kernel_rfl) ?_
  simp only [List.take_succ_cons, List.take_zero, List.drop_succ_cons, List.drop_zero]
  repeat (first | still_step | still_call (word_yes m mb n cp _ _ k0 k1 hn hmem))
  refine wpStill_nil ?_
  go_wp2
  refine region_tail 9 mixed (by kernel_rfl) ?_
  simp only [List.take_succ_cons, List.take_zero, List.drop_succ_cons, List.drop_zero]
  repeat still_step
  refine wpStill_nil ?_
  go_wp2
  go_end0
  exact ⟨rfl, rfl⟩
set_option maxHeartbeats 1000000 in
theorem enter_no (m n cp : Nat) (A : Option Addr) (x15 pc k : Int) (w : World) (hm : m < w.heap.size) (hf : ∀ o, w.frozen? ⟨m, o, none⟩ = false) (hmem : w.cell? ⟨m, 1, none⟩ = some (.slice A n cp)) (hn : n ≤ 262144) (h15 : w.cell? ⟨m, 17, none⟩ = some (.int .i64 x15)) (h18 : w.cell? ⟨m, 18, none⟩ = some (.int .i64 pc)) (hk : IntKind.i64.wrap (x15 - 1) = k) (k0 : k < 0 ∨ n ≤ k) :
    Calls Try.prog 59 #[.pointer (some ⟨m, 0, none⟩)] w fun e w' => e = faultP ∧ w' = w.drew := by
  have K0 := Lib.hid k0
  clear k0
  have hmem' := hmem
  go_enter Try.func59, Try.ntmps59
  go_wp2
  refine wp_region_held_drew (S := fun w' => w' = w.drew) mixed rfl (fun _ => ?_)
  refine wpAnyH_take (i := 0) (v := ?v0) rfl (by kernel_rfl) (by kernel_rfl) (by kernel_rfl) (fun _ _ _ h => h) (Or.inl ⟨by rfl, ?y0⟩) rfl ?_
  case y0 => intro w' hS; subst hS; go_simp; rfl
  refine wpAnyH_take (i := 1) (v := ?v1) rfl (by kernel_rfl) (by kernel_rfl) (by kernel_rfl) (fun _ _ _ h => h) (Or.inl ⟨by rfl, ?y1⟩) rfl ?_
  case y1 => intro w' hS; subst hS; go_simp; rfl
  refine wpAnyH_take (i := 2) (v := ?v2) rfl (by kernel_rfl) (by kernel_rfl) (by kernel_rfl) (fun _ _ _ h => h) (Or.inl ⟨by rfl, ?y2⟩) rfl ?_
  case y2 => intro w' hS; subst hS; go_simp; rfl
  refine wpAnyH_take (i := 3) (v := ?v3) rfl (by kernel_rfl) (by kernel_rfl) (by kernel_rfl) (fun _ _ _ h => h) (Or.inl ⟨by rfl, ?y3⟩) rfl ?_
  case y3 => intro w' hS; subst hS; go_simp; rfl
  refine wpAnyH_take (i := 4) (v := ?v4) rfl (by kernel_rfl) (by kernel_rfl) (by kernel_rfl) (fun _ _ _ h => h) (Or.inl ⟨by rfl, ?y4⟩) rfl ?_
  case y4 => intro w' hS; subst hS; go_simp; rfl
  refine wpAnyH_take (i := 5) (v := ?v5) rfl (by kernel_rfl) (by kernel_rfl) (by kernel_rfl) (fun _ _ _ h => h) (Or.inl ⟨by rfl, ?y5⟩) rfl ?_
  case y5 => intro w' hS; subst hS; go_simp; rfl
  refine wpAnyH_take (i := 6) (v := ?v6) rfl (by kernel_rfl) (by kernel_rfl) (by kernel_rfl) (fun _ _ _ h => h) (Or.inl ⟨by rfl, ?y6⟩) rfl ?_
  case y6 => intro w' hS; subst hS; go_simp; rfl
  refine wpAnyH_take (i := 8) (v := ?v8) rfl (by kernel_rfl) (by kernel_rfl) (by kernel_rfl) (fun _ _ _ h => h) (Or.inl ⟨by rfl, ?y8⟩) rfl ?_
  case y8 => intro w' hS; subst hS; go_simp; rfl
  refine wpAnyH_take (i := 9) (v := ?v9) rfl (by kernel_rfl) (by kernel_rfl) (by kernel_rfl) (fun _ _ _ h => h) (Or.inl ⟨by rfl, ?y9⟩) rfl ?_
  case y9 => intro w' hS; subst hS; go_simp; rfl
  refine wpAnyH_take (i := 10) (v := ?v10) rfl (by kernel_rfl) (by kernel_rfl) (by kernel_rfl) (fun _ _ _ h => h) (Or.inl ⟨by rfl, ?y10⟩) rfl ?_
  case y10 => intro w' hS; subst hS; go_simp; rfl
  refine wpAnyH_take (i := 11) (v := ?v11) rfl (by kernel_rfl) (by kernel_rfl) (by kernel_rfl) (fun _ _ _ h => h) (Or.inl ⟨by rfl, ?y11⟩) rfl ?_
  case y11 => intro w' hS; subst hS; go_simp; rfl
  refine wpAnyH_ready (rs := [7]) (by kernel_rfl) (by simp) (AllReadyH.cons rfl (fun K' hK => ?_) AllReadyH.nil)
  go_simp
  refine (word_no m A n cp k _ K0.out hn (by exact hmem')).mono ?_
  rintro e w1 ⟨rfl, rfl⟩
  exact ⟨rfl, rfl, rfl⟩
end Go.Proofs.Ytbchiolgbhckhaa.Mach

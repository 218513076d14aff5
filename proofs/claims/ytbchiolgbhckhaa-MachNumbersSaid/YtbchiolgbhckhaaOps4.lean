/- The operations of the machine, one walk each: input, output, words. -/
import Derived.Test.YtbchiolgbhckhaaOps3
import Derived.Test.YtbchiolgbhckhaaGrow
set_option linter.unusedVariables false
set_option linter.unusedSimpArgs false
namespace Go.Proofs.Ytbchiolgbhckhaa.Mach
open Go.RowKit Go.Proofs.YtbchiolgbhckhaaW.PrintWords Go.Proofs.YtbchiolgbhckhaaW.PrintMore Go.Proofs.Ytbchiolgbhckhaa.PMachRuns

def inW (w : World) (m : Nat) (v : Value) : World := w.setCell ⟨m, 19, none⟩ v
set_option maxHeartbeats 400000 in
theorem read_no (m a b c : Nat) (o i xa xb xc : Int) (A : Option Addr) (cc : Nat) (w : World) (hm : m < w.heap.size) (hf : ∀ o, w.frozen? ⟨m, o, none⟩ = false) (ha : w.cell? ⟨m, 2 + a, none⟩ = some (.int .i64 xa)) (la : (a : Int) < 16) (h19 : w.cell? ⟨m, 19, none⟩ = some (.slice A 0 cc)) :
    Calls Try.prog 45 #[.pointer (some ⟨m, 0, none⟩), .agg #[.int .i64 o, .int .i64 a, .int .i64 b, .int .i64 c, .int .i64 i]] w (Did w (regW w m a (-1))) := by
  go_enter Try.func45, Try.ntmps45
  go_wp2
  refine region_tail 6 mixed (by kernel_rfl) ?_
  simp only [List.take_succ_cons, List.take_zero, List.drop_succ_cons, List.drop_zero]
  repeat still_step
  refine wpStill_nil ?_
  go_wp2
  go_end0
  exact ⟨rfl, by repeat (first | exact (Below.refl _ _).alloc (by simp [endsW, regW, memW, pcW, enterW, inW]) _ | refine Below.drew ?_)⟩
set_option maxHeartbeats 400000 in
theorem read_yes (m a b c : Nat) (o i xa xb xc : Int) (ib off n cc : Nat) (x : Int) (w : World) (hm : m < w.heap.size) (hf : ∀ o, w.frozen? ⟨m, o, none⟩ = false) (ha : w.cell? ⟨m, 2 + a, none⟩ = some (.int .i64 xa)) (la : (a : Int) < 16) (h19 : w.cell? ⟨m, 19, none⟩ = some (.slice (some ⟨ib, off, none⟩) (n + 1) cc)) (hcc : n + 1 ≤ cc) (hc1 : ¬ cc = 1) (hbig : cc ≤ 9223372036854775807) (hx : w.cell? ⟨ib, off, none⟩ = some (.int .u8 x)) (x0 : 0 ≤ x) (x1 : x ≤ 255) (hib : ib < w.heap.size) (hnei : ¬ m = ib) :
    Calls Try.prog 45 #[.pointer (some ⟨m, 0, none⟩), .agg #[.int .i64 o, .int .i64 a, .int .i64 b, .int .i64 c, .int .i64 i]] w (Did w (inW (regW (regW w m a (-1)) m a x) m (.slice (some ⟨ib, off + 1, none⟩) n (cc - 1)))) := by
  have g1 : ¬ (19 = 2 + a) := by omega
  have g2 : ¬ (2 + a = 19) := by omega
  go_enter Try.func45, Try.ntmps45
  go_wp2
  refine region_tail 6 mixed (by kernel_rfl) ?_
  simp only [List.take_succ_cons, List.take_zero, List.drop_succ_cons, List.drop_zero]
  repeat still_step
  refine wpStill_nil ?_
  go_wp2
  refine region_tail 13 mixed (by kernel_rfl) ?_
  simp only [List.take_succ_cons, List.take_zero, List.drop_succ_cons, List.drop_zero]
  repeat still_step
  refine wpStill_nil ?_
  go_wp2
  go_end0
  exact ⟨rfl, by repeat (first | exact (Below.refl _ _).alloc (by simp [endsW, regW, memW, pcW, enterW, inW]) _ | refine Below.drew ?_)⟩
set_option maxHeartbeats 400000 in
theorem read_last (m a b c : Nat) (o i xa xb xc : Int) (ib off n cc : Nat) (x : Int) (w : World) (hm : m < w.heap.size) (hf : ∀ o, w.frozen? ⟨m, o, none⟩ = false) (ha : w.cell? ⟨m, 2 + a, none⟩ = some (.int .i64 xa)) (la : (a : Int) < 16) (h19 : w.cell? ⟨m, 19, none⟩ = some (.slice (some ⟨ib, off, none⟩) 1 1))  (hx : w.cell? ⟨ib, off, none⟩ = some (.int .u8 x)) (x0 : 0 ≤ x) (x1 : x ≤ 255) (hib : ib < w.heap.size) (hnei : ¬ m = ib) :
    Calls Try.prog 45 #[.pointer (some ⟨m, 0, none⟩), .agg #[.int .i64 o, .int .i64 a, .int .i64 b, .int .i64 c, .int .i64 i]] w (Did w (inW (regW (regW w m a (-1)) m a x) m (.slice (some ⟨ib, off, none⟩) 0 0))) := by
  have g1 : ¬ (19 = 2 + a) := by omega
  have g2 : ¬ (2 + a = 19) := by omega
  go_enter Try.func45, Try.ntmps45
  go_wp2
  refine region_tail 6 mixed (by kernel_rfl) ?_
  simp only [List.take_succ_cons, List.take_zero, List.drop_succ_cons, List.drop_zero]
  repeat still_step
  refine wpStill_nil ?_
  go_wp2
  refine region_tail 13 mixed (by kernel_rfl) ?_
  simp only [List.take_succ_cons, List.take_zero, List.drop_succ_cons, List.drop_zero]
  repeat still_step
  refine wpStill_nil ?_
  go_wp2
  go_end0
  exact ⟨rfl, by repeat (first | exact (Below.refl _ _).alloc (by simp [endsW, regW, memW, pcW, enterW, inW]) _ | refine Below.drew ?_)⟩
set_option maxHeartbeats 400000 in
theorem write_full (m a b c : Nat) (o i xa xb xc : Int) (A : Option Addr) (n cc : Nat) (w : World) (hm : m < w.heap.size) (hf : ∀ o, w.frozen? ⟨m, o, none⟩ = false) (h20 : w.cell? ⟨m, 20, none⟩ = some (.slice A n cc)) (hn : ¬ (n : Int) < 4096) :
    Calls Try.prog 46 #[.pointer (some ⟨m, 0, none⟩), .agg #[.int .i64 o, .int .i64 a, .int .i64 b, .int .i64 c, .int .i64 i]] w (Did w w) := by
  go_enter Try.func46, Try.ntmps46
  go_wp2
  go_end0
  exact ⟨rfl, by repeat (first | exact (Below.refl _ _).alloc (by simp [endsW, regW, memW, pcW, enterW, inW]) _ | refine Below.drew ?_)⟩
def outW (w : World) (m : Nat) (v : Value) : World := w.setCell ⟨m, 20, none⟩ v
set_option maxHeartbeats 400000 in
theorem write_yes (m a b c : Nat) (o i xa xb xc : Int) (A : Option Addr) (n cc : Nat) (xs : List Int) (w : World) (hm : m < w.heap.size) (hf : ∀ o, w.frozen? ⟨m, o, none⟩ = false) (ha : w.cell? ⟨m, 2 + a, none⟩ = some (.int .i64 xa)) (la : (a : Int) < 16) (h20 : w.cell? ⟨m, 20, none⟩ = some (.slice A n cc)) (hn : (n : Int) < 4096) (hown : w.ownsRow 0 5 1 (.slice A n cc) n (nums .u8 xs)) (hmo : some m ≠ (Value.slice A n cc).ownBlock) :
    Calls Try.prog 46 #[.pointer (some ⟨m, 0, none⟩), .agg #[.int .i64 o, .int .i64 a, .int .i64 b, .int .i64 c, .int .i64 i]] w (fun e w' => e = .returned (.tuple #[]) ∧ ∃ v' w1, Appended w 0 5 1 (.slice A n cc) (n + 1) (nums .u8 (xs ++ [xa % 256])) v' w1 ∧ Below w1.heap.size (outW w1 m v') w') := by
  go_enter Try.func46, Try.ntmps46
  go_wp2
  refine region_way (fun w' => w'.cell? ⟨m, 20, none⟩ = some (.slice A n cc) ∧ w'.cell? ⟨w.heap.size, 1, none⟩ = some (.int .i64 a) ∧ w'.cell? ⟨m, 2 + a, none⟩ = some (.int .i64 xa)) [(0, false), (1, false), (2, false), (3, false), (4, false), (5, false), (6, false), (7, false), (8, false), (9, false), (10, false), (11, false), (12, false), (13, true), (14, true)] 15 mixed (by kernel_rfl) ?_ ?_
  · go_simp
  refine way_read (some 10) ?v0 rfl rfl (fun _ _ _ h => h) rfl ?y0 ?_
  case y0 => intro w' hS; obtain ⟨s1, s2, s3⟩ := hS; go_simp; rfl
  refine way_read (some 11) ?v1 rfl rfl (fun _ _ _ h => h) rfl ?y1 ?_
  case y1 => intro w' hS; obtain ⟨s1, s2, s3⟩ := hS; go_simp; rfl
  refine way_read (some 12) ?v2 rfl rfl (fun _ _ _ h => h) rfl ?y2 ?_
  case y2 => intro w' hS; obtain ⟨s1, s2, s3⟩ := hS; go_simp; rfl
  refine way_read (some 13) ?v3 rfl rfl (fun _ _ _ h => h) rfl ?y3 ?_
  case y3 => intro w' hS; obtain ⟨s1, s2, s3⟩ := hS; go_simp; rfl
  refine way_read (some 14) ?v4 rfl rfl (fun _ _ _ h => h) rfl ?y4 ?_
  case y4 => intro w' hS; obtain ⟨s1, s2, s3⟩ := hS; go_simp; rfl
  refine way_read (some 15) ?v5 rfl rfl (fun _ _ _ h => h) rfl ?y5 ?_
  case y5 => intro w' hS; obtain ⟨s1, s2, s3⟩ := hS; go_simp; rfl
  refine way_read (some 16) ?v6 rfl rfl (fun _ _ _ h => h) rfl ?y6 ?_
  case y6 => intro w' hS; obtain ⟨s1, s2, s3⟩ := hS; go_simp; rfl
  refine way_read (some 17) ?v7 rfl rfl (fun _ _ _ h => h) rfl ?y7 ?_
  case y7 => intro w' hS; obtain ⟨s1, s2, s3⟩ := hS; go_simp; rfl
  refine way_read (some 18) ?v8 rfl rfl (fun _ _ _ h => h) rfl ?y8 ?_
  case y8 => intro w' hS; obtain ⟨s1, s2, s3⟩ := hS; go_simp; rfl
  refine way_read (some 19) ?v9 rfl rfl (fun _ _ _ h => h) rfl ?y9 ?_
  case y9 => intro w' hS; obtain ⟨s1, s2, s3⟩ := hS; go_simp; rfl
  refine way_read (some 20) ?v10 rfl rfl (fun _ _ _ h => h) rfl ?y10 ?_
  case y10 => intro w' hS; obtain ⟨s1, s2, s3⟩ := hS; go_simp; rfl
  refine way_read (some 21) ?v11 rfl rfl (fun _ _ _ h => h) rfl ?y11 ?_
  case y11 => intro w' hS; obtain ⟨s1, s2, s3⟩ := hS; go_simp; rfl
  refine way_read (some 22) ?v12 rfl rfl (fun _ _ _ h => h) rfl ?y12 ?_
  case y12 => intro w' hS; obtain ⟨s1, s2, s3⟩ := hS; go_simp; rfl
  refine way_turn rfl rfl (fun K hK => ?_)
  unfold Oper.wp execOp
  go_simp
  refine hK _ _ ⟨by go_simp, by go_simp, by go_simp⟩ (fun _ => ?_)
  clear hK K
  refine way_turn rfl rfl (fun K hK => ?_)
  refine wp_append_mine (.tmp 14) (.tmp 23) 25 rfl 0 5 _ _ 1 1 rfl rfl rfl rfl rfl rfl (by omega) _ _ _ rfl (by exact (hown.alloc _).alloc _) _ 1 1 [.int .u8 (IntKind.u8.wrap xa)] rfl rfl ?h2 ?h3 (by unfold maxLen; omega) (by omega) (Nat.zero_le _) (fun v' w1 hA => ?_)
  case h2 => 
    intro j u hj
    cases j with
    | zero => cases hj; go_simp
    | succ j => cases hj
  case h3 => intro u hu; simp at hu; subst hu; rfl
  have hgb := hA.2.1
  have far : ∀ b o, b < w.heap.size → some b ≠ (Value.slice A n cc).ownBlock → w1.cell? ⟨b, o, none⟩ = w.cell? ⟨b, o, none⟩ := fun b o hb hne => by
    rw [hgb.cell_far ⟨b, o, none⟩ (by simp; omega) hne]
    go_simp
  have farf : ∀ b o, b < w.heap.size → some b ≠ (Value.slice A n cc).ownBlock → w1.frozen? ⟨b, o, none⟩ = w.frozen? ⟨b, o, none⟩ := fun b o hb hne => by
    rw [hgb.frozen_far ⟨b, o, none⟩ (by simp; omega) hne]
    go_simp
  have hbox : some w.heap.size ≠ (Value.slice A n cc).ownBlock := fun he => by
    have := (hown.lt w.heap.size he.symm).2
    omega
  have e1 : w1.cell? ⟨w.heap.size, 1, none⟩ = some (.int .i64 a) := by
    rw [hgb.cell_far ⟨w.heap.size, 1, none⟩ (by simp; omega) hbox]
    go_simp
  have e2 := far m 20 hm hmo
  have e3 := far m (2 + a) hm hmo
  have e4 : ∀ o, w1.frozen? ⟨m, o, none⟩ = false := fun o => (farf m o hm hmo).trans (hf o)
  refine hK _ _ ⟨e2.trans h20, e1, e3.trans ha⟩ (fun _ => ?_)
  refine way_done ?_
  simp only [List.drop_succ_cons, List.drop_zero]
  go_simp
  obtain ⟨g, cap, rfl⟩ := own_form hA.1 (Nat.succ_pos _)
  have e6 : m < w1.heap.size := Nat.lt_of_lt_of_le hm (Nat.le_trans (by simp; omega) hgb.size)
  go_wp2
  go_end0
  have hu : [Value.int .u8 (IntKind.u8.wrap xa)] = nums .u8 [xa % 256] := by simp [nums, IntKind.wrap, IntKind.signed, IntKind.bits]
  have happ : nums .u8 xs ++ [Value.int .u8 (IntKind.u8.wrap xa)] = nums .u8 (xs ++ [xa % 256]) := by rw [hu]; simp [nums]
  rw [happ] at hA
  exact ⟨rfl, _, w1, ⟨hA.1, gb_trans (gb_drew (gb_trans (World.grownBy_alloc w _ _) (World.grownBy_alloc _ _ _))) hgb, fun k hk => (hA.2.2 k hk).imp id (fun h => by simp at h; omega)⟩, Below.refl _ _⟩
end Go.Proofs.Ytbchiolgbhckhaa.Mach

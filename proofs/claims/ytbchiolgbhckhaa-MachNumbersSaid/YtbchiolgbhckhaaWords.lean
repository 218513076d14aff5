/- The operations of two words and of one, walked: what the machine's own register or end holds behind them. -/
import Derived.Test.YtbchiolgbhckhaaOps4
import Derived.Deep.QuietTactic
import Derived.BigQuiet
set_option linter.unusedVariables false
set_option linter.unusedSimpArgs false
namespace Go.Proofs.Ytbchiolgbhckhaa.Mach
open Go.RowKit Go.Proofs.YtbchiolgbhckhaaW.PrintWords Go.Proofs.YtbchiolgbhckhaaW.PrintMore Go.Proofs.Ytbchiolgbhckhaa.PMachRuns

theorem quiet_add {P : Program} {f : FuncId} {args : Array Value} {w : World} {a n : Nat} {v : Value}
    (h : Calls P f args (w.drewN (a + n)) fun e w' => e = .returned v ∧ ∃ m, w' = (w.drewN (a + n)).drewN m) :
    Calls P f args (w.drewN (a + n)) fun e w'' => e = .returned v ∧ ∃ m, w'' = w.drewN (a + m) :=
  h.mono fun _ _ ⟨he, m, hm⟩ => ⟨he, n + m, by rw [hm, World.drewN_drewN, Nat.add_assoc]⟩
theorem wrap_in {n : Int} (h0 : -9223372036854775808 ≤ n) (h1 : n ≤ 9223372036854775807) : wrap64 n = n := by unfold wrap64; omega
theorem below_put {B : Nat} {W w : World} (h : Below B W w) (a : Addr) (v : Value) : Below B (W.setCell a v) (w.setCell a v) :=
  ⟨h.os, h.tape, h.output, by simpa [World.setCell] using h.size, fun k hk => by simp only [World.setCell, Array.getElem?_modify, h.block k hk]⟩
theorem below_drewN {n : Nat} {W w : World} {k : Nat} (h : Below k W w) : Below k W (w.drewN n) := by
  induction n with
  | zero => exact h
  | succ n ih => exact ih.drew
set_option maxHeartbeats 400000 in
theorem words_bin (m a b c : Nat) (o i xa xb xc v : Int) (w : World) (hm : m < w.heap.size) (hf : ∀ o, w.frozen? ⟨m, o, none⟩ = false) (o0 : 16 ≤ o) (ho : o < 40) (hr : bin2 (o - 16) xb xc = (v, 0)) (ha : w.cell? ⟨m, 2 + a, none⟩ = some (.int .i64 xa)) (la : (a : Int) < 16) (hb : w.cell? ⟨m, 2 + b, none⟩ = some (.int .i64 xb)) (lb : (b : Int) < 16) (hc : w.cell? ⟨m, 2 + c, none⟩ = some (.int .i64 xc)) (lc : (c : Int) < 16) :
    Calls Try.prog 51 #[.pointer (some ⟨m, 0, none⟩), .agg #[.int .i64 o, .int .i64 a, .int .i64 b, .int .i64 c, .int .i64 i]] w (Did w (regW w m a v)) := by
  obtain ⟨⟨u1, u2⟩, h1⟩ : ∃ r, word_Un.f (wrap64 (o - 40)) xb = some r := ⟨_, (un_same _ _).1⟩
  have h2 : word_Bin.f 3 (wrap64 (o - 16)) xb xc = some (v, 0) := (congrArg (fun z => word_Bin.f 3 z xb xc) (wrap_in (n := o - 16) (by omega) (by omega))).trans ((bin_same _ _ _).1.trans (congrArg some hr))
  clear hr
  clear o0
  go_enter Try.func51, Try.ntmps51
  go_wp2
  go_quiet ((go_at_call 61; exact Calls.quiet_of ((word_Un.calls _ _ _ _ _ h1).mono (fun _ _ h => ⟨h.1, h.2.out⟩))))
  go_wp2
  go_quiet ((go_at_call 62; exact quiet_add ((word_Bin.calls 3 _ _ _ _ _ _ h2).mono (fun _ _ h => ⟨h.1, h.2.out⟩))))
  go_wp2
  refine region_tail 7 mixed (by kernel_rfl) ?_
  simp only [List.take_succ_cons, List.take_zero, List.drop_succ_cons, List.drop_zero]
  repeat still_step
  refine wpStill_nil ?_
  go_wp2
  go_end0
  exact ⟨rfl, by unfold regW; exact below_put (below_drewN ((Below.refl _ _).alloc (Nat.le_refl _) _)) _ _⟩
set_option maxHeartbeats 400000 in
theorem words_bin_panic (m a b c : Nat) (o i xa xb xc v u x y : Int) (w : World) (hm : m < w.heap.size) (hf : ∀ o, w.frozen? ⟨m, o, none⟩ = false) (o0 : 16 ≤ o) (ho : o < 40) (hr : bin2 (o - 16) xb xc = (v, u)) (hu : ¬ u = 0) (hb : w.cell? ⟨m, 2 + b, none⟩ = some (.int .i64 xb)) (lb : (b : Int) < 16) (hc : w.cell? ⟨m, 2 + c, none⟩ = some (.int .i64 xc)) (lc : (c : Int) < 16) (h6 : w.cell? ⟨m, 21, none⟩ = some (.int .i64 x)) (h7 : w.cell? ⟨m, 22, none⟩ = some (.int .i64 y)) :
    Calls Try.prog 51 #[.pointer (some ⟨m, 0, none⟩), .agg #[.int .i64 o, .int .i64 a, .int .i64 b, .int .i64 c, .int .i64 i]] w (Did w (endsW w m 2 u)) := by
  have hu' : (u != 0) = true := bne_iff_ne.2 hu
  obtain ⟨⟨u1, u2⟩, h1⟩ : ∃ r, word_Un.f (wrap64 (o - 40)) xb = some r := ⟨_, (un_same _ _).1⟩
  have h2 : word_Bin.f 3 (wrap64 (o - 16)) xb xc = some (v, u) := (congrArg (fun z => word_Bin.f 3 z xb xc) (wrap_in (n := o - 16) (by omega) (by omega))).trans ((bin_same _ _ _).1.trans (congrArg some hr))
  clear hr
  clear o0
  go_enter Try.func51, Try.ntmps51
  go_wp2
  go_quiet ((go_at_call 61; exact Calls.quiet_of ((word_Un.calls _ _ _ _ _ h1).mono (fun _ _ h => ⟨h.1, h.2.out⟩))))
  go_wp2
  go_quiet ((go_at_call 62; exact quiet_add ((word_Bin.calls 3 _ _ _ _ _ _ h2).mono (fun _ _ h => ⟨h.1, h.2.out⟩))))
  go_wp2
  go_end0
  go_wp2
  go_end0
  exact ⟨rfl, by unfold endsW; exact below_put (below_put (below_drewN ((Below.refl _ _).alloc (Nat.le_refl _) _)) _ _) _ _⟩
set_option maxHeartbeats 400000 in
theorem words_un (m a b c : Nat) (o i xa xb v : Int) (w : World) (hm : m < w.heap.size) (hf : ∀ o, w.frozen? ⟨m, o, none⟩ = false) (o0 : 40 ≤ o ∧ o < 64) (ho : ¬ o < 40) (hr : un2 (o - 40) xb = (v, 0)) (ha : w.cell? ⟨m, 2 + a, none⟩ = some (.int .i64 xa)) (la : (a : Int) < 16) (hb : w.cell? ⟨m, 2 + b, none⟩ = some (.int .i64 xb)) (lb : (b : Int) < 16) :
    Calls Try.prog 51 #[.pointer (some ⟨m, 0, none⟩), .agg #[.int .i64 o, .int .i64 a, .int .i64 b, .int .i64 c, .int .i64 i]] w (Did w (regW w m a v)) := by
  have h1 : word_Un.f (wrap64 (o - 40)) xb = some (v, 0) := (congrArg (fun z => word_Un.f z xb) (wrap_in (n := o - 40) (by omega) (by omega))).trans ((un_same _ _).1.trans (congrArg some hr))
  clear hr
  clear o0
  go_enter Try.func51, Try.ntmps51
  go_wp2
  go_quiet ((go_at_call 61; exact Calls.quiet_of ((word_Un.calls _ _ _ _ _ h1).mono (fun _ _ h => ⟨h.1, h.2.out⟩))))
  go_wp2
  refine region_tail 7 mixed (by kernel_rfl) ?_
  simp only [List.take_succ_cons, List.take_zero, List.drop_succ_cons, List.drop_zero]
  repeat still_step
  refine wpStill_nil ?_
  go_wp2
  go_end0
  exact ⟨rfl, by unfold regW; exact below_put (below_drewN ((Below.refl _ _).alloc (Nat.le_refl _) _)) _ _⟩
end Go.Proofs.Ytbchiolgbhckhaa.Mach

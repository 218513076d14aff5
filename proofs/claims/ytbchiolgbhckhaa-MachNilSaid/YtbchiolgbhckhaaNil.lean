/- A machine that there is not answers nothing: the law's walk. -/
import Derived.Test.YtbchiolgbhckhaaAwake
set_option linter.unusedVariables false
set_option linter.unusedSimpArgs false
namespace Go.Proofs.Ytbchiolgbhckhaa.Mach
open Go.RowKit Go.Proofs.YtbchiolgbhckhaaW.PrintWords Go.Proofs.YtbchiolgbhckhaaW.PrintMore Go.Proofs.Ytbchiolgbhckhaa.PMachRuns

theorem bnext {a b c : World} (h : Below a.heap.size a b) (k : Below b.heap.size b c) : Below a.heap.size a c := h.trans (k.mono h.size)
theorem same_zero (w : World) : Calls Try.prog 22 #[.agg #[.int .i64 0, .int .i64 0, .slice none 0 0, .int .i64 0], .agg #[.int .i64 0, .int .i64 0, .slice none 0 0, .int .i64 0]] w fun e w' => e = .returned (.bool true) ∧ Below w.heap.size w w' :=
  mortiseref3_Same.calls 0 0 none 0 [] 0 0 0 none 0 [] 0 true w ⟨rfl, by decide, fun h => absurd h (by decide)⟩ (Nat.le_refl _) ⟨rfl, by decide, fun h => absurd h (by decide)⟩ (Nat.le_refl _) (by kernel_rfl)
set_option maxHeartbeats 1000000 in
theorem machNil_walk (i : Int) (w : World) (_ : (Lit.int .i64 i).wf = true) : Calls Try.prog 4 #[.int .i64 i] w fun e w' => e = .returned (.bool true) ∧ Below w.heap.size w w' := by
  have hnot : ∀ (x : Bool) (w : World), (Op.unary .not (.bool x)).run Try.prog w = .ok (.bool (!x)) w := fun _ _ => rfl
  go_enter Try.func4, Try.ntmps4
  go_wp2_with (first | (go_at_call 17; refine (step_nil _).mono ?_; rintro e w1 ⟨rfl, b1⟩) | (go_at_call 25; refine (run_nil _ _).mono ?_; rintro e w2 ⟨rfl, b2⟩) | (go_at_call 22; refine (same_zero _).mono ?_; rintro e w3 ⟨rfl, b3⟩) | (go_at_call 23; refine (outcome_nil _).mono ?_; rintro e w4 ⟨rfl, b4⟩) | (go_at_call 19; refine (pc_nil _).mono ?_; rintro e w5 ⟨rfl, rfl⟩) | (go_at_call 20; refine (reg_nil _ _).mono ?_; rintro e w6 ⟨rfl, rfl⟩) | (go_at_call 21; refine (mem_nil _ _).mono ?_; rintro e w7 ⟨rfl, rfl⟩) | (go_at_call 13; refine (awake_any _).mono ?_; rintro e w8 ⟨rfl, b8⟩))
  rename_i w3' b3'
  go_ret
  exact ⟨rfl, bnext (bnext (bnext (bnext (bnext b1 b2) b3') b4) b3) b8⟩
end Go.Proofs.Ytbchiolgbhckhaa.Mach

/- The document's example runs as it says. -/
import Derived.Test.YtbchiolgbhckhaaCodeOf
import Derived.Laws.BytesArg
set_option linter.unusedVariables false
set_option linter.unusedSimpArgs false
namespace Go.Proofs.Ytbchiolgbhckhaa.Mach
open Go.RowKit Go.Proofs.YtbchiolgbhckhaaW.PrintWords Go.Proofs.YtbchiolgbhckhaaW.PrintMore Go.Proofs.Ytbchiolgbhckhaa.PMachRuns

def awL : List S50 := [⟨3, 1, 0, 0, 65⟩, ⟨14, 1, 0, 0, 0⟩, ⟨0, 0, 0, 0, 0⟩]
def awC : List Int := [220676381741154369, 1013309916158361600, 0]
theorem aw_code : mortiselaw3_Code.f 40 awL = some awC := by kernel_rfl
theorem aw_run : (runN (min 10 4194304 : Int).toNat (fresh awC [] [] 0 1)).kind = 1 ∧ (runN (min 10 4194304 : Int).toNat (fresh awC [] [] 0 1)).out = [65] ∧ (runN (min 10 4194304 : Int).toNat (fresh awC [] [] 0 1)).steps = 3 := ⟨by kernel_rfl, by kernel_rfl, by kernel_rfl⟩
theorem awC_in (k : Nat) : -9223372036854775808 ≤ awC.getD k 0 ∧ awC.getD k 0 ≤ 9223372036854775807 := by
  rcases k with _ | _ | _ | k <;> simp [awC]
theorem aw_mrun (w : World) (a : Addr) (cap : Nat) (h : Reads w (.slice (some a) awC.length cap) awC.length (nums .i64 awC)) :
    Calls Try.prog 27 #[.agg #[.slice (some a) awC.length cap, .slice none 0 0, .int .i64 0], .int .i64 1, .slice none 0 0, .int .i64 10] w fun e w' =>
      ∃ p g cap', e = .returned (.agg #[.int .i64 1, .int .i64 p, .slice (some ⟨g, 0, none⟩) 1 cap', .int .i64 3]) ∧ w'.cell? ⟨g, 0, none⟩ = some (.int .u8 65) ∧ g < w'.heap.size ∧ Below w.heap.size w w' := by
  refine (mrun_ok a none none awC.length cap 0 0 0 0 1 0 awC [] [] w 10 (by decide) (by decide) (by decide) (by decide) (by decide) (by decide) (by decide) (by decide) (by decide) h (reads_nil w .i64) (reads_nil w .u8) awC_in (by intro v hv; cases hv)).mono ?_
  rintro e w' ⟨B, ⟨v, rfl, hv⟩, hB, hb⟩
  obtain ⟨k1, k2, k3⟩ := aw_run
  rw [k2] at hv
  obtain ⟨g, cap', rfl⟩ := own_form hv (by decide)
  have hc := hv.cells (g := g) rfl 0 _ rfl
  have hg := hv.lt g rfl
  rw [add_at] at hc
  rw [k1, k3]
  exact ⟨_, g, cap', rfl, hc, hg.2, hb⟩
set_option maxHeartbeats 1000000 in
theorem awake_any (w : World) : Calls Try.prog 13 #[] w fun e w' => e = .returned (.bool true) ∧ Below w.heap.size w w' := by
  have hcd := code_any 40 w.heap.size 3 awL awC (w.alloc (.cells #[.int .i64 3, .int .i64 1, .int .i64 0, .int .i64 0, .int .i64 65, .int .i64 14, .int .i64 1, .int .i64 0, .int .i64 0, .int .i64 0, .int .i64 0, .int .i64 0, .int .i64 0, .int .i64 0, .int .i64 0] 50)) _ _ (heap_alloc_new w _) rfl (by decide) (by decide) aw_code
  go_enter Try.func13, Try.ntmps13
  go_wp2_with (go_at_call 26; refine hcd.mono ?_; rintro e w2 ⟨A, cap, rfl, ho, hb⟩; obtain ⟨g, cap', hA⟩ := own_form ho (by decide); cases hA)
  refine (aw_mrun _ _ cap ((own_reads ho).below ((Below.refl _ _).alloc (Nat.le_refl _) _))).mono ?_
  rintro e w3 ⟨p, g', cap', rfl, h65, hg', hb3⟩
  have hcv : (convert 25 9 (.slice (some ⟨g', 0, none⟩) 1 cap')).run Try.prog (w3.alloc (.cells #[.int .i64 1, .int .i64 p, .slice (some ⟨g', 0, none⟩) 1 cap', .int .i64 3] 34)) = .ok (.string ⟨#[65]⟩) (w3.alloc (.cells #[.int .i64 1, .int .i64 p, .slice (some ⟨g', 0, none⟩) 1 cap', .int .i64 3] 34)) :=
    run_convert_bytes_arg _ 25 5 rfl rfl g' 0 1 cap' [65] rfl (fun i hi => by
      obtain rfl : i = 0 := by omega
      exact (World.cell?_of_block (Below.heap_alloc _ _ _ hg')).trans h65) 9 rfl
  have hw2 : Below w.heap.size w w2 := ((Below.refl _ _).alloc (Nat.le_refl _) _).trans (hb.mono (by simp))
  have hw3 : Below w.heap.size w w3 := (hw2.trans (((Below.refl _ _).alloc (Nat.le_refl _) _).mono hw2.size)).trans (hb3.mono (by have := hw2.size; simp; omega))
  go_wp2
  go_ret
  exact ⟨rfl, hw3.alloc hw3.size _⟩
end Go.Proofs.Ytbchiolgbhckhaa.Mach

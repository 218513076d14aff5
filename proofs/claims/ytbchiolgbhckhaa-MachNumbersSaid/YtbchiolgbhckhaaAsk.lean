/- What is asked of a machine: its place, its registers, its memory; a whole run. -/
import Derived.Test.YtbchiolgbhckhaaNew
set_option linter.unusedVariables false
set_option linter.unusedSimpArgs false
namespace Go.Proofs.Ytbchiolgbhckhaa.Mach
open Go.RowKit Go.Proofs.YtbchiolgbhckhaaW.PrintWords Go.Proofs.YtbchiolgbhckhaaW.PrintMore Go.Proofs.Ytbchiolgbhckhaa.PMachRuns

theorem pc_nil (w : World) : Calls Try.prog 19 #[.pointer none] w fun e w' => e = .returned (.int .i64 0) ∧ w = w' := by
  go_enter Try.func19, Try.ntmps19
  go_wp2
  go_ret
  exact ⟨rfl, rfl⟩
theorem reg_nil (i : Int) (w : World) : Calls Try.prog 20 #[.pointer none, .int .i64 i] w fun e w' => e = .returned (.int .i64 0) ∧ w = w' := by
  go_enter Try.func20, Try.ntmps20
  go_wp2
  all_goals (go_ret; exact ⟨rfl, rfl⟩)
theorem mem_nil (i : Int) (w : World) : Calls Try.prog 21 #[.pointer none, .int .i64 i] w fun e w' => e = .returned (.int .i64 0) ∧ w = w' := by
  go_enter Try.func21, Try.ntmps21
  go_wp2
  all_goals (go_ret; exact ⟨rfl, rfl⟩)
theorem pc_some {w : World} {L : Lay} {s : MS} (h : Holds w L s) : Calls Try.prog 19 #[.pointer (some ⟨L.m, 0, none⟩)] w fun e w' => e = .returned (.int .i64 s.pc) ∧ w = w' := by
  have h18 := h.pc_cell
  go_enter Try.func19, Try.ntmps19
  go_wp2
  go_ret
  exact ⟨rfl, rfl⟩
theorem reg_some {w : World} {L : Lay} {s : MS} (h : Holds w L s) (a : Nat) (ha : a < 16) : Calls Try.prog 20 #[.pointer (some ⟨L.m, 0, none⟩), .int .i64 (a : Int)] w fun e w' => e = .returned (.int .i64 (s.reg a)) ∧ w = w' := by
  have hr := h.reg a ha
  have h1 : decide ((a : Int) < 0) = false := decide_eq_false (by omega)
  have h2 : decide ((16 : Int) ≤ a) = false := decide_eq_false (by omega)
  have h3 : (a : Int) < 16 := by omega
  go_enter Try.func20, Try.ntmps20
  go_wp2
  go_ret
  exact ⟨rfl, rfl⟩
theorem reg_out {m : Nat} (i : Int) (hi : i < 0 ∨ 16 ≤ i) (w : World) : Calls Try.prog 20 #[.pointer (some ⟨m, 0, none⟩), .int .i64 i] w fun e w' => e = .returned (.int .i64 0) ∧ w = w' := by
  rcases hi with hi | hi
  · go_enter Try.func20, Try.ntmps20
    go_wp2
    go_ret
    exact ⟨rfl, rfl⟩
  · have h1 : decide (i < 0) = false := decide_eq_false (by omega)
    go_enter Try.func20, Try.ntmps20
    go_wp2
    go_ret
    exact ⟨rfl, rfl⟩
theorem mem_some {w : World} {L : Lay} {s : MS} (h : Holds w L s) (i : Int) (h0 : 0 ≤ i) (h1 : i < s.mem.length) : Calls Try.prog 21 #[.pointer (some ⟨L.m, 0, none⟩), .int .i64 i] w fun e w' => e = .returned (.int .i64 (rd s.mem i)) ∧ w = w' := by
  have hc := h.mem_cell
  have hv := h.mem_read h0 h1
  have g1 : decide (i < 0) = false := decide_eq_false (by omega)
  have g2 : decide ((s.mem.length : Int) ≤ i) = false := decide_eq_false (by omega)
  go_enter Try.func21, Try.ntmps21
  go_wp2
  go_ret
  exact ⟨rfl, rfl⟩
theorem mem_out {w : World} {L : Lay} {s : MS} (h : Holds w L s) (i : Int) (hi : i < 0 ∨ s.mem.length ≤ i) : Calls Try.prog 21 #[.pointer (some ⟨L.m, 0, none⟩), .int .i64 i] w fun e w' => e = .returned (.int .i64 0) ∧ w = w' := by
  have hc := h.mem_cell
  rcases hi with hi | hi
  · go_enter Try.func21, Try.ntmps21
    go_wp2
    go_ret
    exact ⟨rfl, rfl⟩
  · have h1 : decide (i < 0) = false := decide_eq_false (by omega)
    go_enter Try.func21, Try.ntmps21
    go_wp2
    go_ret
    exact ⟨rfl, rfl⟩
theorem num_any (i : Int) (w : World) : Calls Try.prog 16 #[.int .i64 i] w fun e w' => e = .returned (.int .i64 i) ∧ w = w' := by
  go_enter Try.func16, Try.ntmps16
  go_wp2
  go_ret
  exact ⟨rfl, rfl⟩
end Go.Proofs.Ytbchiolgbhckhaa.Mach

/- The document's machine is made: the walk. -/
import Derived.Test.YtbchiolgbhckhaaRefNewC
import Derived.Laws.CopyOwn
set_option linter.unusedVariables false
set_option linter.unusedSimpArgs false
namespace Go.Proofs.Ytbchiolgbhckhaa.Mach
open Go.RowKit Go.Proofs.YtbchiolgbhckhaaW.PrintWords Go.Proofs.YtbchiolgbhckhaaW.PrintMore Go.Proofs.Ytbchiolgbhckhaa.PMachRuns
set_option maxRecDepth 100000 in
set_option maxHeartbeats 400000 in
theorem rnew_1 (A1 A2 A3 : Option Addr) (n1 c1 n2 c2 n3 c3 : Nat) (en mem : Int) (w : World) (hb : n1 = 0) :
    Calls Try.prog 15 #[.agg #[.slice A1 n1 c1, .slice A2 n2 c2, .int .i64 en], .int .i64 mem, .slice A3 n3 c3] w fun e w' => e = .returned (.tuple #[.agg ZS, .int .i64 4]) ∧ Below w.heap.size w w' := by
  subst hb
  go_enter Try.func15, Try.ntmps15
  go_upto_region 2 with (fail)
  have hg : ((w.alloc (.cells #[.slice A1 0 c1, .slice A2 n2 c2, .int .i64 en] 24)).alloc (.cells ZS 36)).heap[w.heap.size + 1]? = some (.cells ZS 36) := by simpa using heap_alloc_new (w.alloc (.cells #[.slice A1 0 c1, .slice A2 n2 c2, .int .i64 en] 24)) (.cells ZS 36)
  have hB := below_setRow (((Below.refl w.heap.size w).alloc (Nat.le_refl _) (.cells #[.slice A1 0 c1, .slice A2 n2 c2, .int .i64 en] 24)).alloc (by simp) (.cells ZS 36)) (Nat.le_succ _) ZS
  go_upto_region 9999 with (refine wpList_store_row (o := ⟨none, .store 36 (.tmp 6) (.tmp 39), _, _, _, _⟩) rfl 36 (.tmp 6) (.tmp 39) rfl (w.heap.size + 1) ZS rfl rfl 36 ZS hg size36 rfl ZS_one ?_)
  exact bodyPost_ret (results_cell_tmp Try.results15 _ _ _ (w.heap.size + 1) _ rfl (run_loadVar_row (P := Try.prog) _ (w.heap.size + 1) 36 36 ZS _ _ (setRow_heap _ _ _ ZS _ _ hg) Try.underlying36 rfl size36)) rfl ⟨rfl, hB⟩
set_option maxRecDepth 100000 in
set_option maxHeartbeats 400000 in
theorem rnew_2 (A1 A2 A3 : Option Addr) (n1 c1 n2 c2 n3 c3 : Nat) (en mem : Int) (w : World) (f1 : (1 : Int) ≤ n1) (hb : (65536 : Int) < n1) :
    Calls Try.prog 15 #[.agg #[.slice A1 n1 c1, .slice A2 n2 c2, .int .i64 en], .int .i64 mem, .slice A3 n3 c3] w fun e w' => e = .returned (.tuple #[.agg ZS, .int .i64 4]) ∧ Below w.heap.size w w' := by
  have g1 : ((n1 : Int) == 0) = false := beq_eq_false_iff_ne.2 (by omega)
  have g1' : ¬ n1 = 0 := by omega
  have hb' : decide ((65536 : Int) < n1) = true := decide_eq_true hb
  go_enter Try.func15, Try.ntmps15
  go_upto_region 2 with (fail)
  have hg : ((w.alloc (.cells #[.slice A1 n1 c1, .slice A2 n2 c2, .int .i64 en] 24)).alloc (.cells ZS 36)).heap[w.heap.size + 1]? = some (.cells ZS 36) := by simpa using heap_alloc_new (w.alloc (.cells #[.slice A1 n1 c1, .slice A2 n2 c2, .int .i64 en] 24)) (.cells ZS 36)
  have hB := below_setRow (((Below.refl w.heap.size w).alloc (Nat.le_refl _) (.cells #[.slice A1 n1 c1, .slice A2 n2 c2, .int .i64 en] 24)).alloc (by simp) (.cells ZS 36)) (Nat.le_succ _) ZS
  go_upto_region 9999 with (refine wpList_store_row (o := ⟨none, .store 36 (.tmp 6) (.tmp 39), _, _, _, _⟩) rfl 36 (.tmp 6) (.tmp 39) rfl (w.heap.size + 1) ZS rfl rfl 36 ZS hg size36 rfl ZS_one ?_)
  exact bodyPost_ret (results_cell_tmp Try.results15 _ _ _ (w.heap.size + 1) _ rfl (run_loadVar_row (P := Try.prog) _ (w.heap.size + 1) 36 36 ZS _ _ (setRow_heap _ _ _ ZS _ _ hg) Try.underlying36 rfl size36)) rfl ⟨rfl, hB⟩
set_option maxRecDepth 100000 in
set_option maxHeartbeats 400000 in
theorem rnew_3 (A1 A2 A3 : Option Addr) (n1 c1 n2 c2 n3 c3 : Nat) (en mem : Int) (w : World) (f1 : (1 : Int) ≤ n1) (f2 : (n1 : Int) ≤ 65536) (hb : (16384 : Int) < n2) :
    Calls Try.prog 15 #[.agg #[.slice A1 n1 c1, .slice A2 n2 c2, .int .i64 en], .int .i64 mem, .slice A3 n3 c3] w fun e w' => e = .returned (.tuple #[.agg ZS, .int .i64 4]) ∧ Below w.heap.size w w' := by
  have g1 : ((n1 : Int) == 0) = false := beq_eq_false_iff_ne.2 (by omega)
  have g1' : ¬ n1 = 0 := by omega
  have g2 : decide ((65536 : Int) < n1) = false := decide_eq_false (by omega)
  have hb' : decide ((16384 : Int) < n2) = true := decide_eq_true hb
  go_enter Try.func15, Try.ntmps15
  go_upto_region 2 with (fail)
  have hg : ((w.alloc (.cells #[.slice A1 n1 c1, .slice A2 n2 c2, .int .i64 en] 24)).alloc (.cells ZS 36)).heap[w.heap.size + 1]? = some (.cells ZS 36) := by simpa using heap_alloc_new (w.alloc (.cells #[.slice A1 n1 c1, .slice A2 n2 c2, .int .i64 en] 24)) (.cells ZS 36)
  have hB := below_setRow (((Below.refl w.heap.size w).alloc (Nat.le_refl _) (.cells #[.slice A1 n1 c1, .slice A2 n2 c2, .int .i64 en] 24)).alloc (by simp) (.cells ZS 36)) (Nat.le_succ _) ZS
  go_upto_region 9999 with (refine wpList_store_row (o := ⟨none, .store 36 (.tmp 6) (.tmp 39), _, _, _, _⟩) rfl 36 (.tmp 6) (.tmp 39) rfl (w.heap.size + 1) ZS rfl rfl 36 ZS hg size36 rfl ZS_one ?_)
  exact bodyPost_ret (results_cell_tmp Try.results15 _ _ _ (w.heap.size + 1) _ rfl (run_loadVar_row (P := Try.prog) _ (w.heap.size + 1) 36 36 ZS _ _ (setRow_heap _ _ _ ZS _ _ hg) Try.underlying36 rfl size36)) rfl ⟨rfl, hB⟩
set_option maxRecDepth 100000 in
set_option maxHeartbeats 400000 in
theorem rnew_4 (A1 A2 A3 : Option Addr) (n1 c1 n2 c2 n3 c3 : Nat) (en mem : Int) (w : World) (f1 : (1 : Int) ≤ n1) (f2 : (n1 : Int) ≤ 65536) (f3 : (n2 : Int) ≤ 16384) (hb : en < 0) :
    Calls Try.prog 15 #[.agg #[.slice A1 n1 c1, .slice A2 n2 c2, .int .i64 en], .int .i64 mem, .slice A3 n3 c3] w fun e w' => e = .returned (.tuple #[.agg ZS, .int .i64 4]) ∧ Below w.heap.size w w' := by
  have g1 : ((n1 : Int) == 0) = false := beq_eq_false_iff_ne.2 (by omega)
  have g1' : ¬ n1 = 0 := by omega
  have g2 : decide ((65536 : Int) < n1) = false := decide_eq_false (by omega)
  have g3 : decide ((16384 : Int) < n2) = false := decide_eq_false (by omega)
  have hb' : decide (en < 0) = true := decide_eq_true hb
  go_enter Try.func15, Try.ntmps15
  go_upto_region 2 with (fail)
  have hg : ((w.alloc (.cells #[.slice A1 n1 c1, .slice A2 n2 c2, .int .i64 en] 24)).alloc (.cells ZS 36)).heap[w.heap.size + 1]? = some (.cells ZS 36) := by simpa using heap_alloc_new (w.alloc (.cells #[.slice A1 n1 c1, .slice A2 n2 c2, .int .i64 en] 24)) (.cells ZS 36)
  have hB := below_setRow (((Below.refl w.heap.size w).alloc (Nat.le_refl _) (.cells #[.slice A1 n1 c1, .slice A2 n2 c2, .int .i64 en] 24)).alloc (by simp) (.cells ZS 36)) (Nat.le_succ _) ZS
  go_upto_region 9999 with (refine wpList_store_row (o := ⟨none, .store 36 (.tmp 6) (.tmp 39), _, _, _, _⟩) rfl 36 (.tmp 6) (.tmp 39) rfl (w.heap.size + 1) ZS rfl rfl 36 ZS hg size36 rfl ZS_one ?_)
  exact bodyPost_ret (results_cell_tmp Try.results15 _ _ _ (w.heap.size + 1) _ rfl (run_loadVar_row (P := Try.prog) _ (w.heap.size + 1) 36 36 ZS _ _ (setRow_heap _ _ _ ZS _ _ hg) Try.underlying36 rfl size36)) rfl ⟨rfl, hB⟩
set_option maxRecDepth 100000 in
set_option maxHeartbeats 400000 in
theorem rnew_5 (A1 A2 A3 : Option Addr) (n1 c1 n2 c2 n3 c3 : Nat) (en mem : Int) (w : World) (f1 : (1 : Int) ≤ n1) (f2 : (n1 : Int) ≤ 65536) (f3 : (n2 : Int) ≤ 16384) (f4 : 0 ≤ en) (hb : (n1 : Int) ≤ en) :
    Calls Try.prog 15 #[.agg #[.slice A1 n1 c1, .slice A2 n2 c2, .int .i64 en], .int .i64 mem, .slice A3 n3 c3] w fun e w' => e = .returned (.tuple #[.agg ZS, .int .i64 4]) ∧ Below w.heap.size w w' := by
  have g1 : ((n1 : Int) == 0) = false := beq_eq_false_iff_ne.2 (by omega)
  have g1' : ¬ n1 = 0 := by omega
  have g2 : decide ((65536 : Int) < n1) = false := decide_eq_false (by omega)
  have g3 : decide ((16384 : Int) < n2) = false := decide_eq_false (by omega)
  have g4 : decide (en < 0) = false := decide_eq_false (by omega)
  have hb' : decide ((n1 : Int) ≤ en) = true := decide_eq_true hb
  go_enter Try.func15, Try.ntmps15
  go_upto_region 2 with (fail)
  have hg : ((w.alloc (.cells #[.slice A1 n1 c1, .slice A2 n2 c2, .int .i64 en] 24)).alloc (.cells ZS 36)).heap[w.heap.size + 1]? = some (.cells ZS 36) := by simpa using heap_alloc_new (w.alloc (.cells #[.slice A1 n1 c1, .slice A2 n2 c2, .int .i64 en] 24)) (.cells ZS 36)
  have hB := below_setRow (((Below.refl w.heap.size w).alloc (Nat.le_refl _) (.cells #[.slice A1 n1 c1, .slice A2 n2 c2, .int .i64 en] 24)).alloc (by simp) (.cells ZS 36)) (Nat.le_succ _) ZS
  go_upto_region 9999 with (refine wpList_store_row (o := ⟨none, .store 36 (.tmp 6) (.tmp 39), _, _, _, _⟩) rfl 36 (.tmp 6) (.tmp 39) rfl (w.heap.size + 1) ZS rfl rfl 36 ZS hg size36 rfl ZS_one ?_)
  exact bodyPost_ret (results_cell_tmp Try.results15 _ _ _ (w.heap.size + 1) _ rfl (run_loadVar_row (P := Try.prog) _ (w.heap.size + 1) 36 36 ZS _ _ (setRow_heap _ _ _ ZS _ _ hg) Try.underlying36 rfl size36)) rfl ⟨rfl, hB⟩
set_option maxRecDepth 100000 in
set_option maxHeartbeats 400000 in
theorem rnew_6 (A1 A2 A3 : Option Addr) (n1 c1 n2 c2 n3 c3 : Nat) (en mem : Int) (w : World) (f1 : (1 : Int) ≤ n1) (f2 : (n1 : Int) ≤ 65536) (f3 : (n2 : Int) ≤ 16384) (f4 : 0 ≤ en) (f5 : en < n1) (hb : mem < n2) :
    Calls Try.prog 15 #[.agg #[.slice A1 n1 c1, .slice A2 n2 c2, .int .i64 en], .int .i64 mem, .slice A3 n3 c3] w fun e w' => e = .returned (.tuple #[.agg ZS, .int .i64 1]) ∧ Below w.heap.size w w' := by
  have g1 : ((n1 : Int) == 0) = false := beq_eq_false_iff_ne.2 (by omega)
  have g1' : ¬ n1 = 0 := by omega
  have g2 : decide ((65536 : Int) < n1) = false := decide_eq_false (by omega)
  have g3 : decide ((16384 : Int) < n2) = false := decide_eq_false (by omega)
  have g4 : decide (en < 0) = false := decide_eq_false (by omega)
  have g5 : decide ((n1 : Int) ≤ en) = false := decide_eq_false (by omega)
  have hb' : decide (mem < n2) = true := decide_eq_true hb
  go_enter Try.func15, Try.ntmps15
  go_upto_region 4 with (fail)
  have hg : ((w.alloc (.cells #[.slice A1 n1 c1, .slice A2 n2 c2, .int .i64 en] 24)).alloc (.cells ZS 36)).heap[w.heap.size + 1]? = some (.cells ZS 36) := by simpa using heap_alloc_new (w.alloc (.cells #[.slice A1 n1 c1, .slice A2 n2 c2, .int .i64 en] 24)) (.cells ZS 36)
  have hB := below_setRow (((Below.refl w.heap.size w).alloc (Nat.le_refl _) (.cells #[.slice A1 n1 c1, .slice A2 n2 c2, .int .i64 en] 24)).alloc (by simp) (.cells ZS 36)) (Nat.le_succ _) ZS
  go_upto_region 9999 with (refine wpList_store_row (o := ⟨none, .store 36 (.tmp 6) (.tmp 54), _, _, _, _⟩) rfl 36 (.tmp 6) (.tmp 54) rfl (w.heap.size + 1) ZS rfl rfl 36 ZS hg size36 rfl ZS_one ?_)
  exact bodyPost_ret (results_cell_tmp Try.results15 _ _ _ (w.heap.size + 1) _ rfl (run_loadVar_row (P := Try.prog) _ (w.heap.size + 1) 36 36 ZS _ _ (setRow_heap _ _ _ ZS _ _ hg) Try.underlying36 rfl size36)) rfl ⟨rfl, hB⟩
set_option maxRecDepth 100000 in
set_option maxHeartbeats 400000 in
theorem rnew_7 (A1 A2 A3 : Option Addr) (n1 c1 n2 c2 n3 c3 : Nat) (en mem : Int) (w : World) (f1 : (1 : Int) ≤ n1) (f2 : (n1 : Int) ≤ 65536) (f3 : (n2 : Int) ≤ 16384) (f4 : 0 ≤ en) (f5 : en < n1) (f6 : (n2 : Int) ≤ mem) (hb : (262144 : Int) < mem) :
    Calls Try.prog 15 #[.agg #[.slice A1 n1 c1, .slice A2 n2 c2, .int .i64 en], .int .i64 mem, .slice A3 n3 c3] w fun e w' => e = .returned (.tuple #[.agg ZS, .int .i64 1]) ∧ Below w.heap.size w w' := by
  have g1 : ((n1 : Int) == 0) = false := beq_eq_false_iff_ne.2 (by omega)
  have g1' : ¬ n1 = 0 := by omega
  have g2 : decide ((65536 : Int) < n1) = false := decide_eq_false (by omega)
  have g3 : decide ((16384 : Int) < n2) = false := decide_eq_false (by omega)
  have g4 : decide (en < 0) = false := decide_eq_false (by omega)
  have g5 : decide ((n1 : Int) ≤ en) = false := decide_eq_false (by omega)
  have g6 : decide (mem < n2) = false := decide_eq_false (by omega)
  have hb' : decide ((262144 : Int) < mem) = true := decide_eq_true hb
  go_enter Try.func15, Try.ntmps15
  go_upto_region 4 with (fail)
  have hg : ((w.alloc (.cells #[.slice A1 n1 c1, .slice A2 n2 c2, .int .i64 en] 24)).alloc (.cells ZS 36)).heap[w.heap.size + 1]? = some (.cells ZS 36) := by simpa using heap_alloc_new (w.alloc (.cells #[.slice A1 n1 c1, .slice A2 n2 c2, .int .i64 en] 24)) (.cells ZS 36)
  have hB := below_setRow (((Below.refl w.heap.size w).alloc (Nat.le_refl _) (.cells #[.slice A1 n1 c1, .slice A2 n2 c2, .int .i64 en] 24)).alloc (by simp) (.cells ZS 36)) (Nat.le_succ _) ZS
  go_upto_region 9999 with (refine wpList_store_row (o := ⟨none, .store 36 (.tmp 6) (.tmp 54), _, _, _, _⟩) rfl 36 (.tmp 6) (.tmp 54) rfl (w.heap.size + 1) ZS rfl rfl 36 ZS hg size36 rfl ZS_one ?_)
  exact bodyPost_ret (results_cell_tmp Try.results15 _ _ _ (w.heap.size + 1) _ rfl (run_loadVar_row (P := Try.prog) _ (w.heap.size + 1) 36 36 ZS _ _ (setRow_heap _ _ _ ZS _ _ hg) Try.underlying36 rfl size36)) rfl ⟨rfl, hB⟩
set_option maxRecDepth 100000 in
set_option maxHeartbeats 400000 in
theorem rnew_8 (A1 A2 A3 : Option Addr) (n1 c1 n2 c2 n3 c3 : Nat) (en mem : Int) (w : World) (f1 : (1 : Int) ≤ n1) (f2 : (n1 : Int) ≤ 65536) (f3 : (n2 : Int) ≤ 16384) (f4 : 0 ≤ en) (f5 : en < n1) (f6 : (n2 : Int) ≤ mem) (f7 : mem ≤ 262144) (hb : (4096 : Int) < n3) :
    Calls Try.prog 15 #[.agg #[.slice A1 n1 c1, .slice A2 n2 c2, .int .i64 en], .int .i64 mem, .slice A3 n3 c3] w fun e w' => e = .returned (.tuple #[.agg ZS, .int .i64 1]) ∧ Below w.heap.size w w' := by
  have g1 : ((n1 : Int) == 0) = false := beq_eq_false_iff_ne.2 (by omega)
  have g1' : ¬ n1 = 0 := by omega
  have g2 : decide ((65536 : Int) < n1) = false := decide_eq_false (by omega)
  have g3 : decide ((16384 : Int) < n2) = false := decide_eq_false (by omega)
  have g4 : decide (en < 0) = false := decide_eq_false (by omega)
  have g5 : decide ((n1 : Int) ≤ en) = false := decide_eq_false (by omega)
  have g6 : decide (mem < n2) = false := decide_eq_false (by omega)
  have g7 : decide ((262144 : Int) < mem) = false := decide_eq_false (by omega)
  have hb' : decide ((4096 : Int) < n3) = true := decide_eq_true hb
  go_enter Try.func15, Try.ntmps15
  go_upto_region 4 with (fail)
  have hg : ((w.alloc (.cells #[.slice A1 n1 c1, .slice A2 n2 c2, .int .i64 en] 24)).alloc (.cells ZS 36)).heap[w.heap.size + 1]? = some (.cells ZS 36) := by simpa using heap_alloc_new (w.alloc (.cells #[.slice A1 n1 c1, .slice A2 n2 c2, .int .i64 en] 24)) (.cells ZS 36)
  have hB := below_setRow (((Below.refl w.heap.size w).alloc (Nat.le_refl _) (.cells #[.slice A1 n1 c1, .slice A2 n2 c2, .int .i64 en] 24)).alloc (by simp) (.cells ZS 36)) (Nat.le_succ _) ZS
  go_upto_region 9999 with (refine wpList_store_row (o := ⟨none, .store 36 (.tmp 6) (.tmp 54), _, _, _, _⟩) rfl 36 (.tmp 6) (.tmp 54) rfl (w.heap.size + 1) ZS rfl rfl 36 ZS hg size36 rfl ZS_one ?_)
  exact bodyPost_ret (results_cell_tmp Try.results15 _ _ _ (w.heap.size + 1) _ rfl (run_loadVar_row (P := Try.prog) _ (w.heap.size + 1) 36 36 ZS _ _ (setRow_heap _ _ _ ZS _ _ hg) Try.underlying36 rfl size36)) rfl ⟨rfl, hB⟩
theorem rnew_bad {A1 A2 A3 : Option Addr} {n1 c1 n2 c2 n3 c3 : Nat} {en mem : Int} {er : Int} (w : World) (he : newErr n1 n2 n3 en mem = er) (h0 : ¬ er = 0) :
    Calls Try.prog 15 #[.agg #[.slice A1 n1 c1, .slice A2 n2 c2, .int .i64 en], .int .i64 mem, .slice A3 n3 c3] w fun e w' => e = .returned (.tuple #[.agg ZS, .int .i64 er]) ∧ Below w.heap.size w w' := by
  subst he
  unfold newErr at h0 ⊢
  split
  · rename_i h
    by_cases b1 : n1 = 0
    · exact rnew_1 A1 A2 A3 n1 c1 n2 c2 n3 c3 en mem w b1
    by_cases b2 : (65536 : Int) < n1
    · exact rnew_2 A1 A2 A3 n1 c1 n2 c2 n3 c3 en mem w (by omega) b2
    by_cases b3 : (16384 : Int) < n2
    · exact rnew_3 A1 A2 A3 n1 c1 n2 c2 n3 c3 en mem w (by omega) (by omega) b3
    by_cases b4 : en < 0
    · exact rnew_4 A1 A2 A3 n1 c1 n2 c2 n3 c3 en mem w (by omega) (by omega) (by omega) b4
    · exact rnew_5 A1 A2 A3 n1 c1 n2 c2 n3 c3 en mem w (by omega) (by omega) (by omega) (by omega) (by omega)
  · rename_i h
    rw [if_neg h] at h0
    split
    · rename_i h2
      by_cases b1 : mem < n2
      · exact rnew_6 A1 A2 A3 n1 c1 n2 c2 n3 c3 en mem w (by omega) (by omega) (by omega) (by omega) (by omega) b1
      by_cases b2 : 262144 < mem
      · exact rnew_7 A1 A2 A3 n1 c1 n2 c2 n3 c3 en mem w (by omega) (by omega) (by omega) (by omega) (by omega) (by omega) b2
      · exact rnew_8 A1 A2 A3 n1 c1 n2 c2 n3 c3 en mem w (by omega) (by omega) (by omega) (by omega) (by omega) (by omega) (by omega) (by omega)
    · rename_i h2
      rw [if_neg h2] at h0
      exact absurd rfl h0
end Go.Proofs.Ytbchiolgbhckhaa.Mach

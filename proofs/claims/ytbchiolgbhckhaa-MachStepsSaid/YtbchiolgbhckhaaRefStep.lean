/- A step of the document's machine. -/
import Derived.Test.YtbchiolgbhckhaaRefOps2
import Derived.Test.YtbchiolgbhckhaaAid
set_option linter.unusedVariables false
set_option linter.unusedSimpArgs false
namespace Go.Proofs.Ytbchiolgbhckhaa.Mach
open Go.RowKit Go.Proofs.YtbchiolgbhckhaaW.PrintWords Go.Proofs.YtbchiolgbhckhaaW.PrintMore Go.Proofs.Ytbchiolgbhckhaa.PMachRuns
set_option maxRecDepth 100000 in
theorem rpc10 {w : World} {L : RLay} {s s' : MS} (a b c : Nat) (i : Int) (hc : Calls Try.prog 66 #[.pointer (some ⟨L.m, 0, none⟩), .agg #[.int .i64 10, .int .i64 (a : Int), .int .i64 (b : Int), .int .i64 (c : Int), .int .i64 i]] (w.alloc (.cells #[.int .i64 10, .int .i64 (a : Int), .int .i64 (b : Int), .int .i64 (c : Int), .int .i64 i] 50)) (REnd (w.alloc (.cells #[.int .i64 10, .int .i64 (a : Int), .int .i64 (b : Int), .int .i64 (c : Int), .int .i64 i] 50)) L s s')) :
    Calls Try.prog 55 #[.pointer (some ⟨L.m, 0, none⟩), .agg #[.int .i64 10, .int .i64 (a : Int), .int .i64 (b : Int), .int .i64 (c : Int), .int .i64 i]] w (REnd w L s s') := by
  go_enter Try.func55, Try.ntmps55
  go_wp2_with (go_at_call 66; refine hc.mono ?_; rintro e w' ⟨rfl, L', hN⟩)
  go_end0
  exact ⟨rfl, L', hN.after (alloc_below w _)⟩
set_option maxRecDepth 100000 in
theorem rpc11 {w : World} {L : RLay} {s s' : MS} (a b c : Nat) (i : Int) (hc : Calls Try.prog 66 #[.pointer (some ⟨L.m, 0, none⟩), .agg #[.int .i64 11, .int .i64 (a : Int), .int .i64 (b : Int), .int .i64 (c : Int), .int .i64 i]] (w.alloc (.cells #[.int .i64 11, .int .i64 (a : Int), .int .i64 (b : Int), .int .i64 (c : Int), .int .i64 i] 50)) (REnd (w.alloc (.cells #[.int .i64 11, .int .i64 (a : Int), .int .i64 (b : Int), .int .i64 (c : Int), .int .i64 i] 50)) L s s')) :
    Calls Try.prog 55 #[.pointer (some ⟨L.m, 0, none⟩), .agg #[.int .i64 11, .int .i64 (a : Int), .int .i64 (b : Int), .int .i64 (c : Int), .int .i64 i]] w (REnd w L s s') := by
  go_enter Try.func55, Try.ntmps55
  go_wp2_with (go_at_call 66; refine hc.mono ?_; rintro e w' ⟨rfl, L', hN⟩)
  go_end0
  exact ⟨rfl, L', hN.after (alloc_below w _)⟩
set_option maxRecDepth 100000 in
theorem rpc12 {w : World} {L : RLay} {s s' : MS} (a b c : Nat) (i : Int) (hc : Calls Try.prog 66 #[.pointer (some ⟨L.m, 0, none⟩), .agg #[.int .i64 12, .int .i64 (a : Int), .int .i64 (b : Int), .int .i64 (c : Int), .int .i64 i]] (w.alloc (.cells #[.int .i64 12, .int .i64 (a : Int), .int .i64 (b : Int), .int .i64 (c : Int), .int .i64 i] 50)) (REnd (w.alloc (.cells #[.int .i64 12, .int .i64 (a : Int), .int .i64 (b : Int), .int .i64 (c : Int), .int .i64 i] 50)) L s s')) :
    Calls Try.prog 55 #[.pointer (some ⟨L.m, 0, none⟩), .agg #[.int .i64 12, .int .i64 (a : Int), .int .i64 (b : Int), .int .i64 (c : Int), .int .i64 i]] w (REnd w L s s') := by
  go_enter Try.func55, Try.ntmps55
  go_wp2_with (go_at_call 66; refine hc.mono ?_; rintro e w' ⟨rfl, L', hN⟩)
  go_end0
  exact ⟨rfl, L', hN.after (alloc_below w _)⟩
set_option maxRecDepth 100000 in
theorem rpc13 {w : World} {L : RLay} {s s' : MS} (a b c : Nat) (i : Int) (hc : Calls Try.prog 66 #[.pointer (some ⟨L.m, 0, none⟩), .agg #[.int .i64 13, .int .i64 (a : Int), .int .i64 (b : Int), .int .i64 (c : Int), .int .i64 i]] (w.alloc (.cells #[.int .i64 13, .int .i64 (a : Int), .int .i64 (b : Int), .int .i64 (c : Int), .int .i64 i] 50)) (REnd (w.alloc (.cells #[.int .i64 13, .int .i64 (a : Int), .int .i64 (b : Int), .int .i64 (c : Int), .int .i64 i] 50)) L s s')) :
    Calls Try.prog 55 #[.pointer (some ⟨L.m, 0, none⟩), .agg #[.int .i64 13, .int .i64 (a : Int), .int .i64 (b : Int), .int .i64 (c : Int), .int .i64 i]] w (REnd w L s s') := by
  go_enter Try.func55, Try.ntmps55
  go_wp2_with (go_at_call 66; refine hc.mono ?_; rintro e w' ⟨rfl, L', hN⟩)
  go_end0
  exact ⟨rfl, L', hN.after (alloc_below w _)⟩
set_option maxRecDepth 100000 in
theorem rpc14 {w : World} {L : RLay} {s s' : MS} (a b c : Nat) (i : Int) (hc : Calls Try.prog 66 #[.pointer (some ⟨L.m, 0, none⟩), .agg #[.int .i64 14, .int .i64 (a : Int), .int .i64 (b : Int), .int .i64 (c : Int), .int .i64 i]] (w.alloc (.cells #[.int .i64 14, .int .i64 (a : Int), .int .i64 (b : Int), .int .i64 (c : Int), .int .i64 i] 50)) (REnd (w.alloc (.cells #[.int .i64 14, .int .i64 (a : Int), .int .i64 (b : Int), .int .i64 (c : Int), .int .i64 i] 50)) L s s')) :
    Calls Try.prog 55 #[.pointer (some ⟨L.m, 0, none⟩), .agg #[.int .i64 14, .int .i64 (a : Int), .int .i64 (b : Int), .int .i64 (c : Int), .int .i64 i]] w (REnd w L s s') := by
  go_enter Try.func55, Try.ntmps55
  go_wp2_with (go_at_call 66; refine hc.mono ?_; rintro e w' ⟨rfl, L', hN⟩)
  go_end0
  exact ⟨rfl, L', hN.after (alloc_below w _)⟩
set_option maxRecDepth 100000 in
theorem rpc15 {w : World} {L : RLay} {s s' : MS} (a b c : Nat) (i : Int) (hc : Calls Try.prog 66 #[.pointer (some ⟨L.m, 0, none⟩), .agg #[.int .i64 15, .int .i64 (a : Int), .int .i64 (b : Int), .int .i64 (c : Int), .int .i64 i]] (w.alloc (.cells #[.int .i64 15, .int .i64 (a : Int), .int .i64 (b : Int), .int .i64 (c : Int), .int .i64 i] 50)) (REnd (w.alloc (.cells #[.int .i64 15, .int .i64 (a : Int), .int .i64 (b : Int), .int .i64 (c : Int), .int .i64 i] 50)) L s s')) :
    Calls Try.prog 55 #[.pointer (some ⟨L.m, 0, none⟩), .agg #[.int .i64 15, .int .i64 (a : Int), .int .i64 (b : Int), .int .i64 (c : Int), .int .i64 i]] w (REnd w L s s') := by
  go_enter Try.func55, Try.ntmps55
  go_wp2_with (go_at_call 66; refine hc.mono ?_; rintro e w' ⟨rfl, L', hN⟩)
  go_end0
  exact ⟨rfl, L', hN.after (alloc_below w _)⟩
theorem rplain_any {w : World} {L : RLay} {s : MS} (h : RHolds w L s) (hp : s.panics = 0) (x : I5) (ho : x.o ≤ 15) (la : x.a < 16) (lb : x.b < 16) :
    Calls Try.prog 55 #[.pointer (some ⟨L.m, 0, none⟩), .agg #[.int .i64 x.o, .int .i64 (x.a : Int), .int .i64 (x.b : Int), .int .i64 (x.c : Int), .int .i64 x.i]] w (REnd w L s (exec x s)) := by
  obtain ⟨o, a, b, c, i⟩ := x
  dsimp only at ho la lb ⊢
  have hc : o = 0 ∨ o = 1 ∨ o = 2 ∨ o = 3 ∨ o = 4 ∨ o = 5 ∨ o = 6 ∨ o = 7 ∨ o = 8 ∨ o = 9 ∨ o = 10 ∨ o = 11 ∨ o = 12 ∨ o = 13 ∨ o = 14 ∨ o = 15 := by omega
  have hb : ∀ o' : Obj, Below w.heap.size w (w.alloc o') := fun o' => alloc_below w o'
  have yes : ∀ v : Int, (0 ≤ v ∧ v < s.mem.length) ∨ (v < 0 ∨ (s.mem.length : Int) ≤ v) := fun v => by omega
  rcases hc with rfl | rfl | rfl | rfl | rfl | rfl | rfl | rfl | rfl | rfl | rfl | rfl | rfl | rfl | rfl | rfl
  · exact rp0 h a b c i la lb hp
  · exact rp1 h a b c i la lb hp
  · exact rp2 h a b c i la lb hp
  · exact rp3 h a b c i la lb hp
  · exact rp4 h a b c i la lb hp
  · rcases yes (IntKind.i64.wrap (s.reg b + i)) with ⟨k0, k1⟩ | kn
    · exact rp5y h a b c i la lb hp _ rfl k0 k1
    · exact rp5n h a b c i la lb hp _ rfl kn
  · rcases yes (IntKind.i64.wrap (s.reg b + i)) with ⟨k0, k1⟩ | kn
    · exact rp6y h a b c i la lb hp _ rfl k0 k1
    · exact rp6n h a b c i la lb hp _ rfl kn
  · exact rp7 h a b c i la lb hp
  · by_cases hz : s.reg a = 0
    · exact rp8y h a b c i la lb hp hz
    · exact rp8n h a b c i la lb hp hz
  · by_cases hz : s.reg a = 0
    · exact rp9n h a b c i la lb hp hz
    · exact rp9y h a b c i la lb hp hz
  · refine rpc10 a b c i ?_
    have h' := h.below (hb (.cells #[.int .i64 10, .int .i64 (a : Int), .int .i64 (b : Int), .int .i64 (c : Int), .int .i64 i] 50))
    rcases yes (IntKind.i64.wrap (s.reg 15 - 1)) with ⟨k0, k1⟩ | kn
    · exact rc10y h' a b c i la lb hp _ rfl k0 k1
    · exact rc10n h' a b c i la lb hp _ rfl kn
  · refine rpc11 a b c i ?_
    have h' := h.below (hb (.cells #[.int .i64 11, .int .i64 (a : Int), .int .i64 (b : Int), .int .i64 (c : Int), .int .i64 i] 50))
    rcases yes (IntKind.i64.wrap (s.reg 15 - 1)) with ⟨k0, k1⟩ | kn
    · by_cases hz : a = 15
      · exact rc11s h' a b c i la lb hp _ rfl k0 k1 hz
      · exact rc11y h' a b c i la lb hp _ rfl k0 k1 hz
    · exact rc11n h' a b c i la lb hp _ rfl kn
  · refine rpc12 a b c i ?_
    have h' := h.below (hb (.cells #[.int .i64 12, .int .i64 (a : Int), .int .i64 (b : Int), .int .i64 (c : Int), .int .i64 i] 50))
    rcases yes (s.reg 15) with ⟨k0, k1⟩ | kn
    · exact rc12y h' a b c i la lb hp _ rfl k0 k1
    · exact rc12n h' a b c i la lb hp _ rfl kn
  · refine rpc13 a b c i ?_
    have h' := h.below (hb (.cells #[.int .i64 13, .int .i64 (a : Int), .int .i64 (b : Int), .int .i64 (c : Int), .int .i64 i] 50))
    cases hz : s.inp with
    | nil => exact rc13n h' a b c i la lb hp hz
    | cons x r =>
      have e : exec ⟨13, a, b, c, i⟩ s = exec ⟨13, a, b, c, i⟩ s := rfl
      exact rc13y h' a b c i la lb hp x r hz
  · refine rpc14 a b c i ?_
    have h' := h.below (hb (.cells #[.int .i64 14, .int .i64 (a : Int), .int .i64 (b : Int), .int .i64 (c : Int), .int .i64 i] 50))
    by_cases hz : s.out.length < 4096
    · exact rc14y h' a b c i la lb hp hz
    · exact rc14n h' a b c i la lb hp hz
  · refine rpc15 a b c i ?_
    exact rc15 (h.below (hb _)) a b c i la lb hp
theorem decI_16 {v : Int} {x : I5} (h : decI v = some x) : x.o ≠ 16 := by
  intro e
  unfold decI at h
  split at h
  · cases h
  · split at h
    · cases h
    · rename_i r m hu
      split at h
      · injection h with h
        subst h
        dsimp only at e
        rw [e] at hu
        cases hu
      · cases h
theorem RHolds.facts {w : World} {L : RLay} {s : MS} (h : RHolds w L s) : L.m < w.heap.size ∧ (∀ o, w.frozen? ⟨L.m, o, none⟩ = false) ∧ w.cell? ⟨L.m, 18, none⟩ = some (.int .i64 s.pc) ∧ w.cell? ⟨L.m, 21, none⟩ = some (.int .i64 s.kind) ∧ w.cell? ⟨L.m, 22, none⟩ = some (.int .i64 s.panics) :=
  ⟨h.hm, h.free, h.cells 18 (by omega), h.cells 21 (by omega), h.cells 22 (by omega)⟩
theorem exec_big (x : I5) (s : MS) (h : 16 ≤ x.o) : exec x s = (if (if x.o < 40 then bin2 ((x.o : Int) - 16) (s.reg x.b) (s.reg x.c) else un2 ((x.o : Int) - 40) (s.reg x.b)).2 = 0 then s.set x.a (if x.o < 40 then bin2 ((x.o : Int) - 16) (s.reg x.b) (s.reg x.c) else un2 ((x.o : Int) - 40) (s.reg x.b)).1 else s.ends 2 (if x.o < 40 then bin2 ((x.o : Int) - 16) (s.reg x.b) (s.reg x.c) else un2 ((x.o : Int) - 40) (s.reg x.b)).2) := by
  unfold exec
  iterate 16 rw [if_neg (by omega)]
theorem exec_un (x : I5) (s : MS) (h : 40 < x.o) (h2 : x.o ≤ 43) : exec x s = s.set x.a (un2 ((x.o : Int) - 40) (s.reg x.b)).1 := by
  rw [exec_big x s (by omega)]
  simp only [if_neg (show ¬ x.o < 40 by omega)]
  rw [if_pos (un2_ok _ (by omega))]
theorem exec_bin (x : I5) (s : MS) (v : Int) (h : 16 ≤ x.o) (h2 : x.o < 40) (he : bin2 ((x.o : Int) - 16) (s.reg x.b) (s.reg x.c) = (v, 0)) : exec x s = s.set x.a v := by
  rw [exec_big x s h]
  simp only [if_pos h2, he]
  rfl
theorem exec_binp (x : I5) (s : MS) (v p : Int) (h : 16 ≤ x.o) (h2 : x.o < 40) (he : bin2 ((x.o : Int) - 16) (s.reg x.b) (s.reg x.c) = (v, p)) (hp : ¬ p = 0) : exec x s = s.ends 2 p := by
  rw [exec_big x s h]
  simp only [if_pos h2, he, if_neg hp]
set_option maxRecDepth 100000 in
theorem rstep_stop {w : World} {L : RLay} {s : MS} (h : RHolds w L s) (hk : ¬ s.kind = 0) : Calls Try.prog 18 #[.pointer (some ⟨L.m, 0, none⟩)] w fun e w' => e = .returned (.bool false) ∧ w = w' := by
  have hm : L.m < w.heap.size := h.hm
  have hf : ∀ o, w.frozen? ⟨L.m, o, none⟩ = false := h.free
  have h21 : w.cell? ⟨L.m, 21, none⟩ = some (.int .i64 s.kind) := h.cells 21 (by omega)
  have hz : (s.kind != 0) = true := by simpa using hk
  clear hk
  go_enter Try.func18, Try.ntmps18
  go_wp2
  go_ret
  exact ⟨rfl, rfl⟩
set_option maxRecDepth 100000 in
set_option maxHeartbeats 4000000 in
theorem rstep_any {w : World} {L : RLay} {s : MS} (h : RHolds w L s) (hp : s.panics = 0) (hk : s.kind = 0) : Calls Try.prog 18 #[.pointer (some ⟨L.m, 0, none⟩)] w fun e w' => e = .returned (.bool true) ∧ ∃ L', RNext w L s w' L' (step1 s) := by
  have hm : L.m < w.heap.size := h.hm
  have hf : ∀ o, w.frozen? ⟨L.m, o, none⟩ = false := h.free
  have h21 : w.cell? ⟨L.m, 21, none⟩ = some (.int .i64 s.kind) := h.cells 21 (by omega)
  rw [hk] at h21
  have h24 : w.cell? ⟨L.m, 24, none⟩ = some (.int .i64 s.steps) := h.cells 24 (by omega)
  have h18 : w.cell? ⟨L.m, 18, none⟩ = some (.int .i64 s.pc) := h.cells 18 (by omega)
  have h0 : w.cell? ⟨L.m, 0, none⟩ = some (.slice (some ⟨L.cb, 0, none⟩) s.code.length L.cc) := h.cells 0 (by omega)
  have n1 := RNext.stepd h (wrap64 (s.steps + 1))
  have hlen : s.code.length ≤ 65536 := h.rows.lim.1
  by_cases p0 : s.pc < 0
  · have e : step1 s = { s with steps := wrap64 (s.steps + 1), kind := 5 } := by unfold step1; dsimp only; rw [if_neg (by omega), MS.fault, ends_zero (by exact hp)]
    rw [e]
    clear e hp hk
    go_enter Try.func18, Try.ntmps18
    go_wp2
    refine region_still mixed (by kernel_rfl) ?_
    refine Stills.out ?_
    iterate 6 (refine Stills.take (by kernel_rfl) (fun K hK => ?_); go_simp; refine hK _ ?_; clear hK K)
    iterate 10 (refine Stills.skip (by kernel_rfl) ?_)
    refine Stills.take (by kernel_rfl) (fun K hK => ?_)
    go_simp
    refine hK _ ?_
    clear hK K
    refine Stills.nil ?_
    go_wp2
    go_ret
    exact ⟨rfl, L, (n1.trans (RNext.kind n1.holds 5)).below (by repeat (first | exact Below.refl _ _ | refine below_drewN ?_ | refine Below.drew ?_ | (refine Below.alloc ?_ (by simp [regW, memW, pcW, kindW, panW, atW, stepsW]) _)))⟩
  by_cases p1 : (s.code.length : Int) ≤ s.pc
  · have e : step1 s = { s with steps := wrap64 (s.steps + 1), kind := 5 } := by unfold step1; dsimp only; rw [if_neg (by omega), MS.fault, ends_zero (by exact hp)]
    rw [e]
    have g0 : decide (s.pc < 0) = false := decide_eq_false p0
    clear e hp hk p0
    go_enter Try.func18, Try.ntmps18
    go_wp2
    refine region_still mixed (by kernel_rfl) ?_
    refine Stills.out ?_
    iterate 17 (refine Stills.take (by kernel_rfl) (fun K hK => ?_); go_simp; refine hK _ ?_; clear hK K)
    refine Stills.nil ?_
    go_wp2
    go_ret
    exact ⟨rfl, L, (n1.trans (RNext.kind n1.holds 5)).below (by repeat (first | exact Below.refl _ _ | refine below_drewN ?_ | refine Below.drew ?_ | (refine Below.alloc ?_ (by simp [regW, memW, pcW, kindW, panW, atW, stepsW]) _)))⟩
  have hv : w.cell? ⟨L.cb, s.pc.toNat, none⟩ = some (.int .i64 (rd s.code s.pc)) := h.rows.code_at s.pc.toNat (by omega)
  obtain ⟨v0, v1⟩ : -9223372036854775808 ≤ rd s.code s.pc ∧ rd s.code s.pc ≤ 9223372036854775807 := h.rows.code_in s.pc.toNat
  have hcb : L.cb < w.heap.size := h.rows.blocks.2.2
  have hne : ¬ L.m = L.cb := h.rows.apart.2.1
  have hne' : ¬ L.cb = L.m := fun e => h.rows.apart.2.1 e.symm
  have g0 : decide (s.pc < 0) = false := decide_eq_false p0
  have g1 : decide ((s.code.length : Int) ≤ s.pc) = false := decide_eq_false p1
  have i0 : 0 ≤ s.pc := by omega
  have i1 : s.pc < s.code.length := by omega
  have hs1 : ∀ d, decI (rd s.code s.pc) = d → step1 s = (match d with | none => { s with steps := wrap64 (s.steps + 1) }.fault | some x => exec x { s with steps := wrap64 (s.steps + 1), pc := s.pc + 1 }) := by
    intro d hd
    unfold step1
    rw [if_pos ⟨i0, i1⟩, hd, show wrap64 (s.pc + 1) = s.pc + 1 by unfold wrap64; omega]
    cases d <;> rfl
  clear p0 p1
  have hdec0 := r2dec (rd s.code s.pc) v1
  generalize hw0 : rd s.code s.pc = word at hv hdec0 hs1 v0 v1
  have hkk := Lib.hid hk
  clear hk hw0
  have hfin : ∀ X, Below w.heap.size (stepsW w L.m (wrap64 (s.steps + 1))) X → RNext w L s X L { s with steps := wrap64 (s.steps + 1) } := fun X hX => n1.below (by simpa [stepsW, World.setCell] using hX)
  have hsz : (stepsW w L.m (wrap64 (s.steps + 1))).heap.size = w.heap.size := by simp [stepsW, World.setCell]
  obtain ⟨r1, r2, r3, r4, r5, r6, hr⟩ : ∃ r1 r2 r3 r4 r5 r6, dec6 (decI word) = (r1, r2, r3, r4, r5, r6) := ⟨_, _, _, _, _, _, rfl⟩
  have hdec : mortiseref2_Decode.f 9 word = some (r1, r2, r3, r4, r5, r6) := hdec0.trans (congrArg some hr)
  have HR := Lib.hid hr
  have HP := Lib.hid hp
  have HS := Lib.hid hs1
  clear hdec0 hr hp hs1 v0 v1
  go_enter Try.func18, Try.ntmps18
  go_wp2
  refine region_still mixed (by kernel_rfl) ?_
  refine Stills.out ?_
  iterate 17 (refine Stills.take (by kernel_rfl) (fun K hK => ?_); go_simp; refine hK _ ?_; clear hK K)
  refine Stills.nil ?_
  go_wp2
  refine region_tree2 (fun W w' => Below W.heap.size W w') (.read 0 (.read 1 (.read 2 (.read 3 (.read 4 (.read 5 (.read 6 (.read 7 (.read 8 (.read 9 (.fork 10 (.read 11 (.read 12 (.read 13 (.turn 14 (.turn 15 .done))))) 14 (.turn 10 (.read 11 (.read 12 (.read 13 (.turn 15 .done)))))))))))))))) 16
    (fun a W a' w' => ∃ b, W.heap.size ≤ b ∧ b < w'.heap.size ∧ Below W.heap.size W w' ∧ w'.cell? ⟨b, 0, none⟩ = some (.int .i64 r1) ∧ w'.cell? ⟨b, 1, none⟩ = some (.int .i64 r2) ∧ w'.cell? ⟨b, 2, none⟩ = some (.int .i64 r3) ∧ w'.cell? ⟨b, 3, none⟩ = some (.int .i64 r4) ∧ w'.cell? ⟨b, 4, none⟩ = some (.int .i64 r5) ∧ (∀ o, w'.frozen? ⟨b, o, none⟩ = false) ∧
      a' = (((((((((((((((a.put (some 46) (.pointer (some ⟨L.m, 0, none⟩))).put (some 47) (.pointer (some ⟨L.m, 0, none⟩))).put (some 48) (.pointer (some ⟨L.m, 0, none⟩))).put (some 49) (.slice (some ⟨L.cb, 0, none⟩) s.code.length L.cc)).put (some 50) (.pointer (some ⟨L.m, 0, none⟩))).put (some 51) (.pointer (some ⟨L.m, 0, none⟩))).put (some 52) (.pointer (some ⟨L.m, 18, none⟩))).put (some 53) (.int .i64 s.pc)).put (some 54) (.pointer (some ⟨L.cb, s.pc.toNat, none⟩))).put (some 55) (.int .i64 word)).put (some 56) (.tuple #[.agg #[.int .i64 r1, .int .i64 r2, .int .i64 r3, .int .i64 r4, .int .i64 r5], .int .i64 r6])).put (some 45) (.tuple #[.agg #[.int .i64 r1, .int .i64 r2, .int .i64 r3, .int .i64 r4, .int .i64 r5], .int .i64 r6])).put (some 57) (.agg #[.int .i64 r1, .int .i64 r2, .int .i64 r3, .int .i64 r4, .int .i64 r5])).put (some 58) (.int .i64 r6)).put (some 3) (.pointer (some ⟨b, 0, none⟩)))) mixed (by kernel_rfl) (Below.refl _ _) ?_ ?_
  refine tree_read (some 46) ?v0 rfl rfl (fun _ _ _ h => h) rfl ?y0 ?_
  case y0 => intro w' hS; obtain ⟨c1, c2⟩ := bcell hS; go_simp; try rfl
  refine tree_read (some 47) ?v1 rfl rfl (fun _ _ _ h => h) rfl ?y1 ?_
  case y1 => intro w' hS; obtain ⟨c1, c2⟩ := bcell hS; go_simp; try rfl
  refine tree_read (some 48) ?v2 rfl rfl (fun _ _ _ h => h) rfl ?y2 ?_
  case y2 => intro w' hS; obtain ⟨c1, c2⟩ := bcell hS; go_simp; try rfl
  refine tree_read (some 49) ?v3 rfl rfl (fun _ _ _ h => h) rfl ?y3 ?_
  case y3 => intro w' hS; obtain ⟨c1, c2⟩ := bcell hS; go_simp; try rfl
  refine tree_read (some 50) ?v4 rfl rfl (fun _ _ _ h => h) rfl ?y4 ?_
  case y4 => intro w' hS; obtain ⟨c1, c2⟩ := bcell hS; go_simp; try rfl
  refine tree_read (some 51) ?v5 rfl rfl (fun _ _ _ h => h) rfl ?y5 ?_
  case y5 => intro w' hS; obtain ⟨c1, c2⟩ := bcell hS; go_simp; try rfl
  refine tree_read (some 52) ?v6 rfl rfl (fun _ _ _ h => h) rfl ?y6 ?_
  case y6 => intro w' hS; obtain ⟨c1, c2⟩ := bcell hS; go_simp; try rfl
  refine tree_read (some 53) ?v7 rfl rfl (fun _ _ _ h => h) rfl ?y7 ?_
  case y7 => intro w' hS; obtain ⟨c1, c2⟩ := bcell hS; go_simp; try rfl
  refine tree_read (some 54) ?v8 rfl rfl (fun _ _ _ h => h) rfl ?y8 ?_
  case y8 => intro w' hS; obtain ⟨c1, c2⟩ := bcell hS; go_simp; try rfl
  refine tree_read (some 55) ?v9 rfl rfl (fun _ _ _ h => h) rfl ?y9 ?_
  case y9 => intro w' hS; obtain ⟨c1, c2⟩ := bcell hS; go_simp; try rfl
  refine tree_fork rfl rfl rfl rfl (fun K hK => ?_) (fun K hK => ?_)
  · go_simp
    refine (mortiseref2_Decode.calls 9 _ _ _ _ _ _ _ _ hdec).mono ?_
    rintro e w1 ⟨rfl, hb⟩
    go_simp
    refine hK _ _ hb (fun _ => ?_)
    clear hK K
    refine tree_read (some 45) ?v11 rfl rfl (fun _ _ _ h => h) rfl ?y11 ?_
    case y11 => intro w' hS; go_simp; try rfl
    refine tree_read (some 57) ?v12 rfl rfl (fun _ _ _ h => h) rfl ?y12 ?_
    case y12 => intro w' hS; go_simp; try rfl
    refine tree_read (some 58) ?v13 rfl rfl (fun _ _ _ h => h) rfl ?y13 ?_
    case y13 => intro w' hS; go_simp; try rfl
    refine tree_turn rfl rfl (fun K hK => ?_)
    unfold Oper.wp execOp
    go_simp
    refine hK _ _ (hb.alloc hb.size _) (fun _ => ?_)
    clear hK K
    refine tree_turn rfl rfl (fun K hK => ?_)
    unfold Oper.wp execOp
    go_simp
    refine hK _ _ ?_ (fun _ => ?_)
    · first | exact hb.alloc hb.size _ | exact (hb.alloc hb.size _).setCell hb.size _ | (refine Below.setCell ?_ hb.size _; refine Below.setCell ?_ hb.size _; refine Below.setCell ?_ hb.size _; refine Below.setCell ?_ hb.size _; refine Below.setCell ?_ hb.size _; exact hb.alloc hb.size _)
    clear hK K
    refine tree_done ⟨w1.heap.size, hb.size, ?_, ?_, ?_, ?_, ?_, ?_, ?_, ?_, by kernel_rfl⟩
    · simp [World.setCell]
    · first | exact hb.alloc hb.size _ | exact (hb.alloc hb.size _).setCell hb.size _ | (refine Below.setCell ?_ hb.size _; refine Below.setCell ?_ hb.size _; refine Below.setCell ?_ hb.size _; refine Below.setCell ?_ hb.size _; refine Below.setCell ?_ hb.size _; exact hb.alloc hb.size _)
    · go_simp
    · go_simp
    · go_simp
    · go_simp
    · go_simp
    · intro o; go_simp
  · unfold Oper.wp execOp
    go_simp
    refine hK _ _ ((Below.refl _ _).alloc (Nat.le_refl _) _) (fun _ => ?_)
    clear hK K
    refine tree_turn rfl rfl (fun K hK => ?_)
    go_simp
    refine (mortiseref2_Decode.calls 9 _ _ _ _ _ _ _ _ hdec).mono ?_
    rintro e w1 ⟨rfl, hb⟩
    have hb' := hb
    obtain ⟨c1, c2⟩ := bcell hb'
    go_simp
    refine hK _ _ ?_ (fun _ => ?_)
    · exact Below.trans ((Below.refl _ _).alloc (Nat.le_refl _) _) (hb.mono (by simp))
    clear hK K
    refine tree_read (some 45) ?v11 rfl rfl (fun _ _ _ h => h) rfl ?y11 ?_
    case y11 => intro w' hS; go_simp; try rfl
    refine tree_read (some 57) ?v12 rfl rfl (fun _ _ _ h => h) rfl ?y12 ?_
    case y12 => intro w' hS; go_simp; try rfl
    refine tree_read (some 58) ?v13 rfl rfl (fun _ _ _ h => h) rfl ?y13 ?_
    case y13 => intro w' hS; go_simp; try rfl
    refine tree_turn rfl rfl (fun K hK => ?_)
    unfold Oper.wp execOp
    go_simp
    have hbX : Below w.heap.size (w.setCell ⟨L.m, 24, none⟩ (.int .i64 (wrap64 (s.steps + 1)))).drew.drew w1 := Below.trans (((Below.refl _ _).alloc (Nat.le_refl _) _).mono (by simp [World.setCell])) (hb.mono (by simp [World.setCell]))
    have hbY := fun v0 v1 v2 v3 v4 => ((((hbX.setCell (p := ⟨w.heap.size, 0, none⟩) (Nat.le_refl _) v0).setCell (p := ⟨w.heap.size, 1, none⟩) (Nat.le_refl _) v1).setCell (p := ⟨w.heap.size, 2, none⟩) (Nat.le_refl _) v2).setCell (p := ⟨w.heap.size, 3, none⟩) (Nat.le_refl _) v3).setCell (p := ⟨w.heap.size, 4, none⟩) (Nat.le_refl _) v4
    refine hK _ _ ?_ (fun _ => ?_)
    · refine Below.mono (hbY _ _ _ _ _) ?_
      simp [World.setCell]
    clear hK K
    refine tree_done ⟨w.heap.size, by simp [World.setCell], ?_, ?_, ?_, ?_, ?_, ?_, ?_, ?_, by kernel_rfl⟩
    · have := hb.size
      simp [World.setCell] at this ⊢
      omega
    · refine Below.mono (hbY _ _ _ _ _) ?_
      simp [World.setCell]
    · go_simp
    · go_simp
    · go_simp
    · go_simp
    · go_simp
    · intro o; go_simp
  rintro a' w2 ⟨b, b0, b1, hb, d0, d1, d2, d3, d4, df, rfl⟩
  simp only [World.size_drew, World.setCell, Array.size_modify] at b0
  have hN2 := hfin w2 (Below.trans (((Below.refl _ _).drew).drew) (hb.mono (by simp [World.setCell])))
  have hNb : Below w.heap.size w w2 ∨ True := .inr trivial
  obtain ⟨k1, k2, k3, k4, k5⟩ := hN2.holds.facts
  have hbm : ¬ b = L.m := by omega
  have hbm' : ¬ L.m = b := by omega
  have hs1 := HS.out
  have hr := HR.out
  clear hdec hb h21 h24 h18 h0 hv hf HS HR hcb hne hne' hm b1
  cases hd : decI word with
  | none =>
    have e0 : step1 s = { s with steps := wrap64 (s.steps + 1), kind := 5 } := (hs1 _ hd).trans (by dsimp only; rw [MS.fault, ends_zero (by exact HP.out)])
    have E := Lib.hid e0
    rw [hd] at hr
    obtain ⟨rfl, rfl, rfl, rfl, rfl, rfl⟩ : 0 = r1 ∧ 0 = r2 ∧ 0 = r3 ∧ 0 = r4 ∧ 0 = r5 ∧ 4 = r6 := by simpa [dec6] using hr
    clear hs1 hr hd e0
    simp only [List.drop_succ_cons, List.drop_zero]
    go_simp
    go_wp2
    go_ret
    exact ⟨rfl, L, by rw [E.out]; exact (hN2.trans (RNext.kind hN2.holds 5)).below (by repeat (first | exact Below.refl _ _ | refine below_drewN ?_ | refine Below.drew ?_ | (refine Below.alloc ?_ (by simp [regW, memW, pcW, kindW, panW, atW, stepsW]) _)))⟩
  | some x =>
    have e0 := hs1 _ hd
    dsimp only at e0
    rw [hd] at hr
    obtain ⟨rfl, rfl, rfl, rfl, rfl, rfl⟩ : (x.o : Int) = r1 ∧ (x.a : Int) = r2 ∧ (x.b : Int) = r3 ∧ (x.c : Int) = r4 ∧ x.i = r5 ∧ 0 = r6 := by simpa [dec6] using hr
    obtain ⟨la, lb, lc, ho, hno, _⟩ := decI_ok hd
    have h16 : x.o ≠ 16 := decI_16 hd
    clear hd hs1 hr
    have hN3 := hN2.trans (RNext.pc hN2.holds (s.pc + 1))
    have ka := hN2.holds.reg x.a la
    have kb := hN2.holds.reg x.b lb
    have kc := hN2.holds.reg x.c lc
    have la' : (x.a : Int) < 16 := by omega
    have lb' : (x.b : Int) < 16 := by omega
    have lc' : (x.c : Int) < 16 := by omega
    by_cases c1 : x.o ≤ 15
    · have e1 : decide ((40 : Int) < x.o) = false := decide_eq_false (by omega)
      have e2 : decide ((16 : Int) < x.o) = false := decide_eq_false (by omega)
      have hpl : ∀ X, Below w2.heap.size (pcW w2 L.m (s.pc + 1)) X → Calls Try.prog 55 #[.pointer (some ⟨L.m, 0, none⟩), .agg #[.int .i64 x.o, .int .i64 (x.a : Int), .int .i64 (x.b : Int), .int .i64 (x.c : Int), .int .i64 x.i]] X (REnd w L s (exec x { s with steps := wrap64 (s.steps + 1), pc := s.pc + 1 })) := fun X hX => (rplain_any (hN3.below (by simpa [pcW, World.setCell] using hX)).holds HP.out x c1 la lb).mono (fun e w' ⟨he, L', hN⟩ => ⟨he, L', (hN3.below (by simpa [pcW, World.setCell] using hX)).trans hN⟩)
      have E := Lib.hid e0
      clear c1 ho hno h16 e0
      simp only [List.drop_succ_cons, List.drop_zero]
      go_simp
      go_wp2_with (go_at_call 55; refine (hpl _ (by repeat (first | exact Below.refl _ _ | refine Below.drew ?_ | (refine Below.alloc ?_ (by simp [pcW, World.setCell]) _)))).mono ?_; rintro e w3 ⟨rfl, L', hN4⟩)
      go_ret
      exact ⟨rfl, L', by rw [E.out]; exact hN4⟩
    by_cases c2 : 40 < x.o
    · have e1 : decide ((40 : Int) < x.o) = true := decide_eq_true (by omega)
      obtain ⟨q, hq⟩ : ∃ q : Int, IntKind.i64.wrap ((x.o : Int) - 40) = q := ⟨_, rfl⟩
      have hqv : q = (x.o : Int) - 40 := by rw [← hq, Num.i64_wrap_eq]; unfold wrap64; omega
      have hq2 : wrap64 ((x.o : Int) - 40) = q := by rw [← Num.i64_wrap_eq]; exact hq
      obtain ⟨⟨u1, u2⟩, hu⟩ : ∃ u, un2 q (s.reg x.b) = u := ⟨_, rfl⟩
      have hun : mortiseref1_Un.f q (s.reg x.b) = some (u1, u2) := (un_same _ _).2.trans (congrArg some hu)
      rw [exec_un x _ (by omega) (by omega), ← hqv] at e0
      dsimp only at e0
      rw [hu] at e0
      have E := Lib.hid e0
      clear hu hqv c1 c2 ho hno h16 e0
      simp only [List.drop_succ_cons, List.drop_zero]
      go_simp
      go_wp2
      go_quiet ((go_at_call 53; exact Calls.quiet_of ((mortiseref1_Un.calls _ _ _ _ _ hun).mono (fun _ _ h => ⟨h.1, h.2.out⟩))))
      go_wp2
      refine region_tail 7 mixed (by kernel_rfl) ?_
      simp only [List.take_succ_cons, List.take_zero, List.drop_succ_cons, List.drop_zero]
      repeat still_step
      refine wpStill_nil ?_
      go_wp2
      go_ret
      exact ⟨rfl, L, by rw [E.out]; exact (hN3.trans (RNext.reg hN3.holds x.a la u1)).below (by refine Below.mono (B := w2.heap.size) ?_ (by simp [regW, pcW, World.setCell]); unfold regW pcW; exact below_put (below_drewN (Below.refl _ _)) _ _)⟩
    · have e1 : decide ((40 : Int) < x.o) = false := decide_eq_false (by omega)
      have e2 : decide ((16 : Int) < x.o) = true := decide_eq_true (by omega)
      obtain ⟨q, hq⟩ : ∃ q : Int, IntKind.i64.wrap ((x.o : Int) - 16) = q := ⟨_, rfl⟩
      have hqv : q = (x.o : Int) - 16 := by rw [← hq, Num.i64_wrap_eq]; unfold wrap64; omega
      have hq2 : wrap64 ((x.o : Int) - 16) = q := by rw [← Num.i64_wrap_eq]; exact hq
      obtain ⟨⟨u1, u2⟩, hu⟩ : ∃ u, bin2 q (s.reg x.b) (s.reg x.c) = u := ⟨_, rfl⟩
      have hun : mortiseref1_Bin.f 3 q (s.reg x.b) (s.reg x.c) = some (u1, u2) := (bin_same _ _ _).2.trans (congrArg some hu)
      by_cases hz : u2 = 0
      · subst hz
        rw [exec_bin x _ u1 (by omega) (by omega) (by rw [← hqv]; exact hu)] at e0
        have E := Lib.hid e0
        clear hu hqv c1 c2 ho hno h16 e0
        simp only [List.drop_succ_cons, List.drop_zero]
        go_simp
        go_wp2
        go_quiet ((go_at_call 54; exact Calls.quiet_of ((mortiseref1_Bin.calls 3 _ _ _ _ _ _ hun).mono (fun _ _ h => ⟨h.1, h.2.out⟩))))
        go_wp2
        refine region_tail 7 mixed (by kernel_rfl) ?_
        simp only [List.take_succ_cons, List.take_zero, List.drop_succ_cons, List.drop_zero]
        repeat still_step
        refine wpStill_nil ?_
        go_wp2
        go_ret
        exact ⟨rfl, L, by rw [E.out]; exact (hN3.trans (RNext.reg hN3.holds x.a la u1)).below (by refine Below.mono (B := w2.heap.size) ?_ (by simp [regW, pcW, World.setCell]); unfold regW pcW; exact below_put (below_drewN (Below.refl _ _)) _ _)⟩
      · have hz' : (u2 != 0) = true := by simpa using hz
        rw [exec_binp x _ u1 u2 (by omega) (by omega) (by rw [← hqv]; exact hu) hz] at e0
        have E := Lib.hid e0
        clear hu hqv c1 c2 ho hno hz h16 e0
        simp only [List.drop_succ_cons, List.drop_zero]
        go_simp
        go_wp2
        go_quiet ((go_at_call 54; exact Calls.quiet_of ((mortiseref1_Bin.calls 3 _ _ _ _ _ _ hun).mono (fun _ _ h => ⟨h.1, h.2.out⟩))))
        go_wp2
        go_ret
        have n4 := hN3.trans (RNext.kind hN3.holds 2)
        exact ⟨rfl, L, by rw [E.out]; exact (n4.trans (RNext.pan n4.holds u2)).below (by refine Below.mono (B := w2.heap.size) ?_ (by simp [regW, pcW, kindW, panW, World.setCell]); unfold panW kindW pcW; repeat (first | exact Below.refl _ _ | refine below_put ?_ _ _ | refine below_drewN ?_ | refine Below.drew ?_))⟩
end Go.Proofs.Ytbchiolgbhckhaa.Mach

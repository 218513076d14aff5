/- The operations of the document's machine, one walk each: jumps, words, ends. -/
import Derived.Test.YtbchiolgbhckhaaRef
import Derived.Deep.RegionHeld3
set_option linter.unusedVariables false
set_option linter.unusedSimpArgs false
namespace Go.Proofs.Ytbchiolgbhckhaa.Mach
open Go.RowKit Go.Proofs.YtbchiolgbhckhaaW.PrintWords Go.Proofs.YtbchiolgbhckhaaW.PrintMore Go.Proofs.Ytbchiolgbhckhaa.PMachRuns
theorem mask32r (b : Int) : bits .and .i64 b 4294967295 = b % 4294967296 := by
  show IntKind.i64.wrap ((BitVec.ofInt 64 b &&& BitVec.ofInt 64 4294967295).toNat : Int) = b % 4294967296
  rw [Num.i64_wrap_eq, BitVec.toNat_and]
  have e : (BitVec.ofInt 64 4294967295).toNat = 2 ^ 32 - 1 := by decide
  rw [e, Nat.and_two_pow_sub_one_eq_mod]
  simp only [BitVec.toNat_ofInt]
  unfold wrap64
  omega
theorem ends_zero {s : MS} (hp : s.panics = 0) (k : Int) : s.ends k 0 = { s with kind := k } := by
  cases s
  simp only [MS.ends] at hp ⊢
  subst hp
  rfl
set_option maxHeartbeats 400000 in
theorem cell_yes (m : Nat) (A : Option Addr) (n cp : Nat) (a : Int) (w : World) (h0 : 0 ≤ a) (h1 : a < n) (hn : n ≤ 262144) (hc : w.cell? ⟨m, 1, none⟩ = some (.slice A n cp)) :
    Calls Try.prog 65 #[.pointer (some ⟨m, 0, none⟩), .int .i64 a] w fun e w' => e = .returned (.int .i64 a) ∧ w = w' := by
  have g0 : decide (a < 0) = false := decide_eq_false (by omega)
  have g1 : decide ((n : Int) ≤ a) = false := decide_eq_false (by omega)
  go_enter Try.func65, Try.ntmps65
  go_wp2
  go_ret
  exact ⟨rfl, rfl⟩
set_option maxHeartbeats 400000 in
theorem cell_no (m : Nat) (A : Option Addr) (n cp : Nat) (a x : Int) (w : World) (h : a < 0 ∨ (n : Int) ≤ a) (hn : n ≤ 262144) (hc : w.cell? ⟨m, 1, none⟩ = some (.slice A n cp)) (h21 : w.cell? ⟨m, 21, none⟩ = some (.int .i64 x)) (hf : ∀ o, w.frozen? ⟨m, o, none⟩ = false) :
    Calls Try.prog 65 #[.pointer (some ⟨m, 0, none⟩), .int .i64 a] w fun e w' => e = .returned (.int .i64 (-1)) ∧ w' = w.setCell ⟨m, 21, none⟩ (.int .i64 5) := by
  by_cases h0 : a < 0
  · clear h
    go_enter Try.func65, Try.ntmps65
    go_wp2
    go_ret
    exact ⟨rfl, rfl⟩
  · have g0 : decide (a < 0) = false := decide_eq_false h0
    have g1 : (n : Int) ≤ a := by omega
    clear h h0
    go_enter Try.func65, Try.ntmps65
    go_wp2
    go_ret
    exact ⟨rfl, rfl⟩
set_option maxHeartbeats 1000000 in
theorem rtrap_any {w : World} {L : RLay} {s : MS} (h : RHolds w L s) (i : Int) (hp : s.panics = 0) : Calls Try.prog 64 #[.pointer (some ⟨L.m, 0, none⟩), .int .i64 i] w (REnd w L s (trapS s i)) := by
  have hf : ∀ o, w.frozen? ⟨L.m, o, none⟩ = false := h.free
  have h21 : w.cell? ⟨L.m, 21, none⟩ = some (.int .i64 s.kind) := h.cells 21 (by omega)
  have h22 : w.cell? ⟨L.m, 22, none⟩ = some (.int .i64 s.panics) := h.cells 22 (by omega)
  have n1 := RNext.kind h 5
  unfold trapS
  by_cases c1 : 1 ≤ i ∧ i ≤ 999
  · rw [if_pos c1]
    have n2 := n1.trans (RNext.kind n1.holds 2)
    have n3 := n2.trans (RNext.pan n2.holds i)
    obtain ⟨i0, i1⟩ := c1
    clear hp
    go_enter Try.func64, Try.ntmps64
    go_wp2
    go_end0
    exact ⟨rfl, L, n3⟩
  rw [if_neg c1]
  by_cases c2 : i = 1000
  · rw [if_pos c2, ends_zero hp]
    have n2 := n1.trans (RNext.kind n1.holds 3)
    subst c2
    clear c1
    clear hp
    go_enter Try.func64, Try.ntmps64
    go_wp2
    go_end0
    exact ⟨rfl, L, n2⟩
  rw [if_neg c2]
  by_cases c3 : i = 1001
  · rw [if_pos c3, ends_zero hp]
    have n2 := n1.trans (RNext.kind n1.holds 4)
    subst c3
    clear c1 c2
    clear hp
    go_enter Try.func64, Try.ntmps64
    go_wp2
    go_end0
    exact ⟨rfl, L, n2⟩
  rw [if_neg c3, MS.fault, ends_zero hp]
  by_cases c4 : i < 1
  · clear c1 c2 c3
    clear hp
    go_enter Try.func64, Try.ntmps64
    go_wp2
    go_end0
    exact ⟨rfl, L, n1⟩
  · have i0 : 999 < i := by omega
    have i1 : (i == 1000) = false := by simpa using c2
    have i2 : (i == 1001) = false := by simpa using c3
    clear c1 c4
    clear hp
    go_enter Try.func64, Try.ntmps64
    go_wp2
    go_end0
    exact ⟨rfl, L, n1⟩
set_option maxRecDepth 100000 in
set_option maxHeartbeats 1000000 in
theorem rp0 {w : World} {L : RLay} {s : MS} (h : RHolds w L s) (a b c : Nat) (i : Int) (la : a < 16) (lb : b < 16) (hp : s.panics = 0) :
    Calls Try.prog 55 #[.pointer (some ⟨L.m, 0, none⟩), .agg #[.int .i64 0, .int .i64 (a : Int), .int .i64 (b : Int), .int .i64 (c : Int), .int .i64 i]] w (REnd w L s (exec ⟨0, a, b, c, i⟩ s)) := by
  have hE : exec ⟨0, a, b, c, i⟩ s = { s with kind := 1 } := by exact ends_zero hp 1
  rw [hE]
  clear hE
  clear hp
  have hm : L.m < w.heap.size := h.hm
  have hf : ∀ o, w.frozen? ⟨L.m, o, none⟩ = false := h.free
  have h21 : w.cell? ⟨L.m, 21, none⟩ = some (.int .i64 s.kind) := h.cells 21 (by omega)
  go_enter Try.func55, Try.ntmps55
  go_wp2
  go_end0
  exact ⟨rfl, L, (RNext.kind h 1).below (by repeat (first | exact (Below.refl _ _).alloc (by simp [regW, memW, pcW, kindW, panW, atW]) _ | exact Below.refl _ _ | refine Below.drew ?_))⟩
set_option maxRecDepth 100000 in
set_option maxHeartbeats 1000000 in
theorem rp1 {w : World} {L : RLay} {s : MS} (h : RHolds w L s) (a b c : Nat) (i : Int) (la : a < 16) (lb : b < 16) (hp : s.panics = 0) :
    Calls Try.prog 55 #[.pointer (some ⟨L.m, 0, none⟩), .agg #[.int .i64 1, .int .i64 (a : Int), .int .i64 (b : Int), .int .i64 (c : Int), .int .i64 i]] w (REnd w L s (exec ⟨1, a, b, c, i⟩ s)) := by
  have hE : exec ⟨1, a, b, c, i⟩ s = trapS s i := by rfl
  rw [hE]
  clear hE
  have hm : L.m < w.heap.size := h.hm
  have hf : ∀ o, w.frozen? ⟨L.m, o, none⟩ = false := h.free
  have hb0 : Below w.heap.size w (w.alloc (.cells #[.int .i64 1, .int .i64 (a : Int), .int .i64 (b : Int), .int .i64 (c : Int), .int .i64 i] 50)) := (Below.refl _ _).alloc (Nat.le_refl _) _
  go_enter Try.func55, Try.ntmps55
  go_wp2_with (go_at_call 64; refine (rtrap_any (h.below hb0) i hp).mono ?_; rintro e w' ⟨rfl, L', hN⟩)
  go_end0
  exact ⟨rfl, L', hN.after hb0⟩
set_option maxRecDepth 100000 in
set_option maxHeartbeats 1000000 in
theorem rp2 {w : World} {L : RLay} {s : MS} (h : RHolds w L s) (a b c : Nat) (i : Int) (la : a < 16) (lb : b < 16) (hp : s.panics = 0) :
    Calls Try.prog 55 #[.pointer (some ⟨L.m, 0, none⟩), .agg #[.int .i64 2, .int .i64 (a : Int), .int .i64 (b : Int), .int .i64 (c : Int), .int .i64 i]] w (REnd w L s (exec ⟨2, a, b, c, i⟩ s)) := by
  have hE : exec ⟨2, a, b, c, i⟩ s = s.set a (s.reg b) := by rfl
  rw [hE]
  clear hE
  clear hp
  have hm : L.m < w.heap.size := h.hm
  have hf : ∀ o, w.frozen? ⟨L.m, o, none⟩ = false := h.free
  have ha := h.reg a la
  have la' : (a : Int) < 16 := by omega
  have hb := h.reg b lb
  have lb' : (b : Int) < 16 := by omega
  go_enter Try.func55, Try.ntmps55
  go_wp2
  refine region_tail 13 mixed (by kernel_rfl) ?_
  simp only [List.take_succ_cons, List.take_zero, List.drop_succ_cons, List.drop_zero]
  repeat still_step
  refine wpStill_nil ?_
  go_wp2
  go_end0
  exact ⟨rfl, L, (RNext.reg h a la (s.reg b)).below (by repeat (first | exact (Below.refl _ _).alloc (by simp [regW, memW, pcW, kindW, panW, atW]) _ | exact Below.refl _ _ | refine Below.drew ?_))⟩
set_option maxRecDepth 100000 in
set_option maxHeartbeats 1000000 in
theorem rp3 {w : World} {L : RLay} {s : MS} (h : RHolds w L s) (a b c : Nat) (i : Int) (la : a < 16) (lb : b < 16) (hp : s.panics = 0) :
    Calls Try.prog 55 #[.pointer (some ⟨L.m, 0, none⟩), .agg #[.int .i64 3, .int .i64 (a : Int), .int .i64 (b : Int), .int .i64 (c : Int), .int .i64 i]] w (REnd w L s (exec ⟨3, a, b, c, i⟩ s)) := by
  have hE : exec ⟨3, a, b, c, i⟩ s = s.set a i := by rfl
  rw [hE]
  clear hE
  clear hp
  have hm : L.m < w.heap.size := h.hm
  have hf : ∀ o, w.frozen? ⟨L.m, o, none⟩ = false := h.free
  have ha := h.reg a la
  have la' : (a : Int) < 16 := by omega
  go_enter Try.func55, Try.ntmps55
  go_wp2
  refine region_tail 8 mixed (by kernel_rfl) ?_
  simp only [List.take_succ_cons, List.take_zero, List.drop_succ_cons, List.drop_zero]
  repeat still_step
  refine wpStill_nil ?_
  go_wp2
  go_end0
  exact ⟨rfl, L, (RNext.reg h a la i).below (by repeat (first | exact (Below.refl _ _).alloc (by simp [regW, memW, pcW, kindW, panW, atW]) _ | exact Below.refl _ _ | refine Below.drew ?_))⟩
set_option maxRecDepth 100000 in
set_option maxHeartbeats 1000000 in
theorem rp4 {w : World} {L : RLay} {s : MS} (h : RHolds w L s) (a b c : Nat) (i : Int) (la : a < 16) (lb : b < 16) (hp : s.panics = 0) :
    Calls Try.prog 55 #[.pointer (some ⟨L.m, 0, none⟩), .agg #[.int .i64 4, .int .i64 (a : Int), .int .i64 (b : Int), .int .i64 (c : Int), .int .i64 i]] w (REnd w L s (exec ⟨4, a, b, c, i⟩ s)) := by
  have hE : exec ⟨4, a, b, c, i⟩ s = s.set a (wrap64 (wrap64 (s.reg a * 4294967296) + bits .and .i64 i 4294967295)) := by rw [mask32r]; rfl
  rw [hE]
  clear hE
  clear hp
  have hm : L.m < w.heap.size := h.hm
  have hf : ∀ o, w.frozen? ⟨L.m, o, none⟩ = false := h.free
  have ha := h.reg a la
  have la' : (a : Int) < 16 := by omega
  go_enter Try.func55, Try.ntmps55
  go_wp2
  refine region_tail 18 mixed (by kernel_rfl) ?_
  simp only [List.take_succ_cons, List.take_zero, List.drop_succ_cons, List.drop_zero]
  repeat still_step
  refine wpStill_nil ?_
  go_wp2
  go_end0
  exact ⟨rfl, L, (RNext.reg h a la _).below (by repeat (first | exact (Below.refl _ _).alloc (by simp [regW, memW, pcW, kindW, panW, atW]) _ | exact Below.refl _ _ | refine Below.drew ?_))⟩
set_option maxRecDepth 100000 in
set_option maxHeartbeats 1000000 in
theorem rp5y {w : World} {L : RLay} {s : MS} (h : RHolds w L s) (a b c : Nat) (i : Int) (la : a < 16) (lb : b < 16) (hp : s.panics = 0) (k : Int) (hk : IntKind.i64.wrap (s.reg b + i) = k) (k0 : 0 ≤ k) (k1 : k < s.mem.length) :
    Calls Try.prog 55 #[.pointer (some ⟨L.m, 0, none⟩), .agg #[.int .i64 5, .int .i64 (a : Int), .int .i64 (b : Int), .int .i64 (c : Int), .int .i64 i]] w (REnd w L s (exec ⟨5, a, b, c, i⟩ s)) := by
  have hE : exec ⟨5, a, b, c, i⟩ s = s.set a (rd s.mem k) := by have e : s.at_ (wrap64 (s.reg b + i)) = true := (by rw [← Num.i64_wrap_eq, hk]; simp [MS.at_]; omega); show (if s.at_ (wrap64 (s.reg b + i)) = true then s.set a (rd s.mem (wrap64 (s.reg b + i))) else s.fault) = _; rw [if_pos e, ← Num.i64_wrap_eq, hk]
  rw [hE]
  clear hE
  clear hp
  have hm : L.m < w.heap.size := h.hm
  have hf : ∀ o, w.frozen? ⟨L.m, o, none⟩ = false := h.free
  have ha := h.reg a la
  have la' : (a : Int) < 16 := by omega
  have hb := h.reg b lb
  have lb' : (b : Int) < 16 := by omega
  have hmem : w.cell? ⟨L.m, 1, none⟩ = some (.slice (some ⟨L.mb, 0, none⟩) s.mem.length L.mc) := h.cells 1 (by omega)
  have hn : s.mem.length ≤ 262144 := h.rows.lim.2.1
  have hv : w.cell? ⟨L.mb, k.toNat, none⟩ = some (.int .i64 (rd s.mem k)) := h.rows.mem_at k.toNat (by omega)
  have hmb : L.mb < w.heap.size := h.rows.blocks.2.1
  have hfm : w.frozen? ⟨L.mb, k.toNat, none⟩ = false := h.rows.mem_free _
  have hne : ¬ L.m = L.mb := h.rows.apart.1
  have hne' : ¬ L.mb = L.m := fun e => h.rows.apart.1 e.symm
  have hkn : k.toNat < s.mem.length := by omega
  go_enter Try.func55, Try.ntmps55
  go_wp2
  refine region_tail 11 mixed (by kernel_rfl) ?_
  simp only [List.take_succ_cons, List.take_zero, List.drop_succ_cons, List.drop_zero]
  repeat still_step
  refine wpStill_nil ?_
  go_wp2_with (go_at_call 65; refine (cell_yes L.m (some ⟨L.mb, 0, none⟩) s.mem.length L.mc k _ k0 k1 hn (by go_simp)).mono ?_; rintro e w2 ⟨rfl, rfl⟩)
  refine region_tail 13 mixed (by kernel_rfl) ?_
  simp only [List.take_succ_cons, List.take_zero, List.drop_succ_cons, List.drop_zero]
  repeat still_step
  refine wpStill_nil ?_
  go_wp2
  go_end0
  exact ⟨rfl, L, (RNext.reg h a la (rd s.mem k)).below (by repeat (first | exact (Below.refl _ _).alloc (by simp [regW, memW, pcW, kindW, panW, atW]) _ | exact Below.refl _ _ | refine Below.drew ?_))⟩
set_option maxRecDepth 100000 in
set_option maxHeartbeats 1000000 in
theorem rp5n {w : World} {L : RLay} {s : MS} (h : RHolds w L s) (a b c : Nat) (i : Int) (la : a < 16) (lb : b < 16) (hp : s.panics = 0) (k : Int) (hk : IntKind.i64.wrap (s.reg b + i) = k) (kn : k < 0 ∨ (s.mem.length : Int) ≤ k) :
    Calls Try.prog 55 #[.pointer (some ⟨L.m, 0, none⟩), .agg #[.int .i64 5, .int .i64 (a : Int), .int .i64 (b : Int), .int .i64 (c : Int), .int .i64 i]] w (REnd w L s (exec ⟨5, a, b, c, i⟩ s)) := by
  have hE : exec ⟨5, a, b, c, i⟩ s = { s with kind := 5 } := by have e : ¬ s.at_ (wrap64 (s.reg b + i)) = true := (by rw [← Num.i64_wrap_eq, hk]; simp [MS.at_]; omega); show (if s.at_ (wrap64 (s.reg b + i)) = true then s.set a (rd s.mem (wrap64 (s.reg b + i))) else s.fault) = _; rw [if_neg e, MS.fault, ends_zero hp]
  rw [hE]
  clear hE
  clear hp
  have hm : L.m < w.heap.size := h.hm
  have hf : ∀ o, w.frozen? ⟨L.m, o, none⟩ = false := h.free
  have ha := h.reg a la
  have la' : (a : Int) < 16 := by omega
  have hb := h.reg b lb
  have lb' : (b : Int) < 16 := by omega
  have hmem : w.cell? ⟨L.m, 1, none⟩ = some (.slice (some ⟨L.mb, 0, none⟩) s.mem.length L.mc) := h.cells 1 (by omega)
  have hn : s.mem.length ≤ 262144 := h.rows.lim.2.1
  have h21 : w.cell? ⟨L.m, 21, none⟩ = some (.int .i64 s.kind) := h.cells 21 (by omega)
  have K0 := Lib.hid kn
  clear kn
  go_enter Try.func55, Try.ntmps55
  go_wp2
  refine region_tail 11 mixed (by kernel_rfl) ?_
  simp only [List.take_succ_cons, List.take_zero, List.drop_succ_cons, List.drop_zero]
  repeat still_step
  refine wpStill_nil ?_
  go_wp2_with (go_at_call 65; refine (cell_no L.m (some ⟨L.mb, 0, none⟩) s.mem.length L.mc k s.kind _ K0.out hn (by go_simp) (by go_simp) (by intro o; go_simp)).mono ?_; rintro e w2 ⟨rfl, rfl⟩)
  go_end0
  exact ⟨rfl, L, (RNext.kind h 5).below (by repeat (first | exact (Below.refl _ _).alloc (by simp [regW, memW, pcW, kindW, panW, atW]) _ | exact Below.refl _ _ | refine Below.drew ?_))⟩
set_option maxRecDepth 100000 in
set_option maxHeartbeats 1000000 in
theorem rp6y {w : World} {L : RLay} {s : MS} (h : RHolds w L s) (a b c : Nat) (i : Int) (la : a < 16) (lb : b < 16) (hp : s.panics = 0) (k : Int) (hk : IntKind.i64.wrap (s.reg b + i) = k) (k0 : 0 ≤ k) (k1 : k < s.mem.length) :
    Calls Try.prog 55 #[.pointer (some ⟨L.m, 0, none⟩), .agg #[.int .i64 6, .int .i64 (a : Int), .int .i64 (b : Int), .int .i64 (c : Int), .int .i64 i]] w (REnd w L s (exec ⟨6, a, b, c, i⟩ s)) := by
  have hE : exec ⟨6, a, b, c, i⟩ s = { s with mem := s.mem.set k.toNat (s.reg a) } := by have e : s.at_ (wrap64 (s.reg b + i)) = true := (by rw [← Num.i64_wrap_eq, hk]; simp [MS.at_]; omega); show (if s.at_ (wrap64 (s.reg b + i)) = true then s.put (wrap64 (s.reg b + i)) (s.reg a) else s.fault) = _; rw [if_pos e, ← Num.i64_wrap_eq, hk]; rfl
  rw [hE]
  clear hE
  clear hp
  have hm : L.m < w.heap.size := h.hm
  have hf : ∀ o, w.frozen? ⟨L.m, o, none⟩ = false := h.free
  have ha := h.reg a la
  have la' : (a : Int) < 16 := by omega
  have hb := h.reg b lb
  have lb' : (b : Int) < 16 := by omega
  have hmem : w.cell? ⟨L.m, 1, none⟩ = some (.slice (some ⟨L.mb, 0, none⟩) s.mem.length L.mc) := h.cells 1 (by omega)
  have hn : s.mem.length ≤ 262144 := h.rows.lim.2.1
  have hv : w.cell? ⟨L.mb, k.toNat, none⟩ = some (.int .i64 (rd s.mem k)) := h.rows.mem_at k.toNat (by omega)
  have hmb : L.mb < w.heap.size := h.rows.blocks.2.1
  have hfm : w.frozen? ⟨L.mb, k.toNat, none⟩ = false := h.rows.mem_free _
  have hne : ¬ L.m = L.mb := h.rows.apart.1
  have hne' : ¬ L.mb = L.m := fun e => h.rows.apart.1 e.symm
  have hkn : k.toNat < s.mem.length := by omega
  go_enter Try.func55, Try.ntmps55
  go_wp2
  refine region_tail 11 mixed (by kernel_rfl) ?_
  simp only [List.take_succ_cons, List.take_zero, List.drop_succ_cons, List.drop_zero]
  repeat still_step
  refine wpStill_nil ?_
  go_wp2_with (go_at_call 65; refine (cell_yes L.m (some ⟨L.mb, 0, none⟩) s.mem.length L.mc k _ k0 k1 hn (by go_simp)).mono ?_; rintro e w2 ⟨rfl, rfl⟩)
  refine region_tail 13 mixed (by kernel_rfl) ?_
  simp only [List.take_succ_cons, List.take_zero, List.drop_succ_cons, List.drop_zero]
  repeat still_step
  refine wpStill_nil ?_
  go_wp2
  go_end0
  exact ⟨rfl, L, (RNext.mem h k.toNat hkn (s.reg a)).below (by repeat (first | exact (Below.refl _ _).alloc (by simp [regW, memW, pcW, kindW, panW, atW]) _ | exact Below.refl _ _ | refine Below.drew ?_))⟩
set_option maxRecDepth 100000 in
set_option maxHeartbeats 1000000 in
theorem rp6n {w : World} {L : RLay} {s : MS} (h : RHolds w L s) (a b c : Nat) (i : Int) (la : a < 16) (lb : b < 16) (hp : s.panics = 0) (k : Int) (hk : IntKind.i64.wrap (s.reg b + i) = k) (kn : k < 0 ∨ (s.mem.length : Int) ≤ k) :
    Calls Try.prog 55 #[.pointer (some ⟨L.m, 0, none⟩), .agg #[.int .i64 6, .int .i64 (a : Int), .int .i64 (b : Int), .int .i64 (c : Int), .int .i64 i]] w (REnd w L s (exec ⟨6, a, b, c, i⟩ s)) := by
  have hE : exec ⟨6, a, b, c, i⟩ s = { s with kind := 5 } := by have e : ¬ s.at_ (wrap64 (s.reg b + i)) = true := (by rw [← Num.i64_wrap_eq, hk]; simp [MS.at_]; omega); show (if s.at_ (wrap64 (s.reg b + i)) = true then s.put (wrap64 (s.reg b + i)) (s.reg a) else s.fault) = _; rw [if_neg e, MS.fault, ends_zero hp]
  rw [hE]
  clear hE
  clear hp
  have hm : L.m < w.heap.size := h.hm
  have hf : ∀ o, w.frozen? ⟨L.m, o, none⟩ = false := h.free
  have ha := h.reg a la
  have la' : (a : Int) < 16 := by omega
  have hb := h.reg b lb
  have lb' : (b : Int) < 16 := by omega
  have hmem : w.cell? ⟨L.m, 1, none⟩ = some (.slice (some ⟨L.mb, 0, none⟩) s.mem.length L.mc) := h.cells 1 (by omega)
  have hn : s.mem.length ≤ 262144 := h.rows.lim.2.1
  have h21 : w.cell? ⟨L.m, 21, none⟩ = some (.int .i64 s.kind) := h.cells 21 (by omega)
  have K0 := Lib.hid kn
  clear kn
  go_enter Try.func55, Try.ntmps55
  go_wp2
  refine region_tail 11 mixed (by kernel_rfl) ?_
  simp only [List.take_succ_cons, List.take_zero, List.drop_succ_cons, List.drop_zero]
  repeat still_step
  refine wpStill_nil ?_
  go_wp2_with (go_at_call 65; refine (cell_no L.m (some ⟨L.mb, 0, none⟩) s.mem.length L.mc k s.kind _ K0.out hn (by go_simp) (by go_simp) (by intro o; go_simp)).mono ?_; rintro e w2 ⟨rfl, rfl⟩)
  go_end0
  exact ⟨rfl, L, (RNext.kind h 5).below (by repeat (first | exact (Below.refl _ _).alloc (by simp [regW, memW, pcW, kindW, panW, atW]) _ | exact Below.refl _ _ | refine Below.drew ?_))⟩
set_option maxRecDepth 100000 in
set_option maxHeartbeats 1000000 in
theorem rp7 {w : World} {L : RLay} {s : MS} (h : RHolds w L s) (a b c : Nat) (i : Int) (la : a < 16) (lb : b < 16) (hp : s.panics = 0) :
    Calls Try.prog 55 #[.pointer (some ⟨L.m, 0, none⟩), .agg #[.int .i64 7, .int .i64 (a : Int), .int .i64 (b : Int), .int .i64 (c : Int), .int .i64 i]] w (REnd w L s (exec ⟨7, a, b, c, i⟩ s)) := by
  have hE : exec ⟨7, a, b, c, i⟩ s = { s with pc := wrap64 (s.pc + i) } := by rfl
  rw [hE]
  clear hE
  clear hp
  have hm : L.m < w.heap.size := h.hm
  have hf : ∀ o, w.frozen? ⟨L.m, o, none⟩ = false := h.free
  have h18 : w.cell? ⟨L.m, 18, none⟩ = some (.int .i64 s.pc) := h.cells 18 (by omega)
  go_enter Try.func55, Try.ntmps55
  go_wp2
  refine region_tail 10 mixed (by kernel_rfl) ?_
  simp only [List.take_succ_cons, List.take_zero, List.drop_succ_cons, List.drop_zero]
  repeat still_step
  refine wpStill_nil ?_
  go_wp2
  go_end0
  exact ⟨rfl, L, (RNext.pc h _).below (by repeat (first | exact (Below.refl _ _).alloc (by simp [regW, memW, pcW, kindW, panW, atW]) _ | exact Below.refl _ _ | refine Below.drew ?_))⟩
set_option maxRecDepth 100000 in
set_option maxHeartbeats 1000000 in
theorem rp8y {w : World} {L : RLay} {s : MS} (h : RHolds w L s) (a b c : Nat) (i : Int) (la : a < 16) (lb : b < 16) (hp : s.panics = 0) (hz : s.reg a = 0) :
    Calls Try.prog 55 #[.pointer (some ⟨L.m, 0, none⟩), .agg #[.int .i64 8, .int .i64 (a : Int), .int .i64 (b : Int), .int .i64 (c : Int), .int .i64 i]] w (REnd w L s (exec ⟨8, a, b, c, i⟩ s)) := by
  have hE : exec ⟨8, a, b, c, i⟩ s = { s with pc := wrap64 (s.pc + i) } := by show (if s.reg a = 0 then s.jump i else s) = _; rw [if_pos hz]; rfl
  rw [hE]
  clear hE
  clear hp
  have hm : L.m < w.heap.size := h.hm
  have hf : ∀ o, w.frozen? ⟨L.m, o, none⟩ = false := h.free
  have ha := h.reg a la
  have la' : (a : Int) < 16 := by omega
  have h18 : w.cell? ⟨L.m, 18, none⟩ = some (.int .i64 s.pc) := h.cells 18 (by omega)
  rw [hz] at ha
  go_enter Try.func55, Try.ntmps55
  go_wp2
  refine region_still mixed (by kernel_rfl) ?_
  repeat still_step
  refine wpStill_nil ?_
  go_wp2
  refine region_tail 10 mixed (by kernel_rfl) ?_
  simp only [List.take_succ_cons, List.take_zero, List.drop_succ_cons, List.drop_zero]
  repeat still_step
  refine wpStill_nil ?_
  go_wp2
  go_end0
  exact ⟨rfl, L, (RNext.pc h _).below (by repeat (first | exact (Below.refl _ _).alloc (by simp [regW, memW, pcW, kindW, panW, atW]) _ | exact Below.refl _ _ | refine Below.drew ?_))⟩
set_option maxRecDepth 100000 in
set_option maxHeartbeats 1000000 in
theorem rp8n {w : World} {L : RLay} {s : MS} (h : RHolds w L s) (a b c : Nat) (i : Int) (la : a < 16) (lb : b < 16) (hp : s.panics = 0) (hz : ¬ s.reg a = 0) :
    Calls Try.prog 55 #[.pointer (some ⟨L.m, 0, none⟩), .agg #[.int .i64 8, .int .i64 (a : Int), .int .i64 (b : Int), .int .i64 (c : Int), .int .i64 i]] w (REnd w L s (exec ⟨8, a, b, c, i⟩ s)) := by
  have hE : exec ⟨8, a, b, c, i⟩ s = s := by show (if s.reg a = 0 then s.jump i else s) = _; rw [if_neg hz]
  rw [hE]
  clear hE
  clear hp
  have hm : L.m < w.heap.size := h.hm
  have hf : ∀ o, w.frozen? ⟨L.m, o, none⟩ = false := h.free
  have ha := h.reg a la
  have la' : (a : Int) < 16 := by omega
  have h18 : w.cell? ⟨L.m, 18, none⟩ = some (.int .i64 s.pc) := h.cells 18 (by omega)
  have hz' : (s.reg a == 0) = false := by simpa using hz
  have hz2 : (s.reg a != 0) = true := by simpa using hz
  go_enter Try.func55, Try.ntmps55
  go_wp2
  refine region_still mixed (by kernel_rfl) ?_
  repeat still_step
  refine wpStill_nil ?_
  go_wp2
  go_end0
  exact ⟨rfl, L, (RNext.refl h).below (by repeat (first | exact (Below.refl _ _).alloc (by simp [regW, memW, pcW, kindW, panW, atW]) _ | exact Below.refl _ _ | refine Below.drew ?_))⟩
set_option maxRecDepth 100000 in
set_option maxHeartbeats 1000000 in
theorem rp9y {w : World} {L : RLay} {s : MS} (h : RHolds w L s) (a b c : Nat) (i : Int) (la : a < 16) (lb : b < 16) (hp : s.panics = 0) (hz : ¬ s.reg a = 0) :
    Calls Try.prog 55 #[.pointer (some ⟨L.m, 0, none⟩), .agg #[.int .i64 9, .int .i64 (a : Int), .int .i64 (b : Int), .int .i64 (c : Int), .int .i64 i]] w (REnd w L s (exec ⟨9, a, b, c, i⟩ s)) := by
  have hE : exec ⟨9, a, b, c, i⟩ s = { s with pc := wrap64 (s.pc + i) } := by show (if s.reg a = 0 then s else s.jump i) = _; rw [if_neg hz]; rfl
  rw [hE]
  clear hE
  clear hp
  have hm : L.m < w.heap.size := h.hm
  have hf : ∀ o, w.frozen? ⟨L.m, o, none⟩ = false := h.free
  have ha := h.reg a la
  have la' : (a : Int) < 16 := by omega
  have h18 : w.cell? ⟨L.m, 18, none⟩ = some (.int .i64 s.pc) := h.cells 18 (by omega)
  have hz' : (s.reg a == 0) = false := by simpa using hz
  have hz2 : (s.reg a != 0) = true := by simpa using hz
  go_enter Try.func55, Try.ntmps55
  go_wp2
  refine region_still mixed (by kernel_rfl) ?_
  repeat still_step
  refine wpStill_nil ?_
  go_wp2
  refine region_tail 10 mixed (by kernel_rfl) ?_
  simp only [List.take_succ_cons, List.take_zero, List.drop_succ_cons, List.drop_zero]
  repeat still_step
  refine wpStill_nil ?_
  go_wp2
  go_end0
  exact ⟨rfl, L, (RNext.pc h _).below (by repeat (first | exact (Below.refl _ _).alloc (by simp [regW, memW, pcW, kindW, panW, atW]) _ | exact Below.refl _ _ | refine Below.drew ?_))⟩
set_option maxRecDepth 100000 in
set_option maxHeartbeats 1000000 in
theorem rp9n {w : World} {L : RLay} {s : MS} (h : RHolds w L s) (a b c : Nat) (i : Int) (la : a < 16) (lb : b < 16) (hp : s.panics = 0) (hz : s.reg a = 0) :
    Calls Try.prog 55 #[.pointer (some ⟨L.m, 0, none⟩), .agg #[.int .i64 9, .int .i64 (a : Int), .int .i64 (b : Int), .int .i64 (c : Int), .int .i64 i]] w (REnd w L s (exec ⟨9, a, b, c, i⟩ s)) := by
  have hE : exec ⟨9, a, b, c, i⟩ s = s := by show (if s.reg a = 0 then s else s.jump i) = _; rw [if_pos hz]
  rw [hE]
  clear hE
  clear hp
  have hm : L.m < w.heap.size := h.hm
  have hf : ∀ o, w.frozen? ⟨L.m, o, none⟩ = false := h.free
  have ha := h.reg a la
  have la' : (a : Int) < 16 := by omega
  have h18 : w.cell? ⟨L.m, 18, none⟩ = some (.int .i64 s.pc) := h.cells 18 (by omega)
  rw [hz] at ha
  go_enter Try.func55, Try.ntmps55
  go_wp2
  refine region_still mixed (by kernel_rfl) ?_
  repeat still_step
  refine wpStill_nil ?_
  go_wp2
  go_end0
  exact ⟨rfl, L, (RNext.refl h).below (by repeat (first | exact (Below.refl _ _).alloc (by simp [regW, memW, pcW, kindW, panW, atW]) _ | exact Below.refl _ _ | refine Below.drew ?_))⟩
end Go.Proofs.Ytbchiolgbhckhaa.Mach

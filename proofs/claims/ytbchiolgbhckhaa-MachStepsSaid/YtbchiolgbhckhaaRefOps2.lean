/- The operations of the document's machine, one walk each: calls, bytes, room. -/
import Derived.Test.YtbchiolgbhckhaaRefOps1
set_option linter.unusedVariables false
set_option linter.unusedSimpArgs false
namespace Go.Proofs.Ytbchiolgbhckhaa.Mach
open Go.RowKit Go.Proofs.YtbchiolgbhckhaaW.PrintWords Go.Proofs.YtbchiolgbhckhaaW.PrintMore Go.Proofs.Ytbchiolgbhckhaa.PMachRuns
set_option maxRecDepth 100000 in
set_option maxHeartbeats 1000000 in
theorem rc10y {w : World} {L : RLay} {s : MS} (h : RHolds w L s) (a b c : Nat) (i : Int) (la : a < 16) (lb : b < 16) (hp : s.panics = 0) (k : Int) (hk : IntKind.i64.wrap (s.reg 15 - 1) = k) (k0 : 0 ≤ k) (k1 : k < s.mem.length) :
    Calls Try.prog 66 #[.pointer (some ⟨L.m, 0, none⟩), .agg #[.int .i64 10, .int .i64 (a : Int), .int .i64 (b : Int), .int .i64 (c : Int), .int .i64 i]] w (REnd w L s (exec ⟨10, a, b, c, i⟩ s)) := by
  have hE : exec ⟨10, a, b, c, i⟩ s = { s with reg := (s.set 15 k).reg, mem := s.mem.set k.toNat s.pc, pc := i } := by have e : s.at_ (wrap64 (s.reg 15 - 1)) = true := (by rw [← Num.i64_wrap_eq, hk]; simp [MS.at_]; omega); show MS.call s (fun _ => i) = _; unfold MS.call; dsimp only; rw [if_pos e, ← Num.i64_wrap_eq, hk]; rfl
  rw [hE]
  clear hE
  clear hp
  have hm : L.m < w.heap.size := h.hm
  have hf : ∀ o, w.frozen? ⟨L.m, o, none⟩ = false := h.free
  have h15 : w.cell? ⟨L.m, 17, none⟩ = some (.int .i64 (s.reg 15)) := h.reg 15 (by decide)
  have h18 : w.cell? ⟨L.m, 18, none⟩ = some (.int .i64 s.pc) := h.cells 18 (by omega)
  have hmem : w.cell? ⟨L.m, 1, none⟩ = some (.slice (some ⟨L.mb, 0, none⟩) s.mem.length L.mc) := h.cells 1 (by omega)
  have hn : s.mem.length ≤ 262144 := h.rows.lim.2.1
  have hv : w.cell? ⟨L.mb, k.toNat, none⟩ = some (.int .i64 (rd s.mem k)) := h.rows.mem_at k.toNat (by omega)
  have hmb : L.mb < w.heap.size := h.rows.blocks.2.1
  have hfm : w.frozen? ⟨L.mb, k.toNat, none⟩ = false := h.rows.mem_free _
  have hne : ¬ L.m = L.mb := h.rows.apart.1
  have hne' : ¬ L.mb = L.m := fun e => h.rows.apart.1 e.symm
  have hkn : k.toNat < s.mem.length := by omega
  have hk2 : wrap64 (s.reg 15 - 1) = k := by rw [← Num.i64_wrap_eq]; exact hk
  go_enter Try.func66, Try.ntmps66
  go_wp2_with (go_at_call 65; refine (cell_yes L.m (some ⟨L.mb, 0, none⟩) s.mem.length L.mc k _ k0 k1 hn (by go_simp)).mono ?_; rintro e w2 ⟨rfl, rfl⟩)
  refine region_tail 9 mixed (by kernel_rfl) ?_
  simp only [List.take_succ_cons, List.take_zero, List.drop_succ_cons, List.drop_zero]
  repeat still_step
  refine wpStill_nil ?_
  go_wp2
  refine region_tail 10 mixed (by kernel_rfl) ?_
  simp only [List.take_succ_cons, List.take_zero, List.drop_succ_cons, List.drop_zero]
  repeat still_step
  refine wpStill_nil ?_
  go_wp2
  go_end0
  have n1 := RNext.reg h 15 (by decide) k
  have n2 := n1.trans (RNext.mem n1.holds k.toNat hkn s.pc)
  exact ⟨rfl, L, (n2.trans (RNext.pc n2.holds i)).below (by repeat (first | exact (Below.refl _ _).alloc (by simp [regW, memW, pcW, kindW, panW, atW]) _ | exact Below.refl _ _ | refine Below.drew ?_))⟩
set_option maxRecDepth 100000 in
set_option maxHeartbeats 1000000 in
theorem rc10n {w : World} {L : RLay} {s : MS} (h : RHolds w L s) (a b c : Nat) (i : Int) (la : a < 16) (lb : b < 16) (hp : s.panics = 0) (k : Int) (hk : IntKind.i64.wrap (s.reg 15 - 1) = k) (kn : k < 0 ∨ (s.mem.length : Int) ≤ k) :
    Calls Try.prog 66 #[.pointer (some ⟨L.m, 0, none⟩), .agg #[.int .i64 10, .int .i64 (a : Int), .int .i64 (b : Int), .int .i64 (c : Int), .int .i64 i]] w (REnd w L s (exec ⟨10, a, b, c, i⟩ s)) := by
  have hE : exec ⟨10, a, b, c, i⟩ s = { s with kind := 5 } := by have e : ¬ s.at_ (wrap64 (s.reg 15 - 1)) = true := (by rw [← Num.i64_wrap_eq, hk]; simp [MS.at_]; omega); show MS.call s (fun _ => i) = _; unfold MS.call; dsimp only; rw [if_neg e, MS.fault, ends_zero hp]
  rw [hE]
  clear hE
  clear hp
  have hm : L.m < w.heap.size := h.hm
  have hf : ∀ o, w.frozen? ⟨L.m, o, none⟩ = false := h.free
  have h15 : w.cell? ⟨L.m, 17, none⟩ = some (.int .i64 (s.reg 15)) := h.reg 15 (by decide)
  have h18 : w.cell? ⟨L.m, 18, none⟩ = some (.int .i64 s.pc) := h.cells 18 (by omega)
  have hmem : w.cell? ⟨L.m, 1, none⟩ = some (.slice (some ⟨L.mb, 0, none⟩) s.mem.length L.mc) := h.cells 1 (by omega)
  have hn : s.mem.length ≤ 262144 := h.rows.lim.2.1
  have h21 : w.cell? ⟨L.m, 21, none⟩ = some (.int .i64 s.kind) := h.cells 21 (by omega)
  have hk2 : wrap64 (s.reg 15 - 1) = k := by rw [← Num.i64_wrap_eq]; exact hk
  have K0 := Lib.hid kn
  clear kn
  go_enter Try.func66, Try.ntmps66
  go_wp2_with (go_at_call 65; refine (cell_no L.m (some ⟨L.mb, 0, none⟩) s.mem.length L.mc k s.kind _ K0.out hn (by go_simp) (by go_simp) (by intro o; go_simp)).mono ?_; rintro e w2 ⟨rfl, rfl⟩)
  go_end0
  exact ⟨rfl, L, (RNext.kind h 5).below (by repeat (first | exact (Below.refl _ _).alloc (by simp [regW, memW, pcW, kindW, panW, atW]) _ | exact Below.refl _ _ | refine Below.drew ?_))⟩
set_option maxRecDepth 100000 in
set_option maxHeartbeats 1000000 in
theorem rc11n {w : World} {L : RLay} {s : MS} (h : RHolds w L s) (a b c : Nat) (i : Int) (la : a < 16) (lb : b < 16) (hp : s.panics = 0) (k : Int) (hk : IntKind.i64.wrap (s.reg 15 - 1) = k) (kn : k < 0 ∨ (s.mem.length : Int) ≤ k) :
    Calls Try.prog 66 #[.pointer (some ⟨L.m, 0, none⟩), .agg #[.int .i64 11, .int .i64 (a : Int), .int .i64 (b : Int), .int .i64 (c : Int), .int .i64 i]] w (REnd w L s (exec ⟨11, a, b, c, i⟩ s)) := by
  have hE : exec ⟨11, a, b, c, i⟩ s = { s with kind := 5 } := by have e : ¬ s.at_ (wrap64 (s.reg 15 - 1)) = true := (by rw [← Num.i64_wrap_eq, hk]; simp [MS.at_]; omega); show MS.call s (fun t => t.reg a) = _; unfold MS.call; dsimp only; rw [if_neg e, MS.fault, ends_zero hp]
  rw [hE]
  clear hE
  clear hp
  have hm : L.m < w.heap.size := h.hm
  have hf : ∀ o, w.frozen? ⟨L.m, o, none⟩ = false := h.free
  have h15 : w.cell? ⟨L.m, 17, none⟩ = some (.int .i64 (s.reg 15)) := h.reg 15 (by decide)
  have h18 : w.cell? ⟨L.m, 18, none⟩ = some (.int .i64 s.pc) := h.cells 18 (by omega)
  have hmem : w.cell? ⟨L.m, 1, none⟩ = some (.slice (some ⟨L.mb, 0, none⟩) s.mem.length L.mc) := h.cells 1 (by omega)
  have hn : s.mem.length ≤ 262144 := h.rows.lim.2.1
  have h21 : w.cell? ⟨L.m, 21, none⟩ = some (.int .i64 s.kind) := h.cells 21 (by omega)
  have hk2 : wrap64 (s.reg 15 - 1) = k := by rw [← Num.i64_wrap_eq]; exact hk
  have K0 := Lib.hid kn
  clear kn
  go_enter Try.func66, Try.ntmps66
  go_wp2_with (go_at_call 65; refine (cell_no L.m (some ⟨L.mb, 0, none⟩) s.mem.length L.mc k s.kind _ K0.out hn (by go_simp) (by go_simp) (by intro o; go_simp)).mono ?_; rintro e w2 ⟨rfl, rfl⟩)
  go_end0
  exact ⟨rfl, L, (RNext.kind h 5).below (by repeat (first | exact (Below.refl _ _).alloc (by simp [regW, memW, pcW, kindW, panW, atW]) _ | exact Below.refl _ _ | refine Below.drew ?_))⟩
set_option maxRecDepth 100000 in
set_option maxHeartbeats 1000000 in
theorem rc11y {w : World} {L : RLay} {s : MS} (h : RHolds w L s) (a b c : Nat) (i : Int) (la : a < 16) (lb : b < 16) (hp : s.panics = 0) (k : Int) (hk : IntKind.i64.wrap (s.reg 15 - 1) = k) (k0 : 0 ≤ k) (k1 : k < s.mem.length) (hz : ¬ a = 15) :
    Calls Try.prog 66 #[.pointer (some ⟨L.m, 0, none⟩), .agg #[.int .i64 11, .int .i64 (a : Int), .int .i64 (b : Int), .int .i64 (c : Int), .int .i64 i]] w (REnd w L s (exec ⟨11, a, b, c, i⟩ s)) := by
  have hE : exec ⟨11, a, b, c, i⟩ s = { s with reg := (s.set 15 k).reg, mem := s.mem.set k.toNat s.pc, pc := s.reg a } := by have e : s.at_ (wrap64 (s.reg 15 - 1)) = true := (by rw [← Num.i64_wrap_eq, hk]; simp [MS.at_]; omega); show MS.call s (fun t => t.reg a) = _; unfold MS.call; dsimp only; rw [if_pos e, ← Num.i64_wrap_eq, hk]; simp [MS.put, MS.set, hz]
  rw [hE]
  clear hE
  clear hp
  have hm : L.m < w.heap.size := h.hm
  have hf : ∀ o, w.frozen? ⟨L.m, o, none⟩ = false := h.free
  have h15 : w.cell? ⟨L.m, 17, none⟩ = some (.int .i64 (s.reg 15)) := h.reg 15 (by decide)
  have h18 : w.cell? ⟨L.m, 18, none⟩ = some (.int .i64 s.pc) := h.cells 18 (by omega)
  have hmem : w.cell? ⟨L.m, 1, none⟩ = some (.slice (some ⟨L.mb, 0, none⟩) s.mem.length L.mc) := h.cells 1 (by omega)
  have hn : s.mem.length ≤ 262144 := h.rows.lim.2.1
  have hv : w.cell? ⟨L.mb, k.toNat, none⟩ = some (.int .i64 (rd s.mem k)) := h.rows.mem_at k.toNat (by omega)
  have hmb : L.mb < w.heap.size := h.rows.blocks.2.1
  have hfm : w.frozen? ⟨L.mb, k.toNat, none⟩ = false := h.rows.mem_free _
  have hne : ¬ L.m = L.mb := h.rows.apart.1
  have hne' : ¬ L.mb = L.m := fun e => h.rows.apart.1 e.symm
  have hkn : k.toNat < s.mem.length := by omega
  have ha := h.reg a la
  have la' : (a : Int) < 16 := by omega
  have hk2 : wrap64 (s.reg 15 - 1) = k := by rw [← Num.i64_wrap_eq]; exact hk
  have g1 : ¬ (17 = 2 + a) := by omega
  have g2 : ¬ (2 + a = 17) := by omega
  go_enter Try.func66, Try.ntmps66
  go_wp2_with (go_at_call 65; refine (cell_yes L.m (some ⟨L.mb, 0, none⟩) s.mem.length L.mc k _ k0 k1 hn (by go_simp)).mono ?_; rintro e w2 ⟨rfl, rfl⟩)
  refine region_tail 9 mixed (by kernel_rfl) ?_
  simp only [List.take_succ_cons, List.take_zero, List.drop_succ_cons, List.drop_zero]
  repeat still_step
  refine wpStill_nil ?_
  go_wp2
  refine region_tail 10 mixed (by kernel_rfl) ?_
  simp only [List.take_succ_cons, List.take_zero, List.drop_succ_cons, List.drop_zero]
  repeat still_step
  refine wpStill_nil ?_
  go_wp2
  refine region_tail 10 mixed (by kernel_rfl) ?_
  simp only [List.take_succ_cons, List.take_zero, List.drop_succ_cons, List.drop_zero]
  repeat still_step
  refine wpStill_nil ?_
  go_wp2
  go_end0
  have n1 := RNext.reg h 15 (by decide) k
  have n2 := n1.trans (RNext.mem n1.holds k.toNat hkn s.pc)
  have n3 := n2.trans (RNext.pc n2.holds i)
  exact ⟨rfl, L, (n3.trans (RNext.pc n3.holds (s.reg a))).below (by repeat (first | exact (Below.refl _ _).alloc (by simp [regW, memW, pcW, kindW, panW, atW]) _ | exact Below.refl _ _ | refine Below.drew ?_))⟩
set_option maxRecDepth 100000 in
set_option maxHeartbeats 1000000 in
theorem rc11s {w : World} {L : RLay} {s : MS} (h : RHolds w L s) (a b c : Nat) (i : Int) (la : a < 16) (lb : b < 16) (hp : s.panics = 0) (k : Int) (hk : IntKind.i64.wrap (s.reg 15 - 1) = k) (k0 : 0 ≤ k) (k1 : k < s.mem.length) (hz : a = 15) :
    Calls Try.prog 66 #[.pointer (some ⟨L.m, 0, none⟩), .agg #[.int .i64 11, .int .i64 (a : Int), .int .i64 (b : Int), .int .i64 (c : Int), .int .i64 i]] w (REnd w L s (exec ⟨11, a, b, c, i⟩ s)) := by
  have hE : exec ⟨11, a, b, c, i⟩ s = { s with reg := (s.set 15 k).reg, mem := s.mem.set k.toNat s.pc, pc := k } := by have e : s.at_ (wrap64 (s.reg 15 - 1)) = true := (by rw [← Num.i64_wrap_eq, hk]; simp [MS.at_]; omega); show MS.call s (fun t => t.reg a) = _; unfold MS.call; dsimp only; rw [if_pos e, ← Num.i64_wrap_eq, hk]; simp [MS.put, MS.set, hz]
  rw [hE]
  clear hE
  clear hp
  have hm : L.m < w.heap.size := h.hm
  have hf : ∀ o, w.frozen? ⟨L.m, o, none⟩ = false := h.free
  have h15 : w.cell? ⟨L.m, 17, none⟩ = some (.int .i64 (s.reg 15)) := h.reg 15 (by decide)
  have h18 : w.cell? ⟨L.m, 18, none⟩ = some (.int .i64 s.pc) := h.cells 18 (by omega)
  have hmem : w.cell? ⟨L.m, 1, none⟩ = some (.slice (some ⟨L.mb, 0, none⟩) s.mem.length L.mc) := h.cells 1 (by omega)
  have hn : s.mem.length ≤ 262144 := h.rows.lim.2.1
  have hv : w.cell? ⟨L.mb, k.toNat, none⟩ = some (.int .i64 (rd s.mem k)) := h.rows.mem_at k.toNat (by omega)
  have hmb : L.mb < w.heap.size := h.rows.blocks.2.1
  have hfm : w.frozen? ⟨L.mb, k.toNat, none⟩ = false := h.rows.mem_free _
  have hne : ¬ L.m = L.mb := h.rows.apart.1
  have hne' : ¬ L.mb = L.m := fun e => h.rows.apart.1 e.symm
  have hkn : k.toNat < s.mem.length := by omega
  have hk2 : wrap64 (s.reg 15 - 1) = k := by rw [← Num.i64_wrap_eq]; exact hk
  subst hz
  go_enter Try.func66, Try.ntmps66
  go_wp2_with (go_at_call 65; refine (cell_yes L.m (some ⟨L.mb, 0, none⟩) s.mem.length L.mc k _ k0 k1 hn (by go_simp)).mono ?_; rintro e w2 ⟨rfl, rfl⟩)
  refine region_tail 9 mixed (by kernel_rfl) ?_
  simp only [List.take_succ_cons, List.take_zero, List.drop_succ_cons, List.drop_zero]
  repeat still_step
  refine wpStill_nil ?_
  go_wp2
  refine region_tail 10 mixed (by kernel_rfl) ?_
  simp only [List.take_succ_cons, List.take_zero, List.drop_succ_cons, List.drop_zero]
  repeat still_step
  refine wpStill_nil ?_
  go_wp2
  refine region_tail 10 mixed (by kernel_rfl) ?_
  simp only [List.take_succ_cons, List.take_zero, List.drop_succ_cons, List.drop_zero]
  repeat still_step
  refine wpStill_nil ?_
  go_wp2
  go_end0
  have n1 := RNext.reg h 15 (by decide) k
  have n2 := n1.trans (RNext.mem n1.holds k.toNat hkn s.pc)
  have n3 := n2.trans (RNext.pc n2.holds i)
  exact ⟨rfl, L, (n3.trans (RNext.pc n3.holds (k))).below (by repeat (first | exact (Below.refl _ _).alloc (by simp [regW, memW, pcW, kindW, panW, atW]) _ | exact Below.refl _ _ | refine Below.drew ?_))⟩
set_option maxRecDepth 100000 in
set_option maxHeartbeats 1000000 in
theorem rc12y {w : World} {L : RLay} {s : MS} (h : RHolds w L s) (a b c : Nat) (i : Int) (la : a < 16) (lb : b < 16) (hp : s.panics = 0) (k : Int) (hk : s.reg 15 = k) (k0 : 0 ≤ k) (k1 : k < s.mem.length) :
    Calls Try.prog 66 #[.pointer (some ⟨L.m, 0, none⟩), .agg #[.int .i64 12, .int .i64 (a : Int), .int .i64 (b : Int), .int .i64 (c : Int), .int .i64 i]] w (REnd w L s (exec ⟨12, a, b, c, i⟩ s)) := by
  have hE : exec ⟨12, a, b, c, i⟩ s = { s with pc := rd s.mem k, reg := (s.set 15 (k + 1)).reg } := by have e : s.at_ (s.reg 15) = true := (by rw [hk]; simp [MS.at_]; omega); show (if s.at_ (s.reg 15) = true then { s.set 15 (wrap64 (s.reg 15 + 1)) with pc := rd s.mem (s.reg 15) } else s.fault) = _; rw [if_pos e, hk, show wrap64 (k + 1) = k + 1 from (by have := h.rows.lim.2.1; unfold wrap64; omega)]; rfl
  rw [hE]
  clear hE
  clear hp
  have hm : L.m < w.heap.size := h.hm
  have hf : ∀ o, w.frozen? ⟨L.m, o, none⟩ = false := h.free
  have h15 : w.cell? ⟨L.m, 17, none⟩ = some (.int .i64 (s.reg 15)) := h.reg 15 (by decide)
  have h18 : w.cell? ⟨L.m, 18, none⟩ = some (.int .i64 s.pc) := h.cells 18 (by omega)
  have hmem : w.cell? ⟨L.m, 1, none⟩ = some (.slice (some ⟨L.mb, 0, none⟩) s.mem.length L.mc) := h.cells 1 (by omega)
  have hn : s.mem.length ≤ 262144 := h.rows.lim.2.1
  have hv : w.cell? ⟨L.mb, k.toNat, none⟩ = some (.int .i64 (rd s.mem k)) := h.rows.mem_at k.toNat (by omega)
  have hmb : L.mb < w.heap.size := h.rows.blocks.2.1
  have hfm : w.frozen? ⟨L.mb, k.toNat, none⟩ = false := h.rows.mem_free _
  have hne : ¬ L.m = L.mb := h.rows.apart.1
  have hne' : ¬ L.mb = L.m := fun e => h.rows.apart.1 e.symm
  have hkn : k.toNat < s.mem.length := by omega
  rw [hk] at h15
  clear hk
  go_enter Try.func66, Try.ntmps66
  go_wp2_with (go_at_call 65; refine (cell_yes L.m (some ⟨L.mb, 0, none⟩) s.mem.length L.mc k _ k0 k1 hn (by go_simp)).mono ?_; rintro e w2 ⟨rfl, rfl⟩)
  refine region_tail 9 mixed (by kernel_rfl) ?_
  simp only [List.take_succ_cons, List.take_zero, List.drop_succ_cons, List.drop_zero]
  repeat still_step
  refine wpStill_nil ?_
  go_wp2
  go_end0
  have n1 := RNext.pc h (rd s.mem k)
  exact ⟨rfl, L, (n1.trans (RNext.reg n1.holds 15 (by decide) (k + 1))).below (by repeat (first | exact (Below.refl _ _).alloc (by simp [regW, memW, pcW, kindW, panW, atW]) _ | exact Below.refl _ _ | refine Below.drew ?_))⟩
set_option maxRecDepth 100000 in
set_option maxHeartbeats 1000000 in
theorem rc12n {w : World} {L : RLay} {s : MS} (h : RHolds w L s) (a b c : Nat) (i : Int) (la : a < 16) (lb : b < 16) (hp : s.panics = 0) (k : Int) (hk : s.reg 15 = k) (kn : k < 0 ∨ (s.mem.length : Int) ≤ k) :
    Calls Try.prog 66 #[.pointer (some ⟨L.m, 0, none⟩), .agg #[.int .i64 12, .int .i64 (a : Int), .int .i64 (b : Int), .int .i64 (c : Int), .int .i64 i]] w (REnd w L s (exec ⟨12, a, b, c, i⟩ s)) := by
  have hE : exec ⟨12, a, b, c, i⟩ s = { s with kind := 5 } := by have e : ¬ s.at_ (s.reg 15) = true := (by rw [hk]; simp [MS.at_]; omega); show (if s.at_ (s.reg 15) = true then { s.set 15 (wrap64 (s.reg 15 + 1)) with pc := rd s.mem (s.reg 15) } else s.fault) = _; rw [if_neg e, MS.fault, ends_zero hp]
  rw [hE]
  clear hE
  clear hp
  have hm : L.m < w.heap.size := h.hm
  have hf : ∀ o, w.frozen? ⟨L.m, o, none⟩ = false := h.free
  have h15 : w.cell? ⟨L.m, 17, none⟩ = some (.int .i64 (s.reg 15)) := h.reg 15 (by decide)
  have h18 : w.cell? ⟨L.m, 18, none⟩ = some (.int .i64 s.pc) := h.cells 18 (by omega)
  have hmem : w.cell? ⟨L.m, 1, none⟩ = some (.slice (some ⟨L.mb, 0, none⟩) s.mem.length L.mc) := h.cells 1 (by omega)
  have hn : s.mem.length ≤ 262144 := h.rows.lim.2.1
  have h21 : w.cell? ⟨L.m, 21, none⟩ = some (.int .i64 s.kind) := h.cells 21 (by omega)
  rw [hk] at h15
  clear hk
  have K0 := Lib.hid kn
  clear kn
  go_enter Try.func66, Try.ntmps66
  go_wp2_with (go_at_call 65; refine (cell_no L.m (some ⟨L.mb, 0, none⟩) s.mem.length L.mc k s.kind _ K0.out hn (by go_simp) (by go_simp) (by intro o; go_simp)).mono ?_; rintro e w2 ⟨rfl, rfl⟩)
  go_end0
  exact ⟨rfl, L, (RNext.kind h 5).below (by repeat (first | exact (Below.refl _ _).alloc (by simp [regW, memW, pcW, kindW, panW, atW]) _ | exact Below.refl _ _ | refine Below.drew ?_))⟩
set_option maxRecDepth 100000 in
set_option maxHeartbeats 1000000 in
theorem rc13n {w : World} {L : RLay} {s : MS} (h : RHolds w L s) (a b c : Nat) (i : Int) (la : a < 16) (lb : b < 16) (hp : s.panics = 0) (hz : s.inp = []) :
    Calls Try.prog 66 #[.pointer (some ⟨L.m, 0, none⟩), .agg #[.int .i64 13, .int .i64 (a : Int), .int .i64 (b : Int), .int .i64 (c : Int), .int .i64 i]] w (REnd w L s (exec ⟨13, a, b, c, i⟩ s)) := by
  have hE : exec ⟨13, a, b, c, i⟩ s = s.set a (-1) := by show (match s.inp with | [] => s.set a (-1) | b :: r => { s.set a b with inp := r }) = _; rw [hz]
  rw [hE]
  clear hE
  clear hp
  have hm : L.m < w.heap.size := h.hm
  have hf : ∀ o, w.frozen? ⟨L.m, o, none⟩ = false := h.free
  have ha := h.reg a la
  have la' : (a : Int) < 16 := by omega
  have h19 : w.cell? ⟨L.m, 19, none⟩ = some (.slice L.inA L.full.length L.inc) := h.cells 19 (by omega)
  have h20 : w.cell? ⟨L.m, 20, none⟩ = some (.int .i64 (L.full.length : Int)) := by have := h.cells 20 (by omega); simpa [rcell, hz] using this
  have hl0 : decide ((L.full.length : Int) < L.full.length) = false := decide_eq_false (by omega)
  have hl1 : decide (L.full.length < L.full.length) = false := decide_eq_false (by omega)
  have g1 : ¬ (20 = 2 + a) := by omega
  have g2 : ¬ (2 + a = 20) := by omega
  have g3 : ¬ (19 = 2 + a) := by omega
  have g4 : ¬ (2 + a = 19) := by omega
  clear hz
  go_enter Try.func66, Try.ntmps66
  go_wp2
  refine region_tail 6 mixed (by kernel_rfl) ?_
  simp only [List.take_succ_cons, List.take_zero, List.drop_succ_cons, List.drop_zero]
  repeat still_step
  refine wpStill_nil ?_
  go_wp2
  refine region_still mixed (by kernel_rfl) ?_
  repeat still_step
  refine wpStill_nil ?_
  go_wp2
  go_end0
  exact ⟨rfl, L, (RNext.reg h a la (-1)).below (by repeat (first | exact (Below.refl _ _).alloc (by simp [regW, memW, pcW, kindW, panW, atW]) _ | exact Below.refl _ _ | refine Below.drew ?_))⟩
set_option maxRecDepth 100000 in
set_option maxHeartbeats 1000000 in
theorem rc13y {w : World} {L : RLay} {s : MS} (h : RHolds w L s) (a b c : Nat) (i : Int) (la : a < 16) (lb : b < 16) (hp : s.panics = 0) (x : Int) (r : List Int) (hz : s.inp = x :: r) :
    Calls Try.prog 66 #[.pointer (some ⟨L.m, 0, none⟩), .agg #[.int .i64 13, .int .i64 (a : Int), .int .i64 (b : Int), .int .i64 (c : Int), .int .i64 i]] w (REnd w L s (exec ⟨13, a, b, c, i⟩ s)) := by
  have hE : exec ⟨13, a, b, c, i⟩ s = { s.set a x with inp := r } := by show (match s.inp with | [] => s.set a (-1) | b :: r => { s.set a b with inp := r }) = _; rw [hz]
  rw [hE]
  clear hE
  clear hp
  have hm : L.m < w.heap.size := h.hm
  have hf : ∀ o, w.frozen? ⟨L.m, o, none⟩ = false := h.free
  have ha := h.reg a la
  have la' : (a : Int) < 16 := by omega
  obtain ⟨q1, q2⟩ := h.inp
  rw [hz] at q1 q2
  simp only [List.length_cons] at q1 q2
  obtain ⟨p, hp0⟩ : ∃ p, p = L.full.length - (r.length + 1) := ⟨_, rfl⟩
  have hpl : p < L.full.length := by omega
  have l4 := h.rows.lim.2.2
  have hx : L.full.getD p 0 = x := by
    rw [← hp0] at q2
    have := congrArg (fun l => l.getD 0 0) q2
    simp only [List.getD_eq_getElem?_getD, List.getElem?_drop, List.getElem?_cons_zero, Option.getD_some, Nat.add_zero] at this ⊢
    exact this.symm
  obtain ⟨ib, off, i1, i2, i3, i4, i5, i6⟩ := h.rows.in_at.resolve_left (by intro e; rw [e] at hpl; simp at hpl)
  have hb6 := i6 p hpl
  rw [hx] at hb6
  have hxm : x ∈ L.full := by rw [← hx, List.getD_eq_getElem?_getD, List.getElem?_eq_getElem hpl]; exact List.getElem_mem hpl
  obtain ⟨x0, x1⟩ := l4.2 x hxm
  have h19 : w.cell? ⟨L.m, 19, none⟩ = some (.slice (some ⟨ib, off, none⟩) L.full.length L.inc) := by have := h.cells 19 (by omega); rw [show rcell L s 19 = .slice L.inA L.full.length L.inc from rfl, i1] at this; exact this
  have h20 : w.cell? ⟨L.m, 20, none⟩ = some (.int .i64 (p : Int)) := by
    have := h.cells 20 (by omega)
    rw [show rcell L s 20 = .int .i64 ((L.full.length : Int) - s.inp.length) from rfl, hz] at this
    rw [this, show ((L.full.length : Int) - ((x :: r).length : Nat)) = (p : Int) by simp only [List.length_cons]; omega]
  have hpe : (L.full.length : Int) - r.length = (p : Int) + 1 := by omega
  have hl4 : L.full.length ≤ 4096 := l4.1
  have g1 : ¬ (20 = 2 + a) := by omega
  have g2 : ¬ (2 + a = 20) := by omega
  have g3 : ¬ (19 = 2 + a) := by omega
  have g4 : ¬ (2 + a = 19) := by omega
  have g5 : ¬ ib = L.m := i3
  have g6 : ¬ L.m = ib := fun e => i3 e.symm
  have PE := Lib.hid hpe
  have HZ := Lib.hid hz
  have hp2 : p ≤ 4096 := by omega
  clear hx hpe hz hp0 q1 q2 i6 hxm l4
  go_enter Try.func66, Try.ntmps66
  go_wp2
  refine region_tail 6 mixed (by kernel_rfl) ?_
  simp only [List.take_succ_cons, List.take_zero, List.drop_succ_cons, List.drop_zero]
  repeat still_step
  refine wpStill_nil ?_
  go_wp2
  refine region_still mixed (by kernel_rfl) ?_
  repeat still_step
  refine wpStill_nil ?_
  go_wp2
  refine region_tail 17 mixed (by kernel_rfl) ?_
  simp only [List.take_succ_cons, List.take_zero, List.drop_succ_cons, List.drop_zero]
  repeat still_step
  refine wpStill_nil ?_
  go_wp2
  go_end0
  have n1 := RNext.reg h a la (-1)
  have n2 := n1.trans (RNext.reg n1.holds a la x)
  have n3 := n2.trans (RNext.input n2.holds x r HZ.out)
  rw [PE.out] at n3
  have e : ((s.set a (-1)).set a x) = s.set a x := by simp only [MS.set]; congr 1; funext j; split <;> rfl
  rw [e] at n3
  exact ⟨rfl, L, n3.below (by repeat (first | exact (Below.refl _ _).alloc (by simp [regW, memW, pcW, kindW, panW, atW]) _ | exact Below.refl _ _ | refine Below.drew ?_))⟩
set_option maxRecDepth 100000 in
set_option maxHeartbeats 1000000 in
theorem rc14n {w : World} {L : RLay} {s : MS} (h : RHolds w L s) (a b c : Nat) (i : Int) (la : a < 16) (lb : b < 16) (hp : s.panics = 0) (hz : ¬ s.out.length < 4096) :
    Calls Try.prog 66 #[.pointer (some ⟨L.m, 0, none⟩), .agg #[.int .i64 14, .int .i64 (a : Int), .int .i64 (b : Int), .int .i64 (c : Int), .int .i64 i]] w (REnd w L s (exec ⟨14, a, b, c, i⟩ s)) := by
  have hE : exec ⟨14, a, b, c, i⟩ s = s := by show (if s.out.length < 4096 then { s with out := s.out ++ [s.reg a % 256] } else s) = _; rw [if_neg hz]
  rw [hE]
  clear hE
  clear hp
  have hm : L.m < w.heap.size := h.hm
  have hf : ∀ o, w.frozen? ⟨L.m, o, none⟩ = false := h.free
  obtain ⟨A, cc, hA⟩ := own_slice h.rows.out_at
  have h23 : w.cell? ⟨L.m, 23, none⟩ = some (.slice A s.out.length cc) := by have := h.cells 23 (by omega); rw [show rcell L s 23 = L.out from rfl, hA] at this; exact this
  have hz0 : decide ((s.out.length : Int) < 4096) = false := decide_eq_false (by omega)
  go_enter Try.func66, Try.ntmps66
  go_wp2
  go_end0
  exact ⟨rfl, L, (RNext.refl h).below (by repeat (first | exact (Below.refl _ _).alloc (by simp [regW, memW, pcW, kindW, panW, atW]) _ | exact Below.refl _ _ | refine Below.drew ?_))⟩
set_option maxRecDepth 100000 in
set_option maxHeartbeats 1000000 in
theorem rc14y {w : World} {L : RLay} {s : MS} (h : RHolds w L s) (a b c : Nat) (i : Int) (la : a < 16) (lb : b < 16) (hp : s.panics = 0) (hz : s.out.length < 4096) :
    Calls Try.prog 66 #[.pointer (some ⟨L.m, 0, none⟩), .agg #[.int .i64 14, .int .i64 (a : Int), .int .i64 (b : Int), .int .i64 (c : Int), .int .i64 i]] w (REnd w L s (exec ⟨14, a, b, c, i⟩ s)) := by
  have hE : exec ⟨14, a, b, c, i⟩ s = { s with out := s.out ++ [s.reg a % 256] } := by show (if s.out.length < 4096 then { s with out := s.out ++ [s.reg a % 256] } else s) = _; rw [if_pos hz]
  rw [hE]
  clear hE
  clear hp
  have hm : L.m < w.heap.size := h.hm
  have hf : ∀ o, w.frozen? ⟨L.m, o, none⟩ = false := h.free
  have ha := h.reg a la
  have la' : (a : Int) < 16 := by omega
  obtain ⟨A, cc, hA⟩ := own_slice h.rows.out_at
  have h23 : w.cell? ⟨L.m, 23, none⟩ = some (.slice A s.out.length cc) := by have := h.cells 23 (by omega); rw [show rcell L s 23 = L.out from rfl, hA] at this; exact this
  have hown : w.ownsRow 0 5 1 (.slice A s.out.length cc) s.out.length (nums .u8 s.out) := hA ▸ h.rows.out_at
  have hmo : some L.m ≠ (Value.slice A s.out.length cc).ownBlock := fun e => h.rows.out_apart.1 (by rw [hA]; exact e.symm)
  have hn : (s.out.length : Int) < 4096 := by omega
  go_enter Try.func66, Try.ntmps66
  go_wp2
  refine region_way (fun w' => w'.cell? ⟨L.m, 23, none⟩ = some (.slice A s.out.length cc) ∧ w'.cell? ⟨w.heap.size, 1, none⟩ = some (.int .i64 (a : Int)) ∧ w'.cell? ⟨L.m, 2 + a, none⟩ = some (.int .i64 (s.reg a))) [(0, false), (1, false), (2, false), (3, false), (4, false), (5, false), (6, false), (7, false), (8, false), (9, false), (10, false), (11, false), (12, false), (13, false), (14, true), (15, true)] 16 mixed (by kernel_rfl) ?_ ?_
  · go_simp
  refine way_read (some 139) ?v0 rfl rfl (fun _ _ _ h => h) rfl ?y0 ?_
  case y0 => intro w' hS; obtain ⟨s1, s2, s3⟩ := hS; go_simp; try rfl
  refine way_read (some 140) ?v1 rfl rfl (fun _ _ _ h => h) rfl ?y1 ?_
  case y1 => intro w' hS; obtain ⟨s1, s2, s3⟩ := hS; go_simp; try rfl
  refine way_read (some 141) ?v2 rfl rfl (fun _ _ _ h => h) rfl ?y2 ?_
  case y2 => intro w' hS; obtain ⟨s1, s2, s3⟩ := hS; go_simp; try rfl
  refine way_read (some 142) ?v3 rfl rfl (fun _ _ _ h => h) rfl ?y3 ?_
  case y3 => intro w' hS; obtain ⟨s1, s2, s3⟩ := hS; go_simp; try rfl
  refine way_read (some 143) ?v4 rfl rfl (fun _ _ _ h => h) rfl ?y4 ?_
  case y4 => intro w' hS; obtain ⟨s1, s2, s3⟩ := hS; go_simp; try rfl
  refine way_read (some 144) ?v5 rfl rfl (fun _ _ _ h => h) rfl ?y5 ?_
  case y5 => intro w' hS; obtain ⟨s1, s2, s3⟩ := hS; go_simp; try rfl
  refine way_read (some 145) ?v6 rfl rfl (fun _ _ _ h => h) rfl ?y6 ?_
  case y6 => intro w' hS; obtain ⟨s1, s2, s3⟩ := hS; go_simp; try rfl
  refine way_read (some 146) ?v7 rfl rfl (fun _ _ _ h => h) rfl ?y7 ?_
  case y7 => intro w' hS; obtain ⟨s1, s2, s3⟩ := hS; go_simp; try rfl
  refine way_read (some 147) ?v8 rfl rfl (fun _ _ _ h => h) rfl ?y8 ?_
  case y8 => intro w' hS; obtain ⟨s1, s2, s3⟩ := hS; go_simp; try rfl
  refine way_read (some 148) ?v9 rfl rfl (fun _ _ _ h => h) rfl ?y9 ?_
  case y9 => intro w' hS; obtain ⟨s1, s2, s3⟩ := hS; go_simp; try rfl
  refine way_read (some 149) ?v10 rfl rfl (fun _ _ _ h => h) rfl ?y10 ?_
  case y10 => intro w' hS; obtain ⟨s1, s2, s3⟩ := hS; go_simp; try rfl
  refine way_read (some 150) ?v11 rfl rfl (fun _ _ _ h => h) rfl ?y11 ?_
  case y11 => intro w' hS; obtain ⟨s1, s2, s3⟩ := hS; go_simp; try rfl
  refine way_read (some 151) ?v12 rfl rfl (fun _ _ _ h => h) rfl ?y12 ?_
  case y12 => intro w' hS; obtain ⟨s1, s2, s3⟩ := hS; go_simp; try rfl
  refine way_read (some 152) ?v13 rfl rfl (fun _ _ _ h => h) rfl ?y13 ?_
  case y13 => intro w' hS; obtain ⟨s1, s2, s3⟩ := hS; go_simp; try rfl
  refine way_turn rfl rfl (fun K hK => ?_)
  unfold Oper.wp execOp
  go_simp
  refine hK _ _ ⟨by go_simp, by go_simp, by go_simp⟩ (fun _ => ?_)
  clear hK K
  refine way_turn rfl rfl (fun K hK => ?_)
  refine wp_append_mine (.tmp 144) (.tmp 153) 25 rfl 0 5 _ _ 1 1 rfl rfl rfl rfl rfl rfl (by omega) _ _ _ rfl (by exact (hown.alloc _).alloc _) _ 1 1 [.int .u8 (IntKind.u8.wrap (s.reg a))] rfl rfl ?h2 ?h3 (by unfold maxLen; omega) (by omega) (Nat.zero_le _) (fun v' w1 hA' => ?_)
  case h2 => 
    intro j u hj
    cases j with
    | zero => cases hj; go_simp
    | succ j => cases hj
  case h3 => intro u hu; simp at hu; subst hu; rfl
  have hgb := hA'.2.1
  have far : ∀ b o, b < w.heap.size → some b ≠ (Value.slice A s.out.length cc).ownBlock → w1.cell? ⟨b, o, none⟩ = w.cell? ⟨b, o, none⟩ := fun b o hb hne => by
    rw [hgb.cell_far ⟨b, o, none⟩ (by simp; omega) hne]
    go_simp
  have farf : ∀ b o, b < w.heap.size → some b ≠ (Value.slice A s.out.length cc).ownBlock → w1.frozen? ⟨b, o, none⟩ = w.frozen? ⟨b, o, none⟩ := fun b o hb hne => by
    rw [hgb.frozen_far ⟨b, o, none⟩ (by simp; omega) hne]
    go_simp
  have hbox : some w.heap.size ≠ (Value.slice A s.out.length cc).ownBlock := fun he => by
    have := (hown.lt w.heap.size he.symm).2
    omega
  have e1 : w1.cell? ⟨w.heap.size, 1, none⟩ = some (.int .i64 (a : Int)) := by
    rw [hgb.cell_far ⟨w.heap.size, 1, none⟩ (by simp; omega) hbox]
    go_simp
  have e2 := far L.m 23 hm hmo
  have e3 := far L.m (2 + a) hm hmo
  have e4 : ∀ o, w1.frozen? ⟨L.m, o, none⟩ = false := fun o => (farf L.m o hm hmo).trans (hf o)
  refine hK _ _ ⟨e2.trans h23, e1, e3.trans ha⟩ (fun _ => ?_)
  refine way_done ?_
  simp only [List.drop_succ_cons, List.drop_zero]
  go_simp
  obtain ⟨g, cap, rfl⟩ := own_form hA'.1 (Nat.succ_pos _)
  have e6 : L.m < w1.heap.size := Nat.lt_of_lt_of_le hm (Nat.le_trans (by simp; omega) hgb.size)
  go_wp2
  go_end0
  have hu : [Value.int .u8 (IntKind.u8.wrap (s.reg a))] = nums .u8 [s.reg a % 256] := by simp [nums, IntKind.wrap, IntKind.signed, IntKind.bits]
  have happ : nums .u8 s.out ++ [Value.int .u8 (IntKind.u8.wrap (s.reg a))] = nums .u8 (s.out ++ [s.reg a % 256]) := by rw [hu]; simp [nums]
  rw [happ] at hA'
  have hAp : Appended w 0 5 1 L.out (s.out.length + 1) (nums .u8 (s.out ++ [s.reg a % 256])) (.slice (some ⟨g, 0, none⟩) (s.out.length + 1) cap) w1 := by
    rw [hA]
    exact ⟨hA'.1, gb_trans (gb_drew (gb_trans (World.grownBy_alloc w _ _) (World.grownBy_alloc _ _ _))) hgb, fun k hk => (hA'.2.2 k hk).imp id (fun h => by simp at h; omega)⟩
  exact ⟨rfl, _, RNext.output h _ _ hAp⟩
set_option maxRecDepth 100000 in
set_option maxHeartbeats 1000000 in
theorem rc15 {w : World} {L : RLay} {s : MS} (h : RHolds w L s) (a b c : Nat) (i : Int) (la : a < 16) (lb : b < 16) (hp : s.panics = 0) :
    Calls Try.prog 66 #[.pointer (some ⟨L.m, 0, none⟩), .agg #[.int .i64 15, .int .i64 (a : Int), .int .i64 (b : Int), .int .i64 (c : Int), .int .i64 i]] w (REnd w L s (exec ⟨15, a, b, c, i⟩ s)) := by
  have hE : exec ⟨15, a, b, c, i⟩ s = s.set a (s.mem.length : Int) := by rfl
  rw [hE]
  clear hE
  clear hp
  have hm : L.m < w.heap.size := h.hm
  have hf : ∀ o, w.frozen? ⟨L.m, o, none⟩ = false := h.free
  have ha := h.reg a la
  have la' : (a : Int) < 16 := by omega
  have hmem : w.cell? ⟨L.m, 1, none⟩ = some (.slice (some ⟨L.mb, 0, none⟩) s.mem.length L.mc) := h.cells 1 (by omega)
  have hn : s.mem.length ≤ 262144 := h.rows.lim.2.1
  go_enter Try.func66, Try.ntmps66
  go_wp2
  refine region_tail 11 mixed (by kernel_rfl) ?_
  simp only [List.take_succ_cons, List.take_zero, List.drop_succ_cons, List.drop_zero]
  repeat still_step
  refine wpStill_nil ?_
  go_wp2
  go_end0
  exact ⟨rfl, L, (RNext.reg h a la (s.mem.length : Int)).below (by repeat (first | exact (Below.refl _ _).alloc (by simp [regW, memW, pcW, kindW, panW, atW]) _ | exact Below.refl _ _ | refine Below.drew ?_))⟩
end Go.Proofs.Ytbchiolgbhckhaa.Mach

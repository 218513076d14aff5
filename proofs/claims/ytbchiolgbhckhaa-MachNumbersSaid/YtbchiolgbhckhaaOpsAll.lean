/- Every operation of the machine, told by the plain state. -/
import Derived.Test.YtbchiolgbhckhaaHolds
set_option linter.unusedVariables false
set_option linter.unusedSimpArgs false
namespace Go.Proofs.Ytbchiolgbhckhaa.Mach
open Go.RowKit Go.Proofs.YtbchiolgbhckhaaW.PrintWords Go.Proofs.YtbchiolgbhckhaaW.PrintMore Go.Proofs.Ytbchiolgbhckhaa.PMachRuns

/-- What an operation leaves: it is done, or it has given up and nothing has turned. -/
def OpEnd (w : World) (L : Lay) (s s' : MS) (e : Ending) (w' : World) : Prop :=
  (e = .returned (.tuple #[]) ∧ ∃ L', Next w L s w' L' s') ∨ (e = faultP ∧ s' = s.fault ∧ Below w.heap.size w w')
theorem did {w W w' : World} {L L' : Lay} {s s' : MS} {e : Ending} (h : Next w L s W L' s') (hs : W.heap.size = w.heap.size) (hd : Did w W e w') : OpEnd w L s s' e w' :=
  .inl ⟨hd.1, L', h.below (by rw [hs]; exact hd.2)⟩
theorem died {w w' : World} {L : Lay} {s s' : MS} {e : Ending} (h : s' = s.fault) (hd : Died w e w') : OpEnd w L s s' e w' := .inr ⟨hd.1, h, hd.2⟩
/-- A machine's operation, called with an instruction. -/
def opArgs (L : Lay) (x : I5) : Array Value := #[.pointer (some ⟨L.m, 0, none⟩), .agg #[.int .i64 x.o, .int .i64 x.a, .int .i64 x.b, .int .i64 x.c, .int .i64 x.i]]
section
variable {w : World} {L : Lay} {s : MS} (x : I5) (h : Holds w L s)
include h
theorem Holds.hm : L.m < w.heap.size := h.rows.blocks.1
theorem Holds.mem_cell : w.cell? ⟨L.m, 1, none⟩ = some (.slice (some ⟨L.mb, 0, none⟩) s.mem.length L.mc) := h.cells 1 (by omega)
theorem Holds.pc_cell : w.cell? ⟨L.m, 18, none⟩ = some (.int .i64 s.pc) := h.cells 18 (by omega)
theorem Holds.kind_cell : w.cell? ⟨L.m, 21, none⟩ = some (.int .i64 s.kind) := h.cells 21 (by omega)
theorem Holds.panics_cell : w.cell? ⟨L.m, 22, none⟩ = some (.int .i64 s.panics) := h.cells 22 (by omega)
theorem Holds.ne : ¬ L.m = L.mb := h.rows.apart.1
theorem Holds.ne' : ¬ L.mb = L.m := fun e => h.rows.apart.1 e.symm
theorem Holds.mem_read {k : Int} (k0 : 0 ≤ k) (k1 : k < s.mem.length) : w.cell? ⟨L.mb, k.toNat, none⟩ = some (.int .i64 (rd s.mem k)) := h.rows.mem_at k.toNat (by omega)
theorem op_halt  : Calls Try.prog 32 (opArgs L x) w (OpEnd w L s (s.ends 1 0)) := by
  exact (halt_any L.m x.o x.a x.b x.c x.i _ _ w h.hm h.free h.kind_cell h.panics_cell).mono fun e w' hd => did (Next.ends h 1 0) (by simp [endsW, World.setCell]) hd
theorem op_trap  : Calls Try.prog 33 (opArgs L x) w (OpEnd w L s (trapS s x.i)) := by
  unfold trapS
  by_cases h1 : 1 ≤ x.i ∧ x.i ≤ 999
  · rw [if_pos h1]
    exact (trap_1 L.m x.o x.a x.b x.c x.i _ _ w h.hm h.free h.kind_cell h.panics_cell h1.1 h1.2).mono fun e w' hd => did (Next.ends h 2 x.i) (by simp [endsW, World.setCell]) hd
  rw [if_neg h1]
  by_cases h2 : x.i = 1000
  · rw [if_pos h2]
    exact (trap_2 L.m x.o x.a x.b x.c x.i _ _ w h.hm h.free h.kind_cell h.panics_cell h2).mono fun e w' hd => did (Next.ends h 3 0) (by simp [endsW, World.setCell]) hd
  rw [if_neg h2]
  by_cases h3 : x.i = 1001
  · rw [if_pos h3]
    exact (trap_3 L.m x.o x.a x.b x.c x.i _ _ w h.hm h.free h.kind_cell h.panics_cell h3).mono fun e w' hd => did (Next.ends h 4 0) (by simp [endsW, World.setCell]) hd
  rw [if_neg h3]
  by_cases h4 : x.i < 1
  · exact (trap_4 L.m x.o x.a x.b x.c x.i _ _ w h.hm h.free h.kind_cell h.panics_cell h4).mono fun e w' hd => did (Next.ends h 5 0) (by simp [endsW, World.setCell]) hd
  · exact (trap_5 L.m x.o x.a x.b x.c x.i _ _ w h.hm h.free h.kind_cell h.panics_cell (by omega) h2 h3).mono fun e w' hd => did (Next.ends h 5 0) (by simp [endsW, World.setCell]) hd
theorem op_move (ha : x.a < 16) (hb : x.b < 16) : Calls Try.prog 34 (opArgs L x) w (OpEnd w L s (s.set x.a (s.reg x.b))) := by
  exact (move_any L.m x.a x.b x.c x.o x.i (s.reg x.a) (s.reg x.b) (s.reg x.c) w h.hm h.free (h.reg x.a ha) (by omega) (h.reg x.b hb) (by omega)).mono fun e w' hd => did (Next.reg h x.a ha _) (by simp [regW, World.setCell]) hd
theorem op_konst (ha : x.a < 16) : Calls Try.prog 35 (opArgs L x) w (OpEnd w L s (s.set x.a x.i)) := by
  exact (konst_any L.m x.a x.b x.c x.o x.i (s.reg x.a) (s.reg x.b) (s.reg x.c) w h.hm h.free (h.reg x.a ha) (by omega)).mono fun e w' hd => did (Next.reg h x.a ha _) (by simp [regW, World.setCell]) hd
theorem op_high (ha : x.a < 16) : Calls Try.prog 36 (opArgs L x) w (OpEnd w L s (s.set x.a (high (s.reg x.a) x.i))) := by
  have he : high (s.reg x.a) x.i = wrap64 (wrap64 (s.reg x.a * 4294967296) + wrap64 (x.i % 4294967296)) := by
    unfold high
    rw [in64 (n := x.i % 4294967296) (by omega) (by omega)]
  rw [he]
  exact (high_any L.m x.a x.b x.c x.o x.i (s.reg x.a) (s.reg x.b) (s.reg x.c) w h.hm h.free (h.reg x.a ha) (by omega)).mono fun e w' hd => did (Next.reg h x.a ha _) (by simp [regW, World.setCell]) hd
omit h in
theorem at_iff (s : MS) (k : Int) : s.at_ k = true ↔ 0 ≤ k ∧ k < s.mem.length := by simp [MS.at_]
omit h in
theorem at_no' {s : MS} {k : Int} (hk : ¬ s.at_ k = true) : k < 0 ∨ s.mem.length ≤ k := by rw [at_iff] at hk; omega
theorem op_load (ha : x.a < 16) (hb : x.b < 16) : Calls Try.prog 37 (opArgs L x) w (OpEnd w L s (if s.at_ (wrap64 (s.reg x.b + x.i)) = true then s.set x.a (rd s.mem (wrap64 (s.reg x.b + x.i))) else s.fault)) := by
  have hk : IntKind.i64.wrap (s.reg x.b + x.i) = wrap64 (s.reg x.b + x.i) := Num.i64_wrap_eq _
  by_cases hat : s.at_ (wrap64 (s.reg x.b + x.i)) = true
  · rw [if_pos hat]
    obtain ⟨k0, k1⟩ := (at_iff s _).1 hat
    exact (load_yes L.m L.mb s.mem.length L.mc x.a x.b x.c x.o x.i (s.reg x.a) (s.reg x.b) (s.reg x.c) _ _ w h.hm h.free h.mem_cell h.rows.lim.2.1 (h.reg x.a ha) (by omega) (h.reg x.b hb) (by omega) hk k0 k1 (h.mem_read k0 k1) h.rows.blocks.2.1).mono fun e w' hd => did (Next.reg h x.a ha _) (by simp [regW, World.setCell]) hd
  · rw [if_neg hat]
    exact (load_no L.m s.mem.length L.mc x.a x.b x.c (some ⟨L.mb, 0, none⟩) x.o x.i (s.reg x.a) (s.reg x.b) (s.reg x.c) _ w h.hm h.free h.mem_cell h.rows.lim.2.1 (h.reg x.a ha) (by omega) (h.reg x.b hb) (by omega) hk (at_no' hat)).mono fun e w' hd => died rfl hd
theorem op_store (ha : x.a < 16) (hb : x.b < 16) : Calls Try.prog 38 (opArgs L x) w (OpEnd w L s (if s.at_ (wrap64 (s.reg x.b + x.i)) = true then s.put (wrap64 (s.reg x.b + x.i)) (s.reg x.a) else s.fault)) := by
  have hk : IntKind.i64.wrap (s.reg x.b + x.i) = wrap64 (s.reg x.b + x.i) := Num.i64_wrap_eq _
  by_cases hat : s.at_ (wrap64 (s.reg x.b + x.i)) = true
  · rw [if_pos hat]
    obtain ⟨k0, k1⟩ := (at_iff s _).1 hat
    exact (store_yes L.m L.mb s.mem.length L.mc x.a x.b x.c x.o x.i (s.reg x.a) (s.reg x.b) (s.reg x.c) _ _ w h.hm h.free h.mem_cell h.rows.lim.2.1 (h.reg x.a ha) (by omega) (h.reg x.b hb) (by omega) hk k0 k1 (h.mem_read k0 k1) h.rows.blocks.2.1 (h.rows.mem_free _) h.ne h.ne').mono fun e w' hd => did (Next.mem h _ (by omega) _) (by simp [memW, World.setCell]) hd
  · rw [if_neg hat]
    exact (store_no L.m s.mem.length L.mc x.a x.b x.c (some ⟨L.mb, 0, none⟩) x.o x.i (s.reg x.a) (s.reg x.b) (s.reg x.c) _ w h.hm h.free h.mem_cell h.rows.lim.2.1 (h.reg x.a ha) (by omega) (h.reg x.b hb) (by omega) hk (at_no' hat)).mono fun e w' hd => died rfl hd
theorem op_jump  : Calls Try.prog 39 (opArgs L x) w (OpEnd w L s (s.jump x.i)) := by
  exact (jump_any L.m x.a x.b x.c x.o x.i (s.reg x.a) (s.reg x.b) (s.reg x.c) s.pc w h.hm h.free h.pc_cell).mono fun e w' hd => did (Next.pc h _) (by simp [pcW, World.setCell]) hd
theorem op_zero (ha : x.a < 16) : Calls Try.prog 40 (opArgs L x) w (OpEnd w L s (if s.reg x.a = 0 then s.jump x.i else s)) := by
  by_cases hz : s.reg x.a = 0
  · rw [if_pos hz]
    exact (zero_yes L.m x.a x.b x.c x.o x.i (s.reg x.a) (s.reg x.b) (s.reg x.c) s.pc w h.hm h.free h.pc_cell (h.reg x.a ha) (by omega) (by simp [hz])).mono fun e w' hd => did (Next.pc h _) (by simp [pcW, World.setCell]) hd
  · rw [if_neg hz]
    exact (zero_no L.m x.a x.b x.c x.o x.i (s.reg x.a) (s.reg x.b) (s.reg x.c) s.pc w h.hm h.free h.pc_cell (h.reg x.a ha) (by omega) (by simp [hz])).mono fun e w' hd => did (Next.refl h) rfl hd
theorem op_some (ha : x.a < 16) : Calls Try.prog 41 (opArgs L x) w (OpEnd w L s (if s.reg x.a = 0 then s else s.jump x.i)) := by
  by_cases hz : s.reg x.a = 0
  · rw [if_pos hz]
    exact (some_no L.m x.a x.b x.c x.o x.i (s.reg x.a) (s.reg x.b) (s.reg x.c) s.pc w h.hm h.free h.pc_cell (h.reg x.a ha) (by omega) (by simp [hz])).mono fun e w' hd => did (Next.refl h) rfl hd
  · rw [if_neg hz]
    exact (some_yes L.m x.a x.b x.c x.o x.i (s.reg x.a) (s.reg x.b) (s.reg x.c) s.pc w h.hm h.free h.pc_cell (h.reg x.a ha) (by omega) (by simp [hz])).mono fun e w' hd => did (Next.pc h _) (by simp [pcW, World.setCell]) hd
theorem Next.enter {k : Int} (k0 : 0 ≤ k) (k1 : k < s.mem.length) : Next w L s (enterW w L.m L.mb k s.pc) L ((s.put k s.pc).set 15 k) := by
  have h1 : Next w L s (memW w L.mb k.toNat s.pc) L (s.put k s.pc) := Next.mem h k.toNat (by omega) s.pc
  exact h1.trans (Next.reg h1.holds 15 (by omega) k)
theorem op_call  : Calls Try.prog 42 (opArgs L x) w (OpEnd w L s (s.call (fun _ => x.i))) := by
  have hk : IntKind.i64.wrap (s.reg 15 - 1) = wrap64 (s.reg 15 - 1) := Num.i64_wrap_eq _
  unfold MS.call
  dsimp only
  by_cases hat : s.at_ (wrap64 (s.reg 15 - 1)) = true
  · rw [if_pos hat]
    obtain ⟨k0, k1⟩ := (at_iff s _).1 hat
    have hn := Next.enter h k0 k1
    exact (call_yes L.m L.mb s.mem.length L.mc x.a x.b x.c x.o x.i (s.reg x.a) (s.reg x.b) (s.reg x.c) (s.reg 15) s.pc _ _ w h.hm h.free h.mem_cell h.rows.lim.2.1 (h.reg 15 (by omega)) h.pc_cell hk k0 k1 (h.mem_read k0 k1) h.rows.blocks.2.1 (h.rows.mem_free _) h.ne h.ne').mono fun e w' hd => did (hn.trans (Next.pc hn.holds _)) (by simp [pcW, enterW, regW, memW, World.setCell]) hd
  · rw [if_neg hat]
    exact (call_no L.m s.mem.length L.mc x.a x.b x.c (some ⟨L.mb, 0, none⟩) x.o x.i (s.reg x.a) (s.reg x.b) (s.reg x.c) (s.reg 15) s.pc _ w h.hm h.free h.mem_cell h.rows.lim.2.1 (h.reg 15 (by omega)) h.pc_cell hk (at_no' hat)).mono fun e w' hd => died rfl hd
theorem op_at (ha : x.a < 16) : Calls Try.prog 43 (opArgs L x) w (OpEnd w L s (s.call (fun t => t.reg x.a))) := by
  have hk : IntKind.i64.wrap (s.reg 15 - 1) = wrap64 (s.reg 15 - 1) := Num.i64_wrap_eq _
  unfold MS.call
  dsimp only
  by_cases hat : s.at_ (wrap64 (s.reg 15 - 1)) = true
  · rw [if_pos hat]
    obtain ⟨k0, k1⟩ := (at_iff s _).1 hat
    have hn := Next.enter h k0 k1
    by_cases e15 : x.a = 15
    · have he : ((s.put (wrap64 (s.reg 15 - 1)) s.pc).set 15 (wrap64 (s.reg 15 - 1))).reg x.a = wrap64 (s.reg 15 - 1) := by rw [e15]; simp [MS.set]
      rw [he]
      exact (at_yes_15 L.m L.mb s.mem.length L.mc x.a x.b x.c x.o x.i (s.reg x.a) (s.reg x.b) (s.reg x.c) (s.reg 15) s.pc _ _ w h.hm h.free h.mem_cell h.rows.lim.2.1 (h.reg 15 (by omega)) h.pc_cell hk k0 k1 (h.mem_read k0 k1) h.rows.blocks.2.1 (h.rows.mem_free _) h.ne h.ne' (by omega)).mono fun e w' hd => did (hn.trans (Next.pc hn.holds _)) (by simp [pcW, enterW, regW, memW, World.setCell]) hd
    · have he : ((s.put (wrap64 (s.reg 15 - 1)) s.pc).set 15 (wrap64 (s.reg 15 - 1))).reg x.a = s.reg x.a := by simp [MS.set, MS.put, e15]
      rw [he]
      exact (at_yes L.m L.mb s.mem.length L.mc x.a x.b x.c x.o x.i (s.reg x.a) (s.reg x.b) (s.reg x.c) (s.reg 15) s.pc _ _ w h.hm h.free h.mem_cell h.rows.lim.2.1 (h.reg 15 (by omega)) h.pc_cell hk k0 k1 (h.mem_read k0 k1) h.rows.blocks.2.1 (h.rows.mem_free _) h.ne h.ne' (h.reg x.a ha) (by omega) e15).mono fun e w' hd => did (hn.trans (Next.pc hn.holds _)) (by simp [pcW, enterW, regW, memW, World.setCell]) hd
  · rw [if_neg hat]
    exact (at_no L.m s.mem.length L.mc x.a x.b x.c (some ⟨L.mb, 0, none⟩) x.o x.i (s.reg x.a) (s.reg x.b) (s.reg x.c) (s.reg 15) s.pc _ w h.hm h.free h.mem_cell h.rows.lim.2.1 (h.reg 15 (by omega)) h.pc_cell hk (at_no' hat)).mono fun e w' hd => died rfl hd
theorem op_ret  : Calls Try.prog 44 (opArgs L x) w (OpEnd w L s (if s.at_ (s.reg 15) = true then { s.set 15 (wrap64 (s.reg 15 + 1)) with pc := rd s.mem (s.reg 15) } else s.fault)) := by
  by_cases hat : s.at_ (s.reg 15) = true
  · rw [if_pos hat]
    obtain ⟨k0, k1⟩ := (at_iff s _).1 hat
    have l2 := h.rows.lim.2.1
    rw [in64 (n := s.reg 15 + 1) (by omega) (by omega)]
    have hn := Next.pc h (rd s.mem (s.reg 15))
    exact (ret_yes L.m L.mb s.mem.length L.mc x.a x.b x.c x.o x.i (s.reg x.a) (s.reg x.b) (s.reg x.c) (s.reg 15) s.pc _ w h.hm h.free h.mem_cell h.rows.lim.2.1 (h.reg 15 (by omega)) h.pc_cell k0 k1 (h.mem_read k0 k1) h.rows.blocks.2.1).mono fun e w' hd => did (hn.trans (Next.reg hn.holds 15 (by omega) _)) (by simp [pcW, regW, World.setCell]) hd
  · rw [if_neg hat]
    exact (ret_no L.m s.mem.length L.mc x.a x.b x.c (some ⟨L.mb, 0, none⟩) x.o x.i (s.reg x.a) (s.reg x.b) (s.reg x.c) (s.reg 15) s.pc w h.hm h.free h.mem_cell h.rows.lim.2.1 (h.reg 15 (by omega)) h.pc_cell (at_no' hat)).mono fun e w' hd => died rfl hd
theorem op_read (ha : x.a < 16) : Calls Try.prog 45 (opArgs L x) w (OpEnd w L s (match s.inp with | [] => s.set x.a (-1) | b :: r => { s.set x.a b with inp := r })) := by
  have h19 := h.cells 19 (by omega)
  have h19 : w.cell? ⟨L.m, 19, none⟩ = some (.slice L.inA s.inp.length L.inc) := h19
  have hl := h.rows.lim
  have hi := h.rows.in_at
  cases hs : s.inp with
  | nil =>
    rw [hs] at h19
    exact (read_no L.m x.a x.b x.c x.o x.i (s.reg x.a) (s.reg x.b) (s.reg x.c) L.inA L.inc w h.hm h.free (h.reg x.a ha) (by omega) h19).mono fun e w' hd => did (Next.reg h x.a ha _) (by simp [regW, World.setCell]) hd
  | cons b r =>
    rw [hs] at h19 hi hl
    dsimp only
    rcases hi with h0 | ⟨ib, off, hA, h2, h3, h4, h5, h6⟩
    · cases h0
    rw [hA] at h19
    obtain ⟨l1, l2, l3, l4, l5⟩ := hl
    have hb := l5 b (by simp)
    have hx : w.cell? ⟨ib, off, none⟩ = some (.int .u8 b) := h6 0 (by simp)
    have n1 := Next.reg h x.a ha (-1)
    have n2 := Next.reg n1.holds x.a ha b
    have e2 : (s.set x.a (-1)).set x.a b = s.set x.a b := by
      unfold MS.set
      dsimp only
      congr 1
      funext j
      split <;> rfl
    rw [e2] at n2
    have n12 := n1.trans n2
    by_cases hc1 : L.inc = 1
    · have hr : r = [] := by
        cases r with
        | nil => rfl
        | cons _ _ => simp at l3; omega
      subst hr
      rw [hc1] at h19
      have n3 := Next.input n12.holds b [] hs ib off hA (some ⟨ib, off, none⟩) 0 (.inl rfl) ⟨by simp, by omega⟩
      exact (read_last L.m x.a x.b x.c x.o x.i (s.reg x.a) (s.reg x.b) (s.reg x.c) ib off 0 0 b w h.hm h.free (h.reg x.a ha) (by omega) h19 hx hb.1 hb.2 h2 (fun e => h3 e.symm)).mono fun e w' hd => did (n12.trans n3) (by simp [regW, inW, World.setCell]) hd
    · simp only [List.length_cons] at h19 l3
      have n3 := Next.input n12.holds b r hs ib off hA (some ⟨ib, off + 1, none⟩) (L.inc - 1) (.inr rfl) ⟨by omega, by omega⟩
      exact (read_yes L.m x.a x.b x.c x.o x.i (s.reg x.a) (s.reg x.b) (s.reg x.c) ib off r.length L.inc b w h.hm h.free (h.reg x.a ha) (by omega) h19 l3 hc1 l4 hx hb.1 hb.2 h2 (fun e => h3 e.symm)).mono fun e w' hd => did (n12.trans n3) (by simp [regW, inW, World.setCell]) hd
theorem op_write (ha : x.a < 16) : Calls Try.prog 46 (opArgs L x) w (OpEnd w L s (if s.out.length < 4096 then { s with out := s.out ++ [s.reg x.a % 256] } else s)) := by
  have h20 : w.cell? ⟨L.m, 20, none⟩ = some L.out := h.cells 20 (by omega)
  have ho := h.rows.out_at
  have hsh : ∃ A cc, L.out = .slice A s.out.length cc := by
    rcases ho.2 with ⟨e1, e2⟩ | ⟨g, cap, cur, e1, _⟩
    · exact ⟨none, 0, by rw [e1, e2]⟩
    · exact ⟨_, cap, e1⟩
  obtain ⟨A, cc, hv⟩ := hsh
  rw [hv] at h20
  by_cases hn : s.out.length < 4096
  · rw [if_pos hn]
    have hom := h.rows.out_apart.1
    rw [hv] at ho hom
    refine (write_yes L.m x.a x.b x.c x.o x.i (s.reg x.a) (s.reg x.b) (s.reg x.c) A s.out.length cc s.out w h.hm h.free (h.reg x.a ha) (by omega) h20 (by omega) ho (fun e => hom e.symm)).mono ?_
    rintro e w' ⟨he, v', w1, hap, hb⟩
    rw [← hv] at hap
    have hnx := Next.output h _ v' hap
    exact .inl ⟨he, _, hnx.below (by have hz : (outW w1 L.m v').heap.size = w1.heap.size := (by simp [outW, World.setCell]); rw [hz]; exact hb)⟩
  · rw [if_neg hn]
    exact (write_full L.m x.a x.b x.c x.o x.i (s.reg x.a) (s.reg x.b) (s.reg x.c) A s.out.length cc w h.hm h.free h20 (by omega)).mono fun e w' hd => did (Next.refl h) rfl hd
theorem op_room (ha : x.a < 16) : Calls Try.prog 47 (opArgs L x) w (OpEnd w L s (s.set x.a s.mem.length)) := by
  exact (room_any L.m s.mem.length L.mc x.a x.b x.c (some ⟨L.mb, 0, none⟩) x.o x.i (s.reg x.a) (s.reg x.b) (s.reg x.c) w h.hm h.free h.mem_cell h.rows.lim.2.1 (h.reg x.a ha) (by omega)).mono fun e w' hd => did (Next.reg h x.a ha _) (by simp [regW, World.setCell]) hd
theorem op_words (ha : x.a < 16) (hb : x.b < 16) (hc : x.c < 16) (ho : 16 ≤ x.o ∧ x.o < 64) (hu : 40 ≤ x.o → (un2 (x.o - 40) (s.reg x.b)).2 = 0) : Calls Try.prog 51 (opArgs L x) w (OpEnd w L s (let r := if x.o < 40 then bin2 (x.o - 16) (s.reg x.b) (s.reg x.c) else un2 (x.o - 40) (s.reg x.b); if r.2 = 0 then s.set x.a r.1 else s.ends 2 r.2)) := by
  show Calls Try.prog 51 (opArgs L x) w (OpEnd w L s (if (if x.o < 40 then bin2 (x.o - 16) (s.reg x.b) (s.reg x.c) else un2 (x.o - 40) (s.reg x.b)).2 = 0 then s.set x.a (if x.o < 40 then bin2 (x.o - 16) (s.reg x.b) (s.reg x.c) else un2 (x.o - 40) (s.reg x.b)).1 else s.ends 2 (if x.o < 40 then bin2 (x.o - 16) (s.reg x.b) (s.reg x.c) else un2 (x.o - 40) (s.reg x.b)).2))
  by_cases h40 : x.o < 40
  · rw [if_pos h40]
    generalize hr : bin2 (x.o - 16) (s.reg x.b) (s.reg x.c) = r
    obtain ⟨v, u⟩ := r
    dsimp only
    by_cases h0 : u = 0
    · subst h0
      rw [if_pos rfl]
      exact (words_bin L.m x.a x.b x.c x.o x.i (s.reg x.a) (s.reg x.b) (s.reg x.c) v w h.hm h.free (by omega) (by omega) hr (h.reg x.a ha) (by omega) (h.reg x.b hb) (by omega) (h.reg x.c hc) (by omega)).mono fun e w' hd => did (Next.reg h x.a ha _) (by simp [regW, World.setCell]) hd
    · rw [if_neg h0]
      exact (words_bin_panic L.m x.a x.b x.c x.o x.i (s.reg x.a) (s.reg x.b) (s.reg x.c) v u _ _ w h.hm h.free (by omega) (by omega) hr h0 (h.reg x.b hb) (by omega) (h.reg x.c hc) (by omega) h.kind_cell h.panics_cell).mono fun e w' hd => did (Next.ends h 2 u) (by simp [endsW, World.setCell]) hd
  · rw [if_neg h40]
    have h0 := hu (by omega)
    generalize hr : un2 (x.o - 40) (s.reg x.b) = r at h0
    obtain ⟨v, u⟩ := r
    dsimp only at h0 ⊢
    subst h0
    rw [if_pos rfl]
    exact (words_un L.m x.a x.b x.c x.o x.i (s.reg x.a) (s.reg x.b) v w h.hm h.free ⟨by omega, by omega⟩ (by omega) hr (h.reg x.a ha) (by omega) (h.reg x.b hb) (by omega)).mono fun e w' hd => did (Next.reg h x.a ha _) (by simp [regW, World.setCell]) hd
end
end Go.Proofs.Ytbchiolgbhckhaa.Mach

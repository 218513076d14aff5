/- A machine that lies in memory: what its cells and rows hold, told by a plain state; and what a call may turn. -/
import Derived.Test.YtbchiolgbhckhaaWords
set_option linter.unusedVariables false
set_option linter.unusedSimpArgs false
namespace Go.Proofs.Ytbchiolgbhckhaa.Mach
open Go.RowKit Go.Proofs.YtbchiolgbhckhaaW.PrintWords Go.Proofs.YtbchiolgbhckhaaW.PrintMore Go.Proofs.Ytbchiolgbhckhaa.PMachRuns

/-- Where a machine lies: its own block, memory, code, operations, what is left of its input, its output. -/
structure Lay where
  m : Nat
  mb : Nat
  mc : Nat
  cb : Nat
  cc : Nat
  ob : Nat
  oc : Nat
  inA : Option Addr
  inc : Nat
  out : Value
/-- The blocks that a machine leans on. -/
def Lay.foot (L : Lay) (inp : List Int) (b : Nat) : Prop :=
  b = L.m ∨ b = L.mb ∨ b = L.cb ∨ b = L.ob ∨ L.out.ownBlock = some b ∨ (inp ≠ [] ∧ ∃ off, L.inA = some ⟨b, off, none⟩)
/-- The cells of a machine's own block. -/
def mcell (L : Lay) (s : MS) (j : Nat) : Value :=
  if j = 0 then .slice (some ⟨L.cb, 0, none⟩) s.code.length L.cc
  else if j = 1 then .slice (some ⟨L.mb, 0, none⟩) s.mem.length L.mc
  else if j < 18 then .int .i64 (s.reg (j - 2))
  else if j = 18 then .int .i64 s.pc
  else if j = 19 then .slice L.inA s.inp.length L.inc
  else if j = 20 then L.out
  else if j = 21 then .int .i64 s.kind
  else if j = 22 then .int .i64 s.panics
  else if j = 23 then .int .i64 s.steps
  else .slice (some ⟨L.ob, 0, none⟩) 16 L.oc
/-- A method's value. -/
def opV (m k : Nat) : Value := .func (.func (32 + k)) #[.pointer (some ⟨m, 0, none⟩)] #[]
/-- What a machine's rows hold. -/
structure Rows (w : World) (L : Lay) (code mem inp out : List Int) : Prop where
  code_at : ∀ k, k < code.length → w.cell? ⟨L.cb, k, none⟩ = some (.int .i64 (code.getD k 0))
  mem_at : ∀ k, k < mem.length → w.cell? ⟨L.mb, k, none⟩ = some (.int .i64 (mem.getD k 0))
  mem_free : ∀ o, w.frozen? ⟨L.mb, o, none⟩ = false
  ops_at : ∀ k, k < 16 → w.cell? ⟨L.ob, k, none⟩ = some (opV L.m k)
  in_at : inp = [] ∨ ∃ ib off, L.inA = some ⟨ib, off, none⟩ ∧ ib < w.heap.size ∧ ib ≠ L.m ∧ ib ≠ L.mb ∧ L.out.ownBlock ≠ some ib ∧ ∀ j, j < inp.length → w.cell? ⟨ib, off + j, none⟩ = some (.int .u8 (inp.getD j 0))
  out_at : w.ownsRow 0 5 1 L.out out.length (nums .u8 out)
  blocks : L.m < w.heap.size ∧ L.mb < w.heap.size ∧ L.cb < w.heap.size ∧ L.ob < w.heap.size
  apart : L.m ≠ L.mb ∧ L.m ≠ L.cb ∧ L.m ≠ L.ob ∧ L.mb ≠ L.cb ∧ L.mb ≠ L.ob
  out_apart : L.out.ownBlock ≠ some L.m ∧ L.out.ownBlock ≠ some L.mb ∧ L.out.ownBlock ≠ some L.cb ∧ L.out.ownBlock ≠ some L.ob
  code_in : ∀ k, -9223372036854775808 ≤ code.getD k 0 ∧ code.getD k 0 ≤ 9223372036854775807
  lim : code.length ≤ 65536 ∧ mem.length ≤ 262144 ∧ inp.length ≤ L.inc ∧ L.inc ≤ 9223372036854775807 ∧ ∀ v ∈ inp, 0 ≤ v ∧ v ≤ 255
/-- A machine that lies in memory. -/
structure Holds (w : World) (L : Lay) (s : MS) : Prop where
  free : ∀ o, w.frozen? ⟨L.m, o, none⟩ = false
  cells : ∀ j, j < 25 → w.cell? ⟨L.m, j, none⟩ = some (mcell L s j)
  rows : Rows w L s.code s.mem s.inp s.out
/-- Nothing has turned but, of the blocks that were there, those that may. -/
structure Far (may : Nat → Prop) (w w' : World) : Prop where
  os : w'.os = w.os
  tape : w'.tape = w.tape
  output : w'.output = w.output
  size : w.heap.size ≤ w'.heap.size
  block : ∀ k, k < w.heap.size → ¬ may k → w'.heap[k]? = w.heap[k]?
theorem Far.refl (may : Nat → Prop) (w : World) : Far may w w := ⟨rfl, rfl, rfl, Nat.le_refl _, fun _ _ _ => rfl⟩
theorem Far.trans {may may' : Nat → Prop} {a b c : World} (h : Far may a b) (k : Far may' b c) (hm : ∀ i, i < a.heap.size → may' i → may i) : Far may a c :=
  ⟨k.os.trans h.os, k.tape.trans h.tape, k.output.trans h.output, Nat.le_trans h.size k.size, fun i hi hn => (k.block i (Nat.lt_of_lt_of_le hi h.size) (fun h' => hn (hm i hi h'))).trans (h.block i hi hn)⟩
theorem Far.of_below {may : Nat → Prop} {w w' : World} (h : Below w.heap.size w w') : Far may w w' := ⟨h.os, h.tape, h.output, h.size, fun k hk _ => h.block k hk⟩
theorem Far.set {may : Nat → Prop} (w : World) (a : Addr) (v : Value) (h : may a.block) : Far may w (w.setCell a v) :=
  ⟨rfl, rfl, rfl, by simp [World.setCell], fun k _ hn => Below.heap_setCell _ _ _ _ (fun e => hn (e ▸ h))⟩
theorem Far.below {may : Nat → Prop} {B : Nat} {w w' : World} (h : Far may w w') (hB : B ≤ w.heap.size) (hm : ∀ k, may k → B ≤ k) : Below B w w' :=
  ⟨h.os, h.tape, h.output, h.size, fun k hk => h.block k (by omega) (fun h' => by have := hm k h'; omega)⟩

theorem Rows.lt {w : World} {L : Lay} {c m i o : List Int} (h : Rows w L c m i o) {b : Nat} (hb : L.foot i b) : b < w.heap.size := by
  obtain ⟨b1, b2, b3, b4⟩ := h.blocks
  rcases hb with rfl | rfl | rfl | rfl | hb | ⟨hi, off, hb⟩
  · exact b1
  · exact b2
  · exact b3
  · exact b4
  · exact (h.out_at.lt _ hb).2
  · rcases h.in_at with h0 | ⟨ib, off', h1, h2, _⟩
    · exact absurd h0 hi
    · rw [h1] at hb; cases hb; exact h2
theorem ownsRow_frame {w w' : World} {base size n : Nat} {e : TypeId} {v : Value} {xs : List Value} (h : w.ownsRow base e size v n xs) (hb : ∀ k, v.ownBlock = some k → w'.heap[k]? = w.heap[k]?) : w'.ownsRow base e size v n xs := by
  obtain ⟨h1, h2⟩ := h
  refine ⟨h1, h2.imp id ?_⟩
  rintro ⟨g, cap, cur, rfl, h3, h4, h5⟩
  exact ⟨g, cap, cur, rfl, h3, (hb g rfl).trans h4, h5⟩
theorem Rows.frame {w w' : World} {L : Lay} {c m i o : List Int} (h : Rows w L c m i o) (hs : w.heap.size ≤ w'.heap.size) (hb : ∀ b, b ≠ L.m → L.foot i b → w'.heap[b]? = w.heap[b]?) : Rows w' L c m i o := by
  obtain ⟨b1, b2, b3, b4⟩ := h.blocks
  obtain ⟨a1, a2, a3, a4, a5⟩ := h.apart
  have kc := hb L.cb (Ne.symm a2) (by simp [Lay.foot])
  have km := hb L.mb (Ne.symm a1) (by simp [Lay.foot])
  have ko := hb L.ob (Ne.symm a3) (by simp [Lay.foot])
  refine ⟨fun k hk => (World.cell?_of_block kc).trans (h.code_at k hk), fun k hk => (World.cell?_of_block km).trans (h.mem_at k hk), fun k => (World.frozen?_of_block km).trans (h.mem_free k),
    fun k hk => (World.cell?_of_block ko).trans (h.ops_at k hk), ?_, ownsRow_frame h.out_at (fun k hk => hb k (fun e => h.out_apart.1 (e ▸ hk)) (by simp [Lay.foot, hk])), ⟨by omega, by omega, by omega, by omega⟩, h.apart, h.out_apart, h.code_in, h.lim⟩
  rcases h.in_at with h0 | ⟨ib, off, h1, h2, h3, h4, h5, h6⟩
  · exact .inl h0
  · by_cases h0 : i = []
    · exact .inl h0
    · refine .inr ⟨ib, off, h1, by omega, h3, h4, h5, fun j hj => (World.cell?_of_block (hb ib h3 ?_)).trans (h6 j hj)⟩
      simp [Lay.foot, h0, h1]
theorem Holds.frame {w w' : World} {L : Lay} {s : MS} (h : Holds w L s) (hs : w.heap.size ≤ w'.heap.size) (hb : ∀ b, L.foot s.inp b → w'.heap[b]? = w.heap[b]?) : Holds w' L s := by
  have km := hb L.m (by simp [Lay.foot])
  exact ⟨fun o => (World.frozen?_of_block km).trans (h.free o), fun j hj => (World.cell?_of_block km).trans (h.cells j hj), h.rows.frame hs fun b _ hb' => hb b hb'⟩
theorem Holds.far {may : Nat → Prop} {w w' : World} {L : Lay} {s : MS} (h : Holds w L s) (hf : Far may w w') (hn : ∀ b, L.foot s.inp b → ¬ may b) : Holds w' L s :=
  h.frame hf.size fun b hb => hf.block b (h.rows.lt hb) (hn b hb)
theorem Holds.below {w w' : World} {L : Lay} {s : MS} (h : Holds w L s) (hb : Below w.heap.size w w') : Holds w' L s :=
  h.frame hb.size fun b hb' => hb.block b (h.rows.lt hb')
/-- A store into a cell of the machine's own. -/
theorem Holds.set {w : World} {L : Lay} {s s' : MS} (h : Holds w L s) (j : Nat) (v : Value) (hj : j < 25) (hv : ∀ j', j' < 25 → mcell L s' j' = if j' = j then v else mcell L s j')
    (e1 : s'.code = s.code) (e2 : s'.mem = s.mem) (e3 : s'.inp = s.inp) (e4 : s'.out = s.out) : Holds (w.setCell ⟨L.m, j, none⟩ v) L s' := by
  refine ⟨fun o => ?_, fun j' hj' => ?_, ?_⟩
  · rw [World.frozen?_setCell]; exact h.free o
  · rw [hv j' hj']
    split
    · subst_vars; exact World.cell?_setCell_same _ _ _ (h.cells _ hj)
    · rename_i hne
      rw [World.cell?_setCell_other _ _ _ _ (fun e => hne (by injection e with _ e _; exact e.symm))]
      exact h.cells j' hj'
  · rw [e1, e2, e3, e4]
    exact h.rows.frame (by simp [World.setCell]) fun b hb _ => Below.heap_setCell _ _ _ _ hb

/-- A state that lies in memory, and one that comes of it. -/
structure Next (w : World) (L : Lay) (s : MS) (w' : World) (L' : Lay) (s' : MS) : Prop where
  holds : Holds w' L' s'
  same : L'.m = L.m
  far : Far (L.foot s.inp) w w'
  near : ∀ b, L'.foot s'.inp b → L.foot s.inp b ∨ w.heap.size ≤ b
theorem Next.refl {w : World} {L : Lay} {s : MS} (h : Holds w L s) : Next w L s w L s := ⟨h, rfl, Far.refl _ _, fun _ => .inl⟩
theorem Next.trans {w w1 w2 : World} {L L1 L2 : Lay} {s s1 s2 : MS} (h : Next w L s w1 L1 s1) (k : Next w1 L1 s1 w2 L2 s2) : Next w L s w2 L2 s2 :=
  ⟨k.holds, k.same.trans h.same, h.far.trans k.far fun i hi hb => (h.near i hb).resolve_right (by omega), fun b hb => (k.near b hb).elim (fun h' => h.near b h') (fun h' => .inr (Nat.le_trans h.far.size h'))⟩
theorem Next.below {w W w' : World} {L L' : Lay} {s s' : MS} (h : Next w L s W L' s') (hb : Below W.heap.size W w') : Next w L s w' L' s' :=
  ⟨h.holds.below hb, h.same, h.far.trans (Far.of_below (may := fun _ => False) hb) (fun _ _ => False.elim), h.near⟩
theorem Next.set {w : World} {L : Lay} {s s' : MS} (h : Holds w L s) (j : Nat) (v : Value) (hj : j < 25) (hv : ∀ j', j' < 25 → mcell L s' j' = if j' = j then v else mcell L s j')
    (e1 : s'.code = s.code) (e2 : s'.mem = s.mem) (e3 : s'.inp = s.inp) (e4 : s'.out = s.out) : Next w L s (w.setCell ⟨L.m, j, none⟩ v) L s' :=
  ⟨h.set j v hj hv e1 e2 e3 e4, rfl, Far.set w _ v (by simp [Lay.foot]), fun b hb => .inl (e3 ▸ hb)⟩
theorem mcell_reg (L : Lay) (s : MS) (a : Nat) (ha : a < 16) : mcell L s (2 + a) = .int .i64 (s.reg a) := by
  unfold mcell
  rw [if_neg (by omega), if_neg (by omega), if_pos (by omega), show 2 + a - 2 = a by omega]
theorem Holds.reg {w : World} {L : Lay} {s : MS} (h : Holds w L s) (a : Nat) (ha : a < 16) : w.cell? ⟨L.m, 2 + a, none⟩ = some (.int .i64 (s.reg a)) :=
  (h.cells (2 + a) (by omega)).trans (congrArg some (mcell_reg L s a ha))
theorem Next.reg {w : World} {L : Lay} {s : MS} (h : Holds w L s) (a : Nat) (ha : a < 16) (v : Int) : Next w L s (regW w L.m a v) L (s.set a v) := by
  refine Next.set h (2 + a) _ (by omega) (fun j hj => ?_) rfl rfl rfl rfl
  by_cases e : j = 2 + a
  · subst e; rw [if_pos rfl, mcell_reg L _ a ha]; simp [MS.set]
  · rw [if_neg e]
    unfold mcell MS.set
    dsimp only
    rw [show (if j - 2 = a then v else s.reg (j - 2)) = if j - 2 = a then v else s.reg (j - 2) from rfl]
    by_cases e0 : j = 0
    · rw [if_pos e0, if_pos e0]
    by_cases e1 : j = 1
    · rw [if_neg e0, if_neg e0, if_pos e1, if_pos e1]
    rw [if_neg e0, if_neg e0, if_neg e1, if_neg e1, if_neg (show ¬ j - 2 = a by omega)]
theorem Next.pc {w : World} {L : Lay} {s : MS} (h : Holds w L s) (v : Int) : Next w L s (pcW w L.m v) L { s with pc := v } := by
  refine Next.set h 18 _ (by omega) (fun j hj => ?_) rfl rfl rfl rfl
  by_cases e : j = 18
  · subst e; rfl
  · rw [if_neg e]
    unfold mcell
    dsimp only
    rw [if_neg e, if_neg e]
theorem Next.stepd {w : World} {L : Lay} {s : MS} (h : Holds w L s) (v : Int) : Next w L s (w.setCell ⟨L.m, 23, none⟩ (.int .i64 v)) L { s with steps := v } := by
  refine Next.set h 23 _ (by omega) (fun j hj => ?_) rfl rfl rfl rfl
  by_cases e : j = 23
  · subst e; rfl
  · rw [if_neg e]
    unfold mcell
    dsimp only
    rw [if_neg e, if_neg e]
theorem Next.ends {w : World} {L : Lay} {s : MS} (h : Holds w L s) (k c : Int) : Next w L s (endsW w L.m k c) L (s.ends k c) := by
  have h1 : Next w L s (w.setCell ⟨L.m, 21, none⟩ (.int .i64 k)) L { s with kind := k } := by
    refine Next.set h 21 _ (by omega) (fun j hj => ?_) rfl rfl rfl rfl
    by_cases e : j = 21
    · subst e; rfl
    · rw [if_neg e]
      unfold mcell
      dsimp only
      rw [if_neg e, if_neg e]
  refine h1.trans (Next.set h1.holds 22 _ (by omega) (fun j hj => ?_) rfl rfl rfl rfl)
  by_cases e : j = 22
  · subst e; rfl
  · rw [if_neg e]
    unfold mcell MS.ends
    dsimp only
    rw [if_neg e, if_neg e]
theorem getD_set_int (xs : List Int) (k j : Nat) (v : Int) (hk : k < xs.length) : (xs.set k v).getD j 0 = if j = k then v else xs.getD j 0 := by
  simp only [List.getD_eq_getElem?_getD, List.getElem?_set]
  by_cases e : j = k
  · subst e; simp [hk]
  · rw [if_neg (fun h => e h.symm), if_neg e]
theorem Next.mem {w : World} {L : Lay} {s : MS} (h : Holds w L s) (k : Nat) (hk : k < s.mem.length) (v : Int) : Next w L s (memW w L.mb k v) L { s with mem := s.mem.set k v } := by
  have hr := h.rows
  obtain ⟨a1, a2, a3, a4, a5⟩ := hr.apart
  obtain ⟨o1, o2, o3, o4⟩ := hr.out_apart
  have hne : ∀ b, b ≠ L.mb → (memW w L.mb k v).heap[b]? = w.heap[b]? := fun b hb => Below.heap_setCell _ _ _ _ hb
  have hsz : (memW w L.mb k v).heap.size = w.heap.size := by simp [memW, World.setCell]
  refine ⟨⟨fun o => (World.frozen?_of_block (hne L.m a1)).trans (h.free o), fun j hj => (World.cell?_of_block (hne L.m a1)).trans ((h.cells j hj).trans ?_),
    ⟨fun j hj => (World.cell?_of_block (hne L.cb (Ne.symm a4))).trans (hr.code_at j hj), fun j hj => ?_, fun o => ?_, fun j hj => (World.cell?_of_block (hne L.ob (Ne.symm a5))).trans (hr.ops_at j hj),
      ?_, ownsRow_frame hr.out_at (fun j hj => hne j (fun e => o2 (e ▸ hj))), by rw [hsz]; exact hr.blocks, hr.apart, hr.out_apart, hr.code_in, ?_⟩⟩, rfl, Far.set w _ _ (by simp [Lay.foot]), fun b hb => .inl hb⟩
  · unfold mcell; simp
  · rw [getD_set_int _ _ _ _ hk]
    simp only [List.length_set] at hj
    by_cases e : j = k
    · subst e; rw [if_pos rfl]; exact World.cell?_setCell_same _ _ _ (hr.mem_at j hj)
    · rw [if_neg e]
      exact (World.cell?_setCell_other _ _ _ _ (fun e' => e (by injection e' with _ e' _; exact e'.symm))).trans (hr.mem_at j hj)
  · unfold memW; rw [World.frozen?_setCell]; exact hr.mem_free o
  · refine hr.in_at.imp id ?_
    rintro ⟨ib, off, h1, h2, h3, h4, h5, h6⟩
    exact ⟨ib, off, h1, by rw [hsz]; exact h2, h3, h4, h5, fun j hj => (World.cell?_of_block (hne ib h4)).trans (h6 j hj)⟩
  · obtain ⟨l1, l2, l3⟩ := hr.lim
    exact ⟨l1, by simpa using l2, l3⟩
theorem Next.input {w : World} {L : Lay} {s : MS} (h : Holds w L s) (x : Int) (r : List Int) (he : s.inp = x :: r) (ib off : Nat) (hA : L.inA = some ⟨ib, off, none⟩) (A' : Option Addr) (c' : Nat)
    (hin : r = [] ∨ A' = some ⟨ib, off + 1, none⟩) (hc : r.length ≤ c' ∧ c' ≤ 9223372036854775807) : Next w L s (inW w L.m (.slice A' r.length c')) { L with inA := A', inc := c' } { s with inp := r } := by
  have hr := h.rows
  have hf : ∀ b, b ≠ L.m → (inW w L.m (.slice A' r.length c')).heap[b]? = w.heap[b]? := fun b hb => Below.heap_setCell _ _ _ _ hb
  have hsz : (inW w L.m (.slice A' r.length c')).heap.size = w.heap.size := by simp [inW, World.setCell]
  obtain ⟨a1, a2, a3, a4, a5⟩ := hr.apart
  obtain ⟨l1, l2, l3, l4, l5⟩ := hr.lim
  rw [he] at l5
  have key : r = [] ∨ ∃ ib off, A' = some ⟨ib, off, none⟩ ∧ ib < (inW w L.m (.slice A' r.length c')).heap.size ∧ ib ≠ L.m ∧ ib ≠ L.mb ∧ L.out.ownBlock ≠ some ib ∧ ∀ j, j < r.length → (inW w L.m (.slice A' r.length c')).cell? ⟨ib, off + j, none⟩ = some (.int .u8 (r.getD j 0)) := by
    refine hin.imp id fun hA' => ?_
    rcases hr.in_at with h0 | ⟨ib', off', h1, h2, h3, h4, h5, h6⟩
    · rw [he] at h0; cases h0
    · rw [hA] at h1; cases h1
      refine ⟨ib, off + 1, hA', by rw [hsz]; exact h2, h3, h4, h5, fun j hj => (World.cell?_of_block (hf ib h3)).trans ?_⟩
      have := h6 (j + 1) (by rw [he]; simpa using hj)
      rw [he] at this
      simpa [Nat.add_assoc, Nat.add_comm 1 j] using this
  refine ⟨⟨fun o => ?_, fun j hj => ?_, ?_⟩, rfl, Far.set w _ _ (by simp [Lay.foot]), fun b hb => .inl ?_⟩
  · unfold inW; rw [World.frozen?_setCell]; exact h.free o
  · by_cases e : j = 19
    · subst e; exact World.cell?_setCell_same _ _ _ (h.cells 19 hj)
    · refine (World.cell?_setCell_other _ _ _ _ (fun e' => e (by injection e' with _ e' _; exact e'.symm))).trans ((h.cells j hj).trans ?_)
      unfold mcell
      dsimp only
      rw [if_neg e, if_neg e]
  · have h2 := hr.frame (w' := inW w L.m (.slice A' r.length c')) (Nat.le_of_eq hsz.symm) fun b hb _ => hf b hb
    exact ⟨h2.code_at, h2.mem_at, h2.mem_free, h2.ops_at, key, h2.out_at, h2.blocks, h2.apart, h2.out_apart, h2.code_in, l1, l2, hc.1, hc.2, fun v hv => l5 v (List.mem_cons_of_mem _ hv)⟩
  · rcases hb with hb | hb | hb | hb | hb | ⟨hb1, o', hb2⟩
    · exact .inl hb
    · exact .inr (.inl hb)
    · exact .inr (.inr (.inl hb))
    · exact .inr (.inr (.inr (.inl hb)))
    · exact .inr (.inr (.inr (.inr (.inl hb))))
    · refine .inr (.inr (.inr (.inr (.inr ⟨by rw [he]; simp, off, ?_⟩))))
      rcases hin with h0 | hA'
      · exact absurd h0 hb1
      · dsimp only at hb2
        rw [hA'] at hb2; cases hb2; exact hA
theorem Next.output {w w1 : World} {L : Lay} {s : MS} (h : Holds w L s) (v : Int) (v' : Value) (ha : Appended w 0 5 1 L.out (s.out.length + 1) (nums .u8 (s.out ++ [v])) v' w1) :
    Next w L s (outW w1 L.m v') { L with out := v' } { s with out := s.out ++ [v] } := by
  obtain ⟨ho, hg, hn⟩ := ha
  have hr := h.rows
  obtain ⟨a1, a2, a3, a4, a5⟩ := hr.apart
  obtain ⟨o1, o2, o3, o4⟩ := hr.out_apart
  obtain ⟨b1, b2, b3, b4⟩ := hr.blocks
  have hsz : (outW w1 L.m v').heap.size = w1.heap.size := by simp [outW, World.setCell]
  have hgs := hg.size
  have hf : ∀ b, b ≠ L.m → b < w.heap.size → L.out.ownBlock ≠ some b → (outW w1 L.m v').heap[b]? = w.heap[b]? := fun b hb hl ho => (Below.heap_setCell _ _ _ _ hb).trans (hg.block b hl (fun e => ho e.symm))
  have hne : ∀ b, b < w.heap.size → L.out.ownBlock ≠ some b → v'.ownBlock ≠ some b := fun b hb hn' he => (hn b he).elim hn' (fun h => by omega)
  have hm : ∀ o, w1.cell? ⟨L.m, o, none⟩ = w.cell? ⟨L.m, o, none⟩ := fun o => World.cell?_of_block (hg.block L.m b1 (fun e => o1 e.symm))
  refine ⟨⟨fun o => ?_, fun j hj => ?_, ⟨fun k hk => (World.cell?_of_block (hf L.cb (Ne.symm a2) b3 o3)).trans (hr.code_at k hk), fun k hk => (World.cell?_of_block (hf L.mb (Ne.symm a1) b2 o2)).trans (hr.mem_at k hk),
    fun o => (World.frozen?_of_block (hf L.mb (Ne.symm a1) b2 o2)).trans (hr.mem_free o), fun k hk => (World.cell?_of_block (hf L.ob (Ne.symm a3) b4 o4)).trans (hr.ops_at k hk), ?_, ?_, ?_, hr.apart, ?_, hr.code_in, hr.lim⟩⟩, rfl, ?_, fun b hb => ?_⟩
  · unfold outW; rw [World.frozen?_setCell]
    exact (World.frozen?_of_block (hg.block L.m b1 (fun e => o1 e.symm))).trans (h.free o)
  · by_cases e : j = 20
    · subst e
      exact World.cell?_setCell_same _ _ _ ((hm 20).trans (h.cells 20 hj))
    · refine (World.cell?_setCell_other _ _ _ _ (fun e' => e (by injection e' with _ e' _; exact e'.symm))).trans (((hm j).trans (h.cells j hj)).trans ?_)
      unfold mcell
      dsimp only
      rw [if_neg e, if_neg e]
  · refine hr.in_at.imp id ?_
    rintro ⟨ib, off, h1, h2, h3, h4, h5, h6⟩
    exact ⟨ib, off, h1, by rw [hsz]; omega, h3, h4, hne ib h2 h5, fun j hj => (World.cell?_of_block (hf ib h3 h2 h5)).trans (h6 j hj)⟩
  · have h1 : (outW w1 L.m v').ownsRow 0 5 1 v' (s.out.length + 1) (nums .u8 (s.out ++ [v])) := ownsRow_frame ho fun k hk => Below.heap_setCell _ _ _ _ (fun e => hne L.m b1 o1 (hk.trans (congrArg some e)))
    simpa using h1
  · rw [hsz]; exact ⟨by dsimp only; omega, by dsimp only; omega, by dsimp only; omega, by dsimp only; omega⟩
  · exact ⟨hne _ b1 o1, hne _ b2 o2, hne _ b3 o3, hne _ b4 o4⟩
  · have hgf : Far (L.foot s.inp) w w1 := ⟨hg.os, hg.tape, hg.output, hg.size, fun k hk hn' => hg.block k hk (fun e => hn' (by simp [Lay.foot, ← e]))⟩
    exact hgf.trans (Far.set (may := L.foot s.inp) w1 ⟨L.m, 20, none⟩ v' (by simp [Lay.foot])) fun _ _ hb => hb
  · rcases hb with hb | hb | hb | hb | hb | hb
    · exact .inl (.inl hb)
    · exact .inl (.inr (.inl hb))
    · exact .inl (.inr (.inr (.inl hb)))
    · exact .inl (.inr (.inr (.inr (.inl hb))))
    · exact (hn b hb).imp (fun h' => .inr (.inr (.inr (.inr (.inl h'))))) id
    · exact .inl (.inr (.inr (.inr (.inr (.inr hb)))))
end Go.Proofs.Ytbchiolgbhckhaa.Mach

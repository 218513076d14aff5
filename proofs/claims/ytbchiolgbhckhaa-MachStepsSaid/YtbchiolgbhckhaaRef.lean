/- The document's machine that lies in memory: what its cells and rows hold, told by the same plain state. -/
import Derived.Test.YtbchiolgbhckhaaA7
set_option linter.unusedVariables false
set_option linter.unusedSimpArgs false
namespace Go.Proofs.Ytbchiolgbhckhaa.Mach
open Go.RowKit Go.Proofs.YtbchiolgbhckhaaW.PrintWords Go.Proofs.YtbchiolgbhckhaaW.PrintMore Go.Proofs.Ytbchiolgbhckhaa.PMachRuns

/-- Where the document's machine lies: its own block, memory, code, the whole input, its output. -/
structure RLay where
  m : Nat
  mb : Nat
  mc : Nat
  cb : Nat
  cc : Nat
  inA : Option Addr
  inc : Nat
  full : List Int
  out : Value
def RLay.foot (L : RLay) (b : Nat) : Prop :=
  b = L.m ∨ b = L.mb ∨ b = L.cb ∨ L.out.ownBlock = some b ∨ (L.full ≠ [] ∧ ∃ off, L.inA = some ⟨b, off, none⟩)
def rcell (L : RLay) (s : MS) (j : Nat) : Value :=
  if j = 0 then .slice (some ⟨L.cb, 0, none⟩) s.code.length L.cc
  else if j = 1 then .slice (some ⟨L.mb, 0, none⟩) s.mem.length L.mc
  else if j < 18 then .int .i64 (s.reg (j - 2))
  else if j = 18 then .int .i64 s.pc
  else if j = 19 then .slice L.inA L.full.length L.inc
  else if j = 20 then .int .i64 ((L.full.length : Int) - s.inp.length)
  else if j = 21 then .int .i64 s.kind
  else if j = 22 then .int .i64 s.panics
  else if j = 23 then L.out
  else .int .i64 s.steps
structure RRows (w : World) (L : RLay) (code mem out : List Int) : Prop where
  code_at : ∀ k, k < code.length → w.cell? ⟨L.cb, k, none⟩ = some (.int .i64 (code.getD k 0))
  mem_at : ∀ k, k < mem.length → w.cell? ⟨L.mb, k, none⟩ = some (.int .i64 (mem.getD k 0))
  mem_free : ∀ o, w.frozen? ⟨L.mb, o, none⟩ = false
  in_at : L.full = [] ∨ ∃ ib off, L.inA = some ⟨ib, off, none⟩ ∧ ib < w.heap.size ∧ ib ≠ L.m ∧ ib ≠ L.mb ∧ L.out.ownBlock ≠ some ib ∧ ∀ j, j < L.full.length → w.cell? ⟨ib, off + j, none⟩ = some (.int .u8 (L.full.getD j 0))
  out_at : w.ownsRow 0 5 1 L.out out.length (nums .u8 out)
  blocks : L.m < w.heap.size ∧ L.mb < w.heap.size ∧ L.cb < w.heap.size
  apart : L.m ≠ L.mb ∧ L.m ≠ L.cb ∧ L.mb ≠ L.cb
  out_apart : L.out.ownBlock ≠ some L.m ∧ L.out.ownBlock ≠ some L.mb ∧ L.out.ownBlock ≠ some L.cb
  code_in : ∀ k, -9223372036854775808 ≤ code.getD k 0 ∧ code.getD k 0 ≤ 9223372036854775807
  lim : code.length ≤ 65536 ∧ mem.length ≤ 262144 ∧ L.full.length ≤ 4096 ∧ ∀ v ∈ L.full, 0 ≤ v ∧ v ≤ 255
structure RHolds (w : World) (L : RLay) (s : MS) : Prop where
  free : ∀ o, w.frozen? ⟨L.m, o, none⟩ = false
  cells : ∀ j, j < 25 → w.cell? ⟨L.m, j, none⟩ = some (rcell L s j)
  rows : RRows w L s.code s.mem s.out
  inp : s.inp.length ≤ L.full.length ∧ s.inp = L.full.drop (L.full.length - s.inp.length)
theorem RRows.lt {w : World} {L : RLay} {c m o : List Int} (h : RRows w L c m o) {b : Nat} (hb : L.foot b) : b < w.heap.size := by
  obtain ⟨b1, b2, b3⟩ := h.blocks
  rcases hb with rfl | rfl | rfl | hb | ⟨hi, off, hb⟩
  · exact b1
  · exact b2
  · exact b3
  · exact (h.out_at.lt _ hb).2
  · rcases h.in_at with h0 | ⟨ib, off', h1, h2, _⟩
    · exact absurd h0 hi
    · rw [h1] at hb; cases hb; exact h2
theorem RRows.frame {w w' : World} {L : RLay} {c m o : List Int} (h : RRows w L c m o) (hs : w.heap.size ≤ w'.heap.size) (hb : ∀ b, b ≠ L.m → L.foot b → w'.heap[b]? = w.heap[b]?) : RRows w' L c m o := by
  obtain ⟨b1, b2, b3⟩ := h.blocks
  obtain ⟨a1, a2, a3⟩ := h.apart
  have kc := hb L.cb (Ne.symm a2) (by simp [RLay.foot])
  have km := hb L.mb (Ne.symm a1) (by simp [RLay.foot])
  refine ⟨fun k hk => (World.cell?_of_block kc).trans (h.code_at k hk), fun k hk => (World.cell?_of_block km).trans (h.mem_at k hk), fun k => (World.frozen?_of_block km).trans (h.mem_free k),
    ?_, ownsRow_frame h.out_at (fun k hk => hb k (fun e => h.out_apart.1 (e ▸ hk)) (by simp [RLay.foot, hk])), ⟨by omega, by omega, by omega⟩, h.apart, h.out_apart, h.code_in, h.lim⟩
  rcases h.in_at with h0 | ⟨ib, off, h1, h2, h3, h4, h5, h6⟩
  · exact .inl h0
  · by_cases h0 : L.full = []
    · exact .inl h0
    · refine .inr ⟨ib, off, h1, by omega, h3, h4, h5, fun j hj => (World.cell?_of_block (hb ib h3 ?_)).trans (h6 j hj)⟩
      simp [RLay.foot, h0, h1]
theorem RHolds.frame {w w' : World} {L : RLay} {s : MS} (h : RHolds w L s) (hs : w.heap.size ≤ w'.heap.size) (hb : ∀ b, L.foot b → w'.heap[b]? = w.heap[b]?) : RHolds w' L s := by
  have km := hb L.m (by simp [RLay.foot])
  exact ⟨fun o => (World.frozen?_of_block km).trans (h.free o), fun j hj => (World.cell?_of_block km).trans (h.cells j hj), h.rows.frame hs fun b _ hb' => hb b hb', h.inp⟩
theorem RHolds.far {may : Nat → Prop} {w w' : World} {L : RLay} {s : MS} (h : RHolds w L s) (hf : Far may w w') (hn : ∀ b, L.foot b → ¬ may b) : RHolds w' L s :=
  h.frame hf.size fun b hb => hf.block b (h.rows.lt hb) (hn b hb)
theorem RHolds.below {w w' : World} {L : RLay} {s : MS} (h : RHolds w L s) (hb : Below w.heap.size w w') : RHolds w' L s :=
  h.frame hb.size fun b hb' => hb.block b (h.rows.lt hb')
theorem RHolds.set {w : World} {L : RLay} {s s' : MS} (h : RHolds w L s) (j : Nat) (v : Value) (hj : j < 25) (hv : ∀ j', j' < 25 → rcell L s' j' = if j' = j then v else rcell L s j')
    (e1 : s'.code = s.code) (e2 : s'.mem = s.mem) (e4 : s'.out = s.out) (hin : s'.inp.length ≤ L.full.length ∧ s'.inp = L.full.drop (L.full.length - s'.inp.length)) : RHolds (w.setCell ⟨L.m, j, none⟩ v) L s' := by
  refine ⟨fun o => ?_, fun j' hj' => ?_, ?_, hin⟩
  · rw [World.frozen?_setCell]; exact h.free o
  · rw [hv j' hj']
    split
    · subst_vars; exact World.cell?_setCell_same _ _ _ (h.cells _ hj)
    · rename_i hne
      rw [World.cell?_setCell_other _ _ _ _ (fun e => hne (by injection e with _ e _; exact e.symm))]
      exact h.cells j' hj'
  · rw [e1, e2, e4]
    exact h.rows.frame (by simp [World.setCell]) fun b hb _ => Below.heap_setCell _ _ _ _ hb
/-- A state that lies in memory, and one that comes of it. -/
structure RNext (w : World) (L : RLay) (s : MS) (w' : World) (L' : RLay) (s' : MS) : Prop where
  holds : RHolds w' L' s'
  same : L'.m = L.m
  far : Far L.foot w w'
  near : ∀ b, L'.foot b → L.foot b ∨ w.heap.size ≤ b
theorem RNext.refl {w : World} {L : RLay} {s : MS} (h : RHolds w L s) : RNext w L s w L s := ⟨h, rfl, Far.refl _ _, fun _ => .inl⟩
theorem RNext.trans {w w1 w2 : World} {L L1 L2 : RLay} {s s1 s2 : MS} (h : RNext w L s w1 L1 s1) (k : RNext w1 L1 s1 w2 L2 s2) : RNext w L s w2 L2 s2 :=
  ⟨k.holds, k.same.trans h.same, h.far.trans k.far fun i hi hb => (h.near i hb).resolve_right (by omega), fun b hb => (k.near b hb).elim (fun h' => h.near b h') (fun h' => .inr (Nat.le_trans h.far.size h'))⟩
theorem RNext.below {w W w' : World} {L L' : RLay} {s s' : MS} (h : RNext w L s W L' s') (hb : Below W.heap.size W w') : RNext w L s w' L' s' :=
  ⟨h.holds.below hb, h.same, h.far.trans (Far.of_below (may := fun _ => False) hb) (fun _ _ => False.elim), h.near⟩
theorem RNext.after {w X w' : World} {L L' : RLay} {s s' : MS} (hb : Below w.heap.size w X) (h : RNext X L s w' L' s') : RNext w L s w' L' s' :=
  ⟨h.holds, h.same, (Far.of_below (may := L.foot) hb).trans h.far (fun _ _ h' => h'), fun b hb' => (h.near b hb').imp id (fun h' => Nat.le_trans hb.size h')⟩
theorem RNext.set {w : World} {L : RLay} {s s' : MS} (h : RHolds w L s) (j : Nat) (v : Value) (hj : j < 25) (hv : ∀ j', j' < 25 → rcell L s' j' = if j' = j then v else rcell L s j')
    (e1 : s'.code = s.code) (e2 : s'.mem = s.mem) (e4 : s'.out = s.out) (hin : s'.inp.length ≤ L.full.length ∧ s'.inp = L.full.drop (L.full.length - s'.inp.length)) : RNext w L s (w.setCell ⟨L.m, j, none⟩ v) L s' :=
  ⟨h.set j v hj hv e1 e2 e4 hin, rfl, Far.set w _ v (by simp [RLay.foot]), fun b hb => .inl hb⟩
theorem rcell_reg (L : RLay) (s : MS) (a : Nat) (ha : a < 16) : rcell L s (2 + a) = .int .i64 (s.reg a) := by
  unfold rcell
  rw [if_neg (by omega), if_neg (by omega), if_pos (by omega), show 2 + a - 2 = a by omega]
theorem RHolds.reg {w : World} {L : RLay} {s : MS} (h : RHolds w L s) (a : Nat) (ha : a < 16) : w.cell? ⟨L.m, 2 + a, none⟩ = some (.int .i64 (s.reg a)) :=
  (h.cells (2 + a) (by omega)).trans (congrArg some (rcell_reg L s a ha))
theorem RNext.reg {w : World} {L : RLay} {s : MS} (h : RHolds w L s) (a : Nat) (ha : a < 16) (v : Int) : RNext w L s (regW w L.m a v) L (s.set a v) := by
  refine RNext.set h (2 + a) _ (by omega) (fun j hj => ?_) rfl rfl rfl h.inp
  by_cases e : j = 2 + a
  · subst e; rw [if_pos rfl, rcell_reg L _ a ha]; simp [MS.set]
  · rw [if_neg e]
    unfold rcell MS.set
    dsimp only
    by_cases e0 : j = 0
    · rw [if_pos e0, if_pos e0]
    by_cases e1 : j = 1
    · rw [if_neg e0, if_neg e0, if_pos e1, if_pos e1]
    rw [if_neg e0, if_neg e0, if_neg e1, if_neg e1, if_neg (show ¬ j - 2 = a by omega)]
theorem RNext.pc {w : World} {L : RLay} {s : MS} (h : RHolds w L s) (v : Int) : RNext w L s (pcW w L.m v) L { s with pc := v } := by
  refine RNext.set h 18 _ (by omega) (fun j hj => ?_) rfl rfl rfl h.inp
  by_cases e : j = 18
  · subst e; rfl
  · rw [if_neg e]
    unfold rcell
    dsimp only
    rw [if_neg e, if_neg e]
def kindW (w : World) (m : Nat) (k : Int) : World := w.setCell ⟨m, 21, none⟩ (.int .i64 k)
def panW (w : World) (m : Nat) (k : Int) : World := w.setCell ⟨m, 22, none⟩ (.int .i64 k)
def atW (w : World) (m : Nat) (k : Int) : World := w.setCell ⟨m, 20, none⟩ (.int .i64 k)
def stepsW (w : World) (m : Nat) (k : Int) : World := w.setCell ⟨m, 24, none⟩ (.int .i64 k)
theorem RNext.kind {w : World} {L : RLay} {s : MS} (h : RHolds w L s) (v : Int) : RNext w L s (kindW w L.m v) L { s with kind := v } := by
  refine RNext.set h 21 _ (by omega) (fun j hj => ?_) rfl rfl rfl h.inp
  by_cases e : j = 21
  · subst e; rfl
  · rw [if_neg e]
    unfold rcell
    dsimp only
    rw [if_neg e, if_neg e]
theorem RNext.pan {w : World} {L : RLay} {s : MS} (h : RHolds w L s) (v : Int) : RNext w L s (panW w L.m v) L { s with panics := v } := by
  refine RNext.set h 22 _ (by omega) (fun j hj => ?_) rfl rfl rfl h.inp
  by_cases e : j = 22
  · subst e; rfl
  · rw [if_neg e]
    unfold rcell
    dsimp only
    rw [if_neg e, if_neg e]
theorem RNext.stepd {w : World} {L : RLay} {s : MS} (h : RHolds w L s) (v : Int) : RNext w L s (stepsW w L.m v) L { s with steps := v } := by
  refine RNext.set h 24 _ (by omega) (fun j hj => ?_) rfl rfl rfl h.inp
  by_cases e : j = 24
  · subst e; rfl
  · rw [if_neg e]
    unfold rcell
    dsimp only
    by_cases c0 : j = 0
    · rw [if_pos c0, if_pos c0]
    rw [if_neg c0, if_neg c0]
    by_cases c1 : j = 1
    · rw [if_pos c1, if_pos c1]
    rw [if_neg c1, if_neg c1]
    by_cases c2 : j < 18
    · rw [if_pos c2, if_pos c2]
    rw [if_neg c2, if_neg c2]
    by_cases c3 : j = 18
    · rw [if_pos c3, if_pos c3]
    rw [if_neg c3, if_neg c3]
    by_cases c4 : j = 19
    · rw [if_pos c4, if_pos c4]
    rw [if_neg c4, if_neg c4]
    by_cases c5 : j = 20
    · rw [if_pos c5, if_pos c5]
    rw [if_neg c5, if_neg c5]
    by_cases c6 : j = 21
    · rw [if_pos c6, if_pos c6]
    rw [if_neg c6, if_neg c6]
    by_cases c7 : j = 22
    · rw [if_pos c7, if_pos c7]
    rw [if_neg c7, if_neg c7]
    by_cases c8 : j = 23
    · rw [if_pos c8, if_pos c8]
    rw [if_neg c8, if_neg c8]
    omega
theorem RNext.input {w : World} {L : RLay} {s : MS} (h : RHolds w L s) (x : Int) (r : List Int) (he : s.inp = x :: r) : RNext w L s (atW w L.m ((L.full.length : Int) - r.length)) L { s with inp := r } := by
  obtain ⟨h1, h2⟩ := h.inp
  refine RNext.set h 20 _ (by omega) (fun j hj => ?_) rfl rfl rfl ?_
  · by_cases e : j = 20
    · subst e; rfl
    · rw [if_neg e]
      unfold rcell
      dsimp only
      rw [if_neg e, if_neg e]
  · rw [he] at h1 h2
    simp only [List.length_cons] at h1 h2
    refine ⟨by dsimp only; omega, ?_⟩
    dsimp only
    have := congrArg List.tail h2
    simp only [List.tail_cons, List.tail_drop] at this
    rw [show L.full.length - r.length = L.full.length - (r.length + 1) + 1 by omega]
    exact this
theorem RNext.mem {w : World} {L : RLay} {s : MS} (h : RHolds w L s) (k : Nat) (hk : k < s.mem.length) (v : Int) : RNext w L s (memW w L.mb k v) L { s with mem := s.mem.set k v } := by
  have hr := h.rows
  obtain ⟨a1, a2, a3⟩ := hr.apart
  obtain ⟨o1, o2, o3⟩ := hr.out_apart
  have hne : ∀ b, b ≠ L.mb → (memW w L.mb k v).heap[b]? = w.heap[b]? := fun b hb => Below.heap_setCell _ _ _ _ hb
  have hsz : (memW w L.mb k v).heap.size = w.heap.size := by simp [memW, World.setCell]
  refine ⟨⟨fun o => (World.frozen?_of_block (hne L.m a1)).trans (h.free o), fun j hj => (World.cell?_of_block (hne L.m a1)).trans ((h.cells j hj).trans ?_),
    ⟨fun j hj => (World.cell?_of_block (hne L.cb (Ne.symm a3))).trans (hr.code_at j hj), fun j hj => ?_, fun o => ?_,
      ?_, ownsRow_frame hr.out_at (fun j hj => hne j (fun e => o2 (e ▸ hj))), by rw [hsz]; exact hr.blocks, hr.apart, hr.out_apart, hr.code_in, ?_⟩, h.inp⟩, rfl, Far.set w _ _ (by simp [RLay.foot]), fun b hb => .inl hb⟩
  · unfold rcell; simp
  · rw [getD_set_int _ _ _ _ hk]
    simp only [List.length_set] at hj
    by_cases e : j = k
    · subst e; rw [if_pos rfl]; exact World.cell?_setCell_same _ _ _ (hr.mem_at j hj)
    · rw [if_neg e]
      exact (World.cell?_setCell_other _ _ _ _ (fun e' => e (by injection e' with _ e' _; exact e'.symm))).trans (hr.mem_at j hj)
  · unfold memW; rw [World.frozen?_setCell]; exact hr.mem_free o
  · refine hr.in_at.imp id ?_
    rintro ⟨ib, off, h1, h2, h3, h4, h5, h6⟩
    exact ⟨ib, off, h1, by rw [hsz]; exact h2, h3, h4, h5, fun j hj => (World.cell?_of_block (hne ib h4)).trans (h6 j hj)⟩
  · obtain ⟨l1, l2, l3⟩ := hr.lim
    exact ⟨l1, by simpa using l2, l3⟩
def routW (w : World) (m : Nat) (v : Value) : World := w.setCell ⟨m, 23, none⟩ v
theorem RNext.output {w w1 : World} {L : RLay} {s : MS} (h : RHolds w L s) (v : Int) (v' : Value) (ha : Appended w 0 5 1 L.out (s.out.length + 1) (nums .u8 (s.out ++ [v])) v' w1) :
    RNext w L s (routW w1 L.m v') { L with out := v' } { s with out := s.out ++ [v] } := by
  obtain ⟨ho, hg, hn⟩ := ha
  have hr := h.rows
  obtain ⟨a1, a2, a3⟩ := hr.apart
  obtain ⟨o1, o2, o3⟩ := hr.out_apart
  obtain ⟨b1, b2, b3⟩ := hr.blocks
  have hsz : (routW w1 L.m v').heap.size = w1.heap.size := by simp [routW, World.setCell]
  have hgs := hg.size
  have hf : ∀ b, b ≠ L.m → b < w.heap.size → L.out.ownBlock ≠ some b → (routW w1 L.m v').heap[b]? = w.heap[b]? := fun b hb hl ho => (Below.heap_setCell _ _ _ _ hb).trans (hg.block b hl (fun e => ho e.symm))
  have hne : ∀ b, b < w.heap.size → L.out.ownBlock ≠ some b → v'.ownBlock ≠ some b := fun b hb hn' he => (hn b he).elim hn' (fun h => by omega)
  have hm : ∀ o, w1.cell? ⟨L.m, o, none⟩ = w.cell? ⟨L.m, o, none⟩ := fun o => World.cell?_of_block (hg.block L.m b1 (fun e => o1 e.symm))
  refine ⟨⟨fun o => ?_, fun j hj => ?_, ⟨fun k hk => (World.cell?_of_block (hf L.cb (Ne.symm a2) b3 o3)).trans (hr.code_at k hk), fun k hk => (World.cell?_of_block (hf L.mb (Ne.symm a1) b2 o2)).trans (hr.mem_at k hk),
    fun o => (World.frozen?_of_block (hf L.mb (Ne.symm a1) b2 o2)).trans (hr.mem_free o), ?_, ?_, ?_, hr.apart, ?_, hr.code_in, hr.lim⟩, h.inp⟩, rfl, ?_, fun b hb => ?_⟩
  · unfold routW; rw [World.frozen?_setCell]
    exact (World.frozen?_of_block (hg.block L.m b1 (fun e => o1 e.symm))).trans (h.free o)
  · by_cases e : j = 23
    · subst e
      exact World.cell?_setCell_same _ _ _ ((hm 23).trans (h.cells 23 hj))
    · refine (World.cell?_setCell_other _ _ _ _ (fun e' => e (by injection e' with _ e' _; exact e'.symm))).trans (((hm j).trans (h.cells j hj)).trans ?_)
      unfold rcell
      dsimp only
      rw [if_neg e, if_neg e]
  · refine hr.in_at.imp id ?_
    rintro ⟨ib, off, h1, h2, h3, h4, h5, h6⟩
    exact ⟨ib, off, h1, by rw [hsz]; omega, h3, h4, hne ib h2 h5, fun j hj => (World.cell?_of_block (hf ib h3 h2 h5)).trans (h6 j hj)⟩
  · have h1 : (routW w1 L.m v').ownsRow 0 5 1 v' (s.out.length + 1) (nums .u8 (s.out ++ [v])) := ownsRow_frame ho fun k hk => Below.heap_setCell _ _ _ _ (fun e => hne L.m b1 o1 (hk.trans (congrArg some e)))
    simpa using h1
  · rw [hsz]; exact ⟨by dsimp only; omega, by dsimp only; omega, by dsimp only; omega⟩
  · exact ⟨hne _ b1 o1, hne _ b2 o2, hne _ b3 o3⟩
  · have hgf : Far L.foot w w1 := ⟨hg.os, hg.tape, hg.output, hg.size, fun k hk hn' => hg.block k hk (fun e => hn' (by simp [RLay.foot, ← e]))⟩
    exact hgf.trans (Far.set (may := L.foot) w1 ⟨L.m, 23, none⟩ v' (by simp [RLay.foot])) fun _ _ hb => hb
  · rcases hb with hb | hb | hb | hb | hb
    · exact .inl (.inl hb)
    · exact .inl (.inr (.inl hb))
    · exact .inl (.inr (.inr (.inl hb)))
    · exact (hn b hb).imp (fun h' => .inr (.inr (.inr (.inl h')))) id
    · exact .inl (.inr (.inr (.inr (.inr hb))))
/-- What a method of the document's machine that tells nothing ends with. -/
def REnd (w : World) (L : RLay) (s s' : MS) (e : Ending) (w' : World) : Prop := e = .returned (.tuple #[]) ∧ ∃ L', RNext w L s w' L' s'
theorem RHolds.hm {w : World} {L : RLay} {s : MS} (h : RHolds w L s) : L.m < w.heap.size := h.rows.blocks.1
end Go.Proofs.Ytbchiolgbhckhaa.Mach

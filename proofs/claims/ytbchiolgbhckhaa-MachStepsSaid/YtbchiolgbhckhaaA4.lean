/- A machine that lies in memory; every operation of it. -/
import Derived.Test.YtbchiolgbhckhaaA3
import Derived.Deep.QuietTactic
import Derived.BigQuiet
section
/- The operations of two words and of one, walked: what the machine's own register or end holds behind them. -/
set_option linter.unusedVariables false
set_option linter.unusedSimpArgs false
namespace Go.Proofs.Ytbchiolgbhckhaa.Mach
open Go.RowKit Go.Proofs.YtbchiolgbhckhaaW.PrintWords Go.Proofs.YtbchiolgbhckhaaW.PrintMore Go.Proofs.Ytbchiolgbhckhaa.PMachRuns

theorem quiet_add {P : Program} {f : FuncId} {args : Array Value} {w : World} {a n : Nat} {v : Value}
    (h : Calls P f args (w.drewN (a + n)) fun e w' => e = .returned v ∧ ∃ m, w' = (w.drewN (a + n)).drewN m) :
    Calls P f args (w.drewN (a + n)) fun e w'' => e = .returned v ∧ ∃ m, w'' = w.drewN (a + m) :=
  h.mono fun _ _ ⟨he, m, hm⟩ => ⟨he, n + m, by rw [hm, World.drewN_drewN, Nat.add_assoc]⟩
theorem wrap_in {n : Int} (h0 : -9223372036854775808 ≤ n) (h1 : n ≤ 9223372036854775807) : wrap64 n = n := by unfold wrap64; omega
theorem below_put {B : Nat} {W w : World} (h : Below B W w) (a : Addr) (v : Value) : Below B (W.setCell a v) (w.setCell a v) :=
  ⟨h.os, h.tape, h.output, by simpa [World.setCell] using h.size, fun k hk => by simp only [World.setCell, Array.getElem?_modify, h.block k hk]⟩
theorem below_drewN {n : Nat} {W w : World} {k : Nat} (h : Below k W w) : Below k W (w.drewN n) := by
  induction n with
  | zero => exact h
  | succ n ih => exact ih.drew
set_option maxHeartbeats 400000 in
theorem words_bin (m a b c : Nat) (o i xa xb xc v : Int) (w : World) (hm : m < w.heap.size) (hf : ∀ o, w.frozen? ⟨m, o, none⟩ = false) (o0 : 16 ≤ o) (ho : o < 40) (hr : bin2 (o - 16) xb xc = (v, 0)) (ha : w.cell? ⟨m, 2 + a, none⟩ = some (.int .i64 xa)) (la : (a : Int) < 16) (hb : w.cell? ⟨m, 2 + b, none⟩ = some (.int .i64 xb)) (lb : (b : Int) < 16) (hc : w.cell? ⟨m, 2 + c, none⟩ = some (.int .i64 xc)) (lc : (c : Int) < 16) :
    Calls Try.prog 51 #[.pointer (some ⟨m, 0, none⟩), .agg #[.int .i64 o, .int .i64 a, .int .i64 b, .int .i64 c, .int .i64 i]] w (Did w (regW w m a v)) := by
  obtain ⟨⟨u1, u2⟩, h1⟩ : ∃ r, word_Un.f (wrap64 (o - 40)) xb = some r := ⟨_, (un_same _ _).1⟩
  have h2 : word_Bin.f 3 (wrap64 (o - 16)) xb xc = some (v, 0) := (congrArg (fun z => word_Bin.f 3 z xb xc) (wrap_in (n := o - 16) (by omega) (by omega))).trans ((bin_same _ _ _).1.trans (congrArg some hr))
  clear hr
  clear o0
  go_enter Try.func51, Try.ntmps51
  go_wp2
  go_quiet ((go_at_call 61; exact Calls.quiet_of ((word_Un.calls _ _ _ _ _ h1).mono (fun _ _ h => ⟨h.1, h.2.out⟩))))
  go_wp2
  go_quiet ((go_at_call 62; exact quiet_add ((word_Bin.calls 3 _ _ _ _ _ _ h2).mono (fun _ _ h => ⟨h.1, h.2.out⟩))))
  go_wp2
  refine region_tail 7 mixed (by kernel_rfl) ?_
  simp only [List.take_succ_cons, List.take_zero, List.drop_succ_cons, List.drop_zero]
  repeat still_step
  refine wpStill_nil ?_
  go_wp2
  go_end0
  exact ⟨rfl, by unfold regW; exact below_put (below_drewN ((Below.refl _ _).alloc (Nat.le_refl _) _)) _ _⟩
set_option maxHeartbeats 400000 in
theorem words_bin_panic (m a b c : Nat) (o i xa xb xc v u x y : Int) (w : World) (hm : m < w.heap.size) (hf : ∀ o, w.frozen? ⟨m, o, none⟩ = false) (o0 : 16 ≤ o) (ho : o < 40) (hr : bin2 (o - 16) xb xc = (v, u)) (hu : ¬ u = 0) (hb : w.cell? ⟨m, 2 + b, none⟩ = some (.int .i64 xb)) (lb : (b : Int) < 16) (hc : w.cell? ⟨m, 2 + c, none⟩ = some (.int .i64 xc)) (lc : (c : Int) < 16) (h6 : w.cell? ⟨m, 21, none⟩ = some (.int .i64 x)) (h7 : w.cell? ⟨m, 22, none⟩ = some (.int .i64 y)) :
    Calls Try.prog 51 #[.pointer (some ⟨m, 0, none⟩), .agg #[.int .i64 o, .int .i64 a, .int .i64 b, .int .i64 c, .int .i64 i]] w (Did w (endsW w m 2 u)) := by
  have hu' : (u != 0) = true := bne_iff_ne.2 hu
  obtain ⟨⟨u1, u2⟩, h1⟩ : ∃ r, word_Un.f (wrap64 (o - 40)) xb = some r := ⟨_, (un_same _ _).1⟩
  have h2 : word_Bin.f 3 (wrap64 (o - 16)) xb xc = some (v, u) := (congrArg (fun z => word_Bin.f 3 z xb xc) (wrap_in (n := o - 16) (by omega) (by omega))).trans ((bin_same _ _ _).1.trans (congrArg some hr))
  clear hr
  clear o0
  go_enter Try.func51, Try.ntmps51
  go_wp2
  go_quiet ((go_at_call 61; exact Calls.quiet_of ((word_Un.calls _ _ _ _ _ h1).mono (fun _ _ h => ⟨h.1, h.2.out⟩))))
  go_wp2
  go_quiet ((go_at_call 62; exact quiet_add ((word_Bin.calls 3 _ _ _ _ _ _ h2).mono (fun _ _ h => ⟨h.1, h.2.out⟩))))
  go_wp2
  go_end0
  go_wp2
  go_end0
  exact ⟨rfl, by unfold endsW; exact below_put (below_put (below_drewN ((Below.refl _ _).alloc (Nat.le_refl _) _)) _ _) _ _⟩
set_option maxHeartbeats 400000 in
theorem words_un (m a b c : Nat) (o i xa xb v : Int) (w : World) (hm : m < w.heap.size) (hf : ∀ o, w.frozen? ⟨m, o, none⟩ = false) (o0 : 40 ≤ o ∧ o < 64) (ho : ¬ o < 40) (hr : un2 (o - 40) xb = (v, 0)) (ha : w.cell? ⟨m, 2 + a, none⟩ = some (.int .i64 xa)) (la : (a : Int) < 16) (hb : w.cell? ⟨m, 2 + b, none⟩ = some (.int .i64 xb)) (lb : (b : Int) < 16) :
    Calls Try.prog 51 #[.pointer (some ⟨m, 0, none⟩), .agg #[.int .i64 o, .int .i64 a, .int .i64 b, .int .i64 c, .int .i64 i]] w (Did w (regW w m a v)) := by
  have h1 : word_Un.f (wrap64 (o - 40)) xb = some (v, 0) := (congrArg (fun z => word_Un.f z xb) (wrap_in (n := o - 40) (by omega) (by omega))).trans ((un_same _ _).1.trans (congrArg some hr))
  clear hr
  clear o0
  go_enter Try.func51, Try.ntmps51
  go_wp2
  go_quiet ((go_at_call 61; exact Calls.quiet_of ((word_Un.calls _ _ _ _ _ h1).mono (fun _ _ h => ⟨h.1, h.2.out⟩))))
  go_wp2
  refine region_tail 7 mixed (by kernel_rfl) ?_
  simp only [List.take_succ_cons, List.take_zero, List.drop_succ_cons, List.drop_zero]
  repeat still_step
  refine wpStill_nil ?_
  go_wp2
  go_end0
  exact ⟨rfl, by unfold regW; exact below_put (below_drewN ((Below.refl _ _).alloc (Nat.le_refl _) _)) _ _⟩
end Go.Proofs.Ytbchiolgbhckhaa.Mach
end

section
/- A machine that lies in memory: what its cells and rows hold, told by a plain state; and what a call may turn. -/
set_option linter.unusedVariables false
set_option linter.unusedSimpArgs false
namespace Go.Proofs.Ytbchiolgbhckhaa.Mach
open Go.RowKit Go.Proofs.YtbchiolgbhckhaaW.PrintWords Go.Proofs.YtbchiolgbhckhaaW.PrintMore Go.Proofs.Ytbchiolgbhckhaa.PMachRuns

/-- Where a machine lies: its own block, memory, code, operations, what is left of its input, its output. -/
structure Lay where
  m : Nat
  mb : Nat
  mc : Nat
  cb : Nat
  cc : Nat
  ob : Nat
  oc : Nat
  inA : Option Addr
  inc : Nat
  out : Value
/-- The blocks that a machine leans on. -/
def Lay.foot (L : Lay) (inp : List Int) (b : Nat) : Prop :=
  b = L.m ∨ b = L.mb ∨ b = L.cb ∨ b = L.ob ∨ L.out.ownBlock = some b ∨ (inp ≠ [] ∧ ∃ off, L.inA = some ⟨b, off, none⟩)
/-- The cells of a machine's own block. -/
def mcell (L : Lay) (s : MS) (j : Nat) : Value :=
  if j = 0 then .slice (some ⟨L.cb, 0, none⟩) s.code.length L.cc
  else if j = 1 then .slice (some ⟨L.mb, 0, none⟩) s.mem.length L.mc
  else if j < 18 then .int .i64 (s.reg (j - 2))
  else if j = 18 then .int .i64 s.pc
  else if j = 19 then .slice L.inA s.inp.length L.inc
  else if j = 20 then L.out
  else if j = 21 then .int .i64 s.kind
  else if j = 22 then .int .i64 s.panics
  else if j = 23 then .int .i64 s.steps
  else .slice (some ⟨L.ob, 0, none⟩) 16 L.oc
/-- A method's value. -/
def opV (m k : Nat) : Value := .func (.func (32 + k)) #[.pointer (some ⟨m, 0, none⟩)] #[]
/-- What a machine's rows hold. -/
structure Rows (w : World) (L : Lay) (code mem inp out : List Int) : Prop where
  code_at : ∀ k, k < code.length → w.cell? ⟨L.cb, k, none⟩ = some (.int .i64 (code.getD k 0))
  mem_at : ∀ k, k < mem.length → w.cell? ⟨L.mb, k, none⟩ = some (.int .i64 (mem.getD k 0))
  mem_free : ∀ o, w.frozen? ⟨L.mb, o, none⟩ = false
  ops_at : ∀ k, k < 16 → w.cell? ⟨L.ob, k, none⟩ = some (opV L.m k)
  in_at : inp = [] ∨ ∃ ib off, L.inA = some ⟨ib, off, none⟩ ∧ ib < w.heap.size ∧ ib ≠ L.m ∧ ib ≠ L.mb ∧ L.out.ownBlock ≠ some ib ∧ ∀ j, j < inp.length → w.cell? ⟨ib, off + j, none⟩ = some (.int .u8 (inp.getD j 0))
  out_at : w.ownsRow 0 5 1 L.out out.length (nums .u8 out)
  blocks : L.m < w.heap.size ∧ L.mb < w.heap.size ∧ L.cb < w.heap.size ∧ L.ob < w.heap.size
  apart : L.m ≠ L.mb ∧ L.m ≠ L.cb ∧ L.m ≠ L.ob ∧ L.mb ≠ L.cb ∧ L.mb ≠ L.ob
  out_apart : L.out.ownBlock ≠ some L.m ∧ L.out.ownBlock ≠ some L.mb ∧ L.out.ownBlock ≠ some L.cb ∧ L.out.ownBlock ≠ some L.ob
  code_in : ∀ k, -9223372036854775808 ≤ code.getD k 0 ∧ code.getD k 0 ≤ 9223372036854775807
  lim : code.length ≤ 65536 ∧ mem.length ≤ 262144 ∧ inp.length ≤ L.inc ∧ L.inc ≤ 9223372036854775807 ∧ ∀ v ∈ inp, 0 ≤ v ∧ v ≤ 255
/-- A machine that lies in memory. -/
structure Holds (w : World) (L : Lay) (s : MS) : Prop where
  free : ∀ o, w.frozen? ⟨L.m, o, none⟩ = false
  cells : ∀ j, j < 25 → w.cell? ⟨L.m, j, none⟩ = some (mcell L s j)
  rows : Rows w L s.code s.mem s.inp s.out
/-- Nothing has turned but, of the blocks that were there, those that may. -/
structure Far (may : Nat → Prop) (w w' : World) : Prop where
  os : w'.os = w.os
  tape : w'.tape = w.tape
  output : w'.output = w.output
  size : w.heap.size ≤ w'.heap.size
  block : ∀ k, k < w.heap.size → ¬ may k → w'.heap[k]? = w.heap[k]?
theorem Far.refl (may : Nat → Prop) (w : World) : Far may w w := ⟨rfl, rfl, rfl, Nat.le_refl _, fun _ _ _ => rfl⟩
theorem Far.trans {may may' : Nat → Prop} {a b c : World} (h : Far may a b) (k : Far may' b c) (hm : ∀ i, i < a.heap.size → may' i → may i) : Far may a c :=
  ⟨k.os.trans h.os, k.tape.trans h.tape, k.output.trans h.output, Nat.le_trans h.size k.size, fun i hi hn => (k.block i (Nat.lt_of_lt_of_le hi h.size) (fun h' => hn (hm i hi h'))).trans (h.block i hi hn)⟩
theorem Far.of_below {may : Nat → Prop} {w w' : World} (h : Below w.heap.size w w') : Far may w w' := ⟨h.os, h.tape, h.output, h.size, fun k hk _ => h.block k hk⟩
theorem Far.set {may : Nat → Prop} (w : World) (a : Addr) (v : Value) (h : may a.block) : Far may w (w.setCell a v) :=
  ⟨rfl, rfl, rfl, by simp [World.setCell], fun k _ hn => Below.heap_setCell _ _ _ _ (fun e => hn (e ▸ h))⟩
theorem Far.below {may : Nat → Prop} {B : Nat} {w w' : World} (h : Far may w w') (hB : B ≤ w.heap.size) (hm : ∀ k, may k → B ≤ k) : Below B w w' :=
  ⟨h.os, h.tape, h.output, h.size, fun k hk => h.block k (by omega) (fun h' => by have := hm k h'; omega)⟩

theorem Rows.lt {w : World} {L : Lay} {c m i o : List Int} (h : Rows w L c m i o) {b : Nat} (hb : L.foot i b) : b < w.heap.size := by
  obtain ⟨b1, b2, b3, b4⟩ := h.blocks
  rcases hb with rfl | rfl | rfl | rfl | hb | ⟨hi, off, hb⟩
  · exact b1
  · exact b2
  · exact b3
  · exact b4
  · exact (h.out_at.lt _ hb).2
  · rcases h.in_at with h0 | ⟨ib, off', h1, h2, _⟩
    · exact absurd h0 hi
    · rw [h1] at hb; cases hb; exact h2
theorem ownsRow_frame {w w' : World} {base size n : Nat} {e : TypeId} {v : Value} {xs : List Value} (h : w.ownsRow base e size v n xs) (hb : ∀ k, v.ownBlock = some k → w'.heap[k]? = w.heap[k]?) : w'.ownsRow base e size v n xs := by
  obtain ⟨h1, h2⟩ := h
  refine ⟨h1, h2.imp id ?_⟩
  rintro ⟨g, cap, cur, rfl, h3, h4, h5⟩
  exact ⟨g, cap, cur, rfl, h3, (hb g rfl).trans h4, h5⟩
theorem Rows.frame {w w' : World} {L : Lay} {c m i o : List Int} (h : Rows w L c m i o) (hs : w.heap.size ≤ w'.heap.size) (hb : ∀ b, b ≠ L.m → L.foot i b → w'.heap[b]? = w.heap[b]?) : Rows w' L c m i o := by
  obtain ⟨b1, b2, b3, b4⟩ := h.blocks
  obtain ⟨a1, a2, a3, a4, a5⟩ := h.apart
  have kc := hb L.cb (Ne.symm a2) (by simp [Lay.foot])
  have km := hb L.mb (Ne.symm a1) (by simp [Lay.foot])
  have ko := hb L.ob (Ne.symm a3) (by simp [Lay.foot])
  refine ⟨fun k hk => (World.cell?_of_block kc).trans (h.code_at k hk), fun k hk => (World.cell?_of_block km).trans (h.mem_at k hk), fun k => (World.frozen?_of_block km).trans (h.mem_free k),
    fun k hk => (World.cell?_of_block ko).trans (h.ops_at k hk), ?_, ownsRow_frame h.out_at (fun k hk => hb k (fun e => h.out_apart.1 (e ▸ hk)) (by simp [Lay.foot, hk])), ⟨by omega, by omega, by omega, by omega⟩, h.apart, h.out_apart, h.code_in, h.lim⟩
  rcases h.in_at with h0 | ⟨ib, off, h1, h2, h3, h4, h5, h6⟩
  · exact .inl h0
  · by_cases h0 : i = []
    · exact .inl h0
    · refine .inr ⟨ib, off, h1, by omega, h3, h4, h5, fun j hj => (World.cell?_of_block (hb ib h3 ?_)).trans (h6 j hj)⟩
      simp [Lay.foot, h0, h1]
theorem Holds.frame {w w' : World} {L : Lay} {s : MS} (h : Holds w L s) (hs : w.heap.size ≤ w'.heap.size) (hb : ∀ b, L.foot s.inp b → w'.heap[b]? = w.heap[b]?) : Holds w' L s := by
  have km := hb L.m (by simp [Lay.foot])
  exact ⟨fun o => (World.frozen?_of_block km).trans (h.free o), fun j hj => (World.cell?_of_block km).trans (h.cells j hj), h.rows.frame hs fun b _ hb' => hb b hb'⟩
theorem Holds.far {may : Nat → Prop} {w w' : World} {L : Lay} {s : MS} (h : Holds w L s) (hf : Far may w w') (hn : ∀ b, L.foot s.inp b → ¬ may b) : Holds w' L s :=
  h.frame hf.size fun b hb => hf.block b (h.rows.lt hb) (hn b hb)
theorem Holds.below {w w' : World} {L : Lay} {s : MS} (h : Holds w L s) (hb : Below w.heap.size w w') : Holds w' L s :=
  h.frame hb.size fun b hb' => hb.block b (h.rows.lt hb')
/-- A store into a cell of the machine's own. -/
theorem Holds.set {w : World} {L : Lay} {s s' : MS} (h : Holds w L s) (j : Nat) (v : Value) (hj : j < 25) (hv : ∀ j', j' < 25 → mcell L s' j' = if j' = j then v else mcell L s j')
    (e1 : s'.code = s.code) (e2 : s'.mem = s.mem) (e3 : s'.inp = s.inp) (e4 : s'.out = s.out) : Holds (w.setCell ⟨L.m, j, none⟩ v) L s' := by
  refine ⟨fun o => ?_, fun j' hj' => ?_, ?_⟩
  · rw [World.frozen?_setCell]; exact h.free o
  · rw [hv j' hj']
    split
    · subst_vars; exact World.cell?_setCell_same _ _ _ (h.cells _ hj)
    · rename_i hne
      rw [World.cell?_setCell_other _ _ _ _ (fun e => hne (by injection e with _ e _; exact e.symm))]
      exact h.cells j' hj'
  · rw [e1, e2, e3, e4]
    exact h.rows.frame (by simp [World.setCell]) fun b hb _ => Below.heap_setCell _ _ _ _ hb

/-- A state that lies in memory, and one that comes of it. -/
structure Next (w : World) (L : Lay) (s : MS) (w' : World) (L' : Lay) (s' : MS) : Prop where
  holds : Holds w' L' s'
  same : L'.m = L.m
  far : Far (L.foot s.inp) w w'
  near : ∀ b, L'.foot s'.inp b → L.foot s.inp b ∨ w.heap.size ≤ b
theorem Next.refl {w : World} {L : Lay} {s : MS} (h : Holds w L s) : Next w L s w L s := ⟨h, rfl, Far.refl _ _, fun _ => .inl⟩
theorem Next.trans {w w1 w2 : World} {L L1 L2 : Lay} {s s1 s2 : MS} (h : Next w L s w1 L1 s1) (k : Next w1 L1 s1 w2 L2 s2) : Next w L s w2 L2 s2 :=
  ⟨k.holds, k.same.trans h.same, h.far.trans k.far fun i hi hb => (h.near i hb).resolve_right (by omega), fun b hb => (k.near b hb).elim (fun h' => h.near b h') (fun h' => .inr (Nat.le_trans h.far.size h'))⟩
theorem Next.below {w W w' : World} {L L' : Lay} {s s' : MS} (h : Next w L s W L' s') (hb : Below W.heap.size W w') : Next w L s w' L' s' :=
  ⟨h.holds.below hb, h.same, h.far.trans (Far.of_below (may := fun _ => False) hb) (fun _ _ => False.elim), h.near⟩
theorem Next.set {w : World} {L : Lay} {s s' : MS} (h : Holds w L s) (j : Nat) (v : Value) (hj : j < 25) (hv : ∀ j', j' < 25 → mcell L s' j' = if j' = j then v else mcell L s j')
    (e1 : s'.code = s.code) (e2 : s'.mem = s.mem) (e3 : s'.inp = s.inp) (e4 : s'.out = s.out) : Next w L s (w.setCell ⟨L.m, j, none⟩ v) L s' :=
  ⟨h.set j v hj hv e1 e2 e3 e4, rfl, Far.set w _ v (by simp [Lay.foot]), fun b hb => .inl (e3 ▸ hb)⟩
theorem mcell_reg (L : Lay) (s : MS) (a : Nat) (ha : a < 16) : mcell L s (2 + a) = .int .i64 (s.reg a) := by
  unfold mcell
  rw [if_neg (by omega), if_neg (by omega), if_pos (by omega), show 2 + a - 2 = a by omega]
theorem Holds.reg {w : World} {L : Lay} {s : MS} (h : Holds w L s) (a : Nat) (ha : a < 16) : w.cell? ⟨L.m, 2 + a, none⟩ = some (.int .i64 (s.reg a)) :=
  (h.cells (2 + a) (by omega)).trans (congrArg some (mcell_reg L s a ha))
theorem Next.reg {w : World} {L : Lay} {s : MS} (h : Holds w L s) (a : Nat) (ha : a < 16) (v : Int) : Next w L s (regW w L.m a v) L (s.set a v) := by
  refine Next.set h (2 + a) _ (by omega) (fun j hj => ?_) rfl rfl rfl rfl
  by_cases e : j = 2 + a
  · subst e; rw [if_pos rfl, mcell_reg L _ a ha]; simp [MS.set]
  · rw [if_neg e]
    unfold mcell MS.set
    dsimp only
    rw [show (if j - 2 = a then v else s.reg (j - 2)) = if j - 2 = a then v else s.reg (j - 2) from rfl]
    by_cases e0 : j = 0
    · rw [if_pos e0, if_pos e0]
    by_cases e1 : j = 1
    · rw [if_neg e0, if_neg e0, if_pos e1, if_pos e1]
    rw [if_neg e0, if_neg e0, if_neg e1, if_neg e1, if_neg (show ¬ j - 2 = a by omega)]
theorem Next.pc {w : World} {L : Lay} {s : MS} (h : Holds w L s) (v : Int) : Next w L s (pcW w L.m v) L { s with pc := v } := by
  refine Next.set h 18 _ (by omega) (fun j hj => ?_) rfl rfl rfl rfl
  by_cases e : j = 18
  · subst e; rfl
  · rw [if_neg e]
    unfold mcell
    dsimp only
    rw [if_neg e, if_neg e]
theorem Next.stepd {w : World} {L : Lay} {s : MS} (h : Holds w L s) (v : Int) : Next w L s (w.setCell ⟨L.m, 23, none⟩ (.int .i64 v)) L { s with steps := v } := by
  refine Next.set h 23 _ (by omega) (fun j hj => ?_) rfl rfl rfl rfl
  by_cases e : j = 23
  · subst e; rfl
  · rw [if_neg e]
    unfold mcell
    dsimp only
    rw [if_neg e, if_neg e]
theorem Next.ends {w : World} {L : Lay} {s : MS} (h : Holds w L s) (k c : Int) : Next w L s (endsW w L.m k c) L (s.ends k c) := by
  have h1 : Next w L s (w.setCell ⟨L.m, 21, none⟩ (.int .i64 k)) L { s with kind := k } := by
    refine Next.set h 21 _ (by omega) (fun j hj => ?_) rfl rfl rfl rfl
    by_cases e : j = 21
    · subst e; rfl
    · rw [if_neg e]
      unfold mcell
      dsimp only
      rw [if_neg e, if_neg e]
  refine h1.trans (Next.set h1.holds 22 _ (by omega) (fun j hj => ?_) rfl rfl rfl rfl)
  by_cases e : j = 22
  · subst e; rfl
  · rw [if_neg e]
    unfold mcell MS.ends
    dsimp only
    rw [if_neg e, if_neg e]
theorem getD_set_int (xs : List Int) (k j : Nat) (v : Int) (hk : k < xs.length) : (xs.set k v).getD j 0 = if j = k then v else xs.getD j 0 := by
  simp only [List.getD_eq_getElem?_getD, List.getElem?_set]
  by_cases e : j = k
  · subst e; simp [hk]
  · rw [if_neg (fun h => e h.symm), if_neg e]
theorem Next.mem {w : World} {L : Lay} {s : MS} (h : Holds w L s) (k : Nat) (hk : k < s.mem.length) (v : Int) : Next w L s (memW w L.mb k v) L { s with mem := s.mem.set k v } := by
  have hr := h.rows
  obtain ⟨a1, a2, a3, a4, a5⟩ := hr.apart
  obtain ⟨o1, o2, o3, o4⟩ := hr.out_apart
  have hne : ∀ b, b ≠ L.mb → (memW w L.mb k v).heap[b]? = w.heap[b]? := fun b hb => Below.heap_setCell _ _ _ _ hb
  have hsz : (memW w L.mb k v).heap.size = w.heap.size := by simp [memW, World.setCell]
  refine ⟨⟨fun o => (World.frozen?_of_block (hne L.m a1)).trans (h.free o), fun j hj => (World.cell?_of_block (hne L.m a1)).trans ((h.cells j hj).trans ?_),
    ⟨fun j hj => (World.cell?_of_block (hne L.cb (Ne.symm a4))).trans (hr.code_at j hj), fun j hj => ?_, fun o => ?_, fun j hj => (World.cell?_of_block (hne L.ob (Ne.symm a5))).trans (hr.ops_at j hj),
      ?_, ownsRow_frame hr.out_at (fun j hj => hne j (fun e => o2 (e ▸ hj))), by rw [hsz]; exact hr.blocks, hr.apart, hr.out_apart, hr.code_in, ?_⟩⟩, rfl, Far.set w _ _ (by simp [Lay.foot]), fun b hb => .inl hb⟩
  · unfold mcell; simp
  · rw [getD_set_int _ _ _ _ hk]
    simp only [List.length_set] at hj
    by_cases e : j = k
    · subst e; rw [if_pos rfl]; exact World.cell?_setCell_same _ _ _ (hr.mem_at j hj)
    · rw [if_neg e]
      exact (World.cell?_setCell_other _ _ _ _ (fun e' => e (by injection e' with _ e' _; exact e'.symm))).trans (hr.mem_at j hj)
  · unfold memW; rw [World.frozen?_setCell]; exact hr.mem_free o
  · refine hr.in_at.imp id ?_
    rintro ⟨ib, off, h1, h2, h3, h4, h5, h6⟩
    exact ⟨ib, off, h1, by rw [hsz]; exact h2, h3, h4, h5, fun j hj => (World.cell?_of_block (hne ib h4)).trans (h6 j hj)⟩
  · obtain ⟨l1, l2, l3⟩ := hr.lim
    exact ⟨l1, by simpa using l2, l3⟩
theorem Next.input {w : World} {L : Lay} {s : MS} (h : Holds w L s) (x : Int) (r : List Int) (he : s.inp = x :: r) (ib off : Nat) (hA : L.inA = some ⟨ib, off, none⟩) (A' : Option Addr) (c' : Nat)
    (hin : r = [] ∨ A' = some ⟨ib, off + 1, none⟩) (hc : r.length ≤ c' ∧ c' ≤ 9223372036854775807) : Next w L s (inW w L.m (.slice A' r.length c')) { L with inA := A', inc := c' } { s with inp := r } := by
  have hr := h.rows
  have hf : ∀ b, b ≠ L.m → (inW w L.m (.slice A' r.length c')).heap[b]? = w.heap[b]? := fun b hb => Below.heap_setCell _ _ _ _ hb
  have hsz : (inW w L.m (.slice A' r.length c')).heap.size = w.heap.size := by simp [inW, World.setCell]
  obtain ⟨a1, a2, a3, a4, a5⟩ := hr.apart
  obtain ⟨l1, l2, l3, l4, l5⟩ := hr.lim
  rw [he] at l5
  have key : r = [] ∨ ∃ ib off, A' = some ⟨ib, off, none⟩ ∧ ib < (inW w L.m (.slice A' r.length c')).heap.size ∧ ib ≠ L.m ∧ ib ≠ L.mb ∧ L.out.ownBlock ≠ some ib ∧ ∀ j, j < r.length → (inW w L.m (.slice A' r.length c')).cell? ⟨ib, off + j, none⟩ = some (.int .u8 (r.getD j 0)) := by
    refine hin.imp id fun hA' => ?_
    rcases hr.in_at with h0 | ⟨ib', off', h1, h2, h3, h4, h5, h6⟩
    · rw [he] at h0; cases h0
    · rw [hA] at h1; cases h1
      refine ⟨ib, off + 1, hA', by rw [hsz]; exact h2, h3, h4, h5, fun j hj => (World.cell?_of_block (hf ib h3)).trans ?_⟩
      have := h6 (j + 1) (by rw [he]; simpa using hj)
      rw [he] at this
      simpa [Nat.add_assoc, Nat.add_comm 1 j] using this
  refine ⟨⟨fun o => ?_, fun j hj => ?_, ?_⟩, rfl, Far.set w _ _ (by simp [Lay.foot]), fun b hb => .inl ?_⟩
  · unfold inW; rw [World.frozen?_setCell]; exact h.free o
  · by_cases e : j = 19
    · subst e; exact World.cell?_setCell_same _ _ _ (h.cells 19 hj)
    · refine (World.cell?_setCell_other _ _ _ _ (fun e' => e (by injection e' with _ e' _; exact e'.symm))).trans ((h.cells j hj).trans ?_)
      unfold mcell
      dsimp only
      rw [if_neg e, if_neg e]
  · have h2 := hr.frame (w' := inW w L.m (.slice A' r.length c')) (Nat.le_of_eq hsz.symm) fun b hb _ => hf b hb
    exact ⟨h2.code_at, h2.mem_at, h2.mem_free, h2.ops_at, key, h2.out_at, h2.blocks, h2.apart, h2.out_apart, h2.code_in, l1, l2, hc.1, hc.2, fun v hv => l5 v (List.mem_cons_of_mem _ hv)⟩
  · rcases hb with hb | hb | hb | hb | hb | ⟨hb1, o', hb2⟩
    · exact .inl hb
    · exact .inr (.inl hb)
    · exact .inr (.inr (.inl hb))
    · exact .inr (.inr (.inr (.inl hb)))
    · exact .inr (.inr (.inr (.inr (.inl hb))))
    · refine .inr (.inr (.inr (.inr (.inr ⟨by rw [he]; simp, off, ?_⟩))))
      rcases hin with h0 | hA'
      · exact absurd h0 hb1
      · dsimp only at hb2
        rw [hA'] at hb2; cases hb2; exact hA
theorem Next.output {w w1 : World} {L : Lay} {s : MS} (h : Holds w L s) (v : Int) (v' : Value) (ha : Appended w 0 5 1 L.out (s.out.length + 1) (nums .u8 (s.out ++ [v])) v' w1) :
    Next w L s (outW w1 L.m v') { L with out := v' } { s with out := s.out ++ [v] } := by
  obtain ⟨ho, hg, hn⟩ := ha
  have hr := h.rows
  obtain ⟨a1, a2, a3, a4, a5⟩ := hr.apart
  obtain ⟨o1, o2, o3, o4⟩ := hr.out_apart
  obtain ⟨b1, b2, b3, b4⟩ := hr.blocks
  have hsz : (outW w1 L.m v').heap.size = w1.heap.size := by simp [outW, World.setCell]
  have hgs := hg.size
  have hf : ∀ b, b ≠ L.m → b < w.heap.size → L.out.ownBlock ≠ some b → (outW w1 L.m v').heap[b]? = w.heap[b]? := fun b hb hl ho => (Below.heap_setCell _ _ _ _ hb).trans (hg.block b hl (fun e => ho e.symm))
  have hne : ∀ b, b < w.heap.size → L.out.ownBlock ≠ some b → v'.ownBlock ≠ some b := fun b hb hn' he => (hn b he).elim hn' (fun h => by omega)
  have hm : ∀ o, w1.cell? ⟨L.m, o, none⟩ = w.cell? ⟨L.m, o, none⟩ := fun o => World.cell?_of_block (hg.block L.m b1 (fun e => o1 e.symm))
  refine ⟨⟨fun o => ?_, fun j hj => ?_, ⟨fun k hk => (World.cell?_of_block (hf L.cb (Ne.symm a2) b3 o3)).trans (hr.code_at k hk), fun k hk => (World.cell?_of_block (hf L.mb (Ne.symm a1) b2 o2)).trans (hr.mem_at k hk),
    fun o => (World.frozen?_of_block (hf L.mb (Ne.symm a1) b2 o2)).trans (hr.mem_free o), fun k hk => (World.cell?_of_block (hf L.ob (Ne.symm a3) b4 o4)).trans (hr.ops_at k hk), ?_, ?_, ?_, hr.apart, ?_, hr.code_in, hr.lim⟩⟩, rfl, ?_, fun b hb => ?_⟩
  · unfold outW; rw [World.frozen?_setCell]
    exact (World.frozen?_of_block (hg.block L.m b1 (fun e => o1 e.symm))).trans (h.free o)
  · by_cases e : j = 20
    · subst e
      exact World.cell?_setCell_same _ _ _ ((hm 20).trans (h.cells 20 hj))
    · refine (World.cell?_setCell_other _ _ _ _ (fun e' => e (by injection e' with _ e' _; exact e'.symm))).trans (((hm j).trans (h.cells j hj)).trans ?_)
      unfold mcell
      dsimp only
      rw [if_neg e, if_neg e]
  · refine hr.in_at.imp id ?_
    rintro ⟨ib, off, h1, h2, h3, h4, h5, h6⟩
    exact ⟨ib, off, h1, by rw [hsz]; omega, h3, h4, hne ib h2 h5, fun j hj => (World.cell?_of_block (hf ib h3 h2 h5)).trans (h6 j hj)⟩
  · have h1 : (outW w1 L.m v').ownsRow 0 5 1 v' (s.out.length + 1) (nums .u8 (s.out ++ [v])) := ownsRow_frame ho fun k hk => Below.heap_setCell _ _ _ _ (fun e => hne L.m b1 o1 (hk.trans (congrArg some e)))
    simpa using h1
  · rw [hsz]; exact ⟨by dsimp only; omega, by dsimp only; omega, by dsimp only; omega, by dsimp only; omega⟩
  · exact ⟨hne _ b1 o1, hne _ b2 o2, hne _ b3 o3, hne _ b4 o4⟩
  · have hgf : Far (L.foot s.inp) w w1 := ⟨hg.os, hg.tape, hg.output, hg.size, fun k hk hn' => hg.block k hk (fun e => hn' (by simp [Lay.foot, ← e]))⟩
    exact hgf.trans (Far.set (may := L.foot s.inp) w1 ⟨L.m, 20, none⟩ v' (by simp [Lay.foot])) fun _ _ hb => hb
  · rcases hb with hb | hb | hb | hb | hb | hb
    · exact .inl (.inl hb)
    · exact .inl (.inr (.inl hb))
    · exact .inl (.inr (.inr (.inl hb)))
    · exact .inl (.inr (.inr (.inr (.inl hb))))
    · exact (hn b hb).imp (fun h' => .inr (.inr (.inr (.inr (.inl h'))))) id
    · exact .inl (.inr (.inr (.inr (.inr (.inr hb)))))
end Go.Proofs.Ytbchiolgbhckhaa.Mach
end

section
/- Every operation of the machine, told by the plain state. -/
set_option linter.unusedVariables false
set_option linter.unusedSimpArgs false
namespace Go.Proofs.Ytbchiolgbhckhaa.Mach
open Go.RowKit Go.Proofs.YtbchiolgbhckhaaW.PrintWords Go.Proofs.YtbchiolgbhckhaaW.PrintMore Go.Proofs.Ytbchiolgbhckhaa.PMachRuns

/-- What an operation leaves: it is done, or it has given up and nothing has turned. -/
def OpEnd (w : World) (L : Lay) (s s' : MS) (e : Ending) (w' : World) : Prop :=
  (e = .returned (.tuple #[]) ∧ ∃ L', Next w L s w' L' s') ∨ (e = faultP ∧ s' = s.fault ∧ Below w.heap.size w w')
theorem did {w W w' : World} {L L' : Lay} {s s' : MS} {e : Ending} (h : Next w L s W L' s') (hs : W.heap.size = w.heap.size) (hd : Did w W e w') : OpEnd w L s s' e w' :=
  .inl ⟨hd.1, L', h.below (by rw [hs]; exact hd.2)⟩
theorem died {w w' : World} {L : Lay} {s s' : MS} {e : Ending} (h : s' = s.fault) (hd : Died w e w') : OpEnd w L s s' e w' := .inr ⟨hd.1, h, hd.2⟩
/-- A machine's operation, called with an instruction. -/
def opArgs (L : Lay) (x : I5) : Array Value := #[.pointer (some ⟨L.m, 0, none⟩), .agg #[.int .i64 x.o, .int .i64 x.a, .int .i64 x.b, .int .i64 x.c, .int .i64 x.i]]
section
variable {w : World} {L : Lay} {s : MS} (x : I5) (h : Holds w L s)
include h
theorem Holds.hm : L.m < w.heap.size := h.rows.blocks.1
theorem Holds.mem_cell : w.cell? ⟨L.m, 1, none⟩ = some (.slice (some ⟨L.mb, 0, none⟩) s.mem.length L.mc) := h.cells 1 (by omega)
theorem Holds.pc_cell : w.cell? ⟨L.m, 18, none⟩ = some (.int .i64 s.pc) := h.cells 18 (by omega)
theorem Holds.kind_cell : w.cell? ⟨L.m, 21, none⟩ = some (.int .i64 s.kind) := h.cells 21 (by omega)
theorem Holds.panics_cell : w.cell? ⟨L.m, 22, none⟩ = some (.int .i64 s.panics) := h.cells 22 (by omega)
theorem Holds.ne : ¬ L.m = L.mb := h.rows.apart.1
theorem Holds.ne' : ¬ L.mb = L.m := fun e => h.rows.apart.1 e.symm
theorem Holds.mem_read {k : Int} (k0 : 0 ≤ k) (k1 : k < s.mem.length) : w.cell? ⟨L.mb, k.toNat, none⟩ = some (.int .i64 (rd s.mem k)) := h.rows.mem_at k.toNat (by omega)
theorem op_halt  : Calls Try.prog 32 (opArgs L x) w (OpEnd w L s (s.ends 1 0)) := by
  exact (halt_any L.m x.o x.a x.b x.c x.i _ _ w h.hm h.free h.kind_cell h.panics_cell).mono fun e w' hd => did (Next.ends h 1 0) (by simp [endsW, World.setCell]) hd
theorem op_trap  : Calls Try.prog 33 (opArgs L x) w (OpEnd w L s (trapS s x.i)) := by
  unfold trapS
  by_cases h1 : 1 ≤ x.i ∧ x.i ≤ 999
  · rw [if_pos h1]
    exact (trap_1 L.m x.o x.a x.b x.c x.i _ _ w h.hm h.free h.kind_cell h.panics_cell h1.1 h1.2).mono fun e w' hd => did (Next.ends h 2 x.i) (by simp [endsW, World.setCell]) hd
  rw [if_neg h1]
  by_cases h2 : x.i = 1000
  · rw [if_pos h2]
    exact (trap_2 L.m x.o x.a x.b x.c x.i _ _ w h.hm h.free h.kind_cell h.panics_cell h2).mono fun e w' hd => did (Next.ends h 3 0) (by simp [endsW, World.setCell]) hd
  rw [if_neg h2]
  by_cases h3 : x.i = 1001
  · rw [if_pos h3]
    exact (trap_3 L.m x.o x.a x.b x.c x.i _ _ w h.hm h.free h.kind_cell h.panics_cell h3).mono fun e w' hd => did (Next.ends h 4 0) (by simp [endsW, World.setCell]) hd
  rw [if_neg h3]
  by_cases h4 : x.i < 1
  · exact (trap_4 L.m x.o x.a x.b x.c x.i _ _ w h.hm h.free h.kind_cell h.panics_cell h4).mono fun e w' hd => did (Next.ends h 5 0) (by simp [endsW, World.setCell]) hd
  · exact (trap_5 L.m x.o x.a x.b x.c x.i _ _ w h.hm h.free h.kind_cell h.panics_cell (by omega) h2 h3).mono fun e w' hd => did (Next.ends h 5 0) (by simp [endsW, World.setCell]) hd
theorem op_move (ha : x.a < 16) (hb : x.b < 16) : Calls Try.prog 34 (opArgs L x) w (OpEnd w L s (s.set x.a (s.reg x.b))) := by
  exact (move_any L.m x.a x.b x.c x.o x.i (s.reg x.a) (s.reg x.b) (s.reg x.c) w h.hm h.free (h.reg x.a ha) (by omega) (h.reg x.b hb) (by omega)).mono fun e w' hd => did (Next.reg h x.a ha _) (by simp [regW, World.setCell]) hd
theorem op_konst (ha : x.a < 16) : Calls Try.prog 35 (opArgs L x) w (OpEnd w L s (s.set x.a x.i)) := by
  exact (konst_any L.m x.a x.b x.c x.o x.i (s.reg x.a) (s.reg x.b) (s.reg x.c) w h.hm h.free (h.reg x.a ha) (by omega)).mono fun e w' hd => did (Next.reg h x.a ha _) (by simp [regW, World.setCell]) hd
theorem op_high (ha : x.a < 16) : Calls Try.prog 36 (opArgs L x) w (OpEnd w L s (s.set x.a (high (s.reg x.a) x.i))) := by
  have he : high (s.reg x.a) x.i = wrap64 (wrap64 (s.reg x.a * 4294967296) + wrap64 (x.i % 4294967296)) := by
    unfold high
    rw [in64 (n := x.i % 4294967296) (by omega) (by omega)]
  rw [he]
  exact (high_any L.m x.a x.b x.c x.o x.i (s.reg x.a) (s.reg x.b) (s.reg x.c) w h.hm h.free (h.reg x.a ha) (by omega)).mono fun e w' hd => did (Next.reg h x.a ha _) (by simp [regW, World.setCell]) hd
omit h in
theorem at_iff (s : MS) (k : Int) : s.at_ k = true ↔ 0 ≤ k ∧ k < s.mem.length := by simp [MS.at_]
omit h in
theorem at_no' {s : MS} {k : Int} (hk : ¬ s.at_ k = true) : k < 0 ∨ s.mem.length ≤ k := by rw [at_iff] at hk; omega
theorem op_load (ha : x.a < 16) (hb : x.b < 16) : Calls Try.prog 37 (opArgs L x) w (OpEnd w L s (if s.at_ (wrap64 (s.reg x.b + x.i)) = true then s.set x.a (rd s.mem (wrap64 (s.reg x.b + x.i))) else s.fault)) := by
  have hk : IntKind.i64.wrap (s.reg x.b + x.i) = wrap64 (s.reg x.b + x.i) := Num.i64_wrap_eq _
  by_cases hat : s.at_ (wrap64 (s.reg x.b + x.i)) = true
  · rw [if_pos hat]
    obtain ⟨k0, k1⟩ := (at_iff s _).1 hat
    exact (load_yes L.m L.mb s.mem.length L.mc x.a x.b x.c x.o x.i (s.reg x.a) (s.reg x.b) (s.reg x.c) _ _ w h.hm h.free h.mem_cell h.rows.lim.2.1 (h.reg x.a ha) (by omega) (h.reg x.b hb) (by omega) hk k0 k1 (h.mem_read k0 k1) h.rows.blocks.2.1).mono fun e w' hd => did (Next.reg h x.a ha _) (by simp [regW, World.setCell]) hd
  · rw [if_neg hat]
    exact (load_no L.m s.mem.length L.mc x.a x.b x.c (some ⟨L.mb, 0, none⟩) x.o x.i (s.reg x.a) (s.reg x.b) (s.reg x.c) _ w h.hm h.free h.mem_cell h.rows.lim.2.1 (h.reg x.a ha) (by omega) (h.reg x.b hb) (by omega) hk (at_no' hat)).mono fun e w' hd => died rfl hd
theorem op_store (ha : x.a < 16) (hb : x.b < 16) : Calls Try.prog 38 (opArgs L x) w (OpEnd w L s (if s.at_ (wrap64 (s.reg x.b + x.i)) = true then s.put (wrap64 (s.reg x.b + x.i)) (s.reg x.a) else s.fault)) := by
  have hk : IntKind.i64.wrap (s.reg x.b + x.i) = wrap64 (s.reg x.b + x.i) := Num.i64_wrap_eq _
  by_cases hat : s.at_ (wrap64 (s.reg x.b + x.i)) = true
  · rw [if_pos hat]
    obtain ⟨k0, k1⟩ := (at_iff s _).1 hat
    exact (store_yes L.m L.mb s.mem.length L.mc x.a x.b x.c x.o x.i (s.reg x.a) (s.reg x.b) (s.reg x.c) _ _ w h.hm h.free h.mem_cell h.rows.lim.2.1 (h.reg x.a ha) (by omega) (h.reg x.b hb) (by omega) hk k0 k1 (h.mem_read k0 k1) h.rows.blocks.2.1 (h.rows.mem_free _) h.ne h.ne').mono fun e w' hd => did (Next.mem h _ (by omega) _) (by simp [memW, World.setCell]) hd
  · rw [if_neg hat]
    exact (store_no L.m s.mem.length L.mc x.a x.b x.c (some ⟨L.mb, 0, none⟩) x.o x.i (s.reg x.a) (s.reg x.b) (s.reg x.c) _ w h.hm h.free h.mem_cell h.rows.lim.2.1 (h.reg x.a ha) (by omega) (h.reg x.b hb) (by omega) hk (at_no' hat)).mono fun e w' hd => died rfl hd
theorem op_jump  : Calls Try.prog 39 (opArgs L x) w (OpEnd w L s (s.jump x.i)) := by
  exact (jump_any L.m x.a x.b x.c x.o x.i (s.reg x.a) (s.reg x.b) (s.reg x.c) s.pc w h.hm h.free h.pc_cell).mono fun e w' hd => did (Next.pc h _) (by simp [pcW, World.setCell]) hd
theorem op_zero (ha : x.a < 16) : Calls Try.prog 40 (opArgs L x) w (OpEnd w L s (if s.reg x.a = 0 then s.jump x.i else s)) := by
  by_cases hz : s.reg x.a = 0
  · rw [if_pos hz]
    exact (zero_yes L.m x.a x.b x.c x.o x.i (s.reg x.a) (s.reg x.b) (s.reg x.c) s.pc w h.hm h.free h.pc_cell (h.reg x.a ha) (by omega) (by simp [hz])).mono fun e w' hd => did (Next.pc h _) (by simp [pcW, World.setCell]) hd
  · rw [if_neg hz]
    exact (zero_no L.m x.a x.b x.c x.o x.i (s.reg x.a) (s.reg x.b) (s.reg x.c) s.pc w h.hm h.free h.pc_cell (h.reg x.a ha) (by omega) (by simp [hz])).mono fun e w' hd => did (Next.refl h) rfl hd
theorem op_some (ha : x.a < 16) : Calls Try.prog 41 (opArgs L x) w (OpEnd w L s (if s.reg x.a = 0 then s else s.jump x.i)) := by
  by_cases hz : s.reg x.a = 0
  · rw [if_pos hz]
    exact (some_no L.m x.a x.b x.c x.o x.i (s.reg x.a) (s.reg x.b) (s.reg x.c) s.pc w h.hm h.free h.pc_cell (h.reg x.a ha) (by omega) (by simp [hz])).mono fun e w' hd => did (Next.refl h) rfl hd
  · rw [if_neg hz]
    exact (some_yes L.m x.a x.b x.c x.o x.i (s.reg x.a) (s.reg x.b) (s.reg x.c) s.pc w h.hm h.free h.pc_cell (h.reg x.a ha) (by omega) (by simp [hz])).mono fun e w' hd => did (Next.pc h _) (by simp [pcW, World.setCell]) hd
theorem Next.enter {k : Int} (k0 : 0 ≤ k) (k1 : k < s.mem.length) : Next w L s (enterW w L.m L.mb k s.pc) L ((s.put k s.pc).set 15 k) := by
  have h1 : Next w L s (memW w L.mb k.toNat s.pc) L (s.put k s.pc) := Next.mem h k.toNat (by omega) s.pc
  exact h1.trans (Next.reg h1.holds 15 (by omega) k)
theorem op_call  : Calls Try.prog 42 (opArgs L x) w (OpEnd w L s (s.call (fun _ => x.i))) := by
  have hk : IntKind.i64.wrap (s.reg 15 - 1) = wrap64 (s.reg 15 - 1) := Num.i64_wrap_eq _
  unfold MS.call
  dsimp only
  by_cases hat : s.at_ (wrap64 (s.reg 15 - 1)) = true
  · rw [if_pos hat]
    obtain ⟨k0, k1⟩ := (at_iff s _).1 hat
    have hn := Next.enter h k0 k1
    exact (call_yes L.m L.mb s.mem.length L.mc x.a x.b x.c x.o x.i (s.reg x.a) (s.reg x.b) (s.reg x.c) (s.reg 15) s.pc _ _ w h.hm h.free h.mem_cell h.rows.lim.2.1 (h.reg 15 (by omega)) h.pc_cell hk k0 k1 (h.mem_read k0 k1) h.rows.blocks.2.1 (h.rows.mem_free _) h.ne h.ne').mono fun e w' hd => did (hn.trans (Next.pc hn.holds _)) (by simp [pcW, enterW, regW, memW, World.setCell]) hd
  · rw [if_neg hat]
    exact (call_no L.m s.mem.length L.mc x.a x.b x.c (some ⟨L.mb, 0, none⟩) x.o x.i (s.reg x.a) (s.reg x.b) (s.reg x.c) (s.reg 15) s.pc _ w h.hm h.free h.mem_cell h.rows.lim.2.1 (h.reg 15 (by omega)) h.pc_cell hk (at_no' hat)).mono fun e w' hd => died rfl hd
theorem op_at (ha : x.a < 16) : Calls Try.prog 43 (opArgs L x) w (OpEnd w L s (s.call (fun t => t.reg x.a))) := by
  have hk : IntKind.i64.wrap (s.reg 15 - 1) = wrap64 (s.reg 15 - 1) := Num.i64_wrap_eq _
  unfold MS.call
  dsimp only
  by_cases hat : s.at_ (wrap64 (s.reg 15 - 1)) = true
  · rw [if_pos hat]
    obtain ⟨k0, k1⟩ := (at_iff s _).1 hat
    have hn := Next.enter h k0 k1
    by_cases e15 : x.a = 15
    · have he : ((s.put (wrap64 (s.reg 15 - 1)) s.pc).set 15 (wrap64 (s.reg 15 - 1))).reg x.a = wrap64 (s.reg 15 - 1) := by rw [e15]; simp [MS.set]
      rw [he]
      exact (at_yes_15 L.m L.mb s.mem.length L.mc x.a x.b x.c x.o x.i (s.reg x.a) (s.reg x.b) (s.reg x.c) (s.reg 15) s.pc _ _ w h.hm h.free h.mem_cell h.rows.lim.2.1 (h.reg 15 (by omega)) h.pc_cell hk k0 k1 (h.mem_read k0 k1) h.rows.blocks.2.1 (h.rows.mem_free _) h.ne h.ne' (by omega)).mono fun e w' hd => did (hn.trans (Next.pc hn.holds _)) (by simp [pcW, enterW, regW, memW, World.setCell]) hd
    · have he : ((s.put (wrap64 (s.reg 15 - 1)) s.pc).set 15 (wrap64 (s.reg 15 - 1))).reg x.a = s.reg x.a := by simp [MS.set, MS.put, e15]
      rw [he]
      exact (at_yes L.m L.mb s.mem.length L.mc x.a x.b x.c x.o x.i (s.reg x.a) (s.reg x.b) (s.reg x.c) (s.reg 15) s.pc _ _ w h.hm h.free h.mem_cell h.rows.lim.2.1 (h.reg 15 (by omega)) h.pc_cell hk k0 k1 (h.mem_read k0 k1) h.rows.blocks.2.1 (h.rows.mem_free _) h.ne h.ne' (h.reg x.a ha) (by omega) e15).mono fun e w' hd => did (hn.trans (Next.pc hn.holds _)) (by simp [pcW, enterW, regW, memW, World.setCell]) hd
  · rw [if_neg hat]
    exact (at_no L.m s.mem.length L.mc x.a x.b x.c (some ⟨L.mb, 0, none⟩) x.o x.i (s.reg x.a) (s.reg x.b) (s.reg x.c) (s.reg 15) s.pc _ w h.hm h.free h.mem_cell h.rows.lim.2.1 (h.reg 15 (by omega)) h.pc_cell hk (at_no' hat)).mono fun e w' hd => died rfl hd
theorem op_ret  : Calls Try.prog 44 (opArgs L x) w (OpEnd w L s (if s.at_ (s.reg 15) = true then { s.set 15 (wrap64 (s.reg 15 + 1)) with pc := rd s.mem (s.reg 15) } else s.fault)) := by
  by_cases hat : s.at_ (s.reg 15) = true
  · rw [if_pos hat]
    obtain ⟨k0, k1⟩ := (at_iff s _).1 hat
    have l2 := h.rows.lim.2.1
    rw [in64 (n := s.reg 15 + 1) (by omega) (by omega)]
    have hn := Next.pc h (rd s.mem (s.reg 15))
    exact (ret_yes L.m L.mb s.mem.length L.mc x.a x.b x.c x.o x.i (s.reg x.a) (s.reg x.b) (s.reg x.c) (s.reg 15) s.pc _ w h.hm h.free h.mem_cell h.rows.lim.2.1 (h.reg 15 (by omega)) h.pc_cell k0 k1 (h.mem_read k0 k1) h.rows.blocks.2.1).mono fun e w' hd => did (hn.trans (Next.reg hn.holds 15 (by omega) _)) (by simp [pcW, regW, World.setCell]) hd
  · rw [if_neg hat]
    exact (ret_no L.m s.mem.length L.mc x.a x.b x.c (some ⟨L.mb, 0, none⟩) x.o x.i (s.reg x.a) (s.reg x.b) (s.reg x.c) (s.reg 15) s.pc w h.hm h.free h.mem_cell h.rows.lim.2.1 (h.reg 15 (by omega)) h.pc_cell (at_no' hat)).mono fun e w' hd => died rfl hd
theorem op_read (ha : x.a < 16) : Calls Try.prog 45 (opArgs L x) w (OpEnd w L s (match s.inp with | [] => s.set x.a (-1) | b :: r => { s.set x.a b with inp := r })) := by
  have h19 := h.cells 19 (by omega)
  have h19 : w.cell? ⟨L.m, 19, none⟩ = some (.slice L.inA s.inp.length L.inc) := h19
  have hl := h.rows.lim
  have hi := h.rows.in_at
  cases hs : s.inp with
  | nil =>
    rw [hs] at h19
    exact (read_no L.m x.a x.b x.c x.o x.i (s.reg x.a) (s.reg x.b) (s.reg x.c) L.inA L.inc w h.hm h.free (h.reg x.a ha) (by omega) h19).mono fun e w' hd => did (Next.reg h x.a ha _) (by simp [regW, World.setCell]) hd
  | cons b r =>
    rw [hs] at h19 hi hl
    dsimp only
    rcases hi with h0 | ⟨ib, off, hA, h2, h3, h4, h5, h6⟩
    · cases h0
    rw [hA] at h19
    obtain ⟨l1, l2, l3, l4, l5⟩ := hl
    have hb := l5 b (by simp)
    have hx : w.cell? ⟨ib, off, none⟩ = some (.int .u8 b) := h6 0 (by simp)
    have n1 := Next.reg h x.a ha (-1)
    have n2 := Next.reg n1.holds x.a ha b
    have e2 : (s.set x.a (-1)).set x.a b = s.set x.a b := by
      unfold MS.set
      dsimp only
      congr 1
      funext j
      split <;> rfl
    rw [e2] at n2
    have n12 := n1.trans n2
    by_cases hc1 : L.inc = 1
    · have hr : r = [] := by
        cases r with
        | nil => rfl
        | cons _ _ => simp at l3; omega
      subst hr
      rw [hc1] at h19
      have n3 := Next.input n12.holds b [] hs ib off hA (some ⟨ib, off, none⟩) 0 (.inl rfl) ⟨by simp, by omega⟩
      exact (read_last L.m x.a x.b x.c x.o x.i (s.reg x.a) (s.reg x.b) (s.reg x.c) ib off 0 0 b w h.hm h.free (h.reg x.a ha) (by omega) h19 hx hb.1 hb.2 h2 (fun e => h3 e.symm)).mono fun e w' hd => did (n12.trans n3) (by simp [regW, inW, World.setCell]) hd
    · simp only [List.length_cons] at h19 l3
      have n3 := Next.input n12.holds b r hs ib off hA (some ⟨ib, off + 1, none⟩) (L.inc - 1) (.inr rfl) ⟨by omega, by omega⟩
      exact (read_yes L.m x.a x.b x.c x.o x.i (s.reg x.a) (s.reg x.b) (s.reg x.c) ib off r.length L.inc b w h.hm h.free (h.reg x.a ha) (by omega) h19 l3 hc1 l4 hx hb.1 hb.2 h2 (fun e => h3 e.symm)).mono fun e w' hd => did (n12.trans n3) (by simp [regW, inW, World.setCell]) hd
theorem op_write (ha : x.a < 16) : Calls Try.prog 46 (opArgs L x) w (OpEnd w L s (if s.out.length < 4096 then { s with out := s.out ++ [s.reg x.a % 256] } else s)) := by
  have h20 : w.cell? ⟨L.m, 20, none⟩ = some L.out := h.cells 20 (by omega)
  have ho := h.rows.out_at
  have hsh : ∃ A cc, L.out = .slice A s.out.length cc := by
    rcases ho.2 with ⟨e1, e2⟩ | ⟨g, cap, cur, e1, _⟩
    · exact ⟨none, 0, by rw [e1, e2]⟩
    · exact ⟨_, cap, e1⟩
  obtain ⟨A, cc, hv⟩ := hsh
  rw [hv] at h20
  by_cases hn : s.out.length < 4096
  · rw [if_pos hn]
    have hom := h.rows.out_apart.1
    rw [hv] at ho hom
    refine (write_yes L.m x.a x.b x.c x.o x.i (s.reg x.a) (s.reg x.b) (s.reg x.c) A s.out.length cc s.out w h.hm h.free (h.reg x.a ha) (by omega) h20 (by omega) ho (fun e => hom e.symm)).mono ?_
    rintro e w' ⟨he, v', w1, hap, hb⟩
    rw [← hv] at hap
    have hnx := Next.output h _ v' hap
    exact .inl ⟨he, _, hnx.below (by have hz : (outW w1 L.m v').heap.size = w1.heap.size := (by simp [outW, World.setCell]); rw [hz]; exact hb)⟩
  · rw [if_neg hn]
    exact (write_full L.m x.a x.b x.c x.o x.i (s.reg x.a) (s.reg x.b) (s.reg x.c) A s.out.length cc w h.hm h.free h20 (by omega)).mono fun e w' hd => did (Next.refl h) rfl hd
theorem op_room (ha : x.a < 16) : Calls Try.prog 47 (opArgs L x) w (OpEnd w L s (s.set x.a s.mem.length)) := by
  exact (room_any L.m s.mem.length L.mc x.a x.b x.c (some ⟨L.mb, 0, none⟩) x.o x.i (s.reg x.a) (s.reg x.b) (s.reg x.c) w h.hm h.free h.mem_cell h.rows.lim.2.1 (h.reg x.a ha) (by omega)).mono fun e w' hd => did (Next.reg h x.a ha _) (by simp [regW, World.setCell]) hd
theorem op_words (ha : x.a < 16) (hb : x.b < 16) (hc : x.c < 16) (ho : 16 ≤ x.o ∧ x.o < 64) (hu : 40 ≤ x.o → (un2 (x.o - 40) (s.reg x.b)).2 = 0) : Calls Try.prog 51 (opArgs L x) w (OpEnd w L s (let r := if x.o < 40 then bin2 (x.o - 16) (s.reg x.b) (s.reg x.c) else un2 (x.o - 40) (s.reg x.b); if r.2 = 0 then s.set x.a r.1 else s.ends 2 r.2)) := by
  show Calls Try.prog 51 (opArgs L x) w (OpEnd w L s (if (if x.o < 40 then bin2 (x.o - 16) (s.reg x.b) (s.reg x.c) else un2 (x.o - 40) (s.reg x.b)).2 = 0 then s.set x.a (if x.o < 40 then bin2 (x.o - 16) (s.reg x.b) (s.reg x.c) else un2 (x.o - 40) (s.reg x.b)).1 else s.ends 2 (if x.o < 40 then bin2 (x.o - 16) (s.reg x.b) (s.reg x.c) else un2 (x.o - 40) (s.reg x.b)).2))
  by_cases h40 : x.o < 40
  · rw [if_pos h40]
    generalize hr : bin2 (x.o - 16) (s.reg x.b) (s.reg x.c) = r
    obtain ⟨v, u⟩ := r
    dsimp only
    by_cases h0 : u = 0
    · subst h0
      rw [if_pos rfl]
      exact (words_bin L.m x.a x.b x.c x.o x.i (s.reg x.a) (s.reg x.b) (s.reg x.c) v w h.hm h.free (by omega) (by omega) hr (h.reg x.a ha) (by omega) (h.reg x.b hb) (by omega) (h.reg x.c hc) (by omega)).mono fun e w' hd => did (Next.reg h x.a ha _) (by simp [regW, World.setCell]) hd
    · rw [if_neg h0]
      exact (words_bin_panic L.m x.a x.b x.c x.o x.i (s.reg x.a) (s.reg x.b) (s.reg x.c) v u _ _ w h.hm h.free (by omega) (by omega) hr h0 (h.reg x.b hb) (by omega) (h.reg x.c hc) (by omega) h.kind_cell h.panics_cell).mono fun e w' hd => did (Next.ends h 2 u) (by simp [endsW, World.setCell]) hd
  · rw [if_neg h40]
    have h0 := hu (by omega)
    generalize hr : un2 (x.o - 40) (s.reg x.b) = r at h0
    obtain ⟨v, u⟩ := r
    dsimp only at h0 ⊢
    subst h0
    rw [if_pos rfl]
    exact (words_un L.m x.a x.b x.c x.o x.i (s.reg x.a) (s.reg x.b) v w h.hm h.free ⟨by omega, by omega⟩ (by omega) hr (h.reg x.a ha) (by omega) (h.reg x.b hb) (by omega)).mono fun e w' hd => did (Next.reg h x.a ha _) (by simp [regW, World.setCell]) hd
end
end Go.Proofs.Ytbchiolgbhckhaa.Mach
end

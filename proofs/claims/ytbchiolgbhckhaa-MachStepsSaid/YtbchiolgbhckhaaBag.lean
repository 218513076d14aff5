/- A region whose order is drawn, with several makers of memory in whatever order: one invariant over what is done already. -/
import Derived.Test.YtbchiolgbhckhaaA1
set_option linter.unusedVariables false
namespace Go.Proofs.Ytbchiolgbhckhaa.Mach
open Go.RowKit Go.Proofs.YtbchiolgbhckhaaW.PrintWords
section
variable {P : Program} {ops : Array Oper} {Q : Exit → Act → World → Prop} {md : Region.Mode} {S : World → Prop}
def bagB (md : Region.Mode) (ops : Array Oper) (n g : Nat) : Nat → Array Bool → Bool
  | 0, listed => Region.seqB md ops g n listed
  | k + 1, listed => !(Region.ready md ops listed).isEmpty && (Region.ready md ops listed).all fun i => decide (i < n) && bagB md ops n g k (listed.setIfInBounds i true)
theorem bag_head {n g : Nat} {T : Act → World → Prop} (Inv : Array Bool → Act → World → Prop)
    (hstep : ∀ listed a w i, Inv listed a w → i < n → i ∈ Region.ready md ops listed → wpOp P ops Q i (fun a' w' => S w' ∧ Inv (listed.setIfInBounds i true) a' w') a w)
    (hT : ∀ listed a w, Inv listed a w → Region.seqB md ops g n listed = true → T a w) :
    ∀ (k : Nat) (listed : Array Bool) (a : Act) (w : World), bagB md ops n g k listed = true → Inv listed a w → headAny P md ops Q S n (fun l a w => Region.seqB md ops g n l = true ∧ T a w) k listed a w
  | 0, listed, a, w, hB, h => ⟨hB, hT _ _ _ h hB⟩
  | k + 1, listed, a, w, hB, h => by
    simp only [bagB, Bool.and_eq_true, Bool.not_eq_true', List.all_eq_true, decide_eq_true_eq] at hB
    refine ⟨fun e => by rw [e] at hB; simp at hB, fun i hi => ?_⟩
    obtain ⟨h1, h2⟩ := hB.2 i hi
    exact ⟨h1, wpOp_mono (fun a' w' h' => ⟨h'.1, bag_head Inv hstep hT k _ a' w' h2 h'.2⟩) (hstep listed a w i h h1 hi)⟩
def preB (md : Region.Mode) (ops : Array Oper) (n g : Nat) : List Nat → Nat → Array Bool → Bool
  | [], k, listed => bagB md ops n g k listed
  | i :: r, k, listed => decide (i < n) && ((Region.ready md ops listed).contains i && Region.free md ops listed i) && preB md ops n g r k (listed.setIfInBounds i true)
def wpPre (P : Program) (ops : Array Oper) (Q : Exit → Act → World → Prop) (S : World → Prop) (Inv : Array Bool → Act → World → Prop) : List Nat → Array Bool → Act → World → Prop
  | [], listed, a, w => Inv listed a w
  | i :: r, listed, a, w => ∃ o v, ops[i]? = some o ∧ (∀ c a w, Q (.panic c) (a.put o.dst v) w → Q (.panic c) a w) ∧ YieldsIf P ops S o v a ∧ wpPre P ops Q S Inv r (listed.setIfInBounds i true) (a.put o.dst v) w
theorem pre_head {n g : Nat} {T : Act → World → Prop} (Inv : Array Bool → Act → World → Prop) (hsel : Region.noSelect ops = true) (hs : Region.sinkB md ops n = true) (hc : Region.chainB md ops n = true) (hn : n < ops.size)
    (hstep : ∀ listed a w i, Inv listed a w → i < n → i ∈ Region.ready md ops listed → wpOp P ops Q i (fun a' w' => S w' ∧ Inv (listed.setIfInBounds i true) a' w') a w)
    (hT : ∀ listed a w, Inv listed a w → Region.seqB md ops g n listed = true → T a w) :
    ∀ (l : List Nat) (k : Nat) (listed : Array Bool) (a : Act) (w : World), HeadInv md ops n listed → preB md ops n g l k listed = true → S w → wpPre P ops Q S Inv l listed a w →
      headAny P md ops Q S n (fun l a w => Region.seqB md ops g n l = true ∧ T a w) (l.length + k) listed a w
  | [], k, listed, a, w, inv, hB, hS, h => by
    rw [List.length_nil, Nat.zero_add]
    exact bag_head Inv hstep hT k listed a w hB h
  | i :: r, k, listed, a, w, inv, hB, hS, h => by
    simp only [preB, Bool.and_eq_true, decide_eq_true_eq] at hB
    obtain ⟨⟨hin, hb⟩, hB'⟩ := hB
    simp only [wpPre] at h
    obtain ⟨o, v, ho, hQ, hy, hK⟩ := h
    have hr : i ∈ Region.ready md ops listed := by simpa using hb.1
    rw [List.length_cons, show r.length + 1 + k = (r.length + k) + 1 by omega]
    exact headAny_first ho hsel hs hc hn hin hQ (fun _ _ _ hL => seqB_ready hL.1) (r.length + k) listed a w inv (Region.free_spec ho hb.2) hr hy hS
      (pre_head Inv hsel hs hc hn hstep hT r k _ _ w (inv.set hr hin) hB' hS hK)
end
theorem region_bag {P : Program} {id : Nat} {Q : Exit → Act → World → Prop} {a : Act} {w : World} {l : List Oper} (S : World → World → Prop) (Inv : Act → World → Array Bool → Act → World → Prop) (T : Act → World → Act → World → Prop) (reads : List Nat) (n : Nat) (hm : P.follows .mixedOrders = true)
    (hB : (Region.noSelect l.toArray && decide (n < l.length) && Region.sinkB .any l.toArray n && Region.chainB .any l.toArray n && decide (reads.length ≤ n) && preB .any l.toArray n (l.length - n) reads (n - reads.length) (Array.replicate l.length false)) = true)
    (hS : S w.drew w.drew) (h : wpPre P l.toArray Q (S w.drew) (Inv a w.drew) reads (Array.replicate l.length false) a w.drew)
    (hstep : ∀ listed a' w' i, Inv a w.drew listed a' w' → i < n → i ∈ Region.ready .any l.toArray listed → wpOp P l.toArray Q i (fun a2 w2 => S w.drew w2 ∧ Inv a w.drew (listed.setIfInBounds i true) a2 w2) a' w')
    (hT : ∀ listed a' w', Inv a w.drew listed a' w' → Region.seqB .any l.toArray (l.length - n) n listed = true → T a w.drew a' w')
    (hF : ∀ a' w', T a w.drew a' w' → wpList P l.toArray Q (l.drop n) a' w') : (Code.region id l.toArray true).wp P Q a w := by
  simp only [Bool.and_eq_true, decide_eq_true_eq] at hB
  obtain ⟨⟨⟨⟨⟨hsel, hn⟩, hs⟩, hc⟩, hrl⟩, hw⟩ := hB
  have hdl : (l.drop n).length = l.length - n := by simp
  have inv0 : HeadInv .any l.toArray n (Array.replicate l.length false) :=
    ⟨by simp, fun j oj _ hl => (by rw [getD_replicate_false] at hl; cases hl), fun t _ ht => getD_in (by simpa using ht) (getD_replicate_false _ _)⟩
  have H := pre_head (md := .any) (g := l.length - n) (S := S w.drew) (T := T a w.drew) (Inv a w.drew) hsel hs hc (by simpa using hn) hstep hT reads (n - reads.length) _ a w.drew inv0 hw hS h
  rw [show reads.length + (n - reads.length) = n by omega] at H
  refine wp_region_any hm ?_
  have := headAny_any (g := l.length - n) (fun listed a' w' hL => by
    have := wpAny_of_seq (md := .any) (Q' := Q) (l.drop n) n listed a' w' (fun j => by simp [List.getElem?_drop]) (by rw [hdl]; exact hL.1) (hF a' w' hL.2)
    rwa [hdl] at this) _ _ _ _ H
  rw [show n + (l.length - n) = l.toArray.size by simp; omega] at this
  simpa using this
section
variable {P : Program} {ops : Array Oper} {Q : Exit → Act → World → Prop} {S : World → Prop} {Inv : Array Bool → Act → World → Prop} {i : Nat} {r : List Nat} {a : Act} {w : World} {o : Oper} {listed : Array Bool}
theorem pre_read (d : Option Tmp) (v : Value) (ho : ops[i]? = some o) (hd : o.dst = d) (hQ : ∀ c a w, Q (.panic c) (a.put d v) w → Q (.panic c) a w) (hw : Region.wanted o (yielded ops a.tmps) = true) (hy : ∀ w, S w → (execOp a.eval o).run P w = .ok (.value v) w)
    (h : wpPre P ops Q S Inv r (listed.setIfInBounds i true) (a.put d v) w) : wpPre P ops Q S Inv (i :: r) listed a w := by
  subst hd
  exact ⟨o, v, ho, hQ, .inl ⟨hw, hy⟩, h⟩
theorem pre_done (h : Inv listed a w) : wpPre P ops Q S Inv [] listed a w := h
theorem bag_op {J : Act → World → Prop} (ho : ops[i]? = some o) (hg : o.guard = none)
    (h : ∀ K : Act → World → Prop, (∀ a w, S w → J a w → K a w) → o.wp P a w K Q) : wpOp P ops Q i (fun a' w' => S w' ∧ J a' w') a w := by
  refine wpOp_step ho (fun K hK => ?_)
  rw [if_pos (by simp [Region.wanted, hg])]
  exact h K fun a w hS hW => hK a w ⟨hS, hW⟩
theorem ready_out {md : Region.Mode} {j : Nat} (h : j ∈ Region.ready md ops listed) : listed.getD j true = false ∧ ∀ oj, ops[j]? = some oj → ∀ e ∈ oj.after, Region.binds md e = true → listed.getD e.on false = true := by
  obtain ⟨h1, oj, h2, h3⟩ := mem_ready.1 h
  exact ⟨h1, fun o' ho e he hb => by rw [h2] at ho; cases ho; exact h3 e he hb⟩
end
def at1 {α : Type} (f : Nat → α) (p : Nat) (v : α) : Nat → α := fun q => if q = p then v else f q
theorem at1_same {α : Type} (f : Nat → α) (p : Nat) (v : α) : at1 f p v p = v := if_pos rfl
theorem at1_ne {α : Type} (f : Nat → α) {p q : Nat} (v : α) (h : q ≠ p) : at1 f p v q = f q := if_neg h
theorem getD_set1 {listed : Array Bool} {i j : Nat} (h : j < listed.size) : (listed.setIfInBounds i true).getD j false = at1 (fun q => listed.getD q false) i true j := by
  unfold at1
  simp only [Array.getD_eq_getD_getElem?, Array.getElem?_setIfInBounds]
  by_cases e : j = i
  · subst e; simp [h]
  · rw [if_neg (fun e' => e e'.symm), if_neg e]
/-- Blocks of one's own that live side by side. -/
structure Live (X w : World) (live : Nat → Bool) (b : Nat → Nat) : Prop where
  below : Below X.heap.size X w
  rng : ∀ p, live p = true → X.heap.size ≤ b p ∧ b p < w.heap.size
  inj : ∀ p q, live p = true → live q = true → b p = b q → p = q
theorem Live.alloc {X w : World} {live : Nat → Bool} {b : Nat → Nat} (h : Live X w live b) (o : Obj) (p : Nat) :
    Live X (w.alloc o) (at1 live p true) (at1 b p w.heap.size) ∧ ∀ q, live q = true → q ≠ p → (w.alloc o).heap[b q]? = w.heap[b q]? := by
  have hz := h.below.size
  have hr : ∀ q, at1 live p true q = true → X.heap.size ≤ at1 b p w.heap.size q ∧ (at1 b p w.heap.size q = w.heap.size ∧ q = p ∨ at1 b p w.heap.size q < w.heap.size ∧ q ≠ p ∧ live q = true ∧ at1 b p w.heap.size q = b q) := by
    intro q hq
    by_cases e : q = p
    · subst e; rw [at1_same]; exact ⟨hz, .inl ⟨rfl, rfl⟩⟩
    · rw [at1_ne _ _ e] at hq ⊢
      exact ⟨(h.rng q hq).1, .inr ⟨(h.rng q hq).2, e, hq, rfl⟩⟩
  refine ⟨⟨h.below.alloc hz o, fun q hq => ?_, fun q r hq hr' e => ?_⟩, fun q hq hne => Below.heap_alloc _ _ _ (h.rng q hq).2⟩
  · obtain ⟨h1, h2⟩ := hr q hq
    refine ⟨h1, ?_⟩
    simp only [World.size_alloc]
    rcases h2 with h2 | h2 <;> omega
  · obtain ⟨_, h2⟩ := hr q hq
    obtain ⟨_, h3⟩ := hr r hr'
    rcases h2 with ⟨a1, a2⟩ | ⟨a1, a2, a3, a4⟩ <;> rcases h3 with ⟨b1, b2⟩ | ⟨b1, b2, b3, b4⟩
    · rw [a2, b2]
    · omega
    · omega
    · exact h.inj q r a3 b3 (by rw [← a4, ← b4]; exact e)
theorem Live.turn {X w w' : World} {live : Nat → Bool} {b : Nat → Nat} (h : Live X w live b) (p : Nat) (hp : live p = true) (hg : w.grownBy w' (some (b p))) (g' : Nat) (hg' : g' = b p ∨ w.heap.size ≤ g') (hlt : g' < w'.heap.size) :
    Live X w' live (at1 b p g') ∧ ∀ q, live q = true → q ≠ p → w'.heap[b q]? = w.heap[b q]? := by
  have hz := h.below.size
  have hpr := h.rng p hp
  have hgs := hg.size
  refine ⟨⟨h.below.trans ⟨hg.os, hg.tape, hg.output, hgs, fun k hk => hg.block k (by omega) (fun e => by cases e; omega)⟩, fun q hq => ?_, fun q r hq hr e => ?_⟩, fun q hq hne => hg.block _ (h.rng q hq).2 (fun e => hne (h.inj q p hq hp (by injection e)))⟩
  · by_cases e : q = p
    · subst e; rw [at1_same]; exact ⟨by omega, hlt⟩
    · rw [at1_ne _ _ e]; have := h.rng q hq; exact ⟨this.1, by omega⟩
  · by_cases e1 : q = p <;> by_cases e2 : r = p
    · rw [e1, e2]
    · subst e1
      rw [at1_same, at1_ne _ _ e2] at e
      have := h.rng r hr
      rcases hg' with e' | e'
      · exact absurd (h.inj r q hr hp (by rw [← e, e'])) e2
      · omega
    · subst e2
      rw [at1_same, at1_ne _ _ e1] at e
      have := h.rng q hq
      rcases hg' with e' | e'
      · exact absurd (h.inj q r hq hp (by rw [e, e'])) e1
      · omega
    · rw [at1_ne _ _ e1, at1_ne _ _ e2] at e
      exact h.inj q r hq hr e
end Go.Proofs.Ytbchiolgbhckhaa.Mach

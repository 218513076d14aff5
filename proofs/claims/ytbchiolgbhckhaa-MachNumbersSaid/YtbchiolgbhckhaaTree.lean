/- A region whose order is drawn, in whose head two operations that turn the world may come in either order: walked as a tree of ways; behind the head one cut. -/
import Derived.Test.YtbchiolgbhckhaaBase
set_option linter.unusedVariables false
namespace Go.Proofs.Ytbchiolgbhckhaa.Mach
open Go.RowKit Go.Proofs.YtbchiolgbhckhaaW.PrintWords

inductive Way where
  | done
  | read (i : Nat) (r : Way)
  | turn (i : Nat) (r : Way)
  | fork (i : Nat) (ri : Way) (j : Nat) (rj : Way)
section
variable {P : Program} {ops : Array Oper} {Q : Exit → Act → World → Prop} {md : Region.Mode} {S : World → Prop}
def treeB (md : Region.Mode) (ops : Array Oper) (n g : Nat) : Nat → Way → Array Bool → Bool
  | 0, .done, listed => Region.seqB md ops g n listed
  | k + 1, .read i r, listed => decide (i < n) && ((Region.ready md ops listed).contains i && Region.free md ops listed i) && treeB md ops n g k r (listed.setIfInBounds i true)
  | k + 1, .turn i r, listed => decide (i < n) && decide (Region.ready md ops listed = [i]) && treeB md ops n g k r (listed.setIfInBounds i true)
  | k + 1, .fork i ri j rj, listed => decide (i < n) && decide (j < n) && decide (Region.ready md ops listed = [i, j]) && (treeB md ops n g k ri (listed.setIfInBounds i true) && treeB md ops n g k rj (listed.setIfInBounds j true))
  | _, _, _ => false
def wpTree (P : Program) (ops : Array Oper) (Q : Exit → Act → World → Prop) (S : World → Prop) (T : Act → World → Prop) : Way → Act → World → Prop
  | .done, a, w => T a w
  | .read i r, a, w => ∃ o v, ops[i]? = some o ∧ (∀ c a w, Q (.panic c) (a.put o.dst v) w → Q (.panic c) a w) ∧ YieldsIf P ops S o v a ∧ wpTree P ops Q S T r (a.put o.dst v) w
  | .turn i r, a, w => wpOp P ops Q i (fun a' w' => S w' ∧ (S w' → wpTree P ops Q S T r a' w')) a w
  | .fork i ri j rj, a, w => wpOp P ops Q i (fun a' w' => S w' ∧ (S w' → wpTree P ops Q S T ri a' w')) a w ∧ wpOp P ops Q j (fun a' w' => S w' ∧ (S w' → wpTree P ops Q S T rj a' w')) a w
theorem tree_head {n g : Nat} {T : Act → World → Prop} (hsel : Region.noSelect ops = true) (hs : Region.sinkB md ops n = true) (hc : Region.chainB md ops n = true) (hn : n < ops.size) :
    ∀ (k : Nat) (t : Way) (listed : Array Bool) (a : Act) (w : World), HeadInv md ops n listed → treeB md ops n g k t listed = true → S w → wpTree P ops Q S T t a w →
      headAny P md ops Q S n (fun listed' a' w' => Region.seqB md ops g n listed' = true ∧ T a' w') k listed a w
  | 0, .done, listed, a, w, inv, hB, hS, h => ⟨hB, h⟩
  | 0, .read _ _, _, _, _, _, hB, _, _ => by simp [treeB] at hB
  | 0, .turn _ _, _, _, _, _, hB, _, _ => by simp [treeB] at hB
  | 0, .fork _ _ _ _, _, _, _, _, hB, _, _ => by simp [treeB] at hB
  | k + 1, .done, _, _, _, _, hB, _, _ => by simp [treeB] at hB
  | k + 1, .read i r, listed, a, w, inv, hB, hS, h => by
    simp only [treeB, Bool.and_eq_true, decide_eq_true_eq] at hB
    obtain ⟨⟨hin, hb⟩, hB'⟩ := hB
    simp only [wpTree] at h
    obtain ⟨o, v, ho, hQ, hy, hK⟩ := h
    have hr : i ∈ Region.ready md ops listed := by simpa using hb.1
    exact headAny_first ho hsel hs hc hn hin hQ (fun _ _ _ hL => seqB_ready hL.1) k listed a w inv (Region.free_spec ho hb.2) hr hy hS
      (tree_head hsel hs hc hn k r _ _ w (inv.set hr hin) hB' hS hK)
  | k + 1, .turn i r, listed, a, w, inv, hB, hS, h => by
    simp only [treeB, Bool.and_eq_true, decide_eq_true_eq] at hB
    obtain ⟨⟨hin, hb⟩, hB'⟩ := hB
    simp only [wpTree] at h
    have hr : i ∈ Region.ready md ops listed := by rw [hb]; exact List.mem_singleton.2 rfl
    refine ⟨by rw [hb]; simp, fun j hj => ?_⟩
    rw [hb] at hj
    obtain rfl := List.mem_singleton.1 hj
    exact ⟨hin, wpOp_mono (fun a' w' h' => ⟨h'.1, tree_head hsel hs hc hn k r _ a' w' (inv.set hr hin) hB' h'.1 (h'.2 h'.1)⟩) h⟩
  | k + 1, .fork i ri j rj, listed, a, w, inv, hB, hS, h => by
    simp only [treeB, Bool.and_eq_true, decide_eq_true_eq] at hB
    obtain ⟨⟨⟨hi, hj⟩, hb⟩, hBi, hBj⟩ := hB
    simp only [wpTree] at h
    have hri : i ∈ Region.ready md ops listed := by rw [hb]; simp
    have hrj : j ∈ Region.ready md ops listed := by rw [hb]; simp
    refine ⟨by rw [hb]; simp, fun l hl => ?_⟩
    rw [hb] at hl
    rcases List.mem_cons.1 hl with rfl | hl
    · exact ⟨hi, wpOp_mono (fun a' w' h' => ⟨h'.1, tree_head hsel hs hc hn k ri _ a' w' (inv.set hri hi) hBi h'.1 (h'.2 h'.1)⟩) h.1⟩
    · obtain rfl := List.mem_singleton.1 hl
      exact ⟨hj, wpOp_mono (fun a' w' h' => ⟨h'.1, tree_head hsel hs hc hn k rj _ a' w' (inv.set hrj hj) hBj h'.1 (h'.2 h'.1)⟩) h.2⟩
end
theorem region_tree {P : Program} {id : Nat} {Q : Exit → Act → World → Prop} {a : Act} {w : World} {l : List Oper} (S : World → Prop) (t : Way) (n : Nat) (T : Act → World → Prop) (hm : P.follows .mixedOrders = true)
    (hB : (Region.noSelect l.toArray && decide (n < l.length) && Region.sinkB .any l.toArray n && Region.chainB .any l.toArray n && treeB .any l.toArray n (l.length - n) n t (Array.replicate l.length false)) = true)
    (hS : S w.drew) (h : wpTree P l.toArray Q S T t a w.drew) (hT : ∀ a' w', T a' w' → wpList P l.toArray Q (l.drop n) a' w') : (Code.region id l.toArray true).wp P Q a w := by
  simp only [Bool.and_eq_true, decide_eq_true_eq] at hB
  obtain ⟨⟨⟨⟨hsel, hn⟩, hs⟩, hc⟩, hw⟩ := hB
  have hdl : (l.drop n).length = l.length - n := by simp
  have inv0 : HeadInv .any l.toArray n (Array.replicate l.length false) :=
    ⟨by simp, fun j oj _ hl => (by rw [getD_replicate_false] at hl; cases hl), fun t _ ht => getD_in (by simpa using ht) (getD_replicate_false _ _)⟩
  have H := tree_head (md := .any) (g := l.length - n) hsel hs hc (by simpa using hn) n t _ a w.drew inv0 hw hS h
  refine wp_region_any hm ?_
  have := headAny_any (g := l.length - n) (fun listed a' w' hL => by
    have := wpAny_of_seq (md := .any) (Q' := Q) (l.drop n) n listed a' w' (fun j => by simp [List.getElem?_drop]) (by rw [hdl]; exact hL.1) (hT a' w' hL.2)
    rwa [hdl] at this) _ _ _ _ H
  rw [show n + (l.length - n) = l.toArray.size by simp; omega] at this
  simpa using this
section
variable {P : Program} {ops : Array Oper} {Q : Exit → Act → World → Prop} {S : World → Prop} {T : Act → World → Prop} {i : Nat} {r : Way} {a : Act} {w : World} {o : Oper}
theorem tree_read (d : Option Tmp) (v : Value) (ho : ops[i]? = some o) (hd : o.dst = d) (hQ : ∀ c a w, Q (.panic c) (a.put d v) w → Q (.panic c) a w) (hw : Region.wanted o (yielded ops a.tmps) = true) (hy : ∀ w, S w → (execOp a.eval o).run P w = .ok (.value v) w)
    (h : wpTree P ops Q S T r (a.put d v) w) : wpTree P ops Q S T (.read i r) a w := by
  subst hd
  exact ⟨o, v, ho, hQ, .inl ⟨hw, hy⟩, h⟩
theorem wpOp_turn (ho : ops[i]? = some o) (hg : o.guard = none)
    (h : ∀ K : Act → World → Prop, (∀ a w, S w → (S w → wpTree P ops Q S T r a w) → K a w) → o.wp P a w K Q) : wpOp P ops Q i (fun a' w' => S w' ∧ (S w' → wpTree P ops Q S T r a' w')) a w := by
  refine wpOp_step ho (fun K hK => ?_)
  rw [if_pos (by simp [Region.wanted, hg])]
  exact h K fun a w hS hW => hK a w ⟨hS, hW⟩
theorem tree_turn (ho : ops[i]? = some o) (hg : o.guard = none)
    (h : ∀ K : Act → World → Prop, (∀ a w, S w → (S w → wpTree P ops Q S T r a w) → K a w) → o.wp P a w K Q) : wpTree P ops Q S T (.turn i r) a w := wpOp_turn ho hg h
theorem tree_fork {j : Nat} {ri rj : Way} {oi oj : Oper} (hi : ops[i]? = some oi) (hgi : oi.guard = none) (hj : ops[j]? = some oj) (hgj : oj.guard = none)
    (h1 : ∀ K : Act → World → Prop, (∀ a w, S w → (S w → wpTree P ops Q S T ri a w) → K a w) → oi.wp P a w K Q)
    (h2 : ∀ K : Act → World → Prop, (∀ a w, S w → (S w → wpTree P ops Q S T rj a w) → K a w) → oj.wp P a w K Q) : wpTree P ops Q S T (.fork i ri j rj) a w := ⟨wpOp_turn hi hgi h1, wpOp_turn hj hgj h2⟩
theorem tree_done (h : T a w) : wpTree P ops Q S T .done a w := h
end
end Go.Proofs.Ytbchiolgbhckhaa.Mach

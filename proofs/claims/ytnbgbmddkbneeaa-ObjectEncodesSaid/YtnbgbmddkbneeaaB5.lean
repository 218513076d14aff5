/- Which objects may be: the program's walk. -/
import Derived.Test.YtnbgbmddkbneeaaB4
set_option linter.unusedVariables false
set_option linter.unusedSimpArgs false
namespace Go.Proofs.Ytnbgbmddkbneeaa.Obj
open Go.RowKit Go.Proofs.YtnbgbmddkbneeaaW.PrintWords Go.Proofs.YtnbgbmddkbneeaaW.PrintMore Go.Proofs.Ytnbgbmddkbneeaa.PLinkWeak
open Go.Maps (Keyed IsMap)
open Go.ChangeMaps
theorem region_tree2 {P : Program} {id : Nat} {Q : Exit → Act → World → Prop} {a : Act} {w : World} {l : List Oper} (S : World → World → Prop) (t : Way) (n : Nat) (T : Act → World → Act → World → Prop) (hm : P.follows .mixedOrders = true)
    (hB : (Region.noSelect l.toArray && decide (n < l.length) && Region.sinkB .any l.toArray n && Region.chainB .any l.toArray n && treeB .any l.toArray n (l.length - n) n t (Array.replicate l.length false)) = true)
    (hS : S w.drew w.drew) (h : wpTree P l.toArray Q (S w.drew) (T a w.drew) t a w.drew) (hT : ∀ a' w', T a w.drew a' w' → wpList P l.toArray Q (l.drop n) a' w') : (Code.region id l.toArray true).wp P Q a w :=
  region_tree (S w.drew) t n (T a w.drew) hm hB hS h hT
theorem of_drew {w w' : World} (h : Below w.drew.heap.size w.drew w') : Below w.heap.size w w' := ((Below.refl _ _).drew).trans (h.mono (Nat.le_refl _))
section
variable {P : Program} {ops : Array Oper} {Q : Exit → Act → World → Prop} {S : World → Prop} {T : Act → World → Prop} {i : Nat} {r : Way} {a : Act} {w : World} {o : Oper}
/-- A guarded operation that turns the world, its guard being met. -/
theorem tree_turn_g (ho : ops[i]? = some o) (hw : Region.wanted o (yielded ops a.tmps) = true)
    (h : ∀ K : Act → World → Prop, (∀ a w, S w → (S w → wpTree P ops Q S T r a w) → K a w) → o.wp P a w K Q) : wpTree P ops Q S T (.turn i r) a w := by
  unfold wpTree
  refine wpOp_step ho (fun K hK => ?_)
  rw [if_pos hw]
  exact h K fun a w hS hW => hK a w ⟨hS, hW⟩
/-- A guarded operation, its guard not being met. -/
theorem tree_skip (ho : ops[i]? = some o) (hw : Region.wanted o (yielded ops a.tmps) = false) (hQ : ∀ c a w, Q (.panic c) (a.put o.dst undef) w → Q (.panic c) a w)
    (h : wpTree P ops Q S T r (a.put o.dst undef) w) : wpTree P ops Q S T (.read i r) a w := ⟨o, undef, ho, hQ, .inr ⟨hw, rfl⟩, h⟩
end
section
variable {P : Program} {ops : Array Oper} {Q : Exit → Act → World → Prop} {S : World → Prop} {T : Act → World → Prop} {i j : Nat} {ri rj : Way} {a : Act} {w : World} {oi oj : Oper}
theorem tree_fork_g (hi : ops[i]? = some oi) (hgi : Region.wanted oi (yielded ops a.tmps) = true) (hj : ops[j]? = some oj) (hgj : Region.wanted oj (yielded ops a.tmps) = true)
    (h1 : ∀ K : Act → World → Prop, (∀ a w, S w → (S w → wpTree P ops Q S T ri a w) → K a w) → oi.wp P a w K Q)
    (h2 : ∀ K : Act → World → Prop, (∀ a w, S w → (S w → wpTree P ops Q S T rj a w) → K a w) → oj.wp P a w K Q) : wpTree P ops Q S T (.fork i ri j rj) a w := by
  unfold wpTree
  refine ⟨wpOp_step hi fun K hK => ?_, wpOp_step hj fun K hK => ?_⟩
  · rw [if_pos hgi]
    exact h1 K fun a w hS hW => hK a w ⟨hS, hW⟩
  · rw [if_pos hgj]
    exact h2 K fun a w hS hW => hK a w ⟨hS, hW⟩
end
section
variable {α : Type} [DecidableEq α]
/-- Is the k-th of a list unlike those ahead of it? -/
def fresh (ks : List α) (d : α) (k : Nat) : Bool := (ks.take k).all fun t => !decide (t = ks.getD k d)
def acc (ks : List α) (d : α) (q : Nat → Bool) (b : Bool) : Nat → Bool
  | 0 => b
  | k + 1 => acc ks d q b k && (q k && fresh ks d k)
def cnt (ks : List α) (k : Nat) (s : α) : Int := ((ks.take k).countP fun t => decide (t = s) : Nat)
theorem cnt_succ (ks : List α) (d : α) (k : Nat) (h : k < ks.length) (s : α) : cnt ks (k + 1) s = if s = ks.getD k d then cnt ks k (ks.getD k d) + 1 else cnt ks k s := by
  have e : ks.getD k d = ks[k] := by simp [List.getD_eq_getElem?_getD, h]
  unfold cnt
  rw [List.take_succ_eq_append_getElem h, List.countP_append, e]
  by_cases hs : s = ks[k]
  · subst hs; simp
  · rw [if_neg hs]; simp [List.countP_cons, Ne.symm hs]
theorem cnt_in (ks : List α) (k : Nat) (s : α) : 0 ≤ cnt ks k s ∧ cnt ks k s ≤ k := by
  unfold cnt
  have h1 := List.countP_le_length (p := fun t => decide (t = s)) (l := ks.take k)
  have h2 : (ks.take k).length ≤ k := List.length_take_le _ _
  omega
theorem cnt_fresh (ks : List α) (d : α) (k : Nat) : (cnt ks k (ks.getD k d) + 1 == 1) = fresh ks d k := by
  rw [Bool.eq_iff_iff, beq_iff_eq]
  unfold cnt fresh
  rw [List.all_eq_true]
  constructor
  · intro h t ht
    have h0 : (ks.take k).countP (fun t => decide (t = ks.getD k d)) = 0 := by omega
    have := List.countP_eq_zero.1 h0 t ht
    simpa using this
  · intro h
    have h0 : (ks.take k).countP (fun t => decide (t = ks.getD k d)) = 0 := List.countP_eq_zero.2 fun t ht => by simpa using h t ht
    omega
end
theorem keyS {s : ByteArray} (hs : s.size ≤ maxLen) : keyOf Try.prog 9 (.string s) = some (.string s.data.toList) := Go.WideMaps.keyOf_string_mk Try.underlying9 hs
theorem keyS_inj {s : ByteArray} (hs : s.size ≤ maxLen) (y : ByteArray) (h : keyOf Try.prog 9 (.string y) = some (.string s.data.toList)) : y = s := by
  have := law9.inj h (keyS hs)
  injection this
theorem NumMap.drewN {α : Type} {enc : α → Value} {w : World} {K : TypeId} {b n : Nat} {f : α → Int} (h : NumMap enc w K b n f) (m : Nat) : NumMap enc (w.drewN m) K b n f := h.frame rfl
theorem box27_kept {w X : World} {v0 v1 v2 v3 v4 v5 v6 : Value} {t : TypeId} (hb : Below (w.alloc (.cells #[v0, v1, v2, v3, v4, v5, v6] t)).heap.size (w.alloc (.cells #[v0, v1, v2, v3, v4, v5, v6] t)) X) :
    X.cell? ⟨w.heap.size, 0, none⟩ = some v0 ∧ X.cell? ⟨w.heap.size, 1, none⟩ = some v1 ∧ X.cell? ⟨w.heap.size, 2, none⟩ = some v2 ∧ X.cell? ⟨w.heap.size, 3, none⟩ = some v3 ∧ X.cell? ⟨w.heap.size, 4, none⟩ = some v4 ∧ X.cell? ⟨w.heap.size, 5, none⟩ = some v5 ∧ X.cell? ⟨w.heap.size, 6, none⟩ = some v6 ∧ w.heap.size < X.heap.size := by
  have hz := hb.size
  simp only [World.size_alloc] at hz
  have hk : X.heap[w.heap.size]? = (w.alloc (.cells #[v0, v1, v2, v3, v4, v5, v6] t)).heap[w.heap.size]? := hb.block _ (by simp)
  exact ⟨(World.cell?_of_block hk).trans (by simp), (World.cell?_of_block hk).trans (by simp), (World.cell?_of_block hk).trans (by simp), (World.cell?_of_block hk).trans (by simp), (World.cell?_of_block hk).trans (by simp), (World.cell?_of_block hk).trans (by simp), (World.cell?_of_block hk).trans (by simp), by omega⟩
def enc66 (p : Bool × Int) : Value := .agg #[.bool p.1, .int .i64 p.2]
set_option maxRecDepth 100000 in
theorem klaw66 : Go.WideMaps.KeyLaw Try.prog 66 := deep_law_laid laidOut (m := 2) (by omega) row66 (by kernel_rfl) wide66
theorem key66 {p : Bool × Int} (h : (Lit.int .i64 p.2).wf = true) : ∃ l, keyOf Try.prog 66 (enc66 p) = some l := by
  have e1 : Try.prog.keyType 66 = true := by kernel_rfl
  have e2 : (enc66 p).formed Try.prog 66 = true := by
    unfold enc66
    simp [Value.formed, Try.underlying66, show Try.prog.cellsOf 66 = 2 by kernel_rfl]
  unfold keyOf
  rw [Try.underlying66]
  simp only [e1, e2, Bool.and_self, if_true]
  unfold enc66
  simp [Value.cells]
  have c1 : Try.prog.cellsOf 66 = 2 := by kernel_rfl
  have c2 : Try.prog.cellsOf 4 = 1 := by kernel_rfl
  have c3 : Try.prog.cellsOf 3 = 1 := by kernel_rfl
  have k1 : ∀ d, Try.prog.keyLits (d + 1) 4 [.bool p.1] = some [.bool p.1] := fun d => by simp [Program.keyLits, Try.underlying4]
  have k2 : ∀ d, Try.prog.keyLits (d + 1) 3 [.int .i64 p.2] = some [.int .i64 p.2] := fun d => by simp [Program.keyLits, Try.underlying3, h]
  have k : ∀ d, Try.prog.keyLits (d + 2) 66 [.bool p.1, .int .i64 p.2] = some [.bool p.1, .int .i64 p.2] := fun d => by
    unfold Program.keyLits
    simp [Try.underlying66, c1, c2, c3, k1, k2]
  exact ⟨_, _, k 156, rfl⟩
theorem key66_inj {p : Bool × Int} {l : Lit} (hp : keyOf Try.prog 66 (enc66 p) = some l) (y : Bool × Int) (h : keyOf Try.prog 66 (enc66 y) = some l) : y = p := by
  have := law66.inj h hp
  unfold enc66 at this
  simp at this
  exact Prod.ext this.1 this.2
/-- Sizes and numbers that Go's values keep. -/
structure Fine (o : S27) : Prop where
  len : o.f2.length ≤ 1000000000 ∧ o.f3.length ≤ 1000000000 ∧ o.f4.length ≤ 1000000000 ∧ o.f5.length ≤ 1000000000 ∧ o.f6.length ≤ 1000000000
  imp : ∀ x ∈ o.f2, x.f0.size ≤ maxLen ∧ (Lit.int .i64 x.f1).wf = true
  sym : ∀ x ∈ o.f3, x.f0.size ≤ maxLen ∧ (Lit.int .i64 x.f1).wf = true ∧ (Lit.int .i64 x.f3).wf = true ∧ (Lit.int .i64 x.f4).wf = true ∧ (Lit.int .i64 x.f5).wf = true
  rel : ∀ x ∈ o.f4, x.f2.size ≤ maxLen ∧ (Lit.int .i64 x.f1).wf = true
  code : ∀ k, -9223372036854775808 ≤ o.f5.getD k 0 ∧ o.f5.getD k 0 ≤ 9223372036854775807
  data : ∀ k, -9223372036854775808 ≤ o.f6.getD k 0 ∧ o.f6.getD k 0 ≤ 9223372036854775807
def accI (o : S27) : Nat → Bool := acc (o.f2.map S44.f0) ⟨#[]⟩ (fun k => nm (o.f2.getD k z44).f0) (nm o.f0)
def accS (o : S27) : Nat → Bool := acc (o.f3.map S51.f0) ⟨#[]⟩ (fun k => nm (o.f3.getD k z51).f0 && liesP (o.f3.getD k z51) o.f5.length o.f6.length) (accI o o.f2.length)
def spot (r : S64) : Bool × Int := (r.f0, r.f1)
def accR (o : S27) : Nat → Bool := acc (o.f4.map spot) (false, 0) (fun k => nm (o.f4.getD k z64).f2 && mendsP (o.f4.getD k z64) o.f5 o.f6) (accS o o.f3.length)
def okP (o : S27) : Bool := accR o o.f4.length
def validP (o : S27) : Int := if 65536 < o.f5.length ∨ 16384 < o.f6.length then 12 else if okP o = true then 0 else 4
theorem getD_map {α β : Type} (f : α → β) (l : List α) (k : Nat) (d : α) : (l.map f).getD k (f d) = f (l.getD k d) := by
  simp [List.getD_eq_getElem?_getD]
theorem getD_mem {α : Type} {l : List α} {k : Nat} {d : α} (h : k < l.length) : l.getD k d ∈ l := by
  simp [List.getD_eq_getElem?_getD, h]
end Go.Proofs.Ytnbgbmddkbneeaa.Obj

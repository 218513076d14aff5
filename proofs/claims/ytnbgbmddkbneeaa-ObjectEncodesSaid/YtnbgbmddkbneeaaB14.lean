/- An object as an argument: what its reading says. -/
import Derived.Test.YtnbgbmddkbneeaaB5
import Derived.Deep.Slices
import Derived.Deep.Fields
import Derived.ChangeSame
import Derived.OpenShut
import Derived.ChangeOld
set_option linter.unusedVariables false
set_option linter.unusedSimpArgs false
namespace Go.Proofs.Ytnbgbmddkbneeaa.Obj
open Go.ChangeShapes Go.WideShapes Go.Deep
open Go.RowKit Go.Proofs.YtnbgbmddkbneeaaW.PrintWords Go.Proofs.YtnbgbmddkbneeaaW.PrintMore Go.Proofs.Ytnbgbmddkbneeaa.PLinkWeak
theorem list_of {α : Type} {Q : Nat → α → Prop} : ∀ n, (∀ i, i < n → ∃ a, Q i a) → ∃ xs : List α, xs.length = n ∧ ∀ j p, xs[j]? = some p → Q j p
  | 0, _ => ⟨[], rfl, by simp⟩
  | n + 1, h => by
    obtain ⟨xs, hl, hx⟩ := list_of n (fun i hi => h i (by omega))
    obtain ⟨a, ha⟩ := h n (by omega)
    refine ⟨xs ++ [a], by simp [hl], fun j p hj => ?_⟩
    by_cases e : j < xs.length
    · rw [List.getElem?_append_left e] at hj; exact hx j p hj
    · have hjl := (List.getElem?_eq_some_iff.1 hj).1
      simp at hjl
      obtain rfl : j = n := by omega
      rw [← hl] at hj
      simp at hj
      subst hj; exact ha
section
variable {H : Type} {enc : TypeId × Value → H} {W : World}
/-- What is read of a type: a value of a kind that keeps a law. -/
def Opens (enc : TypeId × Value → H) (W : World) (t : TypeId) {α : Type} (d : Kd α) (F : α → Prop) : Prop :=
  ∀ fuel cs x, DataW.trod enc Try.prog W 0 (fun _ => true) true fuel t cs = some x → ∃ a, d.K W a cs ∧ F a
theorem opens_slice {α : Type} {t e : TypeId} {d : Kd α} {F : α → Prop} (ht : Try.prog.underlying t = some (.slice e)) (hc : Try.prog.cellsOf e = d.sz) (ho : Opens enc W e d F) :
    Opens enc W t (Kd.slice e d) (fun xs => xs.length ≤ 9223372036854775807 ∧ ∀ x ∈ xs, F x) := by
  intro fuel cs x h
  rcases open_slice ht h with ⟨rfl, _⟩ | ⟨a, len, cap, m, n, D, Pl, rfl, hb, hl, hm, hmm, hx, hi⟩
  · exact ⟨[], ⟨none, 0, rfl, Nat.le_refl _, Kd.C_nil d W⟩, by simp, by simp⟩
  · simp only [if_true] at hmm
    subst hmm
    unfold maxLen at hm
    obtain ⟨xs, hxl, hxs⟩ := list_of (Q := fun i a' => F a' ∧ ∃ c, c.length = d.sz ∧ d.K W a' c ∧ ∀ k u, c[k]? = some u → W.cell? (a.add (i * d.sz + k)) = some u) len (fun i hil => by
      obtain ⟨cs', hcs, ht'⟩ := hi i (by omega)
      obtain ⟨a', hK, hF⟩ := ho _ _ _ ht'
      rw [hc] at hcs
      obtain ⟨_, hcl, hat⟩ := World.cells?_some hcs
      refine ⟨a', hF, cs', by rw [hcl], hK, fun k u hu => ?_⟩
      have hk : k < d.sz := by have := (List.getElem?_eq_some_iff.1 hu).1; omega
      have := hat k hk
      rw [← Go.Deep.add_add, this, hu])
    subst hxl
    refine ⟨xs, ⟨some a, _, rfl, hl, rfl, by omega, fun _ => ⟨a, rfl, fun j p hj => (hxs j p hj).2⟩⟩, by omega, fun y hy => ?_⟩
    obtain ⟨j, hj, rfl⟩ := List.getElem_of_mem hy
    exact (hxs j _ (List.getElem?_eq_getElem hj)).1
theorem opens_int {t : TypeId} {k : IntKind} (ht : Try.prog.underlying t = some (.int k)) : Opens enc W t (Kd.int k) (fun a => (Lit.int k a).wf = true) := by
  intro fuel cs x h
  obtain ⟨a, rfl, _, hw⟩ := DataW.trod_int ht h
  exact ⟨a, rfl, hw⟩
theorem field_at {fs : Array Field} {ys : List (DataW H × List MemPlace)} {n : Nat} {cs : List Value} (hf : ∀ (i : Nat) (f : Field), fs[i]? = some f → DataW.trod enc Try.prog W 0 (fun _ => true) true n f.type ((cs.drop f.offset).take (Try.prog.cellsOf f.type)) = ys[i]?) (hyl : ys.length = fs.size) (j : Nat) (f : Field) (hj : fs[j]? = some f) :
    ∃ y, DataW.trod enc Try.prog W 0 (fun _ => true) true n f.type ((cs.drop f.offset).take (Try.prog.cellsOf f.type)) = some y := by
  rw [hf j f hj]
  have := (Array.getElem?_eq_some_iff.1 hj).1
  exact ⟨_, List.getElem?_eq_getElem (by omega)⟩
set_option maxRecDepth 100000 in
theorem opens_44 : Opens enc W 44 k44 (fun x : S44 => x.f0.size ≤ maxLen ∧ (Lit.int .i64 x.f1).wf = true) := by
  intro fuel cs x h
  obtain ⟨ys, n, _, _, hl, hyl, hf⟩ := DataW.trod_struct Try.underlying44 h
  rw [show Try.prog.cellsOf 44 = 2 by kernel_rfl] at hl
  match cs, hl with
  | [c0, c1], _ =>
    obtain ⟨y0, t0⟩ : ∃ y, DataW.trod enc Try.prog W 0 (fun _ => true) true n 9 (([c0, c1].drop 0).take (Try.prog.cellsOf 9)) = some y := field_at hf hyl 0 _ rfl
    rw [show Try.prog.cellsOf 9 = 1 by kernel_rfl] at t0
    change DataW.trod enc Try.prog W 0 (fun _ => true) true n 9 [c0] = some y0 at t0
    obtain ⟨v0, e0, _, w0⟩ := DataW.trod_string Try.underlying9 t0
    obtain ⟨y1, t1⟩ : ∃ y, DataW.trod enc Try.prog W 0 (fun _ => true) true n 2 (([c0, c1].drop 1).take (Try.prog.cellsOf 2)) = some y := field_at hf hyl 1 _ rfl
    rw [show Try.prog.cellsOf 2 = 1 by kernel_rfl] at t1
    change DataW.trod enc Try.prog W 0 (fun _ => true) true n 2 [c1] = some y1 at t1
    obtain ⟨v1, e1, _, w1⟩ := DataW.trod_int Try.underlying2 t1
    cases e0
    cases e1
    exact ⟨⟨v0, v1⟩, k44_mk W ⟨v0, v1⟩, w0, w1⟩
set_option maxRecDepth 100000 in
theorem opens_51 : Opens enc W 51 k51 (fun x : S51 => x.f0.size ≤ maxLen ∧ (Lit.int .i64 x.f1).wf = true ∧ (Lit.int .i64 x.f3).wf = true ∧ (Lit.int .i64 x.f4).wf = true ∧ (Lit.int .i64 x.f5).wf = true) := by
  intro fuel cs x h
  obtain ⟨ys, n, _, _, hl, hyl, hf⟩ := DataW.trod_struct Try.underlying51 h
  rw [show Try.prog.cellsOf 51 = 6 by kernel_rfl] at hl
  match cs, hl with
  | [c0, c1, c2, c3, c4, c5], _ =>
    obtain ⟨y0, t0⟩ : ∃ y, DataW.trod enc Try.prog W 0 (fun _ => true) true n 9 (([c0, c1, c2, c3, c4, c5].drop 0).take (Try.prog.cellsOf 9)) = some y := field_at hf hyl 0 _ rfl
    rw [show Try.prog.cellsOf 9 = 1 by kernel_rfl] at t0
    change DataW.trod enc Try.prog W 0 (fun _ => true) true n 9 [c0] = some y0 at t0
    obtain ⟨v0, e0, _, w0⟩ := DataW.trod_string Try.underlying9 t0
    obtain ⟨y1, t1⟩ : ∃ y, DataW.trod enc Try.prog W 0 (fun _ => true) true n 3 (([c0, c1, c2, c3, c4, c5].drop 1).take (Try.prog.cellsOf 3)) = some y := field_at hf hyl 1 _ rfl
    rw [show Try.prog.cellsOf 3 = 1 by kernel_rfl] at t1
    change DataW.trod enc Try.prog W 0 (fun _ => true) true n 3 [c1] = some y1 at t1
    obtain ⟨v1, e1, _, w1⟩ := DataW.trod_int Try.underlying3 t1
    obtain ⟨y2, t2⟩ : ∃ y, DataW.trod enc Try.prog W 0 (fun _ => true) true n 4 (([c0, c1, c2, c3, c4, c5].drop 2).take (Try.prog.cellsOf 4)) = some y := field_at hf hyl 2 _ rfl
    rw [show Try.prog.cellsOf 4 = 1 by kernel_rfl] at t2
    change DataW.trod enc Try.prog W 0 (fun _ => true) true n 4 [c2] = some y2 at t2
    obtain ⟨v2, e2, _⟩ := DataW.trod_bool Try.underlying4 t2
    obtain ⟨y3, t3⟩ : ∃ y, DataW.trod enc Try.prog W 0 (fun _ => true) true n 3 (([c0, c1, c2, c3, c4, c5].drop 3).take (Try.prog.cellsOf 3)) = some y := field_at hf hyl 3 _ rfl
    rw [show Try.prog.cellsOf 3 = 1 by kernel_rfl] at t3
    change DataW.trod enc Try.prog W 0 (fun _ => true) true n 3 [c3] = some y3 at t3
    obtain ⟨v3, e3, _, w3⟩ := DataW.trod_int Try.underlying3 t3
    obtain ⟨y4, t4⟩ : ∃ y, DataW.trod enc Try.prog W 0 (fun _ => true) true n 3 (([c0, c1, c2, c3, c4, c5].drop 4).take (Try.prog.cellsOf 3)) = some y := field_at hf hyl 4 _ rfl
    rw [show Try.prog.cellsOf 3 = 1 by kernel_rfl] at t4
    change DataW.trod enc Try.prog W 0 (fun _ => true) true n 3 [c4] = some y4 at t4
    obtain ⟨v4, e4, _, w4⟩ := DataW.trod_int Try.underlying3 t4
    obtain ⟨y5, t5⟩ : ∃ y, DataW.trod enc Try.prog W 0 (fun _ => true) true n 3 (([c0, c1, c2, c3, c4, c5].drop 5).take (Try.prog.cellsOf 3)) = some y := field_at hf hyl 5 _ rfl
    rw [show Try.prog.cellsOf 3 = 1 by kernel_rfl] at t5
    change DataW.trod enc Try.prog W 0 (fun _ => true) true n 3 [c5] = some y5 at t5
    obtain ⟨v5, e5, _, w5⟩ := DataW.trod_int Try.underlying3 t5
    cases e0
    cases e1
    cases e2
    cases e3
    cases e4
    cases e5
    exact ⟨⟨v0, v1, v2, v3, v4, v5⟩, k51_mk W ⟨v0, v1, v2, v3, v4, v5⟩, w0, w1, w3, w4, w5⟩
set_option maxRecDepth 100000 in
theorem opens_64 : Opens enc W 64 k64 (fun x : S64 => x.f2.size ≤ maxLen ∧ (Lit.int .i64 x.f1).wf = true) := by
  intro fuel cs x h
  obtain ⟨ys, n, _, _, hl, hyl, hf⟩ := DataW.trod_struct Try.underlying64 h
  rw [show Try.prog.cellsOf 64 = 3 by kernel_rfl] at hl
  match cs, hl with
  | [c0, c1, c2], _ =>
    obtain ⟨y0, t0⟩ : ∃ y, DataW.trod enc Try.prog W 0 (fun _ => true) true n 4 (([c0, c1, c2].drop 0).take (Try.prog.cellsOf 4)) = some y := field_at hf hyl 0 _ rfl
    rw [show Try.prog.cellsOf 4 = 1 by kernel_rfl] at t0
    change DataW.trod enc Try.prog W 0 (fun _ => true) true n 4 [c0] = some y0 at t0
    obtain ⟨v0, e0, _⟩ := DataW.trod_bool Try.underlying4 t0
    obtain ⟨y1, t1⟩ : ∃ y, DataW.trod enc Try.prog W 0 (fun _ => true) true n 3 (([c0, c1, c2].drop 1).take (Try.prog.cellsOf 3)) = some y := field_at hf hyl 1 _ rfl
    rw [show Try.prog.cellsOf 3 = 1 by kernel_rfl] at t1
    change DataW.trod enc Try.prog W 0 (fun _ => true) true n 3 [c1] = some y1 at t1
    obtain ⟨v1, e1, _, w1⟩ := DataW.trod_int Try.underlying3 t1
    obtain ⟨y2, t2⟩ : ∃ y, DataW.trod enc Try.prog W 0 (fun _ => true) true n 9 (([c0, c1, c2].drop 2).take (Try.prog.cellsOf 9)) = some y := field_at hf hyl 2 _ rfl
    rw [show Try.prog.cellsOf 9 = 1 by kernel_rfl] at t2
    change DataW.trod enc Try.prog W 0 (fun _ => true) true n 9 [c2] = some y2 at t2
    obtain ⟨v2, e2, _, w2⟩ := DataW.trod_string Try.underlying9 t2
    cases e0
    cases e1
    cases e2
    exact ⟨⟨v0, v1, v2⟩, k64_mk W ⟨v0, v1, v2⟩, w2, w1⟩
/-- What an object keeps that was read. -/
structure Wf (o : S27) : Prop where
  lens : o.f2.length ≤ 9223372036854775807 ∧ o.f3.length ≤ 9223372036854775807 ∧ o.f4.length ≤ 9223372036854775807 ∧ o.f5.length ≤ 9223372036854775807 ∧ o.f6.length ≤ 9223372036854775807
  pkg : o.f0.size ≤ maxLen ∧ (Lit.int .i64 o.f1).wf = true
  imp : ∀ x ∈ o.f2, x.f0.size ≤ maxLen ∧ (Lit.int .i64 x.f1).wf = true
  sym : ∀ x ∈ o.f3, x.f0.size ≤ maxLen ∧ (Lit.int .i64 x.f1).wf = true ∧ (Lit.int .i64 x.f3).wf = true ∧ (Lit.int .i64 x.f4).wf = true ∧ (Lit.int .i64 x.f5).wf = true
  rel : ∀ x ∈ o.f4, x.f2.size ≤ maxLen ∧ (Lit.int .i64 x.f1).wf = true
  code : ∀ x ∈ o.f5, (Lit.int .i64 x).wf = true
  data : ∀ x ∈ o.f6, (Lit.int .i64 x).wf = true
set_option maxRecDepth 100000 in
theorem opens_27 : Opens enc W 27 k27 (fun x : S27 => Wf x) := by
  intro fuel cs x h
  obtain ⟨ys, n, _, _, hl, hyl, hf⟩ := DataW.trod_struct Try.underlying27 h
  rw [show Try.prog.cellsOf 27 = 7 by kernel_rfl] at hl
  match cs, hl with
  | [c0, c1, c2, c3, c4, c5, c6], _ =>
    obtain ⟨y0, t0⟩ : ∃ y, DataW.trod enc Try.prog W 0 (fun _ => true) true n 9 (([c0, c1, c2, c3, c4, c5, c6].drop 0).take (Try.prog.cellsOf 9)) = some y := field_at hf hyl 0 _ rfl
    rw [show Try.prog.cellsOf 9 = 1 by kernel_rfl] at t0
    change DataW.trod enc Try.prog W 0 (fun _ => true) true n 9 [c0] = some y0 at t0
    obtain ⟨v0, e0, _, w0⟩ := DataW.trod_string Try.underlying9 t0
    obtain ⟨y1, t1⟩ : ∃ y, DataW.trod enc Try.prog W 0 (fun _ => true) true n 2 (([c0, c1, c2, c3, c4, c5, c6].drop 1).take (Try.prog.cellsOf 2)) = some y := field_at hf hyl 1 _ rfl
    rw [show Try.prog.cellsOf 2 = 1 by kernel_rfl] at t1
    change DataW.trod enc Try.prog W 0 (fun _ => true) true n 2 [c1] = some y1 at t1
    obtain ⟨v1, e1, _, w1⟩ := DataW.trod_int Try.underlying2 t1
    obtain ⟨y2, t2⟩ : ∃ y, DataW.trod enc Try.prog W 0 (fun _ => true) true n 22 (([c0, c1, c2, c3, c4, c5, c6].drop 2).take (Try.prog.cellsOf 22)) = some y := field_at hf hyl 2 _ rfl
    rw [show Try.prog.cellsOf 22 = 1 by kernel_rfl] at t2
    change DataW.trod enc Try.prog W 0 (fun _ => true) true n 22 [c2] = some y2 at t2
    obtain ⟨v2, ⟨A2, k2, e2, l2, g2⟩, w2⟩ := opens_slice (t := 22) Try.underlying22 (by kernel_rfl) opens_44 _ _ _ t2
    obtain ⟨y3, t3⟩ : ∃ y, DataW.trod enc Try.prog W 0 (fun _ => true) true n 23 (([c0, c1, c2, c3, c4, c5, c6].drop 3).take (Try.prog.cellsOf 23)) = some y := field_at hf hyl 3 _ rfl
    rw [show Try.prog.cellsOf 23 = 1 by kernel_rfl] at t3
    change DataW.trod enc Try.prog W 0 (fun _ => true) true n 23 [c3] = some y3 at t3
    obtain ⟨v3, ⟨A3, k3, e3, l3, g3⟩, w3⟩ := opens_slice (t := 23) Try.underlying23 (by kernel_rfl) opens_51 _ _ _ t3
    obtain ⟨y4, t4⟩ : ∃ y, DataW.trod enc Try.prog W 0 (fun _ => true) true n 24 (([c0, c1, c2, c3, c4, c5, c6].drop 4).take (Try.prog.cellsOf 24)) = some y := field_at hf hyl 4 _ rfl
    rw [show Try.prog.cellsOf 24 = 1 by kernel_rfl] at t4
    change DataW.trod enc Try.prog W 0 (fun _ => true) true n 24 [c4] = some y4 at t4
    obtain ⟨v4, ⟨A4, k4, e4, l4, g4⟩, w4⟩ := opens_slice (t := 24) Try.underlying24 (by kernel_rfl) opens_64 _ _ _ t4
    obtain ⟨y5, t5⟩ : ∃ y, DataW.trod enc Try.prog W 0 (fun _ => true) true n 25 (([c0, c1, c2, c3, c4, c5, c6].drop 5).take (Try.prog.cellsOf 25)) = some y := field_at hf hyl 5 _ rfl
    rw [show Try.prog.cellsOf 25 = 1 by kernel_rfl] at t5
    change DataW.trod enc Try.prog W 0 (fun _ => true) true n 25 [c5] = some y5 at t5
    obtain ⟨v5, ⟨A5, k5, e5, l5, g5⟩, w5⟩ := opens_slice (t := 25) Try.underlying25 (by kernel_rfl) (opens_int Try.underlying2) _ _ _ t5
    obtain ⟨y6, t6⟩ : ∃ y, DataW.trod enc Try.prog W 0 (fun _ => true) true n 25 (([c0, c1, c2, c3, c4, c5, c6].drop 6).take (Try.prog.cellsOf 25)) = some y := field_at hf hyl 6 _ rfl
    rw [show Try.prog.cellsOf 25 = 1 by kernel_rfl] at t6
    change DataW.trod enc Try.prog W 0 (fun _ => true) true n 25 [c6] = some y6 at t6
    obtain ⟨v6, ⟨A6, k6, e6, l6, g6⟩, w6⟩ := opens_slice (t := 25) Try.underlying25 (by kernel_rfl) (opens_int Try.underlying2) _ _ _ t6
    cases e0
    cases e1
    cases e2
    cases e3
    cases e4
    cases e5
    cases e6
    exact ⟨⟨v0, v1, v2, v3, v4, v5, v6⟩, k27_mk W ⟨v0, v1, v2, v3, v4, v5, v6⟩ l2 g2 l3 g3 l4 g4 l5 g5 l6 g6, ⟨⟨w2.1, w3.1, w4.1, w5.1, w6.1⟩, ⟨w0, w1⟩, w2.2, w3.2, w4.2, w5.2, w6.2⟩⟩
set_option maxRecDepth 100000 in
theorem open_object {base : Nat} {v : Value} {d : DataW H} {ps : List MemPlace} (hok : Value.okWide Try.prog W .any base 27 v) (h : DataW.Trod enc Try.prog W 0 (fun _ => true) true 27 v d ps) :
    ∃ (o : S27) (cs : List Value), v = .agg cs.toArray ∧ k27.K W o cs ∧ Wf o := by
  obtain ⟨cs, rfl, hsz⟩ := okWide_struct Try.underlying27 hok
  obtain ⟨fuel, h⟩ := h
  obtain ⟨o, hK, hw⟩ := opens_27 _ _ _ h
  exact ⟨o, cs.toList, by simp, hK, hw⟩
theorem wf_i64' {a : Int} (h : (Lit.int .i64 a).wf = true) : -9223372036854775808 ≤ a ∧ a ≤ 9223372036854775807 := by
  simpa [Lit.wf, IntKind.min, IntKind.max, IntKind.signed, IntKind.bits] using h
theorem getD_in {l : List Int} (h : ∀ x ∈ l, (Lit.int .i64 x).wf = true) (k : Nat) : -9223372036854775808 ≤ l.getD k 0 ∧ l.getD k 0 ≤ 9223372036854775807 := by
  rw [List.getD_eq_getElem?_getD]
  cases hk : l[k]? with
  | none => simp
  | some z => exact wf_i64' (h z (List.mem_of_getElem? hk))
theorem Wf.fine {o : S27} (h : Wf o) (l : o.f2.length ≤ 1000000000 ∧ o.f3.length ≤ 1000000000 ∧ o.f4.length ≤ 1000000000 ∧ o.f5.length ≤ 1000000000 ∧ o.f6.length ≤ 1000000000) : Fine o :=
  ⟨l, h.imp, h.sym, h.rel, getD_in h.code, getD_in h.data⟩
end
end Go.Proofs.Ytnbgbmddkbneeaa.Obj

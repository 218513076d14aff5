/- A map of numbers of the call's own, told as a function of its keys. -/
import Derived.Test.YtnbgbmddkbneeaaB1
import Derived.Maps.OwnSet
import Derived.WideKeyEntry
import Derived.DeepKeys4
set_option linter.unusedVariables false
set_option linter.unusedSimpArgs false
namespace Go.Proofs.Ytnbgbmddkbneeaa.Obj
open Go.RowKit Go.ChangeMaps Go.MapKept
open Go.Maps (Keyed IsMap)
theorem laidOut : laidOutB Try.prog = true := by kernel_rfl
theorem law9 : Keyed Try.prog 9 := Go.Maps.string_keyed Try.underlying9
theorem row66 : (66 : TypeId) < Try.prog.types.size := of_decide_eq_true (by kernel_rfl)
set_option maxRecDepth 100000 in
theorem wide66 : (match Try.prog.underlying 66 with | some (.array _ _) | some (.struct _) => true | _ => false) = true := by kernel_rfl
set_option maxRecDepth 100000 in
theorem law66 : Keyed Try.prog 66 := Keyed.of_law (deep_law_laid laidOut (m := 2) (by omega) row66 (by kernel_rfl) wide66)
theorem zero3 (w : World) : (zeroValue 3).run Try.prog w = .ok (.int .i64 0) w := by kernel_rfl
def NumMap {α : Type} (enc : α → Value) (w : World) (K : TypeId) (b n : Nat) (f : α → Int) : Prop :=
  ∃ D : DataW Unit, w.ownsMap Try.prog K (plainElem Try.prog 3) b n D ∧ IsMap D ∧ ∀ x l, keyOf Try.prog K (enc x) = some l → D.atKey l (.lit (.int .i64 0)) = .lit (.int .i64 (f x))
section
variable {α : Type} {enc : α → Value} {w : World} {K T : TypeId} {b n : Nat} {f : α → Int} {x : α} {l : Lit}
theorem NumMap.made (enc : α → Value) (w : World) (K : TypeId) : NumMap enc (w.alloc (.map #[] 0)) K w.heap.size 0 (fun _ => 0) :=
  ⟨.map [], World.ownsMap_made w _ _ _, ⟨[], rfl⟩, fun _ _ _ => rfl⟩
theorem NumMap.lt (h : NumMap enc w K b n f) : b < w.heap.size := by obtain ⟨D, h, _⟩ := h; exact h.lt
theorem NumMap.mono (h : NumMap enc w K b n f) {m : Nat} (hm : n ≤ m) : NumMap enc w K b m f := by obtain ⟨D, h, r⟩ := h; exact ⟨D, h.mono hm, r⟩
theorem NumMap.congr (h : NumMap enc w K b n f) {g : α → Int} (e : ∀ x, f x = g x) : NumMap enc w K b n g := by obtain rfl : f = g := funext e; exact h
theorem NumMap.kept {w' : World} {row : Option Nat} (h : NumMap enc w K b n f) (hg : w.grownBy w' row) (hne : some b ≠ row) : NumMap enc w' K b n f := by
  obtain ⟨D, h, r⟩ := h
  exact ⟨D, h.kept hg hne, r⟩
theorem NumMap.frame {w' : World} (h : NumMap enc w K b n f) (hb : w'.heap[b]? = w.heap[b]?) : NumMap enc w' K b n f := by
  obtain ⟨D, ⟨es, clock, e1, r1⟩, r⟩ := h
  exact ⟨D, ⟨es, clock, hb.trans e1, r1⟩, r⟩
theorem NumMap.look (law : Keyed Try.prog K) (ht : Try.prog.underlying T = some (.map K 3)) (h : NumMap enc w K b n f) (hk : keyOf Try.prog K (enc x) = some l) :
    (Instr.lookup T (.map (some b)) (enc x) false).run Try.prog w = .ok (.int .i64 (f x)) w := by
  obtain ⟨D, ho, _, hf⟩ := h
  obtain ⟨c, hrun, hat, _⟩ := ho.lookup_int law ht Try.underlying3 (zero3 w) hk
  rw [hf x l hk] at hat
  simp only [DataW.lit.injEq, Lit.int.injEq, true_and] at hat
  rw [hat]; exact hrun
theorem upd [DecidableEq α] {D : DataW Unit} {v : Int} {f : α → Int} {x : α} {l : Lit} (law : Keyed Try.prog K) (hI : IsMap D) (hk : keyOf Try.prog K (enc x) = some l) (hi : ∀ y, keyOf Try.prog K (enc y) = some l → y = x)
    (hf : ∀ x l, keyOf Try.prog K (enc x) = some l → D.atKey l (.lit (.int .i64 0)) = .lit (.int .i64 (f x))) (y : α) (l' : Lit) (hy : keyOf Try.prog K (enc y) = some l') :
    (D.put l (.lit (.int .i64 v))).atKey l' (.lit (.int .i64 0)) = .lit (.int .i64 (if y = x then v else f y)) := by
  by_cases e : l' = l
  · subst e
    obtain rfl := hi y hy
    rw [if_pos rfl, Go.Maps.atKey_put_same hI (law.key hk)]
  · rw [Go.Maps.atKey_put_other e, if_neg (fun e' => e (by subst e'; rw [hk] at hy; exact (Option.some.inj hy).symm)), hf y l' hy]
theorem NumMap.put [DecidableEq α] (law : Keyed Try.prog K) (ht : Try.prog.underlying T = some (.map K 3)) (h : NumMap enc w K b n f) (hn : n < maxLen) (hk : keyOf Try.prog K (enc x) = some l) (hi : ∀ y, keyOf Try.prog K (enc y) = some l → y = x) {v : Int} (hv : (Lit.int .i64 v).wf = true) :
    ∃ w', (Instr.mapUpdate T (.map (some b)) (enc x) (.int .i64 v)).run Try.prog w = .ok () w' ∧ NumMap enc w' K b (n + 1) (fun y => if y = x then v else f y) ∧ w.grownBy w' (some b) := by
  obtain ⟨D, ho, hI, hf⟩ := h
  obtain ⟨w', hrun, ho', hg⟩ := ho.update law ht hn hk (plainElem_int Try.underlying3 hv)
  exact ⟨w', hrun, ⟨_, ho', hI.put _ _, upd law hI hk hi hf⟩, hg⟩
theorem NumMap.clear (ht : Try.prog.underlying T = some (.map K 3)) (h : NumMap enc w K b n f) (ty : TypeId) :
    ∃ w', (Builtin.clear_ #[T] ty #[.map (some b)]).run Try.prog w = .ok (.tuple #[]) w' ∧ NumMap enc w' K b 0 (fun _ => 0) ∧ w.grownBy w' (some b) := by
  obtain ⟨D, ⟨es, clock, hb, F, hs, _⟩, hI, hf⟩ := h
  refine ⟨setBlock w b (.map #[] clock), ?_, ⟨.map [], ⟨#[], clock, heap_setBlock_same hb _, ⟨by simp, ?_, by simp⟩, Nat.le_refl _, rfl⟩, ⟨[], rfl⟩, fun _ _ _ => rfl⟩, ⟨rfl, rfl, rfl, by simp [setBlock], fun i _ hi => heap_setBlock_other hb _ (fun e => hi (by rw [e]))⟩⟩
  · simp [Builtin.clear_, run_underlying ht, MapKept.run_getObj_map hb, MapKept.run_setObj_map _ hb, Result.andThen, setBlock]
  · exact stamped_empty clock
theorem NumMap.entry [DecidableEq α] (klaw : Go.WideMaps.KeyLaw Try.prog K) (ht : Try.prog.underlying T = some (.map K 3)) (h : NumMap enc w K b n f) (hn : n < maxLen) (hk : keyOf Try.prog K (enc x) = some l) (hi : ∀ y, keyOf Try.prog K (enc y) = some l → y = x) {v : Int} (hv : (Lit.int .i64 v).wf = true) :
    ∃ st w1 w2, (Instr.mapEntry T (.map (some b)) (enc x)).run Try.prog w = .ok (.tuple #[.int .i64 (f x), goInt st]) w1 ∧ (Instr.lookup T (.map (some b)) (enc x) false).run Try.prog w1 = .ok (.int .i64 (f x)) w1 ∧
      (Instr.entryStore T (.map (some b)) (goInt st) (.int .i64 v)).run Try.prog w1 = .ok () w2 ∧ NumMap enc w2 K b (n + 1) (fun y => if y = x then v else f y) ∧ w.grownBy w1 (some b) ∧ w.grownBy w2 (some b) := by
  have law := Keyed.of_law klaw
  have hlook := h.look law ht hk
  obtain ⟨wp, hput, hNp, hgp⟩ := h.put law ht hn hk hi hv
  obtain ⟨wz, hputz, hNz, hgz⟩ := h.put law ht hn hk hi (v := 0) (by decide)
  have h' := h
  obtain ⟨D, ⟨es, clock, hb, F, hs, hD⟩, hI, hf⟩ := h
  obtain ⟨v0, st, es1, clock1, r1, _, r2⟩ := Go.WideElems.entry_then_store klaw ht zero3 hb F hk
  obtain ⟨es', clock', r3, r4⟩ := r2 (setBlock w b (.map es1 clock1)) (.int .i64 v) (heap_setBlock_same hb _)
  have hss : setBlock (setBlock w b (.map es1 clock1)) b (.map es' clock') = setBlock w b (.map es' clock') := by simp [setBlock]
  rw [hss] at r3
  rw [hput] at r4
  have e4 : wp = setBlock w b (.map es' clock') := by injection r4
  have grow : ∀ o, w.grownBy (setBlock w b o) (some b) := fun o => ⟨rfl, rfl, rfl, by simp [setBlock], fun i _ hi => heap_setBlock_other hb _ (fun e => hi (by rw [e]))⟩
  have fin : v0 = .int .i64 (f x) → (Instr.lookup T (.map (some b)) (enc x) false).run Try.prog (setBlock w b (.map es1 clock1)) = .ok (.int .i64 (f x)) (setBlock w b (.map es1 clock1)) → _ := fun e1 e2 =>
    (⟨st, _, _, by rw [r1, e1], e2, r3, e4 ▸ hNp, grow _, grow _⟩ : ∃ st w1 w2, (Instr.mapEntry T (.map (some b)) (enc x)).run Try.prog w = .ok (.tuple #[.int .i64 (f x), goInt st]) w1 ∧ (Instr.lookup T (.map (some b)) (enc x) false).run Try.prog w1 = .ok (.int .i64 (f x)) w1 ∧
      (Instr.entryStore T (.map (some b)) (goInt st) (.int .i64 v)).run Try.prog w1 = .ok () w2 ∧ NumMap enc w2 K b (n + 1) (fun y => if y = x then v else f y) ∧ w.grownBy w1 (some b) ∧ w.grownBy w2 (some b))
  rcases law.find w hk es.toList F.keys with ⟨h1, h2⟩ | ⟨j, e0, h1, h2, h3⟩
  · have m1 : (Instr.mapEntry T (.map (some b)) (enc x)).run Try.prog w = .ok (.tuple #[.int .i64 0, goInt clock]) (setBlock w b (.map (es.push ⟨enc x, .int .i64 0, clock⟩) (clock + 1))) := by
      simp [Instr.mapEntry, run_underlying ht, MapKept.run_getObj_map hb, law.check w false hk, h1, zero3, MapKept.run_setObj_map _ hb, Result.andThen, setBlock]
    have m2 : (Instr.mapUpdate T (.map (some b)) (enc x) (.int .i64 0)).run Try.prog w = .ok () (setBlock w b (.map (es.push ⟨enc x, .int .i64 0, clock⟩) (clock + 1))) := by
      simp [Instr.mapUpdate, run_underlying ht, MapKept.run_getObj_map hb, law.check w false hk, h1, MapKept.run_setObj_map _ hb, Result.andThen, setBlock]
    have m3 : (Instr.lookup T (.map (some b)) (enc x) false).run Try.prog w = .ok (.int .i64 0) w := by
      simp [Instr.lookup, run_underlying ht, MapKept.run_getObj_map hb, law.check w es.isEmpty hk, h1, zero3, Result.andThen]
    rw [hlook] at m3
    have f0 : f x = 0 := by simpa only [Result.ok.injEq, Value.int.injEq, true_and, and_true] using m3
    rw [r1] at m1
    injection m1 with m1 m1w
    have m1v : v0 = .int .i64 0 := by simp only [Value.tuple.injEq] at m1; have := congrArg (fun a => a[0]?) m1; simpa using this
    rw [hputz] at m2
    have ez : wz = setBlock w b (.map (es.push ⟨enc x, .int .i64 0, clock⟩) (clock + 1)) := by simpa only [Result.ok.injEq, true_and] using m2
    refine fin (by rw [m1v, f0]) ?_
    have := (ez ▸ hNz).look law ht hk
    simp only [if_true] at this
    rw [m1w, f0]; exact this
  · have hj : es[j]? = some e0 := by simpa using h2
    have hsame : es.modify j (fun e => { e with key := enc x }) = es := by
      apply Array.ext'
      rw [Array.toList_modify, modify_eq_set _ _ _ _ h2]
      have : ({ e0 with key := enc x } : MapEntry) = e0 := by rw [← h3]
      rw [this]
      exact Go.WideElems.set_self _ _ _ h2
    have m1 : (Instr.mapEntry T (.map (some b)) (enc x)).run Try.prog w = .ok (.tuple #[e0.val, goInt e0.born]) (setBlock w b (.map es clock)) := by
      simp [Instr.mapEntry, run_underlying ht, MapKept.run_getObj_map hb, law.check w false hk, h1, hj, h3, law.stays w hk, hsame, MapKept.run_setObj_map _ hb, Result.andThen, setBlock]
    have m3 : (Instr.lookup T (.map (some b)) (enc x) false).run Try.prog w = .ok e0.val w := by
      simp [Instr.lookup, run_underlying ht, MapKept.run_getObj_map hb, law.check w es.isEmpty hk, h1, zero3, Result.andThen]
    rw [hlook] at m3
    have f0 : Value.int .i64 (f x) = e0.val := by simpa only [Result.ok.injEq, and_true] using m3
    rw [r1] at m1
    injection m1 with m1 m1w
    have m1v : v0 = e0.val := by simp only [Value.tuple.injEq] at m1; have := congrArg (fun a => a[0]?) m1; simpa using this
    refine fin (by rw [m1v, f0]) ?_
    rw [m1w]
    exact (h'.frame (by rw [hb]; exact heap_setBlock_same hb _)).look law ht hk
end
end Go.Proofs.Ytnbgbmddkbneeaa.Obj

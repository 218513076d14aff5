/- The document's machine is made. -/
import Derived.Test.YtbchiolgbhckhaaRefRun
import Derived.Test.YtbchiolgbhckhaaBag
set_option linter.unusedVariables false
set_option linter.unusedSimpArgs false
namespace Go.Proofs.Ytbchiolgbhckhaa.Mach
open Go.RowKit Go.Proofs.YtbchiolgbhckhaaW.PrintWords Go.Proofs.YtbchiolgbhckhaaW.PrintMore Go.Proofs.Ytbchiolgbhckhaa.PMachRuns
def lvN (l : Nat → Bool) : Nat → Bool := fun p => if p = 0 then l 0 else if p = 1 then l 5 else if p = 2 then l 8 else if p = 3 then l 12 else false
/-- What is made already, and where. -/
structure NI (X : World) (code inp : List Int) (n1 n3 M : Nat) (zs : Array Value) (w : World) (l : Nat → Bool) (b : Nat → Nat) (c0 c2 : Nat) : Prop where
  live : Live X w (lvN l) b
  r0 : l 0 = true → l 3 = false → w.ownsRow X.heap.size 2 1 (.slice (some ⟨b 0, 0, none⟩) 0 0) 0 []
  r3 : l 3 = true → w.ownsRow X.heap.size 2 1 (.slice (some ⟨b 0, 0, none⟩) n1 c0) n1 (nums .i64 code)
  i3 : l 3 = true → l 0 = true
  r5 : l 5 = true → w.ownsRow X.heap.size 2 1 (.slice (some ⟨b 1, 0, none⟩) M M) M (nums .i64 (List.replicate M 0))
  r8 : l 8 = true → l 10 = false → w.ownsRow X.heap.size 5 1 (.slice (some ⟨b 2, 0, none⟩) 0 0) 0 []
  r10 : l 10 = true → w.ownsRow X.heap.size 5 1 (.slice (some ⟨b 2, 0, none⟩) n3 c2) n3 (nums .u8 inp)
  i10 : l 10 = true → l 8 = true
  r12 : l 12 = true → w.heap[b 3]? = some (.cells zs 36)
theorem NI.next {X w w' : World} {code inp : List Int} {n1 n3 M : Nat} {zs : Array Value} {l l' : Nat → Bool} {b b' : Nat → Nat} {c0 c2 c0' c2' : Nat} (h : NI X code inp n1 n3 M zs w l b c0 c2) (p : Nat)
    (hl : Live X w' (lvN l') b') (hb : ∀ q, q ≠ p → b' q = b q) (hfr : ∀ q, lvN l q = true → q ≠ p → w'.heap[b q]? = w.heap[b q]?)
    (g0 : (p ≠ 0 ∧ l' 0 = l 0 ∧ l' 3 = l 3 ∧ c0' = c0) ∨ ((l' 0 = true → l' 3 = false → w'.ownsRow X.heap.size 2 1 (.slice (some ⟨b' 0, 0, none⟩) 0 0) 0 []) ∧ (l' 3 = true → w'.ownsRow X.heap.size 2 1 (.slice (some ⟨b' 0, 0, none⟩) n1 c0') n1 (nums .i64 code)) ∧ (l' 3 = true → l' 0 = true)))
    (g1 : (p ≠ 1 ∧ l' 5 = l 5) ∨ (l' 5 = true → w'.ownsRow X.heap.size 2 1 (.slice (some ⟨b' 1, 0, none⟩) M M) M (nums .i64 (List.replicate M 0))))
    (g2 : (p ≠ 2 ∧ l' 8 = l 8 ∧ l' 10 = l 10 ∧ c2' = c2) ∨ ((l' 8 = true → l' 10 = false → w'.ownsRow X.heap.size 5 1 (.slice (some ⟨b' 2, 0, none⟩) 0 0) 0 []) ∧ (l' 10 = true → w'.ownsRow X.heap.size 5 1 (.slice (some ⟨b' 2, 0, none⟩) n3 c2') n3 (nums .u8 inp)) ∧ (l' 10 = true → l' 8 = true)))
    (g3 : (p ≠ 3 ∧ l' 12 = l 12) ∨ (l' 12 = true → w'.heap[b' 3]? = some (.cells zs 36))) : NI X code inp n1 n3 M zs w' l' b' c0' c2' := by
  have fr : ∀ {e : TypeId} {n c : Nat} {xs : List Value} (q : Nat), q ≠ p → lvN l q = true → w.ownsRow X.heap.size e 1 (.slice (some ⟨b q, 0, none⟩) n c) n xs → w'.ownsRow X.heap.size e 1 (.slice (some ⟨b' q, 0, none⟩) n c) n xs := by
    intro e n c xs q hq hlv ho
    rw [hb q hq]
    refine ownsRow_frame ho fun k hk => ?_
    have : b q = k := by simpa [Value.ownBlock] using hk
    subst this
    exact hfr q hlv hq
  refine ⟨hl, ?_, ?_, ?_, ?_, ?_, ?_, ?_, ?_⟩
  · rcases g0 with ⟨a, e1, e2, e3⟩ | g
    · rw [e1, e2]; exact fun x y => fr 0 (Ne.symm a) x (h.r0 x y)
    · exact g.1
  · rcases g0 with ⟨a, e1, e2, e3⟩ | g
    · rw [e2, e3]; exact fun x => fr 0 (Ne.symm a) (h.i3 x) (h.r3 x)
    · exact g.2.1
  · rcases g0 with ⟨a, e1, e2, e3⟩ | g
    · rw [e1, e2]; exact h.i3
    · exact g.2.2
  · rcases g1 with ⟨a, e⟩ | g
    · rw [e]; exact fun x => fr 1 (Ne.symm a) x (h.r5 x)
    · exact g
  · rcases g2 with ⟨a, e1, e2, e3⟩ | g
    · rw [e1, e2]; exact fun x y => fr 2 (Ne.symm a) x (h.r8 x y)
    · exact g.1
  · rcases g2 with ⟨a, e1, e2, e3⟩ | g
    · rw [e2, e3]; exact fun x => fr 2 (Ne.symm a) (h.i10 x) (h.r10 x)
    · exact g.2.1
  · rcases g2 with ⟨a, e1, e2, e3⟩ | g
    · rw [e1, e2]; exact h.i10
    · exact g.2.2
  · rcases g3 with ⟨a, e⟩ | g
    · rw [e]
      intro x
      rw [hb 3 (Ne.symm a), hfr 3 x (Ne.symm a)]
      exact h.r12 x
    · exact g
theorem lvN_at (l : Nat → Bool) : lvN (at1 l 0 true) = at1 (lvN l) 0 true ∧ lvN (at1 l 5 true) = at1 (lvN l) 1 true ∧ lvN (at1 l 8 true) = at1 (lvN l) 2 true ∧ lvN (at1 l 12 true) = at1 (lvN l) 3 true ∧ lvN (at1 l 3 true) = lvN l ∧ lvN (at1 l 10 true) = lvN l ∧ lvN (at1 l 11 true) = lvN l := by
  refine ⟨?_, ?_, ?_, ?_, ?_, ?_, ?_⟩ <;> (funext p; simp only [lvN, at1]; (repeat' split) <;> simp_all)
section
variable {X w : World} {code inp : List Int} {n1 n3 M : Nat} {zs : Array Value} {l : Nat → Bool} {b : Nat → Nat} {c0 c2 : Nat}
theorem lit_empty (e : TypeId) {B : Nat} (w : World) (hB : B ≤ w.heap.size) : (w.alloc (.cells #[] e)).ownsRow B e 1 (.slice (some ⟨w.heap.size, 0, none⟩) 0 0) 0 [] := by
  have := World.ownsRow_lit (base := B) (e := e) (size := 1) w #[] 0 hB (by unfold maxLen; omega) rfl
  simpa using this
theorem NI.s0 (h : NI X code inp n1 n3 M zs w l b c0 c2) (h0 : l 0 = false) : NI X code inp n1 n3 M zs (w.alloc (.cells #[] 2)) (at1 l 0 true) (at1 b 0 w.heap.size) c0 c2 := by
  have h3 : l 3 = false := by cases e : l 3 with | false => rfl | true => rw [h.i3 e] at h0; cases h0
  obtain ⟨l1, l2⟩ := h.live.alloc (.cells #[] 2) 0
  exact h.next 0 (by rw [(lvN_at l).1]; exact l1) (fun q hq => at1_ne _ _ hq) l2 (.inr ⟨fun _ _ => by rw [at1_same]; exact lit_empty 2 w h.live.below.size, (fun e => by rw [at1_ne _ _ (by decide), h3] at e; cases e), fun e => at1_same _ _ _⟩)
    (.inl ⟨by decide, at1_ne _ _ (by decide)⟩) (.inl ⟨by decide, at1_ne _ _ (by decide), at1_ne _ _ (by decide), rfl⟩) (.inl ⟨by decide, at1_ne _ _ (by decide)⟩)
theorem NI.s8 (h : NI X code inp n1 n3 M zs w l b c0 c2) (h0 : l 8 = false) : NI X code inp n1 n3 M zs (w.alloc (.cells #[] 5)) (at1 l 8 true) (at1 b 2 w.heap.size) c0 c2 := by
  have h3 : l 10 = false := by cases e : l 10 with | false => rfl | true => rw [h.i10 e] at h0; cases h0
  obtain ⟨l1, l2⟩ := h.live.alloc (.cells #[] 5) 2
  exact h.next 2 (by rw [(lvN_at l).2.2.1]; exact l1) (fun q hq => at1_ne _ _ hq) l2 (.inl ⟨by decide, at1_ne _ _ (by decide), at1_ne _ _ (by decide), rfl⟩)
    (.inl ⟨by decide, at1_ne _ _ (by decide)⟩) (.inr ⟨fun _ _ => by rw [at1_same]; exact lit_empty 5 w h.live.below.size, (fun e => by rw [at1_ne _ _ (by decide), h3] at e; cases e), fun e => at1_same _ _ _⟩) (.inl ⟨by decide, at1_ne _ _ (by decide)⟩)
theorem NI.s5 (h : NI X code inp n1 n3 M zs w l b c0 c2) (hM : M ≤ 262144) : NI X code inp n1 n3 M zs (w.alloc (.cells (madeCells #[.int .i64 0] M) 2)) (at1 l 5 true) (at1 b 1 w.heap.size) c0 c2 := by
  obtain ⟨l1, l2⟩ := h.live.alloc (.cells (madeCells #[.int .i64 0] M) 2) 1
  exact h.next 1 (by rw [(lvN_at l).2.1]; exact l1) (fun q hq => at1_ne _ _ hq) l2 (.inl ⟨by decide, at1_ne _ _ (by decide), at1_ne _ _ (by decide), rfl⟩)
    (.inr fun _ => by rw [at1_same]; exact made_own _ M hM w h.live.below.size _ rfl) (.inl ⟨by decide, at1_ne _ _ (by decide), at1_ne _ _ (by decide), rfl⟩) (.inl ⟨by decide, at1_ne _ _ (by decide)⟩)
theorem NI.s12 (h : NI X code inp n1 n3 M zs w l b c0 c2) : NI X code inp n1 n3 M zs (w.alloc (.cells zs 36)) (at1 l 12 true) (at1 b 3 w.heap.size) c0 c2 := by
  obtain ⟨l1, l2⟩ := h.live.alloc (.cells zs 36) 3
  exact h.next 3 (by rw [(lvN_at l).2.2.2.1]; exact l1) (fun q hq => at1_ne _ _ hq) l2 (.inl ⟨by decide, at1_ne _ _ (by decide), at1_ne _ _ (by decide), rfl⟩)
    (.inl ⟨by decide, at1_ne _ _ (by decide)⟩) (.inl ⟨by decide, at1_ne _ _ (by decide), at1_ne _ _ (by decide), rfl⟩) (.inr fun _ => by rw [at1_same]; exact heap_alloc_new w _)
theorem NI.s11 (h : NI X code inp n1 n3 M zs w l b c0 c2) : NI X code inp n1 n3 M zs w (at1 l 11 true) b c0 c2 :=
  h.next 9 (by rw [(lvN_at l).2.2.2.2.2.2]; exact h.live) (fun _ _ => rfl) (fun _ _ _ => rfl) (.inl ⟨by decide, at1_ne _ _ (by decide), at1_ne _ _ (by decide), rfl⟩)
    (.inl ⟨by decide, at1_ne _ _ (by decide)⟩) (.inl ⟨by decide, at1_ne _ _ (by decide), at1_ne _ _ (by decide), rfl⟩) (.inl ⟨by decide, at1_ne _ _ (by decide)⟩)
theorem NI.s3 (h : NI X code inp n1 n3 M zs w l b c0 c2) (h0 : l 0 = true) {w' : World} {g' c' : Nat} (ho : w'.ownsRow X.heap.size 2 1 (.slice (some ⟨g', 0, none⟩) n1 c') n1 (nums .i64 code)) (hg : w.grownBy w' (some (b 0))) (hn : g' = b 0 ∨ w.heap.size ≤ g') :
    NI X code inp n1 n3 M zs w' (at1 l 3 true) (at1 b 0 g') c' c2 := by
  obtain ⟨l1, l2⟩ := h.live.turn 0 h0 hg g' hn (ho.lt g' rfl).2
  exact h.next 0 (by rw [(lvN_at l).2.2.2.2.1]; exact l1) (fun q hq => at1_ne _ _ hq) l2 (.inr ⟨(fun _ e => by rw [at1_same] at e; cases e), fun _ => by rw [at1_same]; exact ho, fun _ => by rw [at1_ne _ _ (by decide)]; exact h0⟩)
    (.inl ⟨by decide, at1_ne _ _ (by decide)⟩) (.inl ⟨by decide, at1_ne _ _ (by decide), at1_ne _ _ (by decide), rfl⟩) (.inl ⟨by decide, at1_ne _ _ (by decide)⟩)
theorem NI.s10 (h : NI X code inp n1 n3 M zs w l b c0 c2) (h0 : l 8 = true) {w' : World} {g' c' : Nat} (ho : w'.ownsRow X.heap.size 5 1 (.slice (some ⟨g', 0, none⟩) n3 c') n3 (nums .u8 inp)) (hg : w.grownBy w' (some (b 2))) (hn : g' = b 2 ∨ w.heap.size ≤ g') :
    NI X code inp n1 n3 M zs w' (at1 l 10 true) (at1 b 2 g') c0 c' := by
  obtain ⟨l1, l2⟩ := h.live.turn 2 h0 hg g' hn (ho.lt g' rfl).2
  exact h.next 2 (by rw [(lvN_at l).2.2.2.2.2.1]; exact l1) (fun q hq => at1_ne _ _ hq) l2 (.inl ⟨by decide, at1_ne _ _ (by decide), at1_ne _ _ (by decide), rfl⟩)
    (.inl ⟨by decide, at1_ne _ _ (by decide)⟩) (.inr ⟨(fun _ e => by rw [at1_same] at e; cases e), fun _ => by rw [at1_same]; exact ho, fun _ => by rw [at1_ne _ _ (by decide)]; exact h0⟩) (.inl ⟨by decide, at1_ne _ _ (by decide)⟩)
end
end Go.Proofs.Ytbchiolgbhckhaa.Mach

/- The program's machine beside the document's, both at one state: a step of each, what each is asked. -/
import Derived.Test.YtbchiolgbhckhaaAid
import Derived.Test.YtbchiolgbhckhaaRefMade
set_option linter.unusedVariables false
set_option linter.unusedSimpArgs false
namespace Go.Proofs.Ytbchiolgbhckhaa.Mach
open Go.RowKit Go.Proofs.YtbchiolgbhckhaaW.PrintWords Go.Proofs.YtbchiolgbhckhaaW.PrintMore Go.Proofs.Ytbchiolgbhckhaa.PMachRuns
def MS.goes (s : MS) : Bool := decide (s.kind = 0)
structure Pair (w0 w : World) (m r : Nat) (sa sb : MS) : Prop where
  told : ∃ L R, Holds w L sa ∧ RHolds w R sb ∧ L.m = m ∧ R.m = r ∧ (∀ b, L.foot sa.inp b → w0.heap.size ≤ b) ∧ (∀ b, R.foot b → w0.heap.size ≤ b) ∧ ∀ b, L.foot sa.inp b → ¬ R.foot b
  below : Below w0.heap.size w0 w
theorem Pair.keep {w0 w w' : World} {m r : Nat} {sa sb : MS} (h : Pair w0 w m r sa sb) (hk : Below w.heap.size w w') : Pair w0 w' m r sa sb := by
  obtain ⟨⟨L, R, h1, h2, h3, h4, h5, h6, h7⟩, hb⟩ := h
  exact ⟨⟨L, R, h1.below hk, h2.below hk, h3, h4, h5, h6, h7⟩, hb.trans (hk.mono hb.size)⟩
theorem Pair.first {w0 w : World} {m r : Nat} {sa sb : MS} (h : Pair w0 w m r sa sb) :
    Calls Try.prog 17 #[.pointer (some ⟨m, 0, none⟩)] w fun e w' => e = .returned (.bool sa.goes) ∧ Pair w0 w' m r (runN 1 sa) sb := by
  obtain ⟨⟨L, R, h1, h2, rfl, h4, h5, h6, h7⟩, hb⟩ := h
  have go : ∀ w' L', Next w L sa w' L' (runN 1 sa) → Pair w0 w' L.m r (runN 1 sa) sb := fun w' L' hN =>
    ⟨⟨L', R, hN.holds, h2.far hN.far fun b x y => h7 b y x, hN.same, h4, fun b x => (hN.near b x).elim (h5 b) (fun y => Nat.le_trans hb.size y), h6, fun b x y => by
      rcases hN.near b x with z | z
      · exact h7 b z y
      · have := h2.rows.lt y; omega⟩, hb.trans (hN.far.below hb.size h5)⟩
  unfold MS.goes
  by_cases h0 : sa.kind = 0
  · refine (step_any h1 h0).mono ?_
    rintro e w' ⟨rfl, L', hN⟩
    rw [decide_eq_true h0]
    exact ⟨rfl, go w' L' (by rw [show runN 1 sa = step1 sa by simp [runN, h0]]; exact hN)⟩
  · refine (step_stop h1 h0).mono ?_
    rintro e w' ⟨rfl, hN⟩
    rw [decide_eq_false h0]
    exact ⟨rfl, go w' L (by rw [runN_stop h0]; exact hN)⟩
theorem Pair.second {w0 w : World} {m r : Nat} {sa sb : MS} (h : Pair w0 w m r sa sb) (hc : Calm sb) :
    Calls Try.prog 18 #[.pointer (some ⟨r, 0, none⟩)] w fun e w' => e = .returned (.bool sb.goes) ∧ Pair w0 w' m r sa (runN 1 sb) := by
  obtain ⟨⟨L, R, h1, h2, h3, rfl, h5, h6, h7⟩, hb⟩ := h
  have go : ∀ w' R', RNext w R sb w' R' (runN 1 sb) → Pair w0 w' m R.m sa (runN 1 sb) := fun w' R' hN =>
    ⟨⟨L, R', h1.far hN.far h7, hN.holds, h3, hN.same, h5, fun b x => (hN.near b x).elim (h6 b) (fun y => Nat.le_trans hb.size y), fun b x y => by
      rcases hN.near b y with z | z
      · exact h7 b x z
      · have := h1.rows.lt x; omega⟩, hb.trans (hN.far.below hb.size h6)⟩
  unfold MS.goes
  by_cases h0 : sb.kind = 0
  · refine (rstep_any h2 (hc h0) h0).mono ?_
    rintro e w' ⟨rfl, R', hN⟩
    rw [decide_eq_true h0]
    exact ⟨rfl, go w' R' (by rw [show runN 1 sb = step1 sb by simp [runN, h0]]; exact hN)⟩
  · refine (rstep_stop h2 h0).mono ?_
    rintro e w' ⟨rfl, rfl⟩
    rw [decide_eq_false h0]
    exact ⟨rfl, go w R (by rw [runN_stop h0]; exact RNext.refl h2)⟩
/-- A run of no steps, asked behind an outcome. -/
theorem Pair.rest {w0 w w1 : World} {m r : Nat} {sa sb : MS} (h : Pair w0 w m r sa sb) (hk : Below w.heap.size w w1) (hc : Calm sb) (hl : sb.out.length ≤ 4096) {k p st : Int} {o : List Int} (e1 : sb.kind = k) (e2 : sb.panics = p) (e3 : sb.out = o) (e4 : sb.steps = st) :
    Calls Try.prog 24 #[.pointer (some ⟨r, 0, none⟩), .int .i64 0] w1 fun e w' => ∃ A c, e = .returned (.agg #[.int .i64 k, .int .i64 p, .slice A o.length c, .int .i64 st]) ∧ (∃ B, w'.ownsRow B 5 1 (.slice A o.length c) o.length (nums .u8 o)) ∧ Pair w0 w' m r sa sb ∧ (∀ b, w.heap.size ≤ b → b < w1.heap.size → w'.heap[b]? = w1.heap[b]?) ∧ w1.heap.size ≤ w'.heap.size := by
  obtain ⟨⟨L, R, h1, h2, h3, rfl, h5, h6, h7⟩, hb⟩ := h
  have l1 : ∀ b, R.foot b → b < w.heap.size := fun b x => h2.rows.lt x
  have h1' := h1.below hk
  have hb' := hb.trans (hk.mono hb.size)
  refine (rrun_any (h2.below hk) hc hl 0 (by decide)).mono ?_
  rintro e w' ⟨R', B, hN, ⟨v, rfl, hv⟩, hB, hlt⟩
  have hN : RNext w1 R sb w' R' sb := hN
  subst e1 e2 e3 e4
  have hv : w'.ownsRow B 5 1 v sb.out.length (nums .u8 sb.out) := hv
  obtain ⟨A, c, rfl⟩ := own_slice hv
  exact ⟨A, c, rfl, ⟨B, hv⟩, ⟨⟨L, R', h1'.far hN.far h7, hN.holds, h3, hN.same, h5, fun b x => (hN.near b x).elim (h6 b) (fun y => Nat.le_trans hb'.size y), fun b x y => by
      rcases hN.near b y with z | z
      · exact h7 b x z
      · have := h1'.rows.lt x; omega⟩, hb'.trans (hN.far.below hb'.size h6)⟩, fun b x y => hN.far.block b y (fun z => by have := l1 b z; omega), hN.far.size⟩
theorem Pair.ask {w0 w w1 : World} {m r : Nat} {sa sb : MS} (h : Pair w0 w m r sa sb) (hk : Below w.heap.size w w1) (hl : sa.out.length ≤ 4096) {k p st : Int} {o : List Int} (e1 : sa.kind = k) (e2 : sa.panics = p) (e3 : sa.out = o) (e4 : sa.steps = st) : Calls Try.prog 23 #[.pointer (some ⟨m, 0, none⟩)] w1 fun e w' =>
    ∃ A c, e = .returned (.agg #[.int .i64 k, .int .i64 p, .slice A o.length c, .int .i64 st]) ∧ w'.ownsRow w1.heap.size 5 1 (.slice A o.length c) o.length (nums .u8 o) ∧ Below w1.heap.size w1 w' := by
  obtain ⟨⟨L, R, h1, h2, rfl, h4, h5, h6, h7⟩, hb⟩ := h
  refine (outcome_any (h1.below hk) hl).mono ?_
  rintro e w' ⟨v, rfl, R, hb'⟩
  subst e1 e2 e3 e4
  obtain ⟨A, c, rfl⟩ := own_slice R
  exact ⟨A, c, rfl, R, hb'⟩
theorem Pair.start {w0 w1 w2 : World} {La : Lay} {Lb : RLay} {sa sb : MS} (h1 : Holds w1 La sa) (h2 : RHolds w2 Lb sb) (b1 : Below w0.heap.size w0 w1) (b2 : Below w1.heap.size w1 w2) (fa : ∀ b, La.foot sa.inp b → w0.heap.size ≤ b) (fb : ∀ b, Lb.foot b → w1.heap.size ≤ b) :
    Pair w0 w2 La.m Lb.m sa sb :=
  ⟨⟨La, Lb, h1.below b2, h2, rfl, rfl, fa, fun b x => Nat.le_trans b1.size (fb b x), fun b x y => by have := h1.rows.lt x; have := fb b y; omega⟩, b1.trans (b2.mono b1.size)⟩
theorem Pair.under {w0 w1 w : World} {m r : Nat} {sa sb : MS} (h : Pair w1 w m r sa sb) (hb : Below w0.heap.size w0 w1) : Pair w0 w m r sa sb := by
  obtain ⟨⟨L, R, h1, h2, h3, h4, h5, h6, h7⟩, hk⟩ := h
  exact ⟨⟨L, R, h1, h2, h3, h4, fun b x => Nat.le_trans hb.size (h5 b x), fun b x => Nat.le_trans hb.size (h6 b x), h7⟩, hb.trans (hk.mono hb.size)⟩
theorem Pair.pc_ask {w0 w : World} {m r : Nat} {sa sb : MS} (h : Pair w0 w m r sa sb) : Calls Try.prog 19 #[.pointer (some ⟨m, 0, none⟩)] w fun e w' => e = .returned (.int .i64 sa.pc) ∧ w = w' := by
  obtain ⟨⟨L, R, h1, h2, rfl, _⟩, hb⟩ := h
  exact pc_some h1
theorem Pair.pc_cell {w0 w : World} {m r : Nat} {sa sb : MS} (h : Pair w0 w m r sa sb) : w.cell? ⟨r, 18, none⟩ = some (.int .i64 sb.pc) := by
  obtain ⟨⟨L, R, h1, h2, _, rfl, _⟩, hb⟩ := h
  exact h2.cells 18 (by omega)
theorem Pair.reg_cell {w0 w : World} {m r : Nat} {sa sb : MS} (h : Pair w0 w m r sa sb) (q : Nat) (hq : q < 16) : w.cell? ⟨r, 2 + q, none⟩ = some (.int .i64 (sb.reg q)) := by
  obtain ⟨⟨L, R, h1, h2, _, rfl, _⟩, hb⟩ := h
  exact h2.reg q hq
theorem Pair.reg_ask {w0 w w1 : World} {m r : Nat} {sa sb : MS} (h : Pair w0 w m r sa sb) (hk : Below w.heap.size w w1) (q : Nat) (hq : q < 16) : Calls Try.prog 20 #[.pointer (some ⟨m, 0, none⟩), .int .i64 (q : Int)] w1 fun e w' => e = .returned (.int .i64 (sa.reg q)) ∧ w1 = w' := by
  obtain ⟨⟨L, R, h1, h2, rfl, _⟩, hb⟩ := h
  exact reg_some (h1.below hk) q hq
theorem Pair.mem_cell {w0 w : World} {m r : Nat} {sa sb : MS} (h : Pair w0 w m r sa sb) : ∃ mb c, w.cell? ⟨r, 1, none⟩ = some (.slice (some ⟨mb, 0, none⟩) sb.mem.length c) ∧ (∀ k, k < sb.mem.length → w.cell? ⟨mb, k, none⟩ = some (.int .i64 (sb.mem.getD k 0))) ∧ sb.mem.length ≤ 262144 := by
  obtain ⟨⟨L, R, h1, h2, _, rfl, _⟩, hb⟩ := h
  exact ⟨R.mb, R.mc, h2.cells 1 (by omega), h2.rows.mem_at, h2.rows.lim.2.1⟩
theorem Pair.mem_ask {w0 w w1 : World} {m r : Nat} {sa sb : MS} (h : Pair w0 w m r sa sb) (hk : Below w.heap.size w w1) (i : Int) : Calls Try.prog 21 #[.pointer (some ⟨m, 0, none⟩), .int .i64 i] w1 fun e w' => e = .returned (.int .i64 (if 0 ≤ i ∧ i < sa.mem.length then rd sa.mem i else 0)) ∧ w1 = w' := by
  obtain ⟨⟨L, R, h1, h2, rfl, _⟩, hb⟩ := h
  by_cases hi : 0 ≤ i ∧ i < sa.mem.length
  · rw [if_pos hi]; exact mem_some (h1.below hk) i hi.1 hi.2
  · rw [if_neg hi]; exact mem_out (h1.below hk) i (by omega)
theorem Pair.mem_at {w0 w w1 : World} {m r : Nat} {sa sb : MS} (h : Pair w0 w m r sa sb) (hk : Below w.heap.size w w1) (q : Nat) (hq : q < sa.mem.length) : Calls Try.prog 21 #[.pointer (some ⟨m, 0, none⟩), .int .i64 (q : Int)] w1 fun e w' => e = .returned (.int .i64 (sa.mem.getD q 0)) ∧ w1 = w' := by
  have := h.mem_ask hk (q : Int)
  rw [if_pos (by omega)] at this
  exact this
theorem Pair.mem_end {w0 w w1 : World} {m r : Nat} {sa sb : MS} (h : Pair w0 w m r sa sb) (hk : Below w.heap.size w w1) : Calls Try.prog 21 #[.pointer (some ⟨m, 0, none⟩), .int .i64 (sa.mem.length : Int)] w1 fun e w' => e = .returned (.int .i64 0) ∧ w1 = w' := by
  have := h.mem_ask hk (sa.mem.length : Int)
  rw [if_neg (by omega)] at this
  exact this
theorem runN_one (k : Nat) (s : MS) : runN 1 (runN k s) = runN (k + 1) s := (runN_add k 1 s).symm
theorem own_kept {w w1 w' : World} {B : Nat} {v : Value} {n : Nat} {xs : List Value} (h : w1.ownsRow B 5 1 v n xs) (hB : w.heap.size ≤ B) (hf : ∀ b, w.heap.size ≤ b → b < w1.heap.size → w'.heap[b]? = w1.heap[b]?) : w'.ownsRow B 5 1 v n xs :=
  ownsRow_frame h fun k hk => hf k (Nat.le_trans hB (h.lt k hk).1) (h.lt k hk).2
theorem runN_calm : ∀ (n : Nat) {s : MS}, Calm s → Calm (runN n s)
  | 0, s, h => h
  | n + 1, s, h => by
    by_cases hk : s.kind = 0
    · rw [show runN (n + 1) s = runN n (step1 s) by simp [runN, hk]]
      exact runN_calm n (step1_calm h hk)
    · rw [runN_stop hk]; exact h
section
variable {P : Program} {ops : Array Oper} {Q : Exit → Act → World → Prop} {S : World → Prop} {T : Act → World → Prop} {i j : Nat} {ri rj : Way} {a : Act} {w : World} {oi oj : Oper}
theorem tree_fork_g (hi : ops[i]? = some oi) (hgi : Region.wanted oi (yielded ops a.tmps) = true) (hj : ops[j]? = some oj) (hgj : Region.wanted oj (yielded ops a.tmps) = true)
    (h1 : ∀ K : Act → World → Prop, (∀ a w, S w → (S w → wpTree P ops Q S T ri a w) → K a w) → oi.wp P a w K Q)
    (h2 : ∀ K : Act → World → Prop, (∀ a w, S w → (S w → wpTree P ops Q S T rj a w) → K a w) → oj.wp P a w K Q) : wpTree P ops Q S T (.fork i ri j rj) a w := by
  unfold wpTree
  refine ⟨wpOp_step hi fun K hK => ?_, wpOp_step hj fun K hK => ?_⟩
  · rw [if_pos hgi]
    exact h1 K fun a w hS hW => hK a w ⟨hS, hW⟩
  · rw [if_pos hgj]
    exact h2 K fun a w hS hW => hK a w ⟨hS, hW⟩
end
end Go.Proofs.Ytbchiolgbhckhaa.Mach

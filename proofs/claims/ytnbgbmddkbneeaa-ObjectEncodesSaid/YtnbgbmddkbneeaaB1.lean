/- Regions that draw their order; an append onto a row of one's own. -/
import Derived.Test.YtnbgbmddkbneeaaPLinkWeakx6
import Derived.Test.YtnbgbmddkbneeaaPLinkWeakx10
import Derived.StillTailTactics
import Derived.Deep.RegionHeld3
import Derived.WalkLawsBesides
import Derived.Lib.Hide
section
/- Words for walks over the machine: a region whose order is drawn, with the world behind the draw under its own name. -/
namespace Go.Proofs.Ytnbgbmddkbneeaa.Obj
open Go.RowKit Go.Proofs.YtnbgbmddkbneeaaW.PrintWords

theorem region_tail {P : Program} {id : Nat} {Q : Exit → Act → World → Prop} {a : Act} {w : World} {l : List Oper} (n : Nat) (hm : P.follows .mixedOrders = true) (hB : Region.lexTailB .any l.toArray n = true)
    (h : wpStill P l.toArray w.drew (fun a' => wpList P l.toArray Q (l.drop n) a' w.drew) (l.take n) a) : (Code.region id l.toArray true).wp P Q a w :=
  wp_region_still_tail n hm hB h
theorem region_still {P : Program} {id : Nat} {Q : Exit → Act → World → Prop} {a : Act} {w : World} {l : List Oper} (hm : P.follows .mixedOrders = true) (hB : Region.lexB .any l.toArray = true)
    (h : wpStill P l.toArray w.drew (fun a' => Q .normal a' w.drew) l a) : (Code.region id l.toArray true).wp P Q a w :=
  wp_region_still_lit hm hB h
theorem mixed : Try.prog.follows .mixedOrders = true := by kernel_rfl
/-- Old cells behind a call that makes memory alone. -/
theorem bcell {W w1 : World} (hb : Below W.heap.size W w1) : (∀ b o, b < W.heap.size → w1.cell? ⟨b, o, none⟩ = W.cell? ⟨b, o, none⟩) ∧ (∀ b o, b < W.heap.size → w1.frozen? ⟨b, o, none⟩ = W.frozen? ⟨b, o, none⟩) :=
  ⟨fun b o h => hb.cell (p := ⟨b, o, none⟩) h, fun b o h => hb.frozen (p := ⟨b, o, none⟩) h⟩

/-! A region whose order is drawn: a head of n operations, among which some turn the world, and a tail in one order. What reads in the head reads cells that no operation of the head turns ('S' says what they hold). -/
section
variable {P : Program} {ops : Array Oper} {Q : Exit → Act → World → Prop} {md : Region.Mode} {S : World → Prop}
/-- Whatever order the head's operations come in; behind each of them S holds. -/
def headAny (P : Program) (md : Region.Mode) (ops : Array Oper) (Q : Exit → Act → World → Prop) (S : World → Prop) (n : Nat) (T : Array Bool → Act → World → Prop) : Nat → Array Bool → Act → World → Prop
  | 0, listed, a, w => T listed a w
  | f + 1, listed, a, w => Region.ready md ops listed ≠ [] ∧ ∀ i ∈ Region.ready md ops listed, i < n ∧ wpOp P ops Q i (fun a' w' => S w' ∧ headAny P md ops Q S n T f (listed.setIfInBounds i true) a' w') a w
theorem headAny_any {n g : Nat} {T : Array Bool → Act → World → Prop} (hT : ∀ listed a w, T listed a w → wpAny P md ops Q g listed a w) :
    ∀ (f : Nat) (listed : Array Bool) (a : Act) (w : World), headAny P md ops Q S n T f listed a w → wpAny P md ops Q (f + g) listed a w
  | 0, _, _, _, h => by rw [Nat.zero_add]; exact hT _ _ _ h
  | f + 1, _, _, _, h => by
    rw [show f + 1 + g = (f + g) + 1 by omega]
    exact ⟨fun h0 => absurd h0 h.1, fun i hi => wpOp_mono (fun a' w' h' => headAny_any hT f _ a' w' h'.2) (h.2 i hi).2⟩
/-- An operation that reads is taken first. -/
theorem headAny_first {n i : Nat} {oi : Oper} {v : Value} {T : Array Bool → Act → World → Prop} (hi : ops[i]? = some oi) (hsel : Region.noSelect ops = true)
    (hs : Region.sinkB md ops n = true) (hc : Region.chainB md ops n = true) (hn : n < ops.size) (hin : i < n)
    (hQ : ∀ c a w, Q (.panic c) (a.put oi.dst v) w → Q (.panic c) a w) (hdone : ∀ listed a w, T listed a w → ∀ j ∈ Region.ready md ops listed, n ≤ j) :
    ∀ (f : Nat) (listed : Array Bool) (a : Act) (w : World), HeadInv md ops n listed →
      (∀ j oj, ops[j]? = some oj → j ≠ i → listed.getD j true = false → (∀ e ∈ oj.after, Region.binds md e = true → e.on ≠ i) → oi.apart ops oj = true) →
      i ∈ Region.ready md ops listed → YieldsIf P ops S oi v a → S w →
      headAny P md ops Q S n T f (listed.setIfInBounds i true) (a.put oi.dst v) w → headAny P md ops Q S n T (f + 1) listed a w := by
  have sel := Region.noSelect_spec hsel
  intro f
  induction f with
  | zero =>
    intro listed a w inv _ hr hy hS H
    have hun := (mem_ready.1 hr).1
    refine ⟨fun h => (by rw [h] at hr; cases hr), fun j hj => ?_⟩
    have hjn : j < n := Nat.lt_of_not_le fun h => tail_waits hs hc hn inv _ i rfl hin hun j h hj
    refine ⟨hjn, ?_⟩
    by_cases hji : j = i
    · subst hji; exact hy.wpOp hi hS ⟨hS, H⟩
    · have := hdone _ _ _ H j (ready_mono hj hji)
      omega
  | succ f ih =>
    intro listed a w inv hfree hr hy hS H
    have hun := (mem_ready.1 hr).1
    refine ⟨fun h => (by rw [h] at hr; cases hr), fun j hj => ?_⟩
    have hjn : j < n := Nat.lt_of_not_le fun h => tail_waits hs hc hn inv _ i rfl hin hun j h hj
    refine ⟨hjn, ?_⟩
    by_cases hji : j = i
    · subst hji; exact hy.wpOp hi hS ⟨hS, H⟩
    obtain ⟨hjun, oj, hoj, hall⟩ := mem_ready.1 hj
    have hnot : ∀ e ∈ oj.after, Region.binds md e = true → e.on ≠ i := fun e he hb heq => by
      have h1 := hall e he hb
      rw [heq, getD_both hun] at h1
      cases h1
    have h2 := wpOp_putIf hoj (hfree j oj hoj hji hjun hnot) (fun cs b => sel i oi cs b hi) (fun cs b => sel j oj cs b hoj) hQ hy (H.2 j (ready_mono hj hji)).2
    refine wpOp_mono (fun a' w' h3 => ⟨h3.2.1, ih _ a' w' (inv.set hj hjn) (fun k ok hk hki hun' hno => hfree k ok hk hki ?_ hno) (ready_mono hr (Ne.symm hji)) h3.1 h3.2.1 ?_⟩) h2
    · by_cases hjk : j = k
      · subst hjk; exact hjun
      · rw [getD_set_ne true hjk] at hun'; exact hun'
    · rw [Array.setIfInBounds_comm _ _ hji]
      exact h3.2.2
/-- The way through a head: what reads ('some (i, false)') is taken first; what turns the world ('true') is the only one that may come. -/
def wayB (md : Region.Mode) (ops : Array Oper) (n g : Nat) : List (Nat × Bool) → Array Bool → Bool
  | [], listed => Region.seqB md ops g n listed
  | (i, turns) :: r, listed => decide (i < n) && (if turns then decide (Region.ready md ops listed = [i]) else (Region.ready md ops listed).contains i && Region.free md ops listed i) && wayB md ops n g r (listed.setIfInBounds i true)
/-- The walk along such a way. -/
def wpWay (P : Program) (ops : Array Oper) (Q : Exit → Act → World → Prop) (S : World → Prop) (T : Act → World → Prop) : List (Nat × Bool) → Act → World → Prop
  | [], a, w => T a w
  | (i, turns) :: r, a, w =>
    match ops[i]? with
    | none => False
    | some o => if turns then wpOp P ops Q i (fun a' w' => S w' ∧ (S w' → wpWay P ops Q S T r a' w')) a w
      else ∃ v, (∀ c a w, Q (.panic c) (a.put o.dst v) w → Q (.panic c) a w) ∧ YieldsIf P ops S o v a ∧ wpWay P ops Q S T r (a.put o.dst v) w
theorem way_head {n g : Nat} {T : Act → World → Prop} (hsel : Region.noSelect ops = true) (hs : Region.sinkB md ops n = true) (hc : Region.chainB md ops n = true) (hn : n < ops.size) :
    ∀ (l : List (Nat × Bool)) (listed : Array Bool) (a : Act) (w : World), HeadInv md ops n listed → wayB md ops n g l listed = true → S w → wpWay P ops Q S T l a w →
      headAny P md ops Q S n (fun listed' a' w' => Region.seqB md ops g n listed' = true ∧ T a' w') l.length listed a w
  | [], listed, a, w, inv, hB, hS, h => ⟨hB, h⟩
  | (i, turns) :: r, listed, a, w, inv, hB, hS, h => by
    simp only [wayB, Bool.and_eq_true, decide_eq_true_eq] at hB
    obtain ⟨⟨hin, hb⟩, hB'⟩ := hB
    simp only [wpWay] at h
    split at h
    · exact h.elim
    rename_i o ho
    cases turns with
    | true =>
      simp only [if_true, decide_eq_true_eq] at hb h
      have hr : i ∈ Region.ready md ops listed := by rw [hb]; exact List.mem_singleton.2 rfl
      refine ⟨by rw [hb]; simp, fun j hj => ?_⟩
      rw [hb] at hj
      obtain rfl := List.mem_singleton.1 hj
      exact ⟨hin, wpOp_mono (fun a' w' h' => ⟨h'.1, way_head hsel hs hc hn r _ a' w' (inv.set hr hin) hB' h'.1 (h'.2 h'.1)⟩) h⟩
    | false =>
      simp only [Bool.false_eq_true, if_false, Bool.and_eq_true] at hb h
      obtain ⟨v, hQ, hy, hK⟩ := h
      have hr : i ∈ Region.ready md ops listed := by simpa using hb.1
      exact headAny_first ho hsel hs hc hn hin hQ (fun _ _ _ hL => seqB_ready hL.1) r.length listed a w inv (Region.free_spec ho hb.2) hr hy hS
        (way_head hsel hs hc hn r _ _ w (inv.set hr hin) hB' hS hK)
end
theorem region_way {P : Program} {id : Nat} {Q : Exit → Act → World → Prop} {a : Act} {w : World} {l : List Oper} (S : World → Prop) (way : List (Nat × Bool)) (n : Nat) (hm : P.follows .mixedOrders = true)
    (hB : (Region.noSelect l.toArray && decide (n < l.length) && Region.sinkB .any l.toArray n && Region.chainB .any l.toArray n && decide (way.length = n) && wayB .any l.toArray n (l.length - n) way (Array.replicate l.length false)) = true)
    (hS : S w.drew) (h : wpWay P l.toArray Q S (fun a' w' => wpList P l.toArray Q (l.drop n) a' w') way a w.drew) : (Code.region id l.toArray true).wp P Q a w := by
  simp only [Bool.and_eq_true, decide_eq_true_eq] at hB
  obtain ⟨⟨⟨⟨⟨hsel, hn⟩, hs⟩, hc⟩, hwl⟩, hw⟩ := hB
  have hdl : (l.drop n).length = l.length - n := by simp
  have inv0 : HeadInv .any l.toArray n (Array.replicate l.length false) :=
    ⟨by simp, fun j oj _ hl => (by rw [getD_replicate_false] at hl; cases hl), fun t _ ht => getD_in (by simpa using ht) (getD_replicate_false _ _)⟩
  have H := way_head (md := .any) (g := l.length - n) hsel hs hc (by simpa using hn) way _ a w.drew inv0 hw hS h
  refine wp_region_any hm ?_
  have := headAny_any (g := l.length - n) (fun listed a' w' hL => by
    have := wpAny_of_seq (md := .any) (Q' := Q) (l.drop n) n listed a' w' (fun j => by simp [List.getElem?_drop]) (by rw [hdl]; exact hL.1) hL.2
    rwa [hdl] at this) _ _ _ _ H
  rw [hwl, show n + (l.length - n) = l.toArray.size by simp; omega] at this
  simpa using this
/-- One step of such a way that reads. -/
theorem way_read {P : Program} {ops : Array Oper} {Q : Exit → Act → World → Prop} {S : World → Prop} {T : Act → World → Prop} {i : Nat} {r : List (Nat × Bool)} {a : Act} {w : World} {o : Oper} (d : Option Tmp) (v : Value) (ho : ops[i]? = some o) (hd : o.dst = d)
    (hQ : ∀ c a w, Q (.panic c) (a.put d v) w → Q (.panic c) a w) (hw : Region.wanted o (yielded ops a.tmps) = true) (hy : ∀ w, S w → (execOp a.eval o).run P w = .ok (.value v) w)
    (h : wpWay P ops Q S T r (a.put d v) w) : wpWay P ops Q S T ((i, false) :: r) a w := by
  subst hd
  unfold wpWay
  rw [ho]
  exact ⟨v, hQ, .inl ⟨hw, hy⟩, h⟩
/-- One step of such a way that turns the world. -/
theorem way_turn {P : Program} {ops : Array Oper} {Q : Exit → Act → World → Prop} {S : World → Prop} {T : Act → World → Prop} {i : Nat} {r : List (Nat × Bool)} {a : Act} {w : World} {o : Oper} (ho : ops[i]? = some o) (hg : o.guard = none)
    (h : ∀ K : Act → World → Prop, (∀ a w, S w → (S w → wpWay P ops Q S T r a w) → K a w) → o.wp P a w K Q) : wpWay P ops Q S T ((i, true) :: r) a w := by
  unfold wpWay
  rw [ho]
  simp only [if_true]
  refine wpOp_step ho (fun K hK => ?_)
  rw [if_pos (by simp [Region.wanted, hg])]
  exact h K fun a w hS hW => hK a w ⟨hS, hW⟩
theorem way_done {P : Program} {ops : Array Oper} {Q : Exit → Act → World → Prop} {S : World → Prop} {T : Act → World → Prop} {a : Act} {w : World} (h : T a w) : wpWay P ops Q S T [] a w := h
end Go.Proofs.Ytnbgbmddkbneeaa.Obj
end

section
/- Appending onto a row of one's own: where what comes of it lies. -/
namespace Go.Proofs.Ytnbgbmddkbneeaa.Obj
open Go.RowKit Go.Proofs.YtnbgbmddkbneeaaW.PrintWords

theorem gb_trans {a w w' : World} {row : Option Nat} (h : a.grownBy w row) (k : w.grownBy w' row) : a.grownBy w' row :=
  ⟨k.os.trans h.os, k.tape.trans h.tape, k.output.trans h.output, Nat.le_trans h.size k.size, fun b hb hne => (k.block b (Nat.lt_of_lt_of_le hb h.size) hne).trans (h.block b hb hne)⟩
theorem gb_drew {w w' : World} {row : Option Nat} (h : w.grownBy w' row) : w.grownBy w'.drew row := ⟨h.os, h.tape, h.output, h.size, h.block⟩
theorem own_form {w : World} {base size n : Nat} {e : TypeId} {v : Value} {xs : List Value} (h : w.ownsRow base e size v n xs) (hn : 0 < n) : ∃ g cap, v = .slice (some ⟨g, 0, none⟩) n cap := by
  rcases h.2 with ⟨_, rfl⟩ | ⟨g, cap, _, rfl, _⟩
  · exact absurd hn (by omega)
  · exact ⟨g, cap, rfl⟩
section
variable {P : Program}
/-- What an append leaves: the row is longer, it lies where it lay or in a new block, and nothing else has turned. -/
def Appended (w : World) (base e size : Nat) (v : Value) (n : Nat) (xs : List Value) (v' : Value) (w' : World) : Prop :=
  w'.ownsRow base e size v' n xs ∧ w.grownBy w' v.ownBlock ∧ (∀ k, v'.ownBlock = some k → v.ownBlock = some k ∨ w.heap.size ≤ k)
theorem run_append_mine (w : World) (base : Nat) (t ty e : TypeId) (i : TypeInfo) (z : Value) (size bytes : Nat) (ht : P.underlying t = some (.slice e)) (hi : P.info? e = some i) (hz : i.zero = some z)
    (hsize : i.size = size) (hby : i.bytes = bytes) (hzs : z.cells.size = size) (hsz : 0 < size) (v : Value) (n : Nat) (xs : List Value) (hown : w.ownsRow base e size v n xs)
    (a : Addr) (m c : Nat) (news : List Value) (hl : news.length = m * size) (hnews : ∀ j u, news[j]? = some u → w.cell? (a.add j) = some u) (h1 : ∀ u ∈ news, u.oneCell' = true)
    (h63 : n + m ≤ maxLen) (hbytes : (n + m) * bytes ≤ 140737488355328) (hbase : base ≤ w.heap.size) :
    ∃ v' w', (Builtin.append_ #[t, t] ty #[v, .slice (some a) m c]).run P w = .ok v' w' ∧ Appended w base e size v (n + m) (xs ++ news) v' w' := by
  have low : ∀ {w' : World} {v' : Value} {k : Nat} {ys : List Value}, w'.ownsRow w.heap.size e size v' k ys → w'.ownsRow base e size v' k ys := fun h => by
    obtain ⟨h1, h2⟩ := h
    refine ⟨h1, ?_⟩
    rcases h2 with h2 | ⟨g, cap, cur, hv, hg, r⟩
    · exact .inl h2
    · exact .inr ⟨g, cap, cur, hv, Nat.le_trans hbase hg, r⟩
  have wide : ∀ {w' : World} (row : Option Nat), w.grownBy w' none → w.grownBy w' row := fun row h => ⟨h.os, h.tape, h.output, h.size, fun k hk _ => h.block k hk (by simp)⟩
  rcases hown.2 with ⟨rfl, rfl⟩ | ⟨g, cap, cur, rfl, hbg, hg, hnc, hcm, hcs, htake⟩
  · have hx : xs = [] := List.eq_nil_of_length_eq_zero (by simpa using hown.1)
    subst hx
    obtain ⟨v', w', hr, h2, h3, _⟩ := run_append_own (P := P) w w.heap.size t ty e i z size bytes ht hi hz hsize hby hzs hsz (.slice none 0 0) 0 [] (World.ownsRow_nil w _ e size) a m c news hl hnews h1 h63 hbytes (Nat.le_refl _)
    exact ⟨v', w', hr, low h2, h3, fun k hk => .inr (own_base h2 k hk)⟩
  · by_cases hroom : n + m ≤ cap
    · obtain ⟨w', hr, h2, h3⟩ := run_append_fits (P := P) w base t ty e i size ht hi hsize g n cap xs hown a m c news hl hnews h1 hroom
      exact ⟨_, w', hr, h2, h3, fun k hk => .inl hk⟩
    · have holds : ∀ j u, xs[j]? = some u → w.cell? ((⟨g, 0, none⟩ : Addr).add j) = some u := hown.cells (g := g) rfl
      obtain ⟨v', w', hr, h2, h3⟩ := run_append_arg_grows (P := P) w t ty e i z size bytes ht hi hz hsize hby hzs hsz ⟨g, 0, none⟩ n cap xs hown.1 holds a m c news hl hnews (by omega) h63 hbytes
      exact ⟨v', w', hr, low h2, wide _ h3, fun k hk => .inr (own_base h2 k hk)⟩
theorem wp_append_mine {o : Oper} {a : Act} {w : World} {K : Act → World → Prop} {Q : Exit → Act → World → Prop} (s x : Operand) (t : TypeId)
    (ho : o.op = .call { callee := .builtin .append, args := #[s, x], argTypes := #[t, t] })
    (base : Nat) (e : TypeId) (i : TypeInfo) (z : Value) (size bytes : Nat) (ht : P.underlying t = some (.slice e)) (hi : P.info? e = some i) (hz : i.zero = some z)
    (hsize : i.size = size) (hby : i.bytes = bytes) (hzs : z.cells.size = size) (hsz : 0 < size) (v : Value) (n : Nat) (xs : List Value) (hs : a.eval s = v) (hown : w.ownsRow base e size v n xs)
    (ad : Addr) (m c : Nat) (news : List Value) (hx : a.eval x = .slice (some ad) m c) (hl : news.length = m * size) (hnews : ∀ j u, news[j]? = some u → w.cell? (ad.add j) = some u) (h1 : ∀ u ∈ news, u.oneCell' = true)
    (h63 : n + m ≤ maxLen) (hbytes : (n + m) * bytes ≤ 140737488355328) (hbase : base ≤ w.heap.size)
    (h : ∀ v' w', Appended w base e size v (n + m) (xs ++ news) v' w' → K (a.put o.dst v') w') : o.wp P a w K Q := by
  obtain ⟨v', w', hr, h2⟩ := run_append_mine (P := P) w base t o.type e i z size bytes ht hi hz hsize hby hzs hsz v n xs hown ad m c news hl hnews h1 h63 hbytes hbase
  unfold Oper.wp execOp
  simp only [ho, resolve, invoke, builtin, Sem.run_bind, Sem.run_pure, Result.andThen_ok, List.map_toArray, List.map_cons, List.map_nil, hs, hx, hr]
  exact h v' w' h2
end
end Go.Proofs.Ytnbgbmddkbneeaa.Obj
end

section
/- A region whose order is drawn, in whose head two operations that turn the world may come in either order: walked as a tree of ways; behind the head one cut. -/
set_option linter.unusedVariables false
namespace Go.Proofs.Ytnbgbmddkbneeaa.Obj
open Go.RowKit Go.Proofs.YtnbgbmddkbneeaaW.PrintWords

inductive Way where
  | done
  | read (i : Nat) (r : Way)
  | turn (i : Nat) (r : Way)
  | fork (i : Nat) (ri : Way) (j : Nat) (rj : Way)
section
variable {P : Program} {ops : Array Oper} {Q : Exit → Act → World → Prop} {md : Region.Mode} {S : World → Prop}
def treeB (md : Region.Mode) (ops : Array Oper) (n g : Nat) : Nat → Way → Array Bool → Bool
  | 0, .done, listed => Region.seqB md ops g n listed
  | k + 1, .read i r, listed => decide (i < n) && ((Region.ready md ops listed).contains i && Region.free md ops listed i) && treeB md ops n g k r (listed.setIfInBounds i true)
  | k + 1, .turn i r, listed => decide (i < n) && decide (Region.ready md ops listed = [i]) && treeB md ops n g k r (listed.setIfInBounds i true)
  | k + 1, .fork i ri j rj, listed => decide (i < n) && decide (j < n) && decide (Region.ready md ops listed = [i, j]) && (treeB md ops n g k ri (listed.setIfInBounds i true) && treeB md ops n g k rj (listed.setIfInBounds j true))
  | _, _, _ => false
def wpTree (P : Program) (ops : Array Oper) (Q : Exit → Act → World → Prop) (S : World → Prop) (T : Act → World → Prop) : Way → Act → World → Prop
  | .done, a, w => T a w
  | .read i r, a, w => ∃ o v, ops[i]? = some o ∧ (∀ c a w, Q (.panic c) (a.put o.dst v) w → Q (.panic c) a w) ∧ YieldsIf P ops S o v a ∧ wpTree P ops Q S T r (a.put o.dst v) w
  | .turn i r, a, w => wpOp P ops Q i (fun a' w' => S w' ∧ (S w' → wpTree P ops Q S T r a' w')) a w
  | .fork i ri j rj, a, w => wpOp P ops Q i (fun a' w' => S w' ∧ (S w' → wpTree P ops Q S T ri a' w')) a w ∧ wpOp P ops Q j (fun a' w' => S w' ∧ (S w' → wpTree P ops Q S T rj a' w')) a w
theorem tree_head {n g : Nat} {T : Act → World → Prop} (hsel : Region.noSelect ops = true) (hs : Region.sinkB md ops n = true) (hc : Region.chainB md ops n = true) (hn : n < ops.size) :
    ∀ (k : Nat) (t : Way) (listed : Array Bool) (a : Act) (w : World), HeadInv md ops n listed → treeB md ops n g k t listed = true → S w → wpTree P ops Q S T t a w →
      headAny P md ops Q S n (fun listed' a' w' => Region.seqB md ops g n listed' = true ∧ T a' w') k listed a w
  | 0, .done, listed, a, w, inv, hB, hS, h => ⟨hB, h⟩
  | 0, .read _ _, _, _, _, _, hB, _, _ => by simp [treeB] at hB
  | 0, .turn _ _, _, _, _, _, hB, _, _ => by simp [treeB] at hB
  | 0, .fork _ _ _ _, _, _, _, _, hB, _, _ => by simp [treeB] at hB
  | k + 1, .done, _, _, _, _, hB, _, _ => by simp [treeB] at hB
  | k + 1, .read i r, listed, a, w, inv, hB, hS, h => by
    simp only [treeB, Bool.and_eq_true, decide_eq_true_eq] at hB
    obtain ⟨⟨hin, hb⟩, hB'⟩ := hB
    simp only [wpTree] at h
    obtain ⟨o, v, ho, hQ, hy, hK⟩ := h
    have hr : i ∈ Region.ready md ops listed := by simpa using hb.1
    exact headAny_first ho hsel hs hc hn hin hQ (fun _ _ _ hL => seqB_ready hL.1) k listed a w inv (Region.free_spec ho hb.2) hr hy hS
      (tree_head hsel hs hc hn k r _ _ w (inv.set hr hin) hB' hS hK)
  | k + 1, .turn i r, listed, a, w, inv, hB, hS, h => by
    simp only [treeB, Bool.and_eq_true, decide_eq_true_eq] at hB
    obtain ⟨⟨hin, hb⟩, hB'⟩ := hB
    simp only [wpTree] at h
    have hr : i ∈ Region.ready md ops listed := by rw [hb]; exact List.mem_singleton.2 rfl
    refine ⟨by rw [hb]; simp, fun j hj => ?_⟩
    rw [hb] at hj
    obtain rfl := List.mem_singleton.1 hj
    exact ⟨hin, wpOp_mono (fun a' w' h' => ⟨h'.1, tree_head hsel hs hc hn k r _ a' w' (inv.set hr hin) hB' h'.1 (h'.2 h'.1)⟩) h⟩
  | k + 1, .fork i ri j rj, listed, a, w, inv, hB, hS, h => by
    simp only [treeB, Bool.and_eq_true, decide_eq_true_eq] at hB
    obtain ⟨⟨⟨hi, hj⟩, hb⟩, hBi, hBj⟩ := hB
    simp only [wpTree] at h
    have hri : i ∈ Region.ready md ops listed := by rw [hb]; simp
    have hrj : j ∈ Region.ready md ops listed := by rw [hb]; simp
    refine ⟨by rw [hb]; simp, fun l hl => ?_⟩
    rw [hb] at hl
    rcases List.mem_cons.1 hl with rfl | hl
    · exact ⟨hi, wpOp_mono (fun a' w' h' => ⟨h'.1, tree_head hsel hs hc hn k ri _ a' w' (inv.set hri hi) hBi h'.1 (h'.2 h'.1)⟩) h.1⟩
    · obtain rfl := List.mem_singleton.1 hl
      exact ⟨hj, wpOp_mono (fun a' w' h' => ⟨h'.1, tree_head hsel hs hc hn k rj _ a' w' (inv.set hrj hj) hBj h'.1 (h'.2 h'.1)⟩) h.2⟩
end
theorem region_tree {P : Program} {id : Nat} {Q : Exit → Act → World → Prop} {a : Act} {w : World} {l : List Oper} (S : World → Prop) (t : Way) (n : Nat) (T : Act → World → Prop) (hm : P.follows .mixedOrders = true)
    (hB : (Region.noSelect l.toArray && decide (n < l.length) && Region.sinkB .any l.toArray n && Region.chainB .any l.toArray n && treeB .any l.toArray n (l.length - n) n t (Array.replicate l.length false)) = true)
    (hS : S w.drew) (h : wpTree P l.toArray Q S T t a w.drew) (hT : ∀ a' w', T a' w' → wpList P l.toArray Q (l.drop n) a' w') : (Code.region id l.toArray true).wp P Q a w := by
  simp only [Bool.and_eq_true, decide_eq_true_eq] at hB
  obtain ⟨⟨⟨⟨hsel, hn⟩, hs⟩, hc⟩, hw⟩ := hB
  have hdl : (l.drop n).length = l.length - n := by simp
  have inv0 : HeadInv .any l.toArray n (Array.replicate l.length false) :=
    ⟨by simp, fun j oj _ hl => (by rw [getD_replicate_false] at hl; cases hl), fun t _ ht => getD_in (by simpa using ht) (getD_replicate_false _ _)⟩
  have H := tree_head (md := .any) (g := l.length - n) hsel hs hc (by simpa using hn) n t _ a w.drew inv0 hw hS h
  refine wp_region_any hm ?_
  have := headAny_any (g := l.length - n) (fun listed a' w' hL => by
    have := wpAny_of_seq (md := .any) (Q' := Q) (l.drop n) n listed a' w' (fun j => by simp [List.getElem?_drop]) (by rw [hdl]; exact hL.1) (hT a' w' hL.2)
    rwa [hdl] at this) _ _ _ _ H
  rw [show n + (l.length - n) = l.toArray.size by simp; omega] at this
  simpa using this
section
variable {P : Program} {ops : Array Oper} {Q : Exit → Act → World → Prop} {S : World → Prop} {T : Act → World → Prop} {i : Nat} {r : Way} {a : Act} {w : World} {o : Oper}
theorem tree_read (d : Option Tmp) (v : Value) (ho : ops[i]? = some o) (hd : o.dst = d) (hQ : ∀ c a w, Q (.panic c) (a.put d v) w → Q (.panic c) a w) (hw : Region.wanted o (yielded ops a.tmps) = true) (hy : ∀ w, S w → (execOp a.eval o).run P w = .ok (.value v) w)
    (h : wpTree P ops Q S T r (a.put d v) w) : wpTree P ops Q S T (.read i r) a w := by
  subst hd
  exact ⟨o, v, ho, hQ, .inl ⟨hw, hy⟩, h⟩
theorem wpOp_turn (ho : ops[i]? = some o) (hg : o.guard = none)
    (h : ∀ K : Act → World → Prop, (∀ a w, S w → (S w → wpTree P ops Q S T r a w) → K a w) → o.wp P a w K Q) : wpOp P ops Q i (fun a' w' => S w' ∧ (S w' → wpTree P ops Q S T r a' w')) a w := by
  refine wpOp_step ho (fun K hK => ?_)
  rw [if_pos (by simp [Region.wanted, hg])]
  exact h K fun a w hS hW => hK a w ⟨hS, hW⟩
theorem tree_turn (ho : ops[i]? = some o) (hg : o.guard = none)
    (h : ∀ K : Act → World → Prop, (∀ a w, S w → (S w → wpTree P ops Q S T r a w) → K a w) → o.wp P a w K Q) : wpTree P ops Q S T (.turn i r) a w := wpOp_turn ho hg h
theorem tree_fork {j : Nat} {ri rj : Way} {oi oj : Oper} (hi : ops[i]? = some oi) (hgi : oi.guard = none) (hj : ops[j]? = some oj) (hgj : oj.guard = none)
    (h1 : ∀ K : Act → World → Prop, (∀ a w, S w → (S w → wpTree P ops Q S T ri a w) → K a w) → oi.wp P a w K Q)
    (h2 : ∀ K : Act → World → Prop, (∀ a w, S w → (S w → wpTree P ops Q S T rj a w) → K a w) → oj.wp P a w K Q) : wpTree P ops Q S T (.fork i ri j rj) a w := ⟨wpOp_turn hi hgi h1, wpOp_turn hj hgj h2⟩
theorem tree_done (h : T a w) : wpTree P ops Q S T .done a w := h
end
end Go.Proofs.Ytnbgbmddkbneeaa.Obj
end

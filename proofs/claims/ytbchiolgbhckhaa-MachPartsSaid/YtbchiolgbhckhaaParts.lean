/- So many steps, and then so many, are as many as both at once: the walk. -/
import Derived.Test.YtbchiolgbhckhaaAid
set_option linter.unusedVariables false
set_option linter.unusedSimpArgs false
namespace Go.Proofs.Ytbchiolgbhckhaa.Mach
open Go.RowKit Go.Proofs.YtbchiolgbhckhaaW.PrintWords Go.Proofs.YtbchiolgbhckhaaW.PrintMore Go.Proofs.Ytbchiolgbhckhaa.PMachRuns
theorem of_drew {w w' : World} (h : Below w.drew.heap.size w.drew w') : Below w.heap.size w w' := ((Below.refl _ _).drew).trans (h.mono (Nat.le_refl _))
section
variable {P : Program} {ops : Array Oper} {Q : Exit → Act → World → Prop} {S : World → Prop} {T : Act → World → Prop} {i : Nat} {r : Way} {a : Act} {w : World} {o : Oper}
/-- A guarded operation that turns the world, its guard being met. -/
theorem tree_turn_g (ho : ops[i]? = some o) (hw : Region.wanted o (yielded ops a.tmps) = true)
    (h : ∀ K : Act → World → Prop, (∀ a w, S w → (S w → wpTree P ops Q S T r a w) → K a w) → o.wp P a w K Q) : wpTree P ops Q S T (.turn i r) a w := by
  unfold wpTree
  refine wpOp_step ho (fun K hK => ?_)
  rw [if_pos hw]
  exact h K fun a w hS hW => hK a w ⟨hS, hW⟩
/-- A guarded operation, its guard not being met. -/
theorem tree_skip (ho : ops[i]? = some o) (hw : Region.wanted o (yielded ops a.tmps) = false) (hQ : ∀ c a w, Q (.panic c) (a.put o.dst undef) w → Q (.panic c) a w)
    (h : wpTree P ops Q S T r (a.put o.dst undef) w) : wpTree P ops Q S T (.read i r) a w := ⟨o, undef, ho, hQ, .inr ⟨hw, rfl⟩, h⟩
end
theorem reg_at {w w1 : World} {L : Lay} {s : MS} {m : Nat} {v i : Int} (a : Nat) (h : Holds w L s) (hb : Below w.heap.size w w1) (ha : a < 16) (hi : i = (a : Int)) (hm : L.m = m) (hv : s.reg a = v) :
    Calls Try.prog 20 #[.pointer (some ⟨m, 0, none⟩), .int .i64 i] w1 fun e w' => e = .returned (.int .i64 v) ∧ w1 = w' := by
  subst hi hm hv
  exact reg_some (h.below hb) a ha
theorem parts_law (code data inp : List Int) (en : Int) (M : Nat) (a b : Int) (ha : a ≤ 3000) (hb : b ≤ 3000) :
    let s1 := runN a.toNat (fresh code data inp en M)
    let s2 := runN b.toNat s1
    runN (min (max a 0 + max b 0) 4194304).toNat (fresh code data inp en M) = s2 ∧ s1.steps ≤ max a 0 ∧ s2.steps ≤ max a 0 + max b 0 ∧ (s1.kind = 0 → s1.steps = max a 0) ∧ (¬ s1.kind = 0 → s2.steps = s1.steps) := by
  dsimp only
  have e : (min (max a 0 + max b 0) 4194304).toNat = a.toNat + b.toNat := by omega
  have h0 : (fresh code data inp en M).steps = 0 := rfl
  obtain ⟨a1, a2, a3⟩ := runN_steps a.toNat (fresh code data inp en M) (by omega) (by omega)
  obtain ⟨b1, b2, b3⟩ := runN_steps b.toNat (runN a.toNat (fresh code data inp en M)) (by omega) (by omega)
  exact ⟨by rw [e, runN_add], by omega, by omega, fun hk => by rw [a3 hk]; omega, fun hk => by rw [runN_stop hk]⟩
/-- The output that was told is being spoilt. -/
structure XR (w4 wr : World) (B n : Nat) (A : Option Addr) : Prop where
  os : wr.os = w4.os
  tape : wr.tape = w4.tape
  output : wr.output = w4.output
  size : wr.heap.size = w4.heap.size
  block : ∀ b, A ≠ some ⟨b, 0, none⟩ → wr.heap[b]? = w4.heap[b]?
  row : ∀ j, j < n → ∃ g v, A = some ⟨g, 0, none⟩ ∧ wr.cell? ⟨g, j, none⟩ = some (.int .u8 v)
  free : ∀ g o, A = some ⟨g, 0, none⟩ → wr.frozen? ⟨g, o, none⟩ = false
  low : ∀ g, A = some ⟨g, 0, none⟩ → B ≤ g ∧ g < w4.heap.size
theorem XR.of {w4 : World} {B n c : Nat} {A : Option Addr} {xs : List Int} (h : w4.ownsRow B 5 1 (.slice A n c) n (nums .u8 xs)) : XR w4 w4 B n A := by
  have hl : xs.length = n := by have := h.1; simpa [nums] using this
  rcases h.2 with ⟨e1, e2⟩ | ⟨g, cap, cur, e1, _⟩
  · cases e1
    exact ⟨rfl, rfl, rfl, rfl, fun _ _ => rfl, fun j hj => by omega, (fun g o e => by cases e), fun g e => by cases e⟩
  · cases e1
    refine ⟨rfl, rfl, rfl, rfl, fun _ _ => rfl, fun j hj => ⟨g, xs.getD j 0, rfl, ?_⟩, (fun g' o e => by cases e; exact World.ownsRow.frozenAt h o), fun g' e => by cases e; exact h.lt g rfl⟩
    have := h.cells (g := g) rfl j _ (nums_get (show j < xs.length by omega))
    rwa [add_at] at this
theorem XR.step {w4 wr : World} {B n : Nat} {g : Nat} (h : XR w4 wr B n (some ⟨g, 0, none⟩)) (k : Nat) (v : Int) : XR w4 (wr.drew.setCell ⟨g, k, none⟩ (.int .u8 v)) B n (some ⟨g, 0, none⟩) := by
  refine ⟨h.os, h.tape, h.output, by simpa [World.setCell] using h.size, fun b hb => (Below.heap_setCell _ _ _ _ (fun e => hb (by rw [show b = g from e]))).trans (h.block b hb), fun j hj => ?_, fun g' o e => by rw [World.frozen?_setCell]; exact h.free g' o e, h.low⟩
  obtain ⟨g', v', e, hc⟩ := h.row j hj
  cases e
  by_cases ej : j = k
  · subst ej
    exact ⟨g, v, rfl, World.cell?_setCell_same _ _ _ (show wr.drew.cell? ⟨g, j, none⟩ = _ from hc)⟩
  · exact ⟨g, v', rfl, (World.cell?_setCell_other _ _ _ _ (fun e' => ej (by injection e' with _ e' _; exact e'.symm))).trans hc⟩
theorem XR.below {w4 wr : World} {B n : Nat} {A : Option Addr} (h : XR w4 wr B n A) {b0 : Nat} (hb : b0 ≤ B) : Below b0 w4 wr :=
  ⟨h.os, h.tape, h.output, Nat.le_of_eq h.size.symm, fun k hk => h.block k (fun e => by have := (h.low k e).1; omega)⟩
theorem XR.holds {w4 wr : World} {B n : Nat} {A : Option Addr} {L : Lay} {s : MS} (h : XR w4 wr B n A) (hH : Holds w4 L s) (hf : ∀ b, L.foot s.inp b → b < B) : Holds wr L s :=
  hH.frame (Nat.le_of_eq h.size.symm) fun b hb => h.block b (fun e => by have := (h.low b e).1; have := hf b hb; omega)
theorem told_lit {B : Nat} {S : MS} {e : Ending} {w' : World} (h : Told B S e w') {k p st : Int} {o : List Int} (hk : S.kind = k) (hp : S.panics = p) (ho : S.out = o) (hs : S.steps = st) :
    ∃ A c, e = .returned (.agg #[.int .i64 k, .int .i64 p, .slice A o.length c, .int .i64 st]) ∧ w'.ownsRow B 5 1 (.slice A o.length c) o.length (nums .u8 o) := by
  obtain ⟨v, rfl, hv⟩ := h
  subst hk hp ho hs
  obtain ⟨A, c, rfl⟩ := own_slice hv
  exact ⟨A, c, rfl, hv⟩
set_option maxRecDepth 100000 in
set_option maxHeartbeats 4000000 in
theorem machParts_walk {A1 A2 A3 : Option Addr} {n1 c1 n2 c2 n3 c3 : Nat} {en : Int} {code data inp : List Int} (w : World) (him : Image w A1 n1 c1 A2 n2 c2 code data) (mem : Int) (hin : Input w A3 n3 c3 inp) (a b : Int) (l1 : n1 ≤ c1) (l2 : n2 ≤ c2) (m1 : c1 ≤ maxLen) (m2 : c2 ≤ maxLen) (hmw : (Lit.int .i64 mem).wf = true) (l3 : n3 ≤ c3) (m3 : c3 ≤ maxLen) (haw : (Lit.int .i64 a).wf = true) (hbw : (Lit.int .i64 b).wf = true) :
    Calls Try.prog 8 #[.agg #[.slice A1 n1 c1, .slice A2 n2 c2, .int .i64 en], .int .i64 mem, .slice A3 n3 c3, .int .i64 a, .int .i64 b] w fun e w' => e = .returned (.bool true) ∧ Below w.heap.size w w' := by
  have ha := (Num.wf_i64 haw).2
  have hb := (Num.wf_i64 hbw).2
  clear hmw haw hbw
  have im : ∀ X, Below w.heap.size w X → Image X A1 n1 c1 A2 n2 c2 code data := fun X h => him.below h
  have inn : ∀ X, Below w.heap.size w X → Input X A3 n3 c3 inp := fun X h => hin.below h
  have hb0 := alloc_below w (.cells #[.slice A1 n1 c1, .slice A2 n2 c2, .int .i64 en] 24)
  by_cases hh : (n1 : Int) > 2000 ∨ (n2 : Int) > 2000 ∨ mem > 5000 ∨ (n3 : Int) > 100 ∨ a > 3000
  · have hv := heavy_any (en := en) (mem := mem) (fuel := a) (im _ hb0) (inn _ hb0) l1 l2 l3 m1 m2 m3 true (by rw [decide_eq_true hh])
    clear hh him hin
    go_enter Try.func8, Try.ntmps8
    go_wp2_with (first | (go_at_call 12; refine hv.mono ?_; rintro e w1 ⟨rfl, hb1⟩) | (go_at_call 13; refine (awake_any _).mono ?_; rintro e w2 ⟨rfl, hb2⟩))
    go_ret
    exact ⟨rfl, bnext hb0 (bnext hb1 hb2)⟩
  have hv := heavy_any (en := en) (mem := mem) (fuel := a) (im _ hb0) (inn _ hb0) l1 l2 l3 m1 m2 m3 false (by rw [decide_eq_false hh])
  have a3 : a ≤ 3000 := by omega
  clear hh
  by_cases hb3 : 3000 < b
  · have hd : decide ((3000 : Int) < b) = true := decide_eq_true hb3
    clear him hin
    go_enter Try.func8, Try.ntmps8
    go_wp2_with (first | (go_at_call 12; refine hv.mono ?_; rintro e w1 ⟨rfl, hb1⟩) | (go_at_call 13; refine (awake_any _).mono ?_; rintro e w2 ⟨rfl, hb2⟩))
    go_ret
    exact ⟨rfl, bnext hb0 (bnext hb1 hb2)⟩
  have hd : decide ((3000 : Int) < b) = false := decide_eq_false hb3
  have b3 : b ≤ 3000 := by omega
  clear hb3
  by_cases he : newErr n1 n2 n3 en mem = 0
  rotate_left
  · have hn : ∀ X : World, Calls Try.prog 14 #[.agg #[.slice A1 n1 c1, .slice A2 n2 c2, .int .i64 en], .int .i64 mem, .slice A3 n3 c3] X _ := fun X => new_bad X rfl he
    have hz : (newErr n1 n2 n3 en mem != 0) = true := by simpa using he
    generalize newErr n1 n2 n3 en mem = er at hn hz
    clear he him hin
    go_enter Try.func8, Try.ntmps8
    go_wp2_with (first | (go_at_call 12; refine hv.mono ?_; rintro e w1 ⟨rfl, hb1⟩; obtain ⟨e1, e2, e3, e4⟩ := img_kept hb1) | (go_at_call 14; refine (hn _).mono ?_; rintro e w2 ⟨rfl, hb2⟩) | (go_at_call 16; refine (num_any _ _).mono ?_; rintro e w7 ⟨rfl, rfl⟩) | (go_at_call 13; refine (awake_any _).mono ?_; rintro e w3 ⟨rfl, hb3⟩))
    go_ret
    exact ⟨rfl, bnext hb0 (bnext hb1 (bnext hb2 hb3))⟩
  have hn : ∀ X, Below w.heap.size w X → _ := fun X hX => new_good (im X hX) (inn X hX) he
  obtain ⟨q1, q2, q3, q4, q5⟩ := parts_law code data inp en mem.toNat a b a3 b3
  have hw : whole n1 n2 n3 en mem code data inp (max a 0 + max b 0) = runN b.toNat (runN a.toNat (fresh code data inp en mem.toNat)) := by unfold whole; rw [if_pos he]; exact q1
  obtain ⟨K, hK⟩ : ∃ K, max a 0 = K := ⟨_, rfl⟩
  obtain ⟨J, hJ⟩ : ∃ J, max b 0 = J := ⟨_, rfl⟩
  have K0 : 0 ≤ K := by omega
  have K1 : K ≤ 3000 := by omega
  have J0 : 0 ≤ J := by omega
  have J1 : J ≤ 3000 := by omega
  rw [hK, hJ] at hw
  rw [hK] at q2 q4
  rw [hK, hJ] at q3
  generalize hf : fresh code data inp en mem.toNat = f0 at hn hw q2 q3 q4 q5
  have hf0 : f0.out.length ≤ 4096 := by rw [← hf]; exact Nat.zero_le _
  have hfi : f0.inp = inp := by rw [← hf]; rfl
  have hfo : OutIn f0 := by rw [← hf]; exact fresh_outin _ _ _ _ _
  generalize hS1 : runN a.toNat f0 = S1 at hw q2 q3 q4 q5
  have hl1 : S1.out.length ≤ 4096 := by rw [← hS1]; exact (runN_outin _ hfo).1
  generalize hS2 : runN b.toNat S1 = S2 at hw q3 q5
  have hl2 : S2.out.length ≤ 4096 := by rw [← hS2, ← hS1]; exact (runN_outin _ (runN_outin _ hfo)).1
  have run1 : ∀ {X : World} {L : Lay}, Holds X L f0 → _ := fun {X L} hH => run_any (w := X) (L := L) hH hf0 a ha
  have run2 : ∀ {X : World} {L : Lay}, Holds X L S1 → _ := fun {X L} hH => run_any (w := X) (L := L) hH hl1 b hb
  rw [hS1] at run1
  rw [hS2] at run2
  obtain ⟨k1, hk1⟩ : ∃ k, S1.kind = k := ⟨_, rfl⟩
  obtain ⟨p1, hp1⟩ : ∃ k, S1.panics = k := ⟨_, rfl⟩
  obtain ⟨s1, hs1⟩ : ∃ k, S1.steps = k := ⟨_, rfl⟩
  obtain ⟨o1, ho1⟩ : ∃ k, S1.out = k := ⟨_, rfl⟩
  obtain ⟨k2, hk2⟩ : ∃ k, S2.kind = k := ⟨_, rfl⟩
  obtain ⟨p2, hp2⟩ : ∃ k, S2.panics = k := ⟨_, rfl⟩
  obtain ⟨s2, hs2⟩ : ∃ k, S2.steps = k := ⟨_, rfl⟩
  obtain ⟨o2, ho2⟩ : ∃ k, S2.out = k := ⟨_, rfl⟩
  have r2 : ∀ X, Below w.heap.size w X → _ := fun X h => mrun_lit (k := k2) (p := p2) (o := o2) (st := s2) (im X h) (inn X h) (K + J) (by omega) (by rw [hw]; exact hk2) (by rw [hw]; exact hp2) (by rw [hw]; exact ho2) (by rw [hw]; exact hs2)
  rw [hs1] at q2
  rw [hs2] at q3
  rw [hk1, hs1] at q4
  rw [hk1, hs1, hs2] at q5
  clear him hin he hw hf hS1 hS2 hfo ha hb q1 im inn
  by_cases hz : k1 = 0
  · have e1 := q4 hz
    subst hz e1
    have d1 : decide (s1 < s1) = false := decide_eq_false (by omega)
    have d2 : decide (s1 + J < s2) = false := decide_eq_false (by omega)
    clear q2 q4 q5
    go_enter Try.func8, Try.ntmps8
    go_upto_region 10 with (first | (go_at_call 12; refine hv.mono ?_; rintro e w1 ⟨rfl, hb1⟩; have t1 := bnext hb0 hb1; obtain ⟨e1, e2, e3, e4⟩ := img_kept hb1) | (go_at_call 14; refine (hn _ t1).mono ?_; rintro e w2 ⟨L, rfl, hH, hb2, hft⟩) | (go_at_call 16; refine (num_any _ _).mono ?_; rintro e w7 ⟨rfl, rfl⟩) | (go_at_call 25; refine (run1 hH).mono ?_; rintro e w3 ⟨L1, B1, hN, hT, hB1, hB2⟩; obtain ⟨A3', c3', rfl, R3⟩ := told_lit hT hk1 hp1 ho1 hs1))
    have z1 := hb1.size
    have z2 := hb2.size
    have ft2 : ∀ b', L.foot f0.inp b' → (w.alloc (.cells #[.slice A1 n1 c1, .slice A2 n2 c2, .int .i64 en] 24)).heap.size ≤ b' := fun b' hb' => Nat.le_trans z1 (hft b' (hfi ▸ hb'))
    have tb2 := bnext hb1 hb2
    have tb3 : Below (w.alloc (.cells #[.slice A1 n1 c1, .slice A2 n2 c2, .int .i64 en] 24)).heap.size (w.alloc (.cells #[.slice A1 n1 c1, .slice A2 n2 c2, .int .i64 en] 24)) w3 := tb2.trans (hN.far.below tb2.size ft2)
    have hm1 : L1.m = L.m := hN.same
    have ft3 : ∀ b', L1.foot S1.inp b' → (w.alloc (.cells #[.slice A1 n1 c1, .slice A2 n2 c2, .int .i64 en] 24)).heap.size ≤ b' := fun b' hb' => (hN.near b' hb').elim (ft2 b') (fun h => Nat.le_trans tb2.size h)
    have hH3 := hN.holds.below (alloc_below w3 (.cells #[.int .i64 0, .int .i64 p1, .slice A3' o1.length c3', .int .i64 s1] 34))
    have tb3' := bnext tb3 (alloc_below w3 (.cells #[.int .i64 0, .int .i64 p1, .slice A3' o1.length c3', .int .i64 s1] 34))
    have X0 := XR.of (own_below R3 (alloc_below w3 (.cells #[.int .i64 0, .int .i64 p1, .slice A3' o1.length c3', .int .i64 s1] 34)))
    have hlo : o1.length ≤ 4096 := ho1 ▸ hl1
    have b01 : (w.alloc (.cells #[.slice A1 n1 c1, .slice A2 n2 c2, .int .i64 en] 24)).heap.size ≤ B1 := Nat.le_trans tb2.size hB1
    clear e1 e2 e3 e4 hT
    go_wp2
    go_loopw [18] (fun i wr => ∃ k : Nat, i = .int .i64 (k : Int) ∧ k ≤ o1.length ∧ XR (w3.alloc (.cells #[.int .i64 0, .int .i64 p1, .slice A3' o1.length c3', .int .i64 s1] 34)) wr B1 o1.length A3') (fun i _ => o1.length - (intOf i).toNat)
    case atStart => exact ⟨0, by go_num, Nat.zero_le _, X0⟩
    case round =>
      obtain ⟨k, rfl, hk, hX⟩ := hrel
      have hsz := hX.size
      simp only [World.size_alloc] at hsz
      have nb : A3' ≠ some ⟨w3.heap.size, 0, none⟩ := fun e => by
        have := R3.lt w3.heap.size (by rw [e]; rfl)
        omega
      have e2 : wr.cell? ⟨w3.heap.size, 2, none⟩ = some (.slice A3' o1.length c3') := (World.cell?_of_block (hX.block _ nb)).trans (by simp)
      have ez : w3.heap.size < wr.heap.size := by omega
      by_cases hlt : k < o1.length
      · obtain ⟨g, v, rfl, hc⟩ := hX.row k hlt
        have ng : ¬ g = w3.heap.size := fun e => nb (by rw [e])
        have ng' : ¬ w3.heap.size = g := fun e => ng e.symm
        have gl : g < wr.heap.size := by have := (hX.low g rfl).2; simp only [World.size_alloc] at this; omega
        have gf : ∀ o, wr.frozen? ⟨g, o, none⟩ = false := fun o => hX.free g o rfl
        have HX := Lib.hid hX
        clear hX nb X0 hH3 tb3'
        go_wp2
        refine region_tail 10 mixed (by kernel_rfl) ?_
        simp only [List.take_succ_cons, List.take_zero, List.drop_succ_cons, List.drop_zero]
        repeat still_step
        refine wpStill_nil ?_
        go_wp2
        go_roundw
        case rel => exact ⟨k + 1, by go_num, by omega, HX.out.step k _⟩
        case measure => simp [intOf]; omega
      · obtain rfl : k = o1.length := by omega
        have hHr := hX.holds hH3 hB2
        have tbr := tb3'.trans (hX.below b01)
        have hr2 := run2 hHr
        rw [hm1] at hr2
        have HX := Lib.hid hX
        clear hX X0 hH3 nb
        go_wp2_with (go_at_call 25; refine hr2.mono ?_; rintro e w5 ⟨L2, B2, hN2, hT2, hB3, hB4⟩; obtain ⟨A5, c5, rfl, R5⟩ := told_lit hT2 hk2 hp2 ho2 hs2)
        have tb5 : Below (w.alloc (.cells #[.slice A1 n1 c1, .slice A2 n2 c2, .int .i64 en] 24)).heap.size (w.alloc (.cells #[.slice A1 n1 c1, .slice A2 n2 c2, .int .i64 en] 24)) w5 := tbr.trans (hN2.far.below tbr.size ft3)
        have tb6 := bnext tb5 (alloc_below w5 (.cells #[.int .i64 k2, .int .i64 p2, .slice A5 o2.length c5, .int .i64 s2] 34))
        have t6 := bnext hb0 tb6
        have hH5 := hN2.holds
        have hm2 : L2.m = L.m := hN2.same.trans hm1
        have hlo2 : o2.length ≤ 4096 := ho2 ▸ hl2
        clear hr2 hT2
        have hwr : IntKind.i64.wrap (s1 + J) = s1 + J := by rw [Num.i64_wrap_eq]; unfold wrap64; omega
        refine region_tree2 (fun W w' => Below W.heap.size W w') (.read 0 (.read 1 (.read 2 (.read 3 (.read 4 (.read 5 (.read 6 (.turn 7 (.turn 8 (.read 9 (.read 10 (.read 12 (.turn 11 (.turn 13 (.read 14 (.read 15 (.turn 16 .done))))))))))))))))) 17
          (fun a W a' w' => Below W.heap.size W w' ∧ ∃ vA vn vc uA un uc, a' = (((((((((((((((((a.put (some 102) (.agg #[.int .i64 k2, .int .i64 p2, .slice A5 o2.length c5, .int .i64 s2])).put (some 103) (.agg #[.slice A1 n1 c1, .slice A2 n2 c2, .int .i64 en])).put (some 104) (.int .i64 mem)).put (some 105) (.slice A3 n3 c3)).put (some 106) (.int .i64 s1)).put (some 107) (.int .i64 J)).put (some 108) (.int .i64 (s1 + J))).put (some 109) (.agg #[.int .i64 k2, .int .i64 p2, .slice vA vn vc, .int .i64 s2])).put (some 110) (.bool true)).put (some 111) (.bool true)).put (some 112) (.pointer (some ⟨L.m, 0, none⟩))).put (some 114) (.agg #[.int .i64 k2, .int .i64 p2, .slice A5 o2.length c5, .int .i64 s2])).put (some 113) (.agg #[.int .i64 k2, .int .i64 p2, .slice uA un uc, .int .i64 s2])).put (some 115) (.bool true)).put (some 116) (.bool true)).put (some 117) (.bool true)).put (some 118) (.bool true))) mixed (by kernel_rfl) (Below.refl _ _) ?_ ?_
        refine tree_read (some 102) ?vz0 rfl rfl (fun _ _ _ h => h) (by kernel_rfl) ?yz0 ?_
        case yz0 => intro w' hS; obtain ⟨e1, e2, e3, e4⟩ := img_kept (bnext tb6 (of_drew hS)); obtain ⟨f1, f2, f3, f4, f5⟩ := out_kept (X := w') (w := w5) (v0 := .int .i64 k2) (v1 := .int .i64 p2) (v2 := .slice A5 o2.length c5) (v3 := .int .i64 s2) (t := 34) (of_drew hS); go_simp; try rfl
        refine tree_read (some 103) ?vz1 rfl rfl (fun _ _ _ h => h) (by kernel_rfl) ?yz1 ?_
        case yz1 => intro w' hS; obtain ⟨e1, e2, e3, e4⟩ := img_kept (bnext tb6 (of_drew hS)); obtain ⟨f1, f2, f3, f4, f5⟩ := out_kept (X := w') (w := w5) (v0 := .int .i64 k2) (v1 := .int .i64 p2) (v2 := .slice A5 o2.length c5) (v3 := .int .i64 s2) (t := 34) (of_drew hS); go_simp; try rfl
        refine tree_read (some 104) ?vz2 rfl rfl (fun _ _ _ h => h) (by kernel_rfl) ?yz2 ?_
        case yz2 => intro w' hS; obtain ⟨e1, e2, e3, e4⟩ := img_kept (bnext tb6 (of_drew hS)); obtain ⟨f1, f2, f3, f4, f5⟩ := out_kept (X := w') (w := w5) (v0 := .int .i64 k2) (v1 := .int .i64 p2) (v2 := .slice A5 o2.length c5) (v3 := .int .i64 s2) (t := 34) (of_drew hS); go_simp; try rfl
        refine tree_read (some 105) ?vz3 rfl rfl (fun _ _ _ h => h) (by kernel_rfl) ?yz3 ?_
        case yz3 => intro w' hS; obtain ⟨e1, e2, e3, e4⟩ := img_kept (bnext tb6 (of_drew hS)); obtain ⟨f1, f2, f3, f4, f5⟩ := out_kept (X := w') (w := w5) (v0 := .int .i64 k2) (v1 := .int .i64 p2) (v2 := .slice A5 o2.length c5) (v3 := .int .i64 s2) (t := 34) (of_drew hS); go_simp; try rfl
        refine tree_read (some 106) ?vz4 rfl rfl (fun _ _ _ h => h) (by kernel_rfl) ?yz4 ?_
        case yz4 => intro w' hS; obtain ⟨e1, e2, e3, e4⟩ := img_kept (bnext tb6 (of_drew hS)); obtain ⟨f1, f2, f3, f4, f5⟩ := out_kept (X := w') (w := w5) (v0 := .int .i64 k2) (v1 := .int .i64 p2) (v2 := .slice A5 o2.length c5) (v3 := .int .i64 s2) (t := 34) (of_drew hS); go_simp; try rfl
        refine tree_read (some 107) ?vz5 rfl rfl (fun _ _ _ h => h) (by kernel_rfl) ?yz5 ?_
        case yz5 => intro w' hS; obtain ⟨e1, e2, e3, e4⟩ := img_kept (bnext tb6 (of_drew hS)); obtain ⟨f1, f2, f3, f4, f5⟩ := out_kept (X := w') (w := w5) (v0 := .int .i64 k2) (v1 := .int .i64 p2) (v2 := .slice A5 o2.length c5) (v3 := .int .i64 s2) (t := 34) (of_drew hS); go_simp; try rfl
        refine tree_read (some 108) ?vz6 rfl rfl (fun _ _ _ h => h) (by kernel_rfl) ?yz6 ?_
        case yz6 => intro w' hS; obtain ⟨e1, e2, e3, e4⟩ := img_kept (bnext tb6 (of_drew hS)); obtain ⟨f1, f2, f3, f4, f5⟩ := out_kept (X := w') (w := w5) (v0 := .int .i64 k2) (v1 := .int .i64 p2) (v2 := .slice A5 o2.length c5) (v3 := .int .i64 s2) (t := 34) (of_drew hS); go_simp; try rfl
        refine tree_turn_g rfl (by kernel_rfl) (fun K hK => ?_)
        go_simp
        refine (r2 _ t6.drew).mono ?_
        rintro e w7 ⟨A7, j7, c7, rfl, ⟨u7, R7, _⟩, x7, y7, z7, hb7⟩
        go_simp
        refine hK _ _ hb7 (fun _ => ?_)
        clear hK K
        refine tree_turn_g rfl (by kernel_rfl) (fun K hK => ?_)
        go_simp
        refine (same_any (own_reads (own_below R5 (bnext (alloc_below w5 (.cells #[.int .i64 k2, .int .i64 p2, .slice A5 o2.length c5, .int .i64 s2] 34)) (of_drew hb7)))) (own_reads R7) (own_cap R5).1 x7 (by omega) (by omega) rfl rfl rfl rfl).mono ?_
        rintro e w8 ⟨rfl, hb8⟩
        go_simp
        have hb78 := hb7.trans (hb8.mono hb7.size)
        refine hK _ _ hb78 (fun _ => ?_)
        clear hK K
        refine tree_read (some 111) ?vz9 rfl rfl (fun _ _ _ h => h) (by kernel_rfl) ?yz9 ?_
        case yz9 => intro w' hS; obtain ⟨e1, e2, e3, e4⟩ := img_kept (bnext tb6 (of_drew hS)); obtain ⟨f1, f2, f3, f4, f5⟩ := out_kept (X := w') (w := w5) (v0 := .int .i64 k2) (v1 := .int .i64 p2) (v2 := .slice A5 o2.length c5) (v3 := .int .i64 s2) (t := 34) (of_drew hS); go_simp; try rfl
        refine tree_read (some 112) ?vz10 rfl rfl (fun _ _ _ h => h) (by kernel_rfl) ?yz10 ?_
        case yz10 => intro w' hS; obtain ⟨e1, e2, e3, e4⟩ := img_kept (bnext tb6 (of_drew hS)); obtain ⟨f1, f2, f3, f4, f5⟩ := out_kept (X := w') (w := w5) (v0 := .int .i64 k2) (v1 := .int .i64 p2) (v2 := .slice A5 o2.length c5) (v3 := .int .i64 s2) (t := 34) (of_drew hS); go_simp; try rfl
        refine tree_read (some 114) ?vz12 rfl rfl (fun _ _ _ h => h) (by kernel_rfl) ?yz12 ?_
        case yz12 => intro w' hS; obtain ⟨e1, e2, e3, e4⟩ := img_kept (bnext tb6 (of_drew hS)); obtain ⟨f1, f2, f3, f4, f5⟩ := out_kept (X := w') (w := w5) (v0 := .int .i64 k2) (v1 := .int .i64 p2) (v2 := .slice A5 o2.length c5) (v3 := .int .i64 s2) (t := 34) (of_drew hS); go_simp; try rfl
        refine tree_turn_g rfl (by kernel_rfl) (fun K hK => ?_)
        go_simp
        have hH8 := hH5.below (bnext (alloc_below w5 (.cells #[.int .i64 k2, .int .i64 p2, .slice A5 o2.length c5, .int .i64 s2] 34)) (of_drew hb78))
        have hout := outcome_any hH8 hl2
        rw [hm2, hk2, hp2, hs2, ho2] at hout
        refine hout.mono ?_
        rintro e w9 ⟨v9, rfl, R9, hb9⟩
        obtain ⟨A9, c9, rfl⟩ := own_slice R9
        go_simp
        have hb79 := hb78.trans (hb9.mono hb78.size)
        refine hK _ _ hb79 (fun _ => ?_)
        clear hK K
        refine tree_turn_g rfl (by kernel_rfl) (fun K hK => ?_)
        go_simp
        refine (same_any (own_reads R9) (own_reads (own_below R5 (bnext (alloc_below w5 (.cells #[.int .i64 k2, .int .i64 p2, .slice A5 o2.length c5, .int .i64 s2] 34)) (of_drew hb79)))) (own_cap R9).1 (own_cap R5).1 (by omega) (by omega) rfl rfl rfl rfl).mono ?_
        rintro e w10 ⟨rfl, hb10⟩
        go_simp
        have hb710 := hb79.trans (hb10.mono hb79.size)
        refine hK _ _ hb710 (fun _ => ?_)
        clear hK K
        refine tree_read (some 116) ?vz14 rfl rfl (fun _ _ _ h => h) (by kernel_rfl) ?yz14 ?_
        case yz14 => intro w' hS; obtain ⟨e1, e2, e3, e4⟩ := img_kept (bnext tb6 (of_drew hS)); obtain ⟨f1, f2, f3, f4, f5⟩ := out_kept (X := w') (w := w5) (v0 := .int .i64 k2) (v1 := .int .i64 p2) (v2 := .slice A5 o2.length c5) (v3 := .int .i64 s2) (t := 34) (of_drew hS); go_simp; try rfl
        refine tree_read (some 117) ?vz15 rfl rfl (fun _ _ _ h => h) (by kernel_rfl) ?yz15 ?_
        case yz15 => intro w' hS; obtain ⟨e1, e2, e3, e4⟩ := img_kept (bnext tb6 (of_drew hS)); obtain ⟨f1, f2, f3, f4, f5⟩ := out_kept (X := w') (w := w5) (v0 := .int .i64 k2) (v1 := .int .i64 p2) (v2 := .slice A5 o2.length c5) (v3 := .int .i64 s2) (t := 34) (of_drew hS); go_simp; try rfl
        refine tree_turn_g rfl (by kernel_rfl) (fun K hK => ?_)
        go_simp
        refine (awake_any _).mono ?_
        rintro e wz ⟨rfl, hbw⟩
        go_simp
        have hbz := hb710.trans (hbw.mono hb710.size)
        refine hK _ _ hbz (fun _ => ?_)
        clear hK K
        exact tree_done ⟨hbz, A7, j7, c7, A9, o2.length, c9, by kernel_rfl⟩
        rintro a' w6 ⟨hb6, vA, vn, vc, uA, un, uc, rfl⟩
        simp only [List.drop_succ_cons, List.drop_zero]
        go_simp
        go_wp2
        go_ret
        exact ⟨rfl, bnext t6 (of_drew hb6)⟩
  · have e1 := q5 hz
    subst e1
    have d1 : decide (K < s2) = false := decide_eq_false (by omega)
    have d2 : decide (K + J < s2) = false := decide_eq_false (by omega)
    have d3 : (k1 == 0) = false := by simpa using hz
    have d4 : (k1 != 0) = true := by simpa using hz
    clear q2 q3 q4 q5 hz
    go_enter Try.func8, Try.ntmps8
    go_upto_region 10 with (first | (go_at_call 12; refine hv.mono ?_; rintro e w1 ⟨rfl, hb1⟩; have t1 := bnext hb0 hb1; obtain ⟨e1, e2, e3, e4⟩ := img_kept hb1) | (go_at_call 14; refine (hn _ t1).mono ?_; rintro e w2 ⟨L, rfl, hH, hb2, hft⟩) | (go_at_call 16; refine (num_any _ _).mono ?_; rintro e w7 ⟨rfl, rfl⟩) | (go_at_call 25; refine (run1 hH).mono ?_; rintro e w3 ⟨L1, B1, hN, hT, hB1, hB2⟩; obtain ⟨A3', c3', rfl, R3⟩ := told_lit hT hk1 hp1 ho1 hs1))
    have z1 := hb1.size
    have z2 := hb2.size
    have ft2 : ∀ b', L.foot f0.inp b' → (w.alloc (.cells #[.slice A1 n1 c1, .slice A2 n2 c2, .int .i64 en] 24)).heap.size ≤ b' := fun b' hb' => Nat.le_trans z1 (hft b' (hfi ▸ hb'))
    have tb2 := bnext hb1 hb2
    have tb3 : Below (w.alloc (.cells #[.slice A1 n1 c1, .slice A2 n2 c2, .int .i64 en] 24)).heap.size (w.alloc (.cells #[.slice A1 n1 c1, .slice A2 n2 c2, .int .i64 en] 24)) w3 := tb2.trans (hN.far.below tb2.size ft2)
    have hm1 : L1.m = L.m := hN.same
    have ft3 : ∀ b', L1.foot S1.inp b' → (w.alloc (.cells #[.slice A1 n1 c1, .slice A2 n2 c2, .int .i64 en] 24)).heap.size ≤ b' := fun b' hb' => (hN.near b' hb').elim (ft2 b') (fun h => Nat.le_trans tb2.size h)
    have hH3 := hN.holds.below (alloc_below w3 (.cells #[.int .i64 k1, .int .i64 p1, .slice A3' o1.length c3', .int .i64 s2] 34))
    have tb3' := bnext tb3 (alloc_below w3 (.cells #[.int .i64 k1, .int .i64 p1, .slice A3' o1.length c3', .int .i64 s2] 34))
    have X0 := XR.of (own_below R3 (alloc_below w3 (.cells #[.int .i64 k1, .int .i64 p1, .slice A3' o1.length c3', .int .i64 s2] 34)))
    have hlo : o1.length ≤ 4096 := ho1 ▸ hl1
    have b01 : (w.alloc (.cells #[.slice A1 n1 c1, .slice A2 n2 c2, .int .i64 en] 24)).heap.size ≤ B1 := Nat.le_trans tb2.size hB1
    clear e1 e2 e3 e4 hT
    go_wp2
    go_loopw [18] (fun i wr => ∃ k : Nat, i = .int .i64 (k : Int) ∧ k ≤ o1.length ∧ XR (w3.alloc (.cells #[.int .i64 k1, .int .i64 p1, .slice A3' o1.length c3', .int .i64 s2] 34)) wr B1 o1.length A3') (fun i _ => o1.length - (intOf i).toNat)
    case atStart => exact ⟨0, by go_num, Nat.zero_le _, X0⟩
    case round =>
      obtain ⟨k, rfl, hk, hX⟩ := hrel
      have hsz := hX.size
      simp only [World.size_alloc] at hsz
      have nb : A3' ≠ some ⟨w3.heap.size, 0, none⟩ := fun e => by
        have := R3.lt w3.heap.size (by rw [e]; rfl)
        omega
      have e2 : wr.cell? ⟨w3.heap.size, 2, none⟩ = some (.slice A3' o1.length c3') := (World.cell?_of_block (hX.block _ nb)).trans (by simp)
      have ez : w3.heap.size < wr.heap.size := by omega
      by_cases hlt : k < o1.length
      · obtain ⟨g, v, rfl, hc⟩ := hX.row k hlt
        have ng : ¬ g = w3.heap.size := fun e => nb (by rw [e])
        have ng' : ¬ w3.heap.size = g := fun e => ng e.symm
        have gl : g < wr.heap.size := by have := (hX.low g rfl).2; simp only [World.size_alloc] at this; omega
        have gf : ∀ o, wr.frozen? ⟨g, o, none⟩ = false := fun o => hX.free g o rfl
        have HX := Lib.hid hX
        clear hX nb X0 hH3 tb3'
        go_wp2
        refine region_tail 10 mixed (by kernel_rfl) ?_
        simp only [List.take_succ_cons, List.take_zero, List.drop_succ_cons, List.drop_zero]
        repeat still_step
        refine wpStill_nil ?_
        go_wp2
        go_roundw
        case rel => exact ⟨k + 1, by go_num, by omega, HX.out.step k _⟩
        case measure => simp [intOf]; omega
      · obtain rfl : k = o1.length := by omega
        have hHr := hX.holds hH3 hB2
        have tbr := tb3'.trans (hX.below b01)
        have hr2 := run2 hHr
        rw [hm1] at hr2
        have HX := Lib.hid hX
        clear hX X0 hH3 nb
        go_wp2_with (go_at_call 25; refine hr2.mono ?_; rintro e w5 ⟨L2, B2, hN2, hT2, hB3, hB4⟩; obtain ⟨A5, c5, rfl, R5⟩ := told_lit hT2 hk2 hp2 ho2 hs2)
        have tb5 : Below (w.alloc (.cells #[.slice A1 n1 c1, .slice A2 n2 c2, .int .i64 en] 24)).heap.size (w.alloc (.cells #[.slice A1 n1 c1, .slice A2 n2 c2, .int .i64 en] 24)) w5 := tbr.trans (hN2.far.below tbr.size ft3)
        have tb6 := bnext tb5 (alloc_below w5 (.cells #[.int .i64 k2, .int .i64 p2, .slice A5 o2.length c5, .int .i64 s2] 34))
        have t6 := bnext hb0 tb6
        have hH5 := hN2.holds
        have hm2 : L2.m = L.m := hN2.same.trans hm1
        have hlo2 : o2.length ≤ 4096 := ho2 ▸ hl2
        clear hr2 hT2
        have hwr : IntKind.i64.wrap (K + J) = K + J := by rw [Num.i64_wrap_eq]; unfold wrap64; omega
        refine region_tree2 (fun W w' => Below W.heap.size W w') (.read 0 (.read 1 (.read 2 (.read 3 (.read 4 (.read 5 (.read 6 (.turn 7 (.turn 8 (.read 9 (.read 10 (.read 12 (.turn 11 (.turn 13 (.read 14 (.read 15 (.turn 16 .done))))))))))))))))) 17
          (fun a W a' w' => Below W.heap.size W w' ∧ ∃ vA vn vc uA un uc, a' = (((((((((((((((((a.put (some 102) (.agg #[.int .i64 k2, .int .i64 p2, .slice A5 o2.length c5, .int .i64 s2])).put (some 103) (.agg #[.slice A1 n1 c1, .slice A2 n2 c2, .int .i64 en])).put (some 104) (.int .i64 mem)).put (some 105) (.slice A3 n3 c3)).put (some 106) (.int .i64 K)).put (some 107) (.int .i64 J)).put (some 108) (.int .i64 (K + J))).put (some 109) (.agg #[.int .i64 k2, .int .i64 p2, .slice vA vn vc, .int .i64 s2])).put (some 110) (.bool true)).put (some 111) (.bool true)).put (some 112) (.pointer (some ⟨L.m, 0, none⟩))).put (some 114) (.agg #[.int .i64 k2, .int .i64 p2, .slice A5 o2.length c5, .int .i64 s2])).put (some 113) (.agg #[.int .i64 k2, .int .i64 p2, .slice uA un uc, .int .i64 s2])).put (some 115) (.bool true)).put (some 116) (.bool true)).put (some 117) (.bool true)).put (some 118) (.bool true))) mixed (by kernel_rfl) (Below.refl _ _) ?_ ?_
        refine tree_read (some 102) ?v0 rfl rfl (fun _ _ _ h => h) (by kernel_rfl) ?y0 ?_
        case y0 => intro w' hS; obtain ⟨e1, e2, e3, e4⟩ := img_kept (bnext tb6 (of_drew hS)); obtain ⟨f1, f2, f3, f4, f5⟩ := out_kept (X := w') (w := w5) (v0 := .int .i64 k2) (v1 := .int .i64 p2) (v2 := .slice A5 o2.length c5) (v3 := .int .i64 s2) (t := 34) (of_drew hS); go_simp; try rfl
        refine tree_read (some 103) ?v1 rfl rfl (fun _ _ _ h => h) (by kernel_rfl) ?y1 ?_
        case y1 => intro w' hS; obtain ⟨e1, e2, e3, e4⟩ := img_kept (bnext tb6 (of_drew hS)); obtain ⟨f1, f2, f3, f4, f5⟩ := out_kept (X := w') (w := w5) (v0 := .int .i64 k2) (v1 := .int .i64 p2) (v2 := .slice A5 o2.length c5) (v3 := .int .i64 s2) (t := 34) (of_drew hS); go_simp; try rfl
        refine tree_read (some 104) ?v2 rfl rfl (fun _ _ _ h => h) (by kernel_rfl) ?y2 ?_
        case y2 => intro w' hS; obtain ⟨e1, e2, e3, e4⟩ := img_kept (bnext tb6 (of_drew hS)); obtain ⟨f1, f2, f3, f4, f5⟩ := out_kept (X := w') (w := w5) (v0 := .int .i64 k2) (v1 := .int .i64 p2) (v2 := .slice A5 o2.length c5) (v3 := .int .i64 s2) (t := 34) (of_drew hS); go_simp; try rfl
        refine tree_read (some 105) ?v3 rfl rfl (fun _ _ _ h => h) (by kernel_rfl) ?y3 ?_
        case y3 => intro w' hS; obtain ⟨e1, e2, e3, e4⟩ := img_kept (bnext tb6 (of_drew hS)); obtain ⟨f1, f2, f3, f4, f5⟩ := out_kept (X := w') (w := w5) (v0 := .int .i64 k2) (v1 := .int .i64 p2) (v2 := .slice A5 o2.length c5) (v3 := .int .i64 s2) (t := 34) (of_drew hS); go_simp; try rfl
        refine tree_read (some 106) ?v4 rfl rfl (fun _ _ _ h => h) (by kernel_rfl) ?y4 ?_
        case y4 => intro w' hS; obtain ⟨e1, e2, e3, e4⟩ := img_kept (bnext tb6 (of_drew hS)); obtain ⟨f1, f2, f3, f4, f5⟩ := out_kept (X := w') (w := w5) (v0 := .int .i64 k2) (v1 := .int .i64 p2) (v2 := .slice A5 o2.length c5) (v3 := .int .i64 s2) (t := 34) (of_drew hS); go_simp; try rfl
        refine tree_read (some 107) ?v5 rfl rfl (fun _ _ _ h => h) (by kernel_rfl) ?y5 ?_
        case y5 => intro w' hS; obtain ⟨e1, e2, e3, e4⟩ := img_kept (bnext tb6 (of_drew hS)); obtain ⟨f1, f2, f3, f4, f5⟩ := out_kept (X := w') (w := w5) (v0 := .int .i64 k2) (v1 := .int .i64 p2) (v2 := .slice A5 o2.length c5) (v3 := .int .i64 s2) (t := 34) (of_drew hS); go_simp; try rfl
        refine tree_read (some 108) ?v6 rfl rfl (fun _ _ _ h => h) (by kernel_rfl) ?y6 ?_
        case y6 => intro w' hS; obtain ⟨e1, e2, e3, e4⟩ := img_kept (bnext tb6 (of_drew hS)); obtain ⟨f1, f2, f3, f4, f5⟩ := out_kept (X := w') (w := w5) (v0 := .int .i64 k2) (v1 := .int .i64 p2) (v2 := .slice A5 o2.length c5) (v3 := .int .i64 s2) (t := 34) (of_drew hS); go_simp; try rfl
        refine tree_turn_g rfl (by kernel_rfl) (fun K hK => ?_)
        go_simp
        refine (r2 _ t6.drew).mono ?_
        rintro e w7 ⟨A7, j7, c7, rfl, ⟨u7, R7, _⟩, x7, y7, z7, hb7⟩
        go_simp
        refine hK _ _ hb7 (fun _ => ?_)
        clear hK K
        refine tree_turn_g rfl (by kernel_rfl) (fun K hK => ?_)
        go_simp
        refine (same_any (own_reads (own_below R5 (bnext (alloc_below w5 (.cells #[.int .i64 k2, .int .i64 p2, .slice A5 o2.length c5, .int .i64 s2] 34)) (of_drew hb7)))) (own_reads R7) (own_cap R5).1 x7 (by omega) (by omega) rfl rfl rfl rfl).mono ?_
        rintro e w8 ⟨rfl, hb8⟩
        go_simp
        have hb78 := hb7.trans (hb8.mono hb7.size)
        refine hK _ _ hb78 (fun _ => ?_)
        clear hK K
        refine tree_read (some 111) ?v9 rfl rfl (fun _ _ _ h => h) (by kernel_rfl) ?y9 ?_
        case y9 => intro w' hS; obtain ⟨e1, e2, e3, e4⟩ := img_kept (bnext tb6 (of_drew hS)); obtain ⟨f1, f2, f3, f4, f5⟩ := out_kept (X := w') (w := w5) (v0 := .int .i64 k2) (v1 := .int .i64 p2) (v2 := .slice A5 o2.length c5) (v3 := .int .i64 s2) (t := 34) (of_drew hS); go_simp; try rfl
        refine tree_read (some 112) ?v10 rfl rfl (fun _ _ _ h => h) (by kernel_rfl) ?y10 ?_
        case y10 => intro w' hS; obtain ⟨e1, e2, e3, e4⟩ := img_kept (bnext tb6 (of_drew hS)); obtain ⟨f1, f2, f3, f4, f5⟩ := out_kept (X := w') (w := w5) (v0 := .int .i64 k2) (v1 := .int .i64 p2) (v2 := .slice A5 o2.length c5) (v3 := .int .i64 s2) (t := 34) (of_drew hS); go_simp; try rfl
        refine tree_read (some 114) ?v12 rfl rfl (fun _ _ _ h => h) (by kernel_rfl) ?y12 ?_
        case y12 => intro w' hS; obtain ⟨e1, e2, e3, e4⟩ := img_kept (bnext tb6 (of_drew hS)); obtain ⟨f1, f2, f3, f4, f5⟩ := out_kept (X := w') (w := w5) (v0 := .int .i64 k2) (v1 := .int .i64 p2) (v2 := .slice A5 o2.length c5) (v3 := .int .i64 s2) (t := 34) (of_drew hS); go_simp; try rfl
        refine tree_turn_g rfl (by kernel_rfl) (fun K hK => ?_)
        go_simp
        have hH8 := hH5.below (bnext (alloc_below w5 (.cells #[.int .i64 k2, .int .i64 p2, .slice A5 o2.length c5, .int .i64 s2] 34)) (of_drew hb78))
        have hout := outcome_any hH8 hl2
        rw [hm2, hk2, hp2, hs2, ho2] at hout
        refine hout.mono ?_
        rintro e w9 ⟨v9, rfl, R9, hb9⟩
        obtain ⟨A9, c9, rfl⟩ := own_slice R9
        go_simp
        have hb79 := hb78.trans (hb9.mono hb78.size)
        refine hK _ _ hb79 (fun _ => ?_)
        clear hK K
        refine tree_turn_g rfl (by kernel_rfl) (fun K hK => ?_)
        go_simp
        refine (same_any (own_reads R9) (own_reads (own_below R5 (bnext (alloc_below w5 (.cells #[.int .i64 k2, .int .i64 p2, .slice A5 o2.length c5, .int .i64 s2] 34)) (of_drew hb79)))) (own_cap R9).1 (own_cap R5).1 (by omega) (by omega) rfl rfl rfl rfl).mono ?_
        rintro e w10 ⟨rfl, hb10⟩
        go_simp
        have hb710 := hb79.trans (hb10.mono hb79.size)
        refine hK _ _ hb710 (fun _ => ?_)
        clear hK K
        refine tree_read (some 116) ?v14 rfl rfl (fun _ _ _ h => h) (by kernel_rfl) ?y14 ?_
        case y14 => intro w' hS; obtain ⟨e1, e2, e3, e4⟩ := img_kept (bnext tb6 (of_drew hS)); obtain ⟨f1, f2, f3, f4, f5⟩ := out_kept (X := w') (w := w5) (v0 := .int .i64 k2) (v1 := .int .i64 p2) (v2 := .slice A5 o2.length c5) (v3 := .int .i64 s2) (t := 34) (of_drew hS); go_simp; try rfl
        refine tree_read (some 117) ?v15 rfl rfl (fun _ _ _ h => h) (by kernel_rfl) ?y15 ?_
        case y15 => intro w' hS; obtain ⟨e1, e2, e3, e4⟩ := img_kept (bnext tb6 (of_drew hS)); obtain ⟨f1, f2, f3, f4, f5⟩ := out_kept (X := w') (w := w5) (v0 := .int .i64 k2) (v1 := .int .i64 p2) (v2 := .slice A5 o2.length c5) (v3 := .int .i64 s2) (t := 34) (of_drew hS); go_simp; try rfl
        refine tree_turn_g rfl (by kernel_rfl) (fun K hK => ?_)
        go_simp
        refine (awake_any _).mono ?_
        rintro e wz ⟨rfl, hbw⟩
        go_simp
        have hbz := hb710.trans (hbw.mono hb710.size)
        refine hK _ _ hbz (fun _ => ?_)
        clear hK K
        exact tree_done ⟨hbz, A7, j7, c7, A9, o2.length, c9, by kernel_rfl⟩
        rintro a' w6 ⟨hb6, vA, vn, vc, uA, un, uc, rfl⟩
        simp only [List.drop_succ_cons, List.drop_zero]
        go_simp
        go_wp2
        go_ret
        exact ⟨rfl, bnext t6 (of_drew hb6)⟩
end Go.Proofs.Ytbchiolgbhckhaa.Mach

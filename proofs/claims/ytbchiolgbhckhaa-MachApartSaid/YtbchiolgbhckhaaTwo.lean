/- Two machines side by side: a step of the one leaves the other. -/
import Derived.Test.YtbchiolgbhckhaaAid
set_option linter.unusedVariables false
set_option linter.unusedSimpArgs false
namespace Go.Proofs.Ytbchiolgbhckhaa.Mach
open Go.RowKit Go.Proofs.YtbchiolgbhckhaaW.PrintWords Go.Proofs.YtbchiolgbhckhaaW.PrintMore
/-- A step, whether the machine has stopped or not. -/
theorem step_one {w : World} {L : Lay} {s : MS} (h : Holds w L s) :
    Calls Try.prog 17 #[.pointer (some ⟨L.m, 0, none⟩)] w fun e w' => ∃ b L', e = .returned (.bool b) ∧ Next w L s w' L' (runN 1 s) := by
  by_cases h0 : s.kind = 0
  · refine (step_any h h0).mono ?_
    rintro e w' ⟨rfl, L', hN⟩
    exact ⟨true, L', rfl, by rw [show runN 1 s = step1 s by simp [runN, h0]]; exact hN⟩
  · refine (step_stop h h0).mono ?_
    rintro e w' ⟨rfl, hN⟩
    exact ⟨false, L, rfl, by rw [runN_stop h0]; exact hN⟩
structure Both (w0 w : World) (ma mb : Nat) (sa sb : MS) : Prop where
  told : ∃ La Lb, Holds w La sa ∧ Holds w Lb sb ∧ La.m = ma ∧ Lb.m = mb ∧ (∀ b, La.foot sa.inp b → w0.heap.size ≤ b) ∧ (∀ b, Lb.foot sb.inp b → w0.heap.size ≤ b) ∧ ∀ b, La.foot sa.inp b → ¬ Lb.foot sb.inp b
  below : Below w0.heap.size w0 w
theorem Both.swap {w0 w : World} {ma mb : Nat} {sa sb : MS} (h : Both w0 w ma mb sa sb) : Both w0 w mb ma sb sa := by
  obtain ⟨⟨La, Lb, h1, h2, h3, h4, h5, h6, h7⟩, hb⟩ := h
  exact ⟨⟨Lb, La, h2, h1, h4, h3, h6, h5, fun b x y => h7 b y x⟩, hb⟩
theorem Both.keep {w0 w w' : World} {ma mb : Nat} {sa sb : MS} (h : Both w0 w ma mb sa sb) (hk : Below w.heap.size w w') : Both w0 w' ma mb sa sb := by
  obtain ⟨⟨La, Lb, h1, h2, h3, h4, h5, h6, h7⟩, hb⟩ := h
  exact ⟨⟨La, Lb, h1.below hk, h2.below hk, h3, h4, h5, h6, h7⟩, hb.trans (hk.mono hb.size)⟩
theorem Both.under {w0 w1 w : World} {ma mb : Nat} {sa sb : MS} (h : Both w1 w ma mb sa sb) (hb : Below w0.heap.size w0 w1) : Both w0 w ma mb sa sb := by
  obtain ⟨⟨La, Lb, h1, h2, h3, h4, h5, h6, h7⟩, hk⟩ := h
  exact ⟨⟨La, Lb, h1, h2, h3, h4, fun b x => Nat.le_trans hb.size (h5 b x), fun b x => Nat.le_trans hb.size (h6 b x), h7⟩, hb.trans (hk.mono hb.size)⟩
theorem Both.first {w0 w : World} {ma mb : Nat} {sa sb : MS} (h : Both w0 w ma mb sa sb) :
    Calls Try.prog 17 #[.pointer (some ⟨ma, 0, none⟩)] w fun e w' => ∃ b, e = .returned (.bool b) ∧ Both w0 w' ma mb (runN 1 sa) sb := by
  obtain ⟨⟨La, Lb, h1, h2, rfl, h4, h5, h6, h7⟩, hb⟩ := h
  refine (step_one h1).mono ?_
  rintro e w' ⟨b, L', rfl, hN⟩
  refine ⟨b, rfl, ⟨L', Lb, hN.holds, h2.far hN.far fun b x y => h7 b y x, hN.same, h4, fun b x => (hN.near b x).elim (h5 b) (fun y => Nat.le_trans hb.size y), h6, fun b x y => ?_⟩, hb.trans (hN.far.below hb.size h5)⟩
  rcases hN.near b x with z | z
  · exact h7 b z y
  · have := h2.rows.lt y; omega
theorem Both.second {w0 w : World} {ma mb : Nat} {sa sb : MS} (h : Both w0 w ma mb sa sb) :
    Calls Try.prog 17 #[.pointer (some ⟨mb, 0, none⟩)] w fun e w' => ∃ b, e = .returned (.bool b) ∧ Both w0 w' ma mb sa (runN 1 sb) :=
  h.swap.first.mono fun e w' ⟨b, r, k⟩ => ⟨b, r, k.swap⟩
/-- Two machines, made one after the other. -/
theorem Both.start {w0 w1 w2 : World} {La Lb : Lay} {sa sb : MS} (h1 : Holds w1 La sa) (h2 : Holds w2 Lb sb) (b1 : Below w0.heap.size w0 w1) (b2 : Below w1.heap.size w1 w2) (fa : ∀ b, La.foot sa.inp b → w0.heap.size ≤ b) (fb : ∀ b, Lb.foot sb.inp b → w1.heap.size ≤ b) :
    Both w0 w2 La.m Lb.m sa sb :=
  ⟨⟨La, Lb, h1.below b2, h2, rfl, rfl, fa, fun b x => Nat.le_trans b1.size (fb b x), fun b x y => by have := h1.rows.lt x; have := fb b y; omega⟩, b1.trans (b2.mono b1.size)⟩
theorem Both.ask {w0 w w1 : World} {ma mb : Nat} {sa sb : MS} (h : Both w0 w ma mb sa sb) (hk : Below w.heap.size w w1) (hl : sa.out.length ≤ 4096) {k p st : Int} {o : List Int} (e1 : sa.kind = k) (e2 : sa.panics = p) (e3 : sa.out = o) (e4 : sa.steps = st) : Calls Try.prog 23 #[.pointer (some ⟨ma, 0, none⟩)] w1 fun e w' =>
    ∃ A c, e = .returned (.agg #[.int .i64 k, .int .i64 p, .slice A o.length c, .int .i64 st]) ∧ w'.ownsRow w1.heap.size 5 1 (.slice A o.length c) o.length (nums .u8 o) ∧ Below w1.heap.size w1 w' := by
  obtain ⟨⟨La, Lb, h1, h2, rfl, h4, h5, h6, h7⟩, hb⟩ := h
  refine (outcome_any (h1.below hk) hl).mono ?_
  rintro e w' ⟨v, rfl, R, hb'⟩
  subst e1 e2 e3 e4
  obtain ⟨A, c, rfl⟩ := own_slice R
  exact ⟨A, c, rfl, R, hb'⟩
theorem runN_one (k : Nat) (s : MS) : runN 1 (runN k s) = runN (k + 1) s := (runN_add k 1 s).symm
end Go.Proofs.Ytbchiolgbhckhaa.Mach

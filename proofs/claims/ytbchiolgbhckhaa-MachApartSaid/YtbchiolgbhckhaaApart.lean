/- Two machines at once keep apart: the walk. -/
import Derived.Test.YtbchiolgbhckhaaTwo
set_option linter.unusedVariables false
set_option linter.unusedSimpArgs false
namespace Go.Proofs.Ytbchiolgbhckhaa.Mach
open Go.RowKit Go.Proofs.YtbchiolgbhckhaaW.PrintWords Go.Proofs.YtbchiolgbhckhaaW.PrintMore Go.Proofs.Ytbchiolgbhckhaa.PMachRuns
theorem of_drew {w w' : World} (h : Below w.drew.heap.size w.drew w') : Below w.heap.size w w' := ((Below.refl _ _).drew).trans (h.mono (Nat.le_refl _))
section
variable {P : Program} {ops : Array Oper} {Q : Exit → Act → World → Prop} {S : World → Prop} {T : Act → World → Prop} {i : Nat} {r : Way} {a : Act} {w : World} {o : Oper}
/-- A guarded operation that turns the world, its guard being met. -/
theorem tree_turn_g (ho : ops[i]? = some o) (hw : Region.wanted o (yielded ops a.tmps) = true)
    (h : ∀ K : Act → World → Prop, (∀ a w, S w → (S w → wpTree P ops Q S T r a w) → K a w) → o.wp P a w K Q) : wpTree P ops Q S T (.turn i r) a w := by
  unfold wpTree
  refine wpOp_step ho (fun K hK => ?_)
  rw [if_pos hw]
  exact h K fun a w hS hW => hK a w ⟨hS, hW⟩
/-- A guarded operation, its guard not being met. -/
theorem tree_skip (ho : ops[i]? = some o) (hw : Region.wanted o (yielded ops a.tmps) = false) (hQ : ∀ c a w, Q (.panic c) (a.put o.dst undef) w → Q (.panic c) a w)
    (h : wpTree P ops Q S T r (a.put o.dst undef) w) : wpTree P ops Q S T (.read i r) a w := ⟨o, undef, ho, hQ, .inr ⟨hw, rfl⟩, h⟩
end
theorem reg_at {w w1 : World} {L : Lay} {s : MS} {m : Nat} {v i : Int} (a : Nat) (h : Holds w L s) (hb : Below w.heap.size w w1) (ha : a < 16) (hi : i = (a : Int)) (hm : L.m = m) (hv : s.reg a = v) :
    Calls Try.prog 20 #[.pointer (some ⟨m, 0, none⟩), .int .i64 i] w1 fun e w' => e = .returned (.int .i64 v) ∧ w1 = w' := by
  subst hi hm hv
  exact reg_some (h.below hb) a ha
theorem img_kept2 {w X : World} {A1 A2 A4 A5 : Option Addr} {n1 c1 n2 c2 n4 c4 n5 c5 : Nat} {en en' : Int} (h : Below ((w.alloc (.cells #[.slice A1 n1 c1, .slice A2 n2 c2, .int .i64 en] 24)).alloc (.cells #[.slice A4 n4 c4, .slice A5 n5 c5, .int .i64 en'] 24)).heap.size ((w.alloc (.cells #[.slice A1 n1 c1, .slice A2 n2 c2, .int .i64 en] 24)).alloc (.cells #[.slice A4 n4 c4, .slice A5 n5 c5, .int .i64 en'] 24)) X) :
    X.cell? ⟨w.heap.size, 0, none⟩ = some (.slice A1 n1 c1) ∧ X.cell? ⟨w.heap.size, 1, none⟩ = some (.slice A2 n2 c2) ∧ X.cell? ⟨w.heap.size, 2, none⟩ = some (.int .i64 en) ∧ w.heap.size < X.heap.size ∧
    X.cell? ⟨w.heap.size + 1, 0, none⟩ = some (.slice A4 n4 c4) ∧ X.cell? ⟨w.heap.size + 1, 1, none⟩ = some (.slice A5 n5 c5) ∧ X.cell? ⟨w.heap.size + 1, 2, none⟩ = some (.int .i64 en') ∧ w.heap.size + 1 < X.heap.size := by
  obtain ⟨e1, e2, e3, e4⟩ := img_kept (bnext (alloc_below (w.alloc (.cells #[.slice A1 n1 c1, .slice A2 n2 c2, .int .i64 en] 24)) (.cells #[.slice A4 n4 c4, .slice A5 n5 c5, .int .i64 en'] 24)) h)
  obtain ⟨e5, e6, e7, e8⟩ := img_kept h
  simp only [World.size_alloc] at e5 e6 e7 e8
  exact ⟨e1, e2, e3, e4, e5, e6, e7, e8⟩
theorem new_some {A1 A2 A3 : Option Addr} {n1 c1 n2 c2 n3 c3 : Nat} {en mem : Int} {code data inp : List Int} {w : World} (him : Image w A1 n1 c1 A2 n2 c2 code data) (hin : Input w A3 n3 c3 inp) :
    Calls Try.prog 14 #[.agg #[.slice A1 n1 c1, .slice A2 n2 c2, .int .i64 en], .int .i64 mem, .slice A3 n3 c3] w fun e w' => ∃ p, e = .returned (.tuple #[.pointer p, .int .i64 (newErr n1 n2 n3 en mem)]) ∧ Below w.heap.size w w' := by
  by_cases he : newErr n1 n2 n3 en mem = 0
  · refine (new_good him hin he).mono ?_
    rintro e w' ⟨L, rfl, _, hb, _⟩
    exact ⟨_, by rw [he], hb⟩
  · refine (new_bad w rfl he).mono ?_
    rintro e w' ⟨rfl, hb⟩
    exact ⟨_, rfl, hb⟩
attribute [local irreducible] wpTree Region.wanted yielded
set_option maxRecDepth 100000 in
set_option maxHeartbeats 4000000 in
theorem machApart_walk {A1 A2 A3 A4 A5 : Option Addr} {n1 c1 n2 c2 n3 c3 n4 c4 n5 c5 : Nat} {en en' : Int} {code data code' data' inp : List Int} (w : World) (him : Image w A1 n1 c1 A2 n2 c2 code data) (him' : Image w A4 n4 c4 A5 n5 c5 code' data') (mem : Int) (hin : Input w A3 n3 c3 inp) (n : Int) (l1 : n1 ≤ c1) (l2 : n2 ≤ c2) (m1 : c1 ≤ maxLen) (m2 : c2 ≤ maxLen) (l4 : n4 ≤ c4) (l5 : n5 ≤ c5) (m4 : c4 ≤ maxLen) (m5 : c5 ≤ maxLen) (hmw : (Lit.int .i64 mem).wf = true) (l3 : n3 ≤ c3) (m3 : c3 ≤ maxLen) (hnw : (Lit.int .i64 n).wf = true) :
    Calls Try.prog 10 #[.agg #[.slice A1 n1 c1, .slice A2 n2 c2, .int .i64 en], .agg #[.slice A4 n4 c4, .slice A5 n5 c5, .int .i64 en'], .int .i64 mem, .slice A3 n3 c3, .int .i64 n] w fun e w' => e = .returned (.bool true) ∧ Below w.heap.size w w' := by
  have hn' := (Num.wf_i64 hnw).2
  clear hmw hnw
  have im : ∀ X, Below w.heap.size w X → Image X A1 n1 c1 A2 n2 c2 code data := fun X h => him.below h
  have im' : ∀ X, Below w.heap.size w X → Image X A4 n4 c4 A5 n5 c5 code' data' := fun X h => him'.below h
  have inn : ∀ X, Below w.heap.size w X → Input X A3 n3 c3 inp := fun X h => hin.below h
  have hb0 : Below w.heap.size w ((w.alloc (.cells #[.slice A1 n1 c1, .slice A2 n2 c2, .int .i64 en] 24)).alloc (.cells #[.slice A4 n4 c4, .slice A5 n5 c5, .int .i64 en'] 24)) := bnext (alloc_below w (.cells #[.slice A1 n1 c1, .slice A2 n2 c2, .int .i64 en] 24)) (alloc_below (w.alloc (.cells #[.slice A1 n1 c1, .slice A2 n2 c2, .int .i64 en] 24)) (.cells #[.slice A4 n4 c4, .slice A5 n5 c5, .int .i64 en'] 24))
  have na : ∀ X, Below w.heap.size w X → _ := fun X h => new_some (en := en) (mem := mem) (im X h) (inn X h)
  have nb : ∀ X, Below w.heap.size w X → _ := fun X h => new_some (en := en') (mem := mem) (im' X h) (inn X h)
  by_cases hh : (n1 : Int) > 2000 ∨ (n2 : Int) > 2000 ∨ mem > 5000 ∨ (n3 : Int) > 100 ∨ n > 3000
  · have hva := heavy_any (en := en) (mem := mem) (fuel := n) (im _ hb0) (inn _ hb0) l1 l2 l3 m1 m2 m3 true (by rw [decide_eq_true hh])
    clear hh him hin him' na nb
    go_enter Try.func10, Try.ntmps10
    go_wp2_with (first | (go_at_call 12; refine hva.mono ?_; rintro e w1 ⟨rfl, hb1⟩) | (go_at_call 13; refine (awake_any _).mono ?_; rintro e w9 ⟨rfl, hb9⟩))
    go_ret
    exact ⟨rfl, bnext hb0 (bnext hb1 hb9)⟩
  have hva := heavy_any (en := en) (mem := mem) (fuel := n) (im _ hb0) (inn _ hb0) l1 l2 l3 m1 m2 m3 false (by rw [decide_eq_false hh])
  clear hh
  by_cases hh : (n4 : Int) > 2000 ∨ (n5 : Int) > 2000 ∨ mem > 5000 ∨ (n3 : Int) > 100 ∨ n > 3000
  · have hvb : ∀ X, Below ((w.alloc (.cells #[.slice A1 n1 c1, .slice A2 n2 c2, .int .i64 en] 24)).alloc (.cells #[.slice A4 n4 c4, .slice A5 n5 c5, .int .i64 en'] 24)).heap.size ((w.alloc (.cells #[.slice A1 n1 c1, .slice A2 n2 c2, .int .i64 en] 24)).alloc (.cells #[.slice A4 n4 c4, .slice A5 n5 c5, .int .i64 en'] 24)) X → _ := fun X h => heavy_any (en := en') (mem := mem) (fuel := n) (im' _ (bnext hb0 h)) (inn _ (bnext hb0 h)) l4 l5 l3 m4 m5 m3 true (by rw [decide_eq_true hh])
    clear hh him hin him' na nb
    go_enter Try.func10, Try.ntmps10
    go_wp2_with (first | (go_at_call 12; first | (refine (hvb _ hb1).mono ?_; rintro e w2 ⟨rfl, hb2⟩; have q2 := bnext hb1 hb2; obtain ⟨e1, e2, e3, e4, e5, e6, e7, e8⟩ := img_kept2 q2) | (refine hva.mono ?_; rintro e w1 ⟨rfl, hb1⟩; obtain ⟨e1, e2, e3, e4, e5, e6, e7, e8⟩ := img_kept2 hb1)) | (go_at_call 13; refine (awake_any _).mono ?_; rintro e w9 ⟨rfl, hb9⟩))
    go_ret
    exact ⟨rfl, bnext hb0 (bnext q2 hb9)⟩
  have hvb : ∀ X, Below ((w.alloc (.cells #[.slice A1 n1 c1, .slice A2 n2 c2, .int .i64 en] 24)).alloc (.cells #[.slice A4 n4 c4, .slice A5 n5 c5, .int .i64 en'] 24)).heap.size ((w.alloc (.cells #[.slice A1 n1 c1, .slice A2 n2 c2, .int .i64 en] 24)).alloc (.cells #[.slice A4 n4 c4, .slice A5 n5 c5, .int .i64 en'] 24)) X → _ := fun X h => heavy_any (en := en') (mem := mem) (fuel := n) (im' _ (bnext hb0 h)) (inn _ (bnext hb0 h)) l4 l5 l3 m4 m5 m3 false (by rw [decide_eq_false hh])
  clear hh
  by_cases he : newErr n1 n2 n3 en mem = 0
  rotate_left
  · have hz : (newErr n1 n2 n3 en mem != 0) = true := by simpa using he
    generalize newErr n1 n2 n3 en mem = er at na hz
    generalize newErr n4 n5 n3 en' mem = er' at nb
    clear he him hin him'
    go_enter Try.func10, Try.ntmps10
    go_wp2_with (first | (go_at_call 12; first | (refine (hvb _ hb1).mono ?_; rintro e w2 ⟨rfl, hb2⟩; have q2 := bnext hb1 hb2; obtain ⟨e1, e2, e3, e4, e5, e6, e7, e8⟩ := img_kept2 q2) | (refine hva.mono ?_; rintro e w1 ⟨rfl, hb1⟩; obtain ⟨e1, e2, e3, e4, e5, e6, e7, e8⟩ := img_kept2 hb1)) | (go_at_call 14; first | (refine (nb _ (bnext hb0 q3)).mono ?_; rintro e w4 ⟨p2, rfl, hb4⟩) | (refine (na _ (bnext hb0 q2)).mono ?_; rintro e w3 ⟨p1, rfl, hb3⟩; have q3 := bnext q2 hb3; obtain ⟨e1, e2, e3, e4, e5, e6, e7, e8⟩ := img_kept2 q3)) | (go_at_call 16; refine (num_any _ _).mono ?_; rintro e w7 ⟨rfl, rfl⟩) | (go_at_call 13; refine (awake_any _).mono ?_; rintro e w9 ⟨rfl, hb9⟩))
    go_ret
    exact ⟨rfl, bnext hb0 (bnext q3 (bnext hb4 hb9))⟩
  by_cases he' : newErr n4 n5 n3 en' mem = 0
  rotate_left
  · have hz : (newErr n4 n5 n3 en' mem != 0) = true := by simpa using he'
    rw [he] at na
    generalize newErr n4 n5 n3 en' mem = er' at nb hz
    clear he he' him hin him'
    go_enter Try.func10, Try.ntmps10
    go_wp2_with (first | (go_at_call 12; first | (refine (hvb _ hb1).mono ?_; rintro e w2 ⟨rfl, hb2⟩; have q2 := bnext hb1 hb2; obtain ⟨e1, e2, e3, e4, e5, e6, e7, e8⟩ := img_kept2 q2) | (refine hva.mono ?_; rintro e w1 ⟨rfl, hb1⟩; obtain ⟨e1, e2, e3, e4, e5, e6, e7, e8⟩ := img_kept2 hb1)) | (go_at_call 14; first | (refine (nb _ (bnext hb0 q3)).mono ?_; rintro e w4 ⟨p2, rfl, hb4⟩) | (refine (na _ (bnext hb0 q2)).mono ?_; rintro e w3 ⟨p1, rfl, hb3⟩; have q3 := bnext q2 hb3; obtain ⟨e1, e2, e3, e4, e5, e6, e7, e8⟩ := img_kept2 q3)) | (go_at_call 16; refine (num_any _ _).mono ?_; rintro e w7 ⟨rfl, rfl⟩) | (go_at_call 13; refine (awake_any _).mono ?_; rintro e w9 ⟨rfl, hb9⟩))
    go_ret
    exact ⟨rfl, bnext hb0 (bnext q3 (bnext hb4 hb9))⟩
  clear na nb
  have na : ∀ X, Below w.heap.size w X → _ := fun X h => new_good (im X h) (inn X h) he
  have nb : ∀ X, Below w.heap.size w X → _ := fun X h => new_good (im' X h) (inn X h) he'
  obtain ⟨K, hF⟩ : ∃ K : Nat, max 0 (min n 500) = (K : Int) := ⟨(max 0 (min n 500)).toNat, by omega⟩
  have hK5 : K ≤ 500 := by omega
  have wa : whole n1 n2 n3 en mem code data inp (K : Int) = runN K (fresh code data inp en mem.toNat) := by unfold whole; rw [if_pos he, show (min (K : Int) 4194304).toNat = K by omega]
  have wb : whole n4 n5 n3 en' mem code' data' inp (K : Int) = runN K (fresh code' data' inp en' mem.toNat) := by unfold whole; rw [if_pos he', show (min (K : Int) 4194304).toNat = K by omega]
  have ta := (whole_outin n1 n2 n3 en mem code data inp (K : Int)).1
  have tb := (whole_outin n4 n5 n3 en' mem code' data' inp (K : Int)).1
  obtain ⟨ka, hka⟩ : ∃ k, (whole n1 n2 n3 en mem code data inp (K : Int)).kind = k := ⟨_, rfl⟩
  obtain ⟨pa, hpa⟩ : ∃ k, (whole n1 n2 n3 en mem code data inp (K : Int)).panics = k := ⟨_, rfl⟩
  obtain ⟨sa, hsa⟩ : ∃ k, (whole n1 n2 n3 en mem code data inp (K : Int)).steps = k := ⟨_, rfl⟩
  obtain ⟨oa, hoa⟩ : ∃ k, (whole n1 n2 n3 en mem code data inp (K : Int)).out = k := ⟨_, rfl⟩
  obtain ⟨kb, hkb⟩ : ∃ k, (whole n4 n5 n3 en' mem code' data' inp (K : Int)).kind = k := ⟨_, rfl⟩
  obtain ⟨pb, hpb⟩ : ∃ k, (whole n4 n5 n3 en' mem code' data' inp (K : Int)).panics = k := ⟨_, rfl⟩
  obtain ⟨sb, hsb⟩ : ∃ k, (whole n4 n5 n3 en' mem code' data' inp (K : Int)).steps = k := ⟨_, rfl⟩
  obtain ⟨ob, hob⟩ : ∃ k, (whole n4 n5 n3 en' mem code' data' inp (K : Int)).out = k := ⟨_, rfl⟩
  have ra : ∀ X, Below w.heap.size w X → _ := fun X h => mrun_lit (im X h) (inn X h) (K : Int) (by omega) hka hpa hoa hsa
  have rb : ∀ X, Below w.heap.size w X → _ := fun X h => mrun_lit (im' X h) (inn X h) (K : Int) (by omega) hkb hpb hob hsb
  rw [wa] at hka hpa hsa hoa ta
  rw [wb] at hkb hpb hsb hob tb
  have hoa4 : oa.length ≤ 4096 := hoa ▸ ta
  have hob4 : ob.length ≤ 4096 := hob ▸ tb
  have ia : (fresh code data inp en mem.toNat).inp = inp := rfl
  have ib : (fresh code' data' inp en' mem.toNat).inp = inp := rfl
  generalize fresh code data inp en mem.toNat = fa at *
  generalize fresh code' data' inp en' mem.toNat = fb at *
  clear wa wb he he' him hin him'
  go_enter Try.func10, Try.ntmps10
  go_upto_region 8 with (first | (go_at_call 12; first | (refine (hvb _ hb1).mono ?_; rintro e w2 ⟨rfl, hb2⟩; have q2 := bnext hb1 hb2; obtain ⟨e1, e2, e3, e4, e5, e6, e7, e8⟩ := img_kept2 q2) | (refine hva.mono ?_; rintro e w1 ⟨rfl, hb1⟩; obtain ⟨e1, e2, e3, e4, e5, e6, e7, e8⟩ := img_kept2 hb1)) | (go_at_call 14; first | (refine (nb _ (bnext hb0 q3)).mono ?_; rintro e w4 ⟨Lb, rfl, hHb, hb4, ftb⟩) | (refine (na _ (bnext hb0 q2)).mono ?_; rintro e w3 ⟨La, rfl, hHa, hb3, fta⟩; have q3 := bnext q2 hb3; obtain ⟨e1, e2, e3, e4, e5, e6, e7, e8⟩ := img_kept2 q3)) | (go_at_call 16; refine (num_any _ _).mono ?_; rintro e w7 ⟨rfl, rfl⟩) | (go_at_call 13; refine (awake_any _).mono ?_; rintro e w9 ⟨rfl, hb9⟩))
  have z2 := q2.size
  have B0 : Both ((w.alloc (.cells #[.slice A1 n1 c1, .slice A2 n2 c2, .int .i64 en] 24)).alloc (.cells #[.slice A4 n4 c4, .slice A5 n5 c5, .int .i64 en'] 24)) w4 La.m Lb.m (runN 0 fa) (runN 0 fb) := (Both.start (w0 := w2) hHa hHb hb3 hb4 (fun b x => fta b (ia ▸ x)) (fun b x => ftb b (ib ▸ x))).under q2
  clear e1 e2 e3 e4 e5 e6 e7 e8 hHa hHb fta ftb
  go_loopw [15] (fun i wr => ∃ k : Nat, i = .int .i64 (k : Int) ∧ k ≤ K ∧ Both ((w.alloc (.cells #[.slice A1 n1 c1, .slice A2 n2 c2, .int .i64 en] 24)).alloc (.cells #[.slice A4 n4 c4, .slice A5 n5 c5, .int .i64 en'] 24)) wr La.m Lb.m (runN k fa) (runN k fb)) (fun i _ => K - (intOf i).toNat)
  case atStart => exact ⟨0, by go_num, Nat.zero_le _, B0⟩
  case round =>
    obtain ⟨k, rfl, hk, hBl⟩ := hrel
    by_cases hlt : k < K
    · have d1 : decide ((k : Int) < n) = true := decide_eq_true (by omega)
      have d2 : decide ((k : Int) < 500) = true := decide_eq_true (by omega)
      have s1 := hBl.first
      clear na nb ra rb im im' inn
      go_wp2_with (go_at_call 17; first | (refine s2.mono ?_; rintro e w6 ⟨b6, rfl, hB6⟩) | (refine s1.mono ?_; rintro e w5 ⟨b5, rfl, hB5⟩; have s2 := hB5.second))
      go_roundw
      case rel => exact ⟨k + 1, by go_num, by omega, by rw [← runN_one k fa, ← runN_one k fb]; exact hB6⟩
      case measure => simp [intOf]; omega
    · obtain rfl : k = K := by omega
      have t9 := hBl.below
      have hla : (runN k fa).out.length ≤ 4096 := ta
      have hlb : (runN k fb).out.length ≤ 4096 := tb
      have ea1 := hka
      have ea2 := hpa
      have ea3 := hoa
      have ea4 := hsa
      have eb1 := hkb
      have eb2 := hpb
      have eb3 := hob
      have eb4 := hsb
      have hdr : Below wr.heap.size wr wr.drew := (Below.refl _ _).drew
      by_cases d1 : (k : Int) < n
      · have d1' : decide ((k : Int) < n) = true := decide_eq_true d1
        have d2' : decide ((k : Int) < 500) = false := decide_eq_false (by omega)
        go_wp2
        refine region_tree2 (fun W w' => Below W.heap.size W w') (.read 0 (.read 2 (.read 3 (.read 4 (.read 5 (.turn 1 (.turn 6 (.turn 7 (.read 8 (.read 9 (.read 11 (.read 12 (.read 13 (.read 14 (.turn 10 (.turn 15 (.turn 16 (.read 17 (.read 18 (.turn 19 .done)))))))))))))))))))) 20
          (fun a W a' w' => Below W.heap.size W w' ∧ ∃ vA1 vc1 vA2 vn2 vc2 vA3 vc3 vA4 vn4 vc4, a' = ((((((((((((((((((((a.put (some 69) (.pointer (some ⟨La.m, 0, none⟩))).put (some 71) (.agg #[.slice A1 n1 c1, .slice A2 n2 c2, .int .i64 en])).put (some 72) (.int .i64 mem)).put (some 73) (.slice A3 n3 c3)).put (some 74) (.int .i64 (k : Int))).put (some 70) (.agg #[.int .i64 ka, .int .i64 pa, .slice vA1 oa.length vc1, .int .i64 sa])).put (some 75) (.agg #[.int .i64 ka, .int .i64 pa, .slice vA2 vn2 vc2, .int .i64 sa])).put (some 76) (.bool true)).put (some 77) (.bool true)).put (some 78) (.pointer (some ⟨Lb.m, 0, none⟩))).put (some 80) (.agg #[.slice A4 n4 c4, .slice A5 n5 c5, .int .i64 en'])).put (some 81) (.int .i64 mem)).put (some 82) (.slice A3 n3 c3)).put (some 83) (.int .i64 (k : Int))).put (some 79) (.agg #[.int .i64 kb, .int .i64 pb, .slice vA3 ob.length vc3, .int .i64 sb])).put (some 84) (.agg #[.int .i64 kb, .int .i64 pb, .slice vA4 vn4 vc4, .int .i64 sb])).put (some 85) (.bool true)).put (some 86) (.bool true)).put (some 87) (.bool true)).put (some 88) (.bool true))) mixed (by kernel_rfl) (Below.refl _ _) ?_ ?_
        refine tree_read (some 69) (.pointer (some ⟨La.m, 0, none⟩)) rfl rfl (fun _ _ _ h => h) (by kernel_rfl) ?y0 ?_
        case y0 => intro w' hS; go_simp <;> first | rfl | simp
        refine tree_read (some 71) (.agg #[.slice A1 n1 c1, .slice A2 n2 c2, .int .i64 en]) rfl rfl (fun _ _ _ h => h) (by kernel_rfl) ?y2 ?_
        case y2 => intro w' hS; obtain ⟨e1, e2, e3, e4, e5, e6, e7, e8⟩ := img_kept2 (t9.trans ((of_drew hS).mono t9.size)); go_simp <;> first | rfl | simp
        refine tree_read (some 72) (.int .i64 mem) rfl rfl (fun _ _ _ h => h) (by kernel_rfl) ?y3 ?_
        case y3 => intro w' hS; go_simp <;> first | rfl | simp
        refine tree_read (some 73) (.slice A3 n3 c3) rfl rfl (fun _ _ _ h => h) (by kernel_rfl) ?y4 ?_
        case y4 => intro w' hS; go_simp <;> first | rfl | simp
        refine tree_read (some 74) (.int .i64 (k : Int)) rfl rfl (fun _ _ _ h => h) (by kernel_rfl) ?y5 ?_
        case y5 => intro w' hS; go_simp <;> first | rfl | simp
        refine tree_turn_g rfl (by kernel_rfl) (fun K hK => ?_)
        go_simp
        refine (hBl.ask hdr hla ea1 ea2 ea3 ea4).mono ?_
        rintro e v1 ⟨A11, c11, rfl, R1, hb1'⟩
        go_simp
        refine hK _ _ hb1' (fun _ => ?_)
        clear hK K
        refine tree_turn_g rfl (by kernel_rfl) (fun K hK => ?_)
        go_simp
        refine (ra _ (bnext hb0 (bnext t9 (of_drew hb1')))).mono ?_
        rintro e v6 ⟨A6, j6, c6, rfl, ⟨u6, R6, _⟩, x6, y6, z6, hb6⟩
        go_simp
        have hv6 := hb1'.trans (hb6.mono hb1'.size)
        refine hK _ _ hv6 (fun _ => ?_)
        clear hK K
        refine tree_turn_g rfl (by kernel_rfl) (fun K hK => ?_)
        go_simp
        refine (same_any (own_reads (own_below R1 hb6)) (own_reads R6) (own_cap R1).1 x6 (by omega) (by omega) rfl rfl rfl rfl).mono ?_
        rintro e v7 ⟨rfl, hb7⟩
        go_simp
        have hv7 := hv6.trans (hb7.mono hv6.size)
        refine hK _ _ hv7 (fun _ => ?_)
        clear hK K
        refine tree_read (some 77) (.bool true) rfl rfl (fun _ _ _ h => h) (by kernel_rfl) ?y8 ?_
        case y8 => intro w' hS; go_simp <;> first | rfl | simp
        refine tree_read (some 78) (.pointer (some ⟨Lb.m, 0, none⟩)) rfl rfl (fun _ _ _ h => h) (by kernel_rfl) ?y9 ?_
        case y9 => intro w' hS; go_simp <;> first | rfl | simp
        refine tree_read (some 80) (.agg #[.slice A4 n4 c4, .slice A5 n5 c5, .int .i64 en']) rfl rfl (fun _ _ _ h => h) (by kernel_rfl) ?y11 ?_
        case y11 => intro w' hS; obtain ⟨e1, e2, e3, e4, e5, e6, e7, e8⟩ := img_kept2 (t9.trans ((of_drew hS).mono t9.size)); go_simp <;> first | rfl | simp
        refine tree_read (some 81) (.int .i64 mem) rfl rfl (fun _ _ _ h => h) (by kernel_rfl) ?y12 ?_
        case y12 => intro w' hS; go_simp <;> first | rfl | simp
        refine tree_read (some 82) (.slice A3 n3 c3) rfl rfl (fun _ _ _ h => h) (by kernel_rfl) ?y13 ?_
        case y13 => intro w' hS; go_simp <;> first | rfl | simp
        refine tree_read (some 83) (.int .i64 (k : Int)) rfl rfl (fun _ _ _ h => h) (by kernel_rfl) ?y14 ?_
        case y14 => intro w' hS; go_simp <;> first | rfl | simp
        refine tree_turn_g rfl (by kernel_rfl) (fun K hK => ?_)
        go_simp
        refine (hBl.swap.ask (hdr.trans (hv7.mono hdr.size)) hlb eb1 eb2 eb3 eb4).mono ?_
        rintro e v10 ⟨A12, c12, rfl, R10, hb10⟩
        go_simp
        have hv10 := hv7.trans (hb10.mono hv7.size)
        refine hK _ _ hv10 (fun _ => ?_)
        clear hK K
        refine tree_turn_g rfl (by kernel_rfl) (fun K hK => ?_)
        go_simp
        refine (rb _ (bnext hb0 (bnext t9 (of_drew hv10)))).mono ?_
        rintro e v15 ⟨A15, j15, c15, rfl, ⟨u15, R15, _⟩, x15, y15, z15, hb15⟩
        go_simp
        have hv15 := hv10.trans (hb15.mono hv10.size)
        refine hK _ _ hv15 (fun _ => ?_)
        clear hK K
        refine tree_turn_g rfl (by kernel_rfl) (fun K hK => ?_)
        go_simp
        refine (same_any (own_reads (own_below R10 hb15)) (own_reads R15) (own_cap R10).1 x15 (by omega) (by omega) rfl rfl rfl rfl).mono ?_
        rintro e v16 ⟨rfl, hb16⟩
        go_simp
        have hv16 := hv15.trans (hb16.mono hv15.size)
        refine hK _ _ hv16 (fun _ => ?_)
        clear hK K
        refine tree_read (some 86) (.bool true) rfl rfl (fun _ _ _ h => h) (by kernel_rfl) ?y17 ?_
        case y17 => intro w' hS; go_simp <;> first | rfl | simp
        refine tree_read (some 87) (.bool true) rfl rfl (fun _ _ _ h => h) (by kernel_rfl) ?y18 ?_
        case y18 => intro w' hS; go_simp <;> first | rfl | simp
        refine tree_turn_g rfl (by kernel_rfl) (fun K hK => ?_)
        go_simp
        refine (awake_any _).mono ?_
        rintro e wz ⟨rfl, hbw⟩
        go_simp
        have hbz := hv16.trans (hbw.mono hv16.size)
        refine hK _ _ hbz (fun _ => ?_)
        clear hK K
        exact tree_done ⟨hbz, A11, c11, A6, j6, c6, A12, c12, A15, j15, c15, by kernel_rfl⟩
        rintro a' w6 ⟨hb6, vA1, vc1, vA2, vn2, vc2, vA3, vc3, vA4, vn4, vc4, rfl⟩
        simp only [List.drop_succ_cons, List.drop_zero]
        go_simp
        go_wp2
        go_ret
        exact ⟨rfl, bnext hb0 (bnext t9 (of_drew hb6))⟩
      · have d1' : decide ((k : Int) < n) = false := decide_eq_false d1
        go_wp2
        refine region_tree2 (fun W w' => Below W.heap.size W w') (.read 0 (.read 2 (.read 3 (.read 4 (.read 5 (.turn 1 (.turn 6 (.turn 7 (.read 8 (.read 9 (.read 11 (.read 12 (.read 13 (.read 14 (.turn 10 (.turn 15 (.turn 16 (.read 17 (.read 18 (.turn 19 .done)))))))))))))))))))) 20
          (fun a W a' w' => Below W.heap.size W w' ∧ ∃ vA1 vc1 vA2 vn2 vc2 vA3 vc3 vA4 vn4 vc4, a' = ((((((((((((((((((((a.put (some 69) (.pointer (some ⟨La.m, 0, none⟩))).put (some 71) (.agg #[.slice A1 n1 c1, .slice A2 n2 c2, .int .i64 en])).put (some 72) (.int .i64 mem)).put (some 73) (.slice A3 n3 c3)).put (some 74) (.int .i64 (k : Int))).put (some 70) (.agg #[.int .i64 ka, .int .i64 pa, .slice vA1 oa.length vc1, .int .i64 sa])).put (some 75) (.agg #[.int .i64 ka, .int .i64 pa, .slice vA2 vn2 vc2, .int .i64 sa])).put (some 76) (.bool true)).put (some 77) (.bool true)).put (some 78) (.pointer (some ⟨Lb.m, 0, none⟩))).put (some 80) (.agg #[.slice A4 n4 c4, .slice A5 n5 c5, .int .i64 en'])).put (some 81) (.int .i64 mem)).put (some 82) (.slice A3 n3 c3)).put (some 83) (.int .i64 (k : Int))).put (some 79) (.agg #[.int .i64 kb, .int .i64 pb, .slice vA3 ob.length vc3, .int .i64 sb])).put (some 84) (.agg #[.int .i64 kb, .int .i64 pb, .slice vA4 vn4 vc4, .int .i64 sb])).put (some 85) (.bool true)).put (some 86) (.bool true)).put (some 87) (.bool true)).put (some 88) (.bool true))) mixed (by kernel_rfl) (Below.refl _ _) ?_ ?_
        refine tree_read (some 69) (.pointer (some ⟨La.m, 0, none⟩)) rfl rfl (fun _ _ _ h => h) (by kernel_rfl) ?yq0 ?_
        case yq0 => intro w' hS; go_simp <;> first | rfl | simp
        refine tree_read (some 71) (.agg #[.slice A1 n1 c1, .slice A2 n2 c2, .int .i64 en]) rfl rfl (fun _ _ _ h => h) (by kernel_rfl) ?yq2 ?_
        case yq2 => intro w' hS; obtain ⟨e1, e2, e3, e4, e5, e6, e7, e8⟩ := img_kept2 (t9.trans ((of_drew hS).mono t9.size)); go_simp <;> first | rfl | simp
        refine tree_read (some 72) (.int .i64 mem) rfl rfl (fun _ _ _ h => h) (by kernel_rfl) ?yq3 ?_
        case yq3 => intro w' hS; go_simp <;> first | rfl | simp
        refine tree_read (some 73) (.slice A3 n3 c3) rfl rfl (fun _ _ _ h => h) (by kernel_rfl) ?yq4 ?_
        case yq4 => intro w' hS; go_simp <;> first | rfl | simp
        refine tree_read (some 74) (.int .i64 (k : Int)) rfl rfl (fun _ _ _ h => h) (by kernel_rfl) ?yq5 ?_
        case yq5 => intro w' hS; go_simp <;> first | rfl | simp
        refine tree_turn_g rfl (by kernel_rfl) (fun K hK => ?_)
        go_simp
        refine (hBl.ask hdr hla ea1 ea2 ea3 ea4).mono ?_
        rintro e v1 ⟨A11, c11, rfl, R1, hb1'⟩
        go_simp
        refine hK _ _ hb1' (fun _ => ?_)
        clear hK K
        refine tree_turn_g rfl (by kernel_rfl) (fun K hK => ?_)
        go_simp
        refine (ra _ (bnext hb0 (bnext t9 (of_drew hb1')))).mono ?_
        rintro e v6 ⟨A6, j6, c6, rfl, ⟨u6, R6, _⟩, x6, y6, z6, hb6⟩
        go_simp
        have hv6 := hb1'.trans (hb6.mono hb1'.size)
        refine hK _ _ hv6 (fun _ => ?_)
        clear hK K
        refine tree_turn_g rfl (by kernel_rfl) (fun K hK => ?_)
        go_simp
        refine (same_any (own_reads (own_below R1 hb6)) (own_reads R6) (own_cap R1).1 x6 (by omega) (by omega) rfl rfl rfl rfl).mono ?_
        rintro e v7 ⟨rfl, hb7⟩
        go_simp
        have hv7 := hv6.trans (hb7.mono hv6.size)
        refine hK _ _ hv7 (fun _ => ?_)
        clear hK K
        refine tree_read (some 77) (.bool true) rfl rfl (fun _ _ _ h => h) (by kernel_rfl) ?yq8 ?_
        case yq8 => intro w' hS; go_simp <;> first | rfl | simp
        refine tree_read (some 78) (.pointer (some ⟨Lb.m, 0, none⟩)) rfl rfl (fun _ _ _ h => h) (by kernel_rfl) ?yq9 ?_
        case yq9 => intro w' hS; go_simp <;> first | rfl | simp
        refine tree_read (some 80) (.agg #[.slice A4 n4 c4, .slice A5 n5 c5, .int .i64 en']) rfl rfl (fun _ _ _ h => h) (by kernel_rfl) ?yq11 ?_
        case yq11 => intro w' hS; obtain ⟨e1, e2, e3, e4, e5, e6, e7, e8⟩ := img_kept2 (t9.trans ((of_drew hS).mono t9.size)); go_simp <;> first | rfl | simp
        refine tree_read (some 81) (.int .i64 mem) rfl rfl (fun _ _ _ h => h) (by kernel_rfl) ?yq12 ?_
        case yq12 => intro w' hS; go_simp <;> first | rfl | simp
        refine tree_read (some 82) (.slice A3 n3 c3) rfl rfl (fun _ _ _ h => h) (by kernel_rfl) ?yq13 ?_
        case yq13 => intro w' hS; go_simp <;> first | rfl | simp
        refine tree_read (some 83) (.int .i64 (k : Int)) rfl rfl (fun _ _ _ h => h) (by kernel_rfl) ?yq14 ?_
        case yq14 => intro w' hS; go_simp <;> first | rfl | simp
        refine tree_turn_g rfl (by kernel_rfl) (fun K hK => ?_)
        go_simp
        refine (hBl.swap.ask (hdr.trans (hv7.mono hdr.size)) hlb eb1 eb2 eb3 eb4).mono ?_
        rintro e v10 ⟨A12, c12, rfl, R10, hb10⟩
        go_simp
        have hv10 := hv7.trans (hb10.mono hv7.size)
        refine hK _ _ hv10 (fun _ => ?_)
        clear hK K
        refine tree_turn_g rfl (by kernel_rfl) (fun K hK => ?_)
        go_simp
        refine (rb _ (bnext hb0 (bnext t9 (of_drew hv10)))).mono ?_
        rintro e v15 ⟨A15, j15, c15, rfl, ⟨u15, R15, _⟩, x15, y15, z15, hb15⟩
        go_simp
        have hv15 := hv10.trans (hb15.mono hv10.size)
        refine hK _ _ hv15 (fun _ => ?_)
        clear hK K
        refine tree_turn_g rfl (by kernel_rfl) (fun K hK => ?_)
        go_simp
        refine (same_any (own_reads (own_below R10 hb15)) (own_reads R15) (own_cap R10).1 x15 (by omega) (by omega) rfl rfl rfl rfl).mono ?_
        rintro e v16 ⟨rfl, hb16⟩
        go_simp
        have hv16 := hv15.trans (hb16.mono hv15.size)
        refine hK _ _ hv16 (fun _ => ?_)
        clear hK K
        refine tree_read (some 86) (.bool true) rfl rfl (fun _ _ _ h => h) (by kernel_rfl) ?yq17 ?_
        case yq17 => intro w' hS; go_simp <;> first | rfl | simp
        refine tree_read (some 87) (.bool true) rfl rfl (fun _ _ _ h => h) (by kernel_rfl) ?yq18 ?_
        case yq18 => intro w' hS; go_simp <;> first | rfl | simp
        refine tree_turn_g rfl (by kernel_rfl) (fun K hK => ?_)
        go_simp
        refine (awake_any _).mono ?_
        rintro e wz ⟨rfl, hbw⟩
        go_simp
        have hbz := hv16.trans (hbw.mono hv16.size)
        refine hK _ _ hbz (fun _ => ?_)
        clear hK K
        exact tree_done ⟨hbz, A11, c11, A6, j6, c6, A12, c12, A15, j15, c15, by kernel_rfl⟩
        rintro a' w6 ⟨hb6, vA1, vc1, vA2, vn2, vc2, vA3, vc3, vA4, vn4, vc4, rfl⟩
        simp only [List.drop_succ_cons, List.drop_zero]
        go_simp
        go_wp2
        go_ret
        exact ⟨rfl, bnext hb0 (bnext t9 (of_drew hb6))⟩
end Go.Proofs.Ytbchiolgbhckhaa.Mach

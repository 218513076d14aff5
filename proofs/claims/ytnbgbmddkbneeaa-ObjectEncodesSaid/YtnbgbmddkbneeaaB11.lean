/- An object's fields as bytes. -/
import Derived.Test.YtnbgbmddkbneeaaB10
set_option linter.unusedVariables false
set_option linter.unusedSimpArgs false
namespace Go.Proofs.Ytnbgbmddkbneeaa.Obj
open Go.RowKit Go.Proofs.YtnbgbmddkbneeaaW.PrintWords Go.Proofs.YtnbgbmddkbneeaaW.PrintMore Go.Proofs.Ytnbgbmddkbneeaa.PLinkWeak
theorem eBool_len (b : Bool) : (eBool b).length = 8 := by simp [eBool, le8_len]
def eImp (x : S44) : List Int := eText x.f0 ++ le8 x.f1
def eSym (x : S51) : List Int := eText x.f0 ++ le8 x.f1 ++ eBool x.f2 ++ le8 x.f3 ++ le8 x.f4 ++ le8 x.f5
def eRel (x : S64) : List Int := eBool x.f0 ++ le8 x.f1 ++ eText x.f2
theorem eImp_len (x : S44) : (eImp x).length = 16 + x.f0.size := by simp only [eImp, List.length_append, eText_len, le8_len]; omega
theorem eSym_len (x : S51) : (eSym x).length = 48 + x.f0.size := by simp only [eSym, List.length_append, eText_len, le8_len, eBool_len]; omega
theorem eRel_len (x : S64) : (eRel x).length = 24 + x.f2.size := by simp only [eRel, List.length_append, eText_len, le8_len, eBool_len]; omega
/-- An object's bytes behind others. -/
def bodyOn (out : List Int) (o : S27) : List Int :=
  out ++ eText o.f0 ++ le8 o.f1 ++ le8 o.f2.length ++ o.f2.flatMap eImp ++ le8 o.f3.length ++ o.f3.flatMap eSym ++ le8 o.f4.length ++ o.f4.flatMap eRel ++ eWords o.f5 ++ eWords o.f6
/-- Names that are names. -/
structure Named (o : S27) : Prop where
  pkg : o.f0.size ≤ 60
  imp : ∀ x ∈ o.f2, x.f0.size ≤ 60
  sym : ∀ x ∈ o.f3, x.f0.size ≤ 60
  rel : ∀ x ∈ o.f4, x.f2.size ≤ 60
  len : o.f2.length ≤ 300000 ∧ o.f3.length ≤ 300000 ∧ o.f4.length ≤ 300000 ∧ o.f5.length ≤ 65536 ∧ o.f6.length ≤ 16384
theorem flat_le {α : Type} (f : α → List Int) (l : List α) (k c : Nat) (h : ∀ x ∈ l, (f x).length ≤ c) : ((l.take k).flatMap f).length ≤ c * l.length := by
  have h1 : ∀ m : List α, (∀ x ∈ m, (f x).length ≤ c) → (m.flatMap f).length ≤ c * m.length := by
    intro m
    induction m with
    | nil => intro _; simp
    | cons x m ih =>
      intro hm
      rw [List.flatMap_cons, List.length_append, List.length_cons, Nat.mul_add]
      have := ih fun y hy => hm y (List.mem_cons_of_mem _ hy)
      have := hm x (List.mem_cons_self ..)
      omega
  have h2 := h1 (l.take k) fun x hx => h x (List.mem_of_mem_take hx)
  have h3 : (l.take k).length ≤ l.length := by rw [List.length_take]; omega
  exact Nat.le_trans h2 (Nat.mul_le_mul_left c h3)
theorem flat_all {α : Type} (f : α → List Int) (l : List α) (c : Nat) (h : ∀ x ∈ l, (f x).length ≤ c) : (l.flatMap f).length ≤ c * l.length := by
  have := flat_le f l l.length c h
  rwa [List.take_length] at this
/-- A local variable beside a writer. -/
structure Loc (w : World) (g : Nat) (o : Obj) : Prop where
  lt : g < w.heap.size
  free : Free (w.alloc o) g w.heap.size
theorem Loc.mk' {T : TypeId} {tl : List Value} {w : World} {g : Nat} {out : List Int} (h : WrIs T tl w g out) (o : Obj) : Loc w g o :=
  ⟨h.lt, (h.free_new (Nat.le_refl _)).below h.lt (alloc_below _ _)⟩
theorem Loc.start {w : World} {g : Nat} {o : Obj} (h : Loc w g o) : Keep (w.alloc o) (w.alloc o) g := Keep.refl _ _
theorem Loc.at_ {w X : World} {g : Nat} {o : Obj} (h : Loc w g o) (k : Keep (w.alloc o) X g) : X.heap[w.heap.size]? = some o :=
  (k.block _ (by simp) h.free).1.trans (heap_alloc_new w o)
theorem loc2 {w X : World} {g : Nat} {v0 v1 : Value} {t : TypeId} (h : Loc w g (.cells #[v0, v1] t)) (k : Keep (w.alloc (.cells #[v0, v1] t)) X g) : X.cell? ⟨w.heap.size, 0, none⟩ = some v0 ∧ X.cell? ⟨w.heap.size, 1, none⟩ = some v1 := by
  have := h.at_ k
  exact ⟨by simp [World.cell?, this], by simp [World.cell?, this]⟩
theorem loc3 {w X : World} {g : Nat} {v0 v1 v2 : Value} {t : TypeId} (h : Loc w g (.cells #[v0, v1, v2] t)) (k : Keep (w.alloc (.cells #[v0, v1, v2] t)) X g) : X.cell? ⟨w.heap.size, 0, none⟩ = some v0 ∧ X.cell? ⟨w.heap.size, 1, none⟩ = some v1 ∧ X.cell? ⟨w.heap.size, 2, none⟩ = some v2 := by
  have := h.at_ k
  exact ⟨by simp [World.cell?, this], by simp [World.cell?, this], by simp [World.cell?, this]⟩
theorem loc6 {w X : World} {g : Nat} {v0 v1 v2 v3 v4 v5 : Value} {t : TypeId} (h : Loc w g (.cells #[v0, v1, v2, v3, v4, v5] t)) (k : Keep (w.alloc (.cells #[v0, v1, v2, v3, v4, v5] t)) X g) : X.cell? ⟨w.heap.size, 0, none⟩ = some v0 ∧ X.cell? ⟨w.heap.size, 1, none⟩ = some v1 ∧ X.cell? ⟨w.heap.size, 2, none⟩ = some v2 ∧ X.cell? ⟨w.heap.size, 3, none⟩ = some v3 ∧ X.cell? ⟨w.heap.size, 4, none⟩ = some v4 ∧ X.cell? ⟨w.heap.size, 5, none⟩ = some v5 := by
  have := h.at_ k
  exact ⟨by simp [World.cell?, this], by simp [World.cell?, this], by simp [World.cell?, this], by simp [World.cell?, this], by simp [World.cell?, this], by simp [World.cell?, this]⟩
theorem loc7 {w X : World} {g : Nat} {v0 v1 v2 v3 v4 v5 v6 : Value} {t : TypeId} (h : Loc w g (.cells #[v0, v1, v2, v3, v4, v5, v6] t)) (k : Keep (w.alloc (.cells #[v0, v1, v2, v3, v4, v5, v6] t)) X g) :
    X.cell? ⟨w.heap.size, 0, none⟩ = some v0 ∧ X.cell? ⟨w.heap.size, 1, none⟩ = some v1 ∧ X.cell? ⟨w.heap.size, 2, none⟩ = some v2 ∧ X.cell? ⟨w.heap.size, 3, none⟩ = some v3 ∧ X.cell? ⟨w.heap.size, 4, none⟩ = some v4 ∧ X.cell? ⟨w.heap.size, 5, none⟩ = some v5 ∧ X.cell? ⟨w.heap.size, 6, none⟩ = some v6 ∧ w.heap.size < X.heap.size := by
  have := h.at_ k
  exact ⟨by simp [World.cell?, this], by simp [World.cell?, this], by simp [World.cell?, this], by simp [World.cell?, this], by simp [World.cell?, this], by simp [World.cell?, this], by simp [World.cell?, this], (Array.getElem?_eq_some_iff.1 this).1⟩
set_option maxRecDepth 100000 in
set_option maxHeartbeats 4000000 in
theorem object_any {w0 w : World} {g : Nat} {out : List Int} (o : S27) (hN : Named o) {cs : List Value} (hK0 : k27.K w0 o cs) (h : WrIs 74 [] w g out) (hb : Below w0.heap.size w0 w) (hg : w0.heap.size ≤ g) (hl : out.length ≤ 1000) :
    Calls Try.prog 34 #[.pointer (some ⟨g, 0, none⟩), .agg cs.toArray] w fun e w' => e = .returned (.tuple #[]) ∧ WrIs 74 [] w' g (bodyOn out o) ∧ Keep w w' g := by
  unfold bodyOn
  obtain ⟨A2, c2, A3, c3, A4, c4, A5, c5, A6, c6, rfl, l2, g2, l3, g3, l4, g4, l5, g5, l6, g6⟩ := k27_open hK0
  have hloc := Loc.mk' h (.cells #[.string o.f0, .int .i64 o.f1, .slice A2 o.f2.length c2, .slice A3 o.f3.length c3, .slice A4 o.f4.length c4, .slice A5 o.f5.length c5, .slice A6 o.f6.length c6] 27)
  have hbx := Lib.hid (fun X (k : Keep (w.alloc (.cells #[.string o.f0, .int .i64 o.f1, .slice A2 o.f2.length c2, .slice A3 o.f3.length c3, .slice A4 o.f4.length c4, .slice A5 o.f5.length c5, .slice A6 o.f6.length c6] 27)) X g) => loc7 hloc k)
  have W0 := Lib.hid (h.below (alloc_below w (.cells #[.string o.f0, .int .i64 o.f1, .slice A2 o.f2.length c2, .slice A3 o.f3.length c3, .slice A4 o.f4.length c4, .slice A5 o.f5.length c5, .slice A6 o.f6.length c6] 27)))
  have Hlt := Lib.hid (fun X (k : Keep (w.alloc (.cells #[.string o.f0, .int .i64 o.f1, .slice A2 o.f2.length c2, .slice A3 o.f3.length c3, .slice A4 o.f4.length c4, .slice A5 o.f5.length c5, .slice A6 o.f6.length c6] 27)) X g) => Nat.lt_of_lt_of_le W0.out.lt k.size)
  have hlow := Lib.hid (fun X (k : Keep (w.alloc (.cells #[.string o.f0, .int .i64 o.f1, .slice A2 o.f2.length c2, .slice A3 o.f3.length c3, .slice A4 o.f4.length c4, .slice A5 o.f5.length c5, .slice A6 o.f6.length c6] 27)) X g) => hb.trans (((Keep.of_below h.lt (alloc_below w (.cells #[.string o.f0, .int .i64 o.f1, .slice A2 o.f2.length c2, .slice A3 o.f3.length c3, .slice A4 o.f4.length c4, .slice A5 o.f5.length c5, .slice A6 o.f6.length c6] 27))).trans k).low h hg))
  have K0 := Lib.hid (Keep.refl (w.alloc (.cells #[.string o.f0, .int .i64 o.f1, .slice A2 o.f2.length c2, .slice A3 o.f3.length c3, .slice A4 o.f4.length c4, .slice A5 o.f5.length c5, .slice A6 o.f6.length c6] 27)) g)
  have Hh := Lib.hid h.lt
  have Hg := Lib.hid hg
  have hszs := Lib.hid hN
  have HB := Lib.hid (And.intro hl (And.intro hN.pkg hN.len))
  have HF := Lib.hid trivial
  clear hl hN h hloc hK0 hg l2 l3 l4 l5 l6 hb
  go_enter Try.func34, Try.ntmps34
  go_wp2_with (first | (go_at_call 35; refine (num_any _ W0.out (by have := HB.out; have := HF.out; first | omega | (simp only [List.length_append, le8_len, eText_len, eBool_len, eWords_len]; omega))).mono ?_; rintro e w1 ⟨rfl, hW1, hK1⟩; have K0 := Lib.hid (K0.out.trans hK1); have W0 := Lib.hid hW1; clear hW1; obtain ⟨e0, e1, e2, e3, e4, e5, e6, ez⟩ := hbx.out _ K0.out; try clear hK1) | (go_at_call 60; refine (text_any _ W0.out (by have := HB.out; have := HF.out; first | omega | (simp only [List.length_append, le8_len, eText_len, eBool_len, eWords_len]; omega))).mono ?_; rintro e w1 ⟨rfl, hW1, hK1⟩; have K0 := Lib.hid (K0.out.trans hK1); have W0 := Lib.hid hW1; clear hW1; obtain ⟨e0, e1, e2, e3, e4, e5, e6, ez⟩ := hbx.out _ K0.out; try clear hK1) | (go_at_call 61; refine (truth_any _ W0.out (by have := HB.out; have := HF.out; first | omega | (simp only [List.length_append, le8_len, eText_len, eBool_len, eWords_len]; omega))).mono ?_; rintro e w1 ⟨rfl, hW1, hK1⟩; have K0 := Lib.hid (K0.out.trans hK1); have W0 := Lib.hid hW1; clear hW1; obtain ⟨e0, e1, e2, e3, e4, e5, e6, ez⟩ := hbx.out _ K0.out; try clear hK1))
  go_loopw [26] (fun i wr => ∃ k : Nat, k ≤ o.f2.length ∧ i = .int .i64 (k : Int) ∧ WrIs 74 [] wr g (out ++ eText o.f0 ++ le8 o.f1 ++ le8 o.f2.length ++ (o.f2.take k).flatMap eImp) ∧ Keep (w.alloc (.cells #[.string o.f0, .int .i64 o.f1, .slice A2 o.f2.length c2, .slice A3 o.f3.length c3, .slice A4 o.f4.length c4, .slice A5 o.f5.length c5, .slice A6 o.f6.length c6] 27)) wr g) (fun i _ => o.f2.length - (intOf i).toNat)
  case atStart => exact ⟨0, Nat.zero_le _, by go_num, by simpa using W0.out, K0.out⟩
  case round =>
    obtain ⟨k, hk, rfl, hW, hK⟩ := hrel
    have K1 := Lib.hid hK
    have W1 := Lib.hid hW
    clear hK hW
    obtain ⟨e0, e1, e2, e3, e4, e5, e6, ez⟩ := hbx.out _ K1.out
    by_cases hlt : k < o.f2.length
    · have p0 : (0 : Int) ≤ (k : Int) := by omega
      have p1 : (k : Int) < (o.f2.length : Int) := by omega
      have hm : (k : Int) < 9223372036854775807 := by have := HB.out; omega
      obtain ⟨ad, rfl, x0, x1⟩ := at_T44 (Kd.C_below g2 (hlow.out _ K1.out)) (k : Int) p0 p1
      have hmem : o.f2.getD k z44 ∈ o.f2 := getD_mem hlt
      have hfs := flat_succ eImp o.f2 k z44 hlt
      have htl := flat_le eImp o.f2 k 76 (fun x hx => by rw [eImp_len]; have := hszs.out.imp x hx; omega)
      have hsz := hszs.out.imp _ hmem
      rw [show rd_T44 o.f2 (k : Int) = o.f2.getD k z44 from rfl] at x0 x1
      simp only [Int.toNat_natCast] at x0 x1
      generalize o.f2.getD k z44 = y at *
      have Hf := Lib.hid hfs
      have HF := Lib.hid (And.intro HF.out (And.intro htl hsz))
      clear hfs htl hsz hmem
      have HL := Lib.hid (Loc.mk' (w := wr) (g := g) W1.out (.cells #[.string y.f0, .int .i64 y.f1] 44))
      have HL2 := Lib.hid (HL.out.start)
      have W1 := Lib.hid (W1.out.below (alloc_below wr (.cells #[.string y.f0, .int .i64 y.f1] 44)))
      have K1 := Lib.hid (K1.out.trans (Keep.of_below (Hlt.out _ K1.out) (alloc_below wr (.cells #[.string y.f0, .int .i64 y.f1] 44))))
      go_wp2_with (first | (go_at_call 35; refine (num_any _ W1.out (by have := HB.out; have := HF.out; first | omega | (simp only [List.length_append, le8_len, eText_len, eBool_len, eWords_len]; omega))).mono ?_; rintro e w1 ⟨rfl, hW1, hK1⟩; have K1 := Lib.hid (K1.out.trans hK1); have W1 := Lib.hid hW1; clear hW1; have HL2 := Lib.hid (HL2.out.trans hK1); obtain ⟨q0, q1⟩ := loc2 HL.out HL2.out; try clear hK1) | (go_at_call 60; refine (text_any _ W1.out (by have := HB.out; have := HF.out; first | omega | (simp only [List.length_append, le8_len, eText_len, eBool_len, eWords_len]; omega))).mono ?_; rintro e w1 ⟨rfl, hW1, hK1⟩; have K1 := Lib.hid (K1.out.trans hK1); have W1 := Lib.hid hW1; clear hW1; have HL2 := Lib.hid (HL2.out.trans hK1); obtain ⟨q0, q1⟩ := loc2 HL.out HL2.out; try clear hK1) | (go_at_call 61; refine (truth_any _ W1.out (by have := HB.out; have := HF.out; first | omega | (simp only [List.length_append, le8_len, eText_len, eBool_len, eWords_len]; omega))).mono ?_; rintro e w1 ⟨rfl, hW1, hK1⟩; have K1 := Lib.hid (K1.out.trans hK1); have W1 := Lib.hid hW1; clear hW1; have HL2 := Lib.hid (HL2.out.trans hK1); obtain ⟨q0, q1⟩ := loc2 HL.out HL2.out; try clear hK1))
      go_roundw
      case rel => exact ⟨k + 1, by omega, by go_num, by have := W1.out; rw [Hf.out, show eImp y = eText y.f0 ++ le8 y.f1 from rfl]; simpa only [List.append_assoc] using this, K1.out⟩
      case measure => simp [intOf]; omega
    · obtain rfl : k = o.f2.length := by omega
      rw [List.take_length] at W1
      have HF := Lib.hid (And.intro HF.out (flat_all eImp o.f2 76 (fun x hx => by rw [eImp_len]; have := hszs.out.imp x hx; omega)))
      go_wp2_with (first | (go_at_call 35; refine (num_any _ W1.out (by have := HB.out; have := HF.out; first | omega | (simp only [List.length_append, le8_len, eText_len, eBool_len, eWords_len]; omega))).mono ?_; rintro e w1 ⟨rfl, hW1, hK1⟩; have K1 := Lib.hid (K1.out.trans hK1); have W1 := Lib.hid hW1; clear hW1; obtain ⟨e0, e1, e2, e3, e4, e5, e6, ez⟩ := hbx.out _ K1.out; try clear hK1) | (go_at_call 60; refine (text_any _ W1.out (by have := HB.out; have := HF.out; first | omega | (simp only [List.length_append, le8_len, eText_len, eBool_len, eWords_len]; omega))).mono ?_; rintro e w1 ⟨rfl, hW1, hK1⟩; have K1 := Lib.hid (K1.out.trans hK1); have W1 := Lib.hid hW1; clear hW1; obtain ⟨e0, e1, e2, e3, e4, e5, e6, ez⟩ := hbx.out _ K1.out; try clear hK1) | (go_at_call 61; refine (truth_any _ W1.out (by have := HB.out; have := HF.out; first | omega | (simp only [List.length_append, le8_len, eText_len, eBool_len, eWords_len]; omega))).mono ?_; rintro e w1 ⟨rfl, hW1, hK1⟩; have K1 := Lib.hid (K1.out.trans hK1); have W1 := Lib.hid hW1; clear hW1; obtain ⟨e0, e1, e2, e3, e4, e5, e6, ez⟩ := hbx.out _ K1.out; try clear hK1))
      go_loopw [47] (fun i wr => ∃ k : Nat, k ≤ o.f3.length ∧ i = .int .i64 (k : Int) ∧ WrIs 74 [] wr g ((out ++ eText o.f0 ++ le8 o.f1 ++ le8 o.f2.length ++ o.f2.flatMap eImp) ++ le8 o.f3.length ++ (o.f3.take k).flatMap eSym) ∧ Keep (w.alloc (.cells #[.string o.f0, .int .i64 o.f1, .slice A2 o.f2.length c2, .slice A3 o.f3.length c3, .slice A4 o.f4.length c4, .slice A5 o.f5.length c5, .slice A6 o.f6.length c6] 27)) wr g) (fun i _ => o.f3.length - (intOf i).toNat)
      case atStart => exact ⟨0, Nat.zero_le _, by go_num, by simpa using W1.out, K1.out⟩
      case round =>
        obtain ⟨k, hk, rfl, hW, hK⟩ := hrel
        have K2 := Lib.hid hK
        have W2 := Lib.hid hW
        clear hK hW
        obtain ⟨e0, e1, e2, e3, e4, e5, e6, ez⟩ := hbx.out _ K2.out
        by_cases hlt : k < o.f3.length
        · have p0 : (0 : Int) ≤ (k : Int) := by omega
          have p1 : (k : Int) < (o.f3.length : Int) := by omega
          have hm : (k : Int) < 9223372036854775807 := by have := HB.out; omega
          obtain ⟨ad, rfl, x0, x1, x2, x3, x4, x5⟩ := at_T51 (Kd.C_below g3 (hlow.out _ K2.out)) (k : Int) p0 p1
          have hmem : o.f3.getD k z51 ∈ o.f3 := getD_mem hlt
          have hfs := flat_succ eSym o.f3 k z51 hlt
          have htl := flat_le eSym o.f3 k 108 (fun x hx => by rw [eSym_len]; have := hszs.out.sym x hx; omega)
          have hsz := hszs.out.sym _ hmem
          rw [show rd_T51 o.f3 (k : Int) = o.f3.getD k z51 from rfl] at x0 x1 x2 x3 x4 x5
          simp only [Int.toNat_natCast] at x0 x1 x2 x3 x4 x5
          generalize o.f3.getD k z51 = y at *
          have Hf := Lib.hid hfs
          have HF := Lib.hid (And.intro HF.out (And.intro htl hsz))
          clear hfs htl hsz hmem
          have HL := Lib.hid (Loc.mk' (w := wr) (g := g) W2.out (.cells #[.string y.f0, .int .i64 y.f1, .bool y.f2, .int .i64 y.f3, .int .i64 y.f4, .int .i64 y.f5] 51))
          have HL2 := Lib.hid (HL.out.start)
          have W2 := Lib.hid (W2.out.below (alloc_below wr (.cells #[.string y.f0, .int .i64 y.f1, .bool y.f2, .int .i64 y.f3, .int .i64 y.f4, .int .i64 y.f5] 51)))
          have K2 := Lib.hid (K2.out.trans (Keep.of_below (Hlt.out _ K2.out) (alloc_below wr (.cells #[.string y.f0, .int .i64 y.f1, .bool y.f2, .int .i64 y.f3, .int .i64 y.f4, .int .i64 y.f5] 51))))
          go_wp2_with (first | (go_at_call 35; refine (num_any _ W2.out (by have := HB.out; have := HF.out; first | omega | (simp only [List.length_append, le8_len, eText_len, eBool_len, eWords_len]; omega))).mono ?_; rintro e w1 ⟨rfl, hW1, hK1⟩; have K2 := Lib.hid (K2.out.trans hK1); have W2 := Lib.hid hW1; clear hW1; have HL2 := Lib.hid (HL2.out.trans hK1); obtain ⟨q0, q1, q2, q3, q4, q5⟩ := loc6 HL.out HL2.out; try clear hK1) | (go_at_call 60; refine (text_any _ W2.out (by have := HB.out; have := HF.out; first | omega | (simp only [List.length_append, le8_len, eText_len, eBool_len, eWords_len]; omega))).mono ?_; rintro e w1 ⟨rfl, hW1, hK1⟩; have K2 := Lib.hid (K2.out.trans hK1); have W2 := Lib.hid hW1; clear hW1; have HL2 := Lib.hid (HL2.out.trans hK1); obtain ⟨q0, q1, q2, q3, q4, q5⟩ := loc6 HL.out HL2.out; try clear hK1) | (go_at_call 61; refine (truth_any _ W2.out (by have := HB.out; have := HF.out; first | omega | (simp only [List.length_append, le8_len, eText_len, eBool_len, eWords_len]; omega))).mono ?_; rintro e w1 ⟨rfl, hW1, hK1⟩; have K2 := Lib.hid (K2.out.trans hK1); have W2 := Lib.hid hW1; clear hW1; have HL2 := Lib.hid (HL2.out.trans hK1); obtain ⟨q0, q1, q2, q3, q4, q5⟩ := loc6 HL.out HL2.out; try clear hK1))
          go_roundw
          case rel => exact ⟨k + 1, by omega, by go_num, by have := W2.out; rw [Hf.out, show eSym y = eText y.f0 ++ le8 y.f1 ++ eBool y.f2 ++ le8 y.f3 ++ le8 y.f4 ++ le8 y.f5 from rfl]; simpa only [List.append_assoc] using this, K2.out⟩
          case measure => simp [intOf]; omega
        · obtain rfl : k = o.f3.length := by omega
          rw [List.take_length] at W2
          have HF := Lib.hid (And.intro HF.out (flat_all eSym o.f3 108 (fun x hx => by rw [eSym_len]; have := hszs.out.sym x hx; omega)))
          go_wp2_with (first | (go_at_call 35; refine (num_any _ W2.out (by have := HB.out; have := HF.out; first | omega | (simp only [List.length_append, le8_len, eText_len, eBool_len, eWords_len]; omega))).mono ?_; rintro e w1 ⟨rfl, hW1, hK1⟩; have K2 := Lib.hid (K2.out.trans hK1); have W2 := Lib.hid hW1; clear hW1; obtain ⟨e0, e1, e2, e3, e4, e5, e6, ez⟩ := hbx.out _ K2.out; try clear hK1) | (go_at_call 60; refine (text_any _ W2.out (by have := HB.out; have := HF.out; first | omega | (simp only [List.length_append, le8_len, eText_len, eBool_len, eWords_len]; omega))).mono ?_; rintro e w1 ⟨rfl, hW1, hK1⟩; have K2 := Lib.hid (K2.out.trans hK1); have W2 := Lib.hid hW1; clear hW1; obtain ⟨e0, e1, e2, e3, e4, e5, e6, ez⟩ := hbx.out _ K2.out; try clear hK1) | (go_at_call 61; refine (truth_any _ W2.out (by have := HB.out; have := HF.out; first | omega | (simp only [List.length_append, le8_len, eText_len, eBool_len, eWords_len]; omega))).mono ?_; rintro e w1 ⟨rfl, hW1, hK1⟩; have K2 := Lib.hid (K2.out.trans hK1); have W2 := Lib.hid hW1; clear hW1; obtain ⟨e0, e1, e2, e3, e4, e5, e6, ez⟩ := hbx.out _ K2.out; try clear hK1))
          go_loopw [84] (fun i wr => ∃ k : Nat, k ≤ o.f4.length ∧ i = .int .i64 (k : Int) ∧ WrIs 74 [] wr g (((out ++ eText o.f0 ++ le8 o.f1 ++ le8 o.f2.length ++ o.f2.flatMap eImp) ++ le8 o.f3.length ++ o.f3.flatMap eSym) ++ le8 o.f4.length ++ (o.f4.take k).flatMap eRel) ∧ Keep (w.alloc (.cells #[.string o.f0, .int .i64 o.f1, .slice A2 o.f2.length c2, .slice A3 o.f3.length c3, .slice A4 o.f4.length c4, .slice A5 o.f5.length c5, .slice A6 o.f6.length c6] 27)) wr g) (fun i _ => o.f4.length - (intOf i).toNat)
          case atStart => exact ⟨0, Nat.zero_le _, by go_num, by simpa using W2.out, K2.out⟩
          case round =>
            obtain ⟨k, hk, rfl, hW, hK⟩ := hrel
            have K3 := Lib.hid hK
            have W3 := Lib.hid hW
            clear hK hW
            obtain ⟨e0, e1, e2, e3, e4, e5, e6, ez⟩ := hbx.out _ K3.out
            by_cases hlt : k < o.f4.length
            · have p0 : (0 : Int) ≤ (k : Int) := by omega
              have p1 : (k : Int) < (o.f4.length : Int) := by omega
              have hm : (k : Int) < 9223372036854775807 := by have := HB.out; omega
              obtain ⟨ad, rfl, x0, x1, x2⟩ := at_T64 (Kd.C_below g4 (hlow.out _ K3.out)) (k : Int) p0 p1
              have hmem : o.f4.getD k z64 ∈ o.f4 := getD_mem hlt
              have hfs := flat_succ eRel o.f4 k z64 hlt
              have htl := flat_le eRel o.f4 k 84 (fun x hx => by rw [eRel_len]; have := hszs.out.rel x hx; omega)
              have hsz := hszs.out.rel _ hmem
              rw [show rd_T64 o.f4 (k : Int) = o.f4.getD k z64 from rfl] at x0 x1 x2
              simp only [Int.toNat_natCast] at x0 x1 x2
              generalize o.f4.getD k z64 = y at *
              have Hf := Lib.hid hfs
              have HF := Lib.hid (And.intro HF.out (And.intro htl hsz))
              clear hfs htl hsz hmem
              have HL := Lib.hid (Loc.mk' (w := wr) (g := g) W3.out (.cells #[.bool y.f0, .int .i64 y.f1, .string y.f2] 64))
              have HL2 := Lib.hid (HL.out.start)
              have W3 := Lib.hid (W3.out.below (alloc_below wr (.cells #[.bool y.f0, .int .i64 y.f1, .string y.f2] 64)))
              have K3 := Lib.hid (K3.out.trans (Keep.of_below (Hlt.out _ K3.out) (alloc_below wr (.cells #[.bool y.f0, .int .i64 y.f1, .string y.f2] 64))))
              go_wp2_with (first | (go_at_call 35; refine (num_any _ W3.out (by have := HB.out; have := HF.out; first | omega | (simp only [List.length_append, le8_len, eText_len, eBool_len, eWords_len]; omega))).mono ?_; rintro e w1 ⟨rfl, hW1, hK1⟩; have K3 := Lib.hid (K3.out.trans hK1); have W3 := Lib.hid hW1; clear hW1; have HL2 := Lib.hid (HL2.out.trans hK1); obtain ⟨q0, q1, q2⟩ := loc3 HL.out HL2.out; try clear hK1) | (go_at_call 60; refine (text_any _ W3.out (by have := HB.out; have := HF.out; first | omega | (simp only [List.length_append, le8_len, eText_len, eBool_len, eWords_len]; omega))).mono ?_; rintro e w1 ⟨rfl, hW1, hK1⟩; have K3 := Lib.hid (K3.out.trans hK1); have W3 := Lib.hid hW1; clear hW1; have HL2 := Lib.hid (HL2.out.trans hK1); obtain ⟨q0, q1, q2⟩ := loc3 HL.out HL2.out; try clear hK1) | (go_at_call 61; refine (truth_any _ W3.out (by have := HB.out; have := HF.out; first | omega | (simp only [List.length_append, le8_len, eText_len, eBool_len, eWords_len]; omega))).mono ?_; rintro e w1 ⟨rfl, hW1, hK1⟩; have K3 := Lib.hid (K3.out.trans hK1); have W3 := Lib.hid hW1; clear hW1; have HL2 := Lib.hid (HL2.out.trans hK1); obtain ⟨q0, q1, q2⟩ := loc3 HL.out HL2.out; try clear hK1))
              go_roundw
              case rel => exact ⟨k + 1, by omega, by go_num, by have := W3.out; rw [Hf.out, show eRel y = eBool y.f0 ++ le8 y.f1 ++ eText y.f2 from rfl]; simpa only [List.append_assoc] using this, K3.out⟩
              case measure => simp [intOf]; omega
            · obtain rfl : k = o.f4.length := by omega
              rw [List.take_length] at W3
              have HF := Lib.hid (And.intro HF.out (flat_all eRel o.f4 84 (fun x hx => by rw [eRel_len]; have := hszs.out.rel x hx; omega)))
              go_upto_region 30 with (go_at_call 62; refine (words_any (w0 := w0) _ W3.out (hlow.out _ K3.out) Hg.out g5 (by have := HB.out; have := HF.out; simp only [List.length_append, le8_len, eText_len, eBool_len, eWords_len]; omega)).mono ?_; rintro e w1 ⟨rfl, hW1, hK1⟩; have K3 := Lib.hid (K3.out.trans hK1); have W3 := Lib.hid hW1; clear hW1 hK1; obtain ⟨e0, e1, e2, e3, e4, e5, e6, ez⟩ := hbx.out _ K3.out)
              go_wp2_with (go_at_call 62; refine (words_any (w0 := w0) _ W3.out (hlow.out _ K3.out) Hg.out g6 (by have := HB.out; have := HF.out; simp only [List.length_append, le8_len, eText_len, eBool_len, eWords_len]; omega)).mono ?_; rintro e w1 ⟨rfl, hW1, hK1⟩; have K3 := Lib.hid (K3.out.trans hK1); have W3 := Lib.hid hW1; clear hW1 hK1; obtain ⟨e0, e1, e2, e3, e4, e5, e6, ez⟩ := hbx.out _ K3.out)
              go_end0
              exact ⟨rfl, W3.out, (Keep.of_below Hh.out (alloc_below _ _)).trans K3.out⟩
end Go.Proofs.Ytnbgbmddkbneeaa.Obj

/- An object's bytes: the program's walk. -/
import Derived.Test.YtnbgbmddkbneeaaB6
import Derived.Test.YtnbgbmddkbneeaaB11
import Derived.Test.YtnbgbmddkbneeaaB12
set_option linter.unusedVariables false
set_option linter.unusedSimpArgs false
namespace Go.Proofs.Ytnbgbmddkbneeaa.Obj
open Go.RowKit Go.Proofs.YtnbgbmddkbneeaaW.PrintWords Go.Proofs.YtnbgbmddkbneeaaW.PrintMore Go.Proofs.Ytnbgbmddkbneeaa.PLinkWeak
section
variable {α : Type} [DecidableEq α]
theorem acc_all (ks : List α) (d : α) (q : Nat → Bool) (b : Bool) : ∀ n, acc ks d q b n = true → b = true ∧ ∀ k, k < n → q k = true ∧ fresh ks d k = true
  | 0, h => ⟨h, fun k hk => by omega⟩
  | n + 1, h => by
    unfold acc at h
    simp only [Bool.and_eq_true] at h
    obtain ⟨h1, h2⟩ := acc_all ks d q b n h.1
    refine ⟨h1, fun k hk => ?_⟩
    by_cases e : k = n
    · subst e; exact h.2
    · exact h2 k (by omega)
end
theorem nm_le {s : ByteArray} (h : nm s = true) : 1 ≤ s.size ∧ s.size ≤ 60 := by unfold nm at h; exact of_decide_eq_true h
theorem mem_getD {α : Type} {l : List α} {x : α} (d : α) (h : x ∈ l) : ∃ k, k < l.length ∧ l.getD k d = x := by
  obtain ⟨k, hk, e⟩ := List.getElem_of_mem h
  exact ⟨k, hk, by simp [List.getD_eq_getElem?_getD, hk, e]⟩
/-- What a right object has. -/
theorem ok_named (o : S27) (h : okP o = true) (l2 : o.f2.length ≤ 300000) (l3 : o.f3.length ≤ 300000) (l4 : o.f4.length ≤ 300000) (l5 : o.f5.length ≤ 65536) (l6 : o.f6.length ≤ 16384) : Named o := by
  obtain ⟨h3, a3⟩ := acc_all _ _ _ _ _ h
  obtain ⟨h2, a2⟩ := acc_all _ _ _ _ _ h3
  obtain ⟨h1, a1⟩ := acc_all _ _ _ _ _ h2
  refine ⟨(nm_le h1).2, fun x hx => ?_, fun x hx => ?_, fun x hx => ?_, l2, l3, l4, l5, l6⟩
  · obtain ⟨k, hk, rfl⟩ := mem_getD z44 hx
    exact (nm_le (a1 k hk).1).2
  · obtain ⟨k, hk, rfl⟩ := mem_getD z51 hx
    have := (a2 k hk).1
    simp only [Bool.and_eq_true] at this
    exact (nm_le this.1).2
  · obtain ⟨k, hk, rfl⟩ := mem_getD z64 hx
    have := (a3 k hk).1
    simp only [Bool.and_eq_true] at this
    exact (nm_le this.1).2
theorem valid_zero {o : S27} (h : validP o = 0) : okP o = true ∧ o.f5.length ≤ 65536 ∧ o.f6.length ≤ 16384 := by
  unfold validP at h
  split at h
  · cases h
  · split at h
    · exact ⟨by assumption, by omega, by omega⟩
    · cases h
def markB : List Int := [77, 79, 49, 10]
theorem mark_is : bytesOf ⟨#[77, 79, 49, 10]⟩ = markB := rfl
def fullP (o : S27) : List Int := bodyOn markB o ++ le8 (sumF (bodyOn markB o))
/-- An object's bytes, and the error's number. -/
def encP (o : S27) : List Int × Int := if validP o = 0 then (if 262144 < (fullP o).length then ([], 2) else (fullP o, 0)) else ([], validP o)
theorem own_C {w : World} {B : Nat} {A : Option Addr} {n c : Nat} {xs : List Int} (h : w.ownsRow B 5 1 (.slice A n c) n (nums .u8 xs)) : n = xs.length ∧ Kd.C (Kd.int .u8) w A xs.length xs := by
  have hl : xs.length = n := by have := h.1; simpa [nums] using this
  subst hl
  exact ⟨rfl, Kd.C_of_reads (d := (0 : Int)) (h1 := fun _ => rfl) (own_reads' h)⟩
theorem byteAt_in (v : Int) (k : Nat) : 0 ≤ byteAt v k ∧ byteAt v k ≤ 255 := by unfold byteAt; omega
theorem le8_in (v : Int) : ∀ b ∈ le8 v, 0 ≤ b ∧ b ≤ 255 := by
  intro b hb
  obtain ⟨k, _, rfl⟩ := List.mem_map.1 hb
  exact byteAt_in v k
theorem bytesOf_in (s : ByteArray) : ∀ b ∈ bytesOf s, 0 ≤ b ∧ b ≤ 255 := by
  intro b hb
  unfold bytesOf at hb
  obtain ⟨x, _, rfl⟩ := List.mem_map.1 hb
  have := x.toNat_lt
  omega
def AllB (l : List Int) : Prop := ∀ b ∈ l, 0 ≤ b ∧ b ≤ 255
theorem AllB.app {a b : List Int} (h : AllB a) (k : AllB b) : AllB (a ++ b) := fun x hx => (List.mem_append.1 hx).elim (h x) (k x)
theorem AllB.flat {α : Type} {f : α → List Int} {l : List α} (h : ∀ x ∈ l, AllB (f x)) : AllB (l.flatMap f) := fun b hb => by
  obtain ⟨x, hx, hb⟩ := List.mem_flatMap.1 hb
  exact h x hx b hb
theorem AllB.text (s : ByteArray) : AllB (eText s) := AllB.app (le8_in _) (bytesOf_in _)
theorem AllB.words (l : List Int) : AllB (eWords l) := AllB.app (le8_in _) (AllB.flat fun x _ => le8_in x)
theorem le8_all (v : Int) : AllB (le8 v) := le8_in v
theorem body_in (o : S27) : AllB (bodyOn markB o) := by
  unfold bodyOn eImp eSym eRel eBool
  have hm : AllB markB := by intro b hb; simp [markB] at hb; omega
  exact ((((((((((hm.app (AllB.text _)).app (le8_all _)).app (le8_all _)).app (AllB.flat fun x _ => (AllB.text _).app (le8_all _))).app (le8_all _)).app (AllB.flat fun x _ => (((((AllB.text _).app (le8_all _)).app (le8_all _)).app (le8_all _)).app (le8_all _)).app (le8_all _))).app (le8_all _)).app (AllB.flat fun x _ => ((le8_all _).app (le8_all _)).app (AllB.text _))).app (AllB.words _)).app (AllB.words _))
theorem body_len (o : S27) (h : Named o) : (bodyOn markB o).length ≤ 90000000 := by
  have h2 := flat_all eImp o.f2 76 (fun x hx => by rw [eImp_len]; have := h.imp x hx; omega)
  have h3 := flat_all eSym o.f3 108 (fun x hx => by rw [eSym_len]; have := h.sym x hx; omega)
  have h4 := flat_all eRel o.f4 84 (fun x hx => by rw [eRel_len]; have := h.rel x hx; omega)
  have hl := h.len
  have hp := h.pkg
  unfold bodyOn
  simp only [List.length_append, le8_len, eText_len, eWords_len]
  simp only [markB, List.length_cons, List.length_nil]
  omega
theorem own_low {w : World} {B B' : Nat} {e : TypeId} {size n : Nat} {v : Value} {xs : List Value} (h : w.ownsRow B e size v n xs) (hB : B' ≤ B) : w.ownsRow B' e size v n xs := by
  obtain ⟨h1, h2⟩ := h
  refine ⟨h1, ?_⟩
  rcases h2 with h2 | ⟨g, cap, cur, hv, hg, r⟩
  · exact .inl h2
  · exact .inr ⟨g, cap, cur, hv, Nat.le_trans hB hg, r⟩
def EncPost (o : S27) (w : World) (e : Ending) (w' : World) : Prop :=
  ∃ A c, e = .returned (.tuple #[.slice A (encP o).1.length c, .int .i64 (encP o).2]) ∧ w'.ownsRow w.heap.size 5 1 (.slice A (encP o).1.length c) (encP o).1.length (nums .u8 (encP o).1) ∧ Below w.heap.size w w'
set_option maxRecDepth 100000 in
set_option maxHeartbeats 2000000 in
theorem encode_any' (o : S27) (hF : Fine o) (l2 : o.f2.length ≤ 300000) (l3 : o.f3.length ≤ 300000) (l4 : o.f4.length ≤ 300000) {cs : List Value} {w : World} (hK : k27.K w o cs) :
    Calls Try.prog 16 #[.agg cs.toArray] w (EncPost o w) := by
  have hva := Lib.hid (fun (X : World) (hX : Below w.heap.size w X) => valid_any o hF (k27.K_below hX hK))
  have hob := Lib.hid (fun (hN : Named o) (X : World) (g : Nat) (out : List Int) (h : WrIs 74 [] X g out) (hX : Below w.heap.size w X) (hg : w.heap.size ≤ g) (hl : out.length ≤ 1000) => object_any o hN hK h hX hg hl)
  obtain ⟨A2, c2, A3, c3, A4, c4, A5, c5, A6, c6, rfl, _⟩ := k27_open hK
  have hb0 : Below w.heap.size w (w.alloc (.cells #[.string o.f0, .int .i64 o.f1, .slice A2 o.f2.length c2, .slice A3 o.f3.length c3, .slice A4 o.f4.length c4, .slice A5 o.f5.length c5, .slice A6 o.f6.length c6] 27)) := alloc_below _ _
  unfold EncPost
  by_cases hv : validP o = 0
  · obtain ⟨v1, v2, v3⟩ := valid_zero hv
    have hN := ok_named o v1 l2 l3 l4 v2 v3
    have hva' := Lib.hid (fun (X : World) (hX : Below w.heap.size w X) => hv ▸ hva.out X hX)
    have HL := Lib.hid (body_len o hN)
    have HA := Lib.hid (body_in o)
    have hob' := Lib.hid (fun (X : World) (g : Nat) (out : List Int) (h : WrIs 74 [] X g out) (hX : Below w.heap.size w X) (hg : w.heap.size ≤ g) (hl : out.length ≤ 1000) => hob.out hN X g out h hX hg hl)
    have he : encP o = if 262144 < (fullP o).length then ([], 2) else (fullP o, 0) := if_pos hv
    have HF := Lib.hid (show bodyOn markB o ++ le8 (sumF (bodyOn markB o)) = fullP o from rfl)
    have HM := Lib.hid (show ∀ out, out = markB → bodyOn out o = bodyOn markB o from fun out e => by rw [e])
    rw [he]
    have hob' := Lib.hid (fun (X : World) (g : Nat) (h : WrIs 74 [] X g ([] ++ bytesOf ⟨#[77, 79, 49, 10]⟩)) (hX : Below w.heap.size w X) (hg : w.heap.size ≤ g) => (show Calls Try.prog 34 _ X fun e w' => e = .returned (.tuple #[]) ∧ WrIs 74 [] w' g (bodyOn markB o) ∧ Keep X w' g from hob'.out X g _ h hX hg (by show 4 ≤ 1000; omega)))
    generalize bodyOn markB o = B at *
    generalize fullP o = F at *
    clear he hva hob v1 v2 v3 hv l2 l3 l4 hN hF HM hK
    by_cases hc : 262144 < F.length
    · rw [if_pos hc]
      have d1 : decide ((262144 : Int) < (F.length : Int)) = true := decide_eq_true (by omega)
      have d2 : decide (262144 < F.length) = true := decide_eq_true hc
      clear hc
      go_enter Try.func16, Try.ntmps16
      go_wp2_with (first | (go_at_call 14; refine (hva'.out _ hb0).mono ?_; rintro e w1 ⟨rfl, hb1⟩; have W0 := Lib.hid (WrIs.new w1 74 [])) | (go_at_call 33; refine (raw_any ⟨#[77, 79, 49, 10]⟩ W0.out (by show 0 + 4 ≤ _; omega)).mono ?_; rintro e w2 ⟨rfl, hW2, hK2⟩; have hb2 := (alloc_below w1 (.cells #[.slice none 0 0] 74)).trans (hK2.low W0.out (Nat.le_refl _)); have W2 := Lib.hid hW2; clear hW2 hK2; obtain ⟨e0, e1, e2, e3, e4, e5, e6, ez⟩ := box27_kept (bnext hb1 hb2)) | (go_at_call 34; refine (hob'.out w2 _ W2.out (bnext hb0 (bnext hb1 hb2)) (Nat.le_trans hb0.size hb1.size)).mono ?_; rintro e w3 ⟨rfl, hW3, hK3⟩; have hb3 := hb2.trans (hK3.low W2.out (Nat.le_refl _)); have W3 := Lib.hid hW3; clear hW3 hK3; obtain ⟨u3, hv3, ho3⟩ := W3.out.cell; obtain ⟨A7, c7, rfl⟩ := own_slice ho3) | (go_at_call 36; refine (sum_any B (own_C ho3).2 (by have := HL.out; omega) HA.out).mono ?_; rintro e w4 ⟨rfl, rfl⟩) | (go_at_call 35; refine (num_any (sumF B) W3.out (by have := HL.out; omega)).mono ?_; rintro e w5 ⟨rfl, hW5, hK5⟩; have hb5 := hb3.trans (hK5.low W3.out (Nat.le_refl _)); rw [HF.out] at hW5; clear hK5; obtain ⟨u5, hv5, ho5⟩ := hW5.cell; obtain ⟨A8, c8, rfl⟩ := own_slice ho5; clear hW5))
      go_ret2
      exact ⟨none, 0, rfl, World.ownsRow_nil _ _ _ _, bnext hb0 (bnext hb1 hb5)⟩
    · rw [if_neg hc]
      have d1 : decide ((262144 : Int) < (F.length : Int)) = false := decide_eq_false (by omega)
      have d2 : decide (262144 < F.length) = false := decide_eq_false hc
      clear hc
      go_enter Try.func16, Try.ntmps16
      go_wp2_with (first | (go_at_call 14; refine (hva'.out _ hb0).mono ?_; rintro e w1 ⟨rfl, hb1⟩; have W0 := Lib.hid (WrIs.new w1 74 [])) | (go_at_call 33; refine (raw_any ⟨#[77, 79, 49, 10]⟩ W0.out (by show 0 + 4 ≤ _; omega)).mono ?_; rintro e w2 ⟨rfl, hW2, hK2⟩; have hb2 := (alloc_below w1 (.cells #[.slice none 0 0] 74)).trans (hK2.low W0.out (Nat.le_refl _)); have W2 := Lib.hid hW2; clear hW2 hK2; obtain ⟨e0, e1, e2, e3, e4, e5, e6, ez⟩ := box27_kept (bnext hb1 hb2)) | (go_at_call 34; refine (hob'.out w2 _ W2.out (bnext hb0 (bnext hb1 hb2)) (Nat.le_trans hb0.size hb1.size)).mono ?_; rintro e w3 ⟨rfl, hW3, hK3⟩; have hb3 := hb2.trans (hK3.low W2.out (Nat.le_refl _)); have W3 := Lib.hid hW3; clear hW3 hK3; obtain ⟨u3, hv3, ho3⟩ := W3.out.cell; obtain ⟨A7, c7, rfl⟩ := own_slice ho3) | (go_at_call 36; refine (sum_any B (own_C ho3).2 (by have := HL.out; omega) HA.out).mono ?_; rintro e w4 ⟨rfl, rfl⟩) | (go_at_call 35; refine (num_any (sumF B) W3.out (by have := HL.out; omega)).mono ?_; rintro e w5 ⟨rfl, hW5, hK5⟩; have hb5 := hb3.trans (hK5.low W3.out (Nat.le_refl _)); rw [HF.out] at hW5; clear hK5; obtain ⟨u5, hv5, ho5⟩ := hW5.cell; obtain ⟨A8, c8, rfl⟩ := own_slice ho5; clear hW5))
      go_ret2
      exact ⟨A8, c8, rfl, own_low ho5 (by have := hb0.size; have := hb1.size; omega), bnext hb0 (bnext hb1 hb5)⟩
  · have he : encP o = ([], validP o) := if_neg hv
    rw [he]
    have hz : (validP o != 0) = true := bne_iff_ne.2 hv
    generalize validP o = er at *
    clear he hv l2 l3 l4 hK hob hF
    go_enter Try.func16, Try.ntmps16
    go_wp2_with (go_at_call 14; refine (hva.out _ hb0).mono ?_; rintro e w1 ⟨rfl, hb1⟩)
    go_ret2
    exact ⟨none, 0, rfl, World.ownsRow_nil _ _ _ _, bnext hb0 hb1⟩
end Go.Proofs.Ytnbgbmddkbneeaa.Obj

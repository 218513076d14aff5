/- An object's bytes: the document's walk. -/
import Derived.Test.YtnbgbmddkbneeaaB18
import Derived.Test.YtnbgbmddkbneeaaB7
set_option linter.unusedVariables false
set_option linter.unusedSimpArgs false
namespace Go.Proofs.Ytnbgbmddkbneeaa.Obj
open Go.RowKit Go.Proofs.YtnbgbmddkbneeaaW.PrintWords Go.Proofs.YtnbgbmddkbneeaaW.PrintMore Go.Proofs.Ytnbgbmddkbneeaa.PLinkWeak
def REncPost (o : S27) (w : World) (e : Ending) (w' : World) : Prop :=
  ∃ A c, e = .returned (.tuple #[.slice A (encP o).1.length c, .int .i64 (encP o).2]) ∧ w'.ownsRow w.heap.size 5 1 (.slice A (encP o).1.length c) (encP o).1.length (nums .u8 (encP o).1) ∧ Below w.heap.size w w'
theorem cap_fin {a b : List Int} (h : Cap a b) : Cap (numR a (sumF a)) (b ++ le8 (sumF b)) := by
  rcases h.2.2 with rfl | h2
  · exact h.num _
  · unfold numR
    rw [if_pos h2.1]
    exact h.full h2.1 _
set_option maxRecDepth 100000 in
set_option maxHeartbeats 4000000 in
theorem rencode_any (o : S27) (hF : Fine o) (l2' : o.f2.length ≤ 300000) (l3' : o.f3.length ≤ 300000) (l4' : o.f4.length ≤ 300000) {cs : List Value} {w : World} (hK : k27.K w o cs) :
    Calls Try.prog 17 #[.agg cs.toArray] w (EncPost o w) := by
  have hva := Lib.hid (fun (X : World) (hX : Below w.heap.size w X) => rvalid_any o hF (k27.K_below hX hK))
  obtain ⟨A2, c2, A3, c3, A4, c4, A5, c5, A6, c6, rfl, l2, g2, l3, g3, l4, g4, l5, g5, l6, g6⟩ := k27_open hK
  have hb0 : Below w.heap.size w (w.alloc (.cells #[.string o.f0, .int .i64 o.f1, .slice A2 o.f2.length c2, .slice A3 o.f3.length c3, .slice A4 o.f4.length c4, .slice A5 o.f5.length c5, .slice A6 o.f6.length c6] 27)) := alloc_below _ _
  unfold EncPost
  by_cases hv : validP o = 0
  · obtain ⟨v1, v2, v3⟩ := valid_zero hv
    have hN := ok_named o v1 l2' l3' l4' v2 v3
    have hva' := Lib.hid (fun (X : World) (hX : Below w.heap.size w X) => hv ▸ hva.out X hX)
    have he : encP o = if 262144 < (fullP o).length then ([], 2) else (fullP o, 0) := if_pos hv
    have hszs := Lib.hid hN
    have HB := Lib.hid hN.len
    rw [he]
    generalize hp : (if 262144 < (fullP o).length then (([], 2) : List Int × Int) else (fullP o, 0)) = pr
    have HP := Lib.hid hp
    clear hp
    clear he hva v1 v2 v3 hv l2' l3' l4' hN hK l2 l3 l4 l5 l6
    go_enter Try.func17, Try.ntmps17
    go_upto_region 5 with (go_at_call 15; refine (hva'.out _ hb0).mono ?_; rintro e w1 ⟨rfl, hb1⟩)
    have W9 : WrIs 81 tlR (w1.alloc (.cells #[.slice none 0 0, .bool false, .int .i64 0] 81)) w1.heap.size [] := WrIs.new w1 81 tlR
    have hbx := Lib.hid (fun X (k : Keep (w1.alloc (.cells #[.slice none 0 0, .bool false, .int .i64 0] 81)) X w1.heap.size) => box27_kept (bnext hb1 ((alloc_below w1 (.cells #[.slice none 0 0, .bool false, .int .i64 0] 81)).trans (k.low W9 (Nat.le_refl _)))))
    have hlow := Lib.hid (fun X (k : Keep (w1.alloc (.cells #[.slice none 0 0, .bool false, .int .i64 0] 81)) X w1.heap.size) => bnext hb0 (bnext hb1 ((alloc_below w1 (.cells #[.slice none 0 0, .bool false, .int .i64 0] 81)).trans (k.low W9 (Nat.le_refl _)))))
    have Hlt := Lib.hid (fun X (k : Keep (w1.alloc (.cells #[.slice none 0 0, .bool false, .int .i64 0] 81)) X w1.heap.size) => Nat.lt_of_lt_of_le W9.lt k.size)
    have Hg := Lib.hid (Nat.le_trans hb0.size hb1.size)
    have hv9 : (w1.alloc (.cells #[.slice none 0 0, .bool false, .int .i64 0] 81)).cell? ⟨w1.heap.size, 0, none⟩ = some (.slice none 0 0) := by simp
    obtain ⟨A', n', c', w2, hr, hW2, hK2, hf2, hl2, hv2⟩ := append_str ⟨#[77, 79, 49, 10]⟩ 34 W9 hv9 (Below.refl _ _) (by show 0 + 4 ≤ _; omega)
    have W0 := Lib.hid (show WrIs 81 tlR _ _ markB from hW2)
    have K0 := Lib.hid hK2
    have C0 := Lib.hid (show Cap markB markB from ⟨by decide, (fun b hb => by simp [markB] at hb; omega), .inl rfl⟩)
    have Hr := Lib.hid hr
    clear hW2 hK2 hr hva' hb0
    go_upto_region 6 with (refine wpList_app (o := ⟨some 21, _, _, _, _, _⟩) rfl (.tmp 20) (.const _) 34 9 rfl _ _ _ _ rfl rfl Hr.out ?_)
    clear Hr hv9 hf2 hl2 hv2 W9
    obtain ⟨e0, e1, e2, e3, e4, e5, e6, ez⟩ := hbx.out _ K0.out
    generalize w2.setCell ⟨w1.heap.size, 0, none⟩ (.slice A' n' c') = w3 at *
    generalize hwB : w1.alloc (.cells #[.slice none 0 0, .bool false, .int .i64 0] 81) = wB at *
    generalize w1.heap.size = g at *
    clear hwB hb1
    go_wp2_with (first | (go_at_call 39; refine (rimps_any (w0 := w) _ W0.out C0.out (hlow.out _ K0.out) Hg.out g2 (by have := HB.out; omega) hszs.out.imp).mono ?_; rintro e w1 ⟨rfl, a1, hc1, hW1, hK1⟩; have K0 := Lib.hid (K0.out.trans hK1); have W0 := Lib.hid hW1; have C0 := Lib.hid hc1; clear hW1 hc1 hK1; obtain ⟨e0, e1, e2, e3, e4, e5, e6, ez⟩ := hbx.out _ K0.out) | (first | (go_at_call 38; refine (rnum_any _ W0.out C0.out).mono ?_; rintro e w1 ⟨rfl, a1, hc1, hW1, hK1⟩; have K0 := Lib.hid (K0.out.trans hK1); have W0 := Lib.hid hW1; have C0 := Lib.hid hc1; clear hW1 hc1; obtain ⟨e0, e1, e2, e3, e4, e5, e6, ez⟩ := hbx.out _ K0.out; try clear hK1) | (go_at_call 37; refine (rtext_any _ W0.out C0.out (by first | exact hszs.out.pkg | exact HZ.out)).mono ?_; rintro e w1 ⟨rfl, a1, hc1, hW1, hK1⟩; have K0 := Lib.hid (K0.out.trans hK1); have W0 := Lib.hid hW1; have C0 := Lib.hid hc1; clear hW1 hc1; obtain ⟨e0, e1, e2, e3, e4, e5, e6, ez⟩ := hbx.out _ K0.out; try clear hK1) | (go_at_call 40; refine (rbool_any _ W0.out C0.out).mono ?_; rintro e w1 ⟨rfl, a1, hc1, hW1, hK1⟩; have K0 := Lib.hid (K0.out.trans hK1); have W0 := Lib.hid hW1; have C0 := Lib.hid hc1; clear hW1 hc1; obtain ⟨e0, e1, e2, e3, e4, e5, e6, ez⟩ := hbx.out _ K0.out; try clear hK1)))
    go_loopw [6] (fun i wr => ∃ k : Nat, k ≤ o.f3.length ∧ i = .int .i64 (k : Int) ∧ ∃ a2, Cap a2 ((markB ++ eText o.f0 ++ le8 o.f1 ++ le8 o.f2.length ++ o.f2.flatMap eImp) ++ le8 o.f3.length ++ (o.f3.take k).flatMap eSym) ∧ WrIs 81 tlR wr g a2 ∧ Keep wB wr g) (fun i _ => o.f3.length - (intOf i).toNat)
    case atStart => exact ⟨0, Nat.zero_le _, by go_num, _, by simpa using C0.out, W0.out, K0.out⟩
    case round =>
      obtain ⟨k, hk, rfl, a2, hC, hW, hK⟩ := hrel
      have K1 := Lib.hid hK
      have W1 := Lib.hid hW
      have C1 := Lib.hid hC
      clear hK hW hC
      obtain ⟨e0, e1, e2, e3, e4, e5, e6, ez⟩ := hbx.out _ K1.out
      by_cases hlt : k < o.f3.length
      · have p0 : (0 : Int) ≤ (k : Int) := by omega
        have p1 : (k : Int) < (o.f3.length : Int) := by omega
        have hm : (k : Int) < 9223372036854775807 := by have := HB.out; omega
        obtain ⟨ad, rfl, x0, x1, x2, x3, x4, x5⟩ := at_T51 (Kd.C_below g3 (hlow.out _ K1.out)) (k : Int) p0 p1
        have x9 := fun X (hX : Below w.heap.size w X) => at_T51 (Kd.C_below g3 hX) (k : Int) p0 p1
        have hfs := flat_succ eSym o.f3 k z51 hlt
        have hsz := hszs.out.sym _ (getD_mem (d := z51) hlt)
        rw [show rd_T51 o.f3 (k : Int) = o.f3.getD k z51 from rfl] at x0 x1 x2 x3 x4 x5 x9
        simp only [Int.toNat_natCast] at x0 x1 x2 x3 x4 x5 x9
        generalize o.f3.getD k z51 = y at *
        have Hf := Lib.hid hfs
        have HZ := Lib.hid hsz
        clear hfs hsz
        have HL := Lib.hid (Loc.mk' (w := wr) (g := g) W1.out (.cells #[.string y.f0, .int .i64 y.f1, .bool y.f2, .int .i64 y.f3, .int .i64 y.f4, .int .i64 y.f5] 51))
        have HL2 := Lib.hid (HL.out.start)
        have W1 := Lib.hid (W1.out.below (alloc_below wr (.cells #[.string y.f0, .int .i64 y.f1, .bool y.f2, .int .i64 y.f3, .int .i64 y.f4, .int .i64 y.f5] 51)))
        have K1 := Lib.hid (K1.out.trans (Keep.of_below (Hlt.out _ K1.out) (alloc_below wr (.cells #[.string y.f0, .int .i64 y.f1, .bool y.f2, .int .i64 y.f3, .int .i64 y.f4, .int .i64 y.f5] 51))))
        go_wp2_with (first | (go_at_call 38; refine (rnum_any _ W1.out C1.out).mono ?_; rintro e w1 ⟨rfl, a1, hc1, hW1, hK1⟩; have K1 := Lib.hid (K1.out.trans hK1); have W1 := Lib.hid hW1; have C1 := Lib.hid hc1; clear hW1 hc1; have HL2 := Lib.hid (HL2.out.trans hK1); obtain ⟨q0, q1, q2, q3, q4, q5⟩ := loc6 HL.out HL2.out; try clear hK1) | (go_at_call 37; refine (rtext_any _ W1.out C1.out (by first | exact hszs.out.pkg | exact HZ.out)).mono ?_; rintro e w1 ⟨rfl, a1, hc1, hW1, hK1⟩; have K1 := Lib.hid (K1.out.trans hK1); have W1 := Lib.hid hW1; have C1 := Lib.hid hc1; clear hW1 hc1; have HL2 := Lib.hid (HL2.out.trans hK1); obtain ⟨q0, q1, q2, q3, q4, q5⟩ := loc6 HL.out HL2.out; try clear hK1) | (go_at_call 40; refine (rbool_any _ W1.out C1.out).mono ?_; rintro e w1 ⟨rfl, a1, hc1, hW1, hK1⟩; have K1 := Lib.hid (K1.out.trans hK1); have W1 := Lib.hid hW1; have C1 := Lib.hid hc1; clear hW1 hc1; have HL2 := Lib.hid (HL2.out.trans hK1); obtain ⟨q0, q1, q2, q3, q4, q5⟩ := loc6 HL.out HL2.out; try clear hK1))
        go_roundw
        case rel => exact ⟨k + 1, by omega, by go_num, _, by have := C1.out; rw [Hf.out, show eSym y = eText y.f0 ++ le8 y.f1 ++ eBool y.f2 ++ le8 y.f3 ++ le8 y.f4 ++ le8 y.f5 from rfl]; simpa only [List.append_assoc] using this, W1.out, K1.out⟩
        case measure => simp [intOf]; omega
      · obtain rfl : k = o.f3.length := by omega
        rw [List.take_length] at C1
        go_wp2_with (first | (go_at_call 38; refine (rnum_any _ W1.out C1.out).mono ?_; rintro e w1 ⟨rfl, a1, hc1, hW1, hK1⟩; have K1 := Lib.hid (K1.out.trans hK1); have W1 := Lib.hid hW1; have C1 := Lib.hid hc1; clear hW1 hc1; obtain ⟨e0, e1, e2, e3, e4, e5, e6, ez⟩ := hbx.out _ K1.out; try clear hK1) | (go_at_call 37; refine (rtext_any _ W1.out C1.out (by first | exact hszs.out.pkg | exact HZ.out)).mono ?_; rintro e w1 ⟨rfl, a1, hc1, hW1, hK1⟩; have K1 := Lib.hid (K1.out.trans hK1); have W1 := Lib.hid hW1; have C1 := Lib.hid hc1; clear hW1 hc1; obtain ⟨e0, e1, e2, e3, e4, e5, e6, ez⟩ := hbx.out _ K1.out; try clear hK1) | (go_at_call 40; refine (rbool_any _ W1.out C1.out).mono ?_; rintro e w1 ⟨rfl, a1, hc1, hW1, hK1⟩; have K1 := Lib.hid (K1.out.trans hK1); have W1 := Lib.hid hW1; have C1 := Lib.hid hc1; clear hW1 hc1; obtain ⟨e0, e1, e2, e3, e4, e5, e6, ez⟩ := hbx.out _ K1.out; try clear hK1))
        go_loopw [8] (fun i wr => ∃ k : Nat, k ≤ o.f4.length ∧ i = .int .i64 (k : Int) ∧ ∃ a2, Cap a2 (((markB ++ eText o.f0 ++ le8 o.f1 ++ le8 o.f2.length ++ o.f2.flatMap eImp) ++ le8 o.f3.length ++ o.f3.flatMap eSym) ++ le8 o.f4.length ++ (o.f4.take k).flatMap eRel) ∧ WrIs 81 tlR wr g a2 ∧ Keep wB wr g) (fun i _ => o.f4.length - (intOf i).toNat)
        case atStart => exact ⟨0, Nat.zero_le _, by go_num, _, by simpa using C1.out, W1.out, K1.out⟩
        case round =>
          obtain ⟨k, hk, rfl, a2, hC, hW, hK⟩ := hrel
          have K2 := Lib.hid hK
          have W2 := Lib.hid hW
          have C2 := Lib.hid hC
          clear hK hW hC
          obtain ⟨e0, e1, e2, e3, e4, e5, e6, ez⟩ := hbx.out _ K2.out
          by_cases hlt : k < o.f4.length
          · have p0 : (0 : Int) ≤ (k : Int) := by omega
            have p1 : (k : Int) < (o.f4.length : Int) := by omega
            have hm : (k : Int) < 9223372036854775807 := by have := HB.out; omega
            obtain ⟨ad, rfl, x0, x1, x2⟩ := at_T64 (Kd.C_below g4 (hlow.out _ K2.out)) (k : Int) p0 p1
            have x9 := fun X (hX : Below w.heap.size w X) => at_T64 (Kd.C_below g4 hX) (k : Int) p0 p1
            have hfs := flat_succ eRel o.f4 k z64 hlt
            have hsz := hszs.out.rel _ (getD_mem (d := z64) hlt)
            rw [show rd_T64 o.f4 (k : Int) = o.f4.getD k z64 from rfl] at x0 x1 x2 x9
            simp only [Int.toNat_natCast] at x0 x1 x2 x9
            generalize o.f4.getD k z64 = y at *
            have Hf := Lib.hid hfs
            have HZ := Lib.hid hsz
            clear hfs hsz
            have HX := Lib.hid x9
            go_wp2_with (first | (go_at_call 38; refine (rnum_any _ W2.out C2.out).mono ?_; rintro e w1 ⟨rfl, a1, hc1, hW1, hK1⟩; have K2 := Lib.hid (K2.out.trans hK1); have W2 := Lib.hid hW1; have C2 := Lib.hid hc1; clear hW1 hc1; obtain ⟨e0, e1, e2, e3, e4, e5, e6, ez⟩ := hbx.out _ K2.out; obtain ⟨ad', hA, x0, x1, x2⟩ := HX.out _ (hlow.out _ K2.out); cases hA; try clear hK1) | (go_at_call 37; refine (rtext_any _ W2.out C2.out (by first | exact hszs.out.pkg | exact HZ.out)).mono ?_; rintro e w1 ⟨rfl, a1, hc1, hW1, hK1⟩; have K2 := Lib.hid (K2.out.trans hK1); have W2 := Lib.hid hW1; have C2 := Lib.hid hc1; clear hW1 hc1; obtain ⟨e0, e1, e2, e3, e4, e5, e6, ez⟩ := hbx.out _ K2.out; obtain ⟨ad', hA, x0, x1, x2⟩ := HX.out _ (hlow.out _ K2.out); cases hA; try clear hK1) | (go_at_call 40; refine (rbool_any _ W2.out C2.out).mono ?_; rintro e w1 ⟨rfl, a1, hc1, hW1, hK1⟩; have K2 := Lib.hid (K2.out.trans hK1); have W2 := Lib.hid hW1; have C2 := Lib.hid hc1; clear hW1 hc1; obtain ⟨e0, e1, e2, e3, e4, e5, e6, ez⟩ := hbx.out _ K2.out; obtain ⟨ad', hA, x0, x1, x2⟩ := HX.out _ (hlow.out _ K2.out); cases hA; try clear hK1))
            go_roundw
            case rel => exact ⟨k + 1, by omega, by go_num, _, by have := C2.out; rw [Hf.out, show eRel y = eBool y.f0 ++ le8 y.f1 ++ eText y.f2 from rfl]; simpa only [List.append_assoc] using this, W2.out, K2.out⟩
            case measure => simp [intOf]; omega
          · obtain rfl : k = o.f4.length := by omega
            rw [List.take_length] at C2
            go_upto_region 28 with (go_at_call 41; refine (rwords_any (w0 := w) _ W2.out C2.out (hlow.out _ K2.out) Hg.out g5 (by have := HB.out; omega)).mono ?_; rintro e w1 ⟨rfl, a1, hc1, hW1, hK1⟩; have K2 := Lib.hid (K2.out.trans hK1); have W2 := Lib.hid hW1; have C2 := Lib.hid hc1; clear hW1 hc1 hK1; obtain ⟨e0, e1, e2, e3, e4, e5, e6, ez⟩ := hbx.out _ K2.out)
            go_upto_region 29 with (go_at_call 41; refine (rwords_any (w0 := w) _ W2.out C2.out (hlow.out _ K2.out) Hg.out g6 (by have := HB.out; omega)).mono ?_; rintro e w1 ⟨rfl, a1, hc1, hW1, hK1⟩; have K2 := Lib.hid (K2.out.trans hK1); have W2 := Lib.hid hW1; have C2 := Lib.hid hc1; clear hW1 hc1 hK1; obtain ⟨e0, e1, e2, e3, e4, e5, e6, ez⟩ := hbx.out _ K2.out)
            have hfin := cap_fin (show Cap a1 (bodyOn markB o) from C2.out)
            rw [show bodyOn markB o ++ le8 (sumF (bodyOn markB o)) = fullP o from rfl] at hfin
            have hnu := Lib.hid (rnum_eq (sumF a1) W2.out C2.out.1)
            obtain ⟨v3, hv3, ho3⟩ := W2.out.cell
            obtain ⟨A7, c7, rfl⟩ := own_slice ho3
            have hsu := Lib.hid (rsum_any a1 (c := c7) (own_C ho3).2 (by have := C2.out.1; omega) C2.out.2.1)
            clear ho3
            generalize fullP o = F at *
            generalize numR a1 (sumF a1) = a9 at *
            generalize sumF a1 = sm at *
            by_cases hf : 262144 < a9.length
            · have hff : 262144 < F.length := by rcases hfin.2.2 with h2 | h2 <;> (try subst h2) <;> omega
              have hfu := Lib.hid (fun X (h : WrIs 81 tlR X g a9) => decide_eq_true hf ▸ full_any h hfin.1)
              obtain rfl := HP.out.symm.trans (if_pos hff)
              clear hf hff hfin HP
              go_wp2_with (first | (go_at_call 42; refine hsu.out.mono ?_; rintro e w4 ⟨rfl, rfl⟩) | (go_at_call 38; refine hnu.out.mono ?_; rintro e w5 ⟨rfl, hW5, hK5⟩; have HW5 := Lib.hid hW5; have HK5 := Lib.hid hK5; clear hW5 hK5; obtain ⟨v5, hv5, ho5⟩ := HW5.out.cell; obtain ⟨A9, c9, rfl⟩ := own_slice ho5; have HO5 := Lib.hid ho5; clear ho5) | (go_at_call 43; refine (hfu.out _ HW5.out).mono ?_; rintro e w6 ⟨rfl, rfl⟩))
              go_ret2
              exact ⟨none, 0, rfl, World.ownsRow_nil _ _ _ _, hlow.out _ (K2.out.trans HK5.out)⟩
            · have hff : a9 = F := by rcases hfin.2.2 with h2 | h2 <;> first | exact h2 | omega
              subst hff
              have hfu := Lib.hid (fun X (h : WrIs 81 tlR X g a9) => decide_eq_false hf ▸ full_any h hfin.1)
              obtain rfl := HP.out.symm.trans (if_neg hf)
              clear hf hfin HP
              go_wp2_with (first | (go_at_call 42; refine hsu.out.mono ?_; rintro e w4 ⟨rfl, rfl⟩) | (go_at_call 38; refine hnu.out.mono ?_; rintro e w5 ⟨rfl, hW5, hK5⟩; have HW5 := Lib.hid hW5; have HK5 := Lib.hid hK5; clear hW5 hK5; obtain ⟨v5, hv5, ho5⟩ := HW5.out.cell; obtain ⟨A9, c9, rfl⟩ := own_slice ho5; have HO5 := Lib.hid ho5; clear ho5) | (go_at_call 43; refine (hfu.out _ HW5.out).mono ?_; rintro e w6 ⟨rfl, rfl⟩))
              go_ret2
              exact ⟨A9, c9, rfl, own_low HO5.out (by have := Hg.out; omega), hlow.out _ (K2.out.trans HK5.out)⟩
  · have he : encP o = ([], validP o) := if_neg hv
    rw [he]
    have hz : (validP o != 0) = true := bne_iff_ne.2 hv
    generalize validP o = er at *
    clear he hv l2' l3' l4' hK hF g2 g3 g4 g5 g6
    go_enter Try.func17, Try.ntmps17
    go_wp2_with (go_at_call 15; refine (hva.out _ hb0).mono ?_; rintro e w1 ⟨rfl, hb1⟩)
    go_ret2
    exact ⟨none, 0, rfl, World.ownsRow_nil _ _ _ _, bnext hb0 hb1⟩
end Go.Proofs.Ytnbgbmddkbneeaa.Obj

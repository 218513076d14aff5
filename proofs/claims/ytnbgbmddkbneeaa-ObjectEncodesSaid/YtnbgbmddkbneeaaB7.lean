/- Which objects may be: the document's walk. -/
import Derived.Test.YtnbgbmddkbneeaaB5
set_option linter.unusedVariables false
set_option linter.unusedSimpArgs false
namespace Go.Proofs.Ytnbgbmddkbneeaa.Obj
open Go.RowKit Go.Proofs.YtnbgbmddkbneeaaW.PrintWords Go.Proofs.YtnbgbmddkbneeaaW.PrintMore Go.Proofs.Ytnbgbmddkbneeaa.PLinkWeak
section
variable {α : Type} [DecidableEq α]
def freshTo (ks : List α) (d : α) (k j : Nat) : Bool := (ks.take j).all fun t => !decide (t = ks.getD k d)
theorem fresh_to (ks : List α) (d : α) (k : Nat) : fresh ks d k = freshTo ks d k k := rfl
theorem freshTo_succ (ks : List α) (d : α) (k j : Nat) (h : j < ks.length) : freshTo ks d k (j + 1) = (freshTo ks d k j && !decide (ks.getD j d = ks.getD k d)) := by
  have e : ks.getD j d = ks[j] := by simp [List.getD_eq_getElem?_getD, h]
  unfold freshTo
  rw [List.take_succ_eq_append_getElem h, List.all_append, e]
  simp
theorem acc_off (ks : List α) (d : α) (q : Nat → Bool) (b : Bool) {k : Nat} (h : acc ks d q b k = false) : ∀ m, k ≤ m → acc ks d q b m = false
  | 0, hm => by obtain rfl : k = 0 := by omega
                exact h
  | m + 1, hm => by
    by_cases e : k = m + 1
    · subst e; exact h
    · unfold acc; rw [acc_off ks d q b h m (by omega)]; rfl
end
theorem accI_off (o : S27) {k : Nat} (h : accI o k = false) (hk : k ≤ o.f2.length) : accI o o.f2.length = false := acc_off _ _ _ _ h _ hk
theorem accS_off (o : S27) {k : Nat} (h : accS o k = false) (hk : k ≤ o.f3.length) : accS o o.f3.length = false := acc_off _ _ _ _ h _ hk
theorem accR_off (o : S27) {k : Nat} (h : accR o k = false) (hk : k ≤ o.f4.length) : accR o o.f4.length = false := acc_off _ _ _ _ h _ hk
set_option maxHeartbeats 1500000 in
set_option maxRecDepth 100000 in
theorem rvalid_any (o : S27) (hF : Fine o) {cs : List Value} {w : World} (hK : k27.K w o cs) :
    Calls Try.prog 15 #[.agg cs.toArray] w fun e w' => e = .returned (.int .i64 (validP o)) ∧ Below w.heap.size w w' := by
  have hsym := fun (s : S51) (X : World) (hX : Below w.heap.size w X) => symbol_any s o (k27.K_below hX hK) (by have := hF.len; omega) (by have := hF.len; omega)
  have hrel' := fun (s : S64) (X : World) (hX : Below w.heap.size w X) => reloc_any s o (k27.K_below hX hK) (by have := hF.len; omega) (by have := hF.len; omega) hF.code
  obtain ⟨A2, c2, A3, c3, A4, c4, A5, c5, A6, c6, rfl, l2, g2, l3, g3, l4, g4, l5, g5, l6, g6⟩ := k27_open hK
  have hb0 : Below w.heap.size w (w.alloc (.cells #[.string o.f0, .int .i64 o.f1, .slice A2 o.f2.length c2, .slice A3 o.f3.length c3, .slice A4 o.f4.length c4, .slice A5 o.f5.length c5, .slice A6 o.f6.length c6] 27)) := alloc_below _ _
  have hlen := hF.len
  unfold validP
  by_cases c0 : 65536 < o.f5.length
  · rw [if_pos (.inl c0)]
    have d0 : decide ((65536 : Int) < (o.f5.length : Int)) = true := decide_eq_true (by omega)
    have d0' : decide (65536 < o.f5.length) = true := decide_eq_true c0
    clear hsym hrel' hK g2 g3 g4 g5 g6 l2 l3 l4 l5 l6 c0
    go_enter Try.func15, Try.ntmps15
    go_wp2
    go_ret
    exact ⟨rfl, hb0⟩
  have d0 : decide ((65536 : Int) < (o.f5.length : Int)) = false := decide_eq_false (by omega)
  have d0' : decide (65536 < o.f5.length) = false := decide_eq_false c0
  by_cases c1 : 16384 < o.f6.length
  · rw [if_pos (.inr c1)]
    have d1 : decide ((16384 : Int) < (o.f6.length : Int)) = true := decide_eq_true (by omega)
    have d1' : decide (16384 < o.f6.length) = true := decide_eq_true c1
    clear hsym hrel' hK g2 g3 g4 g5 g6 l2 l3 l4 l5 l6 c0 c1
    go_enter Try.func15, Try.ntmps15
    go_wp2
    go_ret
    exact ⟨rfl, hb0⟩
  have d1 : decide ((16384 : Int) < (o.f6.length : Int)) = false := decide_eq_false (by omega)
  have d1' : decide (16384 < o.f6.length) = false := decide_eq_false c1
  rw [if_neg (by omega)]
  clear c0 c1 hK l2 l3 l4 l5 l6
  have HQ := Lib.hid (show accR o o.f4.length = okP o from rfl)
  generalize okP o = res at HQ ⊢
  obtain ⟨R, hR⟩ : ∃ R : World → Prop, ∀ X, R X ↔ Below (w.alloc (.cells #[.string o.f0, .int .i64 o.f1, .slice A2 o.f2.length c2, .slice A3 o.f3.length c3, .slice A4 o.f4.length c4, .slice A5 o.f5.length c5, .slice A6 o.f6.length c6] 27)).heap.size (w.alloc (.cells #[.string o.f0, .int .i64 o.f1, .slice A2 o.f2.length c2, .slice A3 o.f3.length c3, .slice A4 o.f4.length c4, .slice A5 o.f5.length c5, .slice A6 o.f6.length c6] 27)) X := ⟨fun X => Below (w.alloc (.cells #[.string o.f0, .int .i64 o.f1, .slice A2 o.f2.length c2, .slice A3 o.f3.length c3, .slice A4 o.f4.length c4, .slice A5 o.f5.length c5, .slice A6 o.f6.length c6] 27)).heap.size (w.alloc (.cells #[.string o.f0, .int .i64 o.f1, .slice A2 o.f2.length c2, .slice A3 o.f3.length c3, .slice A4 o.f4.length c4, .slice A5 o.f5.length c5, .slice A6 o.f6.length c6] 27)) X, fun _ => Iff.rfl⟩
  have rC := Lib.hid (fun X (h : R X) => box27_kept ((hR X).1 h))
  have rW := Lib.hid (fun X (h : R X) => bnext hb0 ((hR X).1 h))
  have rN := Lib.hid (fun X Y (h : R X) (k : Below X.heap.size X Y) => (hR Y).2 (((hR X).1 h).trans (k.mono ((hR X).1 h).size)))
  have r0 := Lib.hid (fun n => (hR ((w.alloc (.cells #[.string o.f0, .int .i64 o.f1, .slice A2 o.f2.length c2, .slice A3 o.f3.length c3, .slice A4 o.f4.length c4, .slice A5 o.f5.length c5, .slice A6 o.f6.length c6] 27)).drewN n)).2 (pw_below_drewN (Below.refl _ _) n))
  clear hR
  go_enter Try.func15, Try.ntmps15
  go_upto_block 0 with (go_at_call 30; refine (rname_any _ _).mono ?_; rintro e w1 ⟨rfl, ⟨q1, rfl⟩⟩)
  go_cut [3] (fun okv wc => okv = .bool (accI o o.f2.length) ∧ R wc)
  case first =>
    go_wp2
    go_loopw [3, 4] (fun okv i wr => ∃ k : Nat, k ≤ o.f2.length ∧ i = .int .i64 (k : Int) ∧ okv = .bool (accI o k) ∧ R wr) (fun _ i _ => o.f2.length - (intOf i).toNat)
    case atStart => exact ⟨0, Nat.zero_le _, by go_num, rfl, r0.out _⟩
    case round =>
      obtain ⟨k, hk, rfl, rfl, hbr⟩ := hrel
      have hbz : Below w.heap.size w wr := rW.out _ hbr
      obtain ⟨e0, e1, e2, e3, e4, e5, e6, ez⟩ := rC.out _ hbr
      by_cases hlt : k < o.f2.length
      · have p0 : (0 : Int) ≤ (k : Int) := by omega
        have p1 : (k : Int) < (o.f2.length : Int) := by omega
        have p2 : decide ((k : Int) < (o.f2.length : Int)) = true := decide_eq_true p1
        by_cases hok : accI o k = true
        · obtain ⟨ad, rfl, x0, x1⟩ := at_T44 (Kd.C_below g2 hbz) (k : Int) p0 p1
          have hrd : rd_T44 o.f2 (k : Int) = o.f2.getD k z44 := rfl
          rw [hrd] at x0  x1
          simp only [Int.toNat_natCast] at x0  x1
          have hkk : (o.f2.map S44.f0).getD k ⟨#[]⟩ = S44.f0 (o.f2.getD k z44) := getD_map S44.f0 o.f2 k z44
          have hac : accI o (k + 1) = (accI o k && (nm (o.f2.getD k z44).f0 && fresh (o.f2.map S44.f0) ⟨#[]⟩ k)) := rfl
          generalize hy : o.f2.getD k z44 = y at *
          have Hac := Lib.hid hac
          have Hkk := Lib.hid hkk
          have Hy := Lib.hid hy
          clear hy hkk hac hrd
          have hnm := fun X => rname_any y.f0 X
          generalize hbn : nm y.f0 = b at *
          clear hbn
          rw [hok]
          have Hok := Lib.hid hok
          clear hok
          go_wp2_with (go_at_call 30; refine (hnm _).mono ?_; rintro e w1 ⟨rfl, ⟨q2, rfl⟩⟩)
          have hbD : R (wr.drewN q2) := rN.out _ _ hbr (pw_below_drewN (Below.refl _ _) _)
          go_loopw [3, 5] (fun okv i wr => ∃ j : Nat, j ≤ k ∧ i = .int .i64 (j : Int) ∧ okv = .bool (b && freshTo (o.f2.map S44.f0) ⟨#[]⟩ k j) ∧ R wr) (fun _ i _ => k - (intOf i).toNat)
          case atStart => exact ⟨0, Nat.zero_le _, by go_num, by simp [freshTo], hbD⟩
          case round =>
            clear hbD
            obtain ⟨j, hj, rfl, rfl, hbr2⟩ := hrel
            have hbz2 : Below w.heap.size w wr := rW.out _ hbr2
            obtain ⟨e0, e1, e2, e3, e4, e5, e6, ez⟩ := rC.out _ hbr2
            by_cases hjl : j < k
            · have q0 : (0 : Int) ≤ (j : Int) := by omega
              have q1 : (j : Int) < (o.f2.length : Int) := by omega
              have q2' : decide ((j : Int) < (k : Int)) = true := decide_eq_true (by omega)
              obtain ⟨ad2, hA2, z0, z1⟩ := at_T44 (Kd.C_below g2 hbz2) (j : Int) q0 q1
              cases hA2
              obtain ⟨ad3, hA3, t0, t1⟩ := at_T44 (Kd.C_below g2 hbz2) (k : Int) p0 p1
              cases hA3
              rw [show rd_T44 o.f2 (j : Int) = o.f2.getD j z44 from rfl] at z0 z1
              rw [show rd_T44 o.f2 (k : Int) = o.f2.getD k z44 from rfl, Hy.out] at t0 t1
              simp only [Int.toNat_natCast] at z0 t0 z1 t1
              generalize hbb : (b && freshTo (o.f2.map S44.f0) ⟨#[]⟩ k j) = bb at *
              have Hb := Lib.hid hbb
              clear hbb
              have hkj : (o.f2.map S44.f0).getD j ⟨#[]⟩ = (o.f2.getD j z44).f0 := getD_map S44.f0 o.f2 j z44
              have Hkj := Lib.hid hkj
              clear hkj
              generalize o.f2.getD j z44 = yj at *
              generalize yj.f0 = sj at *
              generalize y.f0 = sk at *
              cases bb
              · go_wp2
                go_quiet (fail)
                go_wp2
                go_roundw
                case rel => exact ⟨j + 1, by omega, by go_num, by rw [freshTo_succ (o.f2.map S44.f0) ⟨#[]⟩ k j (by simpa using (show j < o.f2.length by omega)), ← Bool.and_assoc, Hb.out]; rfl, rN.out _ _ hbr2 (pw_below_drewN (Below.refl _ _) _)⟩
                case measure => simp [intOf]; omega
                
              · by_cases hjk : sj = sk
                · have hq : (sj.toList == sk.toList) = true := by rw [hjk]; simp
                  have Hjk := Lib.hid hjk
                  clear hjk
                  go_wp2
                  go_quiet (fail)
                  go_wp2
                  go_roundw
                  case rel => exact ⟨j + 1, by omega, by go_num, by rw [freshTo_succ (o.f2.map S44.f0) ⟨#[]⟩ k j (by simpa using (show j < o.f2.length by omega)), ← Bool.and_assoc, Hb.out, Hkj.out, Hkk.out]; simp [Hjk.out], rN.out _ _ hbr2 (pw_below_drewN (Below.refl _ _) _)⟩
                  case measure => simp [intOf]; omega
                  
                · have hq : (sj.toList == sk.toList) = false := by rw [beq_eq_false_iff_ne, ByteArray.toList_eq, ByteArray.toList_eq]; exact fun e => hjk (ByteArray.ext (Array.ext' e))
                  have Hjk := Lib.hid hjk
                  clear hjk
                  go_wp2
                  go_quiet (fail)
                  go_wp2
                  go_roundw
                  case rel => exact ⟨j + 1, by omega, by go_num, by rw [freshTo_succ (o.f2.map S44.f0) ⟨#[]⟩ k j (by simpa using (show j < o.f2.length by omega)), ← Bool.and_assoc, Hb.out, Hkj.out, Hkk.out]; simp [Hjk.out], rN.out _ _ hbr2 (pw_below_drewN (Below.refl _ _) _)⟩
                  case measure => simp [intOf]; omega
                  
            · obtain rfl : j = k := by omega
              have q2' : decide ((j : Int) < (j : Int)) = false := decide_eq_false (by omega)
              go_wp2
              go_roundw
              case rel => exact ⟨j + 1, by omega, by go_num, by rw [Hac.out, Hok.out, fresh_to]; simp, hbr2⟩
              case measure => simp [intOf]; omega
        · have hoff : accI o k = false := by simpa using hok
          have hend := accI_off o hoff hk
          rw [hoff]
          clear hok hoff
          go_wp2
          go_meet
          case rel => exact ⟨by rw [hend], hbr⟩
      · obtain rfl : k = o.f2.length := by omega
        have p2 : decide ((o.f2.length : Int) < (o.f2.length : Int)) = false := decide_eq_false (by omega)
        go_wp2
        go_meet
        case rel => exact ⟨rfl, hbr⟩
  obtain ⟨rfl, hbc⟩ := hcut
  go_upto_block 4 with (fail)
  go_cut [3] (fun okv wc => okv = .bool (accS o o.f3.length) ∧ R wc)
  case first =>
    go_wp2
    go_loopw [3, 6] (fun okv i wr => ∃ k : Nat, k ≤ o.f3.length ∧ i = .int .i64 (k : Int) ∧ okv = .bool (accS o k) ∧ R wr) (fun _ i _ => o.f3.length - (intOf i).toNat)
    case atStart => exact ⟨0, Nat.zero_le _, by go_num, rfl, hbc⟩
    case round =>
      obtain ⟨k, hk, rfl, rfl, hbr⟩ := hrel
      have hbz : Below w.heap.size w wr := rW.out _ hbr
      obtain ⟨e0, e1, e2, e3, e4, e5, e6, ez⟩ := rC.out _ hbr
      by_cases hlt : k < o.f3.length
      · have p0 : (0 : Int) ≤ (k : Int) := by omega
        have p1 : (k : Int) < (o.f3.length : Int) := by omega
        have p2 : decide ((k : Int) < (o.f3.length : Int)) = true := decide_eq_true p1
        by_cases hok : accS o k = true
        · obtain ⟨ad, rfl, x0, x1, x2, x3, x4, x5⟩ := at_T51 (Kd.C_below g3 hbz) (k : Int) p0 p1
          have hrd : rd_T51 o.f3 (k : Int) = o.f3.getD k z51 := rfl
          rw [hrd] at x0  x1  x2  x3  x4  x5
          simp only [Int.toNat_natCast] at x0  x1  x2  x3  x4  x5
          have hkk : (o.f3.map S51.f0).getD k ⟨#[]⟩ = S51.f0 (o.f3.getD k z51) := getD_map S51.f0 o.f3 k z51
          have hac : accS o (k + 1) = (accS o k && ((nm (o.f3.getD k z51).f0 && liesP (o.f3.getD k z51) o.f5.length o.f6.length) && fresh (o.f3.map S51.f0) ⟨#[]⟩ k)) := rfl
          generalize hy : o.f3.getD k z51 = y at *
          have Hac := Lib.hid hac
          have Hkk := Lib.hid hkk
          have Hy := Lib.hid hy
          clear hy hkk hac hrd
          have hsy := fun X (hX : Below w.heap.size w X) => hsym y X hX
          generalize hbn : (nm y.f0 && liesP y o.f5.length o.f6.length) = b at *
          clear hbn
          rw [hok]
          have Hok := Lib.hid hok
          clear hok
          go_wp2
          refine region_tree2 (fun W w' => Below W.heap.size W w') (.read 0 (.read 1 (.read 2 (.read 3 (.read 4 (.read 5 (.turn 6 .done))))))) 7
            (fun a W a' w' => Below W.heap.size W w' ∧ a' = (((((((a.put (some 71) (.agg #[.string o.f0, .int .i64 o.f1, .slice A2 o.f2.length c2, .slice (some ad) o.f3.length c3, .slice A4 o.f4.length c4, .slice A5 o.f5.length c5, .slice A6 o.f6.length c6])).put (some 72) (.pointer (some ⟨w.heap.size, 3, none⟩))).put (some 73) (.slice (some ad) o.f3.length c3)).put (some 74) (.int .i64 (k : Int))).put (some 75) (.pointer (some (ad.add (k * 6))))).put (some 76) (.agg #[.string y.f0, .int .i64 y.f1, .bool y.f2, .int .i64 y.f3, .int .i64 y.f4, .int .i64 y.f5])).put (some 77) (.bool b))) mixed (by kernel_rfl) (Below.refl _ _) ?_ ?_
          refine tree_read (some 71) (.agg #[.string o.f0, .int .i64 o.f1, .slice A2 o.f2.length c2, .slice (some ad) o.f3.length c3, .slice A4 o.f4.length c4, .slice A5 o.f5.length c5, .slice A6 o.f6.length c6]) rfl rfl (fun _ _ _ h => h) (by kernel_rfl) ?yy20 ?_
          case yy20 => intro w' hS; obtain ⟨e0, e1, e2, e3, e4, e5, e6, ez⟩ := rC.out _ (rN.out _ _ hbr (of_drew hS)); go_simp <;> first | rfl | simp
          refine tree_read (some 72) (.pointer (some ⟨w.heap.size, 3, none⟩)) rfl rfl (fun _ _ _ h => h) (by kernel_rfl) ?yy21 ?_
          case yy21 => intro w' hS; go_simp <;> first | rfl | simp
          refine tree_read (some 73) (.slice (some ad) o.f3.length c3) rfl rfl (fun _ _ _ h => h) (by kernel_rfl) ?yy22 ?_
          case yy22 => intro w' hS; obtain ⟨e0, e1, e2, e3, e4, e5, e6, ez⟩ := rC.out _ (rN.out _ _ hbr (of_drew hS)); go_simp <;> first | rfl | simp
          refine tree_read (some 74) (.int .i64 (k : Int)) rfl rfl (fun _ _ _ h => h) (by kernel_rfl) ?yy23 ?_
          case yy23 => intro w' hS; go_simp <;> first | rfl | simp
          refine tree_read (some 75) (.pointer (some (ad.add (k * 6)))) rfl rfl (fun _ _ _ h => h) (by kernel_rfl) ?yy24 ?_
          case yy24 => intro w' hS; go_simp <;> first | rfl | simp
          refine tree_read (some 76) (.agg #[.string y.f0, .int .i64 y.f1, .bool y.f2, .int .i64 y.f3, .int .i64 y.f4, .int .i64 y.f5]) rfl rfl (fun _ _ _ h => h) (by kernel_rfl) ?yy25 ?_
          case yy25 => intro w' hS; obtain ⟨ad', hA, x0, x1, x2, x3, x4, x5⟩ := at_T51 (Kd.C_below g3 (bnext hbz (of_drew hS))) (k : Int) p0 p1; cases hA; rw [show rd_T51 o.f3 (k : Int) = o.f3.getD k z51 from rfl, Hy.out] at x0  x1  x2  x3  x4  x5; simp only [Int.toNat_natCast] at x0  x1  x2  x3  x4  x5; go_simp <;> first | rfl | simp
          refine tree_turn rfl rfl (fun K hK => ?_)
          go_simp
          refine (hsy _ (bnext hbz (Below.refl _ _).drew)).mono ?_
          rintro e v1 ⟨rfl, hb1⟩
          go_simp
          refine hK _ _ hb1 (fun _ => ?_)
          clear hK K
          exact tree_done ⟨hb1, by kernel_rfl⟩
          rintro a' w6 ⟨hbC, rfl⟩
          simp only [List.drop_succ_cons, List.drop_zero]
          go_simp
          go_wp2
          have hbD : R w6 := rN.out _ _ hbr (of_drew hbC)
          go_loopw [3, 7] (fun okv i wr => ∃ j : Nat, j ≤ k ∧ i = .int .i64 (j : Int) ∧ okv = .bool (b && freshTo (o.f3.map S51.f0) ⟨#[]⟩ k j) ∧ R wr) (fun _ i _ => k - (intOf i).toNat)
          case atStart => exact ⟨0, Nat.zero_le _, by go_num, by simp [freshTo], hbD⟩
          case round =>
            clear hbD
            obtain ⟨j, hj, rfl, rfl, hbr2⟩ := hrel
            have hbz2 : Below w.heap.size w wr := rW.out _ hbr2
            obtain ⟨e0, e1, e2, e3, e4, e5, e6, ez⟩ := rC.out _ hbr2
            by_cases hjl : j < k
            · have q0 : (0 : Int) ≤ (j : Int) := by omega
              have q1 : (j : Int) < (o.f3.length : Int) := by omega
              have q2' : decide ((j : Int) < (k : Int)) = true := decide_eq_true (by omega)
              obtain ⟨ad2, hA2, z0, z1, z2, z3, z4, z5⟩ := at_T51 (Kd.C_below g3 hbz2) (j : Int) q0 q1
              cases hA2
              obtain ⟨ad3, hA3, t0, t1, t2, t3, t4, t5⟩ := at_T51 (Kd.C_below g3 hbz2) (k : Int) p0 p1
              cases hA3
              rw [show rd_T51 o.f3 (j : Int) = o.f3.getD j z51 from rfl] at z0 z1 z2 z3 z4 z5
              rw [show rd_T51 o.f3 (k : Int) = o.f3.getD k z51 from rfl, Hy.out] at t0 t1 t2 t3 t4 t5
              simp only [Int.toNat_natCast] at z0 t0 z1 t1 z2 t2 z3 t3 z4 t4 z5 t5
              generalize hbb : (b && freshTo (o.f3.map S51.f0) ⟨#[]⟩ k j) = bb at *
              have Hb := Lib.hid hbb
              clear hbb
              have hkj : (o.f3.map S51.f0).getD j ⟨#[]⟩ = (o.f3.getD j z51).f0 := getD_map S51.f0 o.f3 j z51
              have Hkj := Lib.hid hkj
              clear hkj
              generalize o.f3.getD j z51 = yj at *
              generalize yj.f0 = sj at *
              generalize y.f0 = sk at *
              cases bb
              · go_wp2
                go_quiet (fail)
                go_wp2
                go_roundw
                case rel => exact ⟨j + 1, by omega, by go_num, by rw [freshTo_succ (o.f3.map S51.f0) ⟨#[]⟩ k j (by simpa using (show j < o.f3.length by omega)), ← Bool.and_assoc, Hb.out]; rfl, rN.out _ _ hbr2 (pw_below_drewN (Below.refl _ _) _)⟩
                case measure => simp [intOf]; omega
                
              · by_cases hjk : sj = sk
                · have hq : (sj.toList == sk.toList) = true := by rw [hjk]; simp
                  have Hjk := Lib.hid hjk
                  clear hjk
                  go_wp2
                  go_quiet (fail)
                  go_wp2
                  go_roundw
                  case rel => exact ⟨j + 1, by omega, by go_num, by rw [freshTo_succ (o.f3.map S51.f0) ⟨#[]⟩ k j (by simpa using (show j < o.f3.length by omega)), ← Bool.and_assoc, Hb.out, Hkj.out, Hkk.out]; simp [Hjk.out], rN.out _ _ hbr2 (pw_below_drewN (Below.refl _ _) _)⟩
                  case measure => simp [intOf]; omega
                  
                · have hq : (sj.toList == sk.toList) = false := by rw [beq_eq_false_iff_ne, ByteArray.toList_eq, ByteArray.toList_eq]; exact fun e => hjk (ByteArray.ext (Array.ext' e))
                  have Hjk := Lib.hid hjk
                  clear hjk
                  go_wp2
                  go_quiet (fail)
                  go_wp2
                  go_roundw
                  case rel => exact ⟨j + 1, by omega, by go_num, by rw [freshTo_succ (o.f3.map S51.f0) ⟨#[]⟩ k j (by simpa using (show j < o.f3.length by omega)), ← Bool.and_assoc, Hb.out, Hkj.out, Hkk.out]; simp [Hjk.out], rN.out _ _ hbr2 (pw_below_drewN (Below.refl _ _) _)⟩
                  case measure => simp [intOf]; omega
                  
            · obtain rfl : j = k := by omega
              have q2' : decide ((j : Int) < (j : Int)) = false := decide_eq_false (by omega)
              go_wp2
              go_roundw
              case rel => exact ⟨j + 1, by omega, by go_num, by rw [Hac.out, Hok.out, fresh_to]; simp, hbr2⟩
              case measure => simp [intOf]; omega
        · have hoff : accS o k = false := by simpa using hok
          have hend := accS_off o hoff hk
          rw [hoff]
          clear hok hoff
          go_wp2
          go_meet
          case rel => exact ⟨by rw [hend], hbr⟩
      · obtain rfl : k = o.f3.length := by omega
        have p2 : decide ((o.f3.length : Int) < (o.f3.length : Int)) = false := decide_eq_false (by omega)
        go_wp2
        go_meet
        case rel => exact ⟨rfl, hbr⟩
  obtain ⟨rfl, hbc⟩ := hcut
  go_upto_block 8 with (fail)
  go_cut [3] (fun okv wc => okv = .bool (accR o o.f4.length) ∧ R wc)
  case first =>
    go_wp2
    go_loopw [3, 8] (fun okv i wr => ∃ k : Nat, k ≤ o.f4.length ∧ i = .int .i64 (k : Int) ∧ okv = .bool (accR o k) ∧ R wr) (fun _ i _ => o.f4.length - (intOf i).toNat)
    case atStart => exact ⟨0, Nat.zero_le _, by go_num, rfl, hbc⟩
    case round =>
      obtain ⟨k, hk, rfl, rfl, hbr⟩ := hrel
      have hbz : Below w.heap.size w wr := rW.out _ hbr
      obtain ⟨e0, e1, e2, e3, e4, e5, e6, ez⟩ := rC.out _ hbr
      by_cases hlt : k < o.f4.length
      · have p0 : (0 : Int) ≤ (k : Int) := by omega
        have p1 : (k : Int) < (o.f4.length : Int) := by omega
        have p2 : decide ((k : Int) < (o.f4.length : Int)) = true := decide_eq_true p1
        by_cases hok : accR o k = true
        · obtain ⟨ad, rfl, x0, x1, x2⟩ := at_T64 (Kd.C_below g4 hbz) (k : Int) p0 p1
          have hrd : rd_T64 o.f4 (k : Int) = o.f4.getD k z64 := rfl
          rw [hrd] at x0  x1  x2
          simp only [Int.toNat_natCast] at x0  x1  x2
          have hkk : (o.f4.map spot).getD k (false, 0) = spot (o.f4.getD k z64) := getD_map spot o.f4 k z64
          have hac : accR o (k + 1) = (accR o k && ((nm (o.f4.getD k z64).f2 && mendsP (o.f4.getD k z64) o.f5 o.f6) && fresh (o.f4.map spot) (false, 0) k)) := rfl
          generalize hy : o.f4.getD k z64 = y at *
          have Hac := Lib.hid hac
          have Hkk := Lib.hid hkk
          have Hy := Lib.hid hy
          clear hy hkk hac hrd
          have hsy := fun X (hX : Below w.heap.size w X) => hrel' y X hX
          generalize hbn : (nm y.f2 && mendsP y o.f5 o.f6) = b at *
          clear hbn
          rw [hok]
          have Hok := Lib.hid hok
          clear hok
          go_wp2
          refine region_tree2 (fun W w' => Below W.heap.size W w') (.read 0 (.read 1 (.read 2 (.read 3 (.read 4 (.read 5 (.turn 6 .done))))))) 7
            (fun a W a' w' => Below W.heap.size W w' ∧ a' = (((((((a.put (some 109) (.agg #[.string o.f0, .int .i64 o.f1, .slice A2 o.f2.length c2, .slice A3 o.f3.length c3, .slice (some ad) o.f4.length c4, .slice A5 o.f5.length c5, .slice A6 o.f6.length c6])).put (some 110) (.pointer (some ⟨w.heap.size, 4, none⟩))).put (some 111) (.slice (some ad) o.f4.length c4)).put (some 112) (.int .i64 (k : Int))).put (some 113) (.pointer (some (ad.add (k * 3))))).put (some 114) (.agg #[.bool y.f0, .int .i64 y.f1, .string y.f2])).put (some 115) (.bool b))) mixed (by kernel_rfl) (Below.refl _ _) ?_ ?_
          refine tree_read (some 109) (.agg #[.string o.f0, .int .i64 o.f1, .slice A2 o.f2.length c2, .slice A3 o.f3.length c3, .slice (some ad) o.f4.length c4, .slice A5 o.f5.length c5, .slice A6 o.f6.length c6]) rfl rfl (fun _ _ _ h => h) (by kernel_rfl) ?yy30 ?_
          case yy30 => intro w' hS; obtain ⟨e0, e1, e2, e3, e4, e5, e6, ez⟩ := rC.out _ (rN.out _ _ hbr (of_drew hS)); go_simp <;> first | rfl | simp
          refine tree_read (some 110) (.pointer (some ⟨w.heap.size, 4, none⟩)) rfl rfl (fun _ _ _ h => h) (by kernel_rfl) ?yy31 ?_
          case yy31 => intro w' hS; go_simp <;> first | rfl | simp
          refine tree_read (some 111) (.slice (some ad) o.f4.length c4) rfl rfl (fun _ _ _ h => h) (by kernel_rfl) ?yy32 ?_
          case yy32 => intro w' hS; obtain ⟨e0, e1, e2, e3, e4, e5, e6, ez⟩ := rC.out _ (rN.out _ _ hbr (of_drew hS)); go_simp <;> first | rfl | simp
          refine tree_read (some 112) (.int .i64 (k : Int)) rfl rfl (fun _ _ _ h => h) (by kernel_rfl) ?yy33 ?_
          case yy33 => intro w' hS; go_simp <;> first | rfl | simp
          refine tree_read (some 113) (.pointer (some (ad.add (k * 3)))) rfl rfl (fun _ _ _ h => h) (by kernel_rfl) ?yy34 ?_
          case yy34 => intro w' hS; go_simp <;> first | rfl | simp
          refine tree_read (some 114) (.agg #[.bool y.f0, .int .i64 y.f1, .string y.f2]) rfl rfl (fun _ _ _ h => h) (by kernel_rfl) ?yy35 ?_
          case yy35 => intro w' hS; obtain ⟨ad', hA, x0, x1, x2⟩ := at_T64 (Kd.C_below g4 (bnext hbz (of_drew hS))) (k : Int) p0 p1; cases hA; rw [show rd_T64 o.f4 (k : Int) = o.f4.getD k z64 from rfl, Hy.out] at x0  x1  x2; simp only [Int.toNat_natCast] at x0  x1  x2; go_simp <;> first | rfl | simp
          refine tree_turn rfl rfl (fun K hK => ?_)
          go_simp
          refine (hsy _ (bnext hbz (Below.refl _ _).drew)).mono ?_
          rintro e v1 ⟨rfl, hb1⟩
          go_simp
          refine hK _ _ hb1 (fun _ => ?_)
          clear hK K
          exact tree_done ⟨hb1, by kernel_rfl⟩
          rintro a' w6 ⟨hbC, rfl⟩
          simp only [List.drop_succ_cons, List.drop_zero]
          go_simp
          go_wp2
          have hbD : R w6 := rN.out _ _ hbr (of_drew hbC)
          go_loopw [3, 9] (fun okv i wr => ∃ j : Nat, j ≤ k ∧ i = .int .i64 (j : Int) ∧ okv = .bool (b && freshTo (o.f4.map spot) (false, 0) k j) ∧ R wr) (fun _ i _ => k - (intOf i).toNat)
          case atStart => exact ⟨0, Nat.zero_le _, by go_num, by simp [freshTo], hbD⟩
          case round =>
            clear hbD
            obtain ⟨j, hj, rfl, rfl, hbr2⟩ := hrel
            have hbz2 : Below w.heap.size w wr := rW.out _ hbr2
            obtain ⟨e0, e1, e2, e3, e4, e5, e6, ez⟩ := rC.out _ hbr2
            by_cases hjl : j < k
            · have q0 : (0 : Int) ≤ (j : Int) := by omega
              have q1 : (j : Int) < (o.f4.length : Int) := by omega
              have q2' : decide ((j : Int) < (k : Int)) = true := decide_eq_true (by omega)
              obtain ⟨ad2, hA2, z0, z1, z2⟩ := at_T64 (Kd.C_below g4 hbz2) (j : Int) q0 q1
              cases hA2
              obtain ⟨ad3, hA3, t0, t1, t2⟩ := at_T64 (Kd.C_below g4 hbz2) (k : Int) p0 p1
              cases hA3
              rw [show rd_T64 o.f4 (j : Int) = o.f4.getD j z64 from rfl] at z0 z1 z2
              rw [show rd_T64 o.f4 (k : Int) = o.f4.getD k z64 from rfl, Hy.out] at t0 t1 t2
              simp only [Int.toNat_natCast] at z0 t0 z1 t1 z2 t2
              generalize hbb : (b && freshTo (o.f4.map spot) (false, 0) k j) = bb at *
              have Hb := Lib.hid hbb
              clear hbb
              have hkj : (o.f4.map spot).getD j (false, 0) = spot (o.f4.getD j z64) := getD_map spot o.f4 j z64
              have Hkj := Lib.hid hkj
              clear hkj
              generalize o.f4.getD j z64 = yj at *
              dsimp only [spot] at Hkj Hkk
              generalize yj.f0 = a0 at *
              generalize yj.f1 = a1 at *
              generalize y.f0 = b0 at *
              generalize y.f1 = b1 at *
              cases bb
              · go_wp2
                go_quiet (fail)
                go_wp2
                go_roundw
                case rel => exact ⟨j + 1, by omega, by go_num, by rw [freshTo_succ (o.f4.map spot) (false, 0) k j (by simpa using (show j < o.f4.length by omega)), ← Bool.and_assoc, Hb.out]; rfl, rN.out _ _ hbr2 (pw_below_drewN (Below.refl _ _) _)⟩
                case measure => simp [intOf]; omega
                
              · by_cases hjk : a1 = b1
                · have hq : (a1 == b1) = true := beq_iff_eq.2 hjk
                  have hq' : (a1 != b1) = false := bne_eq_false_iff_eq.2 hjk
                  have Hjk := Lib.hid hjk
                  clear hjk
                  cases a0 <;> cases b0
                  · go_wp2
                    go_quiet (fail)
                    go_wp2
                    go_roundw
                    case rel => exact ⟨j + 1, by omega, by go_num, by rw [freshTo_succ (o.f4.map spot) (false, 0) k j (by simpa using (show j < o.f4.length by omega)), ← Bool.and_assoc, Hb.out, Hkj.out, Hkk.out]; simp [Hjk.out], rN.out _ _ hbr2 (pw_below_drewN (Below.refl _ _) _)⟩
                    case measure => simp [intOf]; omega
                    
                  · go_wp2
                    go_quiet (fail)
                    go_wp2
                    go_roundw
                    case rel => exact ⟨j + 1, by omega, by go_num, by rw [freshTo_succ (o.f4.map spot) (false, 0) k j (by simpa using (show j < o.f4.length by omega)), ← Bool.and_assoc, Hb.out, Hkj.out, Hkk.out]; simp [Hjk.out], rN.out _ _ hbr2 (pw_below_drewN (Below.refl _ _) _)⟩
                    case measure => simp [intOf]; omega
                    
                  · go_wp2
                    go_quiet (fail)
                    go_wp2
                    go_roundw
                    case rel => exact ⟨j + 1, by omega, by go_num, by rw [freshTo_succ (o.f4.map spot) (false, 0) k j (by simpa using (show j < o.f4.length by omega)), ← Bool.and_assoc, Hb.out, Hkj.out, Hkk.out]; simp [Hjk.out], rN.out _ _ hbr2 (pw_below_drewN (Below.refl _ _) _)⟩
                    case measure => simp [intOf]; omega
                    
                  · go_wp2
                    go_quiet (fail)
                    go_wp2
                    go_roundw
                    case rel => exact ⟨j + 1, by omega, by go_num, by rw [freshTo_succ (o.f4.map spot) (false, 0) k j (by simpa using (show j < o.f4.length by omega)), ← Bool.and_assoc, Hb.out, Hkj.out, Hkk.out]; simp [Hjk.out], rN.out _ _ hbr2 (pw_below_drewN (Below.refl _ _) _)⟩
                    case measure => simp [intOf]; omega
                    
                · have hq : (a1 == b1) = false := beq_eq_false_iff_ne.2 hjk
                  have hq' : (a1 != b1) = true := bne_iff_ne.2 hjk
                  have Hjk := Lib.hid hjk
                  clear hjk
                  go_wp2
                  go_quiet (fail)
                  go_wp2
                  go_roundw
                  case rel => exact ⟨j + 1, by omega, by go_num, by rw [freshTo_succ (o.f4.map spot) (false, 0) k j (by simpa using (show j < o.f4.length by omega)), ← Bool.and_assoc, Hb.out, Hkj.out, Hkk.out]; simp [Hjk.out], rN.out _ _ hbr2 (pw_below_drewN (Below.refl _ _) _)⟩
                  case measure => simp [intOf]; omega
                  
            · obtain rfl : j = k := by omega
              have q2' : decide ((j : Int) < (j : Int)) = false := decide_eq_false (by omega)
              go_wp2
              go_roundw
              case rel => exact ⟨j + 1, by omega, by go_num, by rw [Hac.out, Hok.out, fresh_to]; simp, hbr2⟩
              case measure => simp [intOf]; omega
        · have hoff : accR o k = false := by simpa using hok
          have hend := accR_off o hoff hk
          rw [hoff]
          clear hok hoff
          go_wp2
          go_meet
          case rel => exact ⟨by rw [hend], hbr⟩
      · obtain rfl : k = o.f4.length := by omega
        have p2 : decide ((o.f4.length : Int) < (o.f4.length : Int)) = false := decide_eq_false (by omega)
        go_wp2
        go_meet
        case rel => exact ⟨rfl, hbr⟩
  obtain ⟨rfl, hbc⟩ := hcut
  rw [HQ.out]
  clear HQ
  cases res
  · go_wp2
    go_ret
    exact ⟨rfl, rW.out _ hbc⟩
  · go_wp2
    go_ret
    exact ⟨rfl, rW.out _ hbc⟩
end Go.Proofs.Ytnbgbmddkbneeaa.Obj

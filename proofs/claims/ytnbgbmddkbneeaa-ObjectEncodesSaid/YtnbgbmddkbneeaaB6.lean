/- Which objects may be: the program's walk. -/
import Derived.Test.YtnbgbmddkbneeaaB5
set_option linter.unusedVariables false
set_option linter.unusedSimpArgs false
namespace Go.Proofs.Ytnbgbmddkbneeaa.Obj
open Go.RowKit Go.Proofs.YtnbgbmddkbneeaaW.PrintWords Go.Proofs.YtnbgbmddkbneeaaW.PrintMore Go.Proofs.Ytnbgbmddkbneeaa.PLinkWeak
open Go.Maps (Keyed IsMap)
set_option maxHeartbeats 4000000 in
set_option maxRecDepth 100000 in
theorem valid_any (o : S27) (hF : Fine o) {cs : List Value} {w : World} (hK : k27.K w o cs) :
    Calls Try.prog 14 #[.agg cs.toArray] w fun e w' => e = .returned (.int .i64 (validP o)) ∧ Below w.heap.size w w' := by
  have hlies := fun (s : S51) (X : World) (hX : Below w.heap.size w X) => lies_any s o (k27.K_below hX hK) (by have := hF.len; omega) (by have := hF.len; omega)
  have hmends := fun (s : S64) (X : World) (hX : Below w.heap.size w X) => mends_any s o (k27.K_below hX hK) (by have := hF.len; omega) (by have := hF.len; omega) hF.code
  obtain ⟨A2, c2, A3, c3, A4, c4, A5, c5, A6, c6, rfl, l2, g2, l3, g3, l4, g4, l5, g5, l6, g6⟩ := k27_open hK
  have hb0 : Below w.heap.size w (w.alloc (.cells #[.string o.f0, .int .i64 o.f1, .slice A2 o.f2.length c2, .slice A3 o.f3.length c3, .slice A4 o.f4.length c4, .slice A5 o.f5.length c5, .slice A6 o.f6.length c6] 27)) := alloc_below _ _
  have hlen := hF.len
  unfold validP
  by_cases c0 : 65536 < o.f5.length
  · rw [if_pos (.inl c0)]
    have d0 : decide ((65536 : Int) < (o.f5.length : Int)) = true := decide_eq_true (by omega)
    have d0' : decide (65536 < o.f5.length) = true := decide_eq_true c0
    clear hlies hmends hK g2 g3 g4 g5 g6 l2 l3 l4 l5 l6 c0
    go_enter Try.func14, Try.ntmps14
    go_wp2
    go_ret
    exact ⟨rfl, hb0⟩
  have d0 : decide ((65536 : Int) < (o.f5.length : Int)) = false := decide_eq_false (by omega)
  have d0' : decide (65536 < o.f5.length) = false := decide_eq_false c0
  by_cases c1 : 16384 < o.f6.length
  · rw [if_pos (.inr c1)]
    have d1 : decide ((16384 : Int) < (o.f6.length : Int)) = true := decide_eq_true (by omega)
    have d1' : decide (16384 < o.f6.length) = true := decide_eq_true c1
    clear hlies hmends hK g2 g3 g4 g5 g6 l2 l3 l4 l5 l6 c0 c1
    go_enter Try.func14, Try.ntmps14
    go_wp2
    go_ret
    exact ⟨rfl, hb0⟩
  have d1 : decide ((16384 : Int) < (o.f6.length : Int)) = false := decide_eq_false (by omega)
  have d1' : decide (16384 < o.f6.length) = false := decide_eq_false c1
  rw [if_neg (by omega)]
  clear c0 c1 hK l2 l3 l4 l5 l6
  have HQ := Lib.hid (show accR o o.f4.length = okP o from rfl)
  generalize okP o = res at HQ ⊢
  have hmm := @run_makeMap Try.prog
  go_enter Try.func14, Try.ntmps14
  go_wp2_with (go_at_call 27; refine (name_any _ _).mono ?_; rintro e w1 ⟨rfl, ⟨q1, rfl⟩⟩)
  go_loopw [4, 30] (fun okv i wr => ∃ k : Nat, k ≤ o.f2.length ∧ i = .int .i64 (k : Int) ∧ okv = .bool (accI o k) ∧ NumMap Value.string wr 9 (w.heap.size + 1) k (cnt (o.f2.map S44.f0) k) ∧ Below (w.heap.size + 1) (w.alloc (.cells #[.string o.f0, .int .i64 o.f1, .slice A2 o.f2.length c2, .slice A3 o.f3.length c3, .slice A4 o.f4.length c4, .slice A5 o.f5.length c5, .slice A6 o.f6.length c6] 27)) wr) (fun _ i _ => o.f2.length - (intOf i).toNat)
  case atStart =>
    refine ⟨0, Nat.zero_le _, by go_num, rfl, ?_, ?_⟩
    · have := ((NumMap.made Value.string (w.alloc (.cells #[.string o.f0, .int .i64 o.f1, .slice A2 o.f2.length c2, .slice A3 o.f3.length c3, .slice A4 o.f4.length c4, .slice A5 o.f5.length c5, .slice A6 o.f6.length c6] 27)) 9).congr (g := cnt (o.f2.map S44.f0) 0) (fun s => by simp [cnt])).drewN q1
      simpa using this
    · exact pw_below_drewN ((Below.refl _ _).alloc (by simp) _) _
  case round =>
    obtain ⟨k, hk, rfl, rfl, hN, hbr⟩ := hrel
    have hbw : Below (w.alloc (.cells #[.string o.f0, .int .i64 o.f1, .slice A2 o.f2.length c2, .slice A3 o.f3.length c3, .slice A4 o.f4.length c4, .slice A5 o.f5.length c5, .slice A6 o.f6.length c6] 27)).heap.size (w.alloc (.cells #[.string o.f0, .int .i64 o.f1, .slice A2 o.f2.length c2, .slice A3 o.f3.length c3, .slice A4 o.f4.length c4, .slice A5 o.f5.length c5, .slice A6 o.f6.length c6] 27)) wr := hbr.mono (by simp)
    have hbz : Below w.heap.size w wr := bnext hb0 hbw
    obtain ⟨e0, e1, e2, e3, e4, e5, e6, ez⟩ := box27_kept hbw
    by_cases hlt : k < o.f2.length
    · have p0 : (0 : Int) ≤ (k : Int) := by omega
      have p1 : (k : Int) < (o.f2.length : Int) := by omega
      obtain ⟨ad, rfl, x0, x1⟩ := at_T44 (Kd.C_below g2 hbz) (k : Int) p0 p1
      have hmem : o.f2.getD k z44 ∈ o.f2 := getD_mem hlt
      have hs := (hF.imp _ hmem).1
      have hcs := cnt_succ (o.f2.map S44.f0) ⟨#[]⟩ k (by simpa using hlt)
      have hcf := cnt_fresh (o.f2.map S44.f0) ⟨#[]⟩ k
      have hci := cnt_in (o.f2.map S44.f0) k (o.f2.getD k z44).f0
      rw [show (o.f2.map S44.f0).getD k ⟨#[]⟩ = (o.f2.getD k z44).f0 from getD_map S44.f0 o.f2 k z44] at hcs hcf
      have hac : accI o (k + 1) = (accI o k && (nm (o.f2.getD k z44).f0 && fresh (o.f2.map S44.f0) ⟨#[]⟩ k)) := rfl
      rw [← hcf] at hac
      rw [show rd_T44 o.f2 (k : Int) = o.f2.getD k z44 from rfl] at x0 x1
      simp only [Int.toNat_natCast] at x0 x1
      have Hac := Lib.hid hac
      have Hcs := Lib.hid hcs
      clear hac hcs hcf hmem
      generalize (o.f2.getD k z44).f0 = s at *
      generalize (o.f2.getD k z44).f1 = hsh at *
      generalize hc : cnt (o.f2.map S44.f0) k s = c at *
      have Hc := Lib.hid hc
      clear hc
      have hN2 := hN.kept (World.grownBy_alloc wr (.cells #[.string s, .int .i64 hsh] 44) none) (by simp)
      have hl1 := hN2.look law9 Try.underlying59 (keyS hs)
      rw [Hc.out] at hl1
      obtain ⟨W3, hp3, hN3, hg3⟩ := hN2.put law9 Try.underlying59 (by unfold maxLen; omega) (keyS hs) (keyS_inj hs) (v := c + 1) (WalkArith.wf_i64 (by omega))
      have hl3 := fun m => (hN3.drewN m).look law9 Try.underlying59 (keyS hs)
      simp only [if_true] at hl3
      have hlt3 := hN.lt
      have hkb : W3.heap[wr.heap.size]? = (wr.alloc (.cells #[.string s, .int .i64 hsh] 44)).heap[wr.heap.size]? := hg3.block _ (by simp) (by intro e; injection e; omega)
      have hx3 : W3.cell? ⟨wr.heap.size, 0, none⟩ = some (.string s) := (World.cell?_of_block hkb).trans (by simp)
      have hb3 : Below (w.heap.size + 1) wr W3 := ((Below.refl _ _).alloc (by omega) _).grown hg3 (by simp only [World.size_alloc]; omega) (fun j hj => by cases hj; exact Nat.le_refl _)
      have hnm := fun X => name_any s X
      have hN3' := hN3.congr (g := cnt (o.f2.map S44.f0) (k + 1)) (fun y => by rw [Hcs.out])
      clear hkb hN2 hN3 hg3 hs
      generalize accI o k = ok at *
      generalize nm s = b at *
      cases ok
      · go_wp2
        go_roundw
        case rel => exact ⟨k + 1, hlt, by go_num, by rw [Hac.out]; rfl, hN3', hbr.trans hb3⟩
        case measure => simp [intOf]; omega
      · cases b
        · go_wp2_with (go_at_call 27; refine (hnm _).mono ?_; rintro e w1 ⟨rfl, ⟨m1, rfl⟩⟩)
          go_roundw
          case rel => exact ⟨k + 1, hlt, by go_num, by rw [Hac.out]; rfl, hN3'.drewN _, hbr.trans (pw_below_drewN hb3 _)⟩
          case measure => simp [intOf]; omega
        · go_wp2_with (go_at_call 27; refine (hnm _).mono ?_; rintro e w1 ⟨rfl, ⟨m1, rfl⟩⟩)
          go_roundw
          case rel => exact ⟨k + 1, hlt, by go_num, by rw [Hac.out]; simp, hN3'.drewN _, hbr.trans (pw_below_drewN hb3 _)⟩
          case measure => simp [intOf]; omega
    · obtain rfl : k = o.f2.length := by omega
      obtain ⟨W1, hrun, hN1, hg1⟩ := hN.clear Try.underlying59 0
      have hb1 : Below (w.heap.size + 1) wr W1 := (Below.refl _ _).grown hg1 (by have := hN.lt; omega) (fun j hj => by cases hj; exact Nat.le_refl _)
      obtain ⟨f0, f1, f2, f3, f4, f5, f6, fz⟩ := box27_kept ((hbr.trans hb1).mono (by simp))
      have hbr1 := hbr.trans hb1
      clear hN hg1 hbr hbw hbz hb1
      obtain ⟨wo, rfl⟩ : ∃ wo : World, wo = wr := ⟨_, rfl⟩
      go_wp2
      go_loopw [4, 57] (fun okv i wr => ∃ k : Nat, k ≤ o.f3.length ∧ i = .int .i64 (k : Int) ∧ okv = .bool (accS o k) ∧ NumMap Value.string wr 9 (w.heap.size + 1) k (cnt (o.f3.map S51.f0) k) ∧ Below (w.heap.size + 1) (w.alloc (.cells #[.string o.f0, .int .i64 o.f1, .slice A2 o.f2.length c2, .slice A3 o.f3.length c3, .slice A4 o.f4.length c4, .slice A5 o.f5.length c5, .slice A6 o.f6.length c6] 27)) wr) (fun _ i _ => o.f3.length - (intOf i).toNat)
      case atStart => exact ⟨0, Nat.zero_le _, by go_num, rfl, hN1.congr (fun s => by simp [cnt]), hbr1⟩
      case round =>
        clear hN1 hbr1 hrun e0 e1 e2 e3 e4 e5 e6 ez f0 f1 f2 f3 f4 f5 f6 fz hlt hk
        obtain ⟨k, hk, rfl, rfl, hN, hbr⟩ := hrel
        have hbw : Below (w.alloc (.cells #[.string o.f0, .int .i64 o.f1, .slice A2 o.f2.length c2, .slice A3 o.f3.length c3, .slice A4 o.f4.length c4, .slice A5 o.f5.length c5, .slice A6 o.f6.length c6] 27)).heap.size (w.alloc (.cells #[.string o.f0, .int .i64 o.f1, .slice A2 o.f2.length c2, .slice A3 o.f3.length c3, .slice A4 o.f4.length c4, .slice A5 o.f5.length c5, .slice A6 o.f6.length c6] 27)) wr := hbr.mono (by simp)
        have hbz : Below w.heap.size w wr := bnext hb0 hbw
        obtain ⟨e0, e1, e2, e3, e4, e5, e6, ez⟩ := box27_kept hbw
        by_cases hlt : k < o.f3.length
        · have p0 : (0 : Int) ≤ (k : Int) := by omega
          have p1 : (k : Int) < (o.f3.length : Int) := by omega
          obtain ⟨ad, rfl, x0, x1, x2, x3, x4, x5⟩ := at_T51 (Kd.C_below g3 hbz) (k : Int) p0 p1
          have hmem : o.f3.getD k z51 ∈ o.f3 := getD_mem hlt
          have hs := (hF.sym _ hmem).1
          have hcs := cnt_succ (o.f3.map S51.f0) ⟨#[]⟩ k (by simpa using hlt)
          have hcf := cnt_fresh (o.f3.map S51.f0) ⟨#[]⟩ k
          have hci := cnt_in (o.f3.map S51.f0) k (o.f3.getD k z51).f0
          rw [show (o.f3.map S51.f0).getD k ⟨#[]⟩ = (o.f3.getD k z51).f0 from getD_map S51.f0 o.f3 k z51] at hcs hcf
          have hac : accS o (k + 1) = (accS o k && ((nm (o.f3.getD k z51).f0 && liesP (o.f3.getD k z51) o.f5.length o.f6.length) && fresh (o.f3.map S51.f0) ⟨#[]⟩ k)) := rfl
          rw [show rd_T51 o.f3 (k : Int) = o.f3.getD k z51 from rfl] at x0 x1 x2 x3 x4 x5
          simp only [Int.toNat_natCast] at x0 x1 x2 x3 x4 x5
          have hli := hlies (o.f3.getD k z51)
          have Hac := Lib.hid hac
          have Hcs := Lib.hid hcs
          have Hcf := Lib.hid hcf
          clear hac hcs hcf hmem
          generalize o.f3.getD k z51 = y at *
          obtain ⟨s, y1, y2, y3, y4, y5⟩ := y
          dsimp only at x0 x1 x2 x3 x4 x5 hs hci hli Hac Hcs Hcf
          generalize hc : cnt (o.f3.map S51.f0) k s = c at *
          have Hc := Lib.hid hc
          clear hc
          generalize hfr : fresh (o.f3.map S51.f0) ⟨#[]⟩ k = fr at *
          clear hfr
          have hf1 : (c + 1 == 1) = fr := Hcf.out
          have Hf1 := Lib.hid hf1
          clear hf1 Hcf
          generalize liesP ⟨s, y1, y2, y3, y4, y5⟩ o.f5.length o.f6.length = b2 at *
          have hN2 := hN.kept (World.grownBy_alloc wr (.cells #[.string s, .int .i64 y1, .bool y2, .int .i64 y3, .int .i64 y4, .int .i64 y5] 51) none) (by simp)
          have hl1 := hN2.look law9 Try.underlying59 (keyS hs)
          rw [Hc.out] at hl1
          obtain ⟨W3, hp3, hN3, hg3⟩ := hN2.put law9 Try.underlying59 (by unfold maxLen; omega) (keyS hs) (keyS_inj hs) (v := c + 1) (WalkArith.wf_i64 (by omega))
          have hl3 := fun m => (hN3.drewN m).look law9 Try.underlying59 (keyS hs)
          simp only [if_true] at hl3
          have hlt3 := hN.lt
          have hkb : W3.heap[wr.heap.size]? = (wr.alloc (.cells #[.string s, .int .i64 y1, .bool y2, .int .i64 y3, .int .i64 y4, .int .i64 y5] 51)).heap[wr.heap.size]? := hg3.block _ (by simp) (by intro e; injection e; omega)
          have hx0 : W3.cell? ⟨wr.heap.size, 0, none⟩ = some (.string s) := (World.cell?_of_block hkb).trans (by simp)
          have hx1 : W3.cell? ⟨wr.heap.size, 1, none⟩ = some (.int .i64 y1) := (World.cell?_of_block hkb).trans (by simp)
          have hx2 : W3.cell? ⟨wr.heap.size, 2, none⟩ = some (.bool y2) := (World.cell?_of_block hkb).trans (by simp)
          have hx3 : W3.cell? ⟨wr.heap.size, 3, none⟩ = some (.int .i64 y3) := (World.cell?_of_block hkb).trans (by simp)
          have hx4 : W3.cell? ⟨wr.heap.size, 4, none⟩ = some (.int .i64 y4) := (World.cell?_of_block hkb).trans (by simp)
          have hx5 : W3.cell? ⟨wr.heap.size, 5, none⟩ = some (.int .i64 y5) := (World.cell?_of_block hkb).trans (by simp)
          have hb3 : Below (w.heap.size + 1) wr W3 := ((Below.refl _ _).alloc (by omega) _).grown hg3 (by simp only [World.size_alloc]; omega) (fun j hj => by cases hj; exact Nat.le_refl _)
          have hX3 : Below w.heap.size w W3 := bnext hb0 ((hbr.trans hb3).mono (by simp))
          obtain ⟨f0, f1, f2, f3, f4, f5, f6, fz⟩ := box27_kept ((hbr.trans hb3).mono (by simp))
          have hnm := fun X => name_any s X
          have hN3' := hN3.congr (g := cnt (o.f3.map S51.f0) (k + 1)) (fun y => by rw [Hcs.out])
          have hli3 := fun m => hli (W3.drewN m) (pw_below_drewN hX3 _)
          clear hkb hN2 hN3 hg3 hs hli
          generalize accS o k = ok at *
          generalize nm s = b at *
          cases ok
          · go_wp2
            go_roundw
            case rel => exact ⟨k + 1, hlt, by go_num, by rw [Hac.out]; rfl, hN3', hbr.trans hb3⟩
            case measure => simp [intOf]; omega
          · cases b
            · go_wp2_with (go_at_call 27; refine (hnm _).mono ?_; rintro e w1 ⟨rfl, ⟨m1, rfl⟩⟩)
              go_roundw
              case rel => exact ⟨k + 1, hlt, by go_num, by rw [Hac.out]; rfl, hN3'.drewN _, hbr.trans (pw_below_drewN hb3 _)⟩
              case measure => simp [intOf]; omega
            · cases fr
              · have hf1 := Hf1.out
                go_wp2_with (go_at_call 27; refine (hnm _).mono ?_; rintro e w1 ⟨rfl, ⟨m1, rfl⟩⟩)
                go_roundw
                case rel => exact ⟨k + 1, hlt, by go_num, by rw [Hac.out]; simp, hN3'.drewN _, hbr.trans (pw_below_drewN hb3 _)⟩
                case measure => simp [intOf]; omega
              · have hf1 := Hf1.out
                go_wp2_with (first | (go_at_call 27; refine (hnm _).mono ?_; rintro e w1 ⟨rfl, ⟨m1, rfl⟩⟩) | (go_at_call 28; refine (hli3 _).mono ?_; rintro e w2 ⟨rfl, hb2⟩))
                go_roundw
                case rel => exact ⟨k + 1, hlt, by go_num, by rw [Hac.out]; simp, (hN3'.drewN _).frame (hb2.block _ (hN3'.drewN m1).lt), hbr.trans ((pw_below_drewN hb3 _).trans (hb2.mono (by have := (hN3'.drewN m1).lt; omega)))⟩
                case measure => simp [intOf]; omega
        · obtain rfl : k = o.f3.length := by omega
          have hgo : ∀ X : World, Below (w.heap.size + 1) (w.alloc (.cells #[.string o.f0, .int .i64 o.f1, .slice A2 o.f2.length c2, .slice A3 o.f3.length c3, .slice A4 o.f4.length c4, .slice A5 o.f5.length c5, .slice A6 o.f6.length c6] 27)) X → True := fun _ _ => trivial
          clear hN hgo
          obtain ⟨wo, rfl⟩ : ∃ wo : World, wo = wr := ⟨_, rfl⟩
          obtain ⟨M, hM⟩ : ∃ M, wo.heap.size = M := ⟨_, rfl⟩
          have hM1 : w.heap.size + 1 ≤ M := by omega
          have HM := Lib.hid hM
          have hmm2 : ∀ (t : TypeId), (Instr.makeMap t none).run Try.prog wo = .ok (.map (some M)) (wo.alloc (.map #[] 0)) := fun t => by rw [← hM]; exact run_makeMap t wo
          have hNm : NumMap enc66 (wo.alloc (.map #[] 0)) 66 M 0 (cnt (o.f4.map spot) 0) := by
            rw [← hM]; exact (NumMap.made enc66 wo 66).congr (fun s => by simp [cnt])
          have hbm : Below (w.heap.size + 1) (w.alloc (.cells #[.string o.f0, .int .i64 o.f1, .slice A2 o.f2.length c2, .slice A3 o.f3.length c3, .slice A4 o.f4.length c4, .slice A5 o.f5.length c5, .slice A6 o.f6.length c6] 27)) (wo.alloc (.map #[] 0)) := hbr.alloc (by omega) _
          obtain ⟨f0, f1, f2, f3, f4, f5, f6, fz⟩ := box27_kept (hbm.mono (by simp))
          clear hmm hM
          go_wp2
          go_loopw [4, 89] (fun okv i wr => ∃ k : Nat, k ≤ o.f4.length ∧ i = .int .i64 (k : Int) ∧ okv = .bool (accR o k) ∧ NumMap enc66 wr 66 M k (cnt (o.f4.map spot) k) ∧ Below (w.heap.size + 1) (w.alloc (.cells #[.string o.f0, .int .i64 o.f1, .slice A2 o.f2.length c2, .slice A3 o.f3.length c3, .slice A4 o.f4.length c4, .slice A5 o.f5.length c5, .slice A6 o.f6.length c6] 27)) wr) (fun _ i _ => o.f4.length - (intOf i).toNat)
          case atStart => exact ⟨0, Nat.zero_le _, by go_num, rfl, hNm, hbm⟩
          case round =>
            clear hNm hbm hmm2 e0 e1 e2 e3 e4 e5 e6 ez f0 f1 f2 f3 f4 f5 f6 fz hlt hk hbr hbw hbz
            obtain ⟨k, hk, rfl, rfl, hN, hbr⟩ := hrel
            have hbw : Below (w.alloc (.cells #[.string o.f0, .int .i64 o.f1, .slice A2 o.f2.length c2, .slice A3 o.f3.length c3, .slice A4 o.f4.length c4, .slice A5 o.f5.length c5, .slice A6 o.f6.length c6] 27)).heap.size (w.alloc (.cells #[.string o.f0, .int .i64 o.f1, .slice A2 o.f2.length c2, .slice A3 o.f3.length c3, .slice A4 o.f4.length c4, .slice A5 o.f5.length c5, .slice A6 o.f6.length c6] 27)) wr := hbr.mono (by simp)
            have hbz : Below w.heap.size w wr := bnext hb0 hbw
            obtain ⟨e0, e1, e2, e3, e4, e5, e6, ez⟩ := box27_kept hbw
            by_cases hlt : k < o.f4.length
            · have p0 : (0 : Int) ≤ (k : Int) := by omega
              have p1 : (k : Int) < (o.f4.length : Int) := by omega
              obtain ⟨ad, rfl, x0, x1, x2⟩ := at_T64 (Kd.C_below g4 hbz) (k : Int) p0 p1
              have hmem : o.f4.getD k z64 ∈ o.f4 := getD_mem hlt
              have hwf := (hF.rel _ hmem).2
              have hcs := cnt_succ (o.f4.map spot) (false, 0) k (by simpa using hlt)
              have hcf := cnt_fresh (o.f4.map spot) (false, 0) k
              have hci := cnt_in (o.f4.map spot) k (spot (o.f4.getD k z64))
              rw [show (o.f4.map spot).getD k (false, 0) = spot (o.f4.getD k z64) from getD_map spot o.f4 k z64] at hcs hcf
              have hac : accR o (k + 1) = (accR o k && ((nm (o.f4.getD k z64).f2 && mendsP (o.f4.getD k z64) o.f5 o.f6) && fresh (o.f4.map spot) (false, 0) k)) := rfl
              rw [show rd_T64 o.f4 (k : Int) = o.f4.getD k z64 from rfl] at x0 x1 x2
              simp only [Int.toNat_natCast] at x0 x1 x2
              have hme := hmends (o.f4.getD k z64)
              have Hac := Lib.hid hac
              have Hcs := Lib.hid hcs
              have Hcf := Lib.hid hcf
              clear hac hcs hcf hmem
              generalize o.f4.getD k z64 = y at *
              obtain ⟨y0, y1, s⟩ := y
              dsimp only [spot] at x0 x1 x2 hwf hci hme Hac Hcs Hcf
              generalize hc : cnt (o.f4.map spot) k (y0, y1) = c at *
              have Hc := Lib.hid hc
              clear hc
              generalize hfr : fresh (o.f4.map spot) (false, 0) k = fr at *
              clear hfr
              have hf1 : (c + 1 == 1) = fr := Hcf.out
              have Hf1 := Lib.hid hf1
              clear hf1 Hcf
              generalize mendsP ⟨y0, y1, s⟩ o.f5 o.f6 = b2 at *
              obtain ⟨l, hkey⟩ := key66 (p := (y0, y1)) hwf
              have hlt3 := hN.lt
              have hN2 := ((hN.kept (World.grownBy_alloc wr (.cells #[.bool y0, .int .i64 y1, .string s] 64) none) (by simp)).kept (World.grownBy_alloc _ (.cells #[.bool y0, .int .i64 y1] 66) none) (by simp)).frame (w' := ((wr.alloc (.cells #[.bool y0, .int .i64 y1, .string s] 64)).alloc (.cells #[.bool y0, .int .i64 y1] 66)).drew) rfl
              have hl0 := hN2.look law66 Try.underlying62 hkey
              rw [Hc.out] at hl0
              obtain ⟨st, w1, w2, q1', q2, q3, hN3, hg1, hg3⟩ := hN2.entry klaw66 Try.underlying62 (by unfold maxLen; omega) hkey (key66_inj hkey) (v := c + 1) (WalkArith.wf_i64 (by omega))
              rw [Hc.out] at q1' q2
              have hl3 := fun m => (hN3.drewN m).look law66 Try.underlying62 hkey
              simp only [if_true] at hl3
              dsimp only [enc66, goInt] at hl0 q1' q2 q3 hl3
              have hk1 : w1.heap[wr.heap.size + 1]? = ((wr.alloc (.cells #[.bool y0, .int .i64 y1, .string s] 64)).alloc (.cells #[.bool y0, .int .i64 y1] 66)).heap[wr.heap.size + 1]? := hg1.block _ (by simp) (by intro e; injection e; omega)
              have hcw1 : w1.cell? ⟨wr.heap.size + 1, 0, none⟩ = some (.bool y0) ∧ w1.cell? ⟨wr.heap.size + 1, 1, none⟩ = some (.int .i64 y1) := ⟨(World.cell?_of_block hk1).trans (by simp), (World.cell?_of_block hk1).trans (by simp)⟩
              have hk3 : w2.heap[wr.heap.size + 1]? = ((wr.alloc (.cells #[.bool y0, .int .i64 y1, .string s] 64)).alloc (.cells #[.bool y0, .int .i64 y1] 66)).heap[wr.heap.size + 1]? := hg3.block _ (by simp) (by intro e; injection e; omega)
              have hk4 : w2.heap[wr.heap.size]? = ((wr.alloc (.cells #[.bool y0, .int .i64 y1, .string s] 64)).alloc (.cells #[.bool y0, .int .i64 y1] 66)).heap[wr.heap.size]? := hg3.block _ (by simp; omega) (by intro e; injection e; omega)
              have hx0 : w2.cell? ⟨wr.heap.size, 0, none⟩ = some (.bool y0) := (World.cell?_of_block hk4).trans (by simp)
              have hx1 : w2.cell? ⟨wr.heap.size, 1, none⟩ = some (.int .i64 y1) := (World.cell?_of_block hk4).trans (by simp)
              have hx2 : w2.cell? ⟨wr.heap.size, 2, none⟩ = some (.string s) := (World.cell?_of_block hk4).trans (by simp)
              have hx3 : w2.cell? ⟨wr.heap.size + 1, 0, none⟩ = some (.bool y0) := (World.cell?_of_block hk3).trans (by simp)
              have hx4 : w2.cell? ⟨wr.heap.size + 1, 1, none⟩ = some (.int .i64 y1) := (World.cell?_of_block hk3).trans (by simp)
              have hb3 : Below (w.heap.size + 1) wr w2 := ((((Below.refl _ _).alloc (by omega) _).alloc (by simp only [World.size_alloc]; omega) _).drew).grown hg3 (by show _ ≤ ((wr.alloc _).alloc _).heap.size; simp only [World.size_alloc]; omega) (fun j hj => by cases hj; exact hM1)
              have hX3 : Below w.heap.size w w2 := bnext hb0 ((hbr.trans hb3).mono (by simp))
              obtain ⟨f0, f1, f2, f3, f4, f5, f6, fz⟩ := box27_kept ((hbr.trans hb3).mono (by simp))
              have hcw : IntKind.i64.wrap (c + 1) = c + 1 := by rw [IntKind.wrap_i64]; omega
              have hnm := fun X => name_any s X
              have hN3' := hN3.congr (g := cnt (o.f4.map spot) (k + 1)) (fun y => by rw [Hcs.out]; by_cases e : y = (y0, y1) <;> simp [e])
              have hme3 := fun m => hme (w2.drewN m) (pw_below_drewN hX3 _)
              clear hk1 hk3 hk4 hN2 hN3 hg1 hg3 hme hkey hlies hmends
              generalize accR o k = ok at *
              generalize nm s = b at *
              go_wp2
              refine region_tree2 (fun _ w' => w'.cell? ⟨wr.heap.size + 1, 0, none⟩ = some (.bool y0) ∧ w'.cell? ⟨wr.heap.size + 1, 1, none⟩ = some (.int .i64 y1)) (.read 0 (.read 1 (.fork 2 (.read 3 (.turn 4 (.read 5 .done))) 4 (.read 5 (.turn 2 (.read 3 .done)))))) 6
                (fun a W a' w' => w' = w1 ∧ a' = ((((((a.put (some 98) (.map (some M))).put (some 99) (.agg #[.bool y0, .int .i64 y1])).put (some 100) (.int .i64 c)).put (some 101) (.int .i64 (c + 1))).put (some 102) (.tuple #[.int .i64 c, .int .i64 (st : Int)])).put (some 103) (.int .i64 (st : Int)))) mixed (by kernel_rfl) ⟨by simp, by simp⟩ ?_ ?_
              refine tree_read (some 98) (.map (some M)) rfl rfl (fun _ _ _ h => h) (by kernel_rfl) ?y0 ?_
              case y0 => intro w' hS; go_simp <;> first | rfl | simp
              refine tree_read (some 99) (.agg #[.bool y0, .int .i64 y1]) rfl rfl (fun _ _ _ h => h) (by kernel_rfl) ?y1 ?_
              case y1 => intro w' hS; obtain ⟨s0, s1⟩ := hS; go_simp <;> first | rfl | simp
              refine tree_fork rfl rfl rfl rfl (fun K hK => ?_) (fun K hK => ?_)
              · go_simp
                refine hK _ _ ⟨by simp, by simp⟩ (fun _ => ?_)
                clear hK K
                refine tree_read (some 101) (.int .i64 (c + 1)) rfl rfl (fun _ _ _ h => h) (by kernel_rfl) ?ya3 ?_
                case ya3 => intro w' hS; go_simp
                refine tree_turn rfl rfl (fun K hK => ?_)
                go_simp
                refine hK _ _ hcw1 (fun _ => ?_)
                clear hK K
                refine tree_read (some 103) (.int .i64 (st : Int)) rfl rfl (fun _ _ _ h => h) (by kernel_rfl) ?ya5 ?_
                case ya5 => intro w' hS; first | rfl | (go_simp <;> first | rfl | simp)
                exact tree_done ⟨rfl, by kernel_rfl⟩
              · go_simp
                refine hK _ _ hcw1 (fun _ => ?_)
                clear hK K
                refine tree_read (some 103) (.int .i64 (st : Int)) rfl rfl (fun _ _ _ h => h) (by kernel_rfl) ?yb5 ?_
                case yb5 => intro w' hS; first | rfl | (go_simp <;> first | rfl | simp)
                refine tree_turn rfl rfl (fun K hK => ?_)
                go_simp
                refine hK _ _ hcw1 (fun _ => ?_)
                clear hK K
                refine tree_read (some 101) (.int .i64 (c + 1)) rfl rfl (fun _ _ _ h => h) (by kernel_rfl) ?yb3 ?_
                case yb3 => intro w' hS; go_simp
                exact tree_done ⟨rfl, by kernel_rfl⟩
              rintro a' w6 ⟨rfl, rfl⟩
              simp only [List.drop_succ_cons, List.drop_zero]
              go_simp
              cases ok
              · go_wp2
                go_roundw
                case rel => exact ⟨k + 1, hlt, by go_num, by rw [Hac.out]; rfl, hN3', hbr.trans hb3⟩
                case measure => simp [intOf]; omega
              · cases b
                · go_wp2_with (go_at_call 27; refine (hnm _).mono ?_; rintro e w5 ⟨rfl, ⟨m1, rfl⟩⟩)
                  go_roundw
                  case rel => exact ⟨k + 1, hlt, by go_num, by rw [Hac.out]; rfl, hN3'.drewN _, hbr.trans (pw_below_drewN hb3 _)⟩
                  case measure => simp [intOf]; omega
                · cases fr
                  · have hf1 := Hf1.out
                    go_wp2_with (go_at_call 27; refine (hnm _).mono ?_; rintro e w5 ⟨rfl, ⟨m1, rfl⟩⟩)
                    go_roundw
                    case rel => exact ⟨k + 1, hlt, by go_num, by rw [Hac.out]; simp, hN3'.drewN _, hbr.trans (pw_below_drewN hb3 _)⟩
                    case measure => simp [intOf]; omega
                  · have hf1 := Hf1.out
                    go_wp2_with (first | (go_at_call 27; refine (hnm _).mono ?_; rintro e w5 ⟨rfl, ⟨m1, rfl⟩⟩) | (go_at_call 29; refine (hme3 _).mono ?_; rintro e w7 ⟨rfl, hb7⟩))
                    go_roundw
                    case rel => exact ⟨k + 1, hlt, by go_num, by rw [Hac.out]; simp, (hN3'.drewN _).frame (hb7.block _ (hN3'.drewN m1).lt), hbr.trans ((pw_below_drewN hb3 _).trans (hb7.mono (by have := (hN3'.drewN m1).lt; omega)))⟩
                    case measure => simp [intOf]; omega
            · obtain rfl : k = o.f4.length := by omega
              rw [HQ.out]
              clear hN HQ
              cases res
              · go_wp2
                go_ret
                exact ⟨rfl, hbz⟩
              · go_wp2
                go_ret
                exact ⟨rfl, hbz⟩
end Go.Proofs.Ytnbgbmddkbneeaa.Obj

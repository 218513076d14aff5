/- The document's machine is made where nothing is wrong: the walk itself. -/
import Derived.Test.YtbchiolgbhckhaaRefNewC
set_option linter.unusedVariables false
set_option linter.unusedSimpArgs false
namespace Go.Proofs.Ytbchiolgbhckhaa.Mach
open Go.RowKit Go.Proofs.YtbchiolgbhckhaaW.PrintWords Go.Proofs.YtbchiolgbhckhaaW.PrintMore Go.Proofs.Ytbchiolgbhckhaa.PMachRuns
set_option maxRecDepth 100000 in
set_option maxHeartbeats 6000000 in
theorem rnew_ok (a1 : Addr) (A2 A3 : Option Addr) (n1 c1 n2 c2 n3 c3 M : Nat) (en : Int) (code data inp : List Int) (w : World) (f1 : (1 : Int) ≤ n1) (f2 : (n1 : Int) ≤ 65536) (f3 : (n2 : Int) ≤ 16384) (f4 : 0 ≤ en) (f5 : en < n1) (f6 : (n2 : Int) ≤ M) (f7 : (M : Int) ≤ 262144) (f8 : (n3 : Int) ≤ 4096) (r1 : Reads w (.slice (some a1) n1 c1) n1 (nums .i64 code)) (r2 : Reads w (.slice A2 n2 c2) n2 (nums .i64 data)) (r3 : Reads w (.slice A3 n3 c3) n3 (nums .u8 inp)) :
    Calls Try.prog 15 #[.agg #[.slice (some a1) n1 c1, .slice A2 n2 c2, .int .i64 en], .int .i64 (M : Int), .slice A3 n3 c3] w (RNewOk w code data inp n1 n3 M en) := by
  have g1 : ((n1 : Int) == 0) = false := beq_eq_false_iff_ne.2 (by omega)
  have g1' : ¬ n1 = 0 := by omega
  have g2 : decide ((65536 : Int) < n1) = false := decide_eq_false (by omega)
  have g3 : decide ((16384 : Int) < n2) = false := decide_eq_false (by omega)
  have g4 : decide (en < 0) = false := decide_eq_false (by omega)
  have g5 : decide ((n1 : Int) ≤ en) = false := decide_eq_false (by omega)
  have g6 : decide (M < n2) = false := decide_eq_false (by omega)
  have g7 : decide ((262144 : Int) < M) = false := decide_eq_false (by omega)
  have g8 : decide ((4096 : Int) < n3) = false := decide_eq_false (by omega)
  have hX : Below w.heap.size w (((w.alloc (.cells #[.slice (some a1) n1 c1, .slice A2 n2 c2, .int .i64 en] 24)).alloc (.cells #[.slice none 0 0, .slice none 0 0, .int .i64 0, .int .i64 0, .int .i64 0, .int .i64 0, .int .i64 0, .int .i64 0, .int .i64 0, .int .i64 0, .int .i64 0, .int .i64 0, .int .i64 0, .int .i64 0, .int .i64 0, .int .i64 0, .int .i64 0, .int .i64 0, .int .i64 0, .slice none 0 0, .int .i64 0, .int .i64 0, .int .i64 0, .slice none 0 0, .int .i64 0] 36)).drew) := ((((Below.refl _ _).alloc (Nat.le_refl _) _).alloc (by simp) _)).drew
  have hmk := make_mem M (by omega)
  go_enter Try.func15, Try.ntmps15
  go_wp2
  refine region_bag (fun W w' => Below W.heap.size W w') (INV code inp n1 n3 M en (.pointer (some ⟨w.heap.size, 0, none⟩)) (.slice (some a1) n1 c1) (.int .i64 (M : Int)) (.pointer (some ⟨w.heap.size, 2, none⟩)) (.int .i64 en) (.slice A3 n3 c3)) (MADE code inp n1 n3 M en (.pointer (some ⟨w.heap.size, 0, none⟩)) (.slice (some a1) n1 c1) (.int .i64 (M : Int)) (.pointer (some ⟨w.heap.size, 2, none⟩)) (.int .i64 en) (.slice A3 n3 c3)) [1, 2, 4, 6, 7, 9] 13 mixed (by kernel_rfl) (Below.refl _ _) ?_ ?_ ?_ ?_
  · refine pre_read (some 56) ?v1 rfl rfl (fun _ _ _ h => h) rfl ?y1 ?_
    case y1 => intro w' hS; obtain ⟨c1, c2⟩ := bcell hS; go_simp; try rfl
    refine pre_read (some 57) ?v2 rfl rfl (fun _ _ _ h => h) rfl ?y2 ?_
    case y2 => intro w' hS; obtain ⟨c1, c2⟩ := bcell hS; go_simp; try rfl
    refine pre_read (some 59) ?v4 rfl rfl (fun _ _ _ h => h) rfl ?y4 ?_
    case y4 => intro w' hS; obtain ⟨c1, c2⟩ := bcell hS; go_simp; try rfl
    refine pre_read (some 61) ?v6 rfl rfl (fun _ _ _ h => h) rfl ?y6 ?_
    case y6 => intro w' hS; obtain ⟨c1, c2⟩ := bcell hS; go_simp; try rfl
    refine pre_read (some 62) ?v7 rfl rfl (fun _ _ _ h => h) rfl ?y7 ?_
    case y7 => intro w' hS; obtain ⟨c1, c2⟩ := bcell hS; go_simp; try rfl
    refine pre_read (some 64) ?v9 rfl rfl (fun _ _ _ h => h) rfl ?y9 ?_
    case y9 => intro w' hS; obtain ⟨c1, c2⟩ := bcell hS; go_simp; try rfl
    refine pre_done ⟨rfl, ⟨rfl, rfl, rfl, rfl, rfl, rfl⟩, fun _ => 0, 0, 0, undef, undef, undef, undef, undef, undef, undef, NI.init _ _ _ _ _ _ _ _ _ _ ⟨rfl, rfl, rfl, rfl, rfl, rfl⟩, NV.init _ _ _ _ _ _ _ _ _ _ _ _ _ _ _ ⟨rfl, rfl, rfl, rfl, rfl, rfl, rfl⟩, by kernel_rfl⟩
  · intro listed a' w' i hI hi hr
    obtain ⟨hsz, hq, b, k0, k2, v55, v58, v60, v63, v65, v66, v8, hN, hV, rfl⟩ := hI
    obtain ⟨hun, hdep⟩ := ready_out hr
    clear hr
    have tf : ∀ j, j < 14 → listed.getD j true = listed.getD j false := fun j hj => by
      simp only [Array.getD_eq_getD_getElem?]
      rw [Array.getElem?_eq_getElem (by omega)]
      rfl
    have ne : ∀ j, j < 14 → listed.getD j false = true → i ≠ j := fun j hj hl e => by
      subst e
      rw [tf i hj, hl] at hun
      cases hun
    have hc : i = 0 ∨ i = 3 ∨ i = 5 ∨ i = 8 ∨ i = 10 ∨ i = 11 ∨ i = 12 := by
      have := ne 1 (by omega) hq.1
      have := ne 2 (by omega) hq.2.1
      have := ne 4 (by omega) hq.2.2.1
      have := ne 6 (by omega) hq.2.2.2.1
      have := ne 7 (by omega) hq.2.2.2.2.1
      have := ne 9 (by omega) hq.2.2.2.2.2
      omega
    have hi0 : listed.getD i false = false := by rw [← tf i (by omega)]; exact hun
    have hbw := hN.live.below
    clear hun tf ne
    rcases hc with rfl | rfl | rfl | rfl | rfl | rfl | rfl
    · have h3 : listed.getD 3 false = false := by
        cases e : listed.getD 3 false with
        | false => rfl
        | true => exact absurd ((show listed.getD 0 false = true from hN.i3 e).symm.trans hi0) (by decide)
      refine bag_op rfl rfl (fun K hK => ?_)
      unfold actN Oper.wp execOp
      go_simp
      exact hK _ _ (hN.s0 hi0).live.below (inv_mk hsz hq (by omega) (hN.s0 hi0) (hV.s0 h3 _) (by kernel_rfl))
    · have d0 : listed.getD 0 false = true := hdep _ rfl ⟨0, .data⟩ (by simp) rfl
      obtain rfl := hV.v0 d0 hi0
      obtain ⟨g', c', w2, hr2, ho2, hg2, hn2⟩ := app_any (kd := .i64) 22 22 2 _ _ 8 rfl rfl rfl rfl rfl rfl (by omega) (hN.r0 d0 hi0) hbw.size (by omega) ((r1.below hX).below hbw)
      have hN2 := hN.s3 d0 ho2 hg2 hn2
      refine bag_op rfl rfl (fun K hK => ?_)
      unfold actN
      exact wp_app (.tmp 55) (.tmp 57) 22 rfl _ _ _ w2 (by kernel_rfl) (by kernel_rfl) hr2 (hK _ _ hN2.live.below (inv_mk hsz hq (by omega) hN2 (hV.s3 hi0 g' c') (by kernel_rfl)))
    · refine bag_op rfl rfl (fun K hK => ?_)
      unfold actN Oper.wp execOp
      go_simp
      exact hK _ _ (hN.s5 (by omega)).live.below (inv_mk hsz hq (by omega) (hN.s5 (by omega)) (hV.s5 hi0 _) (by kernel_rfl))
    · have h3 : listed.getD 10 false = false := by
        cases e : listed.getD 10 false with
        | false => rfl
        | true => exact absurd ((show listed.getD 8 false = true from hN.i10 e).symm.trans hi0) (by decide)
      refine bag_op rfl rfl (fun K hK => ?_)
      unfold actN Oper.wp execOp
      go_simp
      exact hK _ _ (hN.s8 hi0).live.below (inv_mk hsz hq (by omega) (hN.s8 hi0) (hV.s8 h3 _) (by kernel_rfl))
    · have d0 : listed.getD 8 false = true := hdep _ rfl ⟨8, .data⟩ (by simp) rfl
      obtain rfl := hV.v8_ d0 hi0
      obtain ⟨g', c', w2, hr2, ho2, hg2, hn2⟩ := app_any (kd := .u8) 25 25 5 _ _ 1 rfl rfl rfl rfl rfl rfl (by omega) (hN.r8 d0 hi0) hbw.size (by omega) ((r3.below hX).below hbw)
      have hN2 := hN.s10 d0 ho2 hg2 hn2
      refine bag_op rfl rfl (fun K hK => ?_)
      unfold actN
      exact wp_app (.tmp 63) (.tmp 64) 25 rfl _ _ _ w2 (by kernel_rfl) (by kernel_rfl) hr2 (hK _ _ hN2.live.below (inv_mk hsz hq (by omega) hN2 (hV.s10 hi0 g' c') (by kernel_rfl)))
    · have d3 : listed.getD 3 false = true := hdep _ rfl ⟨3, .data⟩ (by simp) rfl
      have d5 : listed.getD 5 false = true := hdep _ rfl ⟨5, .data⟩ (by simp) rfl
      have d10 : listed.getD 10 false = true := hdep _ rfl ⟨10, .data⟩ (by simp) rfl
      obtain rfl := hV.v3 d3
      obtain rfl := hV.v5 d5
      obtain rfl := hV.v10 d10
      refine bag_op rfl rfl (fun K hK => ?_)
      unfold actN Oper.wp execOp
      go_simp
      exact hK _ _ hbw (inv_mk hsz hq (by omega) hN.s11 (hV.s11 d3 d5 d10) (by kernel_rfl))
    · refine bag_op rfl rfl (fun K hK => ?_)
      unfold actN Oper.wp execOp
      go_simp
      exact hK _ _ hN.s12.live.below (inv_mk hsz hq (by omega) hN.s12 (hV.s12 _) (by kernel_rfl))
  · intro listed a' w' hI hs
    have hsz := hI.1
    have hq := hI.2.1
    have nr := seqB_ready hs
    have tf : ∀ j, j < 14 → listed.getD j true = listed.getD j false := fun j hj => by
      simp only [Array.getD_eq_getD_getElem?]
      rw [Array.getElem?_eq_getElem (by omega)]
      rfl
    have fin : ∀ j, j < 13 → (listed.getD j true = false → j ∈ Region.ready _ _ listed) → listed.getD j false = true := fun j hj h => by
      cases e : listed.getD j false with
      | true => rfl
      | false =>
        have := nr j (h (by rw [tf j (by omega)]; exact e))
        omega
    have l0 := fin 0 (by omega) (fun h => mem_ready.2 ⟨h, _, rfl, fun e he => by simp at he⟩)
    have l5 := fin 5 (by omega) (fun h => mem_ready.2 ⟨h, _, rfl, fun e he hb => by simp at he; rcases he with rfl | rfl; all_goals exact hq.2.2.1⟩)
    have l8 := fin 8 (by omega) (fun h => mem_ready.2 ⟨h, _, rfl, fun e he => by simp at he⟩)
    have l12 := fin 12 (by omega) (fun h => mem_ready.2 ⟨h, _, rfl, fun e he => by simp at he⟩)
    have l3 := fin 3 (by omega) (fun h => mem_ready.2 ⟨h, _, rfl, fun e he hb => by simp at he; rcases he with rfl | rfl; exact l0; exact hq.2.1⟩)
    have l10 := fin 10 (by omega) (fun h => mem_ready.2 ⟨h, _, rfl, fun e he hb => by simp at he; rcases he with rfl | rfl | rfl; exact l8; exact hq.2.2.2.2.2; exact l3⟩)
    have l11 := fin 11 (by omega) (fun h => mem_ready.2 ⟨h, _, rfl, fun e he hb => by simp at he; rcases he with rfl | rfl | rfl | rfl; exact l3; exact l5; exact hq.2.2.2.2.1; exact l10⟩)
    exact made_of hI ⟨l0, l3, l5, l8, l10, l11, l12⟩
  rintro a' w2 ⟨b, cc, ic, v55, v63, hb, hrg, hinj, ro, rm, ri, hz3, rfl⟩
  have hb1 := hb.size
  simp only [World.size_drew, World.size_alloc] at hb1
  have hw2 : Below w.heap.size w w2 := hX.trans (hb.mono (by simp; omega))
  have hY : w2.heap[w.heap.size]? = some (.cells #[.slice (some a1) n1 c1, .slice A2 n2 c2, .int .i64 en] 24) := (hb.block _ (by simp; omega)).trans ((Below.heap_alloc _ _ _ (by simp)).trans (heap_alloc_new w _))
  have hZ : w2.heap[w.heap.size + 1]? = some (.cells ZS 36) := (hb.block _ (by simp)).trans (by have := heap_alloc_new (w.alloc (.cells #[.slice (some a1) n1 c1, .slice A2 n2 c2, .int .i64 en] 24)) (.cells ZS 36); rw [World.size_alloc] at this; exact this)
  have n01 : b 0 ≠ b 1 := fun e => by have := hinj 0 1 (by omega) (by omega) e; omega
  have n21 : b 2 ≠ b 1 := fun e => by have := hinj 2 1 (by omega) (by omega) e; omega
  have n31 : b 3 ≠ b 1 := fun e => by have := hinj 3 1 (by omega) (by omega) e; omega
  have n30 : b 3 ≠ b 0 := fun e => by have := hinj 3 0 (by omega) (by omega) e; omega
  have n32 : b 3 ≠ b 2 := fun e => by have := hinj 3 2 (by omega) (by omega) e; omega
  have q0 := hrg 0 (by omega)
  have q1 := hrg 1 (by omega)
  have q2 := hrg 2 (by omega)
  have q3 := hrg 3 (by omega)
  simp only [World.size_drew, World.size_alloc] at q0 q1 q2 q3
  clear hrg hinj
  generalize b 0 = cb at *
  generalize b 1 = mb at *
  generalize b 2 = ib at *
  generalize b 3 = bo at *
  unfold actN
  simp only [List.drop_succ_cons, List.drop_zero]
  refine wpList_store_over rfl 36 (.tmp 8) (.tmp 66) rfl bo (VS cb n1 cc mb M en ib n3 ic (.int .i64 0)) (by kernel_rfl) (by kernel_rfl) 36 ZS hz3 size36 rfl (VS_one _ _ _ _ _ _ _ _ _ _) (fun w3 hS => ?_)
  have hw3 : Below w.heap.size w w3 := hw2.trans (hS.below (by omega))
  have hY3 := (hS.block w.heap.size (by omega)).trans hY
  have hZ3 := (hS.block (w.heap.size + 1) (by omega)).trans hZ
  have hS3 := hS.here
  have hN0 : NR w3 w3 mb data M 0 := by
    have hm3 : w3.ownsRow 0 2 1 (.slice (some ⟨mb, 0, none⟩) M M) M (nums .i64 (List.replicate M 0)) := own_le (ownsRow_frame rm (fun k hk => hS.block k (fun e => by have hk2 : mb = k := (by simpa [Value.ownBlock] using hk); omega))) (Nat.zero_le _)
    refine ⟨rfl, rfl, rfl, rfl, fun _ _ => rfl, fun j hj => ?_, fun o => World.ownsRow.frozenAt hm3 o⟩
    have := hm3.cells (g := mb) rfl j (.int .i64 0) (by simp [nums, hj])
    rw [add_at] at this
    rw [if_neg (by omega)]
    exact this
  have hz3' := hS.size
  clear hz3 hY hZ
  go_wp2
  go_loopw [9] (fun i wr => ∃ k : Nat, i = .int .i64 (k : Int) ∧ k ≤ n2 ∧ NR w3 wr mb data M k) (fun i _ => n2 - (intOf i).toNat)
  case atStart => exact ⟨0, by go_num, Nat.zero_le _, hN0⟩
  case round =>
    obtain ⟨k, rfl, hk, hR⟩ := hrel
    have hwr : Below w.heap.size w wr := hw3.trans (hR.below (by omega))
    have e1 : wr.cell? ⟨bo, 1, none⟩ = some (.slice (some ⟨mb, 0, none⟩) M M) := (World.cell?_of_block (hR.block bo n31)).trans (hS.cell rfl)
    have e2 : wr.cell? ⟨w.heap.size, 1, none⟩ = some (.slice A2 n2 c2) := (World.cell?_of_block (hR.block w.heap.size (by omega))).trans (by simp only [World.cell?, hY3]; rfl)
    have e3 : wr.cell? ⟨bo, 17, none⟩ = some (.int .i64 0) := (World.cell?_of_block (hR.block bo n31)).trans (hS.cell rfl)
    have e4 : ∀ o, wr.frozen? ⟨bo, o, none⟩ = false := fun o => (World.frozen?_of_block (hR.block bo n31)).trans (by simp [World.frozen?, hS3])
    have hrs := hR.size
    have hbr : bo < wr.heap.size := by omega
    have hmr : mb < wr.heap.size := by omega
    have hy0 : w.heap.size < wr.heap.size := by omega
    by_cases hlt : k < n2
    · have hkM : k < M := by omega
      have hrow := hR.row k hkM
      rw [if_neg (by omega)] at hrow
      have hfree := hR.free
      have hdl : data.length = n2 := by have := r2.1; simpa [nums] using this
      rcases (r2.below hwr).2.2 with ⟨_, e⟩ | ⟨a2, c2', e, hx⟩
      · omega
      · cases e
        have hd := hx k _ (nums_get (show k < data.length by omega))
        have hda : (a2.add k).block < wr.heap.size := World.block_lt_of_cell? wr _ hd
        have hn : ¬ (a2.add k).block = mb := by
          have h0 := World.block_lt_of_cell? w _ (show w.cell? (a2.add k) = _ from by
            rcases r2.2.2 with ⟨e', _⟩ | ⟨a', c', e', hx'⟩
            · cases e'
            · cases e'
              exact hx' k _ (nums_get (show k < data.length by omega)))
          omega
        have HR := Lib.hid hR
        clear hR hN0 hx hdl hmk
        go_wp2
        refine region_tail 9 mixed (by kernel_rfl) ?_
        simp only [List.take_succ_cons, List.take_zero, List.drop_succ_cons, List.drop_zero]
        repeat still_step
        refine wpStill_nil ?_
        go_wp2
        go_roundw
        case rel => exact ⟨k + 1, by go_num, by omega, HR.out.step hkM⟩
        case measure => simp [intOf]; omega
    · obtain rfl : k = n2 := by omega
      have hRb := hR.block
      have hrow := hR.row
      have hfree := hR.free
      have hcell := heap_setCell_same (o := 17) ((hRb bo n31).trans hS3) (.int .i64 (M : Int))
      have hother : ∀ k, k ≠ bo → (wr.setCell ⟨bo, 17, none⟩ (.int .i64 (M : Int))).heap[k]? = wr.heap[k]? := fun k hk => Below.heap_setCell _ _ _ _ hk
      have ht6 := (hother (w.heap.size + 1) (by omega)).trans ((hRb (w.heap.size + 1) (by omega)).trans hZ3)
      have hbb : Below w.heap.size w (wr.setCell ⟨bo, 17, none⟩ (.int .i64 (M : Int))) := hwr.setCell (by dsimp only; omega) _
      have H1 := Lib.hid hcell
      have H2 := Lib.hid ht6
      have H3 := Lib.hid hother
      have H4 := Lib.hid hrow
      have H5 := Lib.hid hfree
      have H6 := Lib.hid hRb
      have H7 := Lib.hid hS3
      clear hcell ht6 hother hrow hfree hRb hR hN0 hS3 hY3 hZ3 hmk hX hb
      go_upto_region 11 with (fail)
      go_upto_region 9999 with (first | (refine wpList_load_row (o := ⟨some 86, _, _, _, _, _⟩) rfl 36 (.tmp 8) rfl bo rfl 36 _ _ _ H1.out Try.underlying36 rfl size36 ?_) | (refine wpList_store_over (o := ⟨none, .store 36 (.tmp 6) (.tmp 86), _, _, _, _⟩) rfl 36 (.tmp 6) (.tmp 86) rfl (w.heap.size + 1) (VS cb n1 cc mb M en ib n3 ic (.int .i64 (M : Int))) rfl (by kernel_rfl) 36 ZS H2.out size36 rfl (VS_one _ _ _ _ _ _ _ _ _ _) (fun w9 hS9 => ?_)))
      have hfr : ∀ k, k ≠ w.heap.size + 1 → k ≠ bo → k ≠ mb → w9.heap[k]? = w2.heap[k]? := fun k k1 k2 k3 => (hS9.block k k1).trans ((H3.out k k2).trans ((H6.out k k3).trans (hS.block k k2)))
      have hmb9 : w9.heap[mb]? = wr.heap[mb]? := (hS9.block mb (by omega)).trans (H3.out mb (Ne.symm n31))
      have hsz9 : w9.heap.size = wr.heap.size := hS9.size.trans (by simp [World.setCell])
      have hdl : data.length = k := by have := r2.1; simpa [nums] using this
      refine bodyPost_ret (results_cell_tmp Try.results15 _ _ _ (w.heap.size + 1) _ rfl (run_loadVar_row (P := Try.prog) _ (w.heap.size + 1) 36 36 _ _ _ hS9.here Try.underlying36 rfl size36)) rfl ⟨cb, cc, mb, ib, ic, rfl, hbb.trans (hS9.below (by omega)),
        own_le (ownsRow_frame ro (fun j hj => ?_)) (by simp; omega), own_le (ownsRow_frame ri (fun j hj => ?_)) (by simp; omega), fun j hj => ?_, fun o => (World.frozen?_of_block hmb9).trans (H5.out o), by omega, by omega, n01, n21⟩
      · have e : cb = j := by simpa [Value.ownBlock] using hj
        subst e
        exact hfr cb (by omega) (Ne.symm n30) n01
      · have e : ib = j := by simpa [Value.ownBlock] using hj
        subst e
        exact hfr ib (by omega) (Ne.symm n32) n21
      · refine (World.cell?_of_block hmb9).trans ((H4.out j hj).trans ?_)
        by_cases hjk : j < k
        · rw [if_pos hjk]
          simp [List.getD_eq_getElem?_getD, List.getElem?_append_left (show j < data.length by omega)]
        · rw [if_neg hjk]
          simp only [List.getD_eq_getElem?_getD, List.getElem?_append_right (show data.length ≤ j by omega), List.getElem?_replicate]
          split <;> rfl
end Go.Proofs.Ytbchiolgbhckhaa.Mach

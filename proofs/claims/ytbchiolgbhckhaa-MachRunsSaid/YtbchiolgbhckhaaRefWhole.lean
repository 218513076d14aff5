/- A whole run of the document's machine. -/
import Derived.Test.YtbchiolgbhckhaaRefNewB
import Derived.Test.YtbchiolgbhckhaaRefNewD
set_option linter.unusedVariables false
set_option linter.unusedSimpArgs false
namespace Go.Proofs.Ytbchiolgbhckhaa.Mach
open Go.RowKit Go.Proofs.YtbchiolgbhckhaaW.PrintWords Go.Proofs.YtbchiolgbhckhaaW.PrintMore Go.Proofs.Ytbchiolgbhckhaa.PMachRuns
theorem ownsRow_len {w : World} {B : Nat} {e : TypeId} {v : Value} {n : Nat} {kd : IntKind} {xs : List Int} (h : w.ownsRow B e 1 v n (nums kd xs)) : xs.length = n := by have := h.1; simpa [nums] using this
set_option maxHeartbeats 1000000 in
theorem rmade {w X w3 : World} {code data inp : List Int} {n1 n3 M cb cc mb ib ic : Nat} {en : Int} (hB : Below w.heap.size w X) (ro : X.ownsRow w.heap.size 2 1 (.slice (some ⟨cb, 0, none⟩) n1 cc) n1 (nums .i64 code)) (ri : X.ownsRow w.heap.size 5 1 (.slice (some ⟨ib, 0, none⟩) n3 ic) n3 (nums .u8 inp))
    (hm : ∀ j, j < M → X.cell? ⟨mb, j, none⟩ = some (.int .i64 ((data ++ List.replicate (M - data.length) 0).getD j 0))) (hf : ∀ o, X.frozen? ⟨mb, o, none⟩ = false) (h0 : w.heap.size ≤ mb) (h1 : mb < X.heap.size) (n01 : cb ≠ mb) (n21 : ib ≠ mb)
    (hdl : data.length ≤ M) (hcl : n1 ≤ 65536) (hM : M ≤ 262144) (hi4 : n3 ≤ 4096) (hcode : ∀ k, -9223372036854775808 ≤ code.getD k 0 ∧ code.getD k 0 ≤ 9223372036854775807) (hinp : ∀ v ∈ inp, 0 ≤ v ∧ v ≤ 255)
    (hS : RowSet (X.alloc (.cells ZS 36)) X.heap.size (VS cb n1 cc mb M en ib n3 ic (.int .i64 (M : Int))) 36 w3) :
    RHolds w3 ⟨X.heap.size, mb, M, cb, cc, some ⟨ib, 0, none⟩, ic, inp, .slice none 0 0⟩ (fresh code data inp en M) ∧ (∀ b, RLay.foot ⟨X.heap.size, mb, M, cb, cc, some ⟨ib, 0, none⟩, ic, inp, .slice none 0 0⟩ b → w.heap.size ≤ b) ∧ Below X.heap.size X w3 := by
  have lc := ro.lt cb rfl
  have li := ri.lt ib rfl
  have lenc := ownsRow_len ro
  have leni := ownsRow_len ri
  have memlen : (data ++ List.replicate (M - data.length) 0).length = M := by simp; omega
  have hsz := hS.size
  simp only [World.size_alloc] at hsz
  have hfr : ∀ k, k < X.heap.size → w3.heap[k]? = X.heap[k]? := fun k hk => (hS.block k (by omega)).trans (Below.heap_alloc _ _ _ hk)
  have hbs := hB.size
  refine ⟨⟨fun o => by simp [World.frozen?, hS.here], fun j hj => ?_, ⟨fun k hk => ?_, fun k hk => ?_, fun o => ?_, ?_, World.ownsRow_nil _ _ _ _, ⟨by dsimp only; omega, by dsimp only; omega, by dsimp only; omega⟩, ⟨by dsimp only; omega, by dsimp only; omega, by dsimp only; omega⟩, ⟨by simp [Value.ownBlock], by simp [Value.ownBlock], by simp [Value.ownBlock]⟩, hcode, ⟨by show code.length ≤ _; omega, by show (data ++ List.replicate (M - data.length) 0).length ≤ _; rw [memlen]; exact hM, by show inp.length ≤ _; omega, hinp⟩⟩, ⟨Nat.le_refl _, ?_⟩⟩, ?_, ?_⟩
  · have h19 : rcell ⟨X.heap.size, mb, M, cb, cc, some ⟨ib, 0, none⟩, ic, inp, .slice none 0 0⟩ (fresh code data inp en M) 19 = .slice (some ⟨ib, 0, none⟩) n3 ic := by show Value.slice _ inp.length _ = _; rw [leni]
    have h20 : rcell ⟨X.heap.size, mb, M, cb, cc, some ⟨ib, 0, none⟩, ic, inp, .slice none 0 0⟩ (fresh code data inp en M) 20 = .int .i64 0 := by show Value.int .i64 ((inp.length : Int) - inp.length) = _; rw [Int.sub_self]
    have h1' : rcell ⟨X.heap.size, mb, M, cb, cc, some ⟨ib, 0, none⟩, ic, inp, .slice none 0 0⟩ (fresh code data inp en M) 1 = .slice (some ⟨mb, 0, none⟩) M M := by show Value.slice _ (data ++ List.replicate (M - data.length) 0).length _ = _; rw [memlen]
    have h0' : rcell ⟨X.heap.size, mb, M, cb, cc, some ⟨ib, 0, none⟩, ic, inp, .slice none 0 0⟩ (fresh code data inp en M) 0 = .slice (some ⟨cb, 0, none⟩) n1 cc := by show Value.slice _ code.length _ = _; rw [lenc]
    have hc : j = 0 ∨ j = 1 ∨ j = 2 ∨ j = 3 ∨ j = 4 ∨ j = 5 ∨ j = 6 ∨ j = 7 ∨ j = 8 ∨ j = 9 ∨ j = 10 ∨ j = 11 ∨ j = 12 ∨ j = 13 ∨ j = 14 ∨ j = 15 ∨ j = 16 ∨ j = 17 ∨ j = 18 ∨ j = 19 ∨ j = 20 ∨ j = 21 ∨ j = 22 ∨ j = 23 ∨ j = 24 := by omega
    rcases hc with rfl | rfl | rfl | rfl | rfl | rfl | rfl | rfl | rfl | rfl | rfl | rfl | rfl | rfl | rfl | rfl | rfl | rfl | rfl | rfl | rfl | rfl | rfl | rfl | rfl
    all_goals first | (rw [h0']; exact hS.cell rfl) | (rw [h1']; exact hS.cell rfl) | (rw [h19]; exact hS.cell rfl) | (rw [h20]; exact hS.cell rfl) | exact hS.cell rfl
  · have h := ro.cells (g := cb) rfl k _ (nums_get hk)
    rw [add_at] at h
    exact (World.cell?_of_block (hfr cb lc.2)).trans h
  · refine (World.cell?_of_block (hfr mb h1)).trans (hm k ?_)
    rw [← memlen]; exact hk
  · exact (World.frozen?_of_block (hfr mb h1)).trans (hf o)
  · refine .inr ⟨ib, 0, rfl, by omega, by show ib ≠ X.heap.size; omega, n21, by simp [Value.ownBlock], fun j hj => ?_⟩
    have h := ri.cells (g := ib) rfl j _ (nums_get hj)
    rw [add_at] at h
    rw [Nat.zero_add]
    exact (World.cell?_of_block (hfr ib li.2)).trans h
  · show inp = inp.drop (inp.length - inp.length)
    rw [Nat.sub_self, List.drop_zero]
  · rintro b (hb | hb | hb | hb | ⟨_, off, hb⟩)
    · rw [hb]; exact hbs
    · rw [hb]; exact h0
    · rw [hb]; exact lc.1
    · cases hb
    · cases hb; exact li.1
  · exact ⟨hS.os, hS.tape, hS.output, by omega, hfr⟩
theorem rnew_good {A1 A2 A3 : Option Addr} {n1 c1 n2 c2 n3 c3 : Nat} {en mem : Int} {code data inp : List Int} {w : World} (him : Image w A1 n1 c1 A2 n2 c2 code data) (hin : Input w A3 n3 c3 inp) (he : newErr n1 n2 n3 en mem = 0) :
    Calls Try.prog 15 #[.agg #[.slice A1 n1 c1, .slice A2 n2 c2, .int .i64 en], .int .i64 mem, .slice A3 n3 c3] w (RNewOk w code data inp n1 n3 mem.toNat en) := by
  obtain ⟨f1, f2, f3, f4, f5, f6, f7, f8⟩ := newErr_ok he
  obtain ⟨a, rfl⟩ := him.some (by omega)
  obtain ⟨M, rfl⟩ : ∃ M : Nat, mem = (M : Int) := ⟨mem.toNat, by omega⟩
  exact rnew_ok a A2 A3 n1 c1 n2 c2 n3 c3 M en code data inp w f1 f2 f3 f4 f5 f6 f7 f8 him.code_at him.data_at hin.at_
theorem rrun_kept {w w2 w3 : World} {L L' : RLay} {s s' : MS} {q1 q2 q3 : Value} (hb : Below ((w.alloc (.cells #[q1, q2, q3] 24)).alloc resO).heap.size ((w.alloc (.cells #[q1, q2, q3] 24)).alloc resO) w2)
    (hft : ∀ b, L.foot b → ((w.alloc (.cells #[q1, q2, q3] 24)).alloc resO).heap.size ≤ b) (hN : RNext w2 L s w3 L' s') (hz : w.heap.size + 1 < w2.heap.size) :
    w3.cell? ⟨w.heap.size + 1, 0, none⟩ = some (.int .i64 0) ∧ w3.cell? ⟨w.heap.size + 1, 1, none⟩ = some (.int .i64 0) ∧ w3.cell? ⟨w.heap.size + 1, 2, none⟩ = some (.slice none 0 0) ∧ w3.cell? ⟨w.heap.size + 1, 3, none⟩ = some (.int .i64 0) ∧ (∀ o, w3.frozen? ⟨w.heap.size + 1, o, none⟩ = false) ∧ Below w.heap.size w w3 := by
  have hs : ((w.alloc (.cells #[q1, q2, q3] 24)).alloc resO).heap.size = w.heap.size + 2 := by simp
  rw [hs] at hb hft
  have hk : w3.heap[w.heap.size + 1]? = ((w.alloc (.cells #[q1, q2, q3] 24)).alloc resO).heap[w.heap.size + 1]? :=
    (hN.far.block _ hz (fun hf => by have := hft _ hf; omega)).trans (hb.block _ (by omega))
  refine ⟨(World.cell?_of_block hk).trans ?_, (World.cell?_of_block hk).trans ?_, (World.cell?_of_block hk).trans ?_, (World.cell?_of_block hk).trans ?_, fun o => (World.frozen?_of_block hk).trans ?_, ?_⟩
  · simp [resO]
  · simp [resO]
  · simp [resO]
  · simp [resO]
  · simp [resO]
  · exact ((below_two _ _).trans (hb.mono (by omega))).trans (hN.far.below (by omega) (fun k hk' => by have := hft k hk'; omega))
set_option maxRecDepth 100000 in
set_option maxHeartbeats 1000000 in
theorem rwhole_any {A1 A2 A3 : Option Addr} {n1 c1 n2 c2 n3 c3 : Nat} {en mem : Int} {code data inp : List Int} {w : World} (him : Image w A1 n1 c1 A2 n2 c2 code data) (hin : Input w A3 n3 c3 inp) (fuel : Int) (hfu : fuel ≤ 9223372036854775807) :
    Calls Try.prog 28 #[.agg #[.slice A1 n1 c1, .slice A2 n2 c2, .int .i64 en], .int .i64 mem, .slice A3 n3 c3, .int .i64 fuel] w fun e w' => ∃ B, Told B (whole n1 n2 n3 en mem code data inp fuel) e w' ∧ w.heap.size ≤ B ∧ Below w.heap.size w w' := by
  by_cases he : newErr n1 n2 n3 en mem = 0
  · obtain ⟨f1, f2, f3, f4, f5, f6, f7, f8⟩ := newErr_ok he
    have hdl : data.length = n2 := by have := him.data_at.1; simpa [nums] using this
    obtain ⟨M, rfl⟩ : ∃ M : Nat, mem = (M : Int) := ⟨mem.toNat, by omega⟩
    have hn : ∀ X, Below w.heap.size w X → Calls Try.prog 15 #[.agg #[.slice A1 n1 c1, .slice A2 n2 c2, .int .i64 en], .int .i64 (M : Int), .slice A3 n3 c3] X (RNewOk X code data inp n1 n3 M en) := fun X hX => by
      have := rnew_good (him.below hX) (hin.below hX) he
      rwa [Int.toNat_natCast] at this
    unfold whole
    rw [if_pos he, Int.toNat_natCast]
    clear he
    by_cases hf9 : 4194304 < fuel
    · rw [show min fuel 4194304 = 4194304 by omega]
      have hd : decide ((4194304 : Int) < fuel) = true := decide_eq_true hf9
      go_enter Try.func28, Try.ntmps28
      go_upto_region 2 with (first | (go_at_call 15; refine (hn _ (below_two _ _)).mono ?_; rintro e w2 ⟨cb, cc, mb, ib, ic, rfl, hB, ro, ri, hm, hf, h0, h1, n01, n21⟩) | (refine wpList_store_over (o := ⟨none, .store 36 (.tmp 9) (.tmp 16), _, _, _, _⟩) rfl 36 (.tmp 9) (.tmp 16) rfl w2.heap.size (VS cb n1 cc mb M en ib n3 ic (.int .i64 (M : Int))) rfl rfl 36 ZS (heap_alloc_new w2 _) size36 rfl (VS_one _ _ _ _ _ _ _ _ _ _) (fun w3 hS => ?_)))
      obtain ⟨hH, hft, hb3⟩ := rmade hB ro ri hm hf h0 h1 n01 n21 (by omega) (by omega) (by omega) (by omega) him.code_in hin.in_ hS; have hz0 := hB.size; simp only [World.size_alloc] at hz0; have hz9 := hb3.size; have hz1 : w.heap.size + 1 < w3.heap.size := by omega
      go_wp2_with ((go_at_call 24; refine (rrun_any hH (fresh_calm _ _ _ _ _) (Nat.zero_le _) (4194304) (by decide)).mono ?_; rintro e w4 ⟨L', B, hN, ⟨v', rfl, hv'⟩, hB1, hB2⟩; obtain ⟨A', cap', rfl⟩ := own_slice hv'; have hz2 : w.heap.size + 1 < B := Nat.lt_of_lt_of_le hz1 hB1; obtain ⟨d0, d1, d2, d3, df, hR⟩ := rrun_kept (bnext hB hb3) hft hN hz1))
      have hlt : w.heap.size + 1 < B := hz2
      have r := fun u0 u1 u2 u3 => ownsRow_setCell_below (ownsRow_setCell_below (ownsRow_setCell_below (ownsRow_setCell_below hv' (a := ⟨w.heap.size + 1, 0, none⟩) hlt u0) (a := ⟨w.heap.size + 1, 1, none⟩) hlt u1) (a := ⟨w.heap.size + 1, 2, none⟩) hlt u2) (a := ⟨w.heap.size + 1, 3, none⟩) hlt u3
      exact bodyPost_ret (v := .agg #[.int .i64 _, .int .i64 _, .slice A' _ cap', .int .i64 _]) (by simp [results, Try.results28, go_sem, d0, d1, d2, d3, df]) rfl ⟨B, ⟨_, rfl, r _ _ _ _⟩, by omega, ((((hR.setCell (p := ⟨w.heap.size + 1, 0, none⟩) (Nat.le_succ _) _).setCell (p := ⟨w.heap.size + 1, 1, none⟩) (Nat.le_succ _) _).setCell (p := ⟨w.heap.size + 1, 2, none⟩) (Nat.le_succ _) _).setCell (p := ⟨w.heap.size + 1, 3, none⟩) (Nat.le_succ _) _)⟩
    · rw [show min fuel 4194304 = fuel by omega]
      have hd : decide ((4194304 : Int) < fuel) = false := decide_eq_false hf9
      go_enter Try.func28, Try.ntmps28
      go_upto_region 2 with (first | (go_at_call 15; refine (hn _ (below_two _ _)).mono ?_; rintro e w2 ⟨cb, cc, mb, ib, ic, rfl, hB, ro, ri, hm, hf, h0, h1, n01, n21⟩) | (refine wpList_store_over (o := ⟨none, .store 36 (.tmp 9) (.tmp 16), _, _, _, _⟩) rfl 36 (.tmp 9) (.tmp 16) rfl w2.heap.size (VS cb n1 cc mb M en ib n3 ic (.int .i64 (M : Int))) rfl rfl 36 ZS (heap_alloc_new w2 _) size36 rfl (VS_one _ _ _ _ _ _ _ _ _ _) (fun w3 hS => ?_)))
      obtain ⟨hH, hft, hb3⟩ := rmade hB ro ri hm hf h0 h1 n01 n21 (by omega) (by omega) (by omega) (by omega) him.code_in hin.in_ hS; have hz0 := hB.size; simp only [World.size_alloc] at hz0; have hz9 := hb3.size; have hz1 : w.heap.size + 1 < w3.heap.size := by omega
      go_wp2_with ((go_at_call 24; refine (rrun_any hH (fresh_calm _ _ _ _ _) (Nat.zero_le _) (fuel) hfu).mono ?_; rintro e w4 ⟨L', B, hN, ⟨v', rfl, hv'⟩, hB1, hB2⟩; obtain ⟨A', cap', rfl⟩ := own_slice hv'; have hz2 : w.heap.size + 1 < B := Nat.lt_of_lt_of_le hz1 hB1; obtain ⟨d0, d1, d2, d3, df, hR⟩ := rrun_kept (bnext hB hb3) hft hN hz1))
      have hlt : w.heap.size + 1 < B := hz2
      have r := fun u0 u1 u2 u3 => ownsRow_setCell_below (ownsRow_setCell_below (ownsRow_setCell_below (ownsRow_setCell_below hv' (a := ⟨w.heap.size + 1, 0, none⟩) hlt u0) (a := ⟨w.heap.size + 1, 1, none⟩) hlt u1) (a := ⟨w.heap.size + 1, 2, none⟩) hlt u2) (a := ⟨w.heap.size + 1, 3, none⟩) hlt u3
      exact bodyPost_ret (v := .agg #[.int .i64 _, .int .i64 _, .slice A' _ cap', .int .i64 _]) (by simp [results, Try.results28, go_sem, d0, d1, d2, d3, df]) rfl ⟨B, ⟨_, rfl, r _ _ _ _⟩, by omega, ((((hR.setCell (p := ⟨w.heap.size + 1, 0, none⟩) (Nat.le_succ _) _).setCell (p := ⟨w.heap.size + 1, 1, none⟩) (Nat.le_succ _) _).setCell (p := ⟨w.heap.size + 1, 2, none⟩) (Nat.le_succ _) _).setCell (p := ⟨w.heap.size + 1, 3, none⟩) (Nat.le_succ _) _)⟩
  · have hn : ∀ X : World, Calls Try.prog 15 #[.agg #[.slice A1 n1 c1, .slice A2 n2 c2, .int .i64 en], .int .i64 mem, .slice A3 n3 c3] X _ := fun X => rnew_bad X rfl he
    have hz : (newErr n1 n2 n3 en mem != 0) = true := by simpa using he
    unfold whole
    rw [if_neg he]
    generalize newErr n1 n2 n3 en mem = er at hn hz
    clear he
    go_enter Try.func28, Try.ntmps28
    go_upto_region 2 with (first | (go_at_call 15; refine (hn _).mono ?_; rintro e w2 ⟨rfl, hB⟩) | (refine wpList_store_over (o := ⟨none, .store 36 (.tmp 9) (.tmp 16), _, _, _, _⟩) rfl 36 (.tmp 9) (.tmp 16) rfl w2.heap.size ZS rfl rfl 36 ZS (heap_alloc_new w2 _) size36 rfl ZS_one (fun w3 hS => ?_)))
    have hz0 := hB.size; simp only [World.size_alloc] at hz0; have hS9 := hS.size; simp only [World.size_alloc] at hS9; have hb3 : Below w2.heap.size w2 w3 := ⟨hS.os, hS.tape, hS.output, by omega, fun k hk => (hS.block k (by omega)).trans (Below.heap_alloc _ _ _ hk)⟩; have hk : w3.heap[w.heap.size + 1]? = ((w.alloc (.cells #[.slice A1 n1 c1, .slice A2 n2 c2, .int .i64 en] 24)).alloc resO).heap[w.heap.size + 1]? := (hb3.block _ (by omega)).trans (hB.block _ (by simp)); have d0 : w3.cell? ⟨w.heap.size + 1, 0, none⟩ = some (.int .i64 0) := (World.cell?_of_block hk).trans (by simp [resO]); have d1 : w3.cell? ⟨w.heap.size + 1, 1, none⟩ = some (.int .i64 0) := (World.cell?_of_block hk).trans (by simp [resO]); have d2 : w3.cell? ⟨w.heap.size + 1, 2, none⟩ = some (.slice none 0 0) := (World.cell?_of_block hk).trans (by simp [resO]); have d3 : w3.cell? ⟨w.heap.size + 1, 3, none⟩ = some (.int .i64 0) := (World.cell?_of_block hk).trans (by simp [resO]); have df : ∀ o, w3.frozen? ⟨w.heap.size + 1, o, none⟩ = false := fun o => (World.frozen?_of_block hk).trans (by simp [resO]); have hR : Below w.heap.size w w3 := bnext (below_two _ _) (bnext hB hb3); have hz1 : w.heap.size + 1 < w3.heap.size := by omega
    clear hk hS
    go_wp2
    exact bodyPost_ret (v := .agg #[.int .i64 5, .int .i64 0, .slice none 0 0, .int .i64 0]) (by simp [results, Try.results28, go_sem, d0, d1, d2, d3, df]) rfl ⟨w3.heap.size, ⟨_, rfl, World.ownsRow_nil _ _ _ _⟩, by omega, ((((hR.setCell (p := ⟨w.heap.size + 1, 0, none⟩) (Nat.le_succ _) _).setCell (p := ⟨w.heap.size + 1, 1, none⟩) (Nat.le_succ _) _).setCell (p := ⟨w.heap.size + 1, 2, none⟩) (Nat.le_succ _) _).setCell (p := ⟨w.heap.size + 1, 3, none⟩) (Nat.le_succ _) _)⟩
end Go.Proofs.Ytbchiolgbhckhaa.Mach

/- How far a machine is. -/
import Derived.Test.YtbchiolgbhckhaaClone
set_option linter.unusedVariables false
set_option linter.unusedSimpArgs false
namespace Go.Proofs.Ytbchiolgbhckhaa.Mach
open Go.RowKit Go.Proofs.YtbchiolgbhckhaaW.PrintWords Go.Proofs.YtbchiolgbhckhaaW.PrintMore Go.Proofs.Ytbchiolgbhckhaa.PMachRuns

theorem own_le {w : World} {base base' : Nat} {e : TypeId} {size : Nat} {v : Value} {n : Nat} {xs : List Value} (h : w.ownsRow base e size v n xs) (hb : base' ≤ base) : w.ownsRow base' e size v n xs :=
  ⟨h.1, h.2.imp id fun ⟨g, cap, cur, hv, hg, r⟩ => ⟨g, cap, cur, hv, Nat.le_trans hb hg, r⟩⟩
theorem outcome_nil (w : World) : Calls Try.prog 23 #[.pointer none] w fun e w' => e = .returned (.agg #[.int .i64 0, .int .i64 0, .slice none 0 0, .int .i64 0]) ∧ Below w.heap.size w w' := by
  go_enter Try.func23, Try.ntmps23
  go_wp2
  exact bodyPost_ret (v := .agg #[.int .i64 0, .int .i64 0, .slice none 0 0, .int .i64 0]) (by simp [results, Try.results23, go_sem]) rfl ⟨rfl, (Below.refl _ _).alloc (Nat.le_refl _) _⟩
set_option maxHeartbeats 400000 in
theorem outcome_some (m : Nat) (k p st : Int) (v : Value) (n : Nat) (xs : List Value) (w : World) (hm : m < w.heap.size) (h21 : w.cell? ⟨m, 21, none⟩ = some (.int .i64 k)) (h22 : w.cell? ⟨m, 22, none⟩ = some (.int .i64 p)) (h23 : w.cell? ⟨m, 23, none⟩ = some (.int .i64 st)) (h20 : w.cell? ⟨m, 20, none⟩ = some v)
    (hv : v.oneCell' = true) (hc : ∀ X, Below w.heap.size w X → Calls Try.prog 31 #[v] X fun e w' => ∃ v', e = .returned v' ∧ w'.ownsRow X.heap.size 5 1 v' n xs ∧ Below X.heap.size X w' ∧ (v' = .slice none 0 0 ∨ ∃ g cap, v' = .slice (some ⟨g, 0, none⟩) n cap)) :
    Calls Try.prog 23 #[.pointer (some ⟨m, 0, none⟩)] w fun e w' => ∃ v', e = .returned (.agg #[.int .i64 k, .int .i64 p, v', .int .i64 st]) ∧ w'.ownsRow w.heap.size 5 1 v' n xs ∧ Below w.heap.size w w' := by
  go_enter Try.func23, Try.ntmps23
  go_wp2
  refine region_way (fun w' => w'.cell? ⟨m, 21, none⟩ = some (.int .i64 k) ∧ w'.cell? ⟨m, 22, none⟩ = some (.int .i64 p) ∧ w'.cell? ⟨m, 23, none⟩ = some (.int .i64 st) ∧ w'.cell? ⟨m, 20, none⟩ = some v) [(0, false), (1, false), (2, false), (3, false), (4, false), (5, false), (6, false), (7, false), (8, false), (9, false), (10, false), (11, false), (13, false), (14, false), (15, false), (16, false), (12, true)] 17 mixed (by kernel_rfl) ?_ ?_
  · go_simp
  refine way_read (some 6) ?v0 rfl rfl (fun _ _ _ h => h) rfl ?y0 ?_
  case y0 => intro w' hS; obtain ⟨s1, s2, s3, s4⟩ := hS; go_simp; try rfl
  refine way_read (some 7) ?v1 rfl rfl (fun _ _ _ h => h) rfl ?y1 ?_
  case y1 => intro w' hS; obtain ⟨s1, s2, s3, s4⟩ := hS; go_simp; try rfl
  refine way_read (some 8) ?v2 rfl rfl (fun _ _ _ h => h) rfl ?y2 ?_
  case y2 => intro w' hS; obtain ⟨s1, s2, s3, s4⟩ := hS; go_simp; try rfl
  refine way_read (some 9) ?v3 rfl rfl (fun _ _ _ h => h) rfl ?y3 ?_
  case y3 => intro w' hS; obtain ⟨s1, s2, s3, s4⟩ := hS; go_simp; try rfl
  refine way_read (some 10) ?v4 rfl rfl (fun _ _ _ h => h) rfl ?y4 ?_
  case y4 => intro w' hS; obtain ⟨s1, s2, s3, s4⟩ := hS; go_simp; try rfl
  refine way_read (some 11) ?v5 rfl rfl (fun _ _ _ h => h) rfl ?y5 ?_
  case y5 => intro w' hS; obtain ⟨s1, s2, s3, s4⟩ := hS; go_simp; try rfl
  refine way_read (some 12) ?v6 rfl rfl (fun _ _ _ h => h) rfl ?y6 ?_
  case y6 => intro w' hS; obtain ⟨s1, s2, s3, s4⟩ := hS; go_simp; try rfl
  refine way_read (some 13) ?v7 rfl rfl (fun _ _ _ h => h) rfl ?y7 ?_
  case y7 => intro w' hS; obtain ⟨s1, s2, s3, s4⟩ := hS; go_simp; try rfl
  refine way_read (some 14) ?v8 rfl rfl (fun _ _ _ h => h) rfl ?y8 ?_
  case y8 => intro w' hS; obtain ⟨s1, s2, s3, s4⟩ := hS; go_simp; try rfl
  refine way_read (some 15) ?v9 rfl rfl (fun _ _ _ h => h) rfl ?y9 ?_
  case y9 => intro w' hS; obtain ⟨s1, s2, s3, s4⟩ := hS; go_simp; try rfl
  refine way_read (some 16) ?v10 rfl rfl (fun _ _ _ h => h) rfl ?y10 ?_
  case y10 => intro w' hS; obtain ⟨s1, s2, s3, s4⟩ := hS; go_simp; try rfl
  refine way_read (some 17) ?v11 rfl rfl (fun _ _ _ h => h) rfl ?y11 ?_
  case y11 => intro w' hS; obtain ⟨s1, s2, s3, s4⟩ := hS; go_simp; try rfl
  refine way_read (some 19) ?v13 rfl rfl (fun _ _ _ h => h) rfl ?y13 ?_
  case y13 => intro w' hS; obtain ⟨s1, s2, s3, s4⟩ := hS; go_simp; try rfl
  refine way_read (some 20) ?v14 rfl rfl (fun _ _ _ h => h) rfl ?y14 ?_
  case y14 => intro w' hS; obtain ⟨s1, s2, s3, s4⟩ := hS; go_simp; try rfl
  refine way_read (some 21) ?v15 rfl rfl (fun _ _ _ h => h) rfl ?y15 ?_
  case y15 => intro w' hS; obtain ⟨s1, s2, s3, s4⟩ := hS; go_simp; try rfl
  refine way_read (some 22) ?v16 rfl rfl (fun _ _ _ h => h) rfl ?y16 ?_
  case y16 => intro w' hS; obtain ⟨s1, s2, s3, s4⟩ := hS; go_simp; try rfl
  refine way_turn rfl rfl (fun K hK => ?_)
  go_simp
  refine (hc _ ?_).mono ?_
  · exact ((Below.refl _ _).alloc (Nat.le_refl _) _).drew
  rintro e w1 ⟨v', rfl, ho, hb, hsh⟩
  obtain ⟨c1, c2⟩ := bcell hb
  have hz0 := hb.size
  simp only [World.size_drew, World.size_alloc] at hz0
  have hz : w.heap.size < w1.heap.size := by omega
  have hbW : Below w.heap.size w w1 := Below.trans ((Below.refl _ _).alloc (Nat.le_refl _) _).drew (hb.mono (by simp))
  have ho' : w1.ownsRow (w.heap.size + 1) 5 1 v' n xs := by simpa using ho
  have hX : ∀ o u, (w1.setCell ⟨w.heap.size, o, none⟩ u).heap.size = w1.heap.size := fun _ _ => by simp [World.setCell]
  refine hK _ _ ?_ (fun _ => ?_)
  · exact ⟨by go_simp, by go_simp, by go_simp, by go_simp⟩
  refine way_done ?_
  simp only [List.drop_succ_cons, List.drop_zero]
  clear hK K
  rcases hsh with rfl | ⟨g, cap, rfl⟩
  · go_simp
    go_wp2
    have r := fun u0 u1 u2 u3 => ownsRow_setCell_below (ownsRow_setCell_below (ownsRow_setCell_below (ownsRow_setCell_below ho' (a := ⟨w.heap.size, 0, none⟩) (Nat.lt_succ_self _) u0) (a := ⟨w.heap.size, 1, none⟩) (Nat.lt_succ_self _) u1) (a := ⟨w.heap.size, 2, none⟩) (Nat.lt_succ_self _) u2) (a := ⟨w.heap.size, 3, none⟩) (Nat.lt_succ_self _) u3
    have r2 := fun u0 u1 u2 u3 => (((hbW.setCell (p := ⟨w.heap.size, 0, none⟩) (Nat.le_refl _) u0).setCell (p := ⟨w.heap.size, 1, none⟩) (Nat.le_refl _) u1).setCell (p := ⟨w.heap.size, 2, none⟩) (Nat.le_refl _) u2).setCell (p := ⟨w.heap.size, 3, none⟩) (Nat.le_refl _) u3
    have d0 : w1.cell? ⟨w.heap.size, 0, none⟩ = some (.int .i64 0) := by rw [c1 _ _ (by simp)]; simp
    have d1 : w1.cell? ⟨w.heap.size, 1, none⟩ = some (.int .i64 0) := by rw [c1 _ _ (by simp)]; simp
    have d2 : w1.cell? ⟨w.heap.size, 2, none⟩ = some (.slice none 0 0) := by rw [c1 _ _ (by simp)]; simp
    have d3 : w1.cell? ⟨w.heap.size, 3, none⟩ = some (.int .i64 0) := by rw [c1 _ _ (by simp)]; simp
    have df : ∀ o, w1.frozen? ⟨w.heap.size, o, none⟩ = false := fun o => by rw [c2 _ _ (by simp)]; simp
    exact bodyPost_ret (v := .agg #[.int .i64 k, .int .i64 p, .slice none 0 0, .int .i64 st]) (by simp [results, Try.results23, go_sem, d0, d1, d2, d3, df]) rfl ⟨_, rfl, own_le (r _ _ _ _) (Nat.le_succ _), r2 _ _ _ _⟩
  · go_simp
    go_wp2
    have r := fun u0 u1 u2 u3 => ownsRow_setCell_below (ownsRow_setCell_below (ownsRow_setCell_below (ownsRow_setCell_below ho' (a := ⟨w.heap.size, 0, none⟩) (Nat.lt_succ_self _) u0) (a := ⟨w.heap.size, 1, none⟩) (Nat.lt_succ_self _) u1) (a := ⟨w.heap.size, 2, none⟩) (Nat.lt_succ_self _) u2) (a := ⟨w.heap.size, 3, none⟩) (Nat.lt_succ_self _) u3
    have r2 := fun u0 u1 u2 u3 => (((hbW.setCell (p := ⟨w.heap.size, 0, none⟩) (Nat.le_refl _) u0).setCell (p := ⟨w.heap.size, 1, none⟩) (Nat.le_refl _) u1).setCell (p := ⟨w.heap.size, 2, none⟩) (Nat.le_refl _) u2).setCell (p := ⟨w.heap.size, 3, none⟩) (Nat.le_refl _) u3
    have d0 : w1.cell? ⟨w.heap.size, 0, none⟩ = some (.int .i64 0) := by rw [c1 _ _ (by simp)]; simp
    have d1 : w1.cell? ⟨w.heap.size, 1, none⟩ = some (.int .i64 0) := by rw [c1 _ _ (by simp)]; simp
    have d2 : w1.cell? ⟨w.heap.size, 2, none⟩ = some (.slice none 0 0) := by rw [c1 _ _ (by simp)]; simp
    have d3 : w1.cell? ⟨w.heap.size, 3, none⟩ = some (.int .i64 0) := by rw [c1 _ _ (by simp)]; simp
    have df : ∀ o, w1.frozen? ⟨w.heap.size, o, none⟩ = false := fun o => by rw [c2 _ _ (by simp)]; simp
    exact bodyPost_ret (v := .agg #[.int .i64 k, .int .i64 p, .slice (some ⟨g, 0, none⟩) n cap, .int .i64 st]) (by simp [results, Try.results23, go_sem, d0, d1, d2, d3, df]) rfl ⟨_, rfl, own_le (r _ _ _ _) (Nat.le_succ _), r2 _ _ _ _⟩
theorem outcome_any {w : World} {L : Lay} {s : MS} (h : Holds w L s) (hl : s.out.length ≤ 4096) : Calls Try.prog 23 #[.pointer (some ⟨L.m, 0, none⟩)] w fun e w' =>
    ∃ v', e = .returned (.agg #[.int .i64 s.kind, .int .i64 s.panics, v', .int .i64 s.steps]) ∧ w'.ownsRow w.heap.size 5 1 v' s.out.length (nums .u8 s.out) ∧ Below w.heap.size w w' := by
  have h20 : w.cell? ⟨L.m, 20, none⟩ = some L.out := h.cells 20 (by omega)
  have h23 : w.cell? ⟨L.m, 23, none⟩ = some (.int .i64 s.steps) := h.cells 23 (by omega)
  have ho := h.rows.out_at
  refine outcome_some L.m s.kind s.panics s.steps L.out s.out.length (nums .u8 s.out) w h.hm h.kind_cell h.panics_cell h23 h20 ?_ ?_
  · rcases ho.2 with ⟨e1, _⟩ | ⟨g, cap, cur, e1, _⟩ <;> rw [e1] <;> rfl
  · intro X hX
    rcases ho.2 with ⟨e1, e2⟩ | ⟨g, cap, cur, e1, _⟩
    · rw [e1]
      have e3 : s.out = [] := List.eq_nil_of_length_eq_zero e2
      refine (clone_nil31 X).mono ?_
      rintro e w' ⟨rfl, rfl⟩
      rw [e3]
      exact ⟨_, rfl, World.ownsRow_nil _ _ _ _, Below.refl _ _, .inl rfl⟩
    · have hx := ho.cells (g := g) (by rw [e1]; rfl)
      rw [e1]
      have hg := (ho.lt g (by rw [e1]; rfl)).2
      refine (clone_some31 X ⟨g, 0, none⟩ s.out.length cap (nums .u8 s.out) (by simp [nums]) (by intro u hu; simp only [nums, List.mem_map] at hu; obtain ⟨x, _, rfl⟩ := hu; rfl) (fun j u hj => (World.cell?_of_block (show X.heap[((⟨g, 0, none⟩ : Addr).add j).block]? = w.heap[((⟨g, 0, none⟩ : Addr).add j).block]? from hX.block _ (by by_cases hj0 : j = 0 <;> simpa [Addr.add, hj0] using hg))).trans (hx j u hj)) (by omega)).mono ?_
      rintro e w' ⟨v, rfl, h1, h2, h3⟩
      exact ⟨v, rfl, h1, h2, .inr h3⟩
end Go.Proofs.Ytbchiolgbhckhaa.Mach

/- So many steps of a machine. -/
import Derived.Test.YtbchiolgbhckhaaA5
import Derived.Laws.OwnMore
import Derived.LoopTactic
section
/- A row's clone is a row of one's own. -/
set_option linter.unusedVariables false
set_option linter.unusedSimpArgs false
namespace Go.Proofs.Ytbchiolgbhckhaa.Mach
open Go.RowKit Go.Proofs.YtbchiolgbhckhaaW.PrintWords Go.Proofs.YtbchiolgbhckhaaW.PrintMore Go.Proofs.Ytbchiolgbhckhaa.PMachRuns

/-- What a slice that came in reads as. -/
def Reads (w : World) (v : Value) (n : Nat) (xs : List Value) : Prop :=
  xs.length = n ∧ (∀ u ∈ xs, u.oneCell' = true) ∧ ((v = .slice none 0 0 ∧ n = 0) ∨ ∃ a c, v = .slice (some a) n c ∧ ∀ j u, xs[j]? = some u → w.cell? (a.add j) = some u)
theorem clone_nil30 (w : World) : Calls Try.prog 30 #[.slice none 0 0] w fun e w' => e = .returned (.slice none 0 0) ∧ w = w' := by
  have hne : ∀ w, (binOp BinOp.eql 22 (.slice none 0 0) (.slice none 0 0)).run Try.prog w = .ok (.bool true) w := fun _ => rfl
  go_enter Try.func30, Try.ntmps30
  go_wp2
  go_ret
  exact ⟨rfl, rfl⟩
theorem clone_nil31 (w : World) : Calls Try.prog 31 #[.slice none 0 0] w fun e w' => e = .returned (.slice none 0 0) ∧ w = w' := by
  have hne : ∀ w, (binOp BinOp.eql 25 (.slice none 0 0) (.slice none 0 0)).run Try.prog w = .ok (.bool true) w := fun _ => rfl
  go_enter Try.func31, Try.ntmps31
  go_wp2
  go_ret
  exact ⟨rfl, rfl⟩
theorem clone_some30 (w : World) (a : Addr) (n c : Nat) (xs : List Value) (hl : xs.length = n) (h1 : ∀ u ∈ xs, u.oneCell' = true) (hx : ∀ j u, xs[j]? = some u → w.cell? (a.add j) = some u) (hb : n ≤ 1000000000) :
    Calls Try.prog 30 #[.slice (some a) n c] w fun e w' => ∃ v, e = .returned v ∧ w'.ownsRow w.heap.size 2 1 v n xs ∧ Below w.heap.size w w' ∧ ∃ g cap, v = .slice (some ⟨g, 0, none⟩) n cap := by
  have hne : ∀ w, (binOp BinOp.eql 22 (.slice (some a) n c) (.slice none 0 0)).run Try.prog w = .ok (.bool false) w := fun _ => rfl
  have hown : (w.alloc (.cells #[] 2)).ownsRow w.heap.size 2 1 (.slice (some ⟨w.heap.size, 0, none⟩) 0 0) 0 [] := World.ownsRow_lit w #[] 0 (Nat.le_refl _) (by unfold maxLen; omega) rfl
  have hx' : ∀ j u, xs[j]? = some u → (w.alloc (.cells #[] 2)).cell? (a.add j) = some u := fun j u hj => (World.cell?_of_block (Below.heap_alloc w _ _ (World.block_lt_of_cell? w _ (hx j u hj)))).trans (hx j u hj)
  go_enter Try.func30, Try.ntmps30
  go_wp2_with (refine wpList_append_own _ rfl (.tmp 5) (.tmp 6) 22 rfl w.heap.size 2 _ _ 1 8 rfl rfl rfl rfl rfl rfl (by omega) _ 0 [] rfl hown a n c xs rfl (by omega) hx' h1 (by unfold maxLen; omega) (by omega) (by simp) (fun v' w' k1 k2 k3 => ?_))
  have k1' : w'.ownsRow w.heap.size 2 1 v' n xs := by rw [Nat.zero_add, List.nil_append] at k1; exact k1
  have hb2 : Below w.heap.size w w' := Below.grown ((Below.refl _ _).alloc (Nat.le_refl _) _) k2 (show w.heap.size ≤ (w.alloc (.cells #[] 2)).heap.size by simp) (fun k hk => by cases hk; exact Nat.le_refl _)
  have hv : ∃ g cap, v' = .slice (some ⟨g, 0, none⟩) n cap := by
    rcases k1'.2 with ⟨h0, _⟩ | ⟨g, cap, _, h0, _⟩
    · exact (by have h9 := (k3.1 h0).1; cases h9)
    · exact ⟨g, cap, h0⟩
  obtain ⟨g, cap, rfl⟩ := hv
  go_wp2
  go_ret
  exact ⟨_, rfl, k1', hb2, g, cap, rfl⟩
theorem clone_some31 (w : World) (a : Addr) (n c : Nat) (xs : List Value) (hl : xs.length = n) (h1 : ∀ u ∈ xs, u.oneCell' = true) (hx : ∀ j u, xs[j]? = some u → w.cell? (a.add j) = some u) (hb : n ≤ 1000000000) :
    Calls Try.prog 31 #[.slice (some a) n c] w fun e w' => ∃ v, e = .returned v ∧ w'.ownsRow w.heap.size 5 1 v n xs ∧ Below w.heap.size w w' ∧ ∃ g cap, v = .slice (some ⟨g, 0, none⟩) n cap := by
  have hne : ∀ w, (binOp BinOp.eql 25 (.slice (some a) n c) (.slice none 0 0)).run Try.prog w = .ok (.bool false) w := fun _ => rfl
  have hown : (w.alloc (.cells #[] 5)).ownsRow w.heap.size 5 1 (.slice (some ⟨w.heap.size, 0, none⟩) 0 0) 0 [] := World.ownsRow_lit w #[] 0 (Nat.le_refl _) (by unfold maxLen; omega) rfl
  have hx' : ∀ j u, xs[j]? = some u → (w.alloc (.cells #[] 5)).cell? (a.add j) = some u := fun j u hj => (World.cell?_of_block (Below.heap_alloc w _ _ (World.block_lt_of_cell? w _ (hx j u hj)))).trans (hx j u hj)
  go_enter Try.func31, Try.ntmps31
  go_wp2_with (refine wpList_append_own _ rfl (.tmp 5) (.tmp 6) 25 rfl w.heap.size 5 _ _ 1 1 rfl rfl rfl rfl rfl rfl (by omega) _ 0 [] rfl hown a n c xs rfl (by omega) hx' h1 (by unfold maxLen; omega) (by omega) (by simp) (fun v' w' k1 k2 k3 => ?_))
  have k1' : w'.ownsRow w.heap.size 5 1 v' n xs := by rw [Nat.zero_add, List.nil_append] at k1; exact k1
  have hb2 : Below w.heap.size w w' := Below.grown ((Below.refl _ _).alloc (Nat.le_refl _) _) k2 (show w.heap.size ≤ (w.alloc (.cells #[] 5)).heap.size by simp) (fun k hk => by cases hk; exact Nat.le_refl _)
  have hv : ∃ g cap, v' = .slice (some ⟨g, 0, none⟩) n cap := by
    rcases k1'.2 with ⟨h0, _⟩ | ⟨g, cap, _, h0, _⟩
    · exact (by have h9 := (k3.1 h0).1; cases h9)
    · exact ⟨g, cap, h0⟩
  obtain ⟨g, cap, rfl⟩ := hv
  go_wp2
  go_ret
  exact ⟨_, rfl, k1', hb2, g, cap, rfl⟩
end Go.Proofs.Ytbchiolgbhckhaa.Mach
end

section
/- How far a machine is. -/
set_option linter.unusedVariables false
set_option linter.unusedSimpArgs false
namespace Go.Proofs.Ytbchiolgbhckhaa.Mach
open Go.RowKit Go.Proofs.YtbchiolgbhckhaaW.PrintWords Go.Proofs.YtbchiolgbhckhaaW.PrintMore Go.Proofs.Ytbchiolgbhckhaa.PMachRuns

theorem own_le {w : World} {base base' : Nat} {e : TypeId} {size : Nat} {v : Value} {n : Nat} {xs : List Value} (h : w.ownsRow base e size v n xs) (hb : base' ≤ base) : w.ownsRow base' e size v n xs :=
  ⟨h.1, h.2.imp id fun ⟨g, cap, cur, hv, hg, r⟩ => ⟨g, cap, cur, hv, Nat.le_trans hb hg, r⟩⟩
theorem outcome_nil (w : World) : Calls Try.prog 23 #[.pointer none] w fun e w' => e = .returned (.agg #[.int .i64 0, .int .i64 0, .slice none 0 0, .int .i64 0]) ∧ Below w.heap.size w w' := by
  go_enter Try.func23, Try.ntmps23
  go_wp2
  exact bodyPost_ret (v := .agg #[.int .i64 0, .int .i64 0, .slice none 0 0, .int .i64 0]) (by simp [results, Try.results23, go_sem]) rfl ⟨rfl, (Below.refl _ _).alloc (Nat.le_refl _) _⟩
set_option maxHeartbeats 400000 in
theorem outcome_some (m : Nat) (k p st : Int) (v : Value) (n : Nat) (xs : List Value) (w : World) (hm : m < w.heap.size) (h21 : w.cell? ⟨m, 21, none⟩ = some (.int .i64 k)) (h22 : w.cell? ⟨m, 22, none⟩ = some (.int .i64 p)) (h23 : w.cell? ⟨m, 23, none⟩ = some (.int .i64 st)) (h20 : w.cell? ⟨m, 20, none⟩ = some v)
    (hv : v.oneCell' = true) (hc : ∀ X, Below w.heap.size w X → Calls Try.prog 31 #[v] X fun e w' => ∃ v', e = .returned v' ∧ w'.ownsRow X.heap.size 5 1 v' n xs ∧ Below X.heap.size X w' ∧ (v' = .slice none 0 0 ∨ ∃ g cap, v' = .slice (some ⟨g, 0, none⟩) n cap)) :
    Calls Try.prog 23 #[.pointer (some ⟨m, 0, none⟩)] w fun e w' => ∃ v', e = .returned (.agg #[.int .i64 k, .int .i64 p, v', .int .i64 st]) ∧ w'.ownsRow w.heap.size 5 1 v' n xs ∧ Below w.heap.size w w' := by
  go_enter Try.func23, Try.ntmps23
  go_wp2
  refine region_way (fun w' => w'.cell? ⟨m, 21, none⟩ = some (.int .i64 k) ∧ w'.cell? ⟨m, 22, none⟩ = some (.int .i64 p) ∧ w'.cell? ⟨m, 23, none⟩ = some (.int .i64 st) ∧ w'.cell? ⟨m, 20, none⟩ = some v) [(0, false), (1, false), (2, false), (3, false), (4, false), (5, false), (6, false), (7, false), (8, false), (9, false), (10, false), (11, false), (13, false), (14, false), (15, false), (16, false), (12, true)] 17 mixed (by kernel_rfl) ?_ ?_
  · go_simp
  refine way_read (some 6) ?v0 rfl rfl (fun _ _ _ h => h) rfl ?y0 ?_
  case y0 => intro w' hS; obtain ⟨s1, s2, s3, s4⟩ := hS; go_simp; try rfl
  refine way_read (some 7) ?v1 rfl rfl (fun _ _ _ h => h) rfl ?y1 ?_
  case y1 => intro w' hS; obtain ⟨s1, s2, s3, s4⟩ := hS; go_simp; try rfl
  refine way_read (some 8) ?v2 rfl rfl (fun _ _ _ h => h) rfl ?y2 ?_
  case y2 => intro w' hS; obtain ⟨s1, s2, s3, s4⟩ := hS; go_simp; try rfl
  refine way_read (some 9) ?v3 rfl rfl (fun _ _ _ h => h) rfl ?y3 ?_
  case y3 => intro w' hS; obtain ⟨s1, s2, s3, s4⟩ := hS; go_simp; try rfl
  refine way_read (some 10) ?v4 rfl rfl (fun _ _ _ h => h) rfl ?y4 ?_
  case y4 => intro w' hS; obtain ⟨s1, s2, s3, s4⟩ := hS; go_simp; try rfl
  refine way_read (some 11) ?v5 rfl rfl (fun _ _ _ h => h) rfl ?y5 ?_
  case y5 => intro w' hS; obtain ⟨s1, s2, s3, s4⟩ := hS; go_simp; try rfl
  refine way_read (some 12) ?v6 rfl rfl (fun _ _ _ h => h) rfl ?y6 ?_
  case y6 => intro w' hS; obtain ⟨s1, s2, s3, s4⟩ := hS; go_simp; try rfl
  refine way_read (some 13) ?v7 rfl rfl (fun _ _ _ h => h) rfl ?y7 ?_
  case y7 => intro w' hS; obtain ⟨s1, s2, s3, s4⟩ := hS; go_simp; try rfl
  refine way_read (some 14) ?v8 rfl rfl (fun _ _ _ h => h) rfl ?y8 ?_
  case y8 => intro w' hS; obtain ⟨s1, s2, s3, s4⟩ := hS; go_simp; try rfl
  refine way_read (some 15) ?v9 rfl rfl (fun _ _ _ h => h) rfl ?y9 ?_
  case y9 => intro w' hS; obtain ⟨s1, s2, s3, s4⟩ := hS; go_simp; try rfl
  refine way_read (some 16) ?v10 rfl rfl (fun _ _ _ h => h) rfl ?y10 ?_
  case y10 => intro w' hS; obtain ⟨s1, s2, s3, s4⟩ := hS; go_simp; try rfl
  refine way_read (some 17) ?v11 rfl rfl (fun _ _ _ h => h) rfl ?y11 ?_
  case y11 => intro w' hS; obtain ⟨s1, s2, s3, s4⟩ := hS; go_simp; try rfl
  refine way_read (some 19) ?v13 rfl rfl (fun _ _ _ h => h) rfl ?y13 ?_
  case y13 => intro w' hS; obtain ⟨s1, s2, s3, s4⟩ := hS; go_simp; try rfl
  refine way_read (some 20) ?v14 rfl rfl (fun _ _ _ h => h) rfl ?y14 ?_
  case y14 => intro w' hS; obtain ⟨s1, s2, s3, s4⟩ := hS; go_simp; try rfl
  refine way_read (some 21) ?v15 rfl rfl (fun _ _ _ h => h) rfl ?y15 ?_
  case y15 => intro w' hS; obtain ⟨s1, s2, s3, s4⟩ := hS; go_simp; try rfl
  refine way_read (some 22) ?v16 rfl rfl (fun _ _ _ h => h) rfl ?y16 ?_
  case y16 => intro w' hS; obtain ⟨s1, s2, s3, s4⟩ := hS; go_simp; try rfl
  refine way_turn rfl rfl (fun K hK => ?_)
  go_simp
  refine (hc _ ?_).mono ?_
  · exact ((Below.refl _ _).alloc (Nat.le_refl _) _).drew
  rintro e w1 ⟨v', rfl, ho, hb, hsh⟩
  obtain ⟨c1, c2⟩ := bcell hb
  have hz0 := hb.size
  simp only [World.size_drew, World.size_alloc] at hz0
  have hz : w.heap.size < w1.heap.size := by omega
  have hbW : Below w.heap.size w w1 := Below.trans ((Below.refl _ _).alloc (Nat.le_refl _) _).drew (hb.mono (by simp))
  have ho' : w1.ownsRow (w.heap.size + 1) 5 1 v' n xs := by simpa using ho
  have hX : ∀ o u, (w1.setCell ⟨w.heap.size, o, none⟩ u).heap.size = w1.heap.size := fun _ _ => by simp [World.setCell]
  refine hK _ _ ?_ (fun _ => ?_)
  · exact ⟨by go_simp, by go_simp, by go_simp, by go_simp⟩
  refine way_done ?_
  simp only [List.drop_succ_cons, List.drop_zero]
  clear hK K
  rcases hsh with rfl | ⟨g, cap, rfl⟩
  · go_simp
    go_wp2
    have r := fun u0 u1 u2 u3 => ownsRow_setCell_below (ownsRow_setCell_below (ownsRow_setCell_below (ownsRow_setCell_below ho' (a := ⟨w.heap.size, 0, none⟩) (Nat.lt_succ_self _) u0) (a := ⟨w.heap.size, 1, none⟩) (Nat.lt_succ_self _) u1) (a := ⟨w.heap.size, 2, none⟩) (Nat.lt_succ_self _) u2) (a := ⟨w.heap.size, 3, none⟩) (Nat.lt_succ_self _) u3
    have r2 := fun u0 u1 u2 u3 => (((hbW.setCell (p := ⟨w.heap.size, 0, none⟩) (Nat.le_refl _) u0).setCell (p := ⟨w.heap.size, 1, none⟩) (Nat.le_refl _) u1).setCell (p := ⟨w.heap.size, 2, none⟩) (Nat.le_refl _) u2).setCell (p := ⟨w.heap.size, 3, none⟩) (Nat.le_refl _) u3
    have d0 : w1.cell? ⟨w.heap.size, 0, none⟩ = some (.int .i64 0) := by rw [c1 _ _ (by simp)]; simp
    have d1 : w1.cell? ⟨w.heap.size, 1, none⟩ = some (.int .i64 0) := by rw [c1 _ _ (by simp)]; simp
    have d2 : w1.cell? ⟨w.heap.size, 2, none⟩ = some (.slice none 0 0) := by rw [c1 _ _ (by simp)]; simp
    have d3 : w1.cell? ⟨w.heap.size, 3, none⟩ = some (.int .i64 0) := by rw [c1 _ _ (by simp)]; simp
    have df : ∀ o, w1.frozen? ⟨w.heap.size, o, none⟩ = false := fun o => by rw [c2 _ _ (by simp)]; simp
    exact bodyPost_ret (v := .agg #[.int .i64 k, .int .i64 p, .slice none 0 0, .int .i64 st]) (by simp [results, Try.results23, go_sem, d0, d1, d2, d3, df]) rfl ⟨_, rfl, own_le (r _ _ _ _) (Nat.le_succ _), r2 _ _ _ _⟩
  · go_simp
    go_wp2
    have r := fun u0 u1 u2 u3 => ownsRow_setCell_below (ownsRow_setCell_below (ownsRow_setCell_below (ownsRow_setCell_below ho' (a := ⟨w.heap.size, 0, none⟩) (Nat.lt_succ_self _) u0) (a := ⟨w.heap.size, 1, none⟩) (Nat.lt_succ_self _) u1) (a := ⟨w.heap.size, 2, none⟩) (Nat.lt_succ_self _) u2) (a := ⟨w.heap.size, 3, none⟩) (Nat.lt_succ_self _) u3
    have r2 := fun u0 u1 u2 u3 => (((hbW.setCell (p := ⟨w.heap.size, 0, none⟩) (Nat.le_refl _) u0).setCell (p := ⟨w.heap.size, 1, none⟩) (Nat.le_refl _) u1).setCell (p := ⟨w.heap.size, 2, none⟩) (Nat.le_refl _) u2).setCell (p := ⟨w.heap.size, 3, none⟩) (Nat.le_refl _) u3
    have d0 : w1.cell? ⟨w.heap.size, 0, none⟩ = some (.int .i64 0) := by rw [c1 _ _ (by simp)]; simp
    have d1 : w1.cell? ⟨w.heap.size, 1, none⟩ = some (.int .i64 0) := by rw [c1 _ _ (by simp)]; simp
    have d2 : w1.cell? ⟨w.heap.size, 2, none⟩ = some (.slice none 0 0) := by rw [c1 _ _ (by simp)]; simp
    have d3 : w1.cell? ⟨w.heap.size, 3, none⟩ = some (.int .i64 0) := by rw [c1 _ _ (by simp)]; simp
    have df : ∀ o, w1.frozen? ⟨w.heap.size, o, none⟩ = false := fun o => by rw [c2 _ _ (by simp)]; simp
    exact bodyPost_ret (v := .agg #[.int .i64 k, .int .i64 p, .slice (some ⟨g, 0, none⟩) n cap, .int .i64 st]) (by simp [results, Try.results23, go_sem, d0, d1, d2, d3, df]) rfl ⟨_, rfl, own_le (r _ _ _ _) (Nat.le_succ _), r2 _ _ _ _⟩
theorem outcome_any {w : World} {L : Lay} {s : MS} (h : Holds w L s) (hl : s.out.length ≤ 4096) : Calls Try.prog 23 #[.pointer (some ⟨L.m, 0, none⟩)] w fun e w' =>
    ∃ v', e = .returned (.agg #[.int .i64 s.kind, .int .i64 s.panics, v', .int .i64 s.steps]) ∧ w'.ownsRow w.heap.size 5 1 v' s.out.length (nums .u8 s.out) ∧ Below w.heap.size w w' := by
  have h20 : w.cell? ⟨L.m, 20, none⟩ = some L.out := h.cells 20 (by omega)
  have h23 : w.cell? ⟨L.m, 23, none⟩ = some (.int .i64 s.steps) := h.cells 23 (by omega)
  have ho := h.rows.out_at
  refine outcome_some L.m s.kind s.panics s.steps L.out s.out.length (nums .u8 s.out) w h.hm h.kind_cell h.panics_cell h23 h20 ?_ ?_
  · rcases ho.2 with ⟨e1, _⟩ | ⟨g, cap, cur, e1, _⟩ <;> rw [e1] <;> rfl
  · intro X hX
    rcases ho.2 with ⟨e1, e2⟩ | ⟨g, cap, cur, e1, _⟩
    · rw [e1]
      have e3 : s.out = [] := List.eq_nil_of_length_eq_zero e2
      refine (clone_nil31 X).mono ?_
      rintro e w' ⟨rfl, rfl⟩
      rw [e3]
      exact ⟨_, rfl, World.ownsRow_nil _ _ _ _, Below.refl _ _, .inl rfl⟩
    · have hx := ho.cells (g := g) (by rw [e1]; rfl)
      rw [e1]
      have hg := (ho.lt g (by rw [e1]; rfl)).2
      refine (clone_some31 X ⟨g, 0, none⟩ s.out.length cap (nums .u8 s.out) (by simp [nums]) (by intro u hu; simp only [nums, List.mem_map] at hu; obtain ⟨x, _, rfl⟩ := hu; rfl) (fun j u hj => (World.cell?_of_block (show X.heap[((⟨g, 0, none⟩ : Addr).add j).block]? = w.heap[((⟨g, 0, none⟩ : Addr).add j).block]? from hX.block _ (by by_cases hj0 : j = 0 <;> simpa [Addr.add, hj0] using hg))).trans (hx j u hj)) (by omega)).mono ?_
      rintro e w' ⟨v, rfl, h1, h2, h3⟩
      exact ⟨v, rfl, h1, h2, .inr h3⟩
end Go.Proofs.Ytbchiolgbhckhaa.Mach
end

section
/- So many steps of a machine that lies in memory; and what is asked of one. -/
set_option linter.unusedVariables false
set_option linter.unusedSimpArgs false
namespace Go.Proofs.Ytbchiolgbhckhaa.Mach
open Go.RowKit Go.Proofs.YtbchiolgbhckhaaW.PrintWords Go.Proofs.YtbchiolgbhckhaaW.PrintMore Go.Proofs.Ytbchiolgbhckhaa.PMachRuns

theorem runN_stop {s : MS} (h : ¬ s.kind = 0) (n : Nat) : runN n s = s := by
  cases n with
  | zero => rfl
  | succ n => simp [runN, h]
theorem runN_go {s : MS} (h : s.kind = 0) {j : Int} (hj : 0 < j) : runN j.toNat s = runN (j - 1).toNat (step1 s) := by
  obtain ⟨n, hn⟩ : ∃ n, j.toNat = n + 1 := ⟨j.toNat - 1, by omega⟩
  rw [hn, show (j - 1).toNat = n by omega]
  simp [runN, h]
def OutOk (s t : MS) : Prop := t.out = s.out ∨ (s.out.length < 4096 ∧ t.out.length = s.out.length + 1)
theorem OutOk.ite {c : Prop} [Decidable c] {s a b : MS} (ha : OutOk s a) (hb : OutOk s b) : OutOk s (if c then a else b) := by
  split
  · exact ha
  · exact hb
theorem exec_ok (x : I5) (s : MS) : OutOk s (exec x s) := by
  unfold exec trapS MS.call
  refine .ite (.inl rfl) (.ite (.ite (.inl rfl) (.ite (.inl rfl) (.ite (.inl rfl) (.inl rfl)))) (.ite (.inl rfl) (.ite (.inl rfl) (.ite (.inl rfl) (.ite (.ite (.inl rfl) (.inl rfl)) (.ite (.ite (.inl rfl) (.inl rfl)) (.ite (.inl rfl) (.ite (.ite (.inl rfl) (.inl rfl)) (.ite (.ite (.inl rfl) (.inl rfl)) (.ite (.ite (.inl rfl) (.inl rfl)) (.ite (.ite (.inl rfl) (.inl rfl)) (.ite (.ite (.inl rfl) (.inl rfl)) (.ite ?_ (.ite ?_ (.ite (.inl rfl) (.ite (.inl rfl) (.inl rfl)))))))))))))))))
  · cases s.inp <;> exact .inl rfl
  · by_cases h : s.out.length < 4096
    · rw [if_pos h]; exact .inr ⟨h, List.length_append⟩
    · rw [if_neg h]; exact .inl rfl
theorem exec_out (x : I5) (s : MS) (h : s.out.length ≤ 4096) : (exec x s).out.length ≤ 4096 := by
  rcases exec_ok x s with e | ⟨e1, e2⟩
  · rw [e]; exact h
  · omega
theorem step1_out (s : MS) (h : s.out.length ≤ 4096) : (step1 s).out.length ≤ 4096 := by
  unfold step1
  dsimp only
  split
  · split
    · exact h
    · exact exec_out _ _ h
  · exact h
/-- How far a machine is, told anew: the output is a row of its own. -/
def Told (B : Nat) (s : MS) (e : Ending) (w' : World) : Prop :=
  ∃ v', e = .returned (.agg #[.int .i64 s.kind, .int .i64 s.panics, v', .int .i64 s.steps]) ∧ w'.ownsRow B 5 1 v' s.out.length (nums .u8 s.out)
theorem Next.size_le {w w' : World} {L L' : Lay} {s s' : MS} (h : Next w L s w' L' s') : w.heap.size ≤ w'.heap.size := h.far.size
theorem own_slice {w : World} {base : Nat} {e : TypeId} {size : Nat} {v : Value} {n : Nat} {xs : List Value} (h : w.ownsRow base e size v n xs) : ∃ A cap, v = .slice A n cap := by
  rcases h.2 with ⟨rfl, rfl⟩ | ⟨g, cap, cur, rfl, _⟩
  · exact ⟨none, 0, rfl⟩
  · exact ⟨_, cap, rfl⟩
/-- An outcome's own place, not yet written. -/
def resO : Obj := .cells #[.int .i64 0, .int .i64 0, .slice none 0 0, .int .i64 0] 34
theorem res_kept {w wr w3 : World} {L L1 : Lay} {s s1 : MS} (h : Holds w L s) (hN : Next (w.alloc resO) L s wr L1 s1) (hb : Below wr.heap.size wr w3) :
    w3.cell? ⟨w.heap.size, 0, none⟩ = some (.int .i64 0) ∧ w3.cell? ⟨w.heap.size, 1, none⟩ = some (.int .i64 0) ∧ w3.cell? ⟨w.heap.size, 2, none⟩ = some (.slice none 0 0) ∧ w3.cell? ⟨w.heap.size, 3, none⟩ = some (.int .i64 0) ∧ ∀ o, w3.frozen? ⟨w.heap.size, o, none⟩ = false := by
  have hz : w.heap.size < (w.alloc resO).heap.size := by simp
  have hk : w3.heap[w.heap.size]? = (w.alloc resO).heap[w.heap.size]? :=
    (hb.block _ (Nat.lt_of_lt_of_le hz hN.far.size)).trans (hN.far.block _ hz (fun hf => by have := h.rows.lt hf; omega))
  refine ⟨(World.cell?_of_block hk).trans ?_, (World.cell?_of_block hk).trans ?_, (World.cell?_of_block hk).trans ?_, (World.cell?_of_block hk).trans ?_, fun o => (World.frozen?_of_block hk).trans ?_⟩ <;> simp [resO]
theorem res_done {w wr w3 : World} {L L1 : Lay} {s s1 : MS} {v : Value} (h : Holds w L s) (hN : Next (w.alloc resO) L s wr L1 s1) (hb : Below wr.heap.size wr w3) (hv : w3.ownsRow wr.heap.size 5 1 v s1.out.length (nums .u8 s1.out)) (a b c d : Value) :
    ∃ B, Next w L s ((((w3.setCell ⟨w.heap.size, 0, none⟩ a).setCell ⟨w.heap.size, 1, none⟩ b).setCell ⟨w.heap.size, 2, none⟩ c).setCell ⟨w.heap.size, 3, none⟩ d) L1 s1 ∧
      ((((w3.setCell ⟨w.heap.size, 0, none⟩ a).setCell ⟨w.heap.size, 1, none⟩ b).setCell ⟨w.heap.size, 2, none⟩ c).setCell ⟨w.heap.size, 3, none⟩ d).ownsRow B 5 1 v s1.out.length (nums .u8 s1.out) ∧ w.heap.size ≤ B ∧ ∀ b, L1.foot s1.inp b → b < B := by
  have hz : w.heap.size < (w.alloc resO).heap.size := by simp
  have hz2 := hN.far.size
  have hlt : ∀ k, L.foot s.inp k → k < w.heap.size := fun k hk => h.rows.lt hk
  have hn1 : ¬ L1.foot s1.inp w.heap.size := fun hf => by
    rcases hN.near _ hf with h' | h'
    · have := hlt _ h'; omega
    · omega
  have h3 := (hN.below hb).holds
  have hset : ∀ {wx : World} (o : Nat) (u : Value), Holds wx L1 s1 → Holds (wx.setCell ⟨w.heap.size, o, none⟩ u) L1 s1 := fun o u hx =>
    hx.frame (by simp [World.setCell]) fun b hb' => Below.heap_setCell _ _ _ _ (fun e => hn1 (show L1.foot s1.inp w.heap.size from (show b = w.heap.size from e) ▸ hb'))
  have hfar : ∀ {wx : World} (o : Nat) (u : Value), Far (L.foot s.inp) w wx → Far (L.foot s.inp) w (wx.setCell ⟨w.heap.size, o, none⟩ u) := fun o u hx =>
    ⟨hx.os, hx.tape, hx.output, by simpa [World.setCell] using hx.size, fun k hk hn => (Below.heap_setCell _ _ _ _ (show k ≠ w.heap.size by omega)).trans (hx.block k hk hn)⟩
  have f3 : Far (L.foot s.inp) w w3 := (Far.of_below (may := L.foot s.inp) ((Below.refl _ _).alloc (Nat.le_refl _) resO)).trans ((hN.far.trans (Far.of_below (may := fun _ => False) hb) (fun _ _ => False.elim))) (fun _ _ h => h)
  refine ⟨wr.heap.size, ⟨hset _ _ (hset _ _ (hset _ _ (hset _ _ h3))), hN.same, hfar _ _ (hfar _ _ (hfar _ _ (hfar _ _ f3))), fun b hb' => (hN.near b hb').imp id (fun h' => by omega)⟩, ?_, by omega, fun b hb' => hN.holds.rows.lt hb'⟩
  have hw : w.heap.size < wr.heap.size := by omega
  exact ownsRow_setCell_below (ownsRow_setCell_below (ownsRow_setCell_below (ownsRow_setCell_below hv (a := ⟨w.heap.size, 0, none⟩) hw _) (a := ⟨w.heap.size, 1, none⟩) hw _) (a := ⟨w.heap.size, 2, none⟩) hw _) (a := ⟨w.heap.size, 3, none⟩) hw _
set_option maxHeartbeats 1000000 in
theorem run_any {w : World} {L : Lay} {s : MS} (h : Holds w L s) (hl : s.out.length ≤ 4096) (n : Int) (hn : n ≤ 9223372036854775807) : Calls Try.prog 25 #[.pointer (some ⟨L.m, 0, none⟩), .int .i64 n] w fun e w' =>
    ∃ L' B, Next w L s w' L' (runN n.toNat s) ∧ Told B (runN n.toNat s) e w' ∧ w.heap.size ≤ B ∧ ∀ b, L'.foot (runN n.toNat s).inp b → b < B := by
  have h1 := h.below ((Below.refl _ _).alloc (Nat.le_refl _) (.cells #[.int .i64 0, .int .i64 0, .slice none 0 0, .int .i64 0] 34))
  have hm := h.hm
  go_enter Try.func25, Try.ntmps25
  go_wp2
  go_loopw [1] (fun i wr => ∃ j L1 s1, i = .int .i64 j ∧ j ≤ n ∧ s1.out.length ≤ 4096 ∧ Next (w.alloc (.cells #[.int .i64 0, .int .i64 0, .slice none 0 0, .int .i64 0] 34)) L s wr L1 s1 ∧ runN j.toNat s1 = runN n.toNat s) (fun i _ => (intOf i).toNat)
  case atStart => exact ⟨n, L, s, rfl, Int.le_refl _, hl, Next.refl h1, rfl⟩
  case round =>
    obtain ⟨j, L1, s1, rfl, hjn, ho, hN, hR⟩ := hrel
    have hL1 : L1.m = L.m := hN.same
    have hH := hN.holds
    by_cases hj : 0 < j
    · by_cases hk : s1.kind = 0
      · have hs := step_any hH hk
        rw [hL1] at hs
        go_wp2_with (go_at_call 17; refine hs.mono ?_; rintro e w2 ⟨rfl, L2, hN2⟩)
        go_roundw
        case rel => exact ⟨j - 1, L2, step1 s1, by go_num, by omega, step1_out _ ho, hN.trans hN2, (runN_go hk hj).symm.trans hR⟩
        case measure => simp [intOf]; omega
      · have hs := step_stop hH hk
        rw [hL1] at hs
        go_wp2_with (go_at_call 17; refine hs.mono ?_; rintro e w2 ⟨rfl, hN2⟩)
        have hN3 := hN.trans hN2
        have hE : runN n.toNat s = s1 := by rw [← hR, runN_stop hk]
        have hout := outcome_any hN2.holds ho
        rw [hL1] at hout
        go_wp2_with (go_at_call 23; refine hout.mono ?_; rintro e w3 ⟨v', rfl, hv', hb3⟩; obtain ⟨A', cap', rfl⟩ := own_slice hv'; obtain ⟨d0, d1, d2, d3, df⟩ := res_kept h hN3 hb3)
        rw [hE]
        exact bodyPost_ret (v := .agg #[.int .i64 s1.kind, .int .i64 s1.panics, .slice A' s1.out.length cap', .int .i64 s1.steps]) (by simp [results, Try.results25, go_sem, d0, d1, d2, d3, df]) rfl (by
          obtain ⟨B, r1, r2, r3, r4⟩ := res_done h hN3 hb3 hv' (.int .i64 s1.kind) (.int .i64 s1.panics) (.slice A' s1.out.length cap') (.int .i64 s1.steps)
          exact ⟨L1, B, r1, ⟨_, rfl, r2⟩, r3, r4⟩)
    · have hE : runN n.toNat s = s1 := by rw [← hR, show j.toNat = 0 by omega]; rfl
      have hN3 := hN
      have hout := outcome_any hH ho
      rw [hL1] at hout
      go_wp2_with (go_at_call 23; refine hout.mono ?_; rintro e w3 ⟨v', rfl, hv', hb3⟩; obtain ⟨A', cap', rfl⟩ := own_slice hv'; obtain ⟨d0, d1, d2, d3, df⟩ := res_kept h hN3 hb3)
      rw [hE]
      exact bodyPost_ret (v := .agg #[.int .i64 s1.kind, .int .i64 s1.panics, .slice A' s1.out.length cap', .int .i64 s1.steps]) (by simp [results, Try.results25, go_sem, d0, d1, d2, d3, df]) rfl (by
        obtain ⟨B, r1, r2, r3, r4⟩ := res_done h hN3 hb3 hv' (.int .i64 s1.kind) (.int .i64 s1.panics) (.slice A' s1.out.length cap') (.int .i64 s1.steps)
        exact ⟨L1, B, r1, ⟨_, rfl, r2⟩, r3, r4⟩)
end Go.Proofs.Ytbchiolgbhckhaa.Mach
end

/- A row's clone is a row of one's own. -/
import Derived.Test.YtbchiolgbhckhaaStepAll
import Derived.Laws.OwnMore
set_option linter.unusedVariables false
set_option linter.unusedSimpArgs false
namespace Go.Proofs.Ytbchiolgbhckhaa.Mach
open Go.RowKit Go.Proofs.YtbchiolgbhckhaaW.PrintWords Go.Proofs.YtbchiolgbhckhaaW.PrintMore Go.Proofs.Ytbchiolgbhckhaa.PMachRuns

/-- What a slice that came in reads as. -/
def Reads (w : World) (v : Value) (n : Nat) (xs : List Value) : Prop :=
  xs.length = n ∧ (∀ u ∈ xs, u.oneCell' = true) ∧ ((v = .slice none 0 0 ∧ n = 0) ∨ ∃ a c, v = .slice (some a) n c ∧ ∀ j u, xs[j]? = some u → w.cell? (a.add j) = some u)
theorem clone_nil30 (w : World) : Calls Try.prog 30 #[.slice none 0 0] w fun e w' => e = .returned (.slice none 0 0) ∧ w = w' := by
  have hne : ∀ w, (binOp BinOp.eql 22 (.slice none 0 0) (.slice none 0 0)).run Try.prog w = .ok (.bool true) w := fun _ => rfl
  go_enter Try.func30, Try.ntmps30
  go_wp2
  go_ret
  exact ⟨rfl, rfl⟩
theorem clone_nil31 (w : World) : Calls Try.prog 31 #[.slice none 0 0] w fun e w' => e = .returned (.slice none 0 0) ∧ w = w' := by
  have hne : ∀ w, (binOp BinOp.eql 25 (.slice none 0 0) (.slice none 0 0)).run Try.prog w = .ok (.bool true) w := fun _ => rfl
  go_enter Try.func31, Try.ntmps31
  go_wp2
  go_ret
  exact ⟨rfl, rfl⟩
theorem clone_some30 (w : World) (a : Addr) (n c : Nat) (xs : List Value) (hl : xs.length = n) (h1 : ∀ u ∈ xs, u.oneCell' = true) (hx : ∀ j u, xs[j]? = some u → w.cell? (a.add j) = some u) (hb : n ≤ 1000000000) :
    Calls Try.prog 30 #[.slice (some a) n c] w fun e w' => ∃ v, e = .returned v ∧ w'.ownsRow w.heap.size 2 1 v n xs ∧ Below w.heap.size w w' ∧ ∃ g cap, v = .slice (some ⟨g, 0, none⟩) n cap := by
  have hne : ∀ w, (binOp BinOp.eql 22 (.slice (some a) n c) (.slice none 0 0)).run Try.prog w = .ok (.bool false) w := fun _ => rfl
  have hown : (w.alloc (.cells #[] 2)).ownsRow w.heap.size 2 1 (.slice (some ⟨w.heap.size, 0, none⟩) 0 0) 0 [] := World.ownsRow_lit w #[] 0 (Nat.le_refl _) (by unfold maxLen; omega) rfl
  have hx' : ∀ j u, xs[j]? = some u → (w.alloc (.cells #[] 2)).cell? (a.add j) = some u := fun j u hj => (World.cell?_of_block (Below.heap_alloc w _ _ (World.block_lt_of_cell? w _ (hx j u hj)))).trans (hx j u hj)
  go_enter Try.func30, Try.ntmps30
  go_wp2_with (refine wpList_append_own _ rfl (.tmp 5) (.tmp 6) 22 rfl w.heap.size 2 _ _ 1 8 rfl rfl rfl rfl rfl rfl (by omega) _ 0 [] rfl hown a n c xs rfl (by omega) hx' h1 (by unfold maxLen; omega) (by omega) (by simp) (fun v' w' k1 k2 k3 => ?_))
  have k1' : w'.ownsRow w.heap.size 2 1 v' n xs := by rw [Nat.zero_add, List.nil_append] at k1; exact k1
  have hb2 : Below w.heap.size w w' := Below.grown ((Below.refl _ _).alloc (Nat.le_refl _) _) k2 (show w.heap.size ≤ (w.alloc (.cells #[] 2)).heap.size by simp) (fun k hk => by cases hk; exact Nat.le_refl _)
  have hv : ∃ g cap, v' = .slice (some ⟨g, 0, none⟩) n cap := by
    rcases k1'.2 with ⟨h0, _⟩ | ⟨g, cap, _, h0, _⟩
    · exact (by have h9 := (k3.1 h0).1; cases h9)
    · exact ⟨g, cap, h0⟩
  obtain ⟨g, cap, rfl⟩ := hv
  go_wp2
  go_ret
  exact ⟨_, rfl, k1', hb2, g, cap, rfl⟩
theorem clone_some31 (w : World) (a : Addr) (n c : Nat) (xs : List Value) (hl : xs.length = n) (h1 : ∀ u ∈ xs, u.oneCell' = true) (hx : ∀ j u, xs[j]? = some u → w.cell? (a.add j) = some u) (hb : n ≤ 1000000000) :
    Calls Try.prog 31 #[.slice (some a) n c] w fun e w' => ∃ v, e = .returned v ∧ w'.ownsRow w.heap.size 5 1 v n xs ∧ Below w.heap.size w w' ∧ ∃ g cap, v = .slice (some ⟨g, 0, none⟩) n cap := by
  have hne : ∀ w, (binOp BinOp.eql 25 (.slice (some a) n c) (.slice none 0 0)).run Try.prog w = .ok (.bool false) w := fun _ => rfl
  have hown : (w.alloc (.cells #[] 5)).ownsRow w.heap.size 5 1 (.slice (some ⟨w.heap.size, 0, none⟩) 0 0) 0 [] := World.ownsRow_lit w #[] 0 (Nat.le_refl _) (by unfold maxLen; omega) rfl
  have hx' : ∀ j u, xs[j]? = some u → (w.alloc (.cells #[] 5)).cell? (a.add j) = some u := fun j u hj => (World.cell?_of_block (Below.heap_alloc w _ _ (World.block_lt_of_cell? w _ (hx j u hj)))).trans (hx j u hj)
  go_enter Try.func31, Try.ntmps31
  go_wp2_with (refine wpList_append_own _ rfl (.tmp 5) (.tmp 6) 25 rfl w.heap.size 5 _ _ 1 1 rfl rfl rfl rfl rfl rfl (by omega) _ 0 [] rfl hown a n c xs rfl (by omega) hx' h1 (by unfold maxLen; omega) (by omega) (by simp) (fun v' w' k1 k2 k3 => ?_))
  have k1' : w'.ownsRow w.heap.size 5 1 v' n xs := by rw [Nat.zero_add, List.nil_append] at k1; exact k1
  have hb2 : Below w.heap.size w w' := Below.grown ((Below.refl _ _).alloc (Nat.le_refl _) _) k2 (show w.heap.size ≤ (w.alloc (.cells #[] 5)).heap.size by simp) (fun k hk => by cases hk; exact Nat.le_refl _)
  have hv : ∃ g cap, v' = .slice (some ⟨g, 0, none⟩) n cap := by
    rcases k1'.2 with ⟨h0, _⟩ | ⟨g, cap, _, h0, _⟩
    · exact (by have h9 := (k3.1 h0).1; cases h9)
    · exact ⟨g, cap, h0⟩
  obtain ⟨g, cap, rfl⟩ := hv
  go_wp2
  go_ret
  exact ⟨_, rfl, k1', hb2, g, cap, rfl⟩
end Go.Proofs.Ytbchiolgbhckhaa.Mach

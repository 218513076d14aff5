/- A whole run, out of an image, a memory's size, an input and so much fuel. -/
import Derived.Test.YtbchiolgbhckhaaAsk
set_option linter.unusedVariables false
set_option linter.unusedSimpArgs false
namespace Go.Proofs.Ytbchiolgbhckhaa.Mach
open Go.RowKit Go.Proofs.YtbchiolgbhckhaaW.PrintWords Go.Proofs.YtbchiolgbhckhaaW.PrintMore Go.Proofs.Ytbchiolgbhckhaa.PMachRuns

theorem below_two {w : World} (o1 o2 : Obj) : Below w.heap.size w ((w.alloc o1).alloc o2) := ((Below.refl _ _).alloc (Nat.le_refl _) _).alloc (by simp) _
set_option maxHeartbeats 1000000 in
theorem mrun_bad (A1 A2 A3 : Option Addr) (n1 c1 n2 c2 n3 c3 : Nat) (en mem fuel er : Int) (w : World) (he : (er != 0) = true)
    (hn : ∀ X, Below w.heap.size w X → Calls Try.prog 14 #[.agg #[.slice A1 n1 c1, .slice A2 n2 c2, .int .i64 en], .int .i64 mem, .slice A3 n3 c3] X fun e w' => e = .returned (.tuple #[.pointer none, .int .i64 er]) ∧ Below X.heap.size X w') :
    Calls Try.prog 27 #[.agg #[.slice A1 n1 c1, .slice A2 n2 c2, .int .i64 en], .int .i64 mem, .slice A3 n3 c3, .int .i64 fuel] w fun e w' => e = .returned (.agg #[.int .i64 5, .int .i64 0, .slice none 0 0, .int .i64 0]) ∧ Below w.heap.size w w' := by
  go_enter Try.func27, Try.ntmps27
  go_wp2_with (go_at_call 14; refine (hn _ (below_two _ _)).mono ?_; rintro e w2 ⟨rfl, hb⟩; obtain ⟨e1, e2⟩ := bcell hb; have hz := hb.size; simp only [World.size_alloc] at hz; have hz1 : w.heap.size + 1 < w2.heap.size := by omega)
  have d0 : w2.cell? ⟨w.heap.size + 1, 0, none⟩ = some (.int .i64 0) := by rw [e1 _ _ (by simp)]; simp [resO]
  have d1 : w2.cell? ⟨w.heap.size + 1, 1, none⟩ = some (.int .i64 0) := by rw [e1 _ _ (by simp)]; simp [resO]
  have d2 : w2.cell? ⟨w.heap.size + 1, 2, none⟩ = some (.slice none 0 0) := by rw [e1 _ _ (by simp)]; simp [resO]
  have d3 : w2.cell? ⟨w.heap.size + 1, 3, none⟩ = some (.int .i64 0) := by rw [e1 _ _ (by simp)]; simp [resO]
  have df : ∀ o, w2.frozen? ⟨w.heap.size + 1, o, none⟩ = false := fun o => by rw [e2 _ _ (by simp)]; simp [resO]
  have hw2 : Below w.heap.size w w2 := (below_two _ _).trans (hb.mono (by simp only [World.size_alloc]; omega))
  exact bodyPost_ret (v := .agg #[.int .i64 5, .int .i64 0, .slice none 0 0, .int .i64 0]) (by simp [results, Try.results27, go_sem, d0, d1, d2, d3, df]) rfl ⟨rfl, ((((hw2.setCell (p := ⟨w.heap.size + 1, 0, none⟩) (Nat.le_succ _) _).setCell (p := ⟨w.heap.size + 1, 1, none⟩) (Nat.le_succ _) _).setCell (p := ⟨w.heap.size + 1, 2, none⟩) (Nat.le_succ _) _).setCell (p := ⟨w.heap.size + 1, 3, none⟩) (Nat.le_succ _) _)⟩
theorem mrun_kept {w w2 w3 : World} {L L' : Lay} {s s' : MS} {q1 q2 q3 : Value} (hb : Below ((w.alloc (.cells #[q1, q2, q3] 24)).alloc resO).heap.size ((w.alloc (.cells #[q1, q2, q3] 24)).alloc resO) w2)
    (hft : ∀ b, L.foot s.inp b → ((w.alloc (.cells #[q1, q2, q3] 24)).alloc resO).heap.size ≤ b) (hN : Next w2 L s w3 L' s') (hz : w.heap.size + 1 < w2.heap.size) :
    w3.cell? ⟨w.heap.size + 1, 0, none⟩ = some (.int .i64 0) ∧ w3.cell? ⟨w.heap.size + 1, 1, none⟩ = some (.int .i64 0) ∧ w3.cell? ⟨w.heap.size + 1, 2, none⟩ = some (.slice none 0 0) ∧ w3.cell? ⟨w.heap.size + 1, 3, none⟩ = some (.int .i64 0) ∧ (∀ o, w3.frozen? ⟨w.heap.size + 1, o, none⟩ = false) ∧ Below w.heap.size w w3 := by
  have hs : ((w.alloc (.cells #[q1, q2, q3] 24)).alloc resO).heap.size = w.heap.size + 2 := by simp
  rw [hs] at hb hft
  have hk : w3.heap[w.heap.size + 1]? = ((w.alloc (.cells #[q1, q2, q3] 24)).alloc resO).heap[w.heap.size + 1]? :=
    (hN.far.block _ hz (fun hf => by have := hft _ hf; omega)).trans (hb.block _ (by omega))
  refine ⟨(World.cell?_of_block hk).trans ?_, (World.cell?_of_block hk).trans ?_, (World.cell?_of_block hk).trans ?_, (World.cell?_of_block hk).trans ?_, fun o => (World.frozen?_of_block hk).trans ?_, ?_⟩
  · simp [resO]
  · simp [resO]
  · simp [resO]
  · simp [resO]
  · simp [resO]
  · exact ((below_two _ _).trans (hb.mono (by omega))).trans (hN.far.below (by omega) (fun k hk' => by have := hft k hk'; omega))
set_option maxHeartbeats 1000000 in
theorem mrun_ok (a1 : Addr) (A2 A3 : Option Addr) (n1 c1 n2 c2 n3 c3 M : Nat) (en : Int) (code data inp : List Int) (w : World) (fuel : Int) (hfu : fuel ≤ 9223372036854775807) (f1 : (1 : Int) ≤ n1) (f2 : (n1 : Int) ≤ 65536) (f3 : (n2 : Int) ≤ 16384) (f4 : 0 ≤ en) (f5 : en < n1) (f6 : (n2 : Int) ≤ M) (f7 : (M : Int) ≤ 262144) (f8 : (n3 : Int) ≤ 4096) (r1 : Reads w (.slice (some a1) n1 c1) n1 (nums .i64 code)) (r2 : Reads w (.slice A2 n2 c2) n2 (nums .i64 data)) (r3 : Reads w (.slice A3 n3 c3) n3 (nums .u8 inp)) (hcode : ∀ k, -9223372036854775808 ≤ code.getD k 0 ∧ code.getD k 0 ≤ 9223372036854775807) (hinp : ∀ v ∈ inp, 0 ≤ v ∧ v ≤ 255) :
    Calls Try.prog 27 #[(.agg #[.slice (some a1) n1 c1, .slice A2 n2 c2, .int .i64 en]), .int .i64 (M : Int), .slice A3 n3 c3, .int .i64 fuel] w fun e w' => ∃ B, Told B (runN (min fuel 4194304).toNat (fresh code data inp en M)) e w' ∧ w.heap.size ≤ B ∧ Below w.heap.size w w' := by
  have hnew : ∀ X, Below w.heap.size w X → _ := fun X hX => new_ok a1 A2 A3 n1 c1 n2 c2 n3 c3 M en code data inp X f1 f2 f3 f4 f5 f6 f7 f8 (r1.below hX) (r2.below hX) (r3.below hX) hcode hinp
  go_enter Try.func27, Try.ntmps27
  go_wp2_with (first | (go_at_call 14; refine (hnew _ (below_two _ _)).mono ?_; rintro e w2 ⟨L, rfl, hH, hb, hft⟩; obtain ⟨e1, e2⟩ := bcell hb; have hz := hb.size; simp only [World.size_alloc] at hz; have hz1 : w.heap.size + 1 < w2.heap.size := by omega) | (go_at_call 25; refine (run_any hH (Nat.zero_le _) (min fuel 4194304) (by omega)).mono ?_; rintro e w3 ⟨L', B, hN, ⟨v', rfl, hv'⟩, hB1, hB2⟩; obtain ⟨A', cap', rfl⟩ := own_slice hv'; obtain ⟨d0, d1, d2, d3, df, hR⟩ := mrun_kept hb hft hN hz1))
  have hlt : w.heap.size + 1 < B := Nat.lt_of_lt_of_le hz1 hB1
  have r := fun u0 u1 u2 u3 => ownsRow_setCell_below (ownsRow_setCell_below (ownsRow_setCell_below (ownsRow_setCell_below hv' (a := ⟨w.heap.size + 1, 0, none⟩) hlt u0) (a := ⟨w.heap.size + 1, 1, none⟩) hlt u1) (a := ⟨w.heap.size + 1, 2, none⟩) hlt u2) (a := ⟨w.heap.size + 1, 3, none⟩) hlt u3
  exact bodyPost_ret (v := .agg #[.int .i64 _, .int .i64 _, .slice A' _ cap', .int .i64 _]) (by simp [results, Try.results27, go_sem, d0, d1, d2, d3, df]) rfl ⟨B, ⟨_, rfl, r _ _ _ _⟩, by omega, ((((hR.setCell (p := ⟨w.heap.size + 1, 0, none⟩) (Nat.le_succ _) _).setCell (p := ⟨w.heap.size + 1, 1, none⟩) (Nat.le_succ _) _).setCell (p := ⟨w.heap.size + 1, 2, none⟩) (Nat.le_succ _) _).setCell (p := ⟨w.heap.size + 1, 3, none⟩) (Nat.le_succ _) _)⟩
end Go.Proofs.Ytbchiolgbhckhaa.Mach

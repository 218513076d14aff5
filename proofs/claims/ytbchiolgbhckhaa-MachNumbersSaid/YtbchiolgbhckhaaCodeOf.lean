/- The words of instructions that a law has laid down itself; a run of a machine that there is not. -/
import Derived.Test.YtbchiolgbhckhaaWhole
set_option linter.unusedVariables false
set_option linter.unusedSimpArgs false
namespace Go.Proofs.Ytbchiolgbhckhaa.Mach
open Go.RowKit Go.Proofs.YtbchiolgbhckhaaW.PrintWords Go.Proofs.YtbchiolgbhckhaaW.PrintMore Go.Proofs.Ytbchiolgbhckhaa.PMachRuns

theorem bnext {a b c : World} (h : Below a.heap.size a b) (k : Below b.heap.size b c) : Below a.heap.size a c := h.trans (k.mono h.size)
def enc5 (x : S50) : List Value := [.int .i64 x.f0, .int .i64 x.f1, .int .i64 x.f2, .int .i64 x.f3, .int .i64 x.f4]
theorem enc5_at : ∀ (l : List S50) (j i : Nat) (p : S50), l[j]? = some p → i < 5 → (l.flatMap enc5)[j * 5 + i]? = (enc5 p)[i]?
  | [], j, i, p, h, _ => by simp at h
  | x :: l, 0, i, p, h, hi => by
    simp only [List.getElem?_cons_zero, Option.some.injEq] at h
    subst h
    rw [List.flatMap_cons, Nat.zero_mul, Nat.zero_add, List.getElem?_append_left (by simpa [enc5] using hi)]
  | x :: l, j + 1, i, p, h, hi => by
    simp only [List.getElem?_cons_succ] at h
    have := enc5_at l j i p h hi
    rw [List.flatMap_cons, List.getElem?_append_right (by simp [enc5]; omega), show (j + 1) * 5 + i - (enc5 x).length = j * 5 + i by simp [enc5]; omega]
    exact this
theorem code_any (k g c : Nat) (l : List S50) (r : List Int) (w : World) (cs : Array Value) (t : Nat × Nat) (hb : w.heap[g]? = some (.cells cs 50 t)) (hcs : cs.toList = l.flatMap enc5) (hl : l.length ≤ c) (hl' : l.length ≤ 9223372036854775807) (h : mortiselaw3_Code.f k l = some r) :
    Calls Try.prog 26 #[.slice (some ⟨g, 0, none⟩) l.length c] w fun e w' => ∃ A cap, e = .returned (.slice A r.length cap) ∧ w'.ownsRow w.heap.size 2 1 (.slice A r.length cap) r.length (nums .i64 r) ∧ Below w.heap.size w w' := by
  refine (mortiselaw3_Code.calls k (some ⟨g, 0, none⟩) c l r w ⟨rfl, hl', fun _ => ⟨_, rfl, fun j p hj => ⟨enc5 p, rfl, ?_, fun i u hu => ?_⟩⟩⟩ hl h).mono ?_
  · exact ⟨_, _, rfl, rfl, ⟨_, _, rfl, rfl, ⟨_, _, rfl, rfl, ⟨_, _, rfl, rfl, rfl⟩⟩⟩⟩
  · have hi : i < 5 := by
      have := (List.getElem?_eq_some_iff.1 hu).1
      simpa [enc5] using this
    have h2 := enc5_at l j i p hj hi
    rw [hu, ← hcs] at h2
    show w.cell? ((⟨g, 0, none⟩ : Addr).add (j * 5 + i)) = some u
    rw [add_at]
    simp only [World.cell?, hb]
    rw [Array.getElem?_toList] at h2
    simpa using h2
  · rintro e w' ⟨v, rfl, hR, hB⟩
    have ho := Kd.own_of_R hR
    obtain ⟨A, cap, rfl⟩ := own_slice ho
    exact ⟨A, cap, rfl, ho, hB⟩
theorem own_reads {w : World} {B : Nat} {e : TypeId} {A : Option Addr} {n cap : Nat} {kd : IntKind} {xs : List Int} (h : w.ownsRow B e 1 (.slice A n cap) n (nums kd xs)) : Reads w (.slice A n cap) n (nums kd xs) := by
  refine ⟨by simpa using h.1, by intro u hu; simp only [nums, List.mem_map] at hu; obtain ⟨x, _, rfl⟩ := hu; rfl, ?_⟩
  rcases h.2 with ⟨e1, e2⟩ | ⟨g, cap', cur, e1, _⟩
  · exact .inl ⟨e1, e2⟩
  · cases e1
    exact .inr ⟨_, cap, rfl, h.cells (g := g) rfl⟩
theorem reads_nil (w : World) (kd : IntKind) : Reads w (.slice none 0 0) 0 (nums kd []) := ⟨rfl, by simp [nums], .inl ⟨rfl, rfl⟩⟩
set_option maxHeartbeats 1000000 in
theorem run_nil (n : Int) (w : World) : Calls Try.prog 25 #[.pointer none, .int .i64 n] w fun e w' => e = .returned (.agg #[.int .i64 0, .int .i64 0, .slice none 0 0, .int .i64 0]) ∧ Below w.heap.size w w' := by
  go_enter Try.func25, Try.ntmps25
  go_wp2
  go_loopw [1] (fun i wr => i = .int .i64 n ∧ Below (w.heap.size + 1) (w.alloc resO) wr) (fun i _ => 0)
  case atStart => exact ⟨rfl, Below.refl _ _⟩
  case round =>
    obtain ⟨rfl, hb⟩ := hrel
    have fin : ∀ w2, Below wr.heap.size wr w2 → w2.cell? ⟨w.heap.size, 0, none⟩ = some (.int .i64 0) ∧ w2.cell? ⟨w.heap.size, 1, none⟩ = some (.int .i64 0) ∧ w2.cell? ⟨w.heap.size, 2, none⟩ = some (.slice none 0 0) ∧ w2.cell? ⟨w.heap.size, 3, none⟩ = some (.int .i64 0) ∧ (∀ o, w2.frozen? ⟨w.heap.size, o, none⟩ = false) ∧ Below w.heap.size w w2 := by
      intro w2 h2
      have hz := hb.size
      simp only [World.size_alloc] at hz
      have hk : w2.heap[w.heap.size]? = (w.alloc resO).heap[w.heap.size]? := (h2.block _ (by omega)).trans (hb.block _ (by omega))
      refine ⟨(World.cell?_of_block hk).trans ?_, (World.cell?_of_block hk).trans ?_, (World.cell?_of_block hk).trans ?_, (World.cell?_of_block hk).trans ?_, fun o => (World.frozen?_of_block hk).trans ?_, ?_⟩
      · simp [resO]
      · simp [resO]
      · simp [resO]
      · simp [resO]
      · simp [resO]
      · exact (((Below.refl _ _).alloc (Nat.le_refl _) _).trans (hb.mono (by omega))).trans (h2.mono (by omega))
    by_cases hn : 0 < n
    · go_wp2_with (first | (go_at_call 17; refine (step_nil _).mono ?_; rintro e w2 ⟨rfl, hb2⟩) | (go_at_call 23; refine (outcome_nil _).mono ?_; rintro e w3 ⟨rfl, hb3⟩; obtain ⟨d0, d1, d2, d3, df, hR⟩ := fin w3 (hb2.trans (hb3.mono hb2.size))))
      exact bodyPost_ret (v := .agg #[.int .i64 0, .int .i64 0, .slice none 0 0, .int .i64 0]) (by simp [results, Try.results25, go_sem, d0, d1, d2, d3, df]) rfl ⟨rfl, ((((hR.setCell (p := ⟨w.heap.size, 0, none⟩) (Nat.le_refl _) _).setCell (p := ⟨w.heap.size, 1, none⟩) (Nat.le_refl _) _).setCell (p := ⟨w.heap.size, 2, none⟩) (Nat.le_refl _) _).setCell (p := ⟨w.heap.size, 3, none⟩) (Nat.le_refl _) _)⟩
    · go_wp2_with (go_at_call 23; refine (outcome_nil _).mono ?_; rintro e w3 ⟨rfl, hb3⟩; obtain ⟨d0, d1, d2, d3, df, hR⟩ := fin w3 hb3)
      exact bodyPost_ret (v := .agg #[.int .i64 0, .int .i64 0, .slice none 0 0, .int .i64 0]) (by simp [results, Try.results25, go_sem, d0, d1, d2, d3, df]) rfl ⟨rfl, ((((hR.setCell (p := ⟨w.heap.size, 0, none⟩) (Nat.le_refl _) _).setCell (p := ⟨w.heap.size, 1, none⟩) (Nat.le_refl _) _).setCell (p := ⟨w.heap.size, 2, none⟩) (Nat.le_refl _) _).setCell (p := ⟨w.heap.size, 3, none⟩) (Nat.le_refl _) _)⟩
end Go.Proofs.Ytbchiolgbhckhaa.Mach

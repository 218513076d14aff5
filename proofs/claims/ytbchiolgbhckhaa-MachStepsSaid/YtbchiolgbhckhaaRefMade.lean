/- The document's machine, newly made, answers to the plain one. -/
import Derived.Test.YtbchiolgbhckhaaRefNewB
import Derived.Test.YtbchiolgbhckhaaRefNewD
set_option linter.unusedVariables false
set_option linter.unusedSimpArgs false
namespace Go.Proofs.Ytbchiolgbhckhaa.Mach
open Go.RowKit Go.Proofs.YtbchiolgbhckhaaW.PrintWords Go.Proofs.YtbchiolgbhckhaaW.PrintMore Go.Proofs.Ytbchiolgbhckhaa.PMachRuns
theorem ownsRow_len {w : World} {B : Nat} {e : TypeId} {v : Value} {n : Nat} {kd : IntKind} {xs : List Int} (h : w.ownsRow B e 1 v n (nums kd xs)) : xs.length = n := by have := h.1; simpa [nums] using this
set_option maxHeartbeats 1000000 in
theorem rmade {w X w3 : World} {code data inp : List Int} {n1 n3 M cb cc mb ib ic : Nat} {en : Int} (hB : Below w.heap.size w X) (ro : X.ownsRow w.heap.size 2 1 (.slice (some ⟨cb, 0, none⟩) n1 cc) n1 (nums .i64 code)) (ri : X.ownsRow w.heap.size 5 1 (.slice (some ⟨ib, 0, none⟩) n3 ic) n3 (nums .u8 inp))
    (hm : ∀ j, j < M → X.cell? ⟨mb, j, none⟩ = some (.int .i64 ((data ++ List.replicate (M - data.length) 0).getD j 0))) (hf : ∀ o, X.frozen? ⟨mb, o, none⟩ = false) (h0 : w.heap.size ≤ mb) (h1 : mb < X.heap.size) (n01 : cb ≠ mb) (n21 : ib ≠ mb)
    (hdl : data.length ≤ M) (hcl : n1 ≤ 65536) (hM : M ≤ 262144) (hi4 : n3 ≤ 4096) (hcode : ∀ k, -9223372036854775808 ≤ code.getD k 0 ∧ code.getD k 0 ≤ 9223372036854775807) (hinp : ∀ v ∈ inp, 0 ≤ v ∧ v ≤ 255)
    (hS : RowSet (X.alloc (.cells ZS 36)) X.heap.size (VS cb n1 cc mb M en ib n3 ic (.int .i64 (M : Int))) 36 w3) :
    RHolds w3 ⟨X.heap.size, mb, M, cb, cc, some ⟨ib, 0, none⟩, ic, inp, .slice none 0 0⟩ (fresh code data inp en M) ∧ (∀ b, RLay.foot ⟨X.heap.size, mb, M, cb, cc, some ⟨ib, 0, none⟩, ic, inp, .slice none 0 0⟩ b → w.heap.size ≤ b) ∧ Below X.heap.size X w3 := by
  have lc := ro.lt cb rfl
  have li := ri.lt ib rfl
  have lenc := ownsRow_len ro
  have leni := ownsRow_len ri
  have memlen : (data ++ List.replicate (M - data.length) 0).length = M := by simp; omega
  have hsz := hS.size
  simp only [World.size_alloc] at hsz
  have hfr : ∀ k, k < X.heap.size → w3.heap[k]? = X.heap[k]? := fun k hk => (hS.block k (by omega)).trans (Below.heap_alloc _ _ _ hk)
  have hbs := hB.size
  refine ⟨⟨fun o => by simp [World.frozen?, hS.here], fun j hj => ?_, ⟨fun k hk => ?_, fun k hk => ?_, fun o => ?_, ?_, World.ownsRow_nil _ _ _ _, ⟨by dsimp only; omega, by dsimp only; omega, by dsimp only; omega⟩, ⟨by dsimp only; omega, by dsimp only; omega, by dsimp only; omega⟩, ⟨by simp [Value.ownBlock], by simp [Value.ownBlock], by simp [Value.ownBlock]⟩, hcode, ⟨by show code.length ≤ _; omega, by show (data ++ List.replicate (M - data.length) 0).length ≤ _; rw [memlen]; exact hM, by show inp.length ≤ _; omega, hinp⟩⟩, ⟨Nat.le_refl _, ?_⟩⟩, ?_, ?_⟩
  · have h19 : rcell ⟨X.heap.size, mb, M, cb, cc, some ⟨ib, 0, none⟩, ic, inp, .slice none 0 0⟩ (fresh code data inp en M) 19 = .slice (some ⟨ib, 0, none⟩) n3 ic := by show Value.slice _ inp.length _ = _; rw [leni]
    have h20 : rcell ⟨X.heap.size, mb, M, cb, cc, some ⟨ib, 0, none⟩, ic, inp, .slice none 0 0⟩ (fresh code data inp en M) 20 = .int .i64 0 := by show Value.int .i64 ((inp.length : Int) - inp.length) = _; rw [Int.sub_self]
    have h1' : rcell ⟨X.heap.size, mb, M, cb, cc, some ⟨ib, 0, none⟩, ic, inp, .slice none 0 0⟩ (fresh code data inp en M) 1 = .slice (some ⟨mb, 0, none⟩) M M := by show Value.slice _ (data ++ List.replicate (M - data.length) 0).length _ = _; rw [memlen]
    have h0' : rcell ⟨X.heap.size, mb, M, cb, cc, some ⟨ib, 0, none⟩, ic, inp, .slice none 0 0⟩ (fresh code data inp en M) 0 = .slice (some ⟨cb, 0, none⟩) n1 cc := by show Value.slice _ code.length _ = _; rw [lenc]
    have hc : j = 0 ∨ j = 1 ∨ j = 2 ∨ j = 3 ∨ j = 4 ∨ j = 5 ∨ j = 6 ∨ j = 7 ∨ j = 8 ∨ j = 9 ∨ j = 10 ∨ j = 11 ∨ j = 12 ∨ j = 13 ∨ j = 14 ∨ j = 15 ∨ j = 16 ∨ j = 17 ∨ j = 18 ∨ j = 19 ∨ j = 20 ∨ j = 21 ∨ j = 22 ∨ j = 23 ∨ j = 24 := by omega
    rcases hc with rfl | rfl | rfl | rfl | rfl | rfl | rfl | rfl | rfl | rfl | rfl | rfl | rfl | rfl | rfl | rfl | rfl | rfl | rfl | rfl | rfl | rfl | rfl | rfl | rfl
    all_goals first | (rw [h0']; exact hS.cell rfl) | (rw [h1']; exact hS.cell rfl) | (rw [h19]; exact hS.cell rfl) | (rw [h20]; exact hS.cell rfl) | exact hS.cell rfl
  · have h := ro.cells (g := cb) rfl k _ (nums_get hk)
    rw [add_at] at h
    exact (World.cell?_of_block (hfr cb lc.2)).trans h
  · refine (World.cell?_of_block (hfr mb h1)).trans (hm k ?_)
    rw [← memlen]; exact hk
  · exact (World.frozen?_of_block (hfr mb h1)).trans (hf o)
  · refine .inr ⟨ib, 0, rfl, by omega, by show ib ≠ X.heap.size; omega, n21, by simp [Value.ownBlock], fun j hj => ?_⟩
    have h := ri.cells (g := ib) rfl j _ (nums_get hj)
    rw [add_at] at h
    rw [Nat.zero_add]
    exact (World.cell?_of_block (hfr ib li.2)).trans h
  · show inp = inp.drop (inp.length - inp.length)
    rw [Nat.sub_self, List.drop_zero]
  · rintro b (hb | hb | hb | hb | ⟨_, off, hb⟩)
    · rw [hb]; exact hbs
    · rw [hb]; exact h0
    · rw [hb]; exact lc.1
    · cases hb
    · cases hb; exact li.1
  · exact ⟨hS.os, hS.tape, hS.output, by omega, hfr⟩
theorem rnew_good {A1 A2 A3 : Option Addr} {n1 c1 n2 c2 n3 c3 : Nat} {en mem : Int} {code data inp : List Int} {w : World} (him : Image w A1 n1 c1 A2 n2 c2 code data) (hin : Input w A3 n3 c3 inp) (he : newErr n1 n2 n3 en mem = 0) :
    Calls Try.prog 15 #[.agg #[.slice A1 n1 c1, .slice A2 n2 c2, .int .i64 en], .int .i64 mem, .slice A3 n3 c3] w (RNewOk w code data inp n1 n3 mem.toNat en) := by
  obtain ⟨f1, f2, f3, f4, f5, f6, f7, f8⟩ := newErr_ok he
  obtain ⟨a, rfl⟩ := him.some (by omega)
  obtain ⟨M, rfl⟩ : ∃ M : Nat, mem = (M : Int) := ⟨mem.toNat, by omega⟩
  exact rnew_ok a A2 A3 n1 c1 n2 c2 n3 c3 M en code data inp w f1 f2 f3 f4 f5 f6 f7 f8 him.code_at him.data_at hin.at_
end Go.Proofs.Ytbchiolgbhckhaa.Mach

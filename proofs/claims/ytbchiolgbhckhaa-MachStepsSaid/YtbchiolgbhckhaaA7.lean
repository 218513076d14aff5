/- A machine is made; what is asked of it; a whole run; the document's example; images as arguments. -/
import Derived.Test.YtbchiolgbhckhaaA6
import Derived.Test.YtbchiolgbhckhaaA1
import Derived.Laws.IdiomCopy
import Derived.Laws.BytesArg
import Derived.WalkKit
import Derived.ProofKit
import Derived.OpenShut
import Derived.Deep.Strs
import Derived.ChangeOld
import Derived.Below
section
/- A machine is made: walked; which images and sizes are refused. -/
set_option linter.unusedVariables false
set_option linter.unusedSimpArgs false
namespace Go.Proofs.Ytbchiolgbhckhaa.Mach
open Go.RowKit Go.Proofs.YtbchiolgbhckhaaW.PrintWords Go.Proofs.YtbchiolgbhckhaaW.PrintMore Go.Proofs.Ytbchiolgbhckhaa.PMachRuns
set_option maxHeartbeats 1000000 in
theorem new_form (A1 A2 A3 : Option Addr) (n1 c1 n2 c2 n3 c3 : Nat) (en mem : Int) (w : World)  (hb : (n1 : Int) < 1 ∨ (65536 : Int) < n1 ∨ (16384 : Int) < n2 ∨ en < 0 ∨ (n1 : Int) ≤ en) :
    Calls Try.prog 14 #[.agg #[.slice A1 n1 c1, .slice A2 n2 c2, .int .i64 en], .int .i64 mem, .slice A3 n3 c3] w fun e w' => e = .returned (.tuple #[.pointer none, .int .i64 4]) ∧ Below w.heap.size w w' := by
  have hb' := Lib.hid hb
  clear hb
  go_enter Try.func14, Try.ntmps14
  go_wp2
  all_goals first | (refine bodyPost_ret (results_tmp2 rfl _ _ _) rfl ?_; exact ⟨rfl, (Below.refl _ _).alloc (Nat.le_refl _) _⟩) | (exfalso; have hb := hb'.out; omega)
set_option maxHeartbeats 1000000 in
theorem new_arg (A1 A2 A3 : Option Addr) (n1 c1 n2 c2 n3 c3 : Nat) (en mem : Int) (w : World) (f1 : (1 : Int) ≤ n1) (f2 : (n1 : Int) ≤ 65536) (f3 : (n2 : Int) ≤ 16384) (f4 : 0 ≤ en) (f5 : en < n1) (hb : mem < n2 ∨ 262144 < mem ∨ (4096 : Int) < n3) :
    Calls Try.prog 14 #[.agg #[.slice A1 n1 c1, .slice A2 n2 c2, .int .i64 en], .int .i64 mem, .slice A3 n3 c3] w fun e w' => e = .returned (.tuple #[.pointer none, .int .i64 1]) ∧ Below w.heap.size w w' := by
  have hb' := Lib.hid hb
  clear hb
  go_enter Try.func14, Try.ntmps14
  go_wp2
  all_goals first | (refine bodyPost_ret (results_tmp2 rfl _ _ _) rfl ?_; exact ⟨rfl, (Below.refl _ _).alloc (Nat.le_refl _) _⟩) | (exfalso; have hb := hb'.out; omega)
theorem size_setCells (b : Nat) : ∀ (vs : List Value) (o : Nat) (w : World), (w.setCells b o vs).heap.size = w.heap.size
  | [], _, _ => rfl
  | v :: vs, o, w => by rw [World.setCells, size_setCells b vs]; simp [World.setCell]
theorem heap_setCells (b k : Nat) (h : k ≠ b) : ∀ (vs : List Value) (o : Nat) (w : World), (w.setCells b o vs).heap[k]? = w.heap[k]?
  | [], _, _ => rfl
  | v :: vs, o, w => by rw [World.setCells, heap_setCells b k h vs]; exact Below.heap_setCell _ _ _ _ h
/-- A machine that has been made and has made no step. -/
def fresh (code data inp : List Int) (en : Int) (M : Nat) : MS :=
  { code := code, mem := data ++ List.replicate (M - data.length) 0, reg := fun k => if k = 15 then (M : Int) else 0, pc := en, inp := inp, out := [], kind := 0, panics := 0, steps := 0 }
def newO (cb n1 cc mb M : Nat) (en : Int) (iA : Option Addr) (n3 ic : Nat) : Obj :=
  .cells #[.slice (some ⟨cb, 0, none⟩) n1 cc, .slice (some ⟨mb, 0, none⟩) M M, .int .i64 0, .int .i64 0, .int .i64 0, .int .i64 0, .int .i64 0, .int .i64 0, .int .i64 0, .int .i64 0, .int .i64 0, .int .i64 0, .int .i64 0, .int .i64 0, .int .i64 0, .int .i64 0, .int .i64 0, .int .i64 0, .int .i64 en, .slice iA n3 ic, .slice none 0 0, .int .i64 0, .int .i64 0, .int .i64 0, .slice none 0 0] 61
def opsO (m : Nat) : Obj := .cells #[opV m 0, opV m 1, opV m 2, opV m 3, opV m 4, opV m 5, opV m 6, opV m 7, opV m 8, opV m 9, opV m 10, opV m 11, opV m 12, opV m 13, opV m 14, opV m 15] 62
theorem nums_get {kd : IntKind} {xs : List Int} {k : Nat} (hk : k < xs.length) : (nums kd xs)[k]? = some (.int kd (xs.getD k 0)) := by
  simp [nums, hk]
theorem add_at (b k : Nat) : (⟨b, 0, none⟩ : Addr).add k = ⟨b, k, none⟩ := by
  by_cases h : k = 0 <;> simp [Addr.add, h]
set_option maxHeartbeats 1000000 in
theorem fresh_holds {B : Nat} {w2 w3 : World} {n1 n3 cc mb cb M ic : Nat} {iA : Option Addr} {en : Int} {code data inp : List Int}
    (oc : w2.ownsRow B 2 1 (.slice (some ⟨cb, 0, none⟩) n1 cc) n1 (nums .i64 code)) (om : w2.ownsRow B 2 1 (.slice (some ⟨mb, 0, none⟩) M M) M (nums .i64 (List.replicate M 0))) (oi : w2.ownsRow B 5 1 (.slice iA n3 ic) n3 (nums .u8 inp))
    (ne1 : cb ≠ mb) (ne2 : (Value.slice iA n3 ic).ownBlock ≠ some cb) (ne3 : (Value.slice iA n3 ic).ownBlock ≠ some mb) (hd : data.length ≤ M) (f1 : n1 ≤ 65536) (f2 : M ≤ 262144)
    (hcode : ∀ k, -9223372036854775808 ≤ code.getD k 0 ∧ code.getD k 0 ≤ 9223372036854775807) (hinp : ∀ v ∈ inp, 0 ≤ v ∧ v ≤ 255)
    (h3 : w3 = ((w2.alloc (newO cb n1 cc mb M en iA n3 ic)).drew).setCells mb 0 (nums .i64 data)) :
    Holds (((w3.setCell ⟨w2.heap.size, 17, none⟩ (.int .i64 (M : Int))).setCell ⟨w2.heap.size, 24, none⟩ (.slice (some ⟨w3.heap.size, 0, none⟩) 16 16)).alloc (opsO w2.heap.size))
      ⟨w2.heap.size, mb, M, cb, cc, w3.heap.size, 16, iA, ic, .slice none 0 0⟩ (fresh code data inp en M) ∧
    Below B w2 (((w3.setCell ⟨w2.heap.size, 17, none⟩ (.int .i64 (M : Int))).setCell ⟨w2.heap.size, 24, none⟩ (.slice (some ⟨w3.heap.size, 0, none⟩) 16 16)).alloc (opsO w2.heap.size)) := by
  have lc := oc.lt cb rfl
  have lm := om.lt mb rfl
  have lenc : code.length = n1 := by have := oc.1; simpa [nums] using this
  have leni : inp.length = n3 := by have := oi.1; simpa [nums] using this
  have z3 : w3.heap.size = w2.heap.size + 1 := by rw [h3, size_setCells]; simp
  have hB : B ≤ w2.heap.size := by omega
  generalize h4 : (w3.setCell ⟨w2.heap.size, 17, none⟩ (.int .i64 (M : Int))).setCell ⟨w2.heap.size, 24, none⟩ (.slice (some ⟨w3.heap.size, 0, none⟩) 16 16) = w4
  have z4 : w4.heap.size = w3.heap.size := by rw [← h4]; simp [World.setCell]
  -- blocks that were there
  have k4 : ∀ b, b ≠ w2.heap.size → w4.heap[b]? = w3.heap[b]? := fun b hb => by
    rw [← h4]; exact (Below.heap_setCell _ _ _ _ hb).trans (Below.heap_setCell _ _ _ _ hb)
  have k5 : ∀ b, b < w4.heap.size → (w4.alloc (opsO w2.heap.size)).heap[b]? = w4.heap[b]? := fun b hb => Below.heap_alloc _ _ _ hb
  have kb : ∀ b, b < w2.heap.size → b ≠ mb → (w4.alloc (opsO w2.heap.size)).heap[b]? = w2.heap[b]? := fun b hb hn => by
    rw [k5 b (by omega), k4 b (by omega), h3, heap_setCells mb b hn]
    exact Below.heap_alloc _ _ _ hb
  have kmb : (w4.alloc (opsO w2.heap.size)).heap[mb]? = w3.heap[mb]? := by rw [k5 mb (by omega), k4 mb (by omega)]
  have km : ∀ j, (w4.alloc (opsO w2.heap.size)).cell? ⟨w2.heap.size, j, none⟩ = w4.cell? ⟨w2.heap.size, j, none⟩ := fun j => World.cell?_of_block (k5 w2.heap.size (by omega))
  have k3 : ∀ j, w3.cell? ⟨w2.heap.size, j, none⟩ = (w2.alloc (newO cb n1 cc mb M en iA n3 ic)).cell? ⟨w2.heap.size, j, none⟩ := fun j => by
    rw [h3]; exact World.cell?_setCells_out mb _ _ _ _ (fun he => by dsimp only at he; omega)
  have f3 : ∀ b j, w3.frozen? ⟨b, j, none⟩ = (w2.alloc (newO cb n1 cc mb M en iA n3 ic)).frozen? ⟨b, j, none⟩ := fun b j => by rw [h3, World.frozen?_setCells]; rfl
  have f4 : ∀ b j, w4.frozen? ⟨b, j, none⟩ = w3.frozen? ⟨b, j, none⟩ := fun b j => by rw [← h4, World.frozen?_setCell, World.frozen?_setCell]
  have memlen : (data ++ List.replicate (M - data.length) 0).length = M := by simp; omega
  have c24 : w3.cell? ⟨w2.heap.size, 24, none⟩ = some (.slice none 0 0) := by rw [k3]; simp [newO]
  have c17 : w3.cell? ⟨w2.heap.size, 17, none⟩ = some (.int .i64 0) := by rw [k3]; simp [newO]
  have inz : inp = [] ∨ ∃ ib, iA = some ⟨ib, 0, none⟩ ∧ B ≤ ib ∧ ib < w2.heap.size ∧ n3 ≤ ic := by
    rcases oi.2 with ⟨_, e⟩ | ⟨g, cap, cur, e, r1, r2, r3, r4, _⟩
    · exact .inl (List.eq_nil_of_length_eq_zero (by omega))
    · cases e; exact .inr ⟨g, rfl, r1, (oi.lt g rfl).2, r3⟩
  have hcap : n3 ≤ ic ∧ ic ≤ 9223372036854775807 := by
    rcases oi.2 with ⟨e, e0⟩ | ⟨g, cap, cur, e, r1, r2, r3, r4, _⟩
    · cases e; omega
    · cases e; unfold maxLen at r4; exact ⟨r3, by omega⟩
  refine ⟨⟨fun o => ?_, fun j hj => ?_, ?_⟩, ?_⟩
  · rw [World.frozen?_of_block (k5 w2.heap.size (by omega)), f4, f3]; simp [newO]
  · rw [km j, ← h4]
    by_cases e24 : j = 24
    · subst e24
      rw [World.cell?_setCell_same _ _ _ ((World.cell?_setCell_other _ _ _ _ (by simp)).trans c24)]
      rfl
    rw [World.cell?_setCell_other _ _ _ _ (fun e => e24 (by injection e with _ e _; exact e.symm))]
    by_cases e17 : j = 17
    · subst e17
      rw [World.cell?_setCell_same _ _ _ c17]
      rfl
    rw [World.cell?_setCell_other _ _ _ _ (fun e => e17 (by injection e with _ e _; exact e.symm)), k3 j]
    have hc : j = 0 ∨ j = 1 ∨ j = 2 ∨ j = 3 ∨ j = 4 ∨ j = 5 ∨ j = 6 ∨ j = 7 ∨ j = 8 ∨ j = 9 ∨ j = 10 ∨ j = 11 ∨ j = 12 ∨ j = 13 ∨ j = 14 ∨ j = 15 ∨ j = 16 ∨ j = 18 ∨ j = 19 ∨ j = 20 ∨ j = 21 ∨ j = 22 ∨ j = 23 := by omega
    have hm1 : mcell ⟨w2.heap.size, mb, M, cb, cc, w3.heap.size, 16, iA, ic, .slice none 0 0⟩ (fresh code data inp en M) 1 = .slice (some ⟨mb, 0, none⟩) M M := by
      show Value.slice _ (data ++ List.replicate (M - data.length) 0).length _ = _
      rw [memlen]
    have hm0 : mcell ⟨w2.heap.size, mb, M, cb, cc, w3.heap.size, 16, iA, ic, .slice none 0 0⟩ (fresh code data inp en M) 0 = .slice (some ⟨cb, 0, none⟩) n1 cc := by
      show Value.slice _ code.length _ = _
      rw [lenc]
    have hm19 : mcell ⟨w2.heap.size, mb, M, cb, cc, w3.heap.size, 16, iA, ic, .slice none 0 0⟩ (fresh code data inp en M) 19 = .slice iA n3 ic := by
      show Value.slice _ inp.length _ = _
      rw [leni]
    rcases hc with rfl | rfl | rfl | rfl | rfl | rfl | rfl | rfl | rfl | rfl | rfl | rfl | rfl | rfl | rfl | rfl | rfl | rfl | rfl | rfl | rfl | rfl | rfl
    all_goals first | (rw [hm1]; simp [newO]; done) | (rw [hm0]; simp [newO]; done) | (rw [hm19]; simp [newO]; done) | (simp [newO, mcell, fresh]; done)
  · refine ⟨fun k hk => ?_, fun k hk => ?_, fun o => ?_, fun k hk => ?_, ?_, World.ownsRow_nil _ _ _ _, ?_, ?_, ⟨by simp [Value.ownBlock], by simp [Value.ownBlock], by simp [Value.ownBlock], by simp [Value.ownBlock]⟩, hcode, ⟨by show code.length ≤ _; omega, by show (data ++ List.replicate (M - data.length) 0).length ≤ _; rw [memlen]; exact f2, by show inp.length ≤ ic; omega, hcap.2, hinp⟩⟩
    · have h := oc.cells (g := cb) rfl k _ (nums_get hk)
      rw [add_at] at h
      exact (World.cell?_of_block (kb cb lc.2 ne1)).trans h
    · refine (World.cell?_of_block kmb).trans ?_
      have hkM : k < M := by rw [← memlen]; exact hk
      have hz : ∀ j, j < M → (w2.alloc (newO cb n1 cc mb M en iA n3 ic)).drew.cell? ⟨mb, 0 + j, none⟩ = some (.int .i64 0) := fun j hj => by
        have h := om.cells (g := mb) rfl j (.int .i64 0) (by simp [nums, hj])
        rw [add_at] at h
        rw [Nat.zero_add]
        exact (World.cell?_of_block (Below.heap_alloc _ _ _ lm.2)).trans h
      rw [h3]
      show _ = some (Value.int .i64 ((data ++ List.replicate (M - data.length) 0).getD k 0))
      by_cases hk2 : k < data.length
      · have hin := World.cell?_setCells_in mb (nums .i64 data) 0 (w2.alloc (newO cb n1 cc mb M en iA n3 ic)).drew (fun j hj => by rw [hz j (by simp [nums] at hj; omega)]; rfl) k (by simpa [nums] using hk2)
        rw [Nat.zero_add] at hin
        rw [hin]
        simp [nums, List.getD_eq_getElem?_getD, List.getElem?_append_left hk2, hk2]
      · rw [World.cell?_setCells_out mb _ _ _ _ (fun _ _ => .inr (by simp [nums]; omega))]
        have h := hz k hkM
        rw [Nat.zero_add] at h
        rw [h]
        simp [List.getD_eq_getElem?_getD, List.getElem?_append_right (Nat.le_of_not_lt hk2), List.getElem?_replicate]
        split <;> rfl
    · rw [World.frozen?_of_block (k5 mb (by omega)), f4, f3, World.frozen?_of_block (Below.heap_alloc _ _ _ lm.2)]
      exact World.ownsRow.frozenAt om o
    · have hnew : (w4.alloc (opsO w2.heap.size)).cell? ⟨w3.heap.size, k, none⟩ = some (opV w2.heap.size k) := by
        rw [← z4]
        have hc : k = 0 ∨ k = 1 ∨ k = 2 ∨ k = 3 ∨ k = 4 ∨ k = 5 ∨ k = 6 ∨ k = 7 ∨ k = 8 ∨ k = 9 ∨ k = 10 ∨ k = 11 ∨ k = 12 ∨ k = 13 ∨ k = 14 ∨ k = 15 := by omega
        rcases hc with rfl | rfl | rfl | rfl | rfl | rfl | rfl | rfl | rfl | rfl | rfl | rfl | rfl | rfl | rfl | rfl <;> simp [opsO]
      exact hnew
    · refine inz.imp id ?_
      rintro ⟨ib, rfl, i1, i2, i3⟩
      have nb : ib ≠ mb := fun e => ne3 (by rw [← e]; rfl)
      refine ⟨ib, 0, rfl, by simp; omega, by show ib ≠ w2.heap.size; omega, nb, by simp [Value.ownBlock], fun j hj => ?_⟩
      have h := oi.cells (g := ib) rfl j _ (nums_get hj)
      rw [add_at] at h
      rw [Nat.zero_add]
      exact (World.cell?_of_block (kb ib i2 nb)).trans h
    · refine ⟨?_, ?_, ?_, ?_⟩ <;> (dsimp only; simp; omega)
    · refine ⟨?_, ?_, ?_, ?_, ?_⟩ <;> (dsimp only; omega)
  · have os4 : w4.os = w2.os ∧ w4.tape = w2.tape ∧ w4.output = w2.output := by
      have hs : ∀ (vs : List Value) (o : Nat) (w : World), (w.setCells mb o vs).os = w.os ∧ (w.setCells mb o vs).tape = w.tape ∧ (w.setCells mb o vs).output = w.output := by
        intro vs
        induction vs with
        | nil => intro o w; exact ⟨rfl, rfl, rfl⟩
        | cons v vs ih => intro o w; exact ih (o + 1) _
      rw [← h4]
      show w3.os = _ ∧ w3.tape = _ ∧ w3.output = _
      rw [h3]
      exact hs _ _ _
    exact ⟨os4.1, os4.2.1, os4.2.2, by simp; omega, fun k hk => kb k (by omega) (by omega)⟩
theorem wpList_copy {P : Program} {ops : Array Oper} {rest : List Oper} {o : Oper} {a : Act} {w : World} {Q : Exit → Act → World → Prop} (hgd : o.guard = none) (d x : Operand) (t : TypeId)
    (ho : o.op = .call { callee := .builtin .copy, args := #[d, x], argTypes := #[t, t] }) (vd vx v : Value) (w' : World) (hd : a.eval d = vd) (hx : a.eval x = vx) (hr : (Builtin.copy_ #[t, t] o.type #[vd, vx]).run P w = .ok v w')
    (h : ∀ w3, w3 = w' → wpList P ops Q rest (a.put o.dst v) w3) : wpList P ops Q (o :: rest) a w := by
  refine wpList_plain hgd fun K hK => ?_
  unfold Oper.wp execOp
  simp only [ho, resolve, invoke, builtin, Sem.run_bind, Sem.run_pure, Result.andThen_ok, List.map_toArray, List.map_cons, List.map_nil, hd, hx, hr]
  exact hK _ _ (h _ rfl)
theorem copy_any {w : World} {mb M : Nat} {v : Value} {n : Nat} {data : List Int} {ty : TypeId} (hr : Reads w v n (nums .i64 data)) (hn : n ≤ M) (ho : w.ownsRow 0 2 1 (.slice (some ⟨mb, 0, none⟩) M M) M (nums .i64 (List.replicate M 0))) :
    ∃ u, (Builtin.copy_ #[22, 22] ty #[.slice (some ⟨mb, 0, none⟩) M M, v]).run Try.prog w = .ok u (w.setCells mb 0 (nums .i64 data)) := by
  obtain ⟨h1, h2, h3⟩ := hr
  rcases h3 with ⟨rfl, rfl⟩ | ⟨a, c, rfl, hx⟩
  · rw [List.eq_nil_of_length_eq_zero h1]
    exact ⟨_, run_copy_none w 22 22 ty 2 (some ⟨mb, 0, none⟩) none M M 0 0 rfl rfl (Nat.zero_min _)⟩
  · have hc := ho.cells (g := mb) rfl
    refine ⟨_, run_copy_cells w 22 22 ty 2 mb 0 M M a n c (nums .i64 data) rfl rfl (by rw [h1]; exact (Nat.min_eq_left hn).symm) hx (fun j hj => ?_) (fun j hj => ?_) h2⟩
    · have hjM : j < M := by omega
      have := hc j (.int .i64 0) (by simp [nums, hjM])
      rw [Nat.zero_add]
      by_cases hj0 : j = 0 <;> simp [Addr.add, hj0] at this ⊢ <;> rw [this] <;> rfl
    · rw [Nat.zero_add]; exact World.ownsRow.frozenAt ho j
theorem clone_any31 {w : World} {v : Value} {n : Nat} {xs : List Value} (h : Reads w v n xs) (hb : n ≤ 1000000000) :
    Calls Try.prog 31 #[v] w fun e w' => ∃ A cap, e = .returned (.slice A n cap) ∧ w'.ownsRow w.heap.size 5 1 (.slice A n cap) n xs ∧ Below w.heap.size w w' := by
  obtain ⟨h1, h2, h3⟩ := h
  rcases h3 with ⟨rfl, rfl⟩ | ⟨a, c, rfl, hx⟩
  · refine (clone_nil31 w).mono ?_
    rintro e w' ⟨rfl, rfl⟩
    rw [List.eq_nil_of_length_eq_zero h1]
    exact ⟨none, 0, rfl, World.ownsRow_nil _ _ _ _, Below.refl _ _⟩
  · refine (clone_some31 w a n c xs h1 h2 hx hb).mono ?_
    rintro e w' ⟨v, rfl, k1, k2, g, cap, rfl⟩
    exact ⟨_, cap, rfl, k1, k2⟩
theorem make_mem (M : Nat) (hM : M ≤ 262144) (w : World) : (Instr.makeSlice 22 (.int .i64 (M : Int)) (.int .i64 (M : Int))).run Try.prog w = .ok (.slice (some ⟨w.heap.size, 0, none⟩) M M) (w.alloc (.cells (madeCells #[.int .i64 0] M) 2)) := by
  have h := run_make (P := Try.prog) w 22 2 _ _ rfl rfl rfl .i64 .i64 M M (by omega) (Int.le_refl _) (by show (8 : Int) * M ≤ _; omega) (by omega)
  have h2 : (Instr.makeSlice 22 (.int .i64 (M : Int)) (.int .i64 (M : Int))).run Try.prog w = .ok (.slice (some ⟨w.heap.size, 0, none⟩) M M) (w.alloc (.cells (madeCells #[.int .i64 0] (M * 1)) 2)) := h
  rw [Nat.mul_one] at h2
  exact h2
theorem Reads.below {w X : World} {v : Value} {n : Nat} {xs : List Value} (h : Reads w v n xs) (hb : Below w.heap.size w X) : Reads X v n xs := by
  obtain ⟨h1, h2, h3⟩ := h
  refine ⟨h1, h2, h3.imp id ?_⟩
  rintro ⟨a, c, rfl, hx⟩
  exact ⟨a, c, rfl, fun j u hj => (World.cell?_of_block (hb.block _ (World.block_lt_of_cell? w _ (hx j u hj)))).trans (hx j u hj)⟩
theorem own_below {X Y : World} {B : Nat} {e : TypeId} {s n : Nat} {v : Value} {xs : List Value} (h : X.ownsRow B e s v n xs) (hb : Below X.heap.size X Y) : Y.ownsRow B e s v n xs :=
  ownsRow_frame h fun k hk => hb.block k (h.lt k hk).2
theorem clone_any30 {w : World} {a : Addr} {n c : Nat} {xs : List Value} (h : Reads w (.slice (some a) n c) n xs) (hb : n ≤ 1000000000) :
    Calls Try.prog 30 #[.slice (some a) n c] w fun e w' => ∃ g cap, e = .returned (.slice (some ⟨g, 0, none⟩) n cap) ∧ w'.ownsRow w.heap.size 2 1 (.slice (some ⟨g, 0, none⟩) n cap) n xs ∧ Below w.heap.size w w' := by
  obtain ⟨h1, h2, h3⟩ := h
  rcases h3 with ⟨h0, _⟩ | ⟨a', c', h0, hx⟩
  · cases h0
  · cases h0
    refine (clone_some30 w a n c xs h1 h2 hx hb).mono ?_
    rintro e w' ⟨v, rfl, k1, k2, g, cap, rfl⟩
    exact ⟨g, cap, rfl, k1, k2⟩
theorem made_own (B : Nat) (M : Nat) (hM : M ≤ 262144) (w : World) (hB : B ≤ w.heap.size) (b : Nat) (hbb : b = w.heap.size) : (w.alloc (.cells (madeCells #[.int .i64 0] M) 2)).ownsRow B 2 1 (.slice (some ⟨b, 0, none⟩) M M) M (nums .i64 (List.replicate M 0)) := by
  subst hbb
  have h := World.ownsRow_lit (base := B) (e := 2) (size := 1) w (madeCells #[.int .i64 0] M) M hB (by unfold maxLen; omega) (by simp [size_madeCells])
  rw [toList_madeCells_one] at h
  simpa [nums] using h
set_option maxHeartbeats 2000000 in
theorem new_ok (a1 : Addr) (A2 A3 : Option Addr) (n1 c1 n2 c2 n3 c3 M : Nat) (en : Int) (code data inp : List Int) (w : World) (f1 : (1 : Int) ≤ n1) (f2 : (n1 : Int) ≤ 65536) (f3 : (n2 : Int) ≤ 16384) (f4 : 0 ≤ en) (f5 : en < n1) (f6 : (n2 : Int) ≤ M) (f7 : (M : Int) ≤ 262144) (f8 : (n3 : Int) ≤ 4096) (r1 : Reads w (.slice (some a1) n1 c1) n1 (nums .i64 code)) (r2 : Reads w (.slice A2 n2 c2) n2 (nums .i64 data)) (r3 : Reads w (.slice A3 n3 c3) n3 (nums .u8 inp)) (hcode : ∀ k, -9223372036854775808 ≤ code.getD k 0 ∧ code.getD k 0 ≤ 9223372036854775807) (hinp : ∀ v ∈ inp, 0 ≤ v ∧ v ≤ 255) :
    Calls Try.prog 14 #[.agg #[.slice (some a1) n1 c1, .slice A2 n2 c2, .int .i64 en], .int .i64 (M : Int), .slice A3 n3 c3] w fun e w' => ∃ L, e = .returned (.tuple #[.pointer (some ⟨L.m, 0, none⟩), .int .i64 0]) ∧ Holds w' L (fresh code data inp en M) ∧ Below w.heap.size w w' ∧ ∀ b, L.foot inp b → w.heap.size ≤ b := by
  have g1 : decide ((n1 : Int) < 1) = false := decide_eq_false (by omega)
  have g2 : decide ((65536 : Int) < n1) = false := decide_eq_false (by omega)
  have g3 : decide ((16384 : Int) < n2) = false := decide_eq_false (by omega)
  have g4 : decide (en < 0) = false := decide_eq_false (by omega)
  have g5 : decide ((n1 : Int) ≤ en) = false := decide_eq_false (by omega)
  have g6 : decide (M < n2) = false := decide_eq_false (by omega)
  have g7 : decide ((262144 : Int) < M) = false := decide_eq_false (by omega)
  have g8 : decide ((4096 : Int) < n3) = false := decide_eq_false (by omega)
  go_enter Try.func14, Try.ntmps14
  go_wp2
  refine region_tree2 (fun W w' => Below W.heap.size W w') (.read 0 (.read 1 (.read 3 (.read 5 (.read 6 (.read 7 (.fork 2 (.fork 4 (.turn 8 .done) 8 (.turn 4 .done)) 4 (.turn 2 (.turn 8 .done))))))))) 9
    (fun a W a' w' => ∃ cb cc mb iA ic, w'.ownsRow W.heap.size 2 1 (.slice (some ⟨cb, 0, none⟩) n1 cc) n1 (nums .i64 code) ∧ w'.ownsRow W.heap.size 2 1 (.slice (some ⟨mb, 0, none⟩) M M) M (nums .i64 (List.replicate M 0)) ∧ w'.ownsRow W.heap.size 5 1 (.slice iA n3 ic) n3 (nums .u8 inp) ∧ cb ≠ mb ∧ (Value.slice iA n3 ic).ownBlock ≠ some cb ∧ (Value.slice iA n3 ic).ownBlock ≠ some mb ∧ Below W.heap.size W w' ∧
      a' = (((((((((a.put (some 52) (.pointer (some ⟨w.heap.size, 0, none⟩))).put (some 53) (.slice (some a1) n1 c1)).put (some 55) (.int .i64 (M : Int))).put (some 57) (.pointer (some ⟨w.heap.size, 2, none⟩))).put (some 58) (.int .i64 en)).put (some 59) (.slice A3 n3 c3)).put (some 54) (.slice (some ⟨cb, 0, none⟩) n1 cc)).put (some 56) (.slice (some ⟨mb, 0, none⟩) M M)).put (some 60) (.slice iA n3 ic))) mixed (by kernel_rfl) (Below.refl _ _) ?_ ?_
  refine tree_read (some 52) ?v0 rfl rfl (fun _ _ _ h => h) rfl ?y0 ?_
  case y0 => intro w' hS; obtain ⟨c1, c2⟩ := bcell hS; go_simp; try rfl
  refine tree_read (some 53) ?v1 rfl rfl (fun _ _ _ h => h) rfl ?y1 ?_
  case y1 => intro w' hS; obtain ⟨c1, c2⟩ := bcell hS; go_simp; try rfl
  refine tree_read (some 55) ?v3 rfl rfl (fun _ _ _ h => h) rfl ?y3 ?_
  case y3 => intro w' hS; obtain ⟨c1, c2⟩ := bcell hS; go_simp; try rfl
  refine tree_read (some 57) ?v5 rfl rfl (fun _ _ _ h => h) rfl ?y5 ?_
  case y5 => intro w' hS; obtain ⟨c1, c2⟩ := bcell hS; go_simp; try rfl
  refine tree_read (some 58) ?v6 rfl rfl (fun _ _ _ h => h) rfl ?y6 ?_
  case y6 => intro w' hS; obtain ⟨c1, c2⟩ := bcell hS; go_simp; try rfl
  refine tree_read (some 59) ?v7 rfl rfl (fun _ _ _ h => h) rfl ?y7 ?_
  case y7 => intro w' hS; obtain ⟨c1, c2⟩ := bcell hS; go_simp; try rfl
  have hmk := make_mem M (by omega)
  have hw : Below w.heap.size w ((w.alloc (.cells #[.slice (some a1) n1 c1, .slice A2 n2 c2, .int .i64 en] 24)).drew) := ((Below.refl _ _).alloc (Nat.le_refl _) _).drew
  have hwW : w.heap.size ≤ ((w.alloc (.cells #[.slice (some a1) n1 c1, .slice A2 n2 c2, .int .i64 en] 24)).drew).heap.size := hw.size
  have hX_0 : Below ((w.alloc (.cells #[.slice (some a1) n1 c1, .slice A2 n2 c2, .int .i64 en] 24)).drew).heap.size ((w.alloc (.cells #[.slice (some a1) n1 c1, .slice A2 n2 c2, .int .i64 en] 24)).drew) ((w.alloc (.cells #[.slice (some a1) n1 c1, .slice A2 n2 c2, .int .i64 en] 24)).drew) := Below.refl _ _
  refine tree_fork rfl rfl rfl rfl (fun K hK => ?_) (fun K hK => ?_)
  · skip
    go_simp
    refine (clone_any30 (r1.below (hw.trans (hX_0.mono hwW))) (by omega)).mono ?_
    rintro e x1 ⟨cb, cc, rfl, oc, b_x1⟩
    dsimp only
    have lc := oc.lt cb rfl
    have z_x1 := b_x1.size
    have hX_x1 := hX_0.trans (b_x1.mono hX_0.size)
    refine hK _ _ hX_x1 (fun _ => ?_)
    clear hK K
    refine tree_fork rfl rfl rfl rfl (fun K hK => ?_) (fun K hK => ?_)
    · skip
      unfold Oper.wp execOp
      go_simp
      have om := made_own (x1).heap.size M (by omega) (x1) (Nat.le_refl _) (x1.heap.size) (by first | rfl | simp)
      have b_x2 : Below (x1).heap.size (x1) ((x1).alloc (.cells (madeCells #[.int .i64 0] M) 2)) := (Below.refl _ _).alloc (Nat.le_refl _) _
      have lm := om.lt (x1.heap.size) rfl
      have z_x2 := b_x2.size
      have hX_x2 := hX_x1.trans (b_x2.mono hX_x1.size)
      have oc := own_below oc b_x2
      refine hK _ _ hX_x2 (fun _ => ?_)
      clear hK K
      refine tree_turn rfl rfl (fun K hK => ?_)
      go_simp
      refine (clone_any31 (r3.below (hw.trans (hX_x2.mono hwW))) (by omega)).mono ?_
      rintro e x3 ⟨iA, ic, rfl, oi, b_x3⟩
      dsimp only
      have li := oi.lt
      have z_x3 := b_x3.size
      have hX_x3 := hX_x2.trans (b_x3.mono hX_x2.size)
      have oc := own_below oc b_x3
      have om := own_below om b_x3
      refine hK _ _ hX_x3 (fun _ => ?_)
      clear hK K
      exact tree_done ⟨cb, cc, _, iA, ic, own_le oc (by omega), own_le om (by omega), own_le oi (by omega), by omega, fun e => by have := li _ e; omega, fun e => by have := li _ e; omega, hX_x3, by kernel_rfl⟩
    · skip
      go_simp
      refine (clone_any31 (r3.below (hw.trans (hX_x1.mono hwW))) (by omega)).mono ?_
      rintro e x2 ⟨iA, ic, rfl, oi, b_x2⟩
      dsimp only
      have li := oi.lt
      have z_x2 := b_x2.size
      have hX_x2 := hX_x1.trans (b_x2.mono hX_x1.size)
      have oc := own_below oc b_x2
      refine hK _ _ hX_x2 (fun _ => ?_)
      clear hK K
      refine tree_turn rfl rfl (fun K hK => ?_)
      unfold Oper.wp execOp
      go_simp
      have om := made_own (x2).heap.size M (by omega) (x2) (Nat.le_refl _) (x2.heap.size) (by first | rfl | simp)
      have b_x3 : Below (x2).heap.size (x2) ((x2).alloc (.cells (madeCells #[.int .i64 0] M) 2)) := (Below.refl _ _).alloc (Nat.le_refl _) _
      have lm := om.lt (x2.heap.size) rfl
      have z_x3 := b_x3.size
      have hX_x3 := hX_x2.trans (b_x3.mono hX_x2.size)
      have oc := own_below oc b_x3
      have oi := own_below oi b_x3
      refine hK _ _ hX_x3 (fun _ => ?_)
      clear hK K
      exact tree_done ⟨cb, cc, _, iA, ic, own_le oc (by omega), own_le om (by omega), own_le oi (by omega), by omega, fun e => by have := li _ e; omega, fun e => by have := li _ e; omega, hX_x3, by kernel_rfl⟩
  · skip
    unfold Oper.wp execOp
    go_simp
    have om := made_own ((w.alloc (.cells #[.slice (some a1) n1 c1, .slice A2 n2 c2, .int .i64 en] 24)).drew).heap.size M (by omega) ((w.alloc (.cells #[.slice (some a1) n1 c1, .slice A2 n2 c2, .int .i64 en] 24)).drew) (Nat.le_refl _) (w.heap.size + 1) (by first | rfl | simp)
    have b_x1 : Below ((w.alloc (.cells #[.slice (some a1) n1 c1, .slice A2 n2 c2, .int .i64 en] 24)).drew).heap.size ((w.alloc (.cells #[.slice (some a1) n1 c1, .slice A2 n2 c2, .int .i64 en] 24)).drew) (((w.alloc (.cells #[.slice (some a1) n1 c1, .slice A2 n2 c2, .int .i64 en] 24)).drew).alloc (.cells (madeCells #[.int .i64 0] M) 2)) := (Below.refl _ _).alloc (Nat.le_refl _) _
    have lm := om.lt (w.heap.size + 1) rfl
    have z_x1 := b_x1.size
    have hX_x1 := hX_0.trans (b_x1.mono hX_0.size)
    refine hK _ _ hX_x1 (fun _ => ?_)
    clear hK K
    refine tree_turn rfl rfl (fun K hK => ?_)
    go_simp
    refine (clone_any30 (r1.below (hw.trans (hX_x1.mono hwW))) (by omega)).mono ?_
    rintro e x2 ⟨cb, cc, rfl, oc, b_x2⟩
    dsimp only
    have lc := oc.lt cb rfl
    have z_x2 := b_x2.size
    have hX_x2 := hX_x1.trans (b_x2.mono hX_x1.size)
    have om := own_below om b_x2
    refine hK _ _ hX_x2 (fun _ => ?_)
    clear hK K
    refine tree_turn rfl rfl (fun K hK => ?_)
    go_simp
    refine (clone_any31 (r3.below (hw.trans (hX_x2.mono hwW))) (by omega)).mono ?_
    rintro e x3 ⟨iA, ic, rfl, oi, b_x3⟩
    dsimp only
    have li := oi.lt
    have z_x3 := b_x3.size
    have hX_x3 := hX_x2.trans (b_x3.mono hX_x2.size)
    have oc := own_below oc b_x3
    have om := own_below om b_x3
    refine hK _ _ hX_x3 (fun _ => ?_)
    clear hK K
    exact tree_done ⟨cb, cc, _, iA, ic, own_le oc (by omega), own_le om (by omega), own_le oi (by omega), by omega, fun e => by have := li _ e; omega, fun e => by have := li _ e; omega, hX_x3, by kernel_rfl⟩
  rintro a' w2 ⟨cb, cc, mb, iA, ic, oc, om, oi, ne1, ne2, ne3, hb, rfl⟩
  have hsz := hb.size
  simp only [World.size_drew, World.size_alloc] at hsz
  have hz1 : w.heap.size < w2.heap.size := by omega
  obtain ⟨e1, e2⟩ := bcell hb
  simp only [List.drop_succ_cons, List.drop_zero]
  go_simp
  go_wp2
  refine region_tail 6 mixed (by kernel_rfl) ?_
  simp only [List.take_succ_cons, List.take_zero, List.drop_succ_cons, List.drop_zero]
  repeat still_step
  refine wpStill_nil ?_
  have hbx : Below w2.heap.size w2 (w2.alloc (.cells #[.slice (some ⟨cb, 0, none⟩) n1 cc, .slice (some ⟨mb, 0, none⟩) M M, .int .i64 0, .int .i64 0, .int .i64 0, .int .i64 0, .int .i64 0, .int .i64 0, .int .i64 0, .int .i64 0, .int .i64 0, .int .i64 0, .int .i64 0, .int .i64 0, .int .i64 0, .int .i64 0, .int .i64 0, .int .i64 0, .int .i64 en, .slice iA n3 ic, .slice none 0 0, .int .i64 0, .int .i64 0, .int .i64 0, .slice none 0 0] 61)).drew := ((Below.refl _ _).alloc (Nat.le_refl _) _).drew
  have hw2 : Below w.heap.size w w2 := (((Below.refl _ _).alloc (Nat.le_refl _) _).drew).trans (hb.mono (by simp))
  obtain ⟨u, hcp⟩ := copy_any (ty := 3) (r2.below (hw2.trans (hbx.mono hw2.size))) (by omega) (own_le (own_below om hbx) (Nat.zero_le _))
  refine wpList_copy rfl (.tmp 66) (.tmp 68) 22 rfl _ _ u _ rfl rfl hcp (fun w3 h3 => ?_)
  have lm := om.lt mb rfl
  have kc : ∀ j, w3.cell? ⟨w2.heap.size, j, none⟩ = (w2.alloc (.cells #[.slice (some ⟨cb, 0, none⟩) n1 cc, .slice (some ⟨mb, 0, none⟩) M M, .int .i64 0, .int .i64 0, .int .i64 0, .int .i64 0, .int .i64 0, .int .i64 0, .int .i64 0, .int .i64 0, .int .i64 0, .int .i64 0, .int .i64 0, .int .i64 0, .int .i64 0, .int .i64 0, .int .i64 0, .int .i64 0, .int .i64 en, .slice iA n3 ic, .slice none 0 0, .int .i64 0, .int .i64 0, .int .i64 0, .slice none 0 0] 61)).cell? ⟨w2.heap.size, j, none⟩ := fun j => by
    rw [h3]; exact World.cell?_setCells_out mb _ _ _ _ (fun he => by dsimp only at he; omega)
  have k17 : w3.cell? ⟨w2.heap.size, 17, none⟩ = some (.int .i64 0) := by rw [kc]; simp
  have k24 : w3.cell? ⟨w2.heap.size, 24, none⟩ = some (.slice none 0 0) := by rw [kc]; simp
  have kf : ∀ o, w3.frozen? ⟨w2.heap.size, o, none⟩ = false := fun o => by rw [h3, World.frozen?_setCells]; simp
  have kz : w2.heap.size < w3.heap.size := World.block_lt_of_cell? w3 _ k24
  have H3 := Lib.hid h3
  clear h3 kc
  have hmf : ∀ (fn : Fn) (first cap : Array Value) (w : World), (Instr.makeFunc fn first cap).run Try.prog w = .ok (.func fn first cap) w := fun _ _ _ _ => rfl
  go_wp2
  have lend : data.length = n2 := by have := r2.1; simpa [nums] using this
  obtain ⟨hH, hB⟩ := fresh_holds oc om oi ne1 ne2 ne3 (by omega) (by omega) (by omega) hcode hinp H3.out
  have hBw := hB.mono (B' := w.heap.size) (by simp)
  refine bodyPost_ret (results_tmp2 rfl _ _ _) rfl ⟨_, rfl, hH, hw2.trans hBw, ?_⟩
  rintro b (hb' | hb' | hb' | hb' | hb' | ⟨hb', off, hb''⟩)
  · subst hb'; dsimp only; omega
  · subst hb'; have := lm.1; simp at this; omega
  · subst hb'; have := (oc.lt _ rfl).1; simp at this; omega
  · subst hb'; dsimp only; omega
  · cases hb'
  · dsimp only at hb''; subst hb''; have := (oi.lt b rfl).1; simp at this; omega
end Go.Proofs.Ytbchiolgbhckhaa.Mach
end

section
/- What is asked of a machine: its place, its registers, its memory; a whole run. -/
set_option linter.unusedVariables false
set_option linter.unusedSimpArgs false
namespace Go.Proofs.Ytbchiolgbhckhaa.Mach
open Go.RowKit Go.Proofs.YtbchiolgbhckhaaW.PrintWords Go.Proofs.YtbchiolgbhckhaaW.PrintMore Go.Proofs.Ytbchiolgbhckhaa.PMachRuns

theorem pc_nil (w : World) : Calls Try.prog 19 #[.pointer none] w fun e w' => e = .returned (.int .i64 0) ∧ w = w' := by
  go_enter Try.func19, Try.ntmps19
  go_wp2
  go_ret
  exact ⟨rfl, rfl⟩
theorem reg_nil (i : Int) (w : World) : Calls Try.prog 20 #[.pointer none, .int .i64 i] w fun e w' => e = .returned (.int .i64 0) ∧ w = w' := by
  go_enter Try.func20, Try.ntmps20
  go_wp2
  all_goals (go_ret; exact ⟨rfl, rfl⟩)
theorem mem_nil (i : Int) (w : World) : Calls Try.prog 21 #[.pointer none, .int .i64 i] w fun e w' => e = .returned (.int .i64 0) ∧ w = w' := by
  go_enter Try.func21, Try.ntmps21
  go_wp2
  all_goals (go_ret; exact ⟨rfl, rfl⟩)
theorem pc_some {w : World} {L : Lay} {s : MS} (h : Holds w L s) : Calls Try.prog 19 #[.pointer (some ⟨L.m, 0, none⟩)] w fun e w' => e = .returned (.int .i64 s.pc) ∧ w = w' := by
  have h18 := h.pc_cell
  go_enter Try.func19, Try.ntmps19
  go_wp2
  go_ret
  exact ⟨rfl, rfl⟩
theorem reg_some {w : World} {L : Lay} {s : MS} (h : Holds w L s) (a : Nat) (ha : a < 16) : Calls Try.prog 20 #[.pointer (some ⟨L.m, 0, none⟩), .int .i64 (a : Int)] w fun e w' => e = .returned (.int .i64 (s.reg a)) ∧ w = w' := by
  have hr := h.reg a ha
  have h1 : decide ((a : Int) < 0) = false := decide_eq_false (by omega)
  have h2 : decide ((16 : Int) ≤ a) = false := decide_eq_false (by omega)
  have h3 : (a : Int) < 16 := by omega
  go_enter Try.func20, Try.ntmps20
  go_wp2
  go_ret
  exact ⟨rfl, rfl⟩
theorem reg_out {m : Nat} (i : Int) (hi : i < 0 ∨ 16 ≤ i) (w : World) : Calls Try.prog 20 #[.pointer (some ⟨m, 0, none⟩), .int .i64 i] w fun e w' => e = .returned (.int .i64 0) ∧ w = w' := by
  rcases hi with hi | hi
  · go_enter Try.func20, Try.ntmps20
    go_wp2
    go_ret
    exact ⟨rfl, rfl⟩
  · have h1 : decide (i < 0) = false := decide_eq_false (by omega)
    go_enter Try.func20, Try.ntmps20
    go_wp2
    go_ret
    exact ⟨rfl, rfl⟩
theorem mem_some {w : World} {L : Lay} {s : MS} (h : Holds w L s) (i : Int) (h0 : 0 ≤ i) (h1 : i < s.mem.length) : Calls Try.prog 21 #[.pointer (some ⟨L.m, 0, none⟩), .int .i64 i] w fun e w' => e = .returned (.int .i64 (rd s.mem i)) ∧ w = w' := by
  have hc := h.mem_cell
  have hv := h.mem_read h0 h1
  have g1 : decide (i < 0) = false := decide_eq_false (by omega)
  have g2 : decide ((s.mem.length : Int) ≤ i) = false := decide_eq_false (by omega)
  go_enter Try.func21, Try.ntmps21
  go_wp2
  go_ret
  exact ⟨rfl, rfl⟩
theorem mem_out {w : World} {L : Lay} {s : MS} (h : Holds w L s) (i : Int) (hi : i < 0 ∨ s.mem.length ≤ i) : Calls Try.prog 21 #[.pointer (some ⟨L.m, 0, none⟩), .int .i64 i] w fun e w' => e = .returned (.int .i64 0) ∧ w = w' := by
  have hc := h.mem_cell
  rcases hi with hi | hi
  · go_enter Try.func21, Try.ntmps21
    go_wp2
    go_ret
    exact ⟨rfl, rfl⟩
  · have h1 : decide (i < 0) = false := decide_eq_false (by omega)
    go_enter Try.func21, Try.ntmps21
    go_wp2
    go_ret
    exact ⟨rfl, rfl⟩
theorem num_any (i : Int) (w : World) : Calls Try.prog 16 #[.int .i64 i] w fun e w' => e = .returned (.int .i64 i) ∧ w = w' := by
  go_enter Try.func16, Try.ntmps16
  go_wp2
  go_ret
  exact ⟨rfl, rfl⟩
end Go.Proofs.Ytbchiolgbhckhaa.Mach
end

section
/- A whole run, out of an image, a memory's size, an input and so much fuel. -/
set_option linter.unusedVariables false
set_option linter.unusedSimpArgs false
namespace Go.Proofs.Ytbchiolgbhckhaa.Mach
open Go.RowKit Go.Proofs.YtbchiolgbhckhaaW.PrintWords Go.Proofs.YtbchiolgbhckhaaW.PrintMore Go.Proofs.Ytbchiolgbhckhaa.PMachRuns

theorem below_two {w : World} (o1 o2 : Obj) : Below w.heap.size w ((w.alloc o1).alloc o2) := ((Below.refl _ _).alloc (Nat.le_refl _) _).alloc (by simp) _
set_option maxHeartbeats 1000000 in
theorem mrun_bad (A1 A2 A3 : Option Addr) (n1 c1 n2 c2 n3 c3 : Nat) (en mem fuel er : Int) (w : World) (he : (er != 0) = true)
    (hn : ∀ X, Below w.heap.size w X → Calls Try.prog 14 #[.agg #[.slice A1 n1 c1, .slice A2 n2 c2, .int .i64 en], .int .i64 mem, .slice A3 n3 c3] X fun e w' => e = .returned (.tuple #[.pointer none, .int .i64 er]) ∧ Below X.heap.size X w') :
    Calls Try.prog 27 #[.agg #[.slice A1 n1 c1, .slice A2 n2 c2, .int .i64 en], .int .i64 mem, .slice A3 n3 c3, .int .i64 fuel] w fun e w' => e = .returned (.agg #[.int .i64 5, .int .i64 0, .slice none 0 0, .int .i64 0]) ∧ Below w.heap.size w w' := by
  go_enter Try.func27, Try.ntmps27
  go_wp2_with (go_at_call 14; refine (hn _ (below_two _ _)).mono ?_; rintro e w2 ⟨rfl, hb⟩; obtain ⟨e1, e2⟩ := bcell hb; have hz := hb.size; simp only [World.size_alloc] at hz; have hz1 : w.heap.size + 1 < w2.heap.size := by omega)
  have d0 : w2.cell? ⟨w.heap.size + 1, 0, none⟩ = some (.int .i64 0) := by rw [e1 _ _ (by simp)]; simp [resO]
  have d1 : w2.cell? ⟨w.heap.size + 1, 1, none⟩ = some (.int .i64 0) := by rw [e1 _ _ (by simp)]; simp [resO]
  have d2 : w2.cell? ⟨w.heap.size + 1, 2, none⟩ = some (.slice none 0 0) := by rw [e1 _ _ (by simp)]; simp [resO]
  have d3 : w2.cell? ⟨w.heap.size + 1, 3, none⟩ = some (.int .i64 0) := by rw [e1 _ _ (by simp)]; simp [resO]
  have df : ∀ o, w2.frozen? ⟨w.heap.size + 1, o, none⟩ = false := fun o => by rw [e2 _ _ (by simp)]; simp [resO]
  have hw2 : Below w.heap.size w w2 := (below_two _ _).trans (hb.mono (by simp only [World.size_alloc]; omega))
  exact bodyPost_ret (v := .agg #[.int .i64 5, .int .i64 0, .slice none 0 0, .int .i64 0]) (by simp [results, Try.results27, go_sem, d0, d1, d2, d3, df]) rfl ⟨rfl, ((((hw2.setCell (p := ⟨w.heap.size + 1, 0, none⟩) (Nat.le_succ _) _).setCell (p := ⟨w.heap.size + 1, 1, none⟩) (Nat.le_succ _) _).setCell (p := ⟨w.heap.size + 1, 2, none⟩) (Nat.le_succ _) _).setCell (p := ⟨w.heap.size + 1, 3, none⟩) (Nat.le_succ _) _)⟩
theorem mrun_kept {w w2 w3 : World} {L L' : Lay} {s s' : MS} {q1 q2 q3 : Value} (hb : Below ((w.alloc (.cells #[q1, q2, q3] 24)).alloc resO).heap.size ((w.alloc (.cells #[q1, q2, q3] 24)).alloc resO) w2)
    (hft : ∀ b, L.foot s.inp b → ((w.alloc (.cells #[q1, q2, q3] 24)).alloc resO).heap.size ≤ b) (hN : Next w2 L s w3 L' s') (hz : w.heap.size + 1 < w2.heap.size) :
    w3.cell? ⟨w.heap.size + 1, 0, none⟩ = some (.int .i64 0) ∧ w3.cell? ⟨w.heap.size + 1, 1, none⟩ = some (.int .i64 0) ∧ w3.cell? ⟨w.heap.size + 1, 2, none⟩ = some (.slice none 0 0) ∧ w3.cell? ⟨w.heap.size + 1, 3, none⟩ = some (.int .i64 0) ∧ (∀ o, w3.frozen? ⟨w.heap.size + 1, o, none⟩ = false) ∧ Below w.heap.size w w3 := by
  have hs : ((w.alloc (.cells #[q1, q2, q3] 24)).alloc resO).heap.size = w.heap.size + 2 := by simp
  rw [hs] at hb hft
  have hk : w3.heap[w.heap.size + 1]? = ((w.alloc (.cells #[q1, q2, q3] 24)).alloc resO).heap[w.heap.size + 1]? :=
    (hN.far.block _ hz (fun hf => by have := hft _ hf; omega)).trans (hb.block _ (by omega))
  refine ⟨(World.cell?_of_block hk).trans ?_, (World.cell?_of_block hk).trans ?_, (World.cell?_of_block hk).trans ?_, (World.cell?_of_block hk).trans ?_, fun o => (World.frozen?_of_block hk).trans ?_, ?_⟩
  · simp [resO]
  · simp [resO]
  · simp [resO]
  · simp [resO]
  · simp [resO]
  · exact ((below_two _ _).trans (hb.mono (by omega))).trans (hN.far.below (by omega) (fun k hk' => by have := hft k hk'; omega))
set_option maxHeartbeats 1000000 in
theorem mrun_ok (a1 : Addr) (A2 A3 : Option Addr) (n1 c1 n2 c2 n3 c3 M : Nat) (en : Int) (code data inp : List Int) (w : World) (fuel : Int) (hfu : fuel ≤ 9223372036854775807) (f1 : (1 : Int) ≤ n1) (f2 : (n1 : Int) ≤ 65536) (f3 : (n2 : Int) ≤ 16384) (f4 : 0 ≤ en) (f5 : en < n1) (f6 : (n2 : Int) ≤ M) (f7 : (M : Int) ≤ 262144) (f8 : (n3 : Int) ≤ 4096) (r1 : Reads w (.slice (some a1) n1 c1) n1 (nums .i64 code)) (r2 : Reads w (.slice A2 n2 c2) n2 (nums .i64 data)) (r3 : Reads w (.slice A3 n3 c3) n3 (nums .u8 inp)) (hcode : ∀ k, -9223372036854775808 ≤ code.getD k 0 ∧ code.getD k 0 ≤ 9223372036854775807) (hinp : ∀ v ∈ inp, 0 ≤ v ∧ v ≤ 255) :
    Calls Try.prog 27 #[(.agg #[.slice (some a1) n1 c1, .slice A2 n2 c2, .int .i64 en]), .int .i64 (M : Int), .slice A3 n3 c3, .int .i64 fuel] w fun e w' => ∃ B, Told B (runN (min fuel 4194304).toNat (fresh code data inp en M)) e w' ∧ w.heap.size ≤ B ∧ Below w.heap.size w w' := by
  have hnew : ∀ X, Below w.heap.size w X → _ := fun X hX => new_ok a1 A2 A3 n1 c1 n2 c2 n3 c3 M en code data inp X f1 f2 f3 f4 f5 f6 f7 f8 (r1.below hX) (r2.below hX) (r3.below hX) hcode hinp
  go_enter Try.func27, Try.ntmps27
  go_wp2_with (first | (go_at_call 14; refine (hnew _ (below_two _ _)).mono ?_; rintro e w2 ⟨L, rfl, hH, hb, hft⟩; obtain ⟨e1, e2⟩ := bcell hb; have hz := hb.size; simp only [World.size_alloc] at hz; have hz1 : w.heap.size + 1 < w2.heap.size := by omega) | (go_at_call 25; refine (run_any hH (Nat.zero_le _) (min fuel 4194304) (by omega)).mono ?_; rintro e w3 ⟨L', B, hN, ⟨v', rfl, hv'⟩, hB1, hB2⟩; obtain ⟨A', cap', rfl⟩ := own_slice hv'; obtain ⟨d0, d1, d2, d3, df, hR⟩ := mrun_kept hb hft hN hz1))
  have hlt : w.heap.size + 1 < B := Nat.lt_of_lt_of_le hz1 hB1
  have r := fun u0 u1 u2 u3 => ownsRow_setCell_below (ownsRow_setCell_below (ownsRow_setCell_below (ownsRow_setCell_below hv' (a := ⟨w.heap.size + 1, 0, none⟩) hlt u0) (a := ⟨w.heap.size + 1, 1, none⟩) hlt u1) (a := ⟨w.heap.size + 1, 2, none⟩) hlt u2) (a := ⟨w.heap.size + 1, 3, none⟩) hlt u3
  exact bodyPost_ret (v := .agg #[.int .i64 _, .int .i64 _, .slice A' _ cap', .int .i64 _]) (by simp [results, Try.results27, go_sem, d0, d1, d2, d3, df]) rfl ⟨B, ⟨_, rfl, r _ _ _ _⟩, by omega, ((((hR.setCell (p := ⟨w.heap.size + 1, 0, none⟩) (Nat.le_succ _) _).setCell (p := ⟨w.heap.size + 1, 1, none⟩) (Nat.le_succ _) _).setCell (p := ⟨w.heap.size + 1, 2, none⟩) (Nat.le_succ _) _).setCell (p := ⟨w.heap.size + 1, 3, none⟩) (Nat.le_succ _) _)⟩
end Go.Proofs.Ytbchiolgbhckhaa.Mach
end

section
/- The words of instructions that a law has laid down itself; a run of a machine that there is not. -/
set_option linter.unusedVariables false
set_option linter.unusedSimpArgs false
namespace Go.Proofs.Ytbchiolgbhckhaa.Mach
open Go.RowKit Go.Proofs.YtbchiolgbhckhaaW.PrintWords Go.Proofs.YtbchiolgbhckhaaW.PrintMore Go.Proofs.Ytbchiolgbhckhaa.PMachRuns

theorem bnext {a b c : World} (h : Below a.heap.size a b) (k : Below b.heap.size b c) : Below a.heap.size a c := h.trans (k.mono h.size)
def enc5 (x : S50) : List Value := [.int .i64 x.f0, .int .i64 x.f1, .int .i64 x.f2, .int .i64 x.f3, .int .i64 x.f4]
theorem enc5_at : ∀ (l : List S50) (j i : Nat) (p : S50), l[j]? = some p → i < 5 → (l.flatMap enc5)[j * 5 + i]? = (enc5 p)[i]?
  | [], j, i, p, h, _ => by simp at h
  | x :: l, 0, i, p, h, hi => by
    simp only [List.getElem?_cons_zero, Option.some.injEq] at h
    subst h
    rw [List.flatMap_cons, Nat.zero_mul, Nat.zero_add, List.getElem?_append_left (by simpa [enc5] using hi)]
  | x :: l, j + 1, i, p, h, hi => by
    simp only [List.getElem?_cons_succ] at h
    have := enc5_at l j i p h hi
    rw [List.flatMap_cons, List.getElem?_append_right (by simp [enc5]; omega), show (j + 1) * 5 + i - (enc5 x).length = j * 5 + i by simp [enc5]; omega]
    exact this
theorem code_any (k g c : Nat) (l : List S50) (r : List Int) (w : World) (cs : Array Value) (t : Nat × Nat) (hb : w.heap[g]? = some (.cells cs 50 t)) (hcs : cs.toList = l.flatMap enc5) (hl : l.length ≤ c) (hl' : l.length ≤ 9223372036854775807) (h : mortiselaw3_Code.f k l = some r) :
    Calls Try.prog 26 #[.slice (some ⟨g, 0, none⟩) l.length c] w fun e w' => ∃ A cap, e = .returned (.slice A r.length cap) ∧ w'.ownsRow w.heap.size 2 1 (.slice A r.length cap) r.length (nums .i64 r) ∧ Below w.heap.size w w' := by
  refine (mortiselaw3_Code.calls k (some ⟨g, 0, none⟩) c l r w ⟨rfl, hl', fun _ => ⟨_, rfl, fun j p hj => ⟨enc5 p, rfl, ?_, fun i u hu => ?_⟩⟩⟩ hl h).mono ?_
  · exact ⟨_, _, rfl, rfl, ⟨_, _, rfl, rfl, ⟨_, _, rfl, rfl, ⟨_, _, rfl, rfl, rfl⟩⟩⟩⟩
  · have hi : i < 5 := by
      have := (List.getElem?_eq_some_iff.1 hu).1
      simpa [enc5] using this
    have h2 := enc5_at l j i p hj hi
    rw [hu, ← hcs] at h2
    show w.cell? ((⟨g, 0, none⟩ : Addr).add (j * 5 + i)) = some u
    rw [add_at]
    simp only [World.cell?, hb]
    rw [Array.getElem?_toList] at h2
    simpa using h2
  · rintro e w' ⟨v, rfl, hR, hB⟩
    have ho := Kd.own_of_R hR
    obtain ⟨A, cap, rfl⟩ := own_slice ho
    exact ⟨A, cap, rfl, ho, hB⟩
theorem own_reads {w : World} {B : Nat} {e : TypeId} {A : Option Addr} {n cap : Nat} {kd : IntKind} {xs : List Int} (h : w.ownsRow B e 1 (.slice A n cap) n (nums kd xs)) : Reads w (.slice A n cap) n (nums kd xs) := by
  refine ⟨by simpa using h.1, by intro u hu; simp only [nums, List.mem_map] at hu; obtain ⟨x, _, rfl⟩ := hu; rfl, ?_⟩
  rcases h.2 with ⟨e1, e2⟩ | ⟨g, cap', cur, e1, _⟩
  · exact .inl ⟨e1, e2⟩
  · cases e1
    exact .inr ⟨_, cap, rfl, h.cells (g := g) rfl⟩
theorem reads_nil (w : World) (kd : IntKind) : Reads w (.slice none 0 0) 0 (nums kd []) := ⟨rfl, by simp [nums], .inl ⟨rfl, rfl⟩⟩
set_option maxHeartbeats 1000000 in
theorem run_nil (n : Int) (w : World) : Calls Try.prog 25 #[.pointer none, .int .i64 n] w fun e w' => e = .returned (.agg #[.int .i64 0, .int .i64 0, .slice none 0 0, .int .i64 0]) ∧ Below w.heap.size w w' := by
  go_enter Try.func25, Try.ntmps25
  go_wp2
  go_loopw [1] (fun i wr => i = .int .i64 n ∧ Below (w.heap.size + 1) (w.alloc resO) wr) (fun i _ => 0)
  case atStart => exact ⟨rfl, Below.refl _ _⟩
  case round =>
    obtain ⟨rfl, hb⟩ := hrel
    have fin : ∀ w2, Below wr.heap.size wr w2 → w2.cell? ⟨w.heap.size, 0, none⟩ = some (.int .i64 0) ∧ w2.cell? ⟨w.heap.size, 1, none⟩ = some (.int .i64 0) ∧ w2.cell? ⟨w.heap.size, 2, none⟩ = some (.slice none 0 0) ∧ w2.cell? ⟨w.heap.size, 3, none⟩ = some (.int .i64 0) ∧ (∀ o, w2.frozen? ⟨w.heap.size, o, none⟩ = false) ∧ Below w.heap.size w w2 := by
      intro w2 h2
      have hz := hb.size
      simp only [World.size_alloc] at hz
      have hk : w2.heap[w.heap.size]? = (w.alloc resO).heap[w.heap.size]? := (h2.block _ (by omega)).trans (hb.block _ (by omega))
      refine ⟨(World.cell?_of_block hk).trans ?_, (World.cell?_of_block hk).trans ?_, (World.cell?_of_block hk).trans ?_, (World.cell?_of_block hk).trans ?_, fun o => (World.frozen?_of_block hk).trans ?_, ?_⟩
      · simp [resO]
      · simp [resO]
      · simp [resO]
      · simp [resO]
      · simp [resO]
      · exact (((Below.refl _ _).alloc (Nat.le_refl _) _).trans (hb.mono (by omega))).trans (h2.mono (by omega))
    by_cases hn : 0 < n
    · go_wp2_with (first | (go_at_call 17; refine (step_nil _).mono ?_; rintro e w2 ⟨rfl, hb2⟩) | (go_at_call 23; refine (outcome_nil _).mono ?_; rintro e w3 ⟨rfl, hb3⟩; obtain ⟨d0, d1, d2, d3, df, hR⟩ := fin w3 (hb2.trans (hb3.mono hb2.size))))
      exact bodyPost_ret (v := .agg #[.int .i64 0, .int .i64 0, .slice none 0 0, .int .i64 0]) (by simp [results, Try.results25, go_sem, d0, d1, d2, d3, df]) rfl ⟨rfl, ((((hR.setCell (p := ⟨w.heap.size, 0, none⟩) (Nat.le_refl _) _).setCell (p := ⟨w.heap.size, 1, none⟩) (Nat.le_refl _) _).setCell (p := ⟨w.heap.size, 2, none⟩) (Nat.le_refl _) _).setCell (p := ⟨w.heap.size, 3, none⟩) (Nat.le_refl _) _)⟩
    · go_wp2_with (go_at_call 23; refine (outcome_nil _).mono ?_; rintro e w3 ⟨rfl, hb3⟩; obtain ⟨d0, d1, d2, d3, df, hR⟩ := fin w3 hb3)
      exact bodyPost_ret (v := .agg #[.int .i64 0, .int .i64 0, .slice none 0 0, .int .i64 0]) (by simp [results, Try.results25, go_sem, d0, d1, d2, d3, df]) rfl ⟨rfl, ((((hR.setCell (p := ⟨w.heap.size, 0, none⟩) (Nat.le_refl _) _).setCell (p := ⟨w.heap.size, 1, none⟩) (Nat.le_refl _) _).setCell (p := ⟨w.heap.size, 2, none⟩) (Nat.le_refl _) _).setCell (p := ⟨w.heap.size, 3, none⟩) (Nat.le_refl _) _)⟩
end Go.Proofs.Ytbchiolgbhckhaa.Mach
end

section
/- The document's example runs as it says. -/
set_option linter.unusedVariables false
set_option linter.unusedSimpArgs false
namespace Go.Proofs.Ytbchiolgbhckhaa.Mach
open Go.RowKit Go.Proofs.YtbchiolgbhckhaaW.PrintWords Go.Proofs.YtbchiolgbhckhaaW.PrintMore Go.Proofs.Ytbchiolgbhckhaa.PMachRuns

def awL : List S50 := [⟨3, 1, 0, 0, 65⟩, ⟨14, 1, 0, 0, 0⟩, ⟨0, 0, 0, 0, 0⟩]
def awC : List Int := [220676381741154369, 1013309916158361600, 0]
theorem aw_code : mortiselaw3_Code.f 40 awL = some awC := by kernel_rfl
theorem aw_run : (runN (min 10 4194304 : Int).toNat (fresh awC [] [] 0 1)).kind = 1 ∧ (runN (min 10 4194304 : Int).toNat (fresh awC [] [] 0 1)).out = [65] ∧ (runN (min 10 4194304 : Int).toNat (fresh awC [] [] 0 1)).steps = 3 := ⟨by kernel_rfl, by kernel_rfl, by kernel_rfl⟩
theorem awC_in (k : Nat) : -9223372036854775808 ≤ awC.getD k 0 ∧ awC.getD k 0 ≤ 9223372036854775807 := by
  rcases k with _ | _ | _ | k <;> simp [awC]
theorem aw_mrun (w : World) (a : Addr) (cap : Nat) (h : Reads w (.slice (some a) awC.length cap) awC.length (nums .i64 awC)) :
    Calls Try.prog 27 #[.agg #[.slice (some a) awC.length cap, .slice none 0 0, .int .i64 0], .int .i64 1, .slice none 0 0, .int .i64 10] w fun e w' =>
      ∃ p g cap', e = .returned (.agg #[.int .i64 1, .int .i64 p, .slice (some ⟨g, 0, none⟩) 1 cap', .int .i64 3]) ∧ w'.cell? ⟨g, 0, none⟩ = some (.int .u8 65) ∧ g < w'.heap.size ∧ Below w.heap.size w w' := by
  refine (mrun_ok a none none awC.length cap 0 0 0 0 1 0 awC [] [] w 10 (by decide) (by decide) (by decide) (by decide) (by decide) (by decide) (by decide) (by decide) (by decide) h (reads_nil w .i64) (reads_nil w .u8) awC_in (by intro v hv; cases hv)).mono ?_
  rintro e w' ⟨B, ⟨v, rfl, hv⟩, hB, hb⟩
  obtain ⟨k1, k2, k3⟩ := aw_run
  rw [k2] at hv
  obtain ⟨g, cap', rfl⟩ := own_form hv (by decide)
  have hc := hv.cells (g := g) rfl 0 _ rfl
  have hg := hv.lt g rfl
  rw [add_at] at hc
  rw [k1, k3]
  exact ⟨_, g, cap', rfl, hc, hg.2, hb⟩
set_option maxHeartbeats 1000000 in
theorem awake_any (w : World) : Calls Try.prog 13 #[] w fun e w' => e = .returned (.bool true) ∧ Below w.heap.size w w' := by
  have hcd := code_any 40 w.heap.size 3 awL awC (w.alloc (.cells #[.int .i64 3, .int .i64 1, .int .i64 0, .int .i64 0, .int .i64 65, .int .i64 14, .int .i64 1, .int .i64 0, .int .i64 0, .int .i64 0, .int .i64 0, .int .i64 0, .int .i64 0, .int .i64 0, .int .i64 0] 50)) _ _ (heap_alloc_new w _) rfl (by decide) (by decide) aw_code
  go_enter Try.func13, Try.ntmps13
  go_wp2_with (go_at_call 26; refine hcd.mono ?_; rintro e w2 ⟨A, cap, rfl, ho, hb⟩; obtain ⟨g, cap', hA⟩ := own_form ho (by decide); cases hA)
  refine (aw_mrun _ _ cap ((own_reads ho).below ((Below.refl _ _).alloc (Nat.le_refl _) _))).mono ?_
  rintro e w3 ⟨p, g', cap', rfl, h65, hg', hb3⟩
  have hcv : (convert 25 9 (.slice (some ⟨g', 0, none⟩) 1 cap')).run Try.prog (w3.alloc (.cells #[.int .i64 1, .int .i64 p, .slice (some ⟨g', 0, none⟩) 1 cap', .int .i64 3] 34)) = .ok (.string ⟨#[65]⟩) (w3.alloc (.cells #[.int .i64 1, .int .i64 p, .slice (some ⟨g', 0, none⟩) 1 cap', .int .i64 3] 34)) :=
    run_convert_bytes_arg _ 25 5 rfl rfl g' 0 1 cap' [65] rfl (fun i hi => by
      obtain rfl : i = 0 := by omega
      exact (World.cell?_of_block (Below.heap_alloc _ _ _ hg')).trans h65) 9 rfl
  have hw2 : Below w.heap.size w w2 := ((Below.refl _ _).alloc (Nat.le_refl _) _).trans (hb.mono (by simp))
  have hw3 : Below w.heap.size w w3 := (hw2.trans (((Below.refl _ _).alloc (Nat.le_refl _) _).mono hw2.size)).trans (hb3.mono (by have := hw2.size; simp; omega))
  go_wp2
  go_ret
  exact ⟨rfl, hw3.alloc hw3.size _⟩
end Go.Proofs.Ytbchiolgbhckhaa.Mach
end

section
/- What a step keeps; a run in parts; an image as an argument. -/
set_option linter.unusedVariables false
set_option linter.unusedSimpArgs false
namespace Go.Proofs.Ytbchiolgbhckhaa.Mach
open Go.RowKit Go.Proofs.YtbchiolgbhckhaaW.PrintWords Go.Proofs.YtbchiolgbhckhaaW.PrintMore Go.Proofs.Ytbchiolgbhckhaa.PMachRuns

theorem runN_add : ∀ (a b : Nat) (s : MS), runN (a + b) s = runN b (runN a s)
  | 0, b, s => by rw [Nat.zero_add]; rfl
  | a + 1, b, s => by
    by_cases h : s.kind = 0
    · rw [show a + 1 + b = (a + b) + 1 by omega]
      show (if s.kind = 0 then runN (a + b) (step1 s) else s) = runN b (if s.kind = 0 then runN a (step1 s) else s)
      rw [if_pos h, if_pos h]
      exact runN_add a b _
    · rw [runN_stop h, runN_stop h, runN_stop h]
/-- What an instruction keeps. -/
structure Grew (s t : MS) : Prop where
  out : t.out = s.out ∨ (s.out.length < 4096 ∧ ∃ v, 0 ≤ v ∧ v ≤ 255 ∧ t.out = s.out ++ [v])
  steps : t.steps = s.steps
  code : t.code = s.code
  len : t.mem.length = s.mem.length
theorem Grew.ite {c : Prop} [Decidable c] {s a b : MS} (ha : Grew s a) (hb : Grew s b) : Grew s (if c then a else b) := by
  split
  · exact ha
  · exact hb
theorem exec_grew (x : I5) (s : MS) : Grew s (exec x s) := by
  have k : ∀ t : MS, t.out = s.out → t.steps = s.steps → t.code = s.code → t.mem.length = s.mem.length → Grew s t := fun t h1 h2 h3 h4 => ⟨.inl h1, h2, h3, h4⟩
  unfold exec trapS MS.call
  refine .ite (k _ rfl rfl rfl rfl) (.ite (.ite (k _ rfl rfl rfl rfl) (.ite (k _ rfl rfl rfl rfl) (.ite (k _ rfl rfl rfl rfl) (k _ rfl rfl rfl rfl)))) (.ite (k _ rfl rfl rfl rfl) (.ite (k _ rfl rfl rfl rfl) (.ite (k _ rfl rfl rfl rfl) (.ite (.ite (k _ rfl rfl rfl rfl) (k _ rfl rfl rfl rfl)) (.ite (.ite (k _ rfl rfl rfl ?_) (k _ rfl rfl rfl rfl)) (.ite (k _ rfl rfl rfl rfl) (.ite (.ite (k _ rfl rfl rfl rfl) (k _ rfl rfl rfl rfl)) (.ite (.ite (k _ rfl rfl rfl rfl) (k _ rfl rfl rfl rfl)) (.ite (.ite (k _ rfl rfl rfl ?_) (k _ rfl rfl rfl rfl)) (.ite (.ite (k _ rfl rfl rfl ?_) (k _ rfl rfl rfl rfl)) (.ite (.ite (k _ rfl rfl rfl rfl) (k _ rfl rfl rfl rfl)) (.ite ?_ (.ite ?_ (.ite (k _ rfl rfl rfl rfl) (.ite (k _ rfl rfl rfl rfl) (k _ rfl rfl rfl rfl)))))))))))))))))
  · exact List.length_set
  · exact List.length_set
  · exact List.length_set
  · cases s.inp <;> exact k _ rfl rfl rfl rfl
  · by_cases h : s.out.length < 4096
    · rw [if_pos h]; exact ⟨.inr ⟨h, _, by omega, by omega, rfl⟩, rfl, rfl, rfl⟩
    · rw [if_neg h]; exact k _ rfl rfl rfl rfl
theorem step1_grew (s : MS) : Grew { s with steps := wrap64 (s.steps + 1) } (step1 s) := by
  have k : ∀ t : MS, t.out = s.out → t.steps = wrap64 (s.steps + 1) → t.code = s.code → t.mem.length = s.mem.length → Grew { s with steps := wrap64 (s.steps + 1) } t := fun t h1 h2 h3 h4 => ⟨.inl h1, h2, h3, h4⟩
  unfold step1
  dsimp only
  split
  · split
    · exact k _ rfl rfl rfl rfl
    · rename_i x hx
      have h := exec_grew x { s with steps := wrap64 (s.steps + 1), pc := wrap64 (s.pc + 1) }
      exact ⟨h.out, h.steps, h.code, h.len⟩
  · exact k _ rfl rfl rfl rfl
theorem runN_steps : ∀ (n : Nat) (s : MS), 0 ≤ s.steps → s.steps + n ≤ 4611686018427387904 → s.steps ≤ (runN n s).steps ∧ (runN n s).steps ≤ s.steps + n ∧ ((runN n s).kind = 0 → (runN n s).steps = s.steps + n)
  | 0, s, h0, h1 => ⟨Int.le_refl _, by show s.steps ≤ _; omega, fun _ => by show s.steps = _; omega⟩
  | n + 1, s, h0, h1 => by
    by_cases h : s.kind = 0
    · have e : (step1 s).steps = s.steps + 1 := by rw [(step1_grew s).steps]; show wrap64 (s.steps + 1) = _; unfold wrap64; omega
      obtain ⟨a, b, c⟩ := runN_steps n (step1 s) (by omega) (by omega)
      have er : runN (n + 1) s = runN n (step1 s) := by simp [runN, h]
      rw [er]
      exact ⟨by omega, by omega, fun hk => by rw [c hk]; omega⟩
    · rw [runN_stop h]
      exact ⟨by omega, by omega, fun hk => absurd hk h⟩
theorem step1_prefix (s : MS) : s.out <+: (step1 s).out := by
  rcases (step1_grew s).out with e | ⟨_, v, _, _, e⟩
  · rw [e]; exact List.prefix_refl _
  · rw [e]; exact List.prefix_append _ _
theorem runN_prefix : ∀ (n : Nat) (s : MS), s.out <+: (runN n s).out
  | 0, s => List.prefix_refl _
  | n + 1, s => by
    by_cases h : s.kind = 0
    · have er : runN (n + 1) s = runN n (step1 s) := by simp [runN, h]
      rw [er]
      exact (step1_prefix s).trans (runN_prefix n _)
    · rw [runN_stop h]; exact List.prefix_refl _
/-- A machine's output: no more than may be, bytes. -/
def OutIn (s : MS) : Prop := s.out.length ≤ 4096 ∧ ∀ v ∈ s.out, 0 ≤ v ∧ v ≤ 255
theorem step1_outin {s : MS} (h : OutIn s) : OutIn (step1 s) := by
  obtain ⟨h1, h2⟩ := h
  rcases (step1_grew s).out with e | ⟨h3, v, v0, v1, e⟩
  · exact ⟨by rw [e]; exact h1, by rw [e]; exact h2⟩
  · refine ⟨by rw [e]; simp at h3 ⊢; omega, fun u hu => ?_⟩
    rw [e] at hu
    rcases List.mem_append.1 hu with hu | hu
    · exact h2 u hu
    · rw [List.mem_singleton.1 hu]; exact ⟨v0, v1⟩
theorem runN_outin : ∀ (n : Nat) {s : MS}, OutIn s → OutIn (runN n s)
  | 0, s, h => h
  | n + 1, s, h => by
    by_cases hk : s.kind = 0
    · have er : runN (n + 1) s = runN n (step1 s) := by simp [runN, hk]
      rw [er]
      exact runN_outin n (step1_outin h)
    · rw [runN_stop hk]; exact h
theorem fresh_outin (code data inp : List Int) (en : Int) (M : Nat) : OutIn (fresh code data inp en M) := ⟨Nat.zero_le _, by intro v hv; cases hv⟩

/-- Which images, sizes and inputs are refused: the error's number. -/
def newErr (n1 n2 n3 : Nat) (en mem : Int) : Int :=
  if (n1 : Int) < 1 ∨ (65536 : Int) < n1 ∨ (16384 : Int) < n2 ∨ en < 0 ∨ (n1 : Int) ≤ en then 4 else if mem < n2 ∨ 262144 < mem ∨ (4096 : Int) < n3 then 1 else 0
theorem newErr_ne {n1 n2 n3 : Nat} {en mem : Int} : newErr n1 n2 n3 en mem = 0 ∨ newErr n1 n2 n3 en mem = 4 ∨ newErr n1 n2 n3 en mem = 1 := by
  unfold newErr
  split
  · exact .inr (.inl rfl)
  · split
    · exact .inr (.inr rfl)
    · exact .inl rfl
theorem newErr_ok {n1 n2 n3 : Nat} {en mem : Int} (h : newErr n1 n2 n3 en mem = 0) : (1 : Int) ≤ n1 ∧ (n1 : Int) ≤ 65536 ∧ (n2 : Int) ≤ 16384 ∧ 0 ≤ en ∧ en < n1 ∧ (n2 : Int) ≤ mem ∧ mem ≤ 262144 ∧ (n3 : Int) ≤ 4096 := by
  unfold newErr at h
  split at h
  · cases h
  · split at h
    · cases h
    · omega
/-- An image in memory, with what it holds. -/
structure Image (w : World) (A1 : Option Addr) (n1 c1 : Nat) (A2 : Option Addr) (n2 c2 : Nat) (code data : List Int) : Prop where
  code_at : Reads w (.slice A1 n1 c1) n1 (nums .i64 code)
  data_at : Reads w (.slice A2 n2 c2) n2 (nums .i64 data)
  code_in : ∀ k, -9223372036854775808 ≤ code.getD k 0 ∧ code.getD k 0 ≤ 9223372036854775807
  data_in : ∀ v ∈ data, -9223372036854775808 ≤ v ∧ v ≤ 9223372036854775807
structure Input (w : World) (A : Option Addr) (n c : Nat) (xs : List Int) : Prop where
  at_ : Reads w (.slice A n c) n (nums .u8 xs)
  in_ : ∀ v ∈ xs, 0 ≤ v ∧ v ≤ 255
theorem Image.below {w w' : World} {A1 A2 : Option Addr} {n1 c1 n2 c2 : Nat} {code data : List Int} (h : Image w A1 n1 c1 A2 n2 c2 code data) (hb : Below w.heap.size w w') : Image w' A1 n1 c1 A2 n2 c2 code data :=
  ⟨h.code_at.below hb, h.data_at.below hb, h.code_in, h.data_in⟩
theorem Input.below {w w' : World} {A : Option Addr} {n c : Nat} {xs : List Int} (h : Input w A n c xs) (hb : Below w.heap.size w w') : Input w' A n c xs := ⟨h.at_.below hb, h.in_⟩
theorem Image.some {w : World} {A1 A2 : Option Addr} {n1 c1 n2 c2 : Nat} {code data : List Int} (h : Image w A1 n1 c1 A2 n2 c2 code data) (hn : 1 ≤ n1) : ∃ a, A1 = some a := by
  rcases h.code_at.2.2 with ⟨_, e⟩ | ⟨a, c, e, _⟩
  · omega
  · cases e; exact ⟨a, rfl⟩
theorem new_bad {A1 A2 A3 : Option Addr} {n1 c1 n2 c2 n3 c3 : Nat} {en mem : Int} {er : Int} (w : World) (he : newErr n1 n2 n3 en mem = er) (h0 : ¬ er = 0) :
    Calls Try.prog 14 #[.agg #[.slice A1 n1 c1, .slice A2 n2 c2, .int .i64 en], .int .i64 mem, .slice A3 n3 c3] w fun e w' => e = .returned (.tuple #[.pointer none, .int .i64 er]) ∧ Below w.heap.size w w' := by
  subst he
  unfold newErr at h0 ⊢
  split
  · rename_i h
    exact new_form A1 A2 A3 n1 c1 n2 c2 n3 c3 en mem w h
  · rename_i h
    rw [if_neg h] at h0
    split
    · rename_i h2
      exact new_arg A1 A2 A3 n1 c1 n2 c2 n3 c3 en mem w (by omega) (by omega) (by omega) (by omega) (by omega) h2
    · rename_i h2
      rw [if_neg h2] at h0
      exact absurd rfl h0
theorem new_good {A1 A2 A3 : Option Addr} {n1 c1 n2 c2 n3 c3 : Nat} {en mem : Int} {code data inp : List Int} {w : World} (him : Image w A1 n1 c1 A2 n2 c2 code data) (hin : Input w A3 n3 c3 inp) (he : newErr n1 n2 n3 en mem = 0) :
    Calls Try.prog 14 #[.agg #[.slice A1 n1 c1, .slice A2 n2 c2, .int .i64 en], .int .i64 mem, .slice A3 n3 c3] w fun e w' => ∃ L, e = .returned (.tuple #[.pointer (some ⟨L.m, 0, none⟩), .int .i64 0]) ∧ Holds w' L (fresh code data inp en mem.toNat) ∧ Below w.heap.size w w' ∧ ∀ b, L.foot inp b → w.heap.size ≤ b := by
  obtain ⟨f1, f2, f3, f4, f5, f6, f7, f8⟩ := newErr_ok he
  obtain ⟨a, rfl⟩ := him.some (by omega)
  obtain ⟨M, rfl⟩ : ∃ M : Nat, mem = (M : Int) := ⟨mem.toNat, by omega⟩
  exact new_ok a A2 A3 n1 c1 n2 c2 n3 c3 M en code data inp w f1 f2 f3 f4 f5 f6 f7 f8 him.code_at him.data_at hin.at_ him.code_in hin.in_
/-- What a run that cannot begin ends as. -/
def noRun : MS := { code := [], mem := [], reg := fun _ => 0, pc := 0, inp := [], out := [], kind := 5, panics := 0, steps := 0 }
/-- What a whole run ends as. -/
def whole (n1 n2 n3 : Nat) (en mem : Int) (code data inp : List Int) (fuel : Int) : MS :=
  if newErr n1 n2 n3 en mem = 0 then runN (min fuel 4194304).toNat (fresh code data inp en mem.toNat) else noRun
theorem mrun_any {A1 A2 A3 : Option Addr} {n1 c1 n2 c2 n3 c3 : Nat} {en mem : Int} {code data inp : List Int} {w : World} (him : Image w A1 n1 c1 A2 n2 c2 code data) (hin : Input w A3 n3 c3 inp) (fuel : Int) (hfu : fuel ≤ 9223372036854775807) :
    Calls Try.prog 27 #[.agg #[.slice A1 n1 c1, .slice A2 n2 c2, .int .i64 en], .int .i64 mem, .slice A3 n3 c3, .int .i64 fuel] w fun e w' => ∃ B, Told B (whole n1 n2 n3 en mem code data inp fuel) e w' ∧ w.heap.size ≤ B ∧ Below w.heap.size w w' := by
  by_cases he : newErr n1 n2 n3 en mem = 0
  · obtain ⟨f1, f2, f3, f4, f5, f6, f7, f8⟩ := newErr_ok he
    obtain ⟨a, rfl⟩ := him.some (by omega)
    obtain ⟨M, rfl⟩ : ∃ M : Nat, mem = (M : Int) := ⟨mem.toNat, by omega⟩
    unfold whole
    rw [if_pos he]
    exact mrun_ok a A2 A3 n1 c1 n2 c2 n3 c3 M en code data inp w fuel hfu f1 f2 f3 f4 f5 f6 f7 f8 him.code_at him.data_at hin.at_ him.code_in hin.in_
  · unfold whole
    rw [if_neg he]
    refine (mrun_bad A1 A2 A3 n1 c1 n2 c2 n3 c3 en mem fuel _ w (by simpa using he) (fun X _ => new_bad X rfl he)).mono ?_
    rintro e w' ⟨rfl, hb⟩
    exact ⟨w'.heap.size, ⟨_, rfl, World.ownsRow_nil _ _ _ _⟩, hb.size, hb⟩
theorem whole_outin (n1 n2 n3 : Nat) (en mem : Int) (code data inp : List Int) (fuel : Int) : OutIn (whole n1 n2 n3 en mem code data inp fuel) := by
  unfold whole
  split
  · exact runN_outin _ (fresh_outin _ _ _ _ _)
  · exact ⟨Nat.zero_le _, by intro v hv; cases hv⟩
end Go.Proofs.Ytbchiolgbhckhaa.Mach
end

section
/- An image, a row of bytes as arguments: what their reading says. -/
set_option linter.unusedVariables false
set_option linter.unusedSimpArgs false
namespace Go.Proofs.Ytbchiolgbhckhaa.Mach
open Go.ChangeShapes Go.WideShapes Go.ChangeAt Go.Deep
open Go.RowKit Go.Proofs.YtbchiolgbhckhaaW.PrintWords Go.Proofs.YtbchiolgbhckhaaW.PrintMore Go.Proofs.Ytbchiolgbhckhaa.PMachRuns
theorem Try.cells24 : Try.prog.cellsOf 24 = 3 := by kernel_rfl
theorem Try.cells22 : Try.prog.cellsOf 22 = 1 := by kernel_rfl
theorem Try.cells3 : Try.prog.cellsOf 3 = 1 := by kernel_rfl
theorem laidOut : laidOutB Try.prog = true := by kernel_rfl
section
variable {H : Type} {enc : TypeId × Value → H}
/-- A row of numbers, as it is read. -/
theorem open_nums {t e : TypeId} {kd : IntKind} {W : World} {fuel : Nat} {cs : List Value} {x : DataW H × List MemPlace} (ht : Try.prog.underlying t = some (.slice e)) (he : Try.prog.underlying e = some (.int kd)) (hc : Try.prog.cellsOf e = 1)
    (h : DataW.trod enc Try.prog W 0 (fun _ => true) true fuel t cs = some x) :
    ∃ A n c xs, cs = [.slice A n c] ∧ Reads W (.slice A n c) n (nums kd xs) ∧ (∀ v ∈ xs, (Lit.int kd v).wf = true) ∧ n ≤ c ∧ c ≤ maxLen := by
  rcases open_ints ht he hc h with ⟨rfl, _⟩ | ⟨a, l, c, zs, rfl, _, hl, hm, hz, _, hcell, hwz⟩
  · exact ⟨none, 0, 0, [], rfl, reads_nil W kd, by simp, Nat.le_refl _, Nat.zero_le _⟩
  · simp only [if_true] at hz
    refine ⟨some a, l, c, zs.take l, rfl, ⟨by simp [nums, hz, hl], by intro u hu; simp only [nums, List.mem_map] at hu; obtain ⟨y, _, rfl⟩ := hu; rfl, .inr ⟨a, c, rfl, fun j u hj => ?_⟩⟩, fun v hv => hwz v (List.mem_of_mem_take hv), hl, hm⟩
    have hjl : j < (zs.take l).length := by
      have := (List.getElem?_eq_some_iff.1 hj).1
      simpa [nums] using this
    rw [nums_get hjl] at hj
    injection hj with hj
    subst hj
    have hjl2 : j < l := by simp at hjl; omega
    have hj2 : j < zs.length := by omega
    rw [hcell j hj2]
    simp [List.getD_eq_getElem?_getD, List.getElem?_take, hjl2]
theorem open_image {W : World} {base : Nat} {v : Value} {d : DataW H} {ps : List MemPlace} (hok : Value.okWide Try.prog W .any base 24 v) (h : DataW.Trod enc Try.prog W 0 (fun _ => true) true 24 v d ps) :
    ∃ A1 n1 c1 A2 n2 c2 en code data, v = .agg #[.slice A1 n1 c1, .slice A2 n2 c2, .int .i64 en] ∧ Image W A1 n1 c1 A2 n2 c2 code data ∧ (Lit.int .i64 en).wf = true ∧ n1 ≤ c1 ∧ n2 ≤ c2 ∧ c1 ≤ maxLen ∧ c2 ≤ maxLen := by
  obtain ⟨cs, rfl, hsz⟩ := okWide_struct Try.underlying24 hok
  obtain ⟨fuel, h⟩ := h
  obtain ⟨y0, y1, y2, n, _, hl, t0, t1, t2⟩ := trod_struct3 Try.underlying24 h
  rw [Try.cells24] at hsz
  have hcs : ∃ c0 c1 c2, cs = #[c0, c1, c2] := by
    obtain ⟨l⟩ := cs
    match l, hsz with
    | [c0, c1, c2], _ => exact ⟨c0, c1, c2, rfl⟩
  obtain ⟨c0, c1, c2, rfl⟩ := hcs
  simp only [Try.cells22, Try.cells3, Value.cells] at t0 t1 t2
  obtain ⟨A1, n1, k1, code, e1, r1, w1, l1, m1⟩ := open_nums Try.underlying22 Try.underlying2 (by kernel_rfl) t0
  obtain ⟨A2, n2, k2, data, e2, r2, w2, l2, m2⟩ := open_nums Try.underlying22 Try.underlying2 (by kernel_rfl) t1
  obtain ⟨en, e3, _, w3⟩ := DataW.trod_int Try.underlying3 t2
  simp at e1 e2 e3
  subst e1 e2 e3
  refine ⟨A1, n1, k1, A2, n2, k2, en, code, data, rfl, ⟨r1, r2, fun k => ?_, fun v hv => Num.wf_i64 (w2 v hv)⟩, w3, l1, l2, m1, m2⟩
  rw [List.getD_eq_getElem?_getD]
  cases hk : code[k]? with
  | none => simp
  | some z => exact Num.wf_i64 (w1 z (List.mem_of_getElem? hk))
theorem open_input {W : World} {base : Nat} {v : Value} {d : DataW H} {ps : List MemPlace} (hok : Value.okWide Try.prog W .any base 25 v) (h : DataW.Trod enc Try.prog W 0 (fun _ => true) true 25 v d ps) :
    ∃ A n c xs, v = .slice A n c ∧ Input W A n c xs ∧ n ≤ c ∧ c ≤ maxLen := by
  obtain ⟨A0, n0, c0, rfl⟩ := okWide_slice Try.underlying25 hok
  obtain ⟨fuel, h⟩ := h
  obtain ⟨A, n, c, xs, e, r, hw, hl, hm⟩ := open_nums Try.underlying25 Try.underlying5 (by kernel_rfl) h
  simp [Value.cells] at e
  obtain ⟨rfl, rfl, rfl⟩ := e
  exact ⟨_, _, _, xs, rfl, ⟨r, fun v hv => Num.wf_u8 (hw v hv)⟩, hl, hm⟩
end
/-- A row as the printed contracts want it. -/
theorem reads_C {kd : IntKind} {w : World} {A : Option Addr} {n c : Nat} {xs : List Int} (h : Reads w (.slice A n c) n (nums kd xs)) (hm : n ≤ 9223372036854775807) : n = xs.length ∧ Kd.C (Kd.int kd) w A xs.length xs := by
  have hlen : xs.length = n := by simpa [nums] using h.1
  refine ⟨hlen.symm, Kd.C_of_reads (d := (0 : Int)) (h1 := fun _ => rfl) ⟨rfl, by omega, fun h0 => ?_⟩⟩
  rcases h.2.2 with ⟨_, e⟩ | ⟨a, c', e, hx⟩
  · omega
  · cases e
    exact ⟨a, rfl, fun j hj => hx j _ (nums_get hj)⟩
theorem heavy_any {A1 A2 A3 : Option Addr} {n1 c1 n2 c2 n3 c3 : Nat} {en mem fuel : Int} {code data inp : List Int} {w : World} (him : Image w A1 n1 c1 A2 n2 c2 code data) (hin : Input w A3 n3 c3 inp) (l1 : n1 ≤ c1) (l2 : n2 ≤ c2) (l3 : n3 ≤ c3) (m1 : c1 ≤ maxLen) (m2 : c2 ≤ maxLen) (m3 : c3 ≤ maxLen) (b : Bool)
    (hb : b = decide ((n1 : Int) > 2000 ∨ (n2 : Int) > 2000 ∨ mem > 5000 ∨ (n3 : Int) > 100 ∨ fuel > 3000)) :
    Calls Try.prog 12 #[.agg #[.slice A1 n1 c1, .slice A2 n2 c2, .int .i64 en], .int .i64 mem, .slice A3 n3 c3, .int .i64 fuel] w fun e w' => e = .returned (.bool b) ∧ Below w.heap.size w w' := by
  unfold maxLen at m1 m2 m3
  obtain ⟨rfl, k1⟩ := reads_C him.code_at (by omega)
  obtain ⟨rfl, k2⟩ := reads_C him.data_at (by omega)
  obtain ⟨rfl, k3⟩ := reads_C hin.at_ (by omega)
  refine mortiselaw3_heavy.calls A1 c1 code A2 c2 data en mem A3 c3 inp fuel b w k1 l1 k2 l2 k3 l3 ?_
  rw [hb]
  unfold mortiselaw3_heavy.f
  by_cases h1 : (code.length : Int) > 2000
  · rw [if_pos h1]; simp [h1]
  by_cases h2 : (data.length : Int) > 2000
  · rw [if_neg h1, if_pos h2]; simp [h2]
  by_cases h3 : mem > 5000
  · rw [if_neg h1, if_neg h2, if_pos h3]; simp [h3]
  by_cases h4 : (inp.length : Int) > 100
  · rw [if_neg h1, if_neg h2, if_neg h3, if_pos h4]; simp [h4]
  · rw [if_neg h1, if_neg h2, if_neg h3, if_neg h4]; simp [h1, h2, h3, h4]
/-- Two ends that are told alike are one. -/
theorem same_any {w : World} {k1 p1 s1 k2 p2 s2 : Int} {A1 A2 : Option Addr} {n1 c1 n2 c2 : Nat} {o1 o2 : List Int} (r1 : Reads w (.slice A1 n1 c1) n1 (nums .u8 o1)) (r2 : Reads w (.slice A2 n2 c2) n2 (nums .u8 o2)) (l1 : n1 ≤ c1) (l2 : n2 ≤ c2) (m1 : n1 ≤ 9223372036854775807) (m2 : n2 ≤ 9223372036854775807)
    (ek : k1 = k2) (ep : p1 = p2) (eo : o1 = o2) (es : s1 = s2) :
    Calls Try.prog 22 #[.agg #[.int .i64 k1, .int .i64 p1, .slice A1 n1 c1, .int .i64 s1], .agg #[.int .i64 k2, .int .i64 p2, .slice A2 n2 c2, .int .i64 s2]] w fun e w' => e = .returned (.bool true) ∧ Below w.heap.size w w' := by
  subst ek ep eo es
  obtain ⟨rfl, h1⟩ := reads_C r1 m1
  obtain ⟨rfl, h2⟩ := reads_C r2 m2
  refine mortiseref3_Same.calls k1 p1 A1 c1 o1 s1 k1 p1 A2 c2 o1 s1 true w h1 l1 h2 l2 ?_
  unfold mortiseref3_Same.f mortiseref3_Alike.f
  simp
end Go.Proofs.Ytbchiolgbhckhaa.Mach
end

/- A machine is made: walked; which images and sizes are refused. -/
import Derived.Test.YtbchiolgbhckhaaRun
import Derived.Test.YtbchiolgbhckhaaTree
import Derived.Laws.IdiomCopy
set_option linter.unusedVariables false
set_option linter.unusedSimpArgs false
namespace Go.Proofs.Ytbchiolgbhckhaa.Mach
open Go.RowKit Go.Proofs.YtbchiolgbhckhaaW.PrintWords Go.Proofs.YtbchiolgbhckhaaW.PrintMore Go.Proofs.Ytbchiolgbhckhaa.PMachRuns
set_option maxHeartbeats 1000000 in
theorem new_form (A1 A2 A3 : Option Addr) (n1 c1 n2 c2 n3 c3 : Nat) (en mem : Int) (w : World)  (hb : (n1 : Int) < 1 ∨ (65536 : Int) < n1 ∨ (16384 : Int) < n2 ∨ en < 0 ∨ (n1 : Int) ≤ en) :
    Calls Try.prog 14 #[.agg #[.slice A1 n1 c1, .slice A2 n2 c2, .int .i64 en], .int .i64 mem, .slice A3 n3 c3] w fun e w' => e = .returned (.tuple #[.pointer none, .int .i64 4]) ∧ Below w.heap.size w w' := by
  have hb' := Lib.hid hb
  clear hb
  go_enter Try.func14, Try.ntmps14
  go_wp2
  all_goals first | (refine bodyPost_ret (results_tmp2 rfl _ _ _) rfl ?_; exact ⟨rfl, (Below.refl _ _).alloc (Nat.le_refl _) _⟩) | (exfalso; have hb := hb'.out; omega)
set_option maxHeartbeats 1000000 in
theorem new_arg (A1 A2 A3 : Option Addr) (n1 c1 n2 c2 n3 c3 : Nat) (en mem : Int) (w : World) (f1 : (1 : Int) ≤ n1) (f2 : (n1 : Int) ≤ 65536) (f3 : (n2 : Int) ≤ 16384) (f4 : 0 ≤ en) (f5 : en < n1) (hb : mem < n2 ∨ 262144 < mem ∨ (4096 : Int) < n3) :
    Calls Try.prog 14 #[.agg #[.slice A1 n1 c1, .slice A2 n2 c2, .int .i64 en], .int .i64 mem, .slice A3 n3 c3] w fun e w' => e = .returned (.tuple #[.pointer none, .int .i64 1]) ∧ Below w.heap.size w w' := by
  have hb' := Lib.hid hb
  clear hb
  go_enter Try.func14, Try.ntmps14
  go_wp2
  all_goals first | (refine bodyPost_ret (results_tmp2 rfl _ _ _) rfl ?_; exact ⟨rfl, (Below.refl _ _).alloc (Nat.le_refl _) _⟩) | (exfalso; have hb := hb'.out; omega)
theorem size_setCells (b : Nat) : ∀ (vs : List Value) (o : Nat) (w : World), (w.setCells b o vs).heap.size = w.heap.size
  | [], _, _ => rfl
  | v :: vs, o, w => by rw [World.setCells, size_setCells b vs]; simp [World.setCell]
theorem heap_setCells (b k : Nat) (h : k ≠ b) : ∀ (vs : List Value) (o : Nat) (w : World), (w.setCells b o vs).heap[k]? = w.heap[k]?
  | [], _, _ => rfl
  | v :: vs, o, w => by rw [World.setCells, heap_setCells b k h vs]; exact Below.heap_setCell _ _ _ _ h
/-- A machine that has been made and has made no step. -/
def fresh (code data inp : List Int) (en : Int) (M : Nat) : MS :=
  { code := code, mem := data ++ List.replicate (M - data.length) 0, reg := fun k => if k = 15 then (M : Int) else 0, pc := en, inp := inp, out := [], kind := 0, panics := 0, steps := 0 }
def newO (cb n1 cc mb M : Nat) (en : Int) (iA : Option Addr) (n3 ic : Nat) : Obj :=
  .cells #[.slice (some ⟨cb, 0, none⟩) n1 cc, .slice (some ⟨mb, 0, none⟩) M M, .int .i64 0, .int .i64 0, .int .i64 0, .int .i64 0, .int .i64 0, .int .i64 0, .int .i64 0, .int .i64 0, .int .i64 0, .int .i64 0, .int .i64 0, .int .i64 0, .int .i64 0, .int .i64 0, .int .i64 0, .int .i64 0, .int .i64 en, .slice iA n3 ic, .slice none 0 0, .int .i64 0, .int .i64 0, .int .i64 0, .slice none 0 0] 61
def opsO (m : Nat) : Obj := .cells #[opV m 0, opV m 1, opV m 2, opV m 3, opV m 4, opV m 5, opV m 6, opV m 7, opV m 8, opV m 9, opV m 10, opV m 11, opV m 12, opV m 13, opV m 14, opV m 15] 62
theorem nums_get {kd : IntKind} {xs : List Int} {k : Nat} (hk : k < xs.length) : (nums kd xs)[k]? = some (.int kd (xs.getD k 0)) := by
  simp [nums, hk]
theorem add_at (b k : Nat) : (⟨b, 0, none⟩ : Addr).add k = ⟨b, k, none⟩ := by
  by_cases h : k = 0 <;> simp [Addr.add, h]
set_option maxHeartbeats 1000000 in
theorem fresh_holds {B : Nat} {w2 w3 : World} {n1 n3 cc mb cb M ic : Nat} {iA : Option Addr} {en : Int} {code data inp : List Int}
    (oc : w2.ownsRow B 2 1 (.slice (some ⟨cb, 0, none⟩) n1 cc) n1 (nums .i64 code)) (om : w2.ownsRow B 2 1 (.slice (some ⟨mb, 0, none⟩) M M) M (nums .i64 (List.replicate M 0))) (oi : w2.ownsRow B 5 1 (.slice iA n3 ic) n3 (nums .u8 inp))
    (ne1 : cb ≠ mb) (ne2 : (Value.slice iA n3 ic).ownBlock ≠ some cb) (ne3 : (Value.slice iA n3 ic).ownBlock ≠ some mb) (hd : data.length ≤ M) (f1 : n1 ≤ 65536) (f2 : M ≤ 262144)
    (hcode : ∀ k, -9223372036854775808 ≤ code.getD k 0 ∧ code.getD k 0 ≤ 9223372036854775807) (hinp : ∀ v ∈ inp, 0 ≤ v ∧ v ≤ 255)
    (h3 : w3 = ((w2.alloc (newO cb n1 cc mb M en iA n3 ic)).drew).setCells mb 0 (nums .i64 data)) :
    Holds (((w3.setCell ⟨w2.heap.size, 17, none⟩ (.int .i64 (M : Int))).setCell ⟨w2.heap.size, 24, none⟩ (.slice (some ⟨w3.heap.size, 0, none⟩) 16 16)).alloc (opsO w2.heap.size))
      ⟨w2.heap.size, mb, M, cb, cc, w3.heap.size, 16, iA, ic, .slice none 0 0⟩ (fresh code data inp en M) ∧
    Below B w2 (((w3.setCell ⟨w2.heap.size, 17, none⟩ (.int .i64 (M : Int))).setCell ⟨w2.heap.size, 24, none⟩ (.slice (some ⟨w3.heap.size, 0, none⟩) 16 16)).alloc (opsO w2.heap.size)) := by
  have lc := oc.lt cb rfl
  have lm := om.lt mb rfl
  have lenc : code.length = n1 := by have := oc.1; simpa [nums] using this
  have leni : inp.length = n3 := by have := oi.1; simpa [nums] using this
  have z3 : w3.heap.size = w2.heap.size + 1 := by rw [h3, size_setCells]; simp
  have hB : B ≤ w2.heap.size := by omega
  generalize h4 : (w3.setCell ⟨w2.heap.size, 17, none⟩ (.int .i64 (M : Int))).setCell ⟨w2.heap.size, 24, none⟩ (.slice (some ⟨w3.heap.size, 0, none⟩) 16 16) = w4
  have z4 : w4.heap.size = w3.heap.size := by rw [← h4]; simp [World.setCell]
  -- blocks that were there
  have k4 : ∀ b, b ≠ w2.heap.size → w4.heap[b]? = w3.heap[b]? := fun b hb => by
    rw [← h4]; exact (Below.heap_setCell _ _ _ _ hb).trans (Below.heap_setCell _ _ _ _ hb)
  have k5 : ∀ b, b < w4.heap.size → (w4.alloc (opsO w2.heap.size)).heap[b]? = w4.heap[b]? := fun b hb => Below.heap_alloc _ _ _ hb
  have kb : ∀ b, b < w2.heap.size → b ≠ mb → (w4.alloc (opsO w2.heap.size)).heap[b]? = w2.heap[b]? := fun b hb hn => by
    rw [k5 b (by omega), k4 b (by omega), h3, heap_setCells mb b hn]
    exact Below.heap_alloc _ _ _ hb
  have kmb : (w4.alloc (opsO w2.heap.size)).heap[mb]? = w3.heap[mb]? := by rw [k5 mb (by omega), k4 mb (by omega)]
  have km : ∀ j, (w4.alloc (opsO w2.heap.size)).cell? ⟨w2.heap.size, j, none⟩ = w4.cell? ⟨w2.heap.size, j, none⟩ := fun j => World.cell?_of_block (k5 w2.heap.size (by omega))
  have k3 : ∀ j, w3.cell? ⟨w2.heap.size, j, none⟩ = (w2.alloc (newO cb n1 cc mb M en iA n3 ic)).cell? ⟨w2.heap.size, j, none⟩ := fun j => by
    rw [h3]; exact World.cell?_setCells_out mb _ _ _ _ (fun he => by dsimp only at he; omega)
  have f3 : ∀ b j, w3.frozen? ⟨b, j, none⟩ = (w2.alloc (newO cb n1 cc mb M en iA n3 ic)).frozen? ⟨b, j, none⟩ := fun b j => by rw [h3, World.frozen?_setCells]; rfl
  have f4 : ∀ b j, w4.frozen? ⟨b, j, none⟩ = w3.frozen? ⟨b, j, none⟩ := fun b j => by rw [← h4, World.frozen?_setCell, World.frozen?_setCell]
  have memlen : (data ++ List.replicate (M - data.length) 0).length = M := by simp; omega
  have c24 : w3.cell? ⟨w2.heap.size, 24, none⟩ = some (.slice none 0 0) := by rw [k3]; simp [newO]
  have c17 : w3.cell? ⟨w2.heap.size, 17, none⟩ = some (.int .i64 0) := by rw [k3]; simp [newO]
  have inz : inp = [] ∨ ∃ ib, iA = some ⟨ib, 0, none⟩ ∧ B ≤ ib ∧ ib < w2.heap.size ∧ n3 ≤ ic := by
    rcases oi.2 with ⟨_, e⟩ | ⟨g, cap, cur, e, r1, r2, r3, r4, _⟩
    · exact .inl (List.eq_nil_of_length_eq_zero (by omega))
    · cases e; exact .inr ⟨g, rfl, r1, (oi.lt g rfl).2, r3⟩
  have hcap : n3 ≤ ic ∧ ic ≤ 9223372036854775807 := by
    rcases oi.2 with ⟨e, e0⟩ | ⟨g, cap, cur, e, r1, r2, r3, r4, _⟩
    · cases e; omega
    · cases e; unfold maxLen at r4; exact ⟨r3, by omega⟩
  refine ⟨⟨fun o => ?_, fun j hj => ?_, ?_⟩, ?_⟩
  · rw [World.frozen?_of_block (k5 w2.heap.size (by omega)), f4, f3]; simp [newO]
  · rw [km j, ← h4]
    by_cases e24 : j = 24
    · subst e24
      rw [World.cell?_setCell_same _ _ _ ((World.cell?_setCell_other _ _ _ _ (by simp)).trans c24)]
      rfl
    rw [World.cell?_setCell_other _ _ _ _ (fun e => e24 (by injection e with _ e _; exact e.symm))]
    by_cases e17 : j = 17
    · subst e17
      rw [World.cell?_setCell_same _ _ _ c17]
      rfl
    rw [World.cell?_setCell_other _ _ _ _ (fun e => e17 (by injection e with _ e _; exact e.symm)), k3 j]
    have hc : j = 0 ∨ j = 1 ∨ j = 2 ∨ j = 3 ∨ j = 4 ∨ j = 5 ∨ j = 6 ∨ j = 7 ∨ j = 8 ∨ j = 9 ∨ j = 10 ∨ j = 11 ∨ j = 12 ∨ j = 13 ∨ j = 14 ∨ j = 15 ∨ j = 16 ∨ j = 18 ∨ j = 19 ∨ j = 20 ∨ j = 21 ∨ j = 22 ∨ j = 23 := by omega
    have hm1 : mcell ⟨w2.heap.size, mb, M, cb, cc, w3.heap.size, 16, iA, ic, .slice none 0 0⟩ (fresh code data inp en M) 1 = .slice (some ⟨mb, 0, none⟩) M M := by
      show Value.slice _ (data ++ List.replicate (M - data.length) 0).length _ = _
      rw [memlen]
    have hm0 : mcell ⟨w2.heap.size, mb, M, cb, cc, w3.heap.size, 16, iA, ic, .slice none 0 0⟩ (fresh code data inp en M) 0 = .slice (some ⟨cb, 0, none⟩) n1 cc := by
      show Value.slice _ code.length _ = _
      rw [lenc]
    have hm19 : mcell ⟨w2.heap.size, mb, M, cb, cc, w3.heap.size, 16, iA, ic, .slice none 0 0⟩ (fresh code data inp en M) 19 = .slice iA n3 ic := by
      show Value.slice _ inp.length _ = _
      rw [leni]
    rcases hc with rfl | rfl | rfl | rfl | rfl | rfl | rfl | rfl | rfl | rfl | rfl | rfl | rfl | rfl | rfl | rfl | rfl | rfl | rfl | rfl | rfl | rfl | rfl
    all_goals first | (rw [hm1]; simp [newO]; done) | (rw [hm0]; simp [newO]; done) | (rw [hm19]; simp [newO]; done) | (simp [newO, mcell, fresh]; done)
  · refine ⟨fun k hk => ?_, fun k hk => ?_, fun o => ?_, fun k hk => ?_, ?_, World.ownsRow_nil _ _ _ _, ?_, ?_, ⟨by simp [Value.ownBlock], by simp [Value.ownBlock], by simp [Value.ownBlock], by simp [Value.ownBlock]⟩, hcode, ⟨by show code.length ≤ _; omega, by show (data ++ List.replicate (M - data.length) 0).length ≤ _; rw [memlen]; exact f2, by show inp.length ≤ ic; omega, hcap.2, hinp⟩⟩
    · have h := oc.cells (g := cb) rfl k _ (nums_get hk)
      rw [add_at] at h
      exact (World.cell?_of_block (kb cb lc.2 ne1)).trans h
    · refine (World.cell?_of_block kmb).trans ?_
      have hkM : k < M := by rw [← memlen]; exact hk
      have hz : ∀ j, j < M → (w2.alloc (newO cb n1 cc mb M en iA n3 ic)).drew.cell? ⟨mb, 0 + j, none⟩ = some (.int .i64 0) := fun j hj => by
        have h := om.cells (g := mb) rfl j (.int .i64 0) (by simp [nums, hj])
        rw [add_at] at h
        rw [Nat.zero_add]
        exact (World.cell?_of_block (Below.heap_alloc _ _ _ lm.2)).trans h
      rw [h3]
      show _ = some (Value.int .i64 ((data ++ List.replicate (M - data.length) 0).getD k 0))
      by_cases hk2 : k < data.length
      · have hin := World.cell?_setCells_in mb (nums .i64 data) 0 (w2.alloc (newO cb n1 cc mb M en iA n3 ic)).drew (fun j hj => by rw [hz j (by simp [nums] at hj; omega)]; rfl) k (by simpa [nums] using hk2)
        rw [Nat.zero_add] at hin
        rw [hin]
        simp [nums, List.getD_eq_getElem?_getD, List.getElem?_append_left hk2, hk2]
      · rw [World.cell?_setCells_out mb _ _ _ _ (fun _ _ => .inr (by simp [nums]; omega))]
        have h := hz k hkM
        rw [Nat.zero_add] at h
        rw [h]
        simp [List.getD_eq_getElem?_getD, List.getElem?_append_right (Nat.le_of_not_lt hk2), List.getElem?_replicate]
        split <;> rfl
    · rw [World.frozen?_of_block (k5 mb (by omega)), f4, f3, World.frozen?_of_block (Below.heap_alloc _ _ _ lm.2)]
      exact World.ownsRow.frozenAt om o
    · have hnew : (w4.alloc (opsO w2.heap.size)).cell? ⟨w3.heap.size, k, none⟩ = some (opV w2.heap.size k) := by
        rw [← z4]
        have hc : k = 0 ∨ k = 1 ∨ k = 2 ∨ k = 3 ∨ k = 4 ∨ k = 5 ∨ k = 6 ∨ k = 7 ∨ k = 8 ∨ k = 9 ∨ k = 10 ∨ k = 11 ∨ k = 12 ∨ k = 13 ∨ k = 14 ∨ k = 15 := by omega
        rcases hc with rfl | rfl | rfl | rfl | rfl | rfl | rfl | rfl | rfl | rfl | rfl | rfl | rfl | rfl | rfl | rfl <;> simp [opsO]
      exact hnew
    · refine inz.imp id ?_
      rintro ⟨ib, rfl, i1, i2, i3⟩
      have nb : ib ≠ mb := fun e => ne3 (by rw [← e]; rfl)
      refine ⟨ib, 0, rfl, by simp; omega, by show ib ≠ w2.heap.size; omega, nb, by simp [Value.ownBlock], fun j hj => ?_⟩
      have h := oi.cells (g := ib) rfl j _ (nums_get hj)
      rw [add_at] at h
      rw [Nat.zero_add]
      exact (World.cell?_of_block (kb ib i2 nb)).trans h
    · refine ⟨?_, ?_, ?_, ?_⟩ <;> (dsimp only; simp; omega)
    · refine ⟨?_, ?_, ?_, ?_, ?_⟩ <;> (dsimp only; omega)
  · have os4 : w4.os = w2.os ∧ w4.tape = w2.tape ∧ w4.output = w2.output := by
      have hs : ∀ (vs : List Value) (o : Nat) (w : World), (w.setCells mb o vs).os = w.os ∧ (w.setCells mb o vs).tape = w.tape ∧ (w.setCells mb o vs).output = w.output := by
        intro vs
        induction vs with
        | nil => intro o w; exact ⟨rfl, rfl, rfl⟩
        | cons v vs ih => intro o w; exact ih (o + 1) _
      rw [← h4]
      show w3.os = _ ∧ w3.tape = _ ∧ w3.output = _
      rw [h3]
      exact hs _ _ _
    exact ⟨os4.1, os4.2.1, os4.2.2, by simp; omega, fun k hk => kb k (by omega) (by omega)⟩
theorem wpList_copy {P : Program} {ops : Array Oper} {rest : List Oper} {o : Oper} {a : Act} {w : World} {Q : Exit → Act → World → Prop} (hgd : o.guard = none) (d x : Operand) (t : TypeId)
    (ho : o.op = .call { callee := .builtin .copy, args := #[d, x], argTypes := #[t, t] }) (vd vx v : Value) (w' : World) (hd : a.eval d = vd) (hx : a.eval x = vx) (hr : (Builtin.copy_ #[t, t] o.type #[vd, vx]).run P w = .ok v w')
    (h : ∀ w3, w3 = w' → wpList P ops Q rest (a.put o.dst v) w3) : wpList P ops Q (o :: rest) a w := by
  refine wpList_plain hgd fun K hK => ?_
  unfold Oper.wp execOp
  simp only [ho, resolve, invoke, builtin, Sem.run_bind, Sem.run_pure, Result.andThen_ok, List.map_toArray, List.map_cons, List.map_nil, hd, hx, hr]
  exact hK _ _ (h _ rfl)
theorem copy_any {w : World} {mb M : Nat} {v : Value} {n : Nat} {data : List Int} {ty : TypeId} (hr : Reads w v n (nums .i64 data)) (hn : n ≤ M) (ho : w.ownsRow 0 2 1 (.slice (some ⟨mb, 0, none⟩) M M) M (nums .i64 (List.replicate M 0))) :
    ∃ u, (Builtin.copy_ #[22, 22] ty #[.slice (some ⟨mb, 0, none⟩) M M, v]).run Try.prog w = .ok u (w.setCells mb 0 (nums .i64 data)) := by
  obtain ⟨h1, h2, h3⟩ := hr
  rcases h3 with ⟨rfl, rfl⟩ | ⟨a, c, rfl, hx⟩
  · rw [List.eq_nil_of_length_eq_zero h1]
    exact ⟨_, run_copy_none w 22 22 ty 2 (some ⟨mb, 0, none⟩) none M M 0 0 rfl rfl (Nat.zero_min _)⟩
  · have hc := ho.cells (g := mb) rfl
    refine ⟨_, run_copy_cells w 22 22 ty 2 mb 0 M M a n c (nums .i64 data) rfl rfl (by rw [h1]; exact (Nat.min_eq_left hn).symm) hx (fun j hj => ?_) (fun j hj => ?_) h2⟩
    · have hjM : j < M := by omega
      have := hc j (.int .i64 0) (by simp [nums, hjM])
      rw [Nat.zero_add]
      by_cases hj0 : j = 0 <;> simp [Addr.add, hj0] at this ⊢ <;> rw [this] <;> rfl
    · rw [Nat.zero_add]; exact World.ownsRow.frozenAt ho j
theorem clone_any31 {w : World} {v : Value} {n : Nat} {xs : List Value} (h : Reads w v n xs) (hb : n ≤ 1000000000) :
    Calls Try.prog 31 #[v] w fun e w' => ∃ A cap, e = .returned (.slice A n cap) ∧ w'.ownsRow w.heap.size 5 1 (.slice A n cap) n xs ∧ Below w.heap.size w w' := by
  obtain ⟨h1, h2, h3⟩ := h
  rcases h3 with ⟨rfl, rfl⟩ | ⟨a, c, rfl, hx⟩
  · refine (clone_nil31 w).mono ?_
    rintro e w' ⟨rfl, rfl⟩
    rw [List.eq_nil_of_length_eq_zero h1]
    exact ⟨none, 0, rfl, World.ownsRow_nil _ _ _ _, Below.refl _ _⟩
  · refine (clone_some31 w a n c xs h1 h2 hx hb).mono ?_
    rintro e w' ⟨v, rfl, k1, k2, g, cap, rfl⟩
    exact ⟨_, cap, rfl, k1, k2⟩
theorem make_mem (M : Nat) (hM : M ≤ 262144) (w : World) : (Instr.makeSlice 22 (.int .i64 (M : Int)) (.int .i64 (M : Int))).run Try.prog w = .ok (.slice (some ⟨w.heap.size, 0, none⟩) M M) (w.alloc (.cells (madeCells #[.int .i64 0] M) 2)) := by
  have h := run_make (P := Try.prog) w 22 2 _ _ rfl rfl rfl .i64 .i64 M M (by omega) (Int.le_refl _) (by show (8 : Int) * M ≤ _; omega) (by omega)
  have h2 : (Instr.makeSlice 22 (.int .i64 (M : Int)) (.int .i64 (M : Int))).run Try.prog w = .ok (.slice (some ⟨w.heap.size, 0, none⟩) M M) (w.alloc (.cells (madeCells #[.int .i64 0] (M * 1)) 2)) := h
  rw [Nat.mul_one] at h2
  exact h2
theorem Reads.below {w X : World} {v : Value} {n : Nat} {xs : List Value} (h : Reads w v n xs) (hb : Below w.heap.size w X) : Reads X v n xs := by
  obtain ⟨h1, h2, h3⟩ := h
  refine ⟨h1, h2, h3.imp id ?_⟩
  rintro ⟨a, c, rfl, hx⟩
  exact ⟨a, c, rfl, fun j u hj => (World.cell?_of_block (hb.block _ (World.block_lt_of_cell? w _ (hx j u hj)))).trans (hx j u hj)⟩
theorem own_below {X Y : World} {B : Nat} {e : TypeId} {s n : Nat} {v : Value} {xs : List Value} (h : X.ownsRow B e s v n xs) (hb : Below X.heap.size X Y) : Y.ownsRow B e s v n xs :=
  ownsRow_frame h fun k hk => hb.block k (h.lt k hk).2
theorem clone_any30 {w : World} {a : Addr} {n c : Nat} {xs : List Value} (h : Reads w (.slice (some a) n c) n xs) (hb : n ≤ 1000000000) :
    Calls Try.prog 30 #[.slice (some a) n c] w fun e w' => ∃ g cap, e = .returned (.slice (some ⟨g, 0, none⟩) n cap) ∧ w'.ownsRow w.heap.size 2 1 (.slice (some ⟨g, 0, none⟩) n cap) n xs ∧ Below w.heap.size w w' := by
  obtain ⟨h1, h2, h3⟩ := h
  rcases h3 with ⟨h0, _⟩ | ⟨a', c', h0, hx⟩
  · cases h0
  · cases h0
    refine (clone_some30 w a n c xs h1 h2 hx hb).mono ?_
    rintro e w' ⟨v, rfl, k1, k2, g, cap, rfl⟩
    exact ⟨g, cap, rfl, k1, k2⟩
theorem made_own (B : Nat) (M : Nat) (hM : M ≤ 262144) (w : World) (hB : B ≤ w.heap.size) (b : Nat) (hbb : b = w.heap.size) : (w.alloc (.cells (madeCells #[.int .i64 0] M) 2)).ownsRow B 2 1 (.slice (some ⟨b, 0, none⟩) M M) M (nums .i64 (List.replicate M 0)) := by
  subst hbb
  have h := World.ownsRow_lit (base := B) (e := 2) (size := 1) w (madeCells #[.int .i64 0] M) M hB (by unfold maxLen; omega) (by simp [size_madeCells])
  rw [toList_madeCells_one] at h
  simpa [nums] using h
set_option maxHeartbeats 2000000 in
theorem new_ok (a1 : Addr) (A2 A3 : Option Addr) (n1 c1 n2 c2 n3 c3 M : Nat) (en : Int) (code data inp : List Int) (w : World) (f1 : (1 : Int) ≤ n1) (f2 : (n1 : Int) ≤ 65536) (f3 : (n2 : Int) ≤ 16384) (f4 : 0 ≤ en) (f5 : en < n1) (f6 : (n2 : Int) ≤ M) (f7 : (M : Int) ≤ 262144) (f8 : (n3 : Int) ≤ 4096) (r1 : Reads w (.slice (some a1) n1 c1) n1 (nums .i64 code)) (r2 : Reads w (.slice A2 n2 c2) n2 (nums .i64 data)) (r3 : Reads w (.slice A3 n3 c3) n3 (nums .u8 inp)) (hcode : ∀ k, -9223372036854775808 ≤ code.getD k 0 ∧ code.getD k 0 ≤ 9223372036854775807) (hinp : ∀ v ∈ inp, 0 ≤ v ∧ v ≤ 255) :
    Calls Try.prog 14 #[.agg #[.slice (some a1) n1 c1, .slice A2 n2 c2, .int .i64 en], .int .i64 (M : Int), .slice A3 n3 c3] w fun e w' => ∃ L, e = .returned (.tuple #[.pointer (some ⟨L.m, 0, none⟩), .int .i64 0]) ∧ Holds w' L (fresh code data inp en M) ∧ Below w.heap.size w w' ∧ ∀ b, L.foot inp b → w.heap.size ≤ b := by
  have g1 : decide ((n1 : Int) < 1) = false := decide_eq_false (by omega)
  have g2 : decide ((65536 : Int) < n1) = false := decide_eq_false (by omega)
  have g3 : decide ((16384 : Int) < n2) = false := decide_eq_false (by omega)
  have g4 : decide (en < 0) = false := decide_eq_false (by omega)
  have g5 : decide ((n1 : Int) ≤ en) = false := decide_eq_false (by omega)
  have g6 : decide (M < n2) = false := decide_eq_false (by omega)
  have g7 : decide ((262144 : Int) < M) = false := decide_eq_false (by omega)
  have g8 : decide ((4096 : Int) < n3) = false := decide_eq_false (by omega)
  go_enter Try.func14, Try.ntmps14
  go_wp2
  refine region_tree2 (fun W w' => Below W.heap.size W w') (.read 0 (.read 1 (.read 3 (.read 5 (.read 6 (.read 7 (.fork 2 (.fork 4 (.turn 8 .done) 8 (.turn 4 .done)) 4 (.turn 2 (.turn 8 .done))))))))) 9
    (fun a W a' w' => ∃ cb cc mb iA ic, w'.ownsRow W.heap.size 2 1 (.slice (some ⟨cb, 0, none⟩) n1 cc) n1 (nums .i64 code) ∧ w'.ownsRow W.heap.size 2 1 (.slice (some ⟨mb, 0, none⟩) M M) M (nums .i64 (List.replicate M 0)) ∧ w'.ownsRow W.heap.size 5 1 (.slice iA n3 ic) n3 (nums .u8 inp) ∧ cb ≠ mb ∧ (Value.slice iA n3 ic).ownBlock ≠ some cb ∧ (Value.slice iA n3 ic).ownBlock ≠ some mb ∧ Below W.heap.size W w' ∧
      a' = (((((((((a.put (some 52) (.pointer (some ⟨w.heap.size, 0, none⟩))).put (some 53) (.slice (some a1) n1 c1)).put (some 55) (.int .i64 (M : Int))).put (some 57) (.pointer (some ⟨w.heap.size, 2, none⟩))).put (some 58) (.int .i64 en)).put (some 59) (.slice A3 n3 c3)).put (some 54) (.slice (some ⟨cb, 0, none⟩) n1 cc)).put (some 56) (.slice (some ⟨mb, 0, none⟩) M M)).put (some 60) (.slice iA n3 ic))) mixed (by kernel_rfl) (Below.refl _ _) ?_ ?_
  refine tree_read (some 52) ?v0 rfl rfl (fun _ _ _ h => h) rfl ?y0 ?_
  case y0 => intro w' hS; obtain ⟨c1, c2⟩ := bcell hS; go_simp; try rfl
  refine tree_read (some 53) ?v1 rfl rfl (fun _ _ _ h => h) rfl ?y1 ?_
  case y1 => intro w' hS; obtain ⟨c1, c2⟩ := bcell hS; go_simp; try rfl
  refine tree_read (some 55) ?v3 rfl rfl (fun _ _ _ h => h) rfl ?y3 ?_
  case y3 => intro w' hS; obtain ⟨c1, c2⟩ := bcell hS; go_simp; try rfl
  refine tree_read (some 57) ?v5 rfl rfl (fun _ _ _ h => h) rfl ?y5 ?_
  case y5 => intro w' hS; obtain ⟨c1, c2⟩ := bcell hS; go_simp; try rfl
  refine tree_read (some 58) ?v6 rfl rfl (fun _ _ _ h => h) rfl ?y6 ?_
  case y6 => intro w' hS; obtain ⟨c1, c2⟩ := bcell hS; go_simp; try rfl
  refine tree_read (some 59) ?v7 rfl rfl (fun _ _ _ h => h) rfl ?y7 ?_
  case y7 => intro w' hS; obtain ⟨c1, c2⟩ := bcell hS; go_simp; try rfl
  have hmk := make_mem M (by omega)
  have hw : Below w.heap.size w ((w.alloc (.cells #[.slice (some a1) n1 c1, .slice A2 n2 c2, .int .i64 en] 24)).drew) := ((Below.refl _ _).alloc (Nat.le_refl _) _).drew
  have hwW : w.heap.size ≤ ((w.alloc (.cells #[.slice (some a1) n1 c1, .slice A2 n2 c2, .int .i64 en] 24)).drew).heap.size := hw.size
  have hX_0 : Below ((w.alloc (.cells #[.slice (some a1) n1 c1, .slice A2 n2 c2, .int .i64 en] 24)).drew).heap.size ((w.alloc (.cells #[.slice (some a1) n1 c1, .slice A2 n2 c2, .int .i64 en] 24)).drew) ((w.alloc (.cells #[.slice (some a1) n1 c1, .slice A2 n2 c2, .int .i64 en] 24)).drew) := Below.refl _ _
  refine tree_fork rfl rfl rfl rfl (fun K hK => ?_) (fun K hK => ?_)
  · skip
    go_simp
    refine (clone_any30 (r1.below (hw.trans (hX_0.mono hwW))) (by omega)).mono ?_
    rintro e x1 ⟨cb, cc, rfl, oc, b_x1⟩
    dsimp only
    have lc := oc.lt cb rfl
    have z_x1 := b_x1.size
    have hX_x1 := hX_0.trans (b_x1.mono hX_0.size)
    refine hK _ _ hX_x1 (fun _ => ?_)
    clear hK K
    refine tree_fork rfl rfl rfl rfl (fun K hK => ?_) (fun K hK => ?_)
    · skip
      unfold Oper.wp execOp
      go_simp
      have om := made_own (x1).heap.size M (by omega) (x1) (Nat.le_refl _) (x1.heap.size) (by first | rfl | simp)
      have b_x2 : Below (x1).heap.size (x1) ((x1).alloc (.cells (madeCells #[.int .i64 0] M) 2)) := (Below.refl _ _).alloc (Nat.le_refl _) _
      have lm := om.lt (x1.heap.size) rfl
      have z_x2 := b_x2.size
      have hX_x2 := hX_x1.trans (b_x2.mono hX_x1.size)
      have oc := own_below oc b_x2
      refine hK _ _ hX_x2 (fun _ => ?_)
      clear hK K
      refine tree_turn rfl rfl (fun K hK => ?_)
      go_simp
      refine (clone_any31 (r3.below (hw.trans (hX_x2.mono hwW))) (by omega)).mono ?_
      rintro e x3 ⟨iA, ic, rfl, oi, b_x3⟩
      dsimp only
      have li := oi.lt
      have z_x3 := b_x3.size
      have hX_x3 := hX_x2.trans (b_x3.mono hX_x2.size)
      have oc := own_below oc b_x3
      have om := own_below om b_x3
      refine hK _ _ hX_x3 (fun _ => ?_)
      clear hK K
      exact tree_done ⟨cb, cc, _, iA, ic, own_le oc (by omega), own_le om (by omega), own_le oi (by omega), by omega, fun e => by have := li _ e; omega, fun e => by have := li _ e; omega, hX_x3, by kernel_rfl⟩
    · skip
      go_simp
      refine (clone_any31 (r3.below (hw.trans (hX_x1.mono hwW))) (by omega)).mono ?_
      rintro e x2 ⟨iA, ic, rfl, oi, b_x2⟩
      dsimp only
      have li := oi.lt
      have z_x2 := b_x2.size
      have hX_x2 := hX_x1.trans (b_x2.mono hX_x1.size)
      have oc := own_below oc b_x2
      refine hK _ _ hX_x2 (fun _ => ?_)
      clear hK K
      refine tree_turn rfl rfl (fun K hK => ?_)
      unfold Oper.wp execOp
      go_simp
      have om := made_own (x2).heap.size M (by omega) (x2) (Nat.le_refl _) (x2.heap.size) (by first | rfl | simp)
      have b_x3 : Below (x2).heap.size (x2) ((x2).alloc (.cells (madeCells #[.int .i64 0] M) 2)) := (Below.refl _ _).alloc (Nat.le_refl _) _
      have lm := om.lt (x2.heap.size) rfl
      have z_x3 := b_x3.size
      have hX_x3 := hX_x2.trans (b_x3.mono hX_x2.size)
      have oc := own_below oc b_x3
      have oi := own_below oi b_x3
      refine hK _ _ hX_x3 (fun _ => ?_)
      clear hK K
      exact tree_done ⟨cb, cc, _, iA, ic, own_le oc (by omega), own_le om (by omega), own_le oi (by omega), by omega, fun e => by have := li _ e; omega, fun e => by have := li _ e; omega, hX_x3, by kernel_rfl⟩
  · skip
    unfold Oper.wp execOp
    go_simp
    have om := made_own ((w.alloc (.cells #[.slice (some a1) n1 c1, .slice A2 n2 c2, .int .i64 en] 24)).drew).heap.size M (by omega) ((w.alloc (.cells #[.slice (some a1) n1 c1, .slice A2 n2 c2, .int .i64 en] 24)).drew) (Nat.le_refl _) (w.heap.size + 1) (by first | rfl | simp)
    have b_x1 : Below ((w.alloc (.cells #[.slice (some a1) n1 c1, .slice A2 n2 c2, .int .i64 en] 24)).drew).heap.size ((w.alloc (.cells #[.slice (some a1) n1 c1, .slice A2 n2 c2, .int .i64 en] 24)).drew) (((w.alloc (.cells #[.slice (some a1) n1 c1, .slice A2 n2 c2, .int .i64 en] 24)).drew).alloc (.cells (madeCells #[.int .i64 0] M) 2)) := (Below.refl _ _).alloc (Nat.le_refl _) _
    have lm := om.lt (w.heap.size + 1) rfl
    have z_x1 := b_x1.size
    have hX_x1 := hX_0.trans (b_x1.mono hX_0.size)
    refine hK _ _ hX_x1 (fun _ => ?_)
    clear hK K
    refine tree_turn rfl rfl (fun K hK => ?_)
    go_simp
    refine (clone_any30 (r1.below (hw.trans (hX_x1.mono hwW))) (by omega)).mono ?_
    rintro e x2 ⟨cb, cc, rfl, oc, b_x2⟩
    dsimp only
    have lc := oc.lt cb rfl
    have z_x2 := b_x2.size
    have hX_x2 := hX_x1.trans (b_x2.mono hX_x1.size)
    have om := own_below om b_x2
    refine hK _ _ hX_x2 (fun _ => ?_)
    clear hK K
    refine tree_turn rfl rfl (fun K hK => ?_)
    go_simp
    refine (clone_any31 (r3.below (hw.trans (hX_x2.mono hwW))) (by omega)).mono ?_
    rintro e x3 ⟨iA, ic, rfl, oi, b_x3⟩
    dsimp only
    have li := oi.lt
    have z_x3 := b_x3.size
    have hX_x3 := hX_x2.trans (b_x3.mono hX_x2.size)
    have oc := own_below oc b_x3
    have om := own_below om b_x3
    refine hK _ _ hX_x3 (fun _ => ?_)
    clear hK K
    exact tree_done ⟨cb, cc, _, iA, ic, own_le oc (by omega), own_le om (by omega), own_le oi (by omega), by omega, fun e => by have := li _ e; omega, fun e => by have := li _ e; omega, hX_x3, by kernel_rfl⟩
  rintro a' w2 ⟨cb, cc, mb, iA, ic, oc, om, oi, ne1, ne2, ne3, hb, rfl⟩
  have hsz := hb.size
  simp only [World.size_drew, World.size_alloc] at hsz
  have hz1 : w.heap.size < w2.heap.size := by omega
  obtain ⟨e1, e2⟩ := bcell hb
  simp only [List.drop_succ_cons, List.drop_zero]
  go_simp
  go_wp2
  refine region_tail 6 mixed (by kernel_rfl) ?_
  simp only [List.take_succ_cons, List.take_zero, List.drop_succ_cons, List.drop_zero]
  repeat still_step
  refine wpStill_nil ?_
  have hbx : Below w2.heap.size w2 (w2.alloc (.cells #[.slice (some ⟨cb, 0, none⟩) n1 cc, .slice (some ⟨mb, 0, none⟩) M M, .int .i64 0, .int .i64 0, .int .i64 0, .int .i64 0, .int .i64 0, .int .i64 0, .int .i64 0, .int .i64 0, .int .i64 0, .int .i64 0, .int .i64 0, .int .i64 0, .int .i64 0, .int .i64 0, .int .i64 0, .int .i64 0, .int .i64 en, .slice iA n3 ic, .slice none 0 0, .int .i64 0, .int .i64 0, .int .i64 0, .slice none 0 0] 61)).drew := ((Below.refl _ _).alloc (Nat.le_refl _) _).drew
  have hw2 : Below w.heap.size w w2 := (((Below.refl _ _).alloc (Nat.le_refl _) _).drew).trans (hb.mono (by simp))
  obtain ⟨u, hcp⟩ := copy_any (ty := 3) (r2.below (hw2.trans (hbx.mono hw2.size))) (by omega) (own_le (own_below om hbx) (Nat.zero_le _))
  refine wpList_copy rfl (.tmp 66) (.tmp 68) 22 rfl _ _ u _ rfl rfl hcp (fun w3 h3 => ?_)
  have lm := om.lt mb rfl
  have kc : ∀ j, w3.cell? ⟨w2.heap.size, j, none⟩ = (w2.alloc (.cells #[.slice (some ⟨cb, 0, none⟩) n1 cc, .slice (some ⟨mb, 0, none⟩) M M, .int .i64 0, .int .i64 0, .int .i64 0, .int .i64 0, .int .i64 0, .int .i64 0, .int .i64 0, .int .i64 0, .int .i64 0, .int .i64 0, .int .i64 0, .int .i64 0, .int .i64 0, .int .i64 0, .int .i64 0, .int .i64 0, .int .i64 en, .slice iA n3 ic, .slice none 0 0, .int .i64 0, .int .i64 0, .int .i64 0, .slice none 0 0] 61)).cell? ⟨w2.heap.size, j, none⟩ := fun j => by
    rw [h3]; exact World.cell?_setCells_out mb _ _ _ _ (fun he => by dsimp only at he; omega)
  have k17 : w3.cell? ⟨w2.heap.size, 17, none⟩ = some (.int .i64 0) := by rw [kc]; simp
  have k24 : w3.cell? ⟨w2.heap.size, 24, none⟩ = some (.slice none 0 0) := by rw [kc]; simp
  have kf : ∀ o, w3.frozen? ⟨w2.heap.size, o, none⟩ = false := fun o => by rw [h3, World.frozen?_setCells]; simp
  have kz : w2.heap.size < w3.heap.size := World.block_lt_of_cell? w3 _ k24
  have H3 := Lib.hid h3
  clear h3 kc
  have hmf : ∀ (fn : Fn) (first cap : Array Value) (w : World), (Instr.makeFunc fn first cap).run Try.prog w = .ok (.func fn first cap) w := fun _ _ _ _ => rfl
  go_wp2
  have lend : data.length = n2 := by have := r2.1; simpa [nums] using this
  obtain ⟨hH, hB⟩ := fresh_holds oc om oi ne1 ne2 ne3 (by omega) (by omega) (by omega) hcode hinp H3.out
  have hBw := hB.mono (B' := w.heap.size) (by simp)
  refine bodyPost_ret (results_tmp2 rfl _ _ _) rfl ⟨_, rfl, hH, hw2.trans hBw, ?_⟩
  rintro b (hb' | hb' | hb' | hb' | hb' | ⟨hb', off, hb''⟩)
  · subst hb'; dsimp only; omega
  · subst hb'; have := lm.1; simp at this; omega
  · subst hb'; have := (oc.lt _ rfl).1; simp at this; omega
  · subst hb'; dsimp only; omega
  · cases hb'
  · dsimp only at hb''; subst hb''; have := (oi.lt b rfl).1; simp at this; omega
end Go.Proofs.Ytbchiolgbhckhaa.Mach

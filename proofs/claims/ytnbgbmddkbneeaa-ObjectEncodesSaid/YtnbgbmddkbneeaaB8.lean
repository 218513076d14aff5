/- A writer's bytes: appended to a row of its own behind a pointer. -/
import Derived.Test.YtnbgbmddkbneeaaB5
set_option linter.unusedVariables false
set_option linter.unusedSimpArgs false
namespace Go.Proofs.Ytnbgbmddkbneeaa.Obj
open Go.RowKit Go.Proofs.YtnbgbmddkbneeaaW.PrintWords Go.Proofs.YtnbgbmddkbneeaaW.PrintMore Go.Proofs.Ytnbgbmddkbneeaa.PLinkWeak
section
variable {P : Program}
theorem run_append_str (w : World) (base : Nat) (t u ty e : TypeId) (i : TypeInfo) (ht : P.underlying t = some (.slice e)) (hu : P.underlying u = some .string) (hi : P.info? e = some i) (hz : i.zero = some (.int .u8 0))
    (hsize : i.size = 1) (hby : i.bytes = 1) (v : Value) (n : Nat) (xs : List Value) (hown : w.ownsRow base e 1 v n xs) (s : ByteArray) (hbytes : n + s.size ≤ 140737488355328) (hbase : base ≤ w.heap.size) :
    ∃ v' w', (Builtin.append_ #[t, u] ty #[v, .string s]).run P w = .ok v' w' ∧ Appended w base e 1 v (n + s.size) (xs ++ Lib.strCells s) v' w' := by
  have h63 : n + s.size ≤ maxLen := by unfold maxLen; omega
  obtain ⟨v', w', hr, h2, h3, _⟩ := Lib.run_append_own_string (P := P) w base t u ty e i ht hu hi hz hsize hby v n xs hown s h63 hbytes hbase
  refine ⟨v', w', hr, h2, h3, ?_⟩
  rcases hown.2 with ⟨rfl, rfl⟩ | ⟨g, cap, cur, rfl, hbg, hg, hnc, hcm, hcs, htake⟩
  · have hx : xs = [] := List.eq_nil_of_length_eq_zero (by simpa using hown.1)
    subst hx
    obtain ⟨v1, w1, hr1, h4, _⟩ := Lib.run_append_own_string (P := P) w w.heap.size t u ty e i ht hu hi hz hsize hby (.slice none 0 0) 0 [] (World.ownsRow_nil w _ e 1) s h63 hbytes (Nat.le_refl _)
    rw [hr] at hr1
    obtain ⟨rfl, rfl⟩ : v' = v1 ∧ w' = w1 := by simpa using hr1
    exact fun k hk => .inr (own_base h4 k hk)
  · by_cases hroom : n + s.size ≤ cap
    · have hr1 := Lib.run_append_room_string (P := P) w t u ty e i ht hu hi hsize g n cap cur hg s hroom (by omega)
      rw [hr] at hr1
      obtain ⟨rfl, rfl⟩ : v' = _ ∧ w' = _ := by simpa using hr1
      exact fun k hk => .inl hk
    · have hl : xs.length = n := by simpa using hown.1
      have hr1 := Lib.run_append_grow_string (P := P) w t u ty e i _ ht hu hi hz ⟨g, 0, none⟩ n cap xs (by rw [hsize]; omega) (hown.cells (g := g) rfl) s (by omega) (by omega) (growslice_fits (by omega) (by rw [hby]; omega))
      rw [hr] at hr1
      obtain ⟨rfl, rfl⟩ : v' = _ ∧ w' = _ := by simpa using hr1
      exact fun k hk => .inr (by simp [Value.ownBlock] at hk; omega)
end
/-- A writer: its first cell's row is its own. -/
def WrIs (T : TypeId) (tl : List Value) (w : World) (g : Nat) (out : List Int) : Prop :=
  ∃ v, w.heap[g]? = some (.cells (v :: tl).toArray T (0, 0)) ∧ w.ownsRow (g + 1) 5 1 v out.length (nums .u8 out)
/-- A block that a writer does not write. -/
def Free (w : World) (g b : Nat) : Prop := b ≠ g ∧ ∀ v, w.cell? ⟨g, 0, none⟩ = some v → v.ownBlock ≠ some b
structure Keep (w w' : World) (g : Nat) : Prop where
  os : w'.os = w.os
  tape : w'.tape = w.tape
  output : w'.output = w.output
  size : w.heap.size ≤ w'.heap.size
  block : ∀ b, b < w.heap.size → Free w g b → w'.heap[b]? = w.heap[b]? ∧ Free w' g b
section
variable {T : TypeId} {tl : List Value} {w w' : World} {g : Nat} {out : List Int}
theorem WrIs.cell (h : WrIs T tl w g out) : ∃ v, w.cell? ⟨g, 0, none⟩ = some v ∧ w.ownsRow (g + 1) 5 1 v out.length (nums .u8 out) := by
  obtain ⟨v, hb, ho⟩ := h
  exact ⟨v, by simp [World.cell?, hb], ho⟩
theorem own_slice {w : World} {base : Nat} {e : TypeId} {size : Nat} {v : Value} {n : Nat} {xs : List Value} (h : w.ownsRow base e size v n xs) : ∃ A cap, v = .slice A n cap := by
  rcases h.2 with ⟨rfl, rfl⟩ | ⟨g, cap, cur, rfl, _⟩
  · exact ⟨none, 0, rfl⟩
  · exact ⟨_, cap, rfl⟩
theorem WrIs.slot (h : WrIs T tl w g out) : ∃ A c, w.cell? ⟨g, 0, none⟩ = some (.slice A out.length c) := by
  obtain ⟨v, hv, ho⟩ := h.cell
  obtain ⟨A, c, rfl⟩ := own_slice ho
  exact ⟨A, c, hv⟩
theorem WrIs.lt (h : WrIs T tl w g out) : g < w.heap.size := by obtain ⟨v, hb, ho⟩ := h; exact (Array.getElem?_eq_some_iff.1 hb).1
theorem WrIs.cells_at (h : WrIs T tl w g out) (j : Nat) (u : Value) (hu : tl[j]? = some u) : w.cell? ⟨g, j + 1, none⟩ = some u := by
  obtain ⟨v, hb, ho⟩ := h
  simp [World.cell?, hb, hu]
theorem WrIs.frozen (h : WrIs T tl w g out) (o : Nat) : w.frozen? ⟨g, o, none⟩ = false := by
  obtain ⟨v, hb, ho⟩ := h
  simp [World.frozen?, hb]
theorem WrIs.free_low (h : WrIs T tl w g out) {b : Nat} (hb : b < g) : Free w g b := by
  obtain ⟨v, hv, ho⟩ := h.cell
  refine ⟨by omega, fun u hu e => ?_⟩
  rw [hv] at hu; cases hu
  have := (ho.lt b e).1
  omega
theorem WrIs.free_new (h : WrIs T tl w g out) {b : Nat} (hb : w.heap.size ≤ b) : Free w g b := by
  obtain ⟨v, hv, ho⟩ := h.cell
  have hl := h.lt
  refine ⟨by omega, fun u hu e => ?_⟩
  rw [hv] at hu; cases hu
  have := (ho.lt b e).2
  omega
theorem WrIs.below (h : WrIs T tl w g out) (hb : Below w.heap.size w w') : WrIs T tl w' g out := by
  have hl := h.lt
  obtain ⟨v, hv, ho⟩ := h
  exact ⟨v, (hb.block g hl).trans hv, own_move ho fun k hk => hb.block k (ho.lt k hk).2⟩
theorem Free.below {b : Nat} (h : Free w g b) (hg : g < w.heap.size) (hb : Below w.heap.size w w') : Free w' g b :=
  ⟨h.1, fun v hv => h.2 v (by rw [← hv]; exact (World.cell?_of_block (hb.block g hg)).symm)⟩
theorem Keep.refl (w : World) (g : Nat) : Keep w w g := ⟨rfl, rfl, rfl, Nat.le_refl _, fun _ _ h => ⟨rfl, h⟩⟩
theorem Keep.trans {w'' : World} (h : Keep w w' g) (k : Keep w' w'' g) : Keep w w'' g :=
  ⟨k.os.trans h.os, k.tape.trans h.tape, k.output.trans h.output, Nat.le_trans h.size k.size, fun b hb hf =>
    have ⟨h1, h2⟩ := h.block b hb hf
    have ⟨k1, k2⟩ := k.block b (Nat.lt_of_lt_of_le hb h.size) h2
    ⟨k1.trans h1, k2⟩⟩
theorem Keep.of_below (hg : g < w.heap.size) (hb : Below w.heap.size w w') : Keep w w' g :=
  ⟨hb.os, hb.tape, hb.output, hb.size, fun b hl hf => ⟨hb.block b hl, hf.below hg hb⟩⟩
theorem Keep.low (h : Keep w w' g) (hW : WrIs T tl w g out) {B : Nat} (hB : B ≤ g) : Below B w w' :=
  ⟨h.os, h.tape, h.output, h.size, fun b hb => (h.block b (by have := hW.lt; omega) (hW.free_low (by omega))).1⟩
theorem Keep.drewN (w : World) (g n : Nat) : Keep w (w.drewN n) g := ⟨rfl, rfl, rfl, Nat.le_refl _, fun _ _ h => ⟨rfl, h⟩⟩
/-- An append and its store. -/
theorem WrIs.put {v v' : Value} {W w1 : World} {out' : List Int} (h : WrIs T tl w g out) (hv : w.cell? ⟨g, 0, none⟩ = some v) (hb : Below w.heap.size w W) (hA : Appended W (g + 1) 5 1 v out'.length (nums .u8 out') v' w1) :
    WrIs T tl (w1.setCell ⟨g, 0, none⟩ v') g out' ∧ Keep w (w1.setCell ⟨g, 0, none⟩ v') g ∧ w1.frozen? ⟨g, 0, none⟩ = false ∧ g < w1.heap.size ∧ w1.cell? ⟨g, 0, none⟩ = some v := by
  have hl := h.lt
  obtain ⟨u, hu, ho⟩ := h
  have : w.cell? ⟨g, 0, none⟩ = some u := by simp [World.cell?, hu]
  rw [hv] at this; cases this
  obtain ⟨h1, h2, h3⟩ := hA
  have hne : some g ≠ v.ownBlock := fun e => by have := (ho.lt g e.symm).1; omega
  have hz := hb.size
  have hk : w1.heap[g]? = some (.cells (v :: tl).toArray T (0, 0)) := (h2.block g (by omega) hne).trans ((hb.block g hl).trans hu)
  have hz1 : g < w1.heap.size := by have := h2.size; omega
  have hs : (w1.setCell ⟨g, 0, none⟩ v').heap[g]? = some (.cells (v' :: tl).toArray T (0, 0)) := by
    show (w1.heap.modify g _)[g]? = _
    rw [Array.getElem?_modify]
    simp [hk]
  refine ⟨⟨v', hs, own_move h1 fun k hk' => Below.heap_setCell _ _ _ _ (by have := (h1.lt k hk').1; show k ≠ g; omega)⟩, ⟨?_, ?_, ?_, ?_, fun b hbl hf => ?_⟩, ?_, hz1, ?_⟩
  · exact (h2.os).trans hb.os
  · exact (h2.tape).trans hb.tape
  · exact (h2.output).trans hb.output
  · have := h2.size; simp [World.setCell]; omega
  · have e1 : (w1.setCell ⟨g, 0, none⟩ v').heap[b]? = w.heap[b]? := (Below.heap_setCell _ _ _ _ hf.1).trans ((h2.block b (by omega) (fun e => hf.2 v hv e.symm)).trans (hb.block b hbl))
    refine ⟨e1, hf.1, fun x hx e => ?_⟩
    have : (w1.setCell ⟨g, 0, none⟩ v').cell? ⟨g, 0, none⟩ = some v' := by simp [World.cell?, hs]
    rw [this] at hx; cases hx
    rcases h3 b e with h4 | h4
    · exact hf.2 v hv h4
    · omega
  · simp [World.frozen?, hk]
  · simp [World.cell?, hk]
theorem WrIs.new (w : World) (T : TypeId) (tl : List Value) : WrIs T tl (w.alloc (.cells (.slice none 0 0 :: tl).toArray T)) w.heap.size [] :=
  ⟨_, heap_alloc_new w _, World.ownsRow_nil _ _ _ _⟩
end
theorem nums_str (s : ByteArray) : Lib.strCells s = nums .u8 (bytesOf s) := by simp [nums, bytesOf, Lib.strCells]
theorem info5 : (Try.prog.info? 5).map (fun i => (i.zero, i.size, i.bytes)) = some (some (.int .u8 0), 1, 1) := by kernel_rfl
theorem append_str {w W : World} {g : Nat} {T : TypeId} {tl : List Value} {out : List Int} {v : Value} (s : ByteArray) (ty : TypeId) (h : WrIs T tl w g out) (hv : w.cell? ⟨g, 0, none⟩ = some v) (hb : Below w.heap.size w W) (hl : out.length + s.size ≤ 140737488355328) :
    ∃ A' n' c' w1, (Builtin.append_ #[34, 9] ty #[v, .string s]).run Try.prog W = .ok (.slice A' n' c') w1 ∧ WrIs T tl (w1.setCell ⟨g, 0, none⟩ (.slice A' n' c')) g (out ++ bytesOf s) ∧ Keep w (w1.setCell ⟨g, 0, none⟩ (.slice A' n' c')) g ∧ w1.frozen? ⟨g, 0, none⟩ = false ∧ g < w1.heap.size ∧ w1.cell? ⟨g, 0, none⟩ = some v := by
  obtain ⟨i0, hi, hz0, hz1, hz2⟩ := info_parts info5
  obtain ⟨u, hu, ho⟩ := h.cell
  rw [hv] at hu; cases hu
  have ho' : W.ownsRow (g + 1) 5 1 v out.length (nums .u8 out) := own_move ho fun k hk => hb.block k (ho.lt k hk).2
  have hg := h.lt
  obtain ⟨v', w1, hr, hA⟩ := run_append_str (P := Try.prog) W (g + 1) 34 9 ty 5 i0 Try.underlying34 Try.underlying9 hi hz0 hz1 hz2 v out.length (nums .u8 out) ho' s hl (by have := hb.size; omega)
  obtain ⟨A', c', rfl⟩ := own_slice hA.1
  refine ⟨A', _, c', w1, hr, h.put hv hb ?_⟩
  rw [nums_str, ← nums_append] at hA
  have e : out.length + s.size = (out ++ bytesOf s).length := by rw [List.length_append, bytesOf_length]
  rw [← e]; exact hA
theorem wpList_app {P : Program} {ops : Array Oper} {rest : List Oper} {o : Oper} {a : Act} {w : World} {Q : Exit → Act → World → Prop} (hgd : o.guard = none) (d x : Operand) (t u : TypeId)
    (ho : o.op = .call { callee := .builtin .append, args := #[d, x], argTypes := #[t, u] }) (vd vx v : Value) (w' : World) (hd : a.eval d = vd) (hx : a.eval x = vx) (hr : (Builtin.append_ #[t, u] o.type #[vd, vx]).run P w = .ok v w')
    (h : wpList P ops Q rest (a.put o.dst v) w') : wpList P ops Q (o :: rest) a w := by
  refine wpList_plain hgd fun K hK => ?_
  unfold Oper.wp execOp
  simp only [ho, resolve, invoke, builtin, Sem.run_bind, Sem.run_pure, Result.andThen_ok, List.map_toArray, List.map_cons, List.map_nil, hd, hx, hr]
  exact hK _ _ h
set_option maxHeartbeats 1000000 in
set_option maxRecDepth 100000 in
theorem raw_any {w : World} {g : Nat} {out : List Int} (s : ByteArray) (h : WrIs 74 [] w g out) (hl : out.length + s.size ≤ 140737488355328) :
    Calls Try.prog 33 #[.pointer (some ⟨g, 0, none⟩), .string s] w fun e w' => e = .returned (.tuple #[]) ∧ WrIs 74 [] w' g (out ++ bytesOf s) ∧ Keep w w' g := by
  obtain ⟨A, c, hv⟩ := h.slot
  obtain ⟨A', n', c', w1, hr, hW, hK, hf, hlt, hv1⟩ := append_str s 34 h hv (Below.refl _ _) hl
  clear hl h
  go_enter Try.func33, Try.ntmps33
  have HW := Lib.hid hW
  have HK := Lib.hid hK
  have Hr := Lib.hid hr
  clear hW hK hr
  go_wp2_with (refine wpList_app (o := ⟨some 10, _, _, _, _, _⟩) rfl (.tmp 8) (.tmp 9) 34 9 rfl _ _ _ _ rfl rfl Hr.out ?_)
  go_end0
  exact ⟨rfl, HW.out, HK.out⟩
end Go.Proofs.Ytnbgbmddkbneeaa.Obj

/- The document's machine is made where nothing is wrong: the walk. -/
import Derived.Test.YtbchiolgbhckhaaRefNew
import Derived.Laws.CopyOwn
set_option linter.unusedVariables false
set_option linter.unusedSimpArgs false
namespace Go.Proofs.Ytbchiolgbhckhaa.Mach
open Go.RowKit Go.Proofs.YtbchiolgbhckhaaW.PrintWords Go.Proofs.YtbchiolgbhckhaaW.PrintMore Go.Proofs.Ytbchiolgbhckhaa.PMachRuns
def ZS : Array Value := #[.slice none 0 0, .slice none 0 0, .int .i64 0, .int .i64 0, .int .i64 0, .int .i64 0, .int .i64 0, .int .i64 0, .int .i64 0, .int .i64 0, .int .i64 0, .int .i64 0, .int .i64 0, .int .i64 0, .int .i64 0, .int .i64 0, .int .i64 0, .int .i64 0, .int .i64 0, .slice none 0 0, .int .i64 0, .int .i64 0, .int .i64 0, .slice none 0 0, .int .i64 0]
def VS (cb n1 cc mb M : Nat) (en : Int) (ib n3 ic : Nat) (r15 : Value) : Array Value := #[.slice (some ⟨cb, 0, none⟩) n1 cc, .slice (some ⟨mb, 0, none⟩) M M, .int .i64 0, .int .i64 0, .int .i64 0, .int .i64 0, .int .i64 0, .int .i64 0, .int .i64 0, .int .i64 0, .int .i64 0, .int .i64 0, .int .i64 0, .int .i64 0, .int .i64 0, .int .i64 0, .int .i64 0, r15, .int .i64 en, .slice (some ⟨ib, 0, none⟩) n3 ic, .int .i64 0, .int .i64 0, .int .i64 0, .slice none 0 0, .int .i64 0]
def actN (a : Act) (r56 r57 r59 r61 r62 r64 v55 v58 v60 v63 v65 v66 v8 : Value) : Act := (((((((((((((a.put (some 56) r56).put (some 57) r57).put (some 59) r59).put (some 61) r61).put (some 62) r62).put (some 64) r64).put (some 55) v55).put (some 58) v58).put (some 60) v60).put (some 63) v63).put (some 65) v65).put (some 66) v66).put (some 8) v8)
structure NV (l : Nat → Bool) (b : Nat → Nat) (n1 n3 M c0 c2 : Nat) (en : Int) (v55 v58 v60 v63 v65 v66 v8 : Value) : Prop where
  v0 : l 0 = true → l 3 = false → v55 = .slice (some ⟨b 0, 0, none⟩) 0 0
  v3 : l 3 = true → v58 = .slice (some ⟨b 0, 0, none⟩) n1 c0
  v5 : l 5 = true → v60 = .slice (some ⟨b 1, 0, none⟩) M M
  v8_ : l 8 = true → l 10 = false → v63 = .slice (some ⟨b 2, 0, none⟩) 0 0
  v10 : l 10 = true → v65 = .slice (some ⟨b 2, 0, none⟩) n3 c2
  v11 : l 11 = true → v66 = .agg (VS (b 0) n1 c0 (b 1) M en (b 2) n3 c2 (.int .i64 0))
  v12 : l 12 = true → v8 = .pointer (some ⟨b 3, 0, none⟩)
  j11 : l 11 = true → l 3 = true ∧ l 5 = true ∧ l 10 = true
section
variable {l : Nat → Bool} {b : Nat → Nat} {n1 n3 M c0 c2 : Nat} {en : Int} {v55 v58 v60 v63 v65 v66 v8 : Value}
theorem NV.s0 (h : NV l b n1 n3 M c0 c2 en v55 v58 v60 v63 v65 v66 v8) (h3 : l 3 = false) (g : Nat) : NV (at1 l 0 true) (at1 b 0 g) n1 n3 M c0 c2 en (.slice (some ⟨g, 0, none⟩) 0 0) v58 v60 v63 v65 v66 v8 := by
  have h11 : l 11 = false := by
    cases e : l 11 with
    | false => rfl
    | true => have := (h.j11 e).1; rw [h3] at this; cases this
  obtain ⟨x0, x3, x5, x8, x10, x11, x12, j⟩ := h
  constructor <;> simp_all [at1]
theorem NV.s3 (h : NV l b n1 n3 M c0 c2 en v55 v58 v60 v63 v65 v66 v8) (h3 : l 3 = false) (g c : Nat) : NV (at1 l 3 true) (at1 b 0 g) n1 n3 M c c2 en v55 (.slice (some ⟨g, 0, none⟩) n1 c) v60 v63 v65 v66 v8 := by
  have h11 : l 11 = false := by
    cases e : l 11 with
    | false => rfl
    | true => have := (h.j11 e).1; rw [h3] at this; cases this
  obtain ⟨x0, x3, x5, x8, x10, x11, x12, j⟩ := h
  constructor <;> simp_all [at1]
theorem NV.s5 (h : NV l b n1 n3 M c0 c2 en v55 v58 v60 v63 v65 v66 v8) (h3 : l 5 = false) (g : Nat) : NV (at1 l 5 true) (at1 b 1 g) n1 n3 M c0 c2 en v55 v58 (.slice (some ⟨g, 0, none⟩) M M) v63 v65 v66 v8 := by
  have h11 : l 11 = false := by
    cases e : l 11 with
    | false => rfl
    | true => have := (h.j11 e).2.1; rw [h3] at this; cases this
  obtain ⟨x0, x3, x5, x8, x10, x11, x12, j⟩ := h
  constructor <;> simp_all [at1]
theorem NV.s8 (h : NV l b n1 n3 M c0 c2 en v55 v58 v60 v63 v65 v66 v8) (h3 : l 10 = false) (g : Nat) : NV (at1 l 8 true) (at1 b 2 g) n1 n3 M c0 c2 en v55 v58 v60 (.slice (some ⟨g, 0, none⟩) 0 0) v65 v66 v8 := by
  have h11 : l 11 = false := by
    cases e : l 11 with
    | false => rfl
    | true => have := (h.j11 e).2.2; rw [h3] at this; cases this
  obtain ⟨x0, x3, x5, x8, x10, x11, x12, j⟩ := h
  constructor <;> simp_all [at1]
theorem NV.s10 (h : NV l b n1 n3 M c0 c2 en v55 v58 v60 v63 v65 v66 v8) (h3 : l 10 = false) (g c : Nat) : NV (at1 l 10 true) (at1 b 2 g) n1 n3 M c0 c en v55 v58 v60 v63 (.slice (some ⟨g, 0, none⟩) n3 c) v66 v8 := by
  have h11 : l 11 = false := by
    cases e : l 11 with
    | false => rfl
    | true => have := (h.j11 e).2.2; rw [h3] at this; cases this
  obtain ⟨x0, x3, x5, x8, x10, x11, x12, j⟩ := h
  constructor <;> simp_all [at1]
theorem NV.s11 (h : NV l b n1 n3 M c0 c2 en v55 v58 v60 v63 v65 v66 v8) (h3 : l 3 = true) (h5 : l 5 = true) (h10 : l 10 = true) : NV (at1 l 11 true) b n1 n3 M c0 c2 en v55 v58 v60 v63 v65 (.agg (VS (b 0) n1 c0 (b 1) M en (b 2) n3 c2 (.int .i64 0))) v8 := by
  obtain ⟨x0, x3, x5, x8, x10, x11, x12, j⟩ := h
  constructor <;> simp_all [at1]
theorem NV.s12 (h : NV l b n1 n3 M c0 c2 en v55 v58 v60 v63 v65 v66 v8) (g : Nat) : NV (at1 l 12 true) (at1 b 3 g) n1 n3 M c0 c2 en v55 v58 v60 v63 v65 v66 (.pointer (some ⟨g, 0, none⟩)) := by
  obtain ⟨x0, x3, x5, x8, x10, x11, x12, j⟩ := h
  constructor <;> simp_all [at1]
end
theorem getD_set_fun {listed : Array Bool} {i : Nat} (h : i < listed.size) : (fun q => (listed.setIfInBounds i true).getD q false) = at1 (fun q => listed.getD q false) i true := by
  funext j
  unfold at1
  simp only [Array.getD_eq_getD_getElem?, Array.getElem?_setIfInBounds]
  by_cases e : j = i
  · subst e; simp [h]
  · rw [if_neg (fun e' => e e'.symm), if_neg e]
theorem wp_app {P : Program} {o : Oper} {a : Act} {w : World} {K : Act → World → Prop} {Q : Exit → Act → World → Prop} (d x : Operand) (t : TypeId)
    (ho : o.op = .call { callee := .builtin .append, args := #[d, x], argTypes := #[t, t] }) (vd vx v : Value) (w' : World) (hd : a.eval d = vd) (hx : a.eval x = vx) (hr : (Builtin.append_ #[t, t] o.type #[vd, vx]).run P w = .ok v w')
    (h : K (a.put o.dst v) w') : o.wp P a w K Q := by
  unfold Oper.wp execOp
  simp only [ho, resolve, invoke, builtin, Sem.run_bind, Sem.run_pure, Result.andThen_ok, List.map_toArray, List.map_cons, List.map_nil, hd, hx, hr]
  exact h
/-- The bag's invariant. -/
def INV (code inp : List Int) (n1 n3 M : Nat) (en : Int) (r56 r57 r59 r61 r62 r64 : Value) (a : Act) (X : World) (listed : Array Bool) (a' : Act) (w' : World) : Prop :=
  listed.size = 14 ∧ (listed.getD 1 false = true ∧ listed.getD 2 false = true ∧ listed.getD 4 false = true ∧ listed.getD 6 false = true ∧ listed.getD 7 false = true ∧ listed.getD 9 false = true) ∧
  ∃ (b : Nat → Nat) (c0 c2 : Nat) (v55 v58 v60 v63 v65 v66 v8 : Value), NI X code inp n1 n3 M ZS w' (fun q => listed.getD q false) b c0 c2 ∧ NV (fun q => listed.getD q false) b n1 n3 M c0 c2 en v55 v58 v60 v63 v65 v66 v8 ∧ a' = actN a r56 r57 r59 r61 r62 r64 v55 v58 v60 v63 v65 v66 v8
/-- What is there behind it. -/
def MADE (code inp : List Int) (n1 n3 M : Nat) (en : Int) (r56 r57 r59 r61 r62 r64 : Value) (a : Act) (X : World) (a' : Act) (w' : World) : Prop :=
  ∃ (b : Nat → Nat) (c0 c2 : Nat) (v55 v63 : Value), Below X.heap.size X w' ∧ (∀ p, p < 4 → X.heap.size ≤ b p ∧ b p < w'.heap.size) ∧ (∀ p q, p < 4 → q < 4 → b p = b q → p = q) ∧
    w'.ownsRow X.heap.size 2 1 (.slice (some ⟨b 0, 0, none⟩) n1 c0) n1 (nums .i64 code) ∧ w'.ownsRow X.heap.size 2 1 (.slice (some ⟨b 1, 0, none⟩) M M) M (nums .i64 (List.replicate M 0)) ∧
    w'.ownsRow X.heap.size 5 1 (.slice (some ⟨b 2, 0, none⟩) n3 c2) n3 (nums .u8 inp) ∧ w'.heap[b 3]? = some (.cells ZS 36) ∧
    a' = actN a r56 r57 r59 r61 r62 r64 v55 (.slice (some ⟨b 0, 0, none⟩) n1 c0) (.slice (some ⟨b 1, 0, none⟩) M M) v63 (.slice (some ⟨b 2, 0, none⟩) n3 c2) (.agg (VS (b 0) n1 c0 (b 1) M en (b 2) n3 c2 (.int .i64 0))) (.pointer (some ⟨b 3, 0, none⟩))
theorem made_of {code inp : List Int} {n1 n3 M : Nat} {en : Int} {r56 r57 r59 r61 r62 r64 : Value} {a : Act} {X : World} {listed : Array Bool} {a' : Act} {w' : World} (h : INV code inp n1 n3 M en r56 r57 r59 r61 r62 r64 a X listed a' w')
    (hl : listed.getD 0 false = true ∧ listed.getD 3 false = true ∧ listed.getD 5 false = true ∧ listed.getD 8 false = true ∧ listed.getD 10 false = true ∧ listed.getD 11 false = true ∧ listed.getD 12 false = true) : MADE code inp n1 n3 M en r56 r57 r59 r61 r62 r64 a X a' w' := by
  obtain ⟨_, _, b, c0, c2, v55, v58, v60, v63, v65, v66, v8, hN, hV, rfl⟩ := h
  obtain ⟨l0, l3, l5, l8, l10, l11, l12⟩ := hl
  have lv : ∀ p, p < 4 → lvN (fun q => listed.getD q false) p = true := by
    intro p hp
    have : p = 0 ∨ p = 1 ∨ p = 2 ∨ p = 3 := by omega
    rcases this with rfl | rfl | rfl | rfl
    · exact l0
    · exact l5
    · exact l8
    · exact l12
  refine ⟨b, c0, c2, v55, v63, hN.live.below, fun p hp => hN.live.rng p (lv p hp), fun p q hp hq => hN.live.inj p q (lv p hp) (lv q hq), hN.r3 l3, hN.r5 l5, hN.r10 l10, hN.r12 l12, ?_⟩
  rw [hV.v3 l3, hV.v5 l5, hV.v10 l10, hV.v11 l11, hV.v12 l12]
theorem ZS_one : ZS.all (·.oneCell') = true := by simp [ZS, Value.oneCell']
theorem size36 : (Try.prog.info? 36).map (·.size) = some 25 := by kernel_rfl
theorem results_cell_tmp {fn : Func} {tc u : Tmp} {t : TypeId} (h : fn.results = #[.cell tc t, .tmp u]) (tmps : Array Value) (P : Program) (w : World) (g : Nat) (v : Value) (hg : tmps.getD tc undef = .pointer (some ⟨g, 0, none⟩)) (hl : (loadVar t ⟨g, 0, none⟩).run P w = .ok v w) :
    (results fn tmps).run P w = .ok (.tuple #[v, tmps.getD u undef]) w := by
  have hg' : tmps[tc]?.getD undef = .pointer (some ⟨g, 0, none⟩) := by simpa [Array.getD_eq_getD_getElem?] using hg
  simp [results, h, hg', asAddr, hl]
theorem inv_mk {code inp : List Int} {n1 n3 M : Nat} {en : Int} {r56 r57 r59 r61 r62 r64 : Value} {a : Act} {X : World} {listed : Array Bool} {a2 : Act} {w2 : World} {i : Nat} {b : Nat → Nat} {c0 c2 : Nat} {v55 v58 v60 v63 v65 v66 v8 : Value} (hsz : listed.size = 14)
    (hq : listed.getD 1 false = true ∧ listed.getD 2 false = true ∧ listed.getD 4 false = true ∧ listed.getD 6 false = true ∧ listed.getD 7 false = true ∧ listed.getD 9 false = true) (hi : i < 14)
    (hN : NI X code inp n1 n3 M ZS w2 (at1 (fun q => listed.getD q false) i true) b c0 c2) (hV : NV (at1 (fun q => listed.getD q false) i true) b n1 n3 M c0 c2 en v55 v58 v60 v63 v65 v66 v8) (ha : a2 = actN a r56 r57 r59 r61 r62 r64 v55 v58 v60 v63 v65 v66 v8) :
    INV code inp n1 n3 M en r56 r57 r59 r61 r62 r64 a X (listed.setIfInBounds i true) a2 w2 := by
  have hf := getD_set_fun (listed := listed) (i := i) (by omega)
  have q : ∀ j, listed.getD j false = true → (listed.setIfInBounds i true).getD j false = true := fun j hj => by
    refine (congrFun hf j).trans ?_
    unfold at1
    split
    · rfl
    · exact hj
  exact ⟨by simpa using hsz, ⟨q 1 hq.1, q 2 hq.2.1, q 4 hq.2.2.1, q 6 hq.2.2.2.1, q 7 hq.2.2.2.2.1, q 9 hq.2.2.2.2.2⟩, b, c0, c2, v55, v58, v60, v63, v65, v66, v8, by rw [hf]; exact hN, by rw [hf]; exact hV, ha⟩
theorem NI.init (code inp : List Int) (n1 n3 M : Nat) (X : World) (l : Nat → Bool) (b : Nat → Nat) (c0 c2 : Nat) (h : l 0 = false ∧ l 3 = false ∧ l 5 = false ∧ l 8 = false ∧ l 10 = false ∧ l 12 = false) : NI X code inp n1 n3 M ZS X l b c0 c2 := by
  obtain ⟨h0, h3, h5, h8, h10, h12⟩ := h
  have lv : ∀ p, lvN l p = false := by
    intro p
    unfold lvN
    rw [h0, h5, h8, h12]
    (repeat' split) <;> rfl
  have no : ∀ {x : Bool} {R : Prop}, x = false → x = true → R := fun hx hy => by rw [hx] at hy; cases hy
  exact ⟨⟨Below.refl _ _, fun p hp => no (lv p) hp, fun p q hp => no (lv p) hp⟩, no h0, no h3, no h3, no h5, no h8, no h10, no h10, no h12⟩
theorem NV.init (l : Nat → Bool) (b : Nat → Nat) (n1 n3 M c0 c2 : Nat) (en : Int) (v55 v58 v60 v63 v65 v66 v8 : Value) (h : l 0 = false ∧ l 3 = false ∧ l 5 = false ∧ l 8 = false ∧ l 10 = false ∧ l 11 = false ∧ l 12 = false) : NV l b n1 n3 M c0 c2 en v55 v58 v60 v63 v65 v66 v8 := by
  obtain ⟨h0, h3, h5, h8, h10, h11, h12⟩ := h
  constructor <;> simp_all
/-- So many words of data are laid into memory. -/
structure NR (w3 wr : World) (bm : Nat) (data : List Int) (M k : Nat) : Prop where
  os : wr.os = w3.os
  tape : wr.tape = w3.tape
  output : wr.output = w3.output
  size : wr.heap.size = w3.heap.size
  block : ∀ b, b ≠ bm → wr.heap[b]? = w3.heap[b]?
  row : ∀ j, j < M → wr.cell? ⟨bm, j, none⟩ = some (.int .i64 (if j < k then data.getD j 0 else 0))
  free : ∀ o, wr.frozen? ⟨bm, o, none⟩ = false
theorem NR.step {w3 wr : World} {bm : Nat} {data : List Int} {M k : Nat} (h : NR w3 wr bm data M k) (hk : k < M) : NR w3 (wr.drew.setCell ⟨bm, k, none⟩ (.int .i64 (data.getD k 0))) bm data M (k + 1) := by
  refine ⟨h.os, h.tape, h.output, by simpa [World.setCell] using h.size, fun b hb => (Below.heap_setCell _ _ _ _ hb).trans (h.block b hb), fun j hj => ?_, fun o => by rw [World.frozen?_setCell]; exact h.free o⟩
  by_cases e : j = k
  · subst e
    rw [World.cell?_setCell_same _ _ _ (show wr.drew.cell? ⟨bm, j, none⟩ = _ from h.row j hj), if_pos (by omega)]
  · rw [World.cell?_setCell_other _ _ _ _ (fun e' => e (by injection e' with _ e' _; exact e'.symm))]
    refine (h.row j hj).trans ?_
    by_cases e2 : j < k
    · rw [if_pos e2, if_pos (by omega)]
    · rw [if_neg e2, if_neg (by omega)]
theorem NR.same {w3 wr wr' : World} {bm : Nat} {data : List Int} {M k : Nat} (h : NR w3 wr bm data M k) (e : wr' = wr) : NR w3 wr' bm data M k := e ▸ h
theorem cells_in {w2 : World} {bo : Nat} (h : w2.heap[bo]? = some (.cells ZS 36)) (vs : List Value) (hl : vs.length = 25) (k : Nat) (v : Value) (hv : vs[k]? = some v) : (w2.setCells bo 0 vs).cell? ⟨bo, k, none⟩ = some v := by
  have hk : k < vs.length := (List.getElem?_eq_some_iff.1 hv).1
  have hin := World.cell?_setCells_in bo vs 0 w2 (fun j hj => by
    have : j < ZS.size := by show j < 25; omega
    simp only [World.cell?, h]
    simp [this]) k hk
  rw [Nat.zero_add] at hin
  rw [hin]
  exact congrArg some (List.getElem?_eq_some_iff.1 hv).2
/-- A row that was written over. -/
structure RowSet (w : World) (g : Nat) (cells : Array Value) (t : TypeId) (w3 : World) : Prop where
  os : w3.os = w.os
  tape : w3.tape = w.tape
  output : w3.output = w.output
  size : w3.heap.size = w.heap.size
  here : w3.heap[g]? = some (.cells cells t)
  block : ∀ k, k ≠ g → w3.heap[k]? = w.heap[k]?
theorem RowSet.of {w : World} {g : Nat} {old : Array Value} {t : TypeId} (h : w.heap[g]? = some (.cells old t)) (cells : Array Value) : RowSet w g cells t (w.setRow g cells) :=
  ⟨rfl, rfl, rfl, by simp [World.setRow], setRow_heap w g old cells t _ h, fun k hk => setRow_other w g k cells hk⟩
theorem RowSet.below {w w3 : World} {g : Nat} {cells : Array Value} {t : TypeId} (h : RowSet w g cells t w3) {B : Nat} (hB : B ≤ g) : Below B w w3 :=
  ⟨h.os, h.tape, h.output, Nat.le_of_eq h.size.symm, fun k hk => h.block k (by omega)⟩
theorem NR.below {w3 wr : World} {bm : Nat} {data : List Int} {M k : Nat} (h : NR w3 wr bm data M k) {B : Nat} (hB : B ≤ bm) : Below B w3 wr :=
  ⟨h.os, h.tape, h.output, Nat.le_of_eq h.size.symm, fun b hb => h.block b (by omega)⟩
theorem wpList_store_over {P : Program} {ops : Array Oper} {rest : List Oper} {o : Oper} {a : Act} {w : World} {Q : Exit → Act → World → Prop} (hgd : o.guard = none) (ty : TypeId) (x y : Operand) (ho : o.op = .store ty x y)
    (g : Nat) (cells : Array Value) (hx : a.eval x = .pointer (some ⟨g, 0, none⟩)) (hy : a.eval y = .agg cells) (t : TypeId) (old : Array Value) (hg : w.heap[g]? = some (.cells old t)) (hi : (P.info? ty).map (·.size) = some cells.size)
    (hold : old.size = cells.size) (h1 : cells.all (·.oneCell') = true) (h : ∀ w3, RowSet w g cells t w3 → wpList P ops Q rest (a.put o.dst undef) w3) : wpList P ops Q (o :: rest) a w :=
  wpList_store_row hgd ty x y ho g cells hx hy t old hg hi hold h1 (h _ (RowSet.of hg cells))
theorem VS_one (cb n1 cc mb M : Nat) (en : Int) (ib n3 ic : Nat) (r : Int) : (VS cb n1 cc mb M en ib n3 ic (.int .i64 r)).all (·.oneCell') = true := by simp [VS, Value.oneCell']
theorem RowSet.cell {w w3 : World} {g : Nat} {cells : Array Value} {t : TypeId} (h : RowSet w g cells t w3) {k : Nat} {v : Value} (hv : cells[k]? = some v) : w3.cell? ⟨g, k, none⟩ = some v := by
  simp only [World.cell?, h.here]
  exact hv
theorem heap_setCell_same {w : World} {b o : Nat} {cs : Array Value} {t : TypeId} (h : w.heap[b]? = some (.cells cs t)) (v : Value) : (w.setCell ⟨b, o, none⟩ v).heap[b]? = some (.cells (cs.setIfInBounds o v) t) := by
  simp [World.setCell, Array.getElem?_modify, h]
/-- What New makes where nothing is wrong. -/
def RNewOk (w : World) (code data inp : List Int) (n1 n3 M : Nat) (en : Int) (e : Ending) (w' : World) : Prop :=
  ∃ cb cc mb ib ic, e = .returned (.tuple #[.agg (VS cb n1 cc mb M en ib n3 ic (.int .i64 (M : Int))), .int .i64 0]) ∧ Below w.heap.size w w' ∧
    w'.ownsRow w.heap.size 2 1 (.slice (some ⟨cb, 0, none⟩) n1 cc) n1 (nums .i64 code) ∧ w'.ownsRow w.heap.size 5 1 (.slice (some ⟨ib, 0, none⟩) n3 ic) n3 (nums .u8 inp) ∧
    (∀ j, j < M → w'.cell? ⟨mb, j, none⟩ = some (.int .i64 ((data ++ List.replicate (M - data.length) 0).getD j 0))) ∧ (∀ o, w'.frozen? ⟨mb, o, none⟩ = false) ∧ w.heap.size ≤ mb ∧ mb < w'.heap.size ∧ cb ≠ mb ∧ ib ≠ mb
end Go.Proofs.Ytbchiolgbhckhaa.Mach

/- What a word of the machine is as an instruction. -/
import Derived.Test.YtnbgbmddkbneeaaB1
import Derived.Great.Walk
import Derived.Deep.WholeRow
import Derived.Deep.CutBlock
import Derived.Deep.DeepCutAuto
section
/- What isa.of hands back: of each op its registers and whether it has a number. -/
set_option linter.unusedVariables false
set_option linter.unusedSimpArgs false
namespace Go.Proofs.Ytnbgbmddkbneeaa.Obj
open Go.RowKit Go.Proofs.YtnbgbmddkbneeaaW.PrintWords

/-- A variable is made and a whole row stored into it at once. -/
theorem wpList_alloc_store {P : Program} {ops : Array Oper} {rest : List Oper} {o1 o2 : Oper} {a : Act} {w : World} {Q : Exit → Act → World → Prop} (hg1 : o1.guard = none) (hg2 : o2.guard = none) (t : TypeId) (d : Nat) (y : Operand)
    (h1 : o1.op = .alloc t) (hd1 : o1.dst = some d) (h2 : o2.op = .store t (.tmp d) y) (hd2 : o2.dst = none) (cells : Array Value) (hsz : d < a.tmps.size)
    (hz : (P.info? t).map (fun i => (i.zero.map (·.cells.size), i.size)) = some (some cells.size, cells.size)) (hone : cells.all (·.oneCell') = true)
    (hy : ∀ v, (a.put (some d) v).eval y = .agg cells)
    (h : wpList P ops Q rest (a.put (some d) (.pointer (some ⟨w.heap.size, 0, none⟩))) (w.alloc (.cells cells t))) : wpList P ops Q (o1 :: o2 :: rest) a w := by
  cases hq : P.info? t with
  | none => simp [hq] at hz
  | some i =>
    simp only [hq, Option.map_some, Option.some.injEq, Prod.mk.injEq] at hz
    obtain ⟨hz1, hz2⟩ := hz
    cases hzz : i.zero with
    | none => simp [hzz] at hz1
    | some z =>
      simp only [hzz, Option.map_some, Option.some.injEq] at hz1
      refine wpList_plain hg1 fun K hK => ?_
      unfold Oper.wp execOp
      have hal : (Instr.alloc t true (.tuple #[])).run P w = .ok (.pointer (some ⟨w.heap.size, 0, none⟩)) (w.alloc (.cells z.cells t)) := by
        simp [Instr.alloc, zeroValue, typeInfo, hq, hzz, newVar, newRow]
      simp only [h1, Sem.run_bind, hal, Result.andThen_ok]
      simp only [Sem.run_pure, Oper.upon_value, hd1]
      refine hK _ _ ?_
      have hx : (a.put (some d) (.pointer (some ⟨w.heap.size, 0, none⟩))).eval (.tmp d) = .pointer (some ⟨w.heap.size, 0, none⟩) := by
        simp [Act.put, Act.eval, hsz]
      refine wpList_store_row hg2 t (.tmp d) y h2 w.heap.size cells hx (hy _) t z.cells (heap_alloc_last w _) (by simp [hq, hz2]) hz1 hone ?_
      rw [World.setRow_alloc_new, hd2]
      exact h

/-- The operations of a list that build values alone, run one behind the other. -/
def buildsTo (P : Program) : List Oper → Act → Option Act
  | [], a => some a
  | o :: l, a =>
    match o.op, o.guard with
    | .build t parts, Option.none => match P.built t (parts.map fun (i, x) => (i, a.eval x)).toList with
      | some cells => buildsTo P l (a.put o.dst (.agg cells))
      | Option.none => Option.none
    | _, _ => Option.none
theorem wpList_builds {P : Program} {ops : Array Oper} {w : World} {Q : Exit → Act → World → Prop} {l2 : List Oper} : ∀ (l1 : List Oper) (a a' : Act), buildsTo P l1 a = some a' → wpList P ops Q l2 a' w → wpList P ops Q (l1 ++ l2) a w
  | [], a, a', h, hk => by
    simp only [buildsTo, Option.some.injEq] at h
    subst h
    exact hk
  | o :: l, a, a', h, hk => by
    unfold buildsTo at h
    split at h
    · rename_i t parts ho hg
      split at h
      · rename_i cells hc
        exact wpList_buildTo hg t parts ho o.dst rfl cells hc (wpList_builds l _ a' h hk)
      · cases h
    · cases h
/-- A frame: a slot's value, whatever else it holds. -/
theorem wpList_builds_at {P : Program} {ops : Array Oper} {w : World} {Q : Exit → Act → World → Prop} {l1 l2 : List Oper} {a : Act} (n d : Nat) (v : Value)
    (h : (buildsTo P l1 a).map (fun a' => (a'.tmps.size, a'.tmps.getD d undef, a'.defers)) = some (n, v, [])) 
    (hk : ∀ a' : Act, a'.tmps.size = n → a'.tmps.getD d undef = v → a'.defers = [] → wpList P ops Q l2 a' w) : wpList P ops Q (l1 ++ l2) a w := by
  cases hb : buildsTo P l1 a with
  | none => simp [hb] at h
  | some a' =>
    simp only [hb, Option.map_some, Option.some.injEq, Prod.mk.injEq] at h
    exact wpList_builds l1 a a' hb (hk a' h.1 h.2.1 h.2.2)

theorem wpList_builds_n {P : Program} {ops : Array Oper} {w : World} {Q : Exit → Act → World → Prop} {l : List Oper} {a : Act} (n : Nat) (a' : Act) (h : buildsTo P (l.take n) a = some a') (hk : wpList P ops Q (l.drop n) a' w) : wpList P ops Q l a w := by
  rw [← List.take_append_drop n l]
  exact wpList_builds _ a a' h hk

def plainCells : Array Value := #[.string ⟨#[104, 97, 108, 116]⟩, .int .i64 0, .bool false, .string ⟨#[116, 114, 97, 112]⟩, .int .i64 0, .bool true, .string ⟨#[109, 111, 118, 101]⟩, .int .i64 3, .bool false, .string ⟨#[99, 111, 110, 115, 116]⟩, .int .i64 1, .bool true, .string ⟨#[104, 105, 103, 104]⟩, .int .i64 1, .bool true, .string ⟨#[108, 111, 97, 100]⟩, .int .i64 3, .bool true, .string ⟨#[115, 116, 111, 114, 101]⟩, .int .i64 3, .bool true, .string ⟨#[106, 117, 109, 112]⟩, .int .i64 0, .bool true, .string ⟨#[122, 101, 114, 111]⟩, .int .i64 1, .bool true, .string ⟨#[115, 111, 109, 101]⟩, .int .i64 1, .bool true, .string ⟨#[99, 97, 108, 108]⟩, .int .i64 0, .bool true, .string ⟨#[97, 116]⟩, .int .i64 1, .bool false, .string ⟨#[114, 101, 116]⟩, .int .i64 0, .bool false, .string ⟨#[105, 110]⟩, .int .i64 1, .bool false, .string ⟨#[111, 117, 116]⟩, .int .i64 1, .bool false, .string ⟨#[114, 111, 111, 109]⟩, .int .i64 1, .bool false]
def twoCells : Array Value := #[.string ⟨#[97, 100, 100]⟩, .string ⟨#[115, 117, 98]⟩, .string ⟨#[109, 117, 108]⟩, .string ⟨#[100, 105, 118]⟩, .string ⟨#[114, 101, 109]⟩, .string ⟨#[97, 110, 100]⟩, .string ⟨#[111, 114]⟩, .string ⟨#[120, 111, 114]⟩, .string ⟨#[115, 104, 108]⟩, .string ⟨#[115, 104, 114]⟩, .string ⟨#[101, 113]⟩, .string ⟨#[110, 101]⟩, .string ⟨#[108, 116]⟩, .string ⟨#[108, 101]⟩, .string ⟨#[103, 116]⟩, .string ⟨#[103, 101]⟩]
def oneCells : Array Value := #[.string ⟨#[110, 101, 103]⟩, .string ⟨#[102, 108, 105, 112]⟩, .string ⟨#[98, 97, 110, 103]⟩]
/-- What an op has: its registers (1: A, 2: B, 4: C), and whether a number. -/
def usesOf (op : Nat) : Option (Int × Bool) :=
  if op = 0 then some (0, false)
  else if op = 1 then some (0, true)
  else if op = 2 then some (3, false)
  else if op = 3 then some (1, true)
  else if op = 4 then some (1, true)
  else if op = 5 then some (3, true)
  else if op = 6 then some (3, true)
  else if op = 7 then some (0, true)
  else if op = 8 then some (1, true)
  else if op = 9 then some (1, true)
  else if op = 10 then some (0, true)
  else if op = 11 then some (1, false)
  else if op = 12 then some (0, false)
  else if op = 13 then some (1, false)
  else if op = 14 then some (1, false)
  else if op = 15 then some (1, false)
  else if 17 ≤ op ∧ op ≤ 32 then some (7, false)
  else if 41 ≤ op ∧ op ≤ 43 then some (3, false)
  else none

theorem plain_at (k : Nat) (hk : k < 16) : ∃ s r i, plainCells[k * 3]? = some (.string s) ∧ plainCells[k * 3 + 1]? = some (.int .i64 r) ∧ plainCells[k * 3 + 2]? = some (.bool i) ∧ usesOf k = some (r, i) := by
  have h : k = 0 ∨ k = 1 ∨ k = 2 ∨ k = 3 ∨ k = 4 ∨ k = 5 ∨ k = 6 ∨ k = 7 ∨ k = 8 ∨ k = 9 ∨ k = 10 ∨ k = 11 ∨ k = 12 ∨ k = 13 ∨ k = 14 ∨ k = 15 := by omega
  rcases h with rfl | rfl | rfl | rfl | rfl | rfl | rfl | rfl | rfl | rfl | rfl | rfl | rfl | rfl | rfl | rfl <;> exact ⟨_, _, _, rfl, rfl, rfl, rfl⟩
theorem two_at (k : Nat) (hk : k < 16) : ∃ s, twoCells[k]? = some (.string s) := by
  have h : k = 0 ∨ k = 1 ∨ k = 2 ∨ k = 3 ∨ k = 4 ∨ k = 5 ∨ k = 6 ∨ k = 7 ∨ k = 8 ∨ k = 9 ∨ k = 10 ∨ k = 11 ∨ k = 12 ∨ k = 13 ∨ k = 14 ∨ k = 15 := by omega
  rcases h with rfl | rfl | rfl | rfl | rfl | rfl | rfl | rfl | rfl | rfl | rfl | rfl | rfl | rfl | rfl | rfl <;> exact ⟨_, rfl⟩
theorem one_at (k : Nat) (hk : k < 3) : ∃ s, oneCells[k]? = some (.string s) := by
  have h : k = 0 ∨ k = 1 ∨ k = 2 := by omega
  rcases h with rfl | rfl | rfl <;> exact ⟨_, rfl⟩

set_option maxRecDepth 100000 in
set_option maxHeartbeats 1000000 in
theorem of_plain (k : Nat) (hk : k < 16) (w : World) (s : ByteArray) (r : Int) (i : Bool) (h0 : plainCells[k * 3]? = some (.string s)) (h1 : plainCells[k * 3 + 1]? = some (.int .i64 r)) (h2 : plainCells[k * 3 + 2]? = some (.bool i)) :
    Calls Try.prog 75 #[.int .i64 ↑k] w fun e w' => e = .returned (.tuple #[.agg #[.string s, .int .i64 r, .bool i], .bool true]) ∧ Below w.heap.size w w' := by
  have hk0 : (0 : Int) ≤ k := by omega
  have hk1 : (k : Int) < 16 := by omega
  go_enter Try.func75, Try.ntmps75
  go_upto_region 1 with (fail)
  go_cut [4] (fun v wc => v = .pointer (some ⟨w.heap.size + 1, 0, none⟩) ∧ wc = ((w.alloc (.cells #[.string ⟨#[]⟩, .int .i64 0, .bool false] 127)).alloc (.cells plainCells 139)))
  case first =>
    apply wp_region_lit
    refine wpList_builds_n 17 { tmps := #[.int .i64 ↑k, undef, .pointer (some ⟨w.heap.size, 0, none⟩), .bool false, undef, undef, undef, .agg #[.string ⟨#[104, 97, 108, 116]⟩, .int .i64 0, .bool false], .agg #[.string ⟨#[116, 114, 97, 112]⟩, .int .i64 0, .bool true], .agg #[.string ⟨#[109, 111, 118, 101]⟩, .int .i64 3, .bool false], .agg #[.string ⟨#[99, 111, 110, 115, 116]⟩, .int .i64 1, .bool true], .agg #[.string ⟨#[104, 105, 103, 104]⟩, .int .i64 1, .bool true], .agg #[.string ⟨#[108, 111, 97, 100]⟩, .int .i64 3, .bool true], .agg #[.string ⟨#[115, 116, 111, 114, 101]⟩, .int .i64 3, .bool true], .agg #[.string ⟨#[106, 117, 109, 112]⟩, .int .i64 0, .bool true], .agg #[.string ⟨#[122, 101, 114, 111]⟩, .int .i64 1, .bool true], .agg #[.string ⟨#[115, 111, 109, 101]⟩, .int .i64 1, .bool true], .agg #[.string ⟨#[99, 97, 108, 108]⟩, .int .i64 0, .bool true], .agg #[.string ⟨#[97, 116]⟩, .int .i64 1, .bool false], .agg #[.string ⟨#[114, 101, 116]⟩, .int .i64 0, .bool false], .agg #[.string ⟨#[105, 110]⟩, .int .i64 1, .bool false], .agg #[.string ⟨#[111, 117, 116]⟩, .int .i64 1, .bool false], .agg #[.string ⟨#[114, 111, 111, 109]⟩, .int .i64 1, .bool false], .agg plainCells, undef, undef, undef, undef, undef, undef, undef, undef, undef, undef, undef, undef, undef, undef, undef, undef, undef, undef, undef, undef, undef, undef, undef, undef, undef, undef, undef, undef, undef, undef, undef, undef, undef, undef, undef, undef, undef, undef, undef], defers := [] } (by kernel_rfl) ?_
    simp only [List.drop_succ_cons, List.drop_zero]
    refine wpList_alloc_store rfl rfl 139 4 (.tmp 23) rfl rfl rfl rfl plainCells (by simp [Act.put]) (by kernel_rfl) (by kernel_rfl) (fun v => rfl) ?_
    go_wp2
    go_meet
    case rel => exact ⟨by simp, rfl⟩
  obtain ⟨rfl, rfl⟩ := hcut
  go_upto_region 2 with (fail)
  go_cut [5] (fun v wc => v = .pointer (some ⟨w.heap.size + 2, 0, none⟩) ∧ wc = (((w.alloc (.cells #[.string ⟨#[]⟩, .int .i64 0, .bool false] 127)).alloc (.cells plainCells 139)).alloc (.cells twoCells 140)))
  case first =>
    apply wp_region_lit
    refine wpList_buildTo rfl 140 _ rfl (some 24) rfl twoCells (by kernel_rfl) ?_
    refine wpList_alloc_store rfl rfl 140 5 (.tmp 24) rfl rfl rfl rfl twoCells (by simp [Act.put]) (by kernel_rfl) (by kernel_rfl) (fun v => rfl) ?_
    go_wp2
    go_meet
    case rel => exact ⟨by simp, rfl⟩
  obtain ⟨rfl, rfl⟩ := hcut
  go_upto_region 3 with (fail)
  go_cut [6] (fun v wc => v = .pointer (some ⟨w.heap.size + 3, 0, none⟩) ∧ wc = ((((w.alloc (.cells #[.string ⟨#[]⟩, .int .i64 0, .bool false] 127)).alloc (.cells plainCells 139)).alloc (.cells twoCells 140)).alloc (.cells oneCells 141)))
  case first =>
    apply wp_region_lit
    refine wpList_buildTo rfl 141 _ rfl (some 25) rfl oneCells (by kernel_rfl) ?_
    refine wpList_alloc_store rfl rfl 141 6 (.tmp 25) rfl rfl rfl rfl oneCells (by simp [Act.put]) (by kernel_rfl) (by kernel_rfl) (fun v => rfl) ?_
    go_wp2
    go_meet
    case rel => exact ⟨by simp, rfl⟩
  obtain ⟨rfl, rfl⟩ := hcut
  go_wp2
  exact bodyPost_ret (v := .tuple #[.agg #[.string s, .int .i64 r, .bool i], .bool true]) (by simp [results, Try.results75, go_sem]) rfl ⟨rfl, ((((Below.refl _ _).alloc (Nat.le_refl _) _).alloc (by simp) _).alloc (by simp; omega) _).alloc (by simp; omega) _⟩
set_option maxRecDepth 100000 in
set_option maxHeartbeats 1000000 in
theorem of_two (k : Nat) (hk : k < 16) (w : World) (s : ByteArray) (h0 : twoCells[k]? = some (.string s)) :
    Calls Try.prog 75 #[.int .i64 (↑k + 17)] w fun e w' => e = .returned (.tuple #[.agg #[.string s, .int .i64 7, .bool false], .bool true]) ∧ Below w.heap.size w w' := by
  have hk0 : (0 : Int) ≤ k := by omega
  have hk1 : (k : Int) < 16 := by omega
  have g0 : (0 : Int) ≤ (k : Int) + 17 := by omega
  have g1 : ¬ (k : Int) + 17 < 16 := by omega
  have g2 : (17 : Int) ≤ (k : Int) + 17 := by omega
  have g3 : (k : Int) + 17 ≤ 32 := by omega
  have e1 : (k : Int) + 17 - 16 - 1 = k := by omega
  go_enter Try.func75, Try.ntmps75
  go_upto_region 1 with (fail)
  go_cut [4] (fun v wc => v = .pointer (some ⟨w.heap.size + 1, 0, none⟩) ∧ wc = ((w.alloc (.cells #[.string ⟨#[]⟩, .int .i64 0, .bool false] 127)).alloc (.cells plainCells 139)))
  case first =>
    apply wp_region_lit
    refine wpList_builds_n 17 { tmps := #[.int .i64 (↑k + 17), undef, .pointer (some ⟨w.heap.size, 0, none⟩), .bool false, undef, undef, undef, .agg #[.string ⟨#[104, 97, 108, 116]⟩, .int .i64 0, .bool false], .agg #[.string ⟨#[116, 114, 97, 112]⟩, .int .i64 0, .bool true], .agg #[.string ⟨#[109, 111, 118, 101]⟩, .int .i64 3, .bool false], .agg #[.string ⟨#[99, 111, 110, 115, 116]⟩, .int .i64 1, .bool true], .agg #[.string ⟨#[104, 105, 103, 104]⟩, .int .i64 1, .bool true], .agg #[.string ⟨#[108, 111, 97, 100]⟩, .int .i64 3, .bool true], .agg #[.string ⟨#[115, 116, 111, 114, 101]⟩, .int .i64 3, .bool true], .agg #[.string ⟨#[106, 117, 109, 112]⟩, .int .i64 0, .bool true], .agg #[.string ⟨#[122, 101, 114, 111]⟩, .int .i64 1, .bool true], .agg #[.string ⟨#[115, 111, 109, 101]⟩, .int .i64 1, .bool true], .agg #[.string ⟨#[99, 97, 108, 108]⟩, .int .i64 0, .bool true], .agg #[.string ⟨#[97, 116]⟩, .int .i64 1, .bool false], .agg #[.string ⟨#[114, 101, 116]⟩, .int .i64 0, .bool false], .agg #[.string ⟨#[105, 110]⟩, .int .i64 1, .bool false], .agg #[.string ⟨#[111, 117, 116]⟩, .int .i64 1, .bool false], .agg #[.string ⟨#[114, 111, 111, 109]⟩, .int .i64 1, .bool false], .agg plainCells, undef, undef, undef, undef, undef, undef, undef, undef, undef, undef, undef, undef, undef, undef, undef, undef, undef, undef, undef, undef, undef, undef, undef, undef, undef, undef, undef, undef, undef, undef, undef, undef, undef, undef, undef, undef, undef, undef, undef], defers := [] } (by kernel_rfl) ?_
    simp only [List.drop_succ_cons, List.drop_zero]
    refine wpList_alloc_store rfl rfl 139 4 (.tmp 23) rfl rfl rfl rfl plainCells (by simp [Act.put]) (by kernel_rfl) (by kernel_rfl) (fun v => rfl) ?_
    go_wp2
    go_meet
    case rel => exact ⟨by simp, rfl⟩
  obtain ⟨rfl, rfl⟩ := hcut
  go_upto_region 2 with (fail)
  go_cut [5] (fun v wc => v = .pointer (some ⟨w.heap.size + 2, 0, none⟩) ∧ wc = (((w.alloc (.cells #[.string ⟨#[]⟩, .int .i64 0, .bool false] 127)).alloc (.cells plainCells 139)).alloc (.cells twoCells 140)))
  case first =>
    apply wp_region_lit
    refine wpList_buildTo rfl 140 _ rfl (some 24) rfl twoCells (by kernel_rfl) ?_
    refine wpList_alloc_store rfl rfl 140 5 (.tmp 24) rfl rfl rfl rfl twoCells (by simp [Act.put]) (by kernel_rfl) (by kernel_rfl) (fun v => rfl) ?_
    go_wp2
    go_meet
    case rel => exact ⟨by simp, rfl⟩
  obtain ⟨rfl, rfl⟩ := hcut
  go_upto_region 3 with (fail)
  go_cut [6] (fun v wc => v = .pointer (some ⟨w.heap.size + 3, 0, none⟩) ∧ wc = ((((w.alloc (.cells #[.string ⟨#[]⟩, .int .i64 0, .bool false] 127)).alloc (.cells plainCells 139)).alloc (.cells twoCells 140)).alloc (.cells oneCells 141)))
  case first =>
    apply wp_region_lit
    refine wpList_buildTo rfl 141 _ rfl (some 25) rfl oneCells (by kernel_rfl) ?_
    refine wpList_alloc_store rfl rfl 141 6 (.tmp 25) rfl rfl rfl rfl oneCells (by simp [Act.put]) (by kernel_rfl) (by kernel_rfl) (fun v => rfl) ?_
    go_wp2
    go_meet
    case rel => exact ⟨by simp, rfl⟩
  obtain ⟨rfl, rfl⟩ := hcut
  go_wp2
  exact bodyPost_ret (v := .tuple #[.agg #[.string s, .int .i64 7, .bool false], .bool true]) (by simp [results, Try.results75, go_sem]) rfl ⟨rfl, ((((Below.refl _ _).alloc (Nat.le_refl _) _).alloc (by simp) _).alloc (by simp; omega) _).alloc (by simp; omega) _⟩
set_option maxRecDepth 100000 in
set_option maxHeartbeats 1000000 in
theorem of_one (k : Nat) (hk : k < 3) (w : World) (s : ByteArray) (h0 : oneCells[k]? = some (.string s)) :
    Calls Try.prog 75 #[.int .i64 (↑k + 41)] w fun e w' => e = .returned (.tuple #[.agg #[.string s, .int .i64 3, .bool false], .bool true]) ∧ Below w.heap.size w w' := by
  have hk0 : (0 : Int) ≤ k := by omega
  have hk1 : (k : Int) < 3 := by omega
  have g0 : (0 : Int) ≤ (k : Int) + 41 := by omega
  have g1 : ¬ (k : Int) + 41 < 16 := by omega
  have g2 : (17 : Int) ≤ (k : Int) + 41 := by omega
  have g3 : ¬ (k : Int) + 41 ≤ 32 := by omega
  have g4 : (41 : Int) ≤ (k : Int) + 41 := by omega
  have g5 : (k : Int) + 41 ≤ 43 := by omega
  have e1 : (k : Int) + 41 - 40 - 1 = k := by omega
  go_enter Try.func75, Try.ntmps75
  go_upto_region 1 with (fail)
  go_cut [4] (fun v wc => v = .pointer (some ⟨w.heap.size + 1, 0, none⟩) ∧ wc = ((w.alloc (.cells #[.string ⟨#[]⟩, .int .i64 0, .bool false] 127)).alloc (.cells plainCells 139)))
  case first =>
    apply wp_region_lit
    refine wpList_builds_n 17 { tmps := #[.int .i64 (↑k + 41), undef, .pointer (some ⟨w.heap.size, 0, none⟩), .bool false, undef, undef, undef, .agg #[.string ⟨#[104, 97, 108, 116]⟩, .int .i64 0, .bool false], .agg #[.string ⟨#[116, 114, 97, 112]⟩, .int .i64 0, .bool true], .agg #[.string ⟨#[109, 111, 118, 101]⟩, .int .i64 3, .bool false], .agg #[.string ⟨#[99, 111, 110, 115, 116]⟩, .int .i64 1, .bool true], .agg #[.string ⟨#[104, 105, 103, 104]⟩, .int .i64 1, .bool true], .agg #[.string ⟨#[108, 111, 97, 100]⟩, .int .i64 3, .bool true], .agg #[.string ⟨#[115, 116, 111, 114, 101]⟩, .int .i64 3, .bool true], .agg #[.string ⟨#[106, 117, 109, 112]⟩, .int .i64 0, .bool true], .agg #[.string ⟨#[122, 101, 114, 111]⟩, .int .i64 1, .bool true], .agg #[.string ⟨#[115, 111, 109, 101]⟩, .int .i64 1, .bool true], .agg #[.string ⟨#[99, 97, 108, 108]⟩, .int .i64 0, .bool true], .agg #[.string ⟨#[97, 116]⟩, .int .i64 1, .bool false], .agg #[.string ⟨#[114, 101, 116]⟩, .int .i64 0, .bool false], .agg #[.string ⟨#[105, 110]⟩, .int .i64 1, .bool false], .agg #[.string ⟨#[111, 117, 116]⟩, .int .i64 1, .bool false], .agg #[.string ⟨#[114, 111, 111, 109]⟩, .int .i64 1, .bool false], .agg plainCells, undef, undef, undef, undef, undef, undef, undef, undef, undef, undef, undef, undef, undef, undef, undef, undef, undef, undef, undef, undef, undef, undef, undef, undef, undef, undef, undef, undef, undef, undef, undef, undef, undef, undef, undef, undef, undef, undef, undef], defers := [] } (by kernel_rfl) ?_
    simp only [List.drop_succ_cons, List.drop_zero]
    refine wpList_alloc_store rfl rfl 139 4 (.tmp 23) rfl rfl rfl rfl plainCells (by simp [Act.put]) (by kernel_rfl) (by kernel_rfl) (fun v => rfl) ?_
    go_wp2
    go_meet
    case rel => exact ⟨by simp, rfl⟩
  obtain ⟨rfl, rfl⟩ := hcut
  go_upto_region 2 with (fail)
  go_cut [5] (fun v wc => v = .pointer (some ⟨w.heap.size + 2, 0, none⟩) ∧ wc = (((w.alloc (.cells #[.string ⟨#[]⟩, .int .i64 0, .bool false] 127)).alloc (.cells plainCells 139)).alloc (.cells twoCells 140)))
  case first =>
    apply wp_region_lit
    refine wpList_buildTo rfl 140 _ rfl (some 24) rfl twoCells (by kernel_rfl) ?_
    refine wpList_alloc_store rfl rfl 140 5 (.tmp 24) rfl rfl rfl rfl twoCells (by simp [Act.put]) (by kernel_rfl) (by kernel_rfl) (fun v => rfl) ?_
    go_wp2
    go_meet
    case rel => exact ⟨by simp, rfl⟩
  obtain ⟨rfl, rfl⟩ := hcut
  go_upto_region 3 with (fail)
  go_cut [6] (fun v wc => v = .pointer (some ⟨w.heap.size + 3, 0, none⟩) ∧ wc = ((((w.alloc (.cells #[.string ⟨#[]⟩, .int .i64 0, .bool false] 127)).alloc (.cells plainCells 139)).alloc (.cells twoCells 140)).alloc (.cells oneCells 141)))
  case first =>
    apply wp_region_lit
    refine wpList_buildTo rfl 141 _ rfl (some 25) rfl oneCells (by kernel_rfl) ?_
    refine wpList_alloc_store rfl rfl 141 6 (.tmp 25) rfl rfl rfl rfl oneCells (by simp [Act.put]) (by kernel_rfl) (by kernel_rfl) (fun v => rfl) ?_
    go_wp2
    go_meet
    case rel => exact ⟨by simp, rfl⟩
  obtain ⟨rfl, rfl⟩ := hcut
  go_wp2
  exact bodyPost_ret (v := .tuple #[.agg #[.string s, .int .i64 3, .bool false], .bool true]) (by simp [results, Try.results75, go_sem]) rfl ⟨rfl, ((((Below.refl _ _).alloc (Nat.le_refl _) _).alloc (by simp) _).alloc (by simp; omega) _).alloc (by simp; omega) _⟩
set_option maxRecDepth 100000 in
set_option maxHeartbeats 1000000 in
theorem of_low (n : Int) (h : n < 0) (w : World) :
    Calls Try.prog 75 #[.int .i64 n] w fun e w' => e = .returned (.tuple #[.agg #[.string ⟨#[]⟩, .int .i64 0, .bool false], .bool false]) ∧ Below w.heap.size w w' := by
  go_enter Try.func75, Try.ntmps75
  go_upto_region 1 with (fail)
  go_cut [4] (fun v wc => v = .pointer (some ⟨w.heap.size + 1, 0, none⟩) ∧ wc = ((w.alloc (.cells #[.string ⟨#[]⟩, .int .i64 0, .bool false] 127)).alloc (.cells plainCells 139)))
  case first =>
    apply wp_region_lit
    refine wpList_builds_n 17 { tmps := #[.int .i64 n, undef, .pointer (some ⟨w.heap.size, 0, none⟩), .bool false, undef, undef, undef, .agg #[.string ⟨#[104, 97, 108, 116]⟩, .int .i64 0, .bool false], .agg #[.string ⟨#[116, 114, 97, 112]⟩, .int .i64 0, .bool true], .agg #[.string ⟨#[109, 111, 118, 101]⟩, .int .i64 3, .bool false], .agg #[.string ⟨#[99, 111, 110, 115, 116]⟩, .int .i64 1, .bool true], .agg #[.string ⟨#[104, 105, 103, 104]⟩, .int .i64 1, .bool true], .agg #[.string ⟨#[108, 111, 97, 100]⟩, .int .i64 3, .bool true], .agg #[.string ⟨#[115, 116, 111, 114, 101]⟩, .int .i64 3, .bool true], .agg #[.string ⟨#[106, 117, 109, 112]⟩, .int .i64 0, .bool true], .agg #[.string ⟨#[122, 101, 114, 111]⟩, .int .i64 1, .bool true], .agg #[.string ⟨#[115, 111, 109, 101]⟩, .int .i64 1, .bool true], .agg #[.string ⟨#[99, 97, 108, 108]⟩, .int .i64 0, .bool true], .agg #[.string ⟨#[97, 116]⟩, .int .i64 1, .bool false], .agg #[.string ⟨#[114, 101, 116]⟩, .int .i64 0, .bool false], .agg #[.string ⟨#[105, 110]⟩, .int .i64 1, .bool false], .agg #[.string ⟨#[111, 117, 116]⟩, .int .i64 1, .bool false], .agg #[.string ⟨#[114, 111, 111, 109]⟩, .int .i64 1, .bool false], .agg plainCells, undef, undef, undef, undef, undef, undef, undef, undef, undef, undef, undef, undef, undef, undef, undef, undef, undef, undef, undef, undef, undef, undef, undef, undef, undef, undef, undef, undef, undef, undef, undef, undef, undef, undef, undef, undef, undef, undef, undef], defers := [] } (by kernel_rfl) ?_
    simp only [List.drop_succ_cons, List.drop_zero]
    refine wpList_alloc_store rfl rfl 139 4 (.tmp 23) rfl rfl rfl rfl plainCells (by simp [Act.put]) (by kernel_rfl) (by kernel_rfl) (fun v => rfl) ?_
    go_wp2
    go_meet
    case rel => exact ⟨by simp, rfl⟩
  obtain ⟨rfl, rfl⟩ := hcut
  go_upto_region 2 with (fail)
  go_cut [5] (fun v wc => v = .pointer (some ⟨w.heap.size + 2, 0, none⟩) ∧ wc = (((w.alloc (.cells #[.string ⟨#[]⟩, .int .i64 0, .bool false] 127)).alloc (.cells plainCells 139)).alloc (.cells twoCells 140)))
  case first =>
    apply wp_region_lit
    refine wpList_buildTo rfl 140 _ rfl (some 24) rfl twoCells (by kernel_rfl) ?_
    refine wpList_alloc_store rfl rfl 140 5 (.tmp 24) rfl rfl rfl rfl twoCells (by simp [Act.put]) (by kernel_rfl) (by kernel_rfl) (fun v => rfl) ?_
    go_wp2
    go_meet
    case rel => exact ⟨by simp, rfl⟩
  obtain ⟨rfl, rfl⟩ := hcut
  go_upto_region 3 with (fail)
  go_cut [6] (fun v wc => v = .pointer (some ⟨w.heap.size + 3, 0, none⟩) ∧ wc = ((((w.alloc (.cells #[.string ⟨#[]⟩, .int .i64 0, .bool false] 127)).alloc (.cells plainCells 139)).alloc (.cells twoCells 140)).alloc (.cells oneCells 141)))
  case first =>
    apply wp_region_lit
    refine wpList_buildTo rfl 141 _ rfl (some 25) rfl oneCells (by kernel_rfl) ?_
    refine wpList_alloc_store rfl rfl 141 6 (.tmp 25) rfl rfl rfl rfl oneCells (by simp [Act.put]) (by kernel_rfl) (by kernel_rfl) (fun v => rfl) ?_
    go_wp2
    go_meet
    case rel => exact ⟨by simp, rfl⟩
  obtain ⟨rfl, rfl⟩ := hcut
  go_wp2
  exact bodyPost_ret (v := .tuple #[.agg #[.string ⟨#[]⟩, .int .i64 0, .bool false], .bool false]) (by simp [results, Try.results75, go_sem]) rfl ⟨rfl, ((((Below.refl _ _).alloc (Nat.le_refl _) _).alloc (by simp) _).alloc (by simp; omega) _).alloc (by simp; omega) _⟩
set_option maxRecDepth 100000 in
set_option maxHeartbeats 1000000 in
theorem of_16 (w : World) :
    Calls Try.prog 75 #[.int .i64 16] w fun e w' => e = .returned (.tuple #[.agg #[.string ⟨#[]⟩, .int .i64 0, .bool false], .bool false]) ∧ Below w.heap.size w w' := by
  go_enter Try.func75, Try.ntmps75
  go_upto_region 1 with (fail)
  go_cut [4] (fun v wc => v = .pointer (some ⟨w.heap.size + 1, 0, none⟩) ∧ wc = ((w.alloc (.cells #[.string ⟨#[]⟩, .int .i64 0, .bool false] 127)).alloc (.cells plainCells 139)))
  case first =>
    apply wp_region_lit
    refine wpList_builds_n 17 { tmps := #[.int .i64 16, undef, .pointer (some ⟨w.heap.size, 0, none⟩), .bool false, undef, undef, undef, .agg #[.string ⟨#[104, 97, 108, 116]⟩, .int .i64 0, .bool false], .agg #[.string ⟨#[116, 114, 97, 112]⟩, .int .i64 0, .bool true], .agg #[.string ⟨#[109, 111, 118, 101]⟩, .int .i64 3, .bool false], .agg #[.string ⟨#[99, 111, 110, 115, 116]⟩, .int .i64 1, .bool true], .agg #[.string ⟨#[104, 105, 103, 104]⟩, .int .i64 1, .bool true], .agg #[.string ⟨#[108, 111, 97, 100]⟩, .int .i64 3, .bool true], .agg #[.string ⟨#[115, 116, 111, 114, 101]⟩, .int .i64 3, .bool true], .agg #[.string ⟨#[106, 117, 109, 112]⟩, .int .i64 0, .bool true], .agg #[.string ⟨#[122, 101, 114, 111]⟩, .int .i64 1, .bool true], .agg #[.string ⟨#[115, 111, 109, 101]⟩, .int .i64 1, .bool true], .agg #[.string ⟨#[99, 97, 108, 108]⟩, .int .i64 0, .bool true], .agg #[.string ⟨#[97, 116]⟩, .int .i64 1, .bool false], .agg #[.string ⟨#[114, 101, 116]⟩, .int .i64 0, .bool false], .agg #[.string ⟨#[105, 110]⟩, .int .i64 1, .bool false], .agg #[.string ⟨#[111, 117, 116]⟩, .int .i64 1, .bool false], .agg #[.string ⟨#[114, 111, 111, 109]⟩, .int .i64 1, .bool false], .agg plainCells, undef, undef, undef, undef, undef, undef, undef, undef, undef, undef, undef, undef, undef, undef, undef, undef, undef, undef, undef, undef, undef, undef, undef, undef, undef, undef, undef, undef, undef, undef, undef, undef, undef, undef, undef, undef, undef, undef, undef], defers := [] } (by kernel_rfl) ?_
    simp only [List.drop_succ_cons, List.drop_zero]
    refine wpList_alloc_store rfl rfl 139 4 (.tmp 23) rfl rfl rfl rfl plainCells (by simp [Act.put]) (by kernel_rfl) (by kernel_rfl) (fun v => rfl) ?_
    go_wp2
    go_meet
    case rel => exact ⟨by simp, rfl⟩
  obtain ⟨rfl, rfl⟩ := hcut
  go_upto_region 2 with (fail)
  go_cut [5] (fun v wc => v = .pointer (some ⟨w.heap.size + 2, 0, none⟩) ∧ wc = (((w.alloc (.cells #[.string ⟨#[]⟩, .int .i64 0, .bool false] 127)).alloc (.cells plainCells 139)).alloc (.cells twoCells 140)))
  case first =>
    apply wp_region_lit
    refine wpList_buildTo rfl 140 _ rfl (some 24) rfl twoCells (by kernel_rfl) ?_
    refine wpList_alloc_store rfl rfl 140 5 (.tmp 24) rfl rfl rfl rfl twoCells (by simp [Act.put]) (by kernel_rfl) (by kernel_rfl) (fun v => rfl) ?_
    go_wp2
    go_meet
    case rel => exact ⟨by simp, rfl⟩
  obtain ⟨rfl, rfl⟩ := hcut
  go_upto_region 3 with (fail)
  go_cut [6] (fun v wc => v = .pointer (some ⟨w.heap.size + 3, 0, none⟩) ∧ wc = ((((w.alloc (.cells #[.string ⟨#[]⟩, .int .i64 0, .bool false] 127)).alloc (.cells plainCells 139)).alloc (.cells twoCells 140)).alloc (.cells oneCells 141)))
  case first =>
    apply wp_region_lit
    refine wpList_buildTo rfl 141 _ rfl (some 25) rfl oneCells (by kernel_rfl) ?_
    refine wpList_alloc_store rfl rfl 141 6 (.tmp 25) rfl rfl rfl rfl oneCells (by simp [Act.put]) (by kernel_rfl) (by kernel_rfl) (fun v => rfl) ?_
    go_wp2
    go_meet
    case rel => exact ⟨by simp, rfl⟩
  obtain ⟨rfl, rfl⟩ := hcut
  go_wp2
  exact bodyPost_ret (v := .tuple #[.agg #[.string ⟨#[]⟩, .int .i64 0, .bool false], .bool false]) (by simp [results, Try.results75, go_sem]) rfl ⟨rfl, ((((Below.refl _ _).alloc (Nat.le_refl _) _).alloc (by simp) _).alloc (by simp; omega) _).alloc (by simp; omega) _⟩
set_option maxRecDepth 100000 in
set_option maxHeartbeats 1000000 in
theorem of_mid (n : Int) (h : 33 ≤ n) (h' : n ≤ 40) (w : World) :
    Calls Try.prog 75 #[.int .i64 n] w fun e w' => e = .returned (.tuple #[.agg #[.string ⟨#[]⟩, .int .i64 0, .bool false], .bool false]) ∧ Below w.heap.size w w' := by
  have g0 : (0 : Int) ≤ n := by omega
  have g1 : ¬ n < 16 := by omega
  have g2 : (17 : Int) ≤ n := by omega
  have g3 : ¬ n ≤ 32 := by omega
  have g4 : ¬ (41 : Int) ≤ n := by omega
  go_enter Try.func75, Try.ntmps75
  go_upto_region 1 with (fail)
  go_cut [4] (fun v wc => v = .pointer (some ⟨w.heap.size + 1, 0, none⟩) ∧ wc = ((w.alloc (.cells #[.string ⟨#[]⟩, .int .i64 0, .bool false] 127)).alloc (.cells plainCells 139)))
  case first =>
    apply wp_region_lit
    refine wpList_builds_n 17 { tmps := #[.int .i64 n, undef, .pointer (some ⟨w.heap.size, 0, none⟩), .bool false, undef, undef, undef, .agg #[.string ⟨#[104, 97, 108, 116]⟩, .int .i64 0, .bool false], .agg #[.string ⟨#[116, 114, 97, 112]⟩, .int .i64 0, .bool true], .agg #[.string ⟨#[109, 111, 118, 101]⟩, .int .i64 3, .bool false], .agg #[.string ⟨#[99, 111, 110, 115, 116]⟩, .int .i64 1, .bool true], .agg #[.string ⟨#[104, 105, 103, 104]⟩, .int .i64 1, .bool true], .agg #[.string ⟨#[108, 111, 97, 100]⟩, .int .i64 3, .bool true], .agg #[.string ⟨#[115, 116, 111, 114, 101]⟩, .int .i64 3, .bool true], .agg #[.string ⟨#[106, 117, 109, 112]⟩, .int .i64 0, .bool true], .agg #[.string ⟨#[122, 101, 114, 111]⟩, .int .i64 1, .bool true], .agg #[.string ⟨#[115, 111, 109, 101]⟩, .int .i64 1, .bool true], .agg #[.string ⟨#[99, 97, 108, 108]⟩, .int .i64 0, .bool true], .agg #[.string ⟨#[97, 116]⟩, .int .i64 1, .bool false], .agg #[.string ⟨#[114, 101, 116]⟩, .int .i64 0, .bool false], .agg #[.string ⟨#[105, 110]⟩, .int .i64 1, .bool false], .agg #[.string ⟨#[111, 117, 116]⟩, .int .i64 1, .bool false], .agg #[.string ⟨#[114, 111, 111, 109]⟩, .int .i64 1, .bool false], .agg plainCells, undef, undef, undef, undef, undef, undef, undef, undef, undef, undef, undef, undef, undef, undef, undef, undef, undef, undef, undef, undef, undef, undef, undef, undef, undef, undef, undef, undef, undef, undef, undef, undef, undef, undef, undef, undef, undef, undef, undef], defers := [] } (by kernel_rfl) ?_
    simp only [List.drop_succ_cons, List.drop_zero]
    refine wpList_alloc_store rfl rfl 139 4 (.tmp 23) rfl rfl rfl rfl plainCells (by simp [Act.put]) (by kernel_rfl) (by kernel_rfl) (fun v => rfl) ?_
    go_wp2
    go_meet
    case rel => exact ⟨by simp, rfl⟩
  obtain ⟨rfl, rfl⟩ := hcut
  go_upto_region 2 with (fail)
  go_cut [5] (fun v wc => v = .pointer (some ⟨w.heap.size + 2, 0, none⟩) ∧ wc = (((w.alloc (.cells #[.string ⟨#[]⟩, .int .i64 0, .bool false] 127)).alloc (.cells plainCells 139)).alloc (.cells twoCells 140)))
  case first =>
    apply wp_region_lit
    refine wpList_buildTo rfl 140 _ rfl (some 24) rfl twoCells (by kernel_rfl) ?_
    refine wpList_alloc_store rfl rfl 140 5 (.tmp 24) rfl rfl rfl rfl twoCells (by simp [Act.put]) (by kernel_rfl) (by kernel_rfl) (fun v => rfl) ?_
    go_wp2
    go_meet
    case rel => exact ⟨by simp, rfl⟩
  obtain ⟨rfl, rfl⟩ := hcut
  go_upto_region 3 with (fail)
  go_cut [6] (fun v wc => v = .pointer (some ⟨w.heap.size + 3, 0, none⟩) ∧ wc = ((((w.alloc (.cells #[.string ⟨#[]⟩, .int .i64 0, .bool false] 127)).alloc (.cells plainCells 139)).alloc (.cells twoCells 140)).alloc (.cells oneCells 141)))
  case first =>
    apply wp_region_lit
    refine wpList_buildTo rfl 141 _ rfl (some 25) rfl oneCells (by kernel_rfl) ?_
    refine wpList_alloc_store rfl rfl 141 6 (.tmp 25) rfl rfl rfl rfl oneCells (by simp [Act.put]) (by kernel_rfl) (by kernel_rfl) (fun v => rfl) ?_
    go_wp2
    go_meet
    case rel => exact ⟨by simp, rfl⟩
  obtain ⟨rfl, rfl⟩ := hcut
  go_wp2
  exact bodyPost_ret (v := .tuple #[.agg #[.string ⟨#[]⟩, .int .i64 0, .bool false], .bool false]) (by simp [results, Try.results75, go_sem]) rfl ⟨rfl, ((((Below.refl _ _).alloc (Nat.le_refl _) _).alloc (by simp) _).alloc (by simp; omega) _).alloc (by simp; omega) _⟩
set_option maxRecDepth 100000 in
set_option maxHeartbeats 1000000 in
theorem of_high (n : Int) (h : 44 ≤ n) (w : World) :
    Calls Try.prog 75 #[.int .i64 n] w fun e w' => e = .returned (.tuple #[.agg #[.string ⟨#[]⟩, .int .i64 0, .bool false], .bool false]) ∧ Below w.heap.size w w' := by
  have g0 : (0 : Int) ≤ n := by omega
  have g1 : ¬ n < 16 := by omega
  have g2 : (17 : Int) ≤ n := by omega
  have g3 : ¬ n ≤ 32 := by omega
  have g4 : (41 : Int) ≤ n := by omega
  have g5 : ¬ n ≤ 43 := by omega
  go_enter Try.func75, Try.ntmps75
  go_upto_region 1 with (fail)
  go_cut [4] (fun v wc => v = .pointer (some ⟨w.heap.size + 1, 0, none⟩) ∧ wc = ((w.alloc (.cells #[.string ⟨#[]⟩, .int .i64 0, .bool false] 127)).alloc (.cells plainCells 139)))
  case first =>
    apply wp_region_lit
    refine wpList_builds_n 17 { tmps := #[.int .i64 n, undef, .pointer (some ⟨w.heap.size, 0, none⟩), .bool false, undef, undef, undef, .agg #[.string ⟨#[104, 97, 108, 116]⟩, .int .i64 0, .bool false], .agg #[.string ⟨#[116, 114, 97, 112]⟩, .int .i64 0, .bool true], .agg #[.string ⟨#[109, 111, 118, 101]⟩, .int .i64 3, .bool false], .agg #[.string ⟨#[99, 111, 110, 115, 116]⟩, .int .i64 1, .bool true], .agg #[.string ⟨#[104, 105, 103, 104]⟩, .int .i64 1, .bool true], .agg #[.string ⟨#[108, 111, 97, 100]⟩, .int .i64 3, .bool true], .agg #[.string ⟨#[115, 116, 111, 114, 101]⟩, .int .i64 3, .bool true], .agg #[.string ⟨#[106, 117, 109, 112]⟩, .int .i64 0, .bool true], .agg #[.string ⟨#[122, 101, 114, 111]⟩, .int .i64 1, .bool true], .agg #[.string ⟨#[115, 111, 109, 101]⟩, .int .i64 1, .bool true], .agg #[.string ⟨#[99, 97, 108, 108]⟩, .int .i64 0, .bool true], .agg #[.string ⟨#[97, 116]⟩, .int .i64 1, .bool false], .agg #[.string ⟨#[114, 101, 116]⟩, .int .i64 0, .bool false], .agg #[.string ⟨#[105, 110]⟩, .int .i64 1, .bool false], .agg #[.string ⟨#[111, 117, 116]⟩, .int .i64 1, .bool false], .agg #[.string ⟨#[114, 111, 111, 109]⟩, .int .i64 1, .bool false], .agg plainCells, undef, undef, undef, undef, undef, undef, undef, undef, undef, undef, undef, undef, undef, undef, undef, undef, undef, undef, undef, undef, undef, undef, undef, undef, undef, undef, undef, undef, undef, undef, undef, undef, undef, undef, undef, undef, undef, undef, undef], defers := [] } (by kernel_rfl) ?_
    simp only [List.drop_succ_cons, List.drop_zero]
    refine wpList_alloc_store rfl rfl 139 4 (.tmp 23) rfl rfl rfl rfl plainCells (by simp [Act.put]) (by kernel_rfl) (by kernel_rfl) (fun v => rfl) ?_
    go_wp2
    go_meet
    case rel => exact ⟨by simp, rfl⟩
  obtain ⟨rfl, rfl⟩ := hcut
  go_upto_region 2 with (fail)
  go_cut [5] (fun v wc => v = .pointer (some ⟨w.heap.size + 2, 0, none⟩) ∧ wc = (((w.alloc (.cells #[.string ⟨#[]⟩, .int .i64 0, .bool false] 127)).alloc (.cells plainCells 139)).alloc (.cells twoCells 140)))
  case first =>
    apply wp_region_lit
    refine wpList_buildTo rfl 140 _ rfl (some 24) rfl twoCells (by kernel_rfl) ?_
    refine wpList_alloc_store rfl rfl 140 5 (.tmp 24) rfl rfl rfl rfl twoCells (by simp [Act.put]) (by kernel_rfl) (by kernel_rfl) (fun v => rfl) ?_
    go_wp2
    go_meet
    case rel => exact ⟨by simp, rfl⟩
  obtain ⟨rfl, rfl⟩ := hcut
  go_upto_region 3 with (fail)
  go_cut [6] (fun v wc => v = .pointer (some ⟨w.heap.size + 3, 0, none⟩) ∧ wc = ((((w.alloc (.cells #[.string ⟨#[]⟩, .int .i64 0, .bool false] 127)).alloc (.cells plainCells 139)).alloc (.cells twoCells 140)).alloc (.cells oneCells 141)))
  case first =>
    apply wp_region_lit
    refine wpList_buildTo rfl 141 _ rfl (some 25) rfl oneCells (by kernel_rfl) ?_
    refine wpList_alloc_store rfl rfl 141 6 (.tmp 25) rfl rfl rfl rfl oneCells (by simp [Act.put]) (by kernel_rfl) (by kernel_rfl) (fun v => rfl) ?_
    go_wp2
    go_meet
    case rel => exact ⟨by simp, rfl⟩
  obtain ⟨rfl, rfl⟩ := hcut
  go_wp2
  exact bodyPost_ret (v := .tuple #[.agg #[.string ⟨#[]⟩, .int .i64 0, .bool false], .bool false]) (by simp [results, Try.results75, go_sem]) rfl ⟨rfl, ((((Below.refl _ _).alloc (Nat.le_refl _) _).alloc (by simp) _).alloc (by simp; omega) _).alloc (by simp; omega) _⟩

/-- What 'of' hands back of an op that there is. -/
def OfOk (r : Int) (i : Bool) (w : World) (e : Ending) (w' : World) : Prop := ∃ s, e = .returned (.tuple #[.agg #[.string s, .int .i64 r, .bool i], .bool true]) ∧ Below w.heap.size w w'
theorem of_ok (k : Nat) (r : Int) (i : Bool) (h : usesOf k = some (r, i)) (w : World) : Calls Try.prog 75 #[.int .i64 k] w (OfOk r i w) := by
  by_cases h1 : k < 16
  · obtain ⟨s, r', i', a0, a1, a2, a3⟩ := plain_at k h1
    rw [h] at a3
    simp only [Option.some.injEq, Prod.mk.injEq] at a3
    obtain ⟨rfl, rfl⟩ := a3
    exact (of_plain k h1 w s _ _ a0 a1 a2).mono fun e w' ⟨he, hb⟩ => ⟨s, he, hb⟩
  have hn : ∀ j, j < 16 → k ≠ j := fun j hj e => h1 (e ▸ hj)
  have hu : (if 17 ≤ k ∧ k ≤ 32 then some ((7 : Int), false) else if 41 ≤ k ∧ k ≤ 43 then some (3, false) else none) = some (r, i) := by
    rw [← h]
    unfold usesOf
    rw [if_neg (hn 0 (by decide)), if_neg (hn 1 (by decide)), if_neg (hn 2 (by decide)), if_neg (hn 3 (by decide)), if_neg (hn 4 (by decide)), if_neg (hn 5 (by decide)), if_neg (hn 6 (by decide)), if_neg (hn 7 (by decide)), if_neg (hn 8 (by decide)), if_neg (hn 9 (by decide)), if_neg (hn 10 (by decide)), if_neg (hn 11 (by decide)), if_neg (hn 12 (by decide)), if_neg (hn 13 (by decide)), if_neg (hn 14 (by decide)), if_neg (hn 15 (by decide))]
  by_cases h2 : 17 ≤ k ∧ k ≤ 32
  · rw [if_pos h2] at hu
    simp only [Option.some.injEq, Prod.mk.injEq] at hu
    obtain ⟨rfl, rfl⟩ := hu
    obtain ⟨s, hs⟩ := two_at (k - 17) (by omega)
    have e : ((k - 17 : Nat) : Int) + 17 = k := by omega
    have := of_two (k - 17) (by omega) w s hs
    rw [e] at this
    exact this.mono fun e w' ⟨he, hb⟩ => ⟨s, he, hb⟩
  · rw [if_neg h2] at hu
    by_cases h3 : 41 ≤ k ∧ k ≤ 43
    · rw [if_pos h3] at hu
      simp only [Option.some.injEq, Prod.mk.injEq] at hu
      obtain ⟨rfl, rfl⟩ := hu
      obtain ⟨s, hs⟩ := one_at (k - 41) (by omega)
      have e : ((k - 41 : Nat) : Int) + 41 = k := by omega
      have := of_one (k - 41) (by omega) w s hs
      rw [e] at this
      exact this.mono fun e w' ⟨he, hb⟩ => ⟨s, he, hb⟩
    · rw [if_neg h3] at hu
      cases hu
theorem of_no (n : Int) (h : n < 0 ∨ usesOf n.toNat = none) (w : World) : Calls Try.prog 75 #[.int .i64 n] w fun e w' => e = .returned (.tuple #[.agg #[.string ⟨#[]⟩, .int .i64 0, .bool false], .bool false]) ∧ Below w.heap.size w w' := by
  by_cases h0 : n < 0
  · exact of_low n h0 w
  have h := h.resolve_left h0
  by_cases h1 : n < 16
  · obtain ⟨_, _, _, _, _, _, a3⟩ := plain_at n.toNat (by omega)
    rw [h] at a3
    cases a3
  by_cases h2 : n = 16
  · subst h2; exact of_16 w
  by_cases h3 : n ≤ 32
  · exfalso
    have e : usesOf n.toNat = some (7, false) := by
      unfold usesOf
      rw [if_neg (by omega), if_neg (by omega), if_neg (by omega), if_neg (by omega), if_neg (by omega), if_neg (by omega), if_neg (by omega), if_neg (by omega), if_neg (by omega), if_neg (by omega), if_neg (by omega), if_neg (by omega), if_neg (by omega), if_neg (by omega), if_neg (by omega), if_neg (by omega), if_pos (by omega)]
    rw [h] at e
    cases e
  by_cases h4 : n ≤ 40
  · exact of_mid n (by omega) h4 w
  by_cases h5 : n ≤ 43
  · exfalso
    have e : usesOf n.toNat = some (3, false) := by
      unfold usesOf
      rw [if_neg (by omega), if_neg (by omega), if_neg (by omega), if_neg (by omega), if_neg (by omega), if_neg (by omega), if_neg (by omega), if_neg (by omega), if_neg (by omega), if_neg (by omega), if_neg (by omega), if_neg (by omega), if_neg (by omega), if_neg (by omega), if_neg (by omega), if_neg (by omega), if_neg (by omega), if_pos (by omega)]
    rw [h] at e
    cases e
  · exact of_high n (by omega) w
end Go.Proofs.Ytnbgbmddkbneeaa.Obj
end

section
/- What isa.Encode hands back: of an instruction that there is its word, else an error. -/
set_option linter.unusedVariables false
set_option linter.unusedSimpArgs false
namespace Go.Proofs.Ytnbgbmddkbneeaa.Obj
open Go.RowKit Go.Proofs.YtnbgbmddkbneeaaW.PrintWords Go.Proofs.Ytnbgbmddkbneeaa.PLinkWeak

theorem bcell' {W w1 : World} {n : Nat} (hb : Below W.heap.size W w1) (hn : W.heap.size = n) : (∀ b o, b < n → w1.cell? ⟨b, o, none⟩ = W.cell? ⟨b, o, none⟩) ∧ (∀ b o, b < n → w1.frozen? ⟨b, o, none⟩ = W.frozen? ⟨b, o, none⟩) ∧ (∀ b, b < n → b < w1.heap.size) := by
  subst hn
  exact ⟨fun b o h => hb.cell (p := ⟨b, o, none⟩) h, fun b o h => hb.frozen (p := ⟨b, o, none⟩) h, fun b h => Nat.lt_of_lt_of_le h hb.size⟩

/-- May a register stand there? -/
def mayB (x : Int) (has : Bool) : Bool := (isa_may.f x has).getD false
theorem may_any (x : Int) (has : Bool) (w : World) : Calls Try.prog 79 #[.int .i64 x, .bool has] w fun e w' => e = .returned (.bool (mayB x has)) ∧ Drawn0 w w' := by
  refine isa_may.calls x has (mayB x has) w ?_
  unfold mayB isa_may.f
  split
  · rfl
  · split
    · split <;> rfl
    · rfl

set_option maxHeartbeats 1000000 in
theorem encode_no_op (n a b c i : Int) (h : n < 0 ∨ usesOf n.toNat = none) (w : World) :
    Calls Try.prog 68 #[.agg #[.int .i64 n, .int .i64 a, .int .i64 b, .int .i64 c, .int .i64 i]] w fun e w' => e = .returned (.tuple #[.int .i64 0, .int .i64 4]) ∧ Below w.heap.size w w' := by
  have H := Lib.hid h
  clear h
  go_enter Try.func68, Try.ntmps68
  go_wp2_with (go_at_call 75; refine (of_no n H.out _).mono ?_; rintro e w' ⟨rfl, hb⟩)
  go_ret2
  exact ⟨rfl, ((Below.refl _ _).alloc (Nat.le_refl _) _).trans ((hb.alloc hb.size _).mono (by simp))⟩

set_option maxHeartbeats 1000000 in
theorem encode_no_a (k : Nat) (a b c i r : Int) (m hA hB hC : Bool) (h : usesOf k = some (r, m)) (h1 : (bits .and .i64 r 1 != 0) = hA) (h2 : (bits .and .i64 r 2 != 0) = hB) (h3 : (bits .and .i64 r 4 != 0) = hC) (ma : mayB a hA = false) (w : World) :
    Calls Try.prog 68 #[.agg #[.int .i64 k, .int .i64 a, .int .i64 b, .int .i64 c, .int .i64 i]] w fun e w' => e = .returned (.tuple #[.int .i64 0, .int .i64 4]) ∧ Below w.heap.size w w' := by
  have H := Lib.hid h
  clear h
  go_enter Try.func68, Try.ntmps68
  go_wp2_with (first | (go_at_call 75; refine (of_ok k r m H.out _).mono ?_; rintro e w' ⟨s, rfl, hb⟩; obtain ⟨hc, hf, hz⟩ := bcell' hb (World.size_alloc _ _)) | (go_at_call 79; refine (may_any _ _ _).mono ?_; rintro e w'' ⟨rfl, ⟨nd, rfl⟩⟩))
  go_ret2
  exact ⟨rfl, by repeat (first | exact ((Below.refl _ _).alloc (Nat.le_refl _) _).trans ((hb.alloc hb.size _).mono (by simp)) | refine pw_below_drewN ?_ _)⟩
set_option maxHeartbeats 1000000 in
theorem encode_no_b (k : Nat) (a b c i r : Int) (m hA hB hC : Bool) (h : usesOf k = some (r, m)) (h1 : (bits .and .i64 r 1 != 0) = hA) (h2 : (bits .and .i64 r 2 != 0) = hB) (h3 : (bits .and .i64 r 4 != 0) = hC) (ma : mayB a hA = true) (mb : mayB b hB = false) (w : World) :
    Calls Try.prog 68 #[.agg #[.int .i64 k, .int .i64 a, .int .i64 b, .int .i64 c, .int .i64 i]] w fun e w' => e = .returned (.tuple #[.int .i64 0, .int .i64 4]) ∧ Below w.heap.size w w' := by
  have H := Lib.hid h
  clear h
  go_enter Try.func68, Try.ntmps68
  go_wp2_with (first | (go_at_call 75; refine (of_ok k r m H.out _).mono ?_; rintro e w' ⟨s, rfl, hb⟩; obtain ⟨hc, hf, hz⟩ := bcell' hb (World.size_alloc _ _)) | (go_at_call 79; refine (may_any _ _ _).mono ?_; rintro e w'' ⟨rfl, ⟨nd, rfl⟩⟩))
  go_ret2
  exact ⟨rfl, by repeat (first | exact ((Below.refl _ _).alloc (Nat.le_refl _) _).trans ((hb.alloc hb.size _).mono (by simp)) | refine pw_below_drewN ?_ _)⟩
set_option maxHeartbeats 1000000 in
theorem encode_no_c (k : Nat) (a b c i r : Int) (m hA hB hC : Bool) (h : usesOf k = some (r, m)) (h1 : (bits .and .i64 r 1 != 0) = hA) (h2 : (bits .and .i64 r 2 != 0) = hB) (h3 : (bits .and .i64 r 4 != 0) = hC) (ma : mayB a hA = true) (mb : mayB b hB = true) (mc : mayB c hC = false) (w : World) :
    Calls Try.prog 68 #[.agg #[.int .i64 k, .int .i64 a, .int .i64 b, .int .i64 c, .int .i64 i]] w fun e w' => e = .returned (.tuple #[.int .i64 0, .int .i64 4]) ∧ Below w.heap.size w w' := by
  have H := Lib.hid h
  clear h
  go_enter Try.func68, Try.ntmps68
  go_wp2_with (first | (go_at_call 75; refine (of_ok k r m H.out _).mono ?_; rintro e w' ⟨s, rfl, hb⟩; obtain ⟨hc, hf, hz⟩ := bcell' hb (World.size_alloc _ _)) | (go_at_call 79; refine (may_any _ _ _).mono ?_; rintro e w'' ⟨rfl, ⟨nd, rfl⟩⟩))
  go_ret2
  exact ⟨rfl, by repeat (first | exact ((Below.refl _ _).alloc (Nat.le_refl _) _).trans ((hb.alloc hb.size _).mono (by simp)) | refine pw_below_drewN ?_ _)⟩
set_option maxHeartbeats 1000000 in
theorem encode_no_i (k : Nat) (a b c i r : Int) (m hA hB hC : Bool) (h : usesOf k = some (r, m)) (h1 : (bits .and .i64 r 1 != 0) = hA) (h2 : (bits .and .i64 r 2 != 0) = hB) (h3 : (bits .and .i64 r 4 != 0) = hC) (ma : mayB a hA = true) (mb : mayB b hB = true) (mc : mayB c hC = true) (hm : m = false) (hi : (i != 0) = true) (w : World) :
    Calls Try.prog 68 #[.agg #[.int .i64 k, .int .i64 a, .int .i64 b, .int .i64 c, .int .i64 i]] w fun e w' => e = .returned (.tuple #[.int .i64 0, .int .i64 4]) ∧ Below w.heap.size w w' := by
  have H := Lib.hid h
  clear h
  go_enter Try.func68, Try.ntmps68
  go_wp2_with (first | (go_at_call 75; refine (of_ok k r m H.out _).mono ?_; rintro e w' ⟨s, rfl, hb⟩; obtain ⟨hc, hf, hz⟩ := bcell' hb (World.size_alloc _ _)) | (go_at_call 79; refine (may_any _ _ _).mono ?_; rintro e w'' ⟨rfl, ⟨nd, rfl⟩⟩))
  go_ret2
  exact ⟨rfl, by repeat (first | exact ((Below.refl _ _).alloc (Nat.le_refl _) _).trans ((hb.alloc hb.size _).mono (by simp)) | refine pw_below_drewN ?_ _)⟩
set_option maxHeartbeats 1000000 in
theorem encode_yes_i (k : Nat) (a b c i r : Int) (m hA hB hC : Bool) (h : usesOf k = some (r, m)) (h1 : (bits .and .i64 r 1 != 0) = hA) (h2 : (bits .and .i64 r 2 != 0) = hB) (h3 : (bits .and .i64 r 4 != 0) = hC) (ma : mayB a hA = true) (mb : mayB b hB = true) (mc : mayB c hC = true) (hm : m = true) (i0 : -2147483648 ≤ i) (i1 : i ≤ 2147483647) (w : World) :
    Calls Try.prog 68 #[.agg #[.int .i64 k, .int .i64 a, .int .i64 b, .int .i64 c, .int .i64 i]] w fun e w' => e = .returned (.tuple #[.int .i64 (bits .or .i64 (bits .or .i64 (bits .or .i64 (bits .or .i64 (wrap64 (k * 72057594037927936)) (wrap64 (a * 4503599627370496))) (wrap64 (b * 281474976710656))) (wrap64 (c * 17592186044416))) (i % 4294967296)), .int .i64 0]) ∧ Below w.heap.size w w' := by
  have H := Lib.hid h
  clear h
  go_enter Try.func68, Try.ntmps68
  go_wp2_with (first | (go_at_call 75; refine (of_ok k r m H.out _).mono ?_; rintro e w' ⟨s, rfl, hb⟩; obtain ⟨hc, hf, hz⟩ := bcell' hb (World.size_alloc _ _)) | (go_at_call 79; refine (may_any _ _ _).mono ?_; rintro e w'' ⟨rfl, ⟨nd, rfl⟩⟩))
  go_ret2
  exact ⟨rfl, by repeat (first | exact ((Below.refl _ _).alloc (Nat.le_refl _) _).trans ((hb.alloc hb.size _).mono (by simp)) | refine pw_below_drewN ?_ _)⟩
set_option maxHeartbeats 1000000 in
theorem encode_yes_0 (k : Nat) (a b c i r : Int) (m hA hB hC : Bool) (h : usesOf k = some (r, m)) (h1 : (bits .and .i64 r 1 != 0) = hA) (h2 : (bits .and .i64 r 2 != 0) = hB) (h3 : (bits .and .i64 r 4 != 0) = hC) (ma : mayB a hA = true) (mb : mayB b hB = true) (mc : mayB c hC = true) (hm : m = false) (hi : (i != 0) = false) (i0 : -2147483648 ≤ i) (i1 : i ≤ 2147483647) (w : World) :
    Calls Try.prog 68 #[.agg #[.int .i64 k, .int .i64 a, .int .i64 b, .int .i64 c, .int .i64 i]] w fun e w' => e = .returned (.tuple #[.int .i64 (bits .or .i64 (bits .or .i64 (bits .or .i64 (bits .or .i64 (wrap64 (k * 72057594037927936)) (wrap64 (a * 4503599627370496))) (wrap64 (b * 281474976710656))) (wrap64 (c * 17592186044416))) (i % 4294967296)), .int .i64 0]) ∧ Below w.heap.size w w' := by
  have H := Lib.hid h
  clear h
  go_enter Try.func68, Try.ntmps68
  go_wp2_with (first | (go_at_call 75; refine (of_ok k r m H.out _).mono ?_; rintro e w' ⟨s, rfl, hb⟩; obtain ⟨hc, hf, hz⟩ := bcell' hb (World.size_alloc _ _)) | (go_at_call 79; refine (may_any _ _ _).mono ?_; rintro e w'' ⟨rfl, ⟨nd, rfl⟩⟩))
  go_ret2
  exact ⟨rfl, by repeat (first | exact ((Below.refl _ _).alloc (Nat.le_refl _) _).trans ((hb.alloc hb.size _).mono (by simp)) | refine pw_below_drewN ?_ _)⟩
end Go.Proofs.Ytnbgbmddkbneeaa.Obj
end

section
/- Numbers: what a word of the machine is as an instruction; both ways of reading it are this one. -/
set_option linter.unusedVariables false
set_option linter.unusedSimpArgs false
namespace Go.Proofs.Ytnbgbmddkbneeaa.Obj
open Go.RowKit Go.Proofs.YtnbgbmddkbneeaaW.PrintWords Go.Proofs.Ytnbgbmddkbneeaa.PLinkWeak

/-- Has an op this register (1: A, 2: B, 4: C)? -/
def hasA (r : Int) : Bool := decide (r % 2 = 1)
def hasB (r : Int) : Bool := decide (r / 2 % 2 = 1)
def hasC (r : Int) : Bool := decide (4 ≤ r)
/-- An instruction: op, A, B, C, Imm. -/
structure I5 where
  o : Nat
  a : Nat
  b : Nat
  c : Nat
  i : Int
def wOp (v : Int) : Nat := (v / 72057594037927936).toNat
def wA (v : Int) : Nat := (v / 4503599627370496 % 16).toNat
def wB (v : Int) : Nat := (v / 281474976710656 % 16).toNat
def wC (v : Int) : Nat := (v / 17592186044416 % 16).toNat
/-- May these registers and this number stand beside an op of such a shape? -/
def fits (r : Int) (m : Bool) (a b c : Nat) (i : Int) : Bool := (a == 0 || hasA r) && (b == 0 || hasB r) && (c == 0 || hasC r) && (m || i == 0)
/-- A word as an instruction. -/
def decI (v : Int) : Option I5 :=
  if v < 0 ∨ v / 4294967296 % 4096 ≠ 0 then none
  else match usesOf (wOp v) with
    | none => none
    | some (r, m) => if fits r m (wA v) (wB v) (wC v) (wrap32 v) = true then some ⟨wOp v, wA v, wB v, wC v, wrap32 v⟩ else none

theorem uses_cases (k : Nat) : (∃ r m, usesOf k = some (r, m) ∧ k ≤ 43 ∧ (r = 0 ∨ r = 1 ∨ r = 3 ∨ r = 7) ∧ mortiseref2_Uses.f 9 k = some (r, m, true)) ∨ (usesOf k = none ∧ mortiseref2_Uses.f 9 k = some (0, false, false)) := by
  have h : k = 0 ∨ k = 1 ∨ k = 2 ∨ k = 3 ∨ k = 4 ∨ k = 5 ∨ k = 6 ∨ k = 7 ∨ k = 8 ∨ k = 9 ∨ k = 10 ∨ k = 11 ∨ k = 12 ∨ k = 13 ∨ k = 14 ∨ k = 15 ∨ k = 16 ∨ (17 ≤ k ∧ k ≤ 32) ∨ (33 ≤ k ∧ k ≤ 40) ∨ k = 41 ∨ k = 42 ∨ k = 43 ∨ 44 ≤ k := by omega
  rcases h with rfl | rfl | rfl | rfl | rfl | rfl | rfl | rfl | rfl | rfl | rfl | rfl | rfl | rfl | rfl | rfl | rfl | h | h | rfl | rfl | rfl | h
  · exact .inl ⟨_, _, rfl, by decide, by decide, by kernel_rfl⟩
  · exact .inl ⟨_, _, rfl, by decide, by decide, by kernel_rfl⟩
  · exact .inl ⟨_, _, rfl, by decide, by decide, by kernel_rfl⟩
  · exact .inl ⟨_, _, rfl, by decide, by decide, by kernel_rfl⟩
  · exact .inl ⟨_, _, rfl, by decide, by decide, by kernel_rfl⟩
  · exact .inl ⟨_, _, rfl, by decide, by decide, by kernel_rfl⟩
  · exact .inl ⟨_, _, rfl, by decide, by decide, by kernel_rfl⟩
  · exact .inl ⟨_, _, rfl, by decide, by decide, by kernel_rfl⟩
  · exact .inl ⟨_, _, rfl, by decide, by decide, by kernel_rfl⟩
  · exact .inl ⟨_, _, rfl, by decide, by decide, by kernel_rfl⟩
  · exact .inl ⟨_, _, rfl, by decide, by decide, by kernel_rfl⟩
  · exact .inl ⟨_, _, rfl, by decide, by decide, by kernel_rfl⟩
  · exact .inl ⟨_, _, rfl, by decide, by decide, by kernel_rfl⟩
  · exact .inl ⟨_, _, rfl, by decide, by decide, by kernel_rfl⟩
  · exact .inl ⟨_, _, rfl, by decide, by decide, by kernel_rfl⟩
  · exact .inl ⟨_, _, rfl, by decide, by decide, by kernel_rfl⟩
  · exact .inr ⟨rfl, by kernel_rfl⟩
  · have h' : k = 17 ∨ k = 18 ∨ k = 19 ∨ k = 20 ∨ k = 21 ∨ k = 22 ∨ k = 23 ∨ k = 24 ∨ k = 25 ∨ k = 26 ∨ k = 27 ∨ k = 28 ∨ k = 29 ∨ k = 30 ∨ k = 31 ∨ k = 32 := by omega
    refine .inl ⟨7, false, ?_, by omega, by decide, ?_⟩
    · rcases h' with rfl | rfl | rfl | rfl | rfl | rfl | rfl | rfl | rfl | rfl | rfl | rfl | rfl | rfl | rfl | rfl <;> rfl
    · rcases h' with rfl | rfl | rfl | rfl | rfl | rfl | rfl | rfl | rfl | rfl | rfl | rfl | rfl | rfl | rfl | rfl <;> kernel_rfl
  · have h' : k = 33 ∨ k = 34 ∨ k = 35 ∨ k = 36 ∨ k = 37 ∨ k = 38 ∨ k = 39 ∨ k = 40 := by omega
    refine .inr ⟨?_, ?_⟩
    · rcases h' with rfl | rfl | rfl | rfl | rfl | rfl | rfl | rfl <;> rfl
    · rcases h' with rfl | rfl | rfl | rfl | rfl | rfl | rfl | rfl <;> kernel_rfl
  · exact .inl ⟨_, _, rfl, by decide, by decide, by kernel_rfl⟩
  · exact .inl ⟨_, _, rfl, by decide, by decide, by kernel_rfl⟩
  · exact .inl ⟨_, _, rfl, by decide, by decide, by kernel_rfl⟩
  · refine .inr ⟨?_, ?_⟩
    · unfold usesOf
      repeat rw [if_neg (by omega)]
    · have hn : mortiseref2_Name.f (k : Int) = some (⟨#[]⟩ : ByteArray) := by
        unfold mortiseref2_Name.f mortiseref2_Sum.f
        repeat rw [if_neg (by omega)]
        rfl
      unfold mortiseref2_Uses.f
      rw [hn, Option.bind_some, if_pos (by kernel_rfl)]

theorem reg_is (has : Bool) (a : Nat) (ha : a < 16) : mortiseref2_reg.f has a = some (a == 0 || has) := by
  unfold mortiseref2_reg.f
  cases has
  · simp only [Bool.false_eq_true, if_false, Bool.or_false]
    congr 1
    rw [Bool.eq_iff_iff, beq_iff_eq, beq_iff_eq]
    omega
  · rw [if_pos rfl, if_pos (by omega), if_pos (by omega)]
    simp
theorem has_is {r : Int} (hr : r = 0 ∨ r = 1 ∨ r = 3 ∨ r = 7) : (Int.tmod r 2 == 1) = hasA r ∧ (Int.tmod (wrap64 (Int.tdiv r 2)) 2 == 1) = hasB r ∧ decide (r ≥ 4) = hasC r ∧
    (bits .and .i64 r 1 != 0) = hasA r ∧ (bits .and .i64 r 2 != 0) = hasB r ∧ (bits .and .i64 r 4 != 0) = hasC r := by
  rcases hr with rfl | rfl | rfl | rfl <;> (refine ⟨?_, ?_, ?_, ?_, ?_, ?_⟩ <;> kernel_rfl)
theorem may_is (a : Nat) (has : Bool) (ha : a < 16) : mayB a has = (a == 0 || has) := by
  unfold mayB isa_may.f
  by_cases h0 : a = 0
  · subst h0; simp
  · rw [if_neg (by omega)]
    have e : (a == 0) = false := beq_eq_false_iff_ne.2 h0
    rw [e]
    cases has
    · simp
    · rw [if_pos rfl, if_pos (by omega), decide_eq_true (by omega)]
      rfl
/-- The word of an instruction. -/
def word5 (k a b c : Nat) (i : Int) : Int := k * 72057594037927936 + a * 4503599627370496 + b * 281474976710656 + c * 17592186044416 + i % 4294967296
theorem in64 {n : Int} (h0 : -9223372036854775808 ≤ n) (h1 : n ≤ 9223372036854775807) : wrap64 n = n := by unfold wrap64; omega
theorem enc_num (k a b c x : Int) (k0 : 0 ≤ k) (k1 : k ≤ 127) (a0 : 0 ≤ a) (a1 : a < 16) (b0 : 0 ≤ b) (b1 : b < 16) (c0 : 0 ≤ c) (c1 : c < 16) (x0 : 0 ≤ x) (x1 : x < 4294967296) :
    wrap64 (wrap64 (wrap64 (wrap64 (wrap64 (wrap64 (wrap64 (k * 16) + a) * 16) + b) * 16) * 17592186044416) + wrap64 (c * 17592186044416)) = ((k * 16 + a) * 16 + b) * 16 * 17592186044416 + c * 17592186044416 ∧
    wrap64 (((k * 16 + a) * 16 + b) * 16 * 17592186044416 + c * 17592186044416 + x) = ((k * 16 + a) * 16 + b) * 16 * 17592186044416 + c * 17592186044416 + x := by
  constructor
  · rw [in64 (n := k * 16) (by omega) (by omega), in64 (n := k * 16 + a) (by omega) (by omega), in64 (n := (k * 16 + a) * 16) (by omega) (by omega), in64 (n := (k * 16 + a) * 16 + b) (by omega) (by omega),
      in64 (n := ((k * 16 + a) * 16 + b) * 16) (by omega) (by omega), in64 (n := ((k * 16 + a) * 16 + b) * 16 * 17592186044416) (by omega) (by omega), in64 (n := c * 17592186044416) (by omega) (by omega), in64 (by omega) (by omega)]
  · rw [in64 (by omega) (by omega)]
theorem r2enc (k a b c : Nat) (i : Int) (ha : a < 16) (hb : b < 16) (hc : c < 16) (h0 : -2147483648 ≤ i) (h1 : i ≤ 2147483647) :
    mortiseref2_Encode.f 9 k a b c i = some (match usesOf k with | none => (0, 4) | some (r, m) => if fits r m a b c i = true then (word5 k a b c i, 0) else (0, 4)) := by
  unfold mortiseref2_Encode.f
  rcases uses_cases k with ⟨r, m, e, hk, hr, eu⟩ | ⟨e, eu⟩
  · obtain ⟨e1, e2, e3, _, _, _⟩ := has_is hr
    rw [e, eu, Option.bind_some]
    dsimp only
    rw [if_pos rfl, e1, e2, e3, reg_is _ a ha, reg_is _ b hb, reg_is _ c hc]
    simp only [Option.bind_some]
    have j0t : ∀ x : Int × Int, mortiseref2_Encode.j0 9 m true k a b c i = some (0, 4) := fun _ => by
      show mortiseref2_Encode.j0 (8 + 1) m true k a b c i = _
      rw [mortiseref2_Encode.j0, if_pos rfl]
    unfold fits
    cases (a == 0 || hasA r)
    · simp [j0t (0, 0)]
    cases (b == 0 || hasB r)
    · simp [j0t (0, 0)]
    cases (c == 0 || hasC r)
    · simp [j0t (0, 0)]
    have j1t : mortiseref2_Encode.j1 8 true k a b c i = some (0, 4) := by
      show mortiseref2_Encode.j1 (7 + 1) true k a b c i = _
      rw [mortiseref2_Encode.j1, if_pos rfl]
    have j1f : mortiseref2_Encode.j1 8 false k a b c i = some (word5 k a b c i, 0) := by
      show mortiseref2_Encode.j1 (7 + 1) false k a b c i = _
      rw [mortiseref2_Encode.j1, if_neg (by decide)]
      have en := fun x x0 x1 => enc_num k a b c x (by omega) (by omega) (by omega) (by omega) (by omega) (by omega) (by omega) (by omega) x0 x1
      rw [(en 0 (by omega) (by omega)).1]
      by_cases hi : i < 0
      · rw [if_pos hi, in64 (n := i + 4294967296) (by omega) (by omega), (en (i + 4294967296) (by omega) (by omega)).2]
        have : i % 4294967296 = i + 4294967296 := by omega
        refine congrArg (fun z : Int => some (z, (0 : Int))) ?_
        unfold word5
        rw [this]
        omega
      · rw [if_neg hi, (en i (by omega) (by omega)).2]
        have : i % 4294967296 = i := by omega
        refine congrArg (fun z : Int => some (z, (0 : Int))) ?_
        unfold word5
        rw [this]
        omega
    show (if (true = true) then (if (true = true) then mortiseref2_Encode.j0 (8 + 1) m (!true) k a b c i else _) else _) = _
    rw [if_pos rfl, if_pos rfl, mortiseref2_Encode.j0, if_neg (by decide)]
    cases m
    · rw [if_neg (by decide)]
      by_cases hi : i = 0
      · rw [show (i != 0) = false from bne_eq_false_iff_eq.2 hi, j1f]
        simp [hi]
      · rw [show (i != 0) = true from bne_iff_ne.2 hi, j1t]
        simp [hi]
    · rw [if_pos rfl, if_neg (by omega), if_neg (by omega), j1f]
      simp
  · rw [e, eu, Option.bind_some]
    dsimp only
    rw [if_neg (by decide)]
    show mortiseref2_Encode.j0 (8 + 1) false true k a b c i = _
    rw [mortiseref2_Encode.j0, if_pos rfl]
theorem word5_of (v : Int) (h0 : 0 ≤ v) (h1 : v ≤ 9223372036854775807) : word5 (wOp v) (wA v) (wB v) (wC v) (wrap32 v) = v ↔ v / 4294967296 % 4096 = 0 := by
  unfold word5 wOp wA wB wC wrap32
  omega
theorem w_lt (v : Int) : wA v < 16 ∧ wB v < 16 ∧ wC v < 16 := by
  unfold wA wB wC
  omega
theorem wrap32_in (v : Int) : -2147483648 ≤ wrap32 v ∧ wrap32 v ≤ 2147483647 := by
  unfold wrap32
  omega
/-- What a decoder hands back: the instruction and no error, or an empty one and error 4. -/
def dec6 : Option I5 → Int × Int × Int × Int × Int × Int
  | some x => (x.o, x.a, x.b, x.c, x.i, 0)
  | none => (0, 0, 0, 0, 0, 4)
theorem r2dec (v : Int) (h1 : v ≤ 9223372036854775807) : mortiseref2_Decode.f 9 v = some (dec6 (decI v)) := by
  unfold mortiseref2_Decode.f decI
  by_cases h0 : v < 0
  · rw [if_pos h0, if_pos (.inl h0)]; rfl
  rw [if_neg h0]
  have t44 : Int.tdiv v 17592186044416 = v / 17592186044416 := Int.tdiv_eq_ediv_of_nonneg (by omega)
  have e0 : wrap64 (v / 17592186044416) = v / 17592186044416 := by unfold wrap64; omega
  have t1 : Int.tdiv (v / 17592186044416) 4096 = v / 17592186044416 / 4096 := Int.tdiv_eq_ediv_of_nonneg (by omega)
  have t2 : Int.tdiv (v / 17592186044416) 256 = v / 17592186044416 / 256 := Int.tdiv_eq_ediv_of_nonneg (by omega)
  have t3 : Int.tdiv (v / 17592186044416) 16 = v / 17592186044416 / 16 := Int.tdiv_eq_ediv_of_nonneg (by omega)
  have m2 : Int.tmod (wrap64 (v / 17592186044416 / 256)) 16 = wrap64 (v / 17592186044416 / 256) % 16 := Int.tmod_eq_emod_of_nonneg (by unfold wrap64; omega)
  have m3 : Int.tmod (wrap64 (v / 17592186044416 / 16)) 16 = wrap64 (v / 17592186044416 / 16) % 16 := Int.tmod_eq_emod_of_nonneg (by unfold wrap64; omega)
  have m4 : Int.tmod (v / 17592186044416) 16 = v / 17592186044416 % 16 := Int.tmod_eq_emod_of_nonneg (by omega)
  have ml : Int.tmod v 4294967296 = v % 4294967296 := Int.tmod_eq_emod_of_nonneg (by omega)
  rw [t44, e0, t1, t2, t3, m2, m3, m4, ml]
  have a1 : wrap64 (v / 17592186044416 / 4096) = (wOp v : Int) := by unfold wrap64 wOp; omega
  have a2 : wrap64 (v / 17592186044416 / 256) % 16 = (wA v : Int) := by unfold wrap64 wA; omega
  have a3 : wrap64 (v / 17592186044416 / 16) % 16 = (wB v : Int) := by unfold wrap64 wB; omega
  have a4 : v / 17592186044416 % 16 = (wC v : Int) := by unfold wC; omega
  rw [a1, a2, a3, a4]
  have key : (mortiseref2_Encode.f 9 (wOp v) (wA v) (wB v) (wC v) (wrap32 v)).bind (fun bt => if bt.2 = 0 then (if bt.1 = v then some ((wOp v : Int), (wA v : Int), (wB v : Int), (wC v : Int), wrap32 v, (0 : Int)) else some (0, 0, 0, 0, 0, 4)) else some (0, 0, 0, 0, 0, 4)) =
      some (dec6 (if v < 0 ∨ v / 4294967296 % 4096 ≠ 0 then none else match usesOf (wOp v) with
        | none => none
        | some (r, m) => if fits r m (wA v) (wB v) (wC v) (wrap32 v) = true then some ⟨wOp v, wA v, wB v, wC v, wrap32 v⟩ else none)) := by
    rw [r2enc _ _ _ _ _ (w_lt v).1 (w_lt v).2.1 (w_lt v).2.2 (wrap32_in v).1 (wrap32_in v).2, Option.bind_some]
    have hw := word5_of v (by omega) h1
    cases usesOf (wOp v) with
    | none =>
      dsimp only
      rw [if_neg (by decide)]
      split <;> rfl
    | some rm =>
      obtain ⟨r, m⟩ := rm
      dsimp only
      by_cases hfit : fits r m (wA v) (wB v) (wC v) (wrap32 v) = true
      case neg =>
        simp only [if_neg hfit]
        rw [if_neg (by decide)]
        split <;> rfl
      case pos =>
        simp only [if_pos hfit]
        rw [if_pos True.intro]
        by_cases hz : v / 4294967296 % 4096 = 0
        · rw [if_pos (hw.2 hz), if_neg (by omega)]
          rfl
        · rw [if_neg (fun h => hz (hw.1 h)), if_pos (.inr hz)]
          rfl
  by_cases hl : v % 4294967296 > 2147483647
  · have a5 : wrap64 (v % 4294967296 - 4294967296) = wrap32 v := by unfold wrap64 wrap32; omega
    rw [if_pos hl, a5]
    exact key
  · have a5 : v % 4294967296 = wrap32 v := by unfold wrap32; omega
    rw [if_neg hl, a5]
    exact key
/-- Disjoint bits of words that are not negative: 'or' is the sum. -/
theorem or_sum (i : Nat) (x y : Int) (hx0 : 0 ≤ x) (hx : x % 2 ^ i = 0) (hx1 : x < 2 ^ 63) (hy0 : 0 ≤ y) (hy : y < 2 ^ i) (hy1 : y < 2 ^ 63) : bits .or .i64 x y = x + y :=
  bits_join .i64 63 (by decide) (fun n h0 h1 => by rw [IntKind.wrap_i64]; omega) i x y hx0 hx hx1 hy0 hy hy1
theorem or_chain (k a b c : Nat) (i : Int) (hk : k ≤ 127) (ha : a < 16) (hb : b < 16) (hc : c < 16) :
    bits .or .i64 (bits .or .i64 (bits .or .i64 (bits .or .i64 (wrap64 (k * 72057594037927936)) (wrap64 (a * 4503599627370496))) (wrap64 (b * 281474976710656))) (wrap64 (c * 17592186044416))) (i % 4294967296) = word5 k a b c i := by
  rw [in64 (n := (k : Int) * 72057594037927936) (by omega) (by omega), in64 (n := (a : Int) * 4503599627370496) (by omega) (by omega), in64 (n := (b : Int) * 281474976710656) (by omega) (by omega), in64 (n := (c : Int) * 17592186044416) (by omega) (by omega),
    or_sum 56 (k * 72057594037927936) (a * 4503599627370496) (by omega) (by omega) (by omega) (by omega) (by omega) (by omega), or_sum 52 (k * 72057594037927936 + a * 4503599627370496) (b * 281474976710656) (by omega) (by omega) (by omega) (by omega) (by omega) (by omega),
    or_sum 48 (k * 72057594037927936 + a * 4503599627370496 + b * 281474976710656) (c * 17592186044416) (by omega) (by omega) (by omega) (by omega) (by omega) (by omega), or_sum 44 (k * 72057594037927936 + a * 4503599627370496 + b * 281474976710656 + c * 17592186044416) (i % 4294967296) (by omega) (by omega) (by omega) (by omega) (by omega) (by omega)]
  rfl
/-- What isa.Encode hands back of an instruction whose parts are of their size. -/
def enc2 (k a b c : Nat) (i : Int) : Int × Int :=
  match usesOf k with
  | none => (0, 4)
  | some (r, m) => if fits r m a b c i = true then (word5 k a b c i, 0) else (0, 4)
theorem encode_any (k a b c : Nat) (i : Int) (ha : a < 16) (hb : b < 16) (hc : c < 16) (h0 : -2147483648 ≤ i) (h1 : i ≤ 2147483647) (w : World) :
    Calls Try.prog 68 #[.agg #[.int .i64 k, .int .i64 a, .int .i64 b, .int .i64 c, .int .i64 i]] w fun e w' => e = .returned (.tuple #[.int .i64 (enc2 k a b c i).1, .int .i64 (enc2 k a b c i).2]) ∧ Below w.heap.size w w' := by
  unfold enc2
  rcases uses_cases k with ⟨r, m, e, hk, hr, _⟩ | ⟨e, _⟩
  · obtain ⟨_, _, _, e1, e2, e3⟩ := has_is hr
    have ma := may_is a (hasA r) ha
    have mb := may_is b (hasB r) hb
    have mc := may_is c (hasC r) hc
    rw [e]
    dsimp only
    unfold fits
    cases pa : (a == 0 || hasA r)
    · rw [pa] at ma
      simp only [Bool.false_and, Bool.false_eq_true, if_false]
      exact encode_no_a k a b c i r m _ _ _ e e1 e2 e3 ma w
    cases pb : (b == 0 || hasB r)
    · rw [pa] at ma; rw [pb] at mb
      simp only [Bool.true_and, Bool.false_and, Bool.false_eq_true, if_false]
      exact encode_no_b k a b c i r m _ _ _ e e1 e2 e3 ma mb w
    cases pc : (c == 0 || hasC r)
    · rw [pa] at ma; rw [pb] at mb; rw [pc] at mc
      simp only [Bool.true_and, Bool.false_and, Bool.false_eq_true, if_false]
      exact encode_no_c k a b c i r m _ _ _ e e1 e2 e3 ma mb mc w
    rw [pa] at ma; rw [pb] at mb; rw [pc] at mc
    simp only [Bool.true_and]
    rw [← or_chain k a b c i (by omega) ha hb hc]
    cases m
    · by_cases hi : i = 0
      · have x : (i == 0) = true := beq_iff_eq.2 hi
        rw [x]
        simp only [Bool.false_or, if_true]
        exact encode_yes_0 k a b c i r false _ _ _ e e1 e2 e3 ma mb mc rfl (bne_eq_false_iff_eq.2 hi) h0 h1 w
      · have x : (i == 0) = false := beq_eq_false_iff_ne.2 hi
        rw [x]
        simp only [Bool.false_or, Bool.false_eq_true, if_false]
        exact encode_no_i k a b c i r false _ _ _ e e1 e2 e3 ma mb mc rfl (bne_iff_ne.2 hi) w
    · simp only [Bool.true_or, if_true]
      exact encode_yes_i k a b c i r true _ _ _ e e1 e2 e3 ma mb mc rfl h0 h1 w
  · rw [e]
    dsimp only
    exact encode_no_op k a b c i (.inr (by simpa using e)) w
end Go.Proofs.Ytnbgbmddkbneeaa.Obj
end

section
/- What isa.Decode hands back of a word: the instruction that it is, or an error. -/
set_option linter.unusedVariables false
set_option linter.unusedSimpArgs false
namespace Go.Proofs.Ytnbgbmddkbneeaa.Obj
open Go.RowKit Go.Proofs.YtnbgbmddkbneeaaW.PrintWords Go.Proofs.Ytnbgbmddkbneeaa.PLinkWeak
set_option maxHeartbeats 1000000 in
theorem decode_a (v : Int) (k a b c : Nat) (i E W : Int) (h1 : wrap64 (IntKind.u64.wrap v / 72057594037927936) = (k : Int)) (h2 : wrap64 (bits BinOp.and IntKind.u64 (IntKind.u64.wrap v / 4503599627370496) 15) = (a : Int))
    (h3 : wrap64 (bits BinOp.and IntKind.u64 (IntKind.u64.wrap v / 281474976710656) 15) = (b : Int)) (h4 : wrap64 (bits BinOp.and IntKind.u64 (IntKind.u64.wrap v / 17592186044416) 15) = (c : Int)) (h5 : wrap64 (wrap32 (IntKind.u64.wrap v)) = i)
    (ha : a < 16) (hb : b < 16) (hc : c < 16) (i0 : -2147483648 ≤ i) (i1 : i ≤ 2147483647) (he : enc2 k a b c i = (W, E)) (hE : (E != 0) = true) (w : World) :
    Calls Try.prog 56 #[.int .i64 v] w fun e w' => e = .returned (.tuple #[.agg #[.int .i64 0, .int .i64 0, .int .i64 0, .int .i64 0, .int .i64 0], .int .i64 4]) ∧ Below w.heap.size w w' := by
  have hcall := fun wx => encode_any k a b c i ha hb hc i0 i1 wx
  rw [he] at hcall
  dsimp only at hcall
  have H := Lib.hid hcall
  clear hcall he
  go_enter Try.func56, Try.ntmps56
  go_wp2_with (go_at_call 68; refine (H.out _).mono ?_; rintro e w' ⟨rfl, hb⟩; obtain ⟨hc, hf, hz⟩ := bcell' (n := w.heap.size + 2) hb (by simp))
  exact bodyPost_ret (v := .tuple #[.agg #[.int .i64 0, .int .i64 0, .int .i64 0, .int .i64 0, .int .i64 0], .int .i64 4]) (by simp [results, Try.results56, go_sem, hc, hz, hf]) rfl ⟨rfl, by repeat (first | exact ((((Below.refl _ _).alloc (Nat.le_refl _) _).alloc (by simp) _).trans (hb.mono (by simp; omega))) | refine Below.setCell ?_ (by simp) _)⟩
set_option maxHeartbeats 1000000 in
theorem decode_b (v : Int) (k a b c : Nat) (i E W : Int) (h1 : wrap64 (IntKind.u64.wrap v / 72057594037927936) = (k : Int)) (h2 : wrap64 (bits BinOp.and IntKind.u64 (IntKind.u64.wrap v / 4503599627370496) 15) = (a : Int))
    (h3 : wrap64 (bits BinOp.and IntKind.u64 (IntKind.u64.wrap v / 281474976710656) 15) = (b : Int)) (h4 : wrap64 (bits BinOp.and IntKind.u64 (IntKind.u64.wrap v / 17592186044416) 15) = (c : Int)) (h5 : wrap64 (wrap32 (IntKind.u64.wrap v)) = i)
    (ha : a < 16) (hb : b < 16) (hc : c < 16) (i0 : -2147483648 ≤ i) (i1 : i ≤ 2147483647) (he : enc2 k a b c i = (W, E)) (hE : (E != 0) = false) (hW : (W != v) = true) (w : World) :
    Calls Try.prog 56 #[.int .i64 v] w fun e w' => e = .returned (.tuple #[.agg #[.int .i64 0, .int .i64 0, .int .i64 0, .int .i64 0, .int .i64 0], .int .i64 4]) ∧ Below w.heap.size w w' := by
  have hcall := fun wx => encode_any k a b c i ha hb hc i0 i1 wx
  rw [he] at hcall
  dsimp only at hcall
  have H := Lib.hid hcall
  clear hcall he
  go_enter Try.func56, Try.ntmps56
  go_wp2_with (go_at_call 68; refine (H.out _).mono ?_; rintro e w' ⟨rfl, hb⟩; obtain ⟨hc, hf, hz⟩ := bcell' (n := w.heap.size + 2) hb (by simp))
  exact bodyPost_ret (v := .tuple #[.agg #[.int .i64 0, .int .i64 0, .int .i64 0, .int .i64 0, .int .i64 0], .int .i64 4]) (by simp [results, Try.results56, go_sem, hc, hz, hf]) rfl ⟨rfl, by repeat (first | exact ((((Below.refl _ _).alloc (Nat.le_refl _) _).alloc (by simp) _).trans (hb.mono (by simp; omega))) | refine Below.setCell ?_ (by simp) _)⟩
set_option maxHeartbeats 1000000 in
theorem decode_c (v : Int) (k a b c : Nat) (i E W : Int) (h1 : wrap64 (IntKind.u64.wrap v / 72057594037927936) = (k : Int)) (h2 : wrap64 (bits BinOp.and IntKind.u64 (IntKind.u64.wrap v / 4503599627370496) 15) = (a : Int))
    (h3 : wrap64 (bits BinOp.and IntKind.u64 (IntKind.u64.wrap v / 281474976710656) 15) = (b : Int)) (h4 : wrap64 (bits BinOp.and IntKind.u64 (IntKind.u64.wrap v / 17592186044416) 15) = (c : Int)) (h5 : wrap64 (wrap32 (IntKind.u64.wrap v)) = i)
    (ha : a < 16) (hb : b < 16) (hc : c < 16) (i0 : -2147483648 ≤ i) (i1 : i ≤ 2147483647) (he : enc2 k a b c i = (W, E)) (hE : (E != 0) = false) (hW : (W != v) = false) (w : World) :
    Calls Try.prog 56 #[.int .i64 v] w fun e w' => e = .returned (.tuple #[.agg #[.int .i64 k, .int .i64 a, .int .i64 b, .int .i64 c, .int .i64 i], .int .i64 0]) ∧ Below w.heap.size w w' := by
  have hcall := fun wx => encode_any k a b c i ha hb hc i0 i1 wx
  rw [he] at hcall
  dsimp only at hcall
  have H := Lib.hid hcall
  clear hcall he
  go_enter Try.func56, Try.ntmps56
  go_wp2_with (go_at_call 68; refine (H.out _).mono ?_; rintro e w' ⟨rfl, hb⟩; obtain ⟨hc, hf, hz⟩ := bcell' (n := w.heap.size + 2) hb (by simp))
  exact bodyPost_ret (v := .tuple #[.agg #[.int .i64 k, .int .i64 a, .int .i64 b, .int .i64 c, .int .i64 i], .int .i64 0]) (by simp [results, Try.results56, go_sem, hc, hz, hf]) rfl ⟨rfl, by repeat (first | exact ((((Below.refl _ _).alloc (Nat.le_refl _) _).alloc (by simp) _).trans (hb.mono (by simp; omega))) | refine Below.setCell ?_ (by simp) _)⟩
end Go.Proofs.Ytnbgbmddkbneeaa.Obj
end

section
/- What isa.Decode hands back of a word: the instruction that it is, or an error: by the plain reading of the word. -/
set_option linter.unusedVariables false
set_option linter.unusedSimpArgs false
namespace Go.Proofs.Ytnbgbmddkbneeaa.Obj
open Go.RowKit Go.Proofs.YtnbgbmddkbneeaaW.PrintWords Go.Proofs.Ytnbgbmddkbneeaa.PLinkWeak

theorem u64_is (n : Int) : IntKind.u64.wrap n = n % 18446744073709551616 := by simp [IntKind.wrap, IntKind.signed, IntKind.bits]
theorem and15 (x : Int) (h0 : 0 ≤ x) (h1 : x < 18446744073709551616) : bits .and .u64 x 15 = x % 16 :=
  bits_mask .u64 64 (by decide) (fun n h0 h1 => by rw [u64_is]; omega) 4 (by decide) x h0 (by omega)
theorem usesOf_big (k : Nat) (h : 44 ≤ k) : usesOf k = none := by
  unfold usesOf
  repeat rw [if_neg (by omega)]
/-- What 'Decode' hands back of a word: five numbers of the instruction, the error. -/
def DecPost (v : Int) (w : World) (e : Ending) (w' : World) : Prop :=
  e = .returned (.tuple #[.agg #[.int .i64 (dec6 (decI v)).1, .int .i64 (dec6 (decI v)).2.1, .int .i64 (dec6 (decI v)).2.2.1, .int .i64 (dec6 (decI v)).2.2.2.1, .int .i64 (dec6 (decI v)).2.2.2.2.1], .int .i64 (dec6 (decI v)).2.2.2.2.2]) ∧ Below w.heap.size w w'
theorem decode_any (v : Int) (g0 : -9223372036854775808 ≤ v) (g1 : v ≤ 9223372036854775807) (w : World) : Calls Try.prog 56 #[.int .i64 v] w (DecPost v w) := by
  generalize hu : v % 18446744073709551616 = u
  have hu0 : 0 ≤ u ∧ u < 18446744073709551616 := by omega
  have e0 : IntKind.u64.wrap v = u := by rw [u64_is, hu]
  have h1 : wrap64 (IntKind.u64.wrap v / 72057594037927936) = ((u / 72057594037927936).toNat : Int) := by rw [e0]; unfold wrap64; omega
  have h2 : wrap64 (bits BinOp.and IntKind.u64 (IntKind.u64.wrap v / 4503599627370496) 15) = ((u / 4503599627370496 % 16).toNat : Int) := by
    rw [e0, and15 _ (by omega) (by omega)]; unfold wrap64; omega
  have h3 : wrap64 (bits BinOp.and IntKind.u64 (IntKind.u64.wrap v / 281474976710656) 15) = ((u / 281474976710656 % 16).toNat : Int) := by
    rw [e0, and15 _ (by omega) (by omega)]; unfold wrap64; omega
  have h4 : wrap64 (bits BinOp.and IntKind.u64 (IntKind.u64.wrap v / 17592186044416) 15) = ((u / 17592186044416 % 16).toNat : Int) := by
    rw [e0, and15 _ (by omega) (by omega)]; unfold wrap64; omega
  have h5 : wrap64 (wrap32 (IntKind.u64.wrap v)) = wrap32 v := by rw [e0]; unfold wrap64 wrap32; omega
  have ha : (u / 4503599627370496 % 16).toNat < 16 := by omega
  have hb : (u / 281474976710656 % 16).toNat < 16 := by omega
  have hc : (u / 17592186044416 % 16).toNat < 16 := by omega
  have bad : ∀ W E, enc2 (u / 72057594037927936).toNat (u / 4503599627370496 % 16).toNat (u / 281474976710656 % 16).toNat (u / 17592186044416 % 16).toNat (wrap32 v) = (W, E) → decI v = none → (E ≠ 0 ∨ W ≠ v) → Calls Try.prog 56 #[.int .i64 v] w (DecPost v w) := by
    intro W E he hd hn
    unfold DecPost
    rw [hd]
    show Calls Try.prog 56 #[.int .i64 v] w fun e w' => e = .returned (.tuple #[.agg #[.int .i64 0, .int .i64 0, .int .i64 0, .int .i64 0, .int .i64 0], .int .i64 4]) ∧ Below w.heap.size w w'
    by_cases hE : E = 0
    · exact decode_b v _ _ _ _ _ E W h1 h2 h3 h4 h5 ha hb hc (wrap32_in v).1 (wrap32_in v).2 he (bne_eq_false_iff_eq.2 hE) (bne_iff_ne.2 (hn.resolve_left (fun h => h hE))) w
    · exact decode_a v _ _ _ _ _ E W h1 h2 h3 h4 h5 ha hb hc (wrap32_in v).1 (wrap32_in v).2 he (bne_iff_ne.2 hE) w
  by_cases hv : v < 0
  · refine bad 0 4 ?_ ?_ (.inl (by decide))
    · unfold enc2
      rw [usesOf_big _ (by omega)]
    · unfold decI
      rw [if_pos (.inl hv)]
  have huv : u = v := by omega
  subst huv
  have k1 : (u / 72057594037927936).toNat = wOp u := rfl
  have k2 : (u / 4503599627370496 % 16).toNat = wA u := rfl
  have k3 : (u / 281474976710656 % 16).toNat = wB u := rfl
  have k4 : (u / 17592186044416 % 16).toNat = wC u := rfl
  rw [k1, k2, k3, k4] at bad
  rw [k1] at h1; rw [k2] at h2 ha; rw [k3] at h3 hb; rw [k4] at h4 hc
  have hw := word5_of u (by omega) g1
  cases hs : usesOf (wOp u) with
  | none =>
    refine bad 0 4 ?_ ?_ (.inl (by decide))
    · unfold enc2; rw [hs]
    · unfold decI; rw [hs]; split <;> rfl
  | some rm =>
    obtain ⟨r, m⟩ := rm
    by_cases hfit : fits r m (wA u) (wB u) (wC u) (wrap32 u) = true
    case neg =>
      refine bad 0 4 ?_ ?_ (.inl (by decide))
      · unfold enc2; rw [hs]; dsimp only; rw [if_neg hfit]
      · unfold decI; rw [hs]; dsimp only; rw [if_neg hfit]; split <;> rfl
    case pos =>
      have he : enc2 (wOp u) (wA u) (wB u) (wC u) (wrap32 u) = (word5 (wOp u) (wA u) (wB u) (wC u) (wrap32 u), 0) := by
        unfold enc2; rw [hs]; dsimp only; rw [if_pos hfit]
      by_cases hz : u / 4294967296 % 4096 = 0
      · have hd : decI u = some ⟨wOp u, wA u, wB u, wC u, wrap32 u⟩ := by
          unfold decI; rw [hs, if_neg (by omega)]; dsimp only; rw [if_pos hfit]
        unfold DecPost
        rw [hd]
        exact decode_c u _ _ _ _ _ 0 _ h1 h2 h3 h4 h5 ha hb hc (wrap32_in u).1 (wrap32_in u).2 he rfl (bne_eq_false_iff_eq.2 (hw.2 hz)) w
      · refine bad _ 0 he ?_ (.inr fun h => hz (hw.1 h))
        unfold decI
        rw [if_pos (.inr hz)]
end Go.Proofs.Ytnbgbmddkbneeaa.Obj
end

section
set_option linter.unusedVariables false
set_option linter.unusedSimpArgs false
namespace Go.Proofs.Ytnbgbmddkbneeaa.Obj
open Go.RowKit Go.Proofs.YtnbgbmddkbneeaaW.PrintWords
theorem decode_none {v : Int} (g0 : -9223372036854775808 ≤ v) (g1 : v ≤ 9223372036854775807) (hd : decI v = none) (w : World) :
    Calls Try.prog 56 #[.int .i64 v] w fun e w' => e = .returned (.tuple #[.agg #[.int .i64 0, .int .i64 0, .int .i64 0, .int .i64 0, .int .i64 0], .int .i64 4]) ∧ Below w.heap.size w w' := by
  have h := decode_any v g0 g1 w
  unfold DecPost at h
  rw [hd] at h
  exact h
theorem decode_some {v : Int} {x : I5} (g0 : -9223372036854775808 ≤ v) (g1 : v ≤ 9223372036854775807) (hd : decI v = some x) (w : World) :
    Calls Try.prog 56 #[.int .i64 v] w fun e w' => e = .returned (.tuple #[.agg #[.int .i64 x.o, .int .i64 x.a, .int .i64 x.b, .int .i64 x.c, .int .i64 x.i], .int .i64 0]) ∧ Below w.heap.size w w' := by
  have h := decode_any v g0 g1 w
  unfold DecPost at h
  rw [hd] at h
  exact h
end Go.Proofs.Ytnbgbmddkbneeaa.Obj
end

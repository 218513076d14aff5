/- What isa.of hands back: of each op its registers and whether it has a number. -/
import Derived.Test.YtbchiolgbhckhaaBase
import Derived.Great.Walk
import Derived.Deep.WholeRow
import Derived.Deep.CutBlock
import Derived.Deep.DeepCutAuto
set_option linter.unusedVariables false
set_option linter.unusedSimpArgs false
namespace Go.Proofs.Ytbchiolgbhckhaa.Mach
open Go.RowKit Go.Proofs.YtbchiolgbhckhaaW.PrintWords

/-- A variable is made and a whole row stored into it at once. -/
theorem wpList_alloc_store {P : Program} {ops : Array Oper} {rest : List Oper} {o1 o2 : Oper} {a : Act} {w : World} {Q : Exit → Act → World → Prop} (hg1 : o1.guard = none) (hg2 : o2.guard = none) (t : TypeId) (d : Nat) (y : Operand)
    (h1 : o1.op = .alloc t) (hd1 : o1.dst = some d) (h2 : o2.op = .store t (.tmp d) y) (hd2 : o2.dst = none) (cells : Array Value) (hsz : d < a.tmps.size)
    (hz : (P.info? t).map (fun i => (i.zero.map (·.cells.size), i.size)) = some (some cells.size, cells.size)) (hone : cells.all (·.oneCell') = true)
    (hy : ∀ v, (a.put (some d) v).eval y = .agg cells)
    (h : wpList P ops Q rest (a.put (some d) (.pointer (some ⟨w.heap.size, 0, none⟩))) (w.alloc (.cells cells t))) : wpList P ops Q (o1 :: o2 :: rest) a w := by
  cases hq : P.info? t with
  | none => simp [hq] at hz
  | some i =>
    simp only [hq, Option.map_some, Option.some.injEq, Prod.mk.injEq] at hz
    obtain ⟨hz1, hz2⟩ := hz
    cases hzz : i.zero with
    | none => simp [hzz] at hz1
    | some z =>
      simp only [hzz, Option.map_some, Option.some.injEq] at hz1
      refine wpList_plain hg1 fun K hK => ?_
      unfold Oper.wp execOp
      have hal : (Instr.alloc t true (.tuple #[])).run P w = .ok (.pointer (some ⟨w.heap.size, 0, none⟩)) (w.alloc (.cells z.cells t)) := by
        simp [Instr.alloc, zeroValue, typeInfo, hq, hzz, newVar, newRow]
      simp only [h1, Sem.run_bind, hal, Result.andThen_ok]
      simp only [Sem.run_pure, Oper.upon_value, hd1]
      refine hK _ _ ?_
      have hx : (a.put (some d) (.pointer (some ⟨w.heap.size, 0, none⟩))).eval (.tmp d) = .pointer (some ⟨w.heap.size, 0, none⟩) := by
        simp [Act.put, Act.eval, hsz]
      refine wpList_store_row hg2 t (.tmp d) y h2 w.heap.size cells hx (hy _) t z.cells (heap_alloc_last w _) (by simp [hq, hz2]) hz1 hone ?_
      rw [World.setRow_alloc_new, hd2]
      exact h

/-- The operations of a list that build values alone, run one behind the other. -/
def buildsTo (P : Program) : List Oper → Act → Option Act
  | [], a => some a
  | o :: l, a =>
    match o.op, o.guard with
    | .build t parts, Option.none => match P.built t (parts.map fun (i, x) => (i, a.eval x)).toList with
      | some cells => buildsTo P l (a.put o.dst (.agg cells))
      | Option.none => Option.none
    | _, _ => Option.none
theorem wpList_builds {P : Program} {ops : Array Oper} {w : World} {Q : Exit → Act → World → Prop} {l2 : List Oper} : ∀ (l1 : List Oper) (a a' : Act), buildsTo P l1 a = some a' → wpList P ops Q l2 a' w → wpList P ops Q (l1 ++ l2) a w
  | [], a, a', h, hk => by
    simp only [buildsTo, Option.some.injEq] at h
    subst h
    exact hk
  | o :: l, a, a', h, hk => by
    unfold buildsTo at h
    split at h
    · rename_i t parts ho hg
      split at h
      · rename_i cells hc
        exact wpList_buildTo hg t parts ho o.dst rfl cells hc (wpList_builds l _ a' h hk)
      · cases h
    · cases h
/-- A frame: a slot's value, whatever else it holds. -/
theorem wpList_builds_at {P : Program} {ops : Array Oper} {w : World} {Q : Exit → Act → World → Prop} {l1 l2 : List Oper} {a : Act} (n d : Nat) (v : Value)
    (h : (buildsTo P l1 a).map (fun a' => (a'.tmps.size, a'.tmps.getD d undef, a'.defers)) = some (n, v, [])) 
    (hk : ∀ a' : Act, a'.tmps.size = n → a'.tmps.getD d undef = v → a'.defers = [] → wpList P ops Q l2 a' w) : wpList P ops Q (l1 ++ l2) a w := by
  cases hb : buildsTo P l1 a with
  | none => simp [hb] at h
  | some a' =>
    simp only [hb, Option.map_some, Option.some.injEq, Prod.mk.injEq] at h
    exact wpList_builds l1 a a' hb (hk a' h.1 h.2.1 h.2.2)

theorem wpList_builds_n {P : Program} {ops : Array Oper} {w : World} {Q : Exit → Act → World → Prop} {l : List Oper} {a : Act} (n : Nat) (a' : Act) (h : buildsTo P (l.take n) a = some a') (hk : wpList P ops Q (l.drop n) a' w) : wpList P ops Q l a w := by
  rw [← List.take_append_drop n l]
  exact wpList_builds _ a a' h hk

def plainCells : Array Value := #[.string ⟨#[104, 97, 108, 116]⟩, .int .i64 0, .bool false, .string ⟨#[116, 114, 97, 112]⟩, .int .i64 0, .bool true, .string ⟨#[109, 111, 118, 101]⟩, .int .i64 3, .bool false, .string ⟨#[99, 111, 110, 115, 116]⟩, .int .i64 1, .bool true, .string ⟨#[104, 105, 103, 104]⟩, .int .i64 1, .bool true, .string ⟨#[108, 111, 97, 100]⟩, .int .i64 3, .bool true, .string ⟨#[115, 116, 111, 114, 101]⟩, .int .i64 3, .bool true, .string ⟨#[106, 117, 109, 112]⟩, .int .i64 0, .bool true, .string ⟨#[122, 101, 114, 111]⟩, .int .i64 1, .bool true, .string ⟨#[115, 111, 109, 101]⟩, .int .i64 1, .bool true, .string ⟨#[99, 97, 108, 108]⟩, .int .i64 0, .bool true, .string ⟨#[97, 116]⟩, .int .i64 1, .bool false, .string ⟨#[114, 101, 116]⟩, .int .i64 0, .bool false, .string ⟨#[105, 110]⟩, .int .i64 1, .bool false, .string ⟨#[111, 117, 116]⟩, .int .i64 1, .bool false, .string ⟨#[114, 111, 111, 109]⟩, .int .i64 1, .bool false]
def twoCells : Array Value := #[.string ⟨#[97, 100, 100]⟩, .string ⟨#[115, 117, 98]⟩, .string ⟨#[109, 117, 108]⟩, .string ⟨#[100, 105, 118]⟩, .string ⟨#[114, 101, 109]⟩, .string ⟨#[97, 110, 100]⟩, .string ⟨#[111, 114]⟩, .string ⟨#[120, 111, 114]⟩, .string ⟨#[115, 104, 108]⟩, .string ⟨#[115, 104, 114]⟩, .string ⟨#[101, 113]⟩, .string ⟨#[110, 101]⟩, .string ⟨#[108, 116]⟩, .string ⟨#[108, 101]⟩, .string ⟨#[103, 116]⟩, .string ⟨#[103, 101]⟩]
def oneCells : Array Value := #[.string ⟨#[110, 101, 103]⟩, .string ⟨#[102, 108, 105, 112]⟩, .string ⟨#[98, 97, 110, 103]⟩]
/-- What an op has: its registers (1: A, 2: B, 4: C), and whether a number. -/
def usesOf (op : Nat) : Option (Int × Bool) :=
  if op = 0 then some (0, false)
  else if op = 1 then some (0, true)
  else if op = 2 then some (3, false)
  else if op = 3 then some (1, true)
  else if op = 4 then some (1, true)
  else if op = 5 then some (3, true)
  else if op = 6 then some (3, true)
  else if op = 7 then some (0, true)
  else if op = 8 then some (1, true)
  else if op = 9 then some (1, true)
  else if op = 10 then some (0, true)
  else if op = 11 then some (1, false)
  else if op = 12 then some (0, false)
  else if op = 13 then some (1, false)
  else if op = 14 then some (1, false)
  else if op = 15 then some (1, false)
  else if 17 ≤ op ∧ op ≤ 32 then some (7, false)
  else if 41 ≤ op ∧ op ≤ 43 then some (3, false)
  else none

theorem plain_at (k : Nat) (hk : k < 16) : ∃ s r i, plainCells[k * 3]? = some (.string s) ∧ plainCells[k * 3 + 1]? = some (.int .i64 r) ∧ plainCells[k * 3 + 2]? = some (.bool i) ∧ usesOf k = some (r, i) := by
  have h : k = 0 ∨ k = 1 ∨ k = 2 ∨ k = 3 ∨ k = 4 ∨ k = 5 ∨ k = 6 ∨ k = 7 ∨ k = 8 ∨ k = 9 ∨ k = 10 ∨ k = 11 ∨ k = 12 ∨ k = 13 ∨ k = 14 ∨ k = 15 := by omega
  rcases h with rfl | rfl | rfl | rfl | rfl | rfl | rfl | rfl | rfl | rfl | rfl | rfl | rfl | rfl | rfl | rfl <;> exact ⟨_, _, _, rfl, rfl, rfl, rfl⟩
theorem two_at (k : Nat) (hk : k < 16) : ∃ s, twoCells[k]? = some (.string s) := by
  have h : k = 0 ∨ k = 1 ∨ k = 2 ∨ k = 3 ∨ k = 4 ∨ k = 5 ∨ k = 6 ∨ k = 7 ∨ k = 8 ∨ k = 9 ∨ k = 10 ∨ k = 11 ∨ k = 12 ∨ k = 13 ∨ k = 14 ∨ k = 15 := by omega
  rcases h with rfl | rfl | rfl | rfl | rfl | rfl | rfl | rfl | rfl | rfl | rfl | rfl | rfl | rfl | rfl | rfl <;> exact ⟨_, rfl⟩
theorem one_at (k : Nat) (hk : k < 3) : ∃ s, oneCells[k]? = some (.string s) := by
  have h : k = 0 ∨ k = 1 ∨ k = 2 := by omega
  rcases h with rfl | rfl | rfl <;> exact ⟨_, rfl⟩

set_option maxRecDepth 100000 in
set_option maxHeartbeats 1000000 in
theorem of_plain (k : Nat) (hk : k < 16) (w : World) (s : ByteArray) (r : Int) (i : Bool) (h0 : plainCells[k * 3]? = some (.string s)) (h1 : plainCells[k * 3 + 1]? = some (.int .i64 r)) (h2 : plainCells[k * 3 + 2]? = some (.bool i)) :
    Calls Try.prog 69 #[.int .i64 ↑k] w fun e w' => e = .returned (.tuple #[.agg #[.string s, .int .i64 r, .bool i], .bool true]) ∧ Below w.heap.size w w' := by
  have hk0 : (0 : Int) ≤ k := by omega
  have hk1 : (k : Int) < 16 := by omega
  go_enter Try.func69, Try.ntmps69
  go_upto_region 1 with (fail)
  go_cut [4] (fun v wc => v = .pointer (some ⟨w.heap.size + 1, 0, none⟩) ∧ wc = ((w.alloc (.cells #[.string ⟨#[]⟩, .int .i64 0, .bool false] 88)).alloc (.cells plainCells 94)))
  case first =>
    apply wp_region_lit
    refine wpList_builds_n 17 { tmps := #[.int .i64 ↑k, undef, .pointer (some ⟨w.heap.size, 0, none⟩), .bool false, undef, undef, undef, .agg #[.string ⟨#[104, 97, 108, 116]⟩, .int .i64 0, .bool false], .agg #[.string ⟨#[116, 114, 97, 112]⟩, .int .i64 0, .bool true], .agg #[.string ⟨#[109, 111, 118, 101]⟩, .int .i64 3, .bool false], .agg #[.string ⟨#[99, 111, 110, 115, 116]⟩, .int .i64 1, .bool true], .agg #[.string ⟨#[104, 105, 103, 104]⟩, .int .i64 1, .bool true], .agg #[.string ⟨#[108, 111, 97, 100]⟩, .int .i64 3, .bool true], .agg #[.string ⟨#[115, 116, 111, 114, 101]⟩, .int .i64 3, .bool true], .agg #[.string ⟨#[106, 117, 109, 112]⟩, .int .i64 0, .bool true], .agg #[.string ⟨#[122, 101, 114, 111]⟩, .int .i64 1, .bool true], .agg #[.string ⟨#[115, 111, 109, 101]⟩, .int .i64 1, .bool true], .agg #[.string ⟨#[99, 97, 108, 108]⟩, .int .i64 0, .bool true], .agg #[.string ⟨#[97, 116]⟩, .int .i64 1, .bool false], .agg #[.string ⟨#[114, 101, 116]⟩, .int .i64 0, .bool false], .agg #[.string ⟨#[105, 110]⟩, .int .i64 1, .bool false], .agg #[.string ⟨#[111, 117, 116]⟩, .int .i64 1, .bool false], .agg #[.string ⟨#[114, 111, 111, 109]⟩, .int .i64 1, .bool false], .agg plainCells, undef, undef, undef, undef, undef, undef, undef, undef, undef, undef, undef, undef, undef, undef, undef, undef, undef, undef, undef, undef, undef, undef, undef, undef, undef, undef, undef, undef, undef, undef, undef, undef, undef, undef, undef, undef, undef, undef, undef], defers := [] } (by kernel_rfl) ?_
    simp only [List.drop_succ_cons, List.drop_zero]
    refine wpList_alloc_store rfl rfl 94 4 (.tmp 23) rfl rfl rfl rfl plainCells (by simp [Act.put]) (by kernel_rfl) (by kernel_rfl) (fun v => rfl) ?_
    go_wp2
    go_meet
    case rel => exact ⟨by simp, rfl⟩
  obtain ⟨rfl, rfl⟩ := hcut
  go_upto_region 2 with (fail)
  go_cut [5] (fun v wc => v = .pointer (some ⟨w.heap.size + 2, 0, none⟩) ∧ wc = (((w.alloc (.cells #[.string ⟨#[]⟩, .int .i64 0, .bool false] 88)).alloc (.cells plainCells 94)).alloc (.cells twoCells 95)))
  case first =>
    apply wp_region_lit
    refine wpList_buildTo rfl 95 _ rfl (some 24) rfl twoCells (by kernel_rfl) ?_
    refine wpList_alloc_store rfl rfl 95 5 (.tmp 24) rfl rfl rfl rfl twoCells (by simp [Act.put]) (by kernel_rfl) (by kernel_rfl) (fun v => rfl) ?_
    go_wp2
    go_meet
    case rel => exact ⟨by simp, rfl⟩
  obtain ⟨rfl, rfl⟩ := hcut
  go_upto_region 3 with (fail)
  go_cut [6] (fun v wc => v = .pointer (some ⟨w.heap.size + 3, 0, none⟩) ∧ wc = ((((w.alloc (.cells #[.string ⟨#[]⟩, .int .i64 0, .bool false] 88)).alloc (.cells plainCells 94)).alloc (.cells twoCells 95)).alloc (.cells oneCells 96)))
  case first =>
    apply wp_region_lit
    refine wpList_buildTo rfl 96 _ rfl (some 25) rfl oneCells (by kernel_rfl) ?_
    refine wpList_alloc_store rfl rfl 96 6 (.tmp 25) rfl rfl rfl rfl oneCells (by simp [Act.put]) (by kernel_rfl) (by kernel_rfl) (fun v => rfl) ?_
    go_wp2
    go_meet
    case rel => exact ⟨by simp, rfl⟩
  obtain ⟨rfl, rfl⟩ := hcut
  go_wp2
  exact bodyPost_ret (v := .tuple #[.agg #[.string s, .int .i64 r, .bool i], .bool true]) (by simp [results, Try.results69, go_sem]) rfl ⟨rfl, ((((Below.refl _ _).alloc (Nat.le_refl _) _).alloc (by simp) _).alloc (by simp; omega) _).alloc (by simp; omega) _⟩
set_option maxRecDepth 100000 in
set_option maxHeartbeats 1000000 in
theorem of_two (k : Nat) (hk : k < 16) (w : World) (s : ByteArray) (h0 : twoCells[k]? = some (.string s)) :
    Calls Try.prog 69 #[.int .i64 (↑k + 17)] w fun e w' => e = .returned (.tuple #[.agg #[.string s, .int .i64 7, .bool false], .bool true]) ∧ Below w.heap.size w w' := by
  have hk0 : (0 : Int) ≤ k := by omega
  have hk1 : (k : Int) < 16 := by omega
  have g0 : (0 : Int) ≤ (k : Int) + 17 := by omega
  have g1 : ¬ (k : Int) + 17 < 16 := by omega
  have g2 : (17 : Int) ≤ (k : Int) + 17 := by omega
  have g3 : (k : Int) + 17 ≤ 32 := by omega
  have e1 : (k : Int) + 17 - 16 - 1 = k := by omega
  go_enter Try.func69, Try.ntmps69
  go_upto_region 1 with (fail)
  go_cut [4] (fun v wc => v = .pointer (some ⟨w.heap.size + 1, 0, none⟩) ∧ wc = ((w.alloc (.cells #[.string ⟨#[]⟩, .int .i64 0, .bool false] 88)).alloc (.cells plainCells 94)))
  case first =>
    apply wp_region_lit
    refine wpList_builds_n 17 { tmps := #[.int .i64 (↑k + 17), undef, .pointer (some ⟨w.heap.size, 0, none⟩), .bool false, undef, undef, undef, .agg #[.string ⟨#[104, 97, 108, 116]⟩, .int .i64 0, .bool false], .agg #[.string ⟨#[116, 114, 97, 112]⟩, .int .i64 0, .bool true], .agg #[.string ⟨#[109, 111, 118, 101]⟩, .int .i64 3, .bool false], .agg #[.string ⟨#[99, 111, 110, 115, 116]⟩, .int .i64 1, .bool true], .agg #[.string ⟨#[104, 105, 103, 104]⟩, .int .i64 1, .bool true], .agg #[.string ⟨#[108, 111, 97, 100]⟩, .int .i64 3, .bool true], .agg #[.string ⟨#[115, 116, 111, 114, 101]⟩, .int .i64 3, .bool true], .agg #[.string ⟨#[106, 117, 109, 112]⟩, .int .i64 0, .bool true], .agg #[.string ⟨#[122, 101, 114, 111]⟩, .int .i64 1, .bool true], .agg #[.string ⟨#[115, 111, 109, 101]⟩, .int .i64 1, .bool true], .agg #[.string ⟨#[99, 97, 108, 108]⟩, .int .i64 0, .bool true], .agg #[.string ⟨#[97, 116]⟩, .int .i64 1, .bool false], .agg #[.string ⟨#[114, 101, 116]⟩, .int .i64 0, .bool false], .agg #[.string ⟨#[105, 110]⟩, .int .i64 1, .bool false], .agg #[.string ⟨#[111, 117, 116]⟩, .int .i64 1, .bool false], .agg #[.string ⟨#[114, 111, 111, 109]⟩, .int .i64 1, .bool false], .agg plainCells, undef, undef, undef, undef, undef, undef, undef, undef, undef, undef, undef, undef, undef, undef, undef, undef, undef, undef, undef, undef, undef, undef, undef, undef, undef, undef, undef, undef, undef, undef, undef, undef, undef, undef, undef, undef, undef, undef, undef], defers := [] } (by kernel_rfl) ?_
    simp only [List.drop_succ_cons, List.drop_zero]
    refine wpList_alloc_store rfl rfl 94 4 (.tmp 23) rfl rfl rfl rfl plainCells (by simp [Act.put]) (by kernel_rfl) (by kernel_rfl) (fun v => rfl) ?_
    go_wp2
    go_meet
    case rel => exact ⟨by simp, rfl⟩
  obtain ⟨rfl, rfl⟩ := hcut
  go_upto_region 2 with (fail)
  go_cut [5] (fun v wc => v = .pointer (some ⟨w.heap.size + 2, 0, none⟩) ∧ wc = (((w.alloc (.cells #[.string ⟨#[]⟩, .int .i64 0, .bool false] 88)).alloc (.cells plainCells 94)).alloc (.cells twoCells 95)))
  case first =>
    apply wp_region_lit
    refine wpList_buildTo rfl 95 _ rfl (some 24) rfl twoCells (by kernel_rfl) ?_
    refine wpList_alloc_store rfl rfl 95 5 (.tmp 24) rfl rfl rfl rfl twoCells (by simp [Act.put]) (by kernel_rfl) (by kernel_rfl) (fun v => rfl) ?_
    go_wp2
    go_meet
    case rel => exact ⟨by simp, rfl⟩
  obtain ⟨rfl, rfl⟩ := hcut
  go_upto_region 3 with (fail)
  go_cut [6] (fun v wc => v = .pointer (some ⟨w.heap.size + 3, 0, none⟩) ∧ wc = ((((w.alloc (.cells #[.string ⟨#[]⟩, .int .i64 0, .bool false] 88)).alloc (.cells plainCells 94)).alloc (.cells twoCells 95)).alloc (.cells oneCells 96)))
  case first =>
    apply wp_region_lit
    refine wpList_buildTo rfl 96 _ rfl (some 25) rfl oneCells (by kernel_rfl) ?_
    refine wpList_alloc_store rfl rfl 96 6 (.tmp 25) rfl rfl rfl rfl oneCells (by simp [Act.put]) (by kernel_rfl) (by kernel_rfl) (fun v => rfl) ?_
    go_wp2
    go_meet
    case rel => exact ⟨by simp, rfl⟩
  obtain ⟨rfl, rfl⟩ := hcut
  go_wp2
  exact bodyPost_ret (v := .tuple #[.agg #[.string s, .int .i64 7, .bool false], .bool true]) (by simp [results, Try.results69, go_sem]) rfl ⟨rfl, ((((Below.refl _ _).alloc (Nat.le_refl _) _).alloc (by simp) _).alloc (by simp; omega) _).alloc (by simp; omega) _⟩
set_option maxRecDepth 100000 in
set_option maxHeartbeats 1000000 in
theorem of_one (k : Nat) (hk : k < 3) (w : World) (s : ByteArray) (h0 : oneCells[k]? = some (.string s)) :
    Calls Try.prog 69 #[.int .i64 (↑k + 41)] w fun e w' => e = .returned (.tuple #[.agg #[.string s, .int .i64 3, .bool false], .bool true]) ∧ Below w.heap.size w w' := by
  have hk0 : (0 : Int) ≤ k := by omega
  have hk1 : (k : Int) < 3 := by omega
  have g0 : (0 : Int) ≤ (k : Int) + 41 := by omega
  have g1 : ¬ (k : Int) + 41 < 16 := by omega
  have g2 : (17 : Int) ≤ (k : Int) + 41 := by omega
  have g3 : ¬ (k : Int) + 41 ≤ 32 := by omega
  have g4 : (41 : Int) ≤ (k : Int) + 41 := by omega
  have g5 : (k : Int) + 41 ≤ 43 := by omega
  have e1 : (k : Int) + 41 - 40 - 1 = k := by omega
  go_enter Try.func69, Try.ntmps69
  go_upto_region 1 with (fail)
  go_cut [4] (fun v wc => v = .pointer (some ⟨w.heap.size + 1, 0, none⟩) ∧ wc = ((w.alloc (.cells #[.string ⟨#[]⟩, .int .i64 0, .bool false] 88)).alloc (.cells plainCells 94)))
  case first =>
    apply wp_region_lit
    refine wpList_builds_n 17 { tmps := #[.int .i64 (↑k + 41), undef, .pointer (some ⟨w.heap.size, 0, none⟩), .bool false, undef, undef, undef, .agg #[.string ⟨#[104, 97, 108, 116]⟩, .int .i64 0, .bool false], .agg #[.string ⟨#[116, 114, 97, 112]⟩, .int .i64 0, .bool true], .agg #[.string ⟨#[109, 111, 118, 101]⟩, .int .i64 3, .bool false], .agg #[.string ⟨#[99, 111, 110, 115, 116]⟩, .int .i64 1, .bool true], .agg #[.string ⟨#[104, 105, 103, 104]⟩, .int .i64 1, .bool true], .agg #[.string ⟨#[108, 111, 97, 100]⟩, .int .i64 3, .bool true], .agg #[.string ⟨#[115, 116, 111, 114, 101]⟩, .int .i64 3, .bool true], .agg #[.string ⟨#[106, 117, 109, 112]⟩, .int .i64 0, .bool true], .agg #[.string ⟨#[122, 101, 114, 111]⟩, .int .i64 1, .bool true], .agg #[.string ⟨#[115, 111, 109, 101]⟩, .int .i64 1, .bool true], .agg #[.string ⟨#[99, 97, 108, 108]⟩, .int .i64 0, .bool true], .agg #[.string ⟨#[97, 116]⟩, .int .i64 1, .bool false], .agg #[.string ⟨#[114, 101, 116]⟩, .int .i64 0, .bool false], .agg #[.string ⟨#[105, 110]⟩, .int .i64 1, .bool false], .agg #[.string ⟨#[111, 117, 116]⟩, .int .i64 1, .bool false], .agg #[.string ⟨#[114, 111, 111, 109]⟩, .int .i64 1, .bool false], .agg plainCells, undef, undef, undef, undef, undef, undef, undef, undef, undef, undef, undef, undef, undef, undef, undef, undef, undef, undef, undef, undef, undef, undef, undef, undef, undef, undef, undef, undef, undef, undef, undef, undef, undef, undef, undef, undef, undef, undef, undef], defers := [] } (by kernel_rfl) ?_
    simp only [List.drop_succ_cons, List.drop_zero]
    refine wpList_alloc_store rfl rfl 94 4 (.tmp 23) rfl rfl rfl rfl plainCells (by simp [Act.put]) (by kernel_rfl) (by kernel_rfl) (fun v => rfl) ?_
    go_wp2
    go_meet
    case rel => exact ⟨by simp, rfl⟩
  obtain ⟨rfl, rfl⟩ := hcut
  go_upto_region 2 with (fail)
  go_cut [5] (fun v wc => v = .pointer (some ⟨w.heap.size + 2, 0, none⟩) ∧ wc = (((w.alloc (.cells #[.string ⟨#[]⟩, .int .i64 0, .bool false] 88)).alloc (.cells plainCells 94)).alloc (.cells twoCells 95)))
  case first =>
    apply wp_region_lit
    refine wpList_buildTo rfl 95 _ rfl (some 24) rfl twoCells (by kernel_rfl) ?_
    refine wpList_alloc_store rfl rfl 95 5 (.tmp 24) rfl rfl rfl rfl twoCells (by simp [Act.put]) (by kernel_rfl) (by kernel_rfl) (fun v => rfl) ?_
    go_wp2
    go_meet
    case rel => exact ⟨by simp, rfl⟩
  obtain ⟨rfl, rfl⟩ := hcut
  go_upto_region 3 with (fail)
  go_cut [6] (fun v wc => v = .pointer (some ⟨w.heap.size + 3, 0, none⟩) ∧ wc = ((((w.alloc (.cells #[.string ⟨#[]⟩, .int .i64 0, .bool false] 88)).alloc (.cells plainCells 94)).alloc (.cells twoCells 95)).alloc (.cells oneCells 96)))
  case first =>
    apply wp_region_lit
    refine wpList_buildTo rfl 96 _ rfl (some 25) rfl oneCells (by kernel_rfl) ?_
    refine wpList_alloc_store rfl rfl 96 6 (.tmp 25) rfl rfl rfl rfl oneCells (by simp [Act.put]) (by kernel_rfl) (by kernel_rfl) (fun v => rfl) ?_
    go_wp2
    go_meet
    case rel => exact ⟨by simp, rfl⟩
  obtain ⟨rfl, rfl⟩ := hcut
  go_wp2
  exact bodyPost_ret (v := .tuple #[.agg #[.string s, .int .i64 3, .bool false], .bool true]) (by simp [results, Try.results69, go_sem]) rfl ⟨rfl, ((((Below.refl _ _).alloc (Nat.le_refl _) _).alloc (by simp) _).alloc (by simp; omega) _).alloc (by simp; omega) _⟩
set_option maxRecDepth 100000 in
set_option maxHeartbeats 1000000 in
theorem of_low (n : Int) (h : n < 0) (w : World) :
    Calls Try.prog 69 #[.int .i64 n] w fun e w' => e = .returned (.tuple #[.agg #[.string ⟨#[]⟩, .int .i64 0, .bool false], .bool false]) ∧ Below w.heap.size w w' := by
  go_enter Try.func69, Try.ntmps69
  go_upto_region 1 with (fail)
  go_cut [4] (fun v wc => v = .pointer (some ⟨w.heap.size + 1, 0, none⟩) ∧ wc = ((w.alloc (.cells #[.string ⟨#[]⟩, .int .i64 0, .bool false] 88)).alloc (.cells plainCells 94)))
  case first =>
    apply wp_region_lit
    refine wpList_builds_n 17 { tmps := #[.int .i64 n, undef, .pointer (some ⟨w.heap.size, 0, none⟩), .bool false, undef, undef, undef, .agg #[.string ⟨#[104, 97, 108, 116]⟩, .int .i64 0, .bool false], .agg #[.string ⟨#[116, 114, 97, 112]⟩, .int .i64 0, .bool true], .agg #[.string ⟨#[109, 111, 118, 101]⟩, .int .i64 3, .bool false], .agg #[.string ⟨#[99, 111, 110, 115, 116]⟩, .int .i64 1, .bool true], .agg #[.string ⟨#[104, 105, 103, 104]⟩, .int .i64 1, .bool true], .agg #[.string ⟨#[108, 111, 97, 100]⟩, .int .i64 3, .bool true], .agg #[.string ⟨#[115, 116, 111, 114, 101]⟩, .int .i64 3, .bool true], .agg #[.string ⟨#[106, 117, 109, 112]⟩, .int .i64 0, .bool true], .agg #[.string ⟨#[122, 101, 114, 111]⟩, .int .i64 1, .bool true], .agg #[.string ⟨#[115, 111, 109, 101]⟩, .int .i64 1, .bool true], .agg #[.string ⟨#[99, 97, 108, 108]⟩, .int .i64 0, .bool true], .agg #[.string ⟨#[97, 116]⟩, .int .i64 1, .bool false], .agg #[.string ⟨#[114, 101, 116]⟩, .int .i64 0, .bool false], .agg #[.string ⟨#[105, 110]⟩, .int .i64 1, .bool false], .agg #[.string ⟨#[111, 117, 116]⟩, .int .i64 1, .bool false], .agg #[.string ⟨#[114, 111, 111, 109]⟩, .int .i64 1, .bool false], .agg plainCells, undef, undef, undef, undef, undef, undef, undef, undef, undef, undef, undef, undef, undef, undef, undef, undef, undef, undef, undef, undef, undef, undef, undef, undef, undef, undef, undef, undef, undef, undef, undef, undef, undef, undef, undef, undef, undef, undef, undef], defers := [] } (by kernel_rfl) ?_
    simp only [List.drop_succ_cons, List.drop_zero]
    refine wpList_alloc_store rfl rfl 94 4 (.tmp 23) rfl rfl rfl rfl plainCells (by simp [Act.put]) (by kernel_rfl) (by kernel_rfl) (fun v => rfl) ?_
    go_wp2
    go_meet
    case rel => exact ⟨by simp, rfl⟩
  obtain ⟨rfl, rfl⟩ := hcut
  go_upto_region 2 with (fail)
  go_cut [5] (fun v wc => v = .pointer (some ⟨w.heap.size + 2, 0, none⟩) ∧ wc = (((w.alloc (.cells #[.string ⟨#[]⟩, .int .i64 0, .bool false] 88)).alloc (.cells plainCells 94)).alloc (.cells twoCells 95)))
  case first =>
    apply wp_region_lit
    refine wpList_buildTo rfl 95 _ rfl (some 24) rfl twoCells (by kernel_rfl) ?_
    refine wpList_alloc_store rfl rfl 95 5 (.tmp 24) rfl rfl rfl rfl twoCells (by simp [Act.put]) (by kernel_rfl) (by kernel_rfl) (fun v => rfl) ?_
    go_wp2
    go_meet
    case rel => exact ⟨by simp, rfl⟩
  obtain ⟨rfl, rfl⟩ := hcut
  go_upto_region 3 with (fail)
  go_cut [6] (fun v wc => v = .pointer (some ⟨w.heap.size + 3, 0, none⟩) ∧ wc = ((((w.alloc (.cells #[.string ⟨#[]⟩, .int .i64 0, .bool false] 88)).alloc (.cells plainCells 94)).alloc (.cells twoCells 95)).alloc (.cells oneCells 96)))
  case first =>
    apply wp_region_lit
    refine wpList_buildTo rfl 96 _ rfl (some 25) rfl oneCells (by kernel_rfl) ?_
    refine wpList_alloc_store rfl rfl 96 6 (.tmp 25) rfl rfl rfl rfl oneCells (by simp [Act.put]) (by kernel_rfl) (by kernel_rfl) (fun v => rfl) ?_
    go_wp2
    go_meet
    case rel => exact ⟨by simp, rfl⟩
  obtain ⟨rfl, rfl⟩ := hcut
  go_wp2
  exact bodyPost_ret (v := .tuple #[.agg #[.string ⟨#[]⟩, .int .i64 0, .bool false], .bool false]) (by simp [results, Try.results69, go_sem]) rfl ⟨rfl, ((((Below.refl _ _).alloc (Nat.le_refl _) _).alloc (by simp) _).alloc (by simp; omega) _).alloc (by simp; omega) _⟩
set_option maxRecDepth 100000 in
set_option maxHeartbeats 1000000 in
theorem of_16 (w : World) :
    Calls Try.prog 69 #[.int .i64 16] w fun e w' => e = .returned (.tuple #[.agg #[.string ⟨#[]⟩, .int .i64 0, .bool false], .bool false]) ∧ Below w.heap.size w w' := by
  go_enter Try.func69, Try.ntmps69
  go_upto_region 1 with (fail)
  go_cut [4] (fun v wc => v = .pointer (some ⟨w.heap.size + 1, 0, none⟩) ∧ wc = ((w.alloc (.cells #[.string ⟨#[]⟩, .int .i64 0, .bool false] 88)).alloc (.cells plainCells 94)))
  case first =>
    apply wp_region_lit
    refine wpList_builds_n 17 { tmps := #[.int .i64 16, undef, .pointer (some ⟨w.heap.size, 0, none⟩), .bool false, undef, undef, undef, .agg #[.string ⟨#[104, 97, 108, 116]⟩, .int .i64 0, .bool false], .agg #[.string ⟨#[116, 114, 97, 112]⟩, .int .i64 0, .bool true], .agg #[.string ⟨#[109, 111, 118, 101]⟩, .int .i64 3, .bool false], .agg #[.string ⟨#[99, 111, 110, 115, 116]⟩, .int .i64 1, .bool true], .agg #[.string ⟨#[104, 105, 103, 104]⟩, .int .i64 1, .bool true], .agg #[.string ⟨#[108, 111, 97, 100]⟩, .int .i64 3, .bool true], .agg #[.string ⟨#[115, 116, 111, 114, 101]⟩, .int .i64 3, .bool true], .agg #[.string ⟨#[106, 117, 109, 112]⟩, .int .i64 0, .bool true], .agg #[.string ⟨#[122, 101, 114, 111]⟩, .int .i64 1, .bool true], .agg #[.string ⟨#[115, 111, 109, 101]⟩, .int .i64 1, .bool true], .agg #[.string ⟨#[99, 97, 108, 108]⟩, .int .i64 0, .bool true], .agg #[.string ⟨#[97, 116]⟩, .int .i64 1, .bool false], .agg #[.string ⟨#[114, 101, 116]⟩, .int .i64 0, .bool false], .agg #[.string ⟨#[105, 110]⟩, .int .i64 1, .bool false], .agg #[.string ⟨#[111, 117, 116]⟩, .int .i64 1, .bool false], .agg #[.string ⟨#[114, 111, 111, 109]⟩, .int .i64 1, .bool false], .agg plainCells, undef, undef, undef, undef, undef, undef, undef, undef, undef, undef, undef, undef, undef, undef, undef, undef, undef, undef, undef, undef, undef, undef, undef, undef, undef, undef, undef, undef, undef, undef, undef, undef, undef, undef, undef, undef, undef, undef, undef], defers := [] } (by kernel_rfl) ?_
    simp only [List.drop_succ_cons, List.drop_zero]
    refine wpList_alloc_store rfl rfl 94 4 (.tmp 23) rfl rfl rfl rfl plainCells (by simp [Act.put]) (by kernel_rfl) (by kernel_rfl) (fun v => rfl) ?_
    go_wp2
    go_meet
    case rel => exact ⟨by simp, rfl⟩
  obtain ⟨rfl, rfl⟩ := hcut
  go_upto_region 2 with (fail)
  go_cut [5] (fun v wc => v = .pointer (some ⟨w.heap.size + 2, 0, none⟩) ∧ wc = (((w.alloc (.cells #[.string ⟨#[]⟩, .int .i64 0, .bool false] 88)).alloc (.cells plainCells 94)).alloc (.cells twoCells 95)))
  case first =>
    apply wp_region_lit
    refine wpList_buildTo rfl 95 _ rfl (some 24) rfl twoCells (by kernel_rfl) ?_
    refine wpList_alloc_store rfl rfl 95 5 (.tmp 24) rfl rfl rfl rfl twoCells (by simp [Act.put]) (by kernel_rfl) (by kernel_rfl) (fun v => rfl) ?_
    go_wp2
    go_meet
    case rel => exact ⟨by simp, rfl⟩
  obtain ⟨rfl, rfl⟩ := hcut
  go_upto_region 3 with (fail)
  go_cut [6] (fun v wc => v = .pointer (some ⟨w.heap.size + 3, 0, none⟩) ∧ wc = ((((w.alloc (.cells #[.string ⟨#[]⟩, .int .i64 0, .bool false] 88)).alloc (.cells plainCells 94)).alloc (.cells twoCells 95)).alloc (.cells oneCells 96)))
  case first =>
    apply wp_region_lit
    refine wpList_buildTo rfl 96 _ rfl (some 25) rfl oneCells (by kernel_rfl) ?_
    refine wpList_alloc_store rfl rfl 96 6 (.tmp 25) rfl rfl rfl rfl oneCells (by simp [Act.put]) (by kernel_rfl) (by kernel_rfl) (fun v => rfl) ?_
    go_wp2
    go_meet
    case rel => exact ⟨by simp, rfl⟩
  obtain ⟨rfl, rfl⟩ := hcut
  go_wp2
  exact bodyPost_ret (v := .tuple #[.agg #[.string ⟨#[]⟩, .int .i64 0, .bool false], .bool false]) (by simp [results, Try.results69, go_sem]) rfl ⟨rfl, ((((Below.refl _ _).alloc (Nat.le_refl _) _).alloc (by simp) _).alloc (by simp; omega) _).alloc (by simp; omega) _⟩
set_option maxRecDepth 100000 in
set_option maxHeartbeats 1000000 in
theorem of_mid (n : Int) (h : 33 ≤ n) (h' : n ≤ 40) (w : World) :
    Calls Try.prog 69 #[.int .i64 n] w fun e w' => e = .returned (.tuple #[.agg #[.string ⟨#[]⟩, .int .i64 0, .bool false], .bool false]) ∧ Below w.heap.size w w' := by
  have g0 : (0 : Int) ≤ n := by omega
  have g1 : ¬ n < 16 := by omega
  have g2 : (17 : Int) ≤ n := by omega
  have g3 : ¬ n ≤ 32 := by omega
  have g4 : ¬ (41 : Int) ≤ n := by omega
  go_enter Try.func69, Try.ntmps69
  go_upto_region 1 with (fail)
  go_cut [4] (fun v wc => v = .pointer (some ⟨w.heap.size + 1, 0, none⟩) ∧ wc = ((w.alloc (.cells #[.string ⟨#[]⟩, .int .i64 0, .bool false] 88)).alloc (.cells plainCells 94)))
  case first =>
    apply wp_region_lit
    refine wpList_builds_n 17 { tmps := #[.int .i64 n, undef, .pointer (some ⟨w.heap.size, 0, none⟩), .bool false, undef, undef, undef, .agg #[.string ⟨#[104, 97, 108, 116]⟩, .int .i64 0, .bool false], .agg #[.string ⟨#[116, 114, 97, 112]⟩, .int .i64 0, .bool true], .agg #[.string ⟨#[109, 111, 118, 101]⟩, .int .i64 3, .bool false], .agg #[.string ⟨#[99, 111, 110, 115, 116]⟩, .int .i64 1, .bool true], .agg #[.string ⟨#[104, 105, 103, 104]⟩, .int .i64 1, .bool true], .agg #[.string ⟨#[108, 111, 97, 100]⟩, .int .i64 3, .bool true], .agg #[.string ⟨#[115, 116, 111, 114, 101]⟩, .int .i64 3, .bool true], .agg #[.string ⟨#[106, 117, 109, 112]⟩, .int .i64 0, .bool true], .agg #[.string ⟨#[122, 101, 114, 111]⟩, .int .i64 1, .bool true], .agg #[.string ⟨#[115, 111, 109, 101]⟩, .int .i64 1, .bool true], .agg #[.string ⟨#[99, 97, 108, 108]⟩, .int .i64 0, .bool true], .agg #[.string ⟨#[97, 116]⟩, .int .i64 1, .bool false], .agg #[.string ⟨#[114, 101, 116]⟩, .int .i64 0, .bool false], .agg #[.string ⟨#[105, 110]⟩, .int .i64 1, .bool false], .agg #[.string ⟨#[111, 117, 116]⟩, .int .i64 1, .bool false], .agg #[.string ⟨#[114, 111, 111, 109]⟩, .int .i64 1, .bool false], .agg plainCells, undef, undef, undef, undef, undef, undef, undef, undef, undef, undef, undef, undef, undef, undef, undef, undef, undef, undef, undef, undef, undef, undef, undef, undef, undef, undef, undef, undef, undef, undef, undef, undef, undef, undef, undef, undef, undef, undef, undef], defers := [] } (by kernel_rfl) ?_
    simp only [List.drop_succ_cons, List.drop_zero]
    refine wpList_alloc_store rfl rfl 94 4 (.tmp 23) rfl rfl rfl rfl plainCells (by simp [Act.put]) (by kernel_rfl) (by kernel_rfl) (fun v => rfl) ?_
    go_wp2
    go_meet
    case rel => exact ⟨by simp, rfl⟩
  obtain ⟨rfl, rfl⟩ := hcut
  go_upto_region 2 with (fail)
  go_cut [5] (fun v wc => v = .pointer (some ⟨w.heap.size + 2, 0, none⟩) ∧ wc = (((w.alloc (.cells #[.string ⟨#[]⟩, .int .i64 0, .bool false] 88)).alloc (.cells plainCells 94)).alloc (.cells twoCells 95)))
  case first =>
    apply wp_region_lit
    refine wpList_buildTo rfl 95 _ rfl (some 24) rfl twoCells (by kernel_rfl) ?_
    refine wpList_alloc_store rfl rfl 95 5 (.tmp 24) rfl rfl rfl rfl twoCells (by simp [Act.put]) (by kernel_rfl) (by kernel_rfl) (fun v => rfl) ?_
    go_wp2
    go_meet
    case rel => exact ⟨by simp, rfl⟩
  obtain ⟨rfl, rfl⟩ := hcut
  go_upto_region 3 with (fail)
  go_cut [6] (fun v wc => v = .pointer (some ⟨w.heap.size + 3, 0, none⟩) ∧ wc = ((((w.alloc (.cells #[.string ⟨#[]⟩, .int .i64 0, .bool false] 88)).alloc (.cells plainCells 94)).alloc (.cells twoCells 95)).alloc (.cells oneCells 96)))
  case first =>
    apply wp_region_lit
    refine wpList_buildTo rfl 96 _ rfl (some 25) rfl oneCells (by kernel_rfl) ?_
    refine wpList_alloc_store rfl rfl 96 6 (.tmp 25) rfl rfl rfl rfl oneCells (by simp [Act.put]) (by kernel_rfl) (by kernel_rfl) (fun v => rfl) ?_
    go_wp2
    go_meet
    case rel => exact ⟨by simp, rfl⟩
  obtain ⟨rfl, rfl⟩ := hcut
  go_wp2
  exact bodyPost_ret (v := .tuple #[.agg #[.string ⟨#[]⟩, .int .i64 0, .bool false], .bool false]) (by simp [results, Try.results69, go_sem]) rfl ⟨rfl, ((((Below.refl _ _).alloc (Nat.le_refl _) _).alloc (by simp) _).alloc (by simp; omega) _).alloc (by simp; omega) _⟩
set_option maxRecDepth 100000 in
set_option maxHeartbeats 1000000 in
theorem of_high (n : Int) (h : 44 ≤ n) (w : World) :
    Calls Try.prog 69 #[.int .i64 n] w fun e w' => e = .returned (.tuple #[.agg #[.string ⟨#[]⟩, .int .i64 0, .bool false], .bool false]) ∧ Below w.heap.size w w' := by
  have g0 : (0 : Int) ≤ n := by omega
  have g1 : ¬ n < 16 := by omega
  have g2 : (17 : Int) ≤ n := by omega
  have g3 : ¬ n ≤ 32 := by omega
  have g4 : (41 : Int) ≤ n := by omega
  have g5 : ¬ n ≤ 43 := by omega
  go_enter Try.func69, Try.ntmps69
  go_upto_region 1 with (fail)
  go_cut [4] (fun v wc => v = .pointer (some ⟨w.heap.size + 1, 0, none⟩) ∧ wc = ((w.alloc (.cells #[.string ⟨#[]⟩, .int .i64 0, .bool false] 88)).alloc (.cells plainCells 94)))
  case first =>
    apply wp_region_lit
    refine wpList_builds_n 17 { tmps := #[.int .i64 n, undef, .pointer (some ⟨w.heap.size, 0, none⟩), .bool false, undef, undef, undef, .agg #[.string ⟨#[104, 97, 108, 116]⟩, .int .i64 0, .bool false], .agg #[.string ⟨#[116, 114, 97, 112]⟩, .int .i64 0, .bool true], .agg #[.string ⟨#[109, 111, 118, 101]⟩, .int .i64 3, .bool false], .agg #[.string ⟨#[99, 111, 110, 115, 116]⟩, .int .i64 1, .bool true], .agg #[.string ⟨#[104, 105, 103, 104]⟩, .int .i64 1, .bool true], .agg #[.string ⟨#[108, 111, 97, 100]⟩, .int .i64 3, .bool true], .agg #[.string ⟨#[115, 116, 111, 114, 101]⟩, .int .i64 3, .bool true], .agg #[.string ⟨#[106, 117, 109, 112]⟩, .int .i64 0, .bool true], .agg #[.string ⟨#[122, 101, 114, 111]⟩, .int .i64 1, .bool true], .agg #[.string ⟨#[115, 111, 109, 101]⟩, .int .i64 1, .bool true], .agg #[.string ⟨#[99, 97, 108, 108]⟩, .int .i64 0, .bool true], .agg #[.string ⟨#[97, 116]⟩, .int .i64 1, .bool false], .agg #[.string ⟨#[114, 101, 116]⟩, .int .i64 0, .bool false], .agg #[.string ⟨#[105, 110]⟩, .int .i64 1, .bool false], .agg #[.string ⟨#[111, 117, 116]⟩, .int .i64 1, .bool false], .agg #[.string ⟨#[114, 111, 111, 109]⟩, .int .i64 1, .bool false], .agg plainCells, undef, undef, undef, undef, undef, undef, undef, undef, undef, undef, undef, undef, undef, undef, undef, undef, undef, undef, undef, undef, undef, undef, undef, undef, undef, undef, undef, undef, undef, undef, undef, undef, undef, undef, undef, undef, undef, undef, undef], defers := [] } (by kernel_rfl) ?_
    simp only [List.drop_succ_cons, List.drop_zero]
    refine wpList_alloc_store rfl rfl 94 4 (.tmp 23) rfl rfl rfl rfl plainCells (by simp [Act.put]) (by kernel_rfl) (by kernel_rfl) (fun v => rfl) ?_
    go_wp2
    go_meet
    case rel => exact ⟨by simp, rfl⟩
  obtain ⟨rfl, rfl⟩ := hcut
  go_upto_region 2 with (fail)
  go_cut [5] (fun v wc => v = .pointer (some ⟨w.heap.size + 2, 0, none⟩) ∧ wc = (((w.alloc (.cells #[.string ⟨#[]⟩, .int .i64 0, .bool false] 88)).alloc (.cells plainCells 94)).alloc (.cells twoCells 95)))
  case first =>
    apply wp_region_lit
    refine wpList_buildTo rfl 95 _ rfl (some 24) rfl twoCells (by kernel_rfl) ?_
    refine wpList_alloc_store rfl rfl 95 5 (.tmp 24) rfl rfl rfl rfl twoCells (by simp [Act.put]) (by kernel_rfl) (by kernel_rfl) (fun v => rfl) ?_
    go_wp2
    go_meet
    case rel => exact ⟨by simp, rfl⟩
  obtain ⟨rfl, rfl⟩ := hcut
  go_upto_region 3 with (fail)
  go_cut [6] (fun v wc => v = .pointer (some ⟨w.heap.size + 3, 0, none⟩) ∧ wc = ((((w.alloc (.cells #[.string ⟨#[]⟩, .int .i64 0, .bool false] 88)).alloc (.cells plainCells 94)).alloc (.cells twoCells 95)).alloc (.cells oneCells 96)))
  case first =>
    apply wp_region_lit
    refine wpList_buildTo rfl 96 _ rfl (some 25) rfl oneCells (by kernel_rfl) ?_
    refine wpList_alloc_store rfl rfl 96 6 (.tmp 25) rfl rfl rfl rfl oneCells (by simp [Act.put]) (by kernel_rfl) (by kernel_rfl) (fun v => rfl) ?_
    go_wp2
    go_meet
    case rel => exact ⟨by simp, rfl⟩
  obtain ⟨rfl, rfl⟩ := hcut
  go_wp2
  exact bodyPost_ret (v := .tuple #[.agg #[.string ⟨#[]⟩, .int .i64 0, .bool false], .bool false]) (by simp [results, Try.results69, go_sem]) rfl ⟨rfl, ((((Below.refl _ _).alloc (Nat.le_refl _) _).alloc (by simp) _).alloc (by simp; omega) _).alloc (by simp; omega) _⟩

/-- What 'of' hands back of an op that there is. -/
def OfOk (r : Int) (i : Bool) (w : World) (e : Ending) (w' : World) : Prop := ∃ s, e = .returned (.tuple #[.agg #[.string s, .int .i64 r, .bool i], .bool true]) ∧ Below w.heap.size w w'
theorem of_ok (k : Nat) (r : Int) (i : Bool) (h : usesOf k = some (r, i)) (w : World) : Calls Try.prog 69 #[.int .i64 k] w (OfOk r i w) := by
  by_cases h1 : k < 16
  · obtain ⟨s, r', i', a0, a1, a2, a3⟩ := plain_at k h1
    rw [h] at a3
    simp only [Option.some.injEq, Prod.mk.injEq] at a3
    obtain ⟨rfl, rfl⟩ := a3
    exact (of_plain k h1 w s _ _ a0 a1 a2).mono fun e w' ⟨he, hb⟩ => ⟨s, he, hb⟩
  have hn : ∀ j, j < 16 → k ≠ j := fun j hj e => h1 (e ▸ hj)
  have hu : (if 17 ≤ k ∧ k ≤ 32 then some ((7 : Int), false) else if 41 ≤ k ∧ k ≤ 43 then some (3, false) else none) = some (r, i) := by
    rw [← h]
    unfold usesOf
    rw [if_neg (hn 0 (by decide)), if_neg (hn 1 (by decide)), if_neg (hn 2 (by decide)), if_neg (hn 3 (by decide)), if_neg (hn 4 (by decide)), if_neg (hn 5 (by decide)), if_neg (hn 6 (by decide)), if_neg (hn 7 (by decide)), if_neg (hn 8 (by decide)), if_neg (hn 9 (by decide)), if_neg (hn 10 (by decide)), if_neg (hn 11 (by decide)), if_neg (hn 12 (by decide)), if_neg (hn 13 (by decide)), if_neg (hn 14 (by decide)), if_neg (hn 15 (by decide))]
  by_cases h2 : 17 ≤ k ∧ k ≤ 32
  · rw [if_pos h2] at hu
    simp only [Option.some.injEq, Prod.mk.injEq] at hu
    obtain ⟨rfl, rfl⟩ := hu
    obtain ⟨s, hs⟩ := two_at (k - 17) (by omega)
    have e : ((k - 17 : Nat) : Int) + 17 = k := by omega
    have := of_two (k - 17) (by omega) w s hs
    rw [e] at this
    exact this.mono fun e w' ⟨he, hb⟩ => ⟨s, he, hb⟩
  · rw [if_neg h2] at hu
    by_cases h3 : 41 ≤ k ∧ k ≤ 43
    · rw [if_pos h3] at hu
      simp only [Option.some.injEq, Prod.mk.injEq] at hu
      obtain ⟨rfl, rfl⟩ := hu
      obtain ⟨s, hs⟩ := one_at (k - 41) (by omega)
      have e : ((k - 41 : Nat) : Int) + 41 = k := by omega
      have := of_one (k - 41) (by omega) w s hs
      rw [e] at this
      exact this.mono fun e w' ⟨he, hb⟩ => ⟨s, he, hb⟩
    · rw [if_neg h3] at hu
      cases hu
theorem of_no (n : Int) (h : n < 0 ∨ usesOf n.toNat = none) (w : World) : Calls Try.prog 69 #[.int .i64 n] w fun e w' => e = .returned (.tuple #[.agg #[.string ⟨#[]⟩, .int .i64 0, .bool false], .bool false]) ∧ Below w.heap.size w w' := by
  by_cases h0 : n < 0
  · exact of_low n h0 w
  have h := h.resolve_left h0
  by_cases h1 : n < 16
  · obtain ⟨_, _, _, _, _, _, a3⟩ := plain_at n.toNat (by omega)
    rw [h] at a3
    cases a3
  by_cases h2 : n = 16
  · subst h2; exact of_16 w
  by_cases h3 : n ≤ 32
  · exfalso
    have e : usesOf n.toNat = some (7, false) := by
      unfold usesOf
      rw [if_neg (by omega), if_neg (by omega), if_neg (by omega), if_neg (by omega), if_neg (by omega), if_neg (by omega), if_neg (by omega), if_neg (by omega), if_neg (by omega), if_neg (by omega), if_neg (by omega), if_neg (by omega), if_neg (by omega), if_neg (by omega), if_neg (by omega), if_neg (by omega), if_pos (by omega)]
    rw [h] at e
    cases e
  by_cases h4 : n ≤ 40
  · exact of_mid n (by omega) h4 w
  by_cases h5 : n ≤ 43
  · exfalso
    have e : usesOf n.toNat = some (3, false) := by
      unfold usesOf
      rw [if_neg (by omega), if_neg (by omega), if_neg (by omega), if_neg (by omega), if_neg (by omega), if_neg (by omega), if_neg (by omega), if_neg (by omega), if_neg (by omega), if_neg (by omega), if_neg (by omega), if_neg (by omega), if_neg (by omega), if_neg (by omega), if_neg (by omega), if_neg (by omega), if_neg (by omega), if_pos (by omega)]
    rw [h] at e
    cases e
  · exact of_high n (by omega) w
end Go.Proofs.Ytbchiolgbhckhaa.Mach

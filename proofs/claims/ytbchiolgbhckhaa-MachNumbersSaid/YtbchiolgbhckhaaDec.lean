/- Numbers: what a word of the machine is as an instruction; both ways of reading it are this one. -/
import Derived.Test.YtbchiolgbhckhaaIsaEnc
set_option linter.unusedVariables false
set_option linter.unusedSimpArgs false
namespace Go.Proofs.Ytbchiolgbhckhaa.Mach
open Go.RowKit Go.Proofs.YtbchiolgbhckhaaW.PrintWords Go.Proofs.Ytbchiolgbhckhaa.PMachRuns

/-- Has an op this register (1: A, 2: B, 4: C)? -/
def hasA (r : Int) : Bool := decide (r % 2 = 1)
def hasB (r : Int) : Bool := decide (r / 2 % 2 = 1)
def hasC (r : Int) : Bool := decide (4 ≤ r)
/-- An instruction: op, A, B, C, Imm. -/
structure I5 where
  o : Nat
  a : Nat
  b : Nat
  c : Nat
  i : Int
def wOp (v : Int) : Nat := (v / 72057594037927936).toNat
def wA (v : Int) : Nat := (v / 4503599627370496 % 16).toNat
def wB (v : Int) : Nat := (v / 281474976710656 % 16).toNat
def wC (v : Int) : Nat := (v / 17592186044416 % 16).toNat
/-- May these registers and this number stand beside an op of such a shape? -/
def fits (r : Int) (m : Bool) (a b c : Nat) (i : Int) : Bool := (a == 0 || hasA r) && (b == 0 || hasB r) && (c == 0 || hasC r) && (m || i == 0)
/-- A word as an instruction. -/
def decI (v : Int) : Option I5 :=
  if v < 0 ∨ v / 4294967296 % 4096 ≠ 0 then none
  else match usesOf (wOp v) with
    | none => none
    | some (r, m) => if fits r m (wA v) (wB v) (wC v) (wrap32 v) = true then some ⟨wOp v, wA v, wB v, wC v, wrap32 v⟩ else none

theorem uses_cases (k : Nat) : (∃ r m, usesOf k = some (r, m) ∧ k ≤ 43 ∧ (r = 0 ∨ r = 1 ∨ r = 3 ∨ r = 7) ∧ mortiseref2_Uses.f 9 k = some (r, m, true)) ∨ (usesOf k = none ∧ mortiseref2_Uses.f 9 k = some (0, false, false)) := by
  have h : k = 0 ∨ k = 1 ∨ k = 2 ∨ k = 3 ∨ k = 4 ∨ k = 5 ∨ k = 6 ∨ k = 7 ∨ k = 8 ∨ k = 9 ∨ k = 10 ∨ k = 11 ∨ k = 12 ∨ k = 13 ∨ k = 14 ∨ k = 15 ∨ k = 16 ∨ (17 ≤ k ∧ k ≤ 32) ∨ (33 ≤ k ∧ k ≤ 40) ∨ k = 41 ∨ k = 42 ∨ k = 43 ∨ 44 ≤ k := by omega
  rcases h with rfl | rfl | rfl | rfl | rfl | rfl | rfl | rfl | rfl | rfl | rfl | rfl | rfl | rfl | rfl | rfl | rfl | h | h | rfl | rfl | rfl | h
  · exact .inl ⟨_, _, rfl, by decide, by decide, by kernel_rfl⟩
  · exact .inl ⟨_, _, rfl, by decide, by decide, by kernel_rfl⟩
  · exact .inl ⟨_, _, rfl, by decide, by decide, by kernel_rfl⟩
  · exact .inl ⟨_, _, rfl, by decide, by decide, by kernel_rfl⟩
  · exact .inl ⟨_, _, rfl, by decide, by decide, by kernel_rfl⟩
  · exact .inl ⟨_, _, rfl, by decide, by decide, by kernel_rfl⟩
  · exact .inl ⟨_, _, rfl, by decide, by decide, by kernel_rfl⟩
  · exact .inl ⟨_, _, rfl, by decide, by decide, by kernel_rfl⟩
  · exact .inl ⟨_, _, rfl, by decide, by decide, by kernel_rfl⟩
  · exact .inl ⟨_, _, rfl, by decide, by decide, by kernel_rfl⟩
  · exact .inl ⟨_, _, rfl, by decide, by decide, by kernel_rfl⟩
  · exact .inl ⟨_, _, rfl, by decide, by decide, by kernel_rfl⟩
  · exact .inl ⟨_, _, rfl, by decide, by decide, by kernel_rfl⟩
  · exact .inl ⟨_, _, rfl, by decide, by decide, by kernel_rfl⟩
  · exact .inl ⟨_, _, rfl, by decide, by decide, by kernel_rfl⟩
  · exact .inl ⟨_, _, rfl, by decide, by decide, by kernel_rfl⟩
  · exact .inr ⟨rfl, by kernel_rfl⟩
  · have h' : k = 17 ∨ k = 18 ∨ k = 19 ∨ k = 20 ∨ k = 21 ∨ k = 22 ∨ k = 23 ∨ k = 24 ∨ k = 25 ∨ k = 26 ∨ k = 27 ∨ k = 28 ∨ k = 29 ∨ k = 30 ∨ k = 31 ∨ k = 32 := by omega
    refine .inl ⟨7, false, ?_, by omega, by decide, ?_⟩
    · rcases h' with rfl | rfl | rfl | rfl | rfl | rfl | rfl | rfl | rfl | rfl | rfl | rfl | rfl | rfl | rfl | rfl <;> rfl
    · rcases h' with rfl | rfl | rfl | rfl | rfl | rfl | rfl | rfl | rfl | rfl | rfl | rfl | rfl | rfl | rfl | rfl <;> kernel_rfl
  · have h' : k = 33 ∨ k = 34 ∨ k = 35 ∨ k = 36 ∨ k = 37 ∨ k = 38 ∨ k = 39 ∨ k = 40 := by omega
    refine .inr ⟨?_, ?_⟩
    · rcases h' with rfl | rfl | rfl | rfl | rfl | rfl | rfl | rfl <;> rfl
    · rcases h' with rfl | rfl | rfl | rfl | rfl | rfl | rfl | rfl <;> kernel_rfl
  · exact .inl ⟨_, _, rfl, by decide, by decide, by kernel_rfl⟩
  · exact .inl ⟨_, _, rfl, by decide, by decide, by kernel_rfl⟩
  · exact .inl ⟨_, _, rfl, by decide, by decide, by kernel_rfl⟩
  · refine .inr ⟨?_, ?_⟩
    · unfold usesOf
      repeat rw [if_neg (by omega)]
    · have hn : mortiseref2_Name.f (k : Int) = some (⟨#[]⟩ : ByteArray) := by
        unfold mortiseref2_Name.f mortiseref2_Sum.f
        repeat rw [if_neg (by omega)]
        rfl
      unfold mortiseref2_Uses.f
      rw [hn, Option.bind_some, if_pos (by kernel_rfl)]

theorem reg_is (has : Bool) (a : Nat) (ha : a < 16) : mortiseref2_reg.f has a = some (a == 0 || has) := by
  unfold mortiseref2_reg.f
  cases has
  · simp only [Bool.false_eq_true, if_false, Bool.or_false]
    congr 1
    rw [Bool.eq_iff_iff, beq_iff_eq, beq_iff_eq]
    omega
  · rw [if_pos rfl, if_pos (by omega), if_pos (by omega)]
    simp
theorem has_is {r : Int} (hr : r = 0 ∨ r = 1 ∨ r = 3 ∨ r = 7) : (Int.tmod r 2 == 1) = hasA r ∧ (Int.tmod (wrap64 (Int.tdiv r 2)) 2 == 1) = hasB r ∧ decide (r ≥ 4) = hasC r ∧
    (bits .and .i64 r 1 != 0) = hasA r ∧ (bits .and .i64 r 2 != 0) = hasB r ∧ (bits .and .i64 r 4 != 0) = hasC r := by
  rcases hr with rfl | rfl | rfl | rfl <;> (refine ⟨?_, ?_, ?_, ?_, ?_, ?_⟩ <;> kernel_rfl)
theorem may_is (a : Nat) (has : Bool) (ha : a < 16) : mayB a has = (a == 0 || has) := by
  unfold mayB isa_may.f
  by_cases h0 : a = 0
  · subst h0; simp
  · rw [if_neg (by omega)]
    have e : (a == 0) = false := beq_eq_false_iff_ne.2 h0
    rw [e]
    cases has
    · simp
    · rw [if_pos rfl, if_pos (by omega), decide_eq_true (by omega)]
      rfl
/-- The word of an instruction. -/
def word5 (k a b c : Nat) (i : Int) : Int := k * 72057594037927936 + a * 4503599627370496 + b * 281474976710656 + c * 17592186044416 + i % 4294967296
theorem in64 {n : Int} (h0 : -9223372036854775808 ≤ n) (h1 : n ≤ 9223372036854775807) : wrap64 n = n := by unfold wrap64; omega
theorem enc_num (k a b c x : Int) (k0 : 0 ≤ k) (k1 : k ≤ 127) (a0 : 0 ≤ a) (a1 : a < 16) (b0 : 0 ≤ b) (b1 : b < 16) (c0 : 0 ≤ c) (c1 : c < 16) (x0 : 0 ≤ x) (x1 : x < 4294967296) :
    wrap64 (wrap64 (wrap64 (wrap64 (wrap64 (wrap64 (wrap64 (k * 16) + a) * 16) + b) * 16) * 17592186044416) + wrap64 (c * 17592186044416)) = ((k * 16 + a) * 16 + b) * 16 * 17592186044416 + c * 17592186044416 ∧
    wrap64 (((k * 16 + a) * 16 + b) * 16 * 17592186044416 + c * 17592186044416 + x) = ((k * 16 + a) * 16 + b) * 16 * 17592186044416 + c * 17592186044416 + x := by
  constructor
  · rw [in64 (n := k * 16) (by omega) (by omega), in64 (n := k * 16 + a) (by omega) (by omega), in64 (n := (k * 16 + a) * 16) (by omega) (by omega), in64 (n := (k * 16 + a) * 16 + b) (by omega) (by omega),
      in64 (n := ((k * 16 + a) * 16 + b) * 16) (by omega) (by omega), in64 (n := ((k * 16 + a) * 16 + b) * 16 * 17592186044416) (by omega) (by omega), in64 (n := c * 17592186044416) (by omega) (by omega), in64 (by omega) (by omega)]
  · rw [in64 (by omega) (by omega)]
theorem r2enc (k a b c : Nat) (i : Int) (ha : a < 16) (hb : b < 16) (hc : c < 16) (h0 : -2147483648 ≤ i) (h1 : i ≤ 2147483647) :
    mortiseref2_Encode.f 9 k a b c i = some (match usesOf k with | none => (0, 4) | some (r, m) => if fits r m a b c i = true then (word5 k a b c i, 0) else (0, 4)) := by
  unfold mortiseref2_Encode.f
  rcases uses_cases k with ⟨r, m, e, hk, hr, eu⟩ | ⟨e, eu⟩
  · obtain ⟨e1, e2, e3, _, _, _⟩ := has_is hr
    rw [e, eu, Option.bind_some]
    dsimp only
    rw [if_pos rfl, e1, e2, e3, reg_is _ a ha, reg_is _ b hb, reg_is _ c hc]
    simp only [Option.bind_some]
    have j0t : ∀ x : Int × Int, mortiseref2_Encode.j0 9 m true k a b c i = some (0, 4) := fun _ => by
      show mortiseref2_Encode.j0 (8 + 1) m true k a b c i = _
      rw [mortiseref2_Encode.j0, if_pos rfl]
    unfold fits
    cases (a == 0 || hasA r)
    · simp [j0t (0, 0)]
    cases (b == 0 || hasB r)
    · simp [j0t (0, 0)]
    cases (c == 0 || hasC r)
    · simp [j0t (0, 0)]
    have j1t : mortiseref2_Encode.j1 8 true k a b c i = some (0, 4) := by
      show mortiseref2_Encode.j1 (7 + 1) true k a b c i = _
      rw [mortiseref2_Encode.j1, if_pos rfl]
    have j1f : mortiseref2_Encode.j1 8 false k a b c i = some (word5 k a b c i, 0) := by
      show mortiseref2_Encode.j1 (7 + 1) false k a b c i = _
      rw [mortiseref2_Encode.j1, if_neg (by decide)]
      have en := fun x x0 x1 => enc_num k a b c x (by omega) (by omega) (by omega) (by omega) (by omega) (by omega) (by omega) (by omega) x0 x1
      rw [(en 0 (by omega) (by omega)).1]
      by_cases hi : i < 0
      · rw [if_pos hi, in64 (n := i + 4294967296) (by omega) (by omega), (en (i + 4294967296) (by omega) (by omega)).2]
        have : i % 4294967296 = i + 4294967296 := by omega
        refine congrArg (fun z : Int => some (z, (0 : Int))) ?_
        unfold word5
        rw [this]
        omega
      · rw [if_neg hi, (en i (by omega) (by omega)).2]
        have : i % 4294967296 = i := by omega
        refine congrArg (fun z : Int => some (z, (0 : Int))) ?_
        unfold word5
        rw [this]
        omega
    show (if (true = true) then (if (true = true) then mortiseref2_Encode.j0 (8 + 1) m (!true) k a b c i else _) else _) = _
    rw [if_pos rfl, if_pos rfl, mortiseref2_Encode.j0, if_neg (by decide)]
    cases m
    · rw [if_neg (by decide)]
      by_cases hi : i = 0
      · rw [show (i != 0) = false from bne_eq_false_iff_eq.2 hi, j1f]
        simp [hi]
      · rw [show (i != 0) = true from bne_iff_ne.2 hi, j1t]
        simp [hi]
    · rw [if_pos rfl, if_neg (by omega), if_neg (by omega), j1f]
      simp
  · rw [e, eu, Option.bind_some]
    dsimp only
    rw [if_neg (by decide)]
    show mortiseref2_Encode.j0 (8 + 1) false true k a b c i = _
    rw [mortiseref2_Encode.j0, if_pos rfl]
theorem word5_of (v : Int) (h0 : 0 ≤ v) (h1 : v ≤ 9223372036854775807) : word5 (wOp v) (wA v) (wB v) (wC v) (wrap32 v) = v ↔ v / 4294967296 % 4096 = 0 := by
  unfold word5 wOp wA wB wC wrap32
  omega
theorem w_lt (v : Int) : wA v < 16 ∧ wB v < 16 ∧ wC v < 16 := by
  unfold wA wB wC
  omega
theorem wrap32_in (v : Int) : -2147483648 ≤ wrap32 v ∧ wrap32 v ≤ 2147483647 := by
  unfold wrap32
  omega
/-- What a decoder hands back: the instruction and no error, or an empty one and error 4. -/
def dec6 : Option I5 → Int × Int × Int × Int × Int × Int
  | some x => (x.o, x.a, x.b, x.c, x.i, 0)
  | none => (0, 0, 0, 0, 0, 4)
theorem r2dec (v : Int) (h1 : v ≤ 9223372036854775807) : mortiseref2_Decode.f 9 v = some (dec6 (decI v)) := by
  unfold mortiseref2_Decode.f decI
  by_cases h0 : v < 0
  · rw [if_pos h0, if_pos (.inl h0)]; rfl
  rw [if_neg h0]
  have t44 : Int.tdiv v 17592186044416 = v / 17592186044416 := Int.tdiv_eq_ediv_of_nonneg (by omega)
  have e0 : wrap64 (v / 17592186044416) = v / 17592186044416 := by unfold wrap64; omega
  have t1 : Int.tdiv (v / 17592186044416) 4096 = v / 17592186044416 / 4096 := Int.tdiv_eq_ediv_of_nonneg (by omega)
  have t2 : Int.tdiv (v / 17592186044416) 256 = v / 17592186044416 / 256 := Int.tdiv_eq_ediv_of_nonneg (by omega)
  have t3 : Int.tdiv (v / 17592186044416) 16 = v / 17592186044416 / 16 := Int.tdiv_eq_ediv_of_nonneg (by omega)
  have m2 : Int.tmod (wrap64 (v / 17592186044416 / 256)) 16 = wrap64 (v / 17592186044416 / 256) % 16 := Int.tmod_eq_emod_of_nonneg (by unfold wrap64; omega)
  have m3 : Int.tmod (wrap64 (v / 17592186044416 / 16)) 16 = wrap64 (v / 17592186044416 / 16) % 16 := Int.tmod_eq_emod_of_nonneg (by unfold wrap64; omega)
  have m4 : Int.tmod (v / 17592186044416) 16 = v / 17592186044416 % 16 := Int.tmod_eq_emod_of_nonneg (by omega)
  have ml : Int.tmod v 4294967296 = v % 4294967296 := Int.tmod_eq_emod_of_nonneg (by omega)
  rw [t44, e0, t1, t2, t3, m2, m3, m4, ml]
  have a1 : wrap64 (v / 17592186044416 / 4096) = (wOp v : Int) := by unfold wrap64 wOp; omega
  have a2 : wrap64 (v / 17592186044416 / 256) % 16 = (wA v : Int) := by unfold wrap64 wA; omega
  have a3 : wrap64 (v / 17592186044416 / 16) % 16 = (wB v : Int) := by unfold wrap64 wB; omega
  have a4 : v / 17592186044416 % 16 = (wC v : Int) := by unfold wC; omega
  rw [a1, a2, a3, a4]
  have key : (mortiseref2_Encode.f 9 (wOp v) (wA v) (wB v) (wC v) (wrap32 v)).bind (fun bt => if bt.2 = 0 then (if bt.1 = v then some ((wOp v : Int), (wA v : Int), (wB v : Int), (wC v : Int), wrap32 v, (0 : Int)) else some (0, 0, 0, 0, 0, 4)) else some (0, 0, 0, 0, 0, 4)) =
      some (dec6 (if v < 0 ∨ v / 4294967296 % 4096 ≠ 0 then none else match usesOf (wOp v) with
        | none => none
        | some (r, m) => if fits r m (wA v) (wB v) (wC v) (wrap32 v) = true then some ⟨wOp v, wA v, wB v, wC v, wrap32 v⟩ else none)) := by
    rw [r2enc _ _ _ _ _ (w_lt v).1 (w_lt v).2.1 (w_lt v).2.2 (wrap32_in v).1 (wrap32_in v).2, Option.bind_some]
    have hw := word5_of v (by omega) h1
    cases usesOf (wOp v) with
    | none =>
      dsimp only
      rw [if_neg (by decide)]
      split <;> rfl
    | some rm =>
      obtain ⟨r, m⟩ := rm
      dsimp only
      by_cases hfit : fits r m (wA v) (wB v) (wC v) (wrap32 v) = true
      case neg =>
        simp only [if_neg hfit]
        rw [if_neg (by decide)]
        split <;> rfl
      case pos =>
        simp only [if_pos hfit]
        rw [if_pos True.intro]
        by_cases hz : v / 4294967296 % 4096 = 0
        · rw [if_pos (hw.2 hz), if_neg (by omega)]
          rfl
        · rw [if_neg (fun h => hz (hw.1 h)), if_pos (.inr hz)]
          rfl
  by_cases hl : v % 4294967296 > 2147483647
  · have a5 : wrap64 (v % 4294967296 - 4294967296) = wrap32 v := by unfold wrap64 wrap32; omega
    rw [if_pos hl, a5]
    exact key
  · have a5 : v % 4294967296 = wrap32 v := by unfold wrap32; omega
    rw [if_neg hl, a5]
    exact key
/-- Disjoint bits of words that are not negative: 'or' is the sum. -/
theorem or_sum (i : Nat) (x y : Int) (hx0 : 0 ≤ x) (hx : x % 2 ^ i = 0) (hx1 : x < 2 ^ 63) (hy0 : 0 ≤ y) (hy : y < 2 ^ i) (hy1 : y < 2 ^ 63) : bits .or .i64 x y = x + y :=
  bits_join .i64 63 (by decide) (fun n h0 h1 => by rw [IntKind.wrap_i64]; omega) i x y hx0 hx hx1 hy0 hy hy1
theorem or_chain (k a b c : Nat) (i : Int) (hk : k ≤ 127) (ha : a < 16) (hb : b < 16) (hc : c < 16) :
    bits .or .i64 (bits .or .i64 (bits .or .i64 (bits .or .i64 (wrap64 (k * 72057594037927936)) (wrap64 (a * 4503599627370496))) (wrap64 (b * 281474976710656))) (wrap64 (c * 17592186044416))) (i % 4294967296) = word5 k a b c i := by
  rw [in64 (n := (k : Int) * 72057594037927936) (by omega) (by omega), in64 (n := (a : Int) * 4503599627370496) (by omega) (by omega), in64 (n := (b : Int) * 281474976710656) (by omega) (by omega), in64 (n := (c : Int) * 17592186044416) (by omega) (by omega),
    or_sum 56 (k * 72057594037927936) (a * 4503599627370496) (by omega) (by omega) (by omega) (by omega) (by omega) (by omega), or_sum 52 (k * 72057594037927936 + a * 4503599627370496) (b * 281474976710656) (by omega) (by omega) (by omega) (by omega) (by omega) (by omega),
    or_sum 48 (k * 72057594037927936 + a * 4503599627370496 + b * 281474976710656) (c * 17592186044416) (by omega) (by omega) (by omega) (by omega) (by omega) (by omega), or_sum 44 (k * 72057594037927936 + a * 4503599627370496 + b * 281474976710656 + c * 17592186044416) (i % 4294967296) (by omega) (by omega) (by omega) (by omega) (by omega) (by omega)]
  rfl
/-- What isa.Encode hands back of an instruction whose parts are of their size. -/
def enc2 (k a b c : Nat) (i : Int) : Int × Int :=
  match usesOf k with
  | none => (0, 4)
  | some (r, m) => if fits r m a b c i = true then (word5 k a b c i, 0) else (0, 4)
theorem encode_any (k a b c : Nat) (i : Int) (ha : a < 16) (hb : b < 16) (hc : c < 16) (h0 : -2147483648 ≤ i) (h1 : i ≤ 2147483647) (w : World) :
    Calls Try.prog 60 #[.agg #[.int .i64 k, .int .i64 a, .int .i64 b, .int .i64 c, .int .i64 i]] w fun e w' => e = .returned (.tuple #[.int .i64 (enc2 k a b c i).1, .int .i64 (enc2 k a b c i).2]) ∧ Below w.heap.size w w' := by
  unfold enc2
  rcases uses_cases k with ⟨r, m, e, hk, hr, _⟩ | ⟨e, _⟩
  · obtain ⟨_, _, _, e1, e2, e3⟩ := has_is hr
    have ma := may_is a (hasA r) ha
    have mb := may_is b (hasB r) hb
    have mc := may_is c (hasC r) hc
    rw [e]
    dsimp only
    unfold fits
    cases pa : (a == 0 || hasA r)
    · rw [pa] at ma
      simp only [Bool.false_and, Bool.false_eq_true, if_false]
      exact encode_no_a k a b c i r m _ _ _ e e1 e2 e3 ma w
    cases pb : (b == 0 || hasB r)
    · rw [pa] at ma; rw [pb] at mb
      simp only [Bool.true_and, Bool.false_and, Bool.false_eq_true, if_false]
      exact encode_no_b k a b c i r m _ _ _ e e1 e2 e3 ma mb w
    cases pc : (c == 0 || hasC r)
    · rw [pa] at ma; rw [pb] at mb; rw [pc] at mc
      simp only [Bool.true_and, Bool.false_and, Bool.false_eq_true, if_false]
      exact encode_no_c k a b c i r m _ _ _ e e1 e2 e3 ma mb mc w
    rw [pa] at ma; rw [pb] at mb; rw [pc] at mc
    simp only [Bool.true_and]
    rw [← or_chain k a b c i (by omega) ha hb hc]
    cases m
    · by_cases hi : i = 0
      · have x : (i == 0) = true := beq_iff_eq.2 hi
        rw [x]
        simp only [Bool.false_or, if_true]
        exact encode_yes_0 k a b c i r false _ _ _ e e1 e2 e3 ma mb mc rfl (bne_eq_false_iff_eq.2 hi) h0 h1 w
      · have x : (i == 0) = false := beq_eq_false_iff_ne.2 hi
        rw [x]
        simp only [Bool.false_or, Bool.false_eq_true, if_false]
        exact encode_no_i k a b c i r false _ _ _ e e1 e2 e3 ma mb mc rfl (bne_iff_ne.2 hi) w
    · simp only [Bool.true_or, if_true]
      exact encode_yes_i k a b c i r true _ _ _ e e1 e2 e3 ma mb mc rfl h0 h1 w
  · rw [e]
    dsimp only
    exact encode_no_op k a b c i (.inr (by simpa using e)) w
end Go.Proofs.Ytbchiolgbhckhaa.Mach

/- What isa.Decode hands back of a word: the instruction that it is, or an error: by the plain reading of the word. -/
import Derived.Test.YtbchiolgbhckhaaIsaDec
set_option linter.unusedVariables false
set_option linter.unusedSimpArgs false
namespace Go.Proofs.Ytbchiolgbhckhaa.Mach
open Go.RowKit Go.Proofs.YtbchiolgbhckhaaW.PrintWords Go.Proofs.Ytbchiolgbhckhaa.PMachRuns

theorem u64_is (n : Int) : IntKind.u64.wrap n = n % 18446744073709551616 := by simp [IntKind.wrap, IntKind.signed, IntKind.bits]
theorem and15 (x : Int) (h0 : 0 ≤ x) (h1 : x < 18446744073709551616) : bits .and .u64 x 15 = x % 16 :=
  bits_mask .u64 64 (by decide) (fun n h0 h1 => by rw [u64_is]; omega) 4 (by decide) x h0 (by omega)
theorem usesOf_big (k : Nat) (h : 44 ≤ k) : usesOf k = none := by
  unfold usesOf
  repeat rw [if_neg (by omega)]
/-- What 'Decode' hands back of a word: five numbers of the instruction, the error. -/
def DecPost (v : Int) (w : World) (e : Ending) (w' : World) : Prop :=
  e = .returned (.tuple #[.agg #[.int .i64 (dec6 (decI v)).1, .int .i64 (dec6 (decI v)).2.1, .int .i64 (dec6 (decI v)).2.2.1, .int .i64 (dec6 (decI v)).2.2.2.1, .int .i64 (dec6 (decI v)).2.2.2.2.1], .int .i64 (dec6 (decI v)).2.2.2.2.2]) ∧ Below w.heap.size w w'
theorem decode_any (v : Int) (g0 : -9223372036854775808 ≤ v) (g1 : v ≤ 9223372036854775807) (w : World) : Calls Try.prog 50 #[.int .i64 v] w (DecPost v w) := by
  generalize hu : v % 18446744073709551616 = u
  have hu0 : 0 ≤ u ∧ u < 18446744073709551616 := by omega
  have e0 : IntKind.u64.wrap v = u := by rw [u64_is, hu]
  have h1 : wrap64 (IntKind.u64.wrap v / 72057594037927936) = ((u / 72057594037927936).toNat : Int) := by rw [e0]; unfold wrap64; omega
  have h2 : wrap64 (bits BinOp.and IntKind.u64 (IntKind.u64.wrap v / 4503599627370496) 15) = ((u / 4503599627370496 % 16).toNat : Int) := by
    rw [e0, and15 _ (by omega) (by omega)]; unfold wrap64; omega
  have h3 : wrap64 (bits BinOp.and IntKind.u64 (IntKind.u64.wrap v / 281474976710656) 15) = ((u / 281474976710656 % 16).toNat : Int) := by
    rw [e0, and15 _ (by omega) (by omega)]; unfold wrap64; omega
  have h4 : wrap64 (bits BinOp.and IntKind.u64 (IntKind.u64.wrap v / 17592186044416) 15) = ((u / 17592186044416 % 16).toNat : Int) := by
    rw [e0, and15 _ (by omega) (by omega)]; unfold wrap64; omega
  have h5 : wrap64 (wrap32 (IntKind.u64.wrap v)) = wrap32 v := by rw [e0]; unfold wrap64 wrap32; omega
  have ha : (u / 4503599627370496 % 16).toNat < 16 := by omega
  have hb : (u / 281474976710656 % 16).toNat < 16 := by omega
  have hc : (u / 17592186044416 % 16).toNat < 16 := by omega
  have bad : ∀ W E, enc2 (u / 72057594037927936).toNat (u / 4503599627370496 % 16).toNat (u / 281474976710656 % 16).toNat (u / 17592186044416 % 16).toNat (wrap32 v) = (W, E) → decI v = none → (E ≠ 0 ∨ W ≠ v) → Calls Try.prog 50 #[.int .i64 v] w (DecPost v w) := by
    intro W E he hd hn
    unfold DecPost
    rw [hd]
    show Calls Try.prog 50 #[.int .i64 v] w fun e w' => e = .returned (.tuple #[.agg #[.int .i64 0, .int .i64 0, .int .i64 0, .int .i64 0, .int .i64 0], .int .i64 4]) ∧ Below w.heap.size w w'
    by_cases hE : E = 0
    · exact decode_b v _ _ _ _ _ E W h1 h2 h3 h4 h5 ha hb hc (wrap32_in v).1 (wrap32_in v).2 he (bne_eq_false_iff_eq.2 hE) (bne_iff_ne.2 (hn.resolve_left (fun h => h hE))) w
    · exact decode_a v _ _ _ _ _ E W h1 h2 h3 h4 h5 ha hb hc (wrap32_in v).1 (wrap32_in v).2 he (bne_iff_ne.2 hE) w
  by_cases hv : v < 0
  · refine bad 0 4 ?_ ?_ (.inl (by decide))
    · unfold enc2
      rw [usesOf_big _ (by omega)]
    · unfold decI
      rw [if_pos (.inl hv)]
  have huv : u = v := by omega
  subst huv
  have k1 : (u / 72057594037927936).toNat = wOp u := rfl
  have k2 : (u / 4503599627370496 % 16).toNat = wA u := rfl
  have k3 : (u / 281474976710656 % 16).toNat = wB u := rfl
  have k4 : (u / 17592186044416 % 16).toNat = wC u := rfl
  rw [k1, k2, k3, k4] at bad
  rw [k1] at h1; rw [k2] at h2 ha; rw [k3] at h3 hb; rw [k4] at h4 hc
  have hw := word5_of u (by omega) g1
  cases hs : usesOf (wOp u) with
  | none =>
    refine bad 0 4 ?_ ?_ (.inl (by decide))
    · unfold enc2; rw [hs]
    · unfold decI; rw [hs]; split <;> rfl
  | some rm =>
    obtain ⟨r, m⟩ := rm
    by_cases hfit : fits r m (wA u) (wB u) (wC u) (wrap32 u) = true
    case neg =>
      refine bad 0 4 ?_ ?_ (.inl (by decide))
      · unfold enc2; rw [hs]; dsimp only; rw [if_neg hfit]
      · unfold decI; rw [hs]; dsimp only; rw [if_neg hfit]; split <;> rfl
    case pos =>
      have he : enc2 (wOp u) (wA u) (wB u) (wC u) (wrap32 u) = (word5 (wOp u) (wA u) (wB u) (wC u) (wrap32 u), 0) := by
        unfold enc2; rw [hs]; dsimp only; rw [if_pos hfit]
      by_cases hz : u / 4294967296 % 4096 = 0
      · have hd : decI u = some ⟨wOp u, wA u, wB u, wC u, wrap32 u⟩ := by
          unfold decI; rw [hs, if_neg (by omega)]; dsimp only; rw [if_pos hfit]
        unfold DecPost
        rw [hd]
        exact decode_c u _ _ _ _ _ 0 _ h1 h2 h3 h4 h5 ha hb hc (wrap32_in u).1 (wrap32_in u).2 he rfl (bne_eq_false_iff_eq.2 (hw.2 hz)) w
      · refine bad _ 0 he ?_ (.inr fun h => hz (hw.1 h))
        unfold decI
        rw [if_pos (.inr hz)]
end Go.Proofs.Ytbchiolgbhckhaa.Mach

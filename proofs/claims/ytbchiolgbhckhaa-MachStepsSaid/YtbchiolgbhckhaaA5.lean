/- A step of the machine. -/
import Derived.Test.YtbchiolgbhckhaaA2
import Derived.Test.YtbchiolgbhckhaaA4
import Derived.Test.YtbchiolgbhckhaaA1
import Derived.Defers
import Derived.Recover
section
/- What isa.Decode hands back of a word: the instruction that it is, or an error. -/
set_option linter.unusedVariables false
set_option linter.unusedSimpArgs false
namespace Go.Proofs.Ytbchiolgbhckhaa.Mach
open Go.RowKit Go.Proofs.YtbchiolgbhckhaaW.PrintWords Go.Proofs.Ytbchiolgbhckhaa.PMachRuns
set_option maxHeartbeats 1000000 in
theorem decode_a (v : Int) (k a b c : Nat) (i E W : Int) (h1 : wrap64 (IntKind.u64.wrap v / 72057594037927936) = (k : Int)) (h2 : wrap64 (bits BinOp.and IntKind.u64 (IntKind.u64.wrap v / 4503599627370496) 15) = (a : Int))
    (h3 : wrap64 (bits BinOp.and IntKind.u64 (IntKind.u64.wrap v / 281474976710656) 15) = (b : Int)) (h4 : wrap64 (bits BinOp.and IntKind.u64 (IntKind.u64.wrap v / 17592186044416) 15) = (c : Int)) (h5 : wrap64 (wrap32 (IntKind.u64.wrap v)) = i)
    (ha : a < 16) (hb : b < 16) (hc : c < 16) (i0 : -2147483648 ≤ i) (i1 : i ≤ 2147483647) (he : enc2 k a b c i = (W, E)) (hE : (E != 0) = true) (w : World) :
    Calls Try.prog 50 #[.int .i64 v] w fun e w' => e = .returned (.tuple #[.agg #[.int .i64 0, .int .i64 0, .int .i64 0, .int .i64 0, .int .i64 0], .int .i64 4]) ∧ Below w.heap.size w w' := by
  have hcall := fun wx => encode_any k a b c i ha hb hc i0 i1 wx
  rw [he] at hcall
  dsimp only at hcall
  have H := Lib.hid hcall
  clear hcall he
  go_enter Try.func50, Try.ntmps50
  go_wp2_with (go_at_call 60; refine (H.out _).mono ?_; rintro e w' ⟨rfl, hb⟩; obtain ⟨hc, hf, hz⟩ := bcell' (n := w.heap.size + 2) hb (by simp))
  exact bodyPost_ret (v := .tuple #[.agg #[.int .i64 0, .int .i64 0, .int .i64 0, .int .i64 0, .int .i64 0], .int .i64 4]) (by simp [results, Try.results50, go_sem, hc, hz, hf]) rfl ⟨rfl, by repeat (first | exact ((((Below.refl _ _).alloc (Nat.le_refl _) _).alloc (by simp) _).trans (hb.mono (by simp; omega))) | refine Below.setCell ?_ (by simp) _)⟩
set_option maxHeartbeats 1000000 in
theorem decode_b (v : Int) (k a b c : Nat) (i E W : Int) (h1 : wrap64 (IntKind.u64.wrap v / 72057594037927936) = (k : Int)) (h2 : wrap64 (bits BinOp.and IntKind.u64 (IntKind.u64.wrap v / 4503599627370496) 15) = (a : Int))
    (h3 : wrap64 (bits BinOp.and IntKind.u64 (IntKind.u64.wrap v / 281474976710656) 15) = (b : Int)) (h4 : wrap64 (bits BinOp.and IntKind.u64 (IntKind.u64.wrap v / 17592186044416) 15) = (c : Int)) (h5 : wrap64 (wrap32 (IntKind.u64.wrap v)) = i)
    (ha : a < 16) (hb : b < 16) (hc : c < 16) (i0 : -2147483648 ≤ i) (i1 : i ≤ 2147483647) (he : enc2 k a b c i = (W, E)) (hE : (E != 0) = false) (hW : (W != v) = true) (w : World) :
    Calls Try.prog 50 #[.int .i64 v] w fun e w' => e = .returned (.tuple #[.agg #[.int .i64 0, .int .i64 0, .int .i64 0, .int .i64 0, .int .i64 0], .int .i64 4]) ∧ Below w.heap.size w w' := by
  have hcall := fun wx => encode_any k a b c i ha hb hc i0 i1 wx
  rw [he] at hcall
  dsimp only at hcall
  have H := Lib.hid hcall
  clear hcall he
  go_enter Try.func50, Try.ntmps50
  go_wp2_with (go_at_call 60; refine (H.out _).mono ?_; rintro e w' ⟨rfl, hb⟩; obtain ⟨hc, hf, hz⟩ := bcell' (n := w.heap.size + 2) hb (by simp))
  exact bodyPost_ret (v := .tuple #[.agg #[.int .i64 0, .int .i64 0, .int .i64 0, .int .i64 0, .int .i64 0], .int .i64 4]) (by simp [results, Try.results50, go_sem, hc, hz, hf]) rfl ⟨rfl, by repeat (first | exact ((((Below.refl _ _).alloc (Nat.le_refl _) _).alloc (by simp) _).trans (hb.mono (by simp; omega))) | refine Below.setCell ?_ (by simp) _)⟩
set_option maxHeartbeats 1000000 in
theorem decode_c (v : Int) (k a b c : Nat) (i E W : Int) (h1 : wrap64 (IntKind.u64.wrap v / 72057594037927936) = (k : Int)) (h2 : wrap64 (bits BinOp.and IntKind.u64 (IntKind.u64.wrap v / 4503599627370496) 15) = (a : Int))
    (h3 : wrap64 (bits BinOp.and IntKind.u64 (IntKind.u64.wrap v / 281474976710656) 15) = (b : Int)) (h4 : wrap64 (bits BinOp.and IntKind.u64 (IntKind.u64.wrap v / 17592186044416) 15) = (c : Int)) (h5 : wrap64 (wrap32 (IntKind.u64.wrap v)) = i)
    (ha : a < 16) (hb : b < 16) (hc : c < 16) (i0 : -2147483648 ≤ i) (i1 : i ≤ 2147483647) (he : enc2 k a b c i = (W, E)) (hE : (E != 0) = false) (hW : (W != v) = false) (w : World) :
    Calls Try.prog 50 #[.int .i64 v] w fun e w' => e = .returned (.tuple #[.agg #[.int .i64 k, .int .i64 a, .int .i64 b, .int .i64 c, .int .i64 i], .int .i64 0]) ∧ Below w.heap.size w w' := by
  have hcall := fun wx => encode_any k a b c i ha hb hc i0 i1 wx
  rw [he] at hcall
  dsimp only at hcall
  have H := Lib.hid hcall
  clear hcall he
  go_enter Try.func50, Try.ntmps50
  go_wp2_with (go_at_call 60; refine (H.out _).mono ?_; rintro e w' ⟨rfl, hb⟩; obtain ⟨hc, hf, hz⟩ := bcell' (n := w.heap.size + 2) hb (by simp))
  exact bodyPost_ret (v := .tuple #[.agg #[.int .i64 k, .int .i64 a, .int .i64 b, .int .i64 c, .int .i64 i], .int .i64 0]) (by simp [results, Try.results50, go_sem, hc, hz, hf]) rfl ⟨rfl, by repeat (first | exact ((((Below.refl _ _).alloc (Nat.le_refl _) _).alloc (by simp) _).trans (hb.mono (by simp; omega))) | refine Below.setCell ?_ (by simp) _)⟩
end Go.Proofs.Ytbchiolgbhckhaa.Mach
end

section
/- What isa.Decode hands back of a word: the instruction that it is, or an error: by the plain reading of the word. -/
set_option linter.unusedVariables false
set_option linter.unusedSimpArgs false
namespace Go.Proofs.Ytbchiolgbhckhaa.Mach
open Go.RowKit Go.Proofs.YtbchiolgbhckhaaW.PrintWords Go.Proofs.Ytbchiolgbhckhaa.PMachRuns

theorem u64_is (n : Int) : IntKind.u64.wrap n = n % 18446744073709551616 := by simp [IntKind.wrap, IntKind.signed, IntKind.bits]
theorem and15 (x : Int) (h0 : 0 ≤ x) (h1 : x < 18446744073709551616) : bits .and .u64 x 15 = x % 16 :=
  bits_mask .u64 64 (by decide) (fun n h0 h1 => by rw [u64_is]; omega) 4 (by decide) x h0 (by omega)
theorem usesOf_big (k : Nat) (h : 44 ≤ k) : usesOf k = none := by
  unfold usesOf
  repeat rw [if_neg (by omega)]
/-- What 'Decode' hands back of a word: five numbers of the instruction, the error. -/
def DecPost (v : Int) (w : World) (e : Ending) (w' : World) : Prop :=
  e = .returned (.tuple #[.agg #[.int .i64 (dec6 (decI v)).1, .int .i64 (dec6 (decI v)).2.1, .int .i64 (dec6 (decI v)).2.2.1, .int .i64 (dec6 (decI v)).2.2.2.1, .int .i64 (dec6 (decI v)).2.2.2.2.1], .int .i64 (dec6 (decI v)).2.2.2.2.2]) ∧ Below w.heap.size w w'
theorem decode_any (v : Int) (g0 : -9223372036854775808 ≤ v) (g1 : v ≤ 9223372036854775807) (w : World) : Calls Try.prog 50 #[.int .i64 v] w (DecPost v w) := by
  generalize hu : v % 18446744073709551616 = u
  have hu0 : 0 ≤ u ∧ u < 18446744073709551616 := by omega
  have e0 : IntKind.u64.wrap v = u := by rw [u64_is, hu]
  have h1 : wrap64 (IntKind.u64.wrap v / 72057594037927936) = ((u / 72057594037927936).toNat : Int) := by rw [e0]; unfold wrap64; omega
  have h2 : wrap64 (bits BinOp.and IntKind.u64 (IntKind.u64.wrap v / 4503599627370496) 15) = ((u / 4503599627370496 % 16).toNat : Int) := by
    rw [e0, and15 _ (by omega) (by omega)]; unfold wrap64; omega
  have h3 : wrap64 (bits BinOp.and IntKind.u64 (IntKind.u64.wrap v / 281474976710656) 15) = ((u / 281474976710656 % 16).toNat : Int) := by
    rw [e0, and15 _ (by omega) (by omega)]; unfold wrap64; omega
  have h4 : wrap64 (bits BinOp.and IntKind.u64 (IntKind.u64.wrap v / 17592186044416) 15) = ((u / 17592186044416 % 16).toNat : Int) := by
    rw [e0, and15 _ (by omega) (by omega)]; unfold wrap64; omega
  have h5 : wrap64 (wrap32 (IntKind.u64.wrap v)) = wrap32 v := by rw [e0]; unfold wrap64 wrap32; omega
  have ha : (u / 4503599627370496 % 16).toNat < 16 := by omega
  have hb : (u / 281474976710656 % 16).toNat < 16 := by omega
  have hc : (u / 17592186044416 % 16).toNat < 16 := by omega
  have bad : ∀ W E, enc2 (u / 72057594037927936).toNat (u / 4503599627370496 % 16).toNat (u / 281474976710656 % 16).toNat (u / 17592186044416 % 16).toNat (wrap32 v) = (W, E) → decI v = none → (E ≠ 0 ∨ W ≠ v) → Calls Try.prog 50 #[.int .i64 v] w (DecPost v w) := by
    intro W E he hd hn
    unfold DecPost
    rw [hd]
    show Calls Try.prog 50 #[.int .i64 v] w fun e w' => e = .returned (.tuple #[.agg #[.int .i64 0, .int .i64 0, .int .i64 0, .int .i64 0, .int .i64 0], .int .i64 4]) ∧ Below w.heap.size w w'
    by_cases hE : E = 0
    · exact decode_b v _ _ _ _ _ E W h1 h2 h3 h4 h5 ha hb hc (wrap32_in v).1 (wrap32_in v).2 he (bne_eq_false_iff_eq.2 hE) (bne_iff_ne.2 (hn.resolve_left (fun h => h hE))) w
    · exact decode_a v _ _ _ _ _ E W h1 h2 h3 h4 h5 ha hb hc (wrap32_in v).1 (wrap32_in v).2 he (bne_iff_ne.2 hE) w
  by_cases hv : v < 0
  · refine bad 0 4 ?_ ?_ (.inl (by decide))
    · unfold enc2
      rw [usesOf_big _ (by omega)]
    · unfold decI
      rw [if_pos (.inl hv)]
  have huv : u = v := by omega
  subst huv
  have k1 : (u / 72057594037927936).toNat = wOp u := rfl
  have k2 : (u / 4503599627370496 % 16).toNat = wA u := rfl
  have k3 : (u / 281474976710656 % 16).toNat = wB u := rfl
  have k4 : (u / 17592186044416 % 16).toNat = wC u := rfl
  rw [k1, k2, k3, k4] at bad
  rw [k1] at h1; rw [k2] at h2 ha; rw [k3] at h3 hb; rw [k4] at h4 hc
  have hw := word5_of u (by omega) g1
  cases hs : usesOf (wOp u) with
  | none =>
    refine bad 0 4 ?_ ?_ (.inl (by decide))
    · unfold enc2; rw [hs]
    · unfold decI; rw [hs]; split <;> rfl
  | some rm =>
    obtain ⟨r, m⟩ := rm
    by_cases hfit : fits r m (wA u) (wB u) (wC u) (wrap32 u) = true
    case neg =>
      refine bad 0 4 ?_ ?_ (.inl (by decide))
      · unfold enc2; rw [hs]; dsimp only; rw [if_neg hfit]
      · unfold decI; rw [hs]; dsimp only; rw [if_neg hfit]; split <;> rfl
    case pos =>
      have he : enc2 (wOp u) (wA u) (wB u) (wC u) (wrap32 u) = (word5 (wOp u) (wA u) (wB u) (wC u) (wrap32 u), 0) := by
        unfold enc2; rw [hs]; dsimp only; rw [if_pos hfit]
      by_cases hz : u / 4294967296 % 4096 = 0
      · have hd : decI u = some ⟨wOp u, wA u, wB u, wC u, wrap32 u⟩ := by
          unfold decI; rw [hs, if_neg (by omega)]; dsimp only; rw [if_pos hfit]
        unfold DecPost
        rw [hd]
        exact decode_c u _ _ _ _ _ 0 _ h1 h2 h3 h4 h5 ha hb hc (wrap32_in u).1 (wrap32_in u).2 he rfl (bne_eq_false_iff_eq.2 (hw.2 hz)) w
      · refine bad _ 0 he ?_ (.inr fun h => hz (hw.1 h))
        unfold decI
        rw [if_pos (.inr hz)]
end Go.Proofs.Ytbchiolgbhckhaa.Mach
end

section
/- One step of the machine: the deferred closure that recovers; the walk to the operation; what a step leaves. -/
set_option linter.unusedVariables false
set_option linter.unusedSimpArgs false
namespace Go.Proofs.Ytbchiolgbhckhaa.Mach
open Go.RowKit Go.Proofs.YtbchiolgbhckhaaW.PrintWords Go.Proofs.YtbchiolgbhckhaaW.PrintMore Go.Proofs.Ytbchiolgbhckhaa.PMachRuns

theorem catch_panicking (p : Addr) (m : Nat) (x y : Int) (u : TypeId) (pv : Value) (older : List PanicEntry) (w : World) (hp : w.cell? p = some (.pointer (some ⟨m, 0, none⟩)))
    (h6 : w.cell? ⟨m, 21, none⟩ = some (.int .i64 x)) (h7 : w.cell? ⟨m, 22, none⟩ = some (.int .i64 y)) (hf : ∀ o, w.frozen? ⟨m, o, none⟩ = false) :
    CallsD Try.prog 48 #[.pointer (some p)] (.panicking ({ v := .iface u pv, recovered := false } :: older)) w fun e u' w' =>
      e = .returned (.tuple #[]) ∧ u' = .panicking ({ v := .iface u pv, recovered := true } :: older) ∧ w' = endsW w m 5 0 := by
  refine callsD_of_wpS Try.func48 rfl fun c₀ cs hu => ?_
  apply wpS_seq
  apply wpS_region
  simp [wpOpsS, go_sem, recoverD, hu, Try.ntmps48, Exit.thenS]
  apply wpS_seq
  apply wpS_region
  simp [wpOpsS, go_sem, recoverD, hu, Try.ntmps48, Exit.thenS]
  refine wpS_cond (t := true) (by simp [Act.eval, Array.replicate]) ?_
  simp only [if_true]
  refine wpS_of_wp ?_
  simp only [Array.replicate]
  go_simp
  go_wp2_with (go_at_call 49; refine (ends_any m x y 5 0 w h6 h7 hf).mono ?_; rintro e w' ⟨rfl, rfl⟩)
  simp [bodyPostS, results, Try.results48, endsW]

theorem catch_idle (p : Addr) (w : World) :
    CallsD Try.prog 48 #[.pointer (some p)] .returning w fun e u' w' => e = .returned (.tuple #[]) ∧ u' = .returning ∧ w' = w := by
  refine callsD_of_wpS Try.func48 rfl fun c₀ cs hu => ?_
  apply wpS_seq
  apply wpS_region
  simp [wpOpsS, go_sem, recoverD, hu, Try.ntmps48, Exit.thenS]
  apply wpS_seq
  apply wpS_region
  simp [wpOpsS, go_sem, recoverD, hu, Try.ntmps48, Exit.thenS]
  refine wpS_cond (t := false) (by simp [Act.eval, Array.replicate]) ?_
  simp only [Bool.false_eq_true, if_false]
  refine wpS_of_wp (wp_skip ?_)
  cases c₀
  simp_all [bodyPostS, results, Try.results48]

/-- Still operations, one after another; opaque, so that no guard is reckoned but by the kernel. -/
structure Stills (P : Program) (ops : Array Oper) (w : World) (Q : Act → Prop) (l : List Oper) (a : Act) : Prop where
  out : wpStill P ops w Q l a
section
variable {P : Program} {ops : Array Oper} {w : World} {Q : Act → Prop} {a : Act} {o : Oper} {rest : List Oper}
theorem Stills.skip (hw : Region.wanted o (yielded ops a.tmps) = false) (h : Stills P ops w Q rest (a.put o.dst undef)) : Stills P ops w Q (o :: rest) a := by
  refine ⟨wpStill_step (fun K hK => ?_)⟩
  rw [hw]
  exact hK _ h.out
theorem Stills.take (hw : Region.wanted o (yielded ops a.tmps) = true) (h : ∀ K : Act → Prop, (∀ a, Stills P ops w Q rest a → K a) → o.still P a w K) : Stills P ops w Q (o :: rest) a := by
  refine ⟨wpStill_step (fun K hK => ?_)⟩
  rw [hw]
  exact h K fun a h => hK a h.out
theorem Stills.nil (h : Q a) : Stills P ops w Q [] a := ⟨h⟩
end

set_option maxHeartbeats 400000 in
theorem step_over (m : Nat) (k : Int) (w : World) (hk : w.cell? ⟨m, 21, none⟩ = some (.int .i64 k)) (h0 : ¬ k = 0) (hm : m < w.heap.size) :
    Calls Try.prog 17 #[.pointer (some ⟨m, 0, none⟩)] w fun e w' => e = .returned (.bool false) ∧ Below w.heap.size w w' := by
  have hk' : (k != 0) = true := bne_iff_ne.2 h0
  go_enter_defers Try.func17, Try.ntmps17
  go_wp2
  exact ⟨.bool false, by simp [results, Try.results17, go_sem], rfl, (Below.refl _ _).alloc (Nat.le_refl _) _⟩
set_option maxHeartbeats 400000 in
theorem step_nil (w : World) :
    Calls Try.prog 17 #[.pointer none] w fun e w' => e = .returned (.bool false) ∧ Below w.heap.size w w' := by
  go_enter_defers Try.func17, Try.ntmps17
  go_wp2
  exact ⟨.bool false, by simp [results, Try.results17, go_sem], rfl, (Below.refl _ _).alloc (Nat.le_refl _) _⟩
set_option maxHeartbeats 400000 in
theorem step_low (m cb n cc : Nat) (pc st y : Int) (w : World) (hm : m < w.heap.size) (hf : ∀ o, w.frozen? ⟨m, o, none⟩ = false) (h0 : w.cell? ⟨m, 0, none⟩ = some (.slice (some ⟨cb, 0, none⟩) n cc)) (hn : n ≤ 65536) (h18 : w.cell? ⟨m, 18, none⟩ = some (.int .i64 pc)) (h21 : w.cell? ⟨m, 21, none⟩ = some (.int .i64 0)) (h22 : w.cell? ⟨m, 22, none⟩ = some (.int .i64 y)) (h23 : w.cell? ⟨m, 23, none⟩ = some (.int .i64 st)) (hp : pc < 0) :
    Calls Try.prog 17 #[.pointer (some ⟨m, 0, none⟩)] w fun e w' => e = .returned (.bool true) ∧ Below w.heap.size (endsW (w.setCell ⟨m, 23, none⟩ (.int .i64 (wrap64 (st + 1)))) m 5 0) w' := by
  have hmf : ∀ (fn : Fn) (first cap : Array Value) (w : World), (Instr.makeFunc fn first cap).run Try.prog w = .ok (.func fn first cap) w := fun _ _ _ _ => rfl
  go_enter_defers Try.func17, Try.ntmps17
  go_wp2
  refine region_still mixed (by kernel_rfl) ?_
  refine Stills.out ?_
  iterate 6 (refine Stills.take (by kernel_rfl) (fun K hK => ?_); go_simp; refine hK _ ?_; clear hK K)
  iterate 10 (refine Stills.skip (by kernel_rfl) ?_)
  refine Stills.take (by kernel_rfl) (fun K hK => ?_)
  go_simp
  refine hK _ ?_
  clear hK K
  refine Stills.nil ?_
  go_wp2
  refine leaves_cons (f := 48) (args := #[.pointer (some ⟨w.heap.size, 0, none⟩)]) (by simp) (by simp [go_sem]) ?_
  refine (catch_panicking ⟨w.heap.size, 0, none⟩ m 0 y 65 _ [] _ ?_ ?_ ?_ ?_).mono ?_
  · go_simp
  · go_simp
  · go_simp
  · intro o; go_simp
  rintro e u' w'' ⟨rfl, rfl, rfl⟩
  simp only [settle, Leaves]
  exact ⟨.bool true, by simp [results, Try.results17, go_sem], rfl, by unfold endsW; refine below_put (below_put ?_ _ _) _ _; exact ((Below.refl _ _).alloc (by simp) _).drew⟩
set_option maxHeartbeats 400000 in
theorem step_high (m cb n cc : Nat) (pc st y : Int) (w : World) (hm : m < w.heap.size) (hf : ∀ o, w.frozen? ⟨m, o, none⟩ = false) (h0 : w.cell? ⟨m, 0, none⟩ = some (.slice (some ⟨cb, 0, none⟩) n cc)) (hn : n ≤ 65536) (h18 : w.cell? ⟨m, 18, none⟩ = some (.int .i64 pc)) (h21 : w.cell? ⟨m, 21, none⟩ = some (.int .i64 0)) (h22 : w.cell? ⟨m, 22, none⟩ = some (.int .i64 y)) (h23 : w.cell? ⟨m, 23, none⟩ = some (.int .i64 st)) (hp : decide (pc < 0) = false) (hp' : (n : Int) ≤ pc) :
    Calls Try.prog 17 #[.pointer (some ⟨m, 0, none⟩)] w fun e w' => e = .returned (.bool true) ∧ Below w.heap.size (endsW (w.setCell ⟨m, 23, none⟩ (.int .i64 (wrap64 (st + 1)))) m 5 0) w' := by
  have hmf : ∀ (fn : Fn) (first cap : Array Value) (w : World), (Instr.makeFunc fn first cap).run Try.prog w = .ok (.func fn first cap) w := fun _ _ _ _ => rfl
  go_enter_defers Try.func17, Try.ntmps17
  go_wp2
  refine region_still mixed (by kernel_rfl) ?_
  refine Stills.out ?_
  iterate 17 (refine Stills.take (by kernel_rfl) (fun K hK => ?_); go_simp; refine hK _ ?_; clear hK K)
  refine Stills.nil ?_
  go_wp2
  refine leaves_cons (f := 48) (args := #[.pointer (some ⟨w.heap.size, 0, none⟩)]) (by simp) (by simp [go_sem]) ?_
  refine (catch_panicking ⟨w.heap.size, 0, none⟩ m 0 y 65 _ [] _ ?_ ?_ ?_ ?_).mono ?_
  · go_simp
  · go_simp
  · go_simp
  · intro o; go_simp
  rintro e u' w'' ⟨rfl, rfl, rfl⟩
  simp only [settle, Leaves]
  exact ⟨.bool true, by simp [results, Try.results17, go_sem], rfl, by unfold endsW; refine below_put (below_put ?_ _ _) _ _; exact ((Below.refl _ _).alloc (by simp) _).drew⟩
theorem callFunc_op (k : Nat) (hk : k < 16) (args : Array Value) (w : World) : (callFunc (32 + k) args).run Try.prog w = .ok (.enter (32 + k) args) w := by
  have h : k = 0 ∨ k = 1 ∨ k = 2 ∨ k = 3 ∨ k = 4 ∨ k = 5 ∨ k = 6 ∨ k = 7 ∨ k = 8 ∨ k = 9 ∨ k = 10 ∨ k = 11 ∨ k = 12 ∨ k = 13 ∨ k = 14 ∨ k = 15 := by omega
  rcases h with rfl | rfl | rfl | rfl | rfl | rfl | rfl | rfl | rfl | rfl | rfl | rfl | rfl | rfl | rfl | rfl <;> simp [go_sem]
theorem leaves_tmps {P : Program} {fn : Func} {tmps tmps' : Array Value} {R : Ending → World → Prop} (h : results fn tmps = results fn tmps') : ∀ (ds : List Deferred) (u : FrameMode) (w : World), Leaves P fn tmps R ds u w → Leaves P fn tmps' R ds u w
  | [], .returning, w, hl => by unfold Leaves at hl ⊢; rw [← h]; exact hl
  | [], .panicking chain, w, hl => hl
  | [], .run, _, hl => hl
  | d :: ds, u, w, hl => by
    unfold Leaves at hl ⊢
    obtain ⟨h1, fv, cap, f, args, h2, h3, h4⟩ := hl
    refine ⟨h1, fv, cap, f, args, h2, h3, CallsD.mono h4 (fun e u' w' hh => ?_)⟩
    cases e with
    | returned _ => exact leaves_tmps h ds _ _ hh
    | panicked _ => exact leaves_tmps h ds _ _ hh
    | outgrown => exact hh
theorem door_put {K : Act → World → Prop} {R : Ending → World → Prop} {d : Nat} {v : Value} (hd : d ≠ 2) (c : List PanicEntry) (a : Act) (w : World)
    (h : Exit.then K (bodyPostD Try.prog Try.f17 R) (.panic c) (a.put (some d) v) w) : Exit.then K (bodyPostD Try.prog Try.f17 R) (.panic c) a w := by
  have e : results Try.f17 (a.put (some d) v).tmps = results Try.f17 a.tmps := by
    simp [results, Try.results17, Act.put, hd]
  exact leaves_tmps e _ _ _ h
theorem decode_none {v : Int} (g0 : -9223372036854775808 ≤ v) (g1 : v ≤ 9223372036854775807) (hd : decI v = none) (w : World) :
    Calls Try.prog 50 #[.int .i64 v] w fun e w' => e = .returned (.tuple #[.agg #[.int .i64 0, .int .i64 0, .int .i64 0, .int .i64 0, .int .i64 0], .int .i64 4]) ∧ Below w.heap.size w w' := by
  have h := decode_any v g0 g1 w
  unfold DecPost at h
  rw [hd] at h
  exact h
theorem decode_some {v : Int} {x : I5} (g0 : -9223372036854775808 ≤ v) (g1 : v ≤ 9223372036854775807) (hd : decI v = some x) (w : World) :
    Calls Try.prog 50 #[.int .i64 v] w fun e w' => e = .returned (.tuple #[.agg #[.int .i64 x.o, .int .i64 x.a, .int .i64 x.b, .int .i64 x.c, .int .i64 x.i], .int .i64 0]) ∧ Below w.heap.size w w' := by
  have h := decode_any v g0 g1 w
  unfold DecPost at h
  rw [hd] at h
  exact h
theorem region_tree2 {P : Program} {id : Nat} {Q : Exit → Act → World → Prop} {a : Act} {w : World} {l : List Oper} (S : World → World → Prop) (t : Way) (n : Nat) (T : Act → World → Act → World → Prop) (hm : P.follows .mixedOrders = true)
    (hB : (Region.noSelect l.toArray && decide (n < l.length) && Region.sinkB .any l.toArray n && Region.chainB .any l.toArray n && treeB .any l.toArray n (l.length - n) n t (Array.replicate l.length false)) = true)
    (hS : S w.drew w.drew) (h : wpTree P l.toArray Q (S w.drew) (T a w.drew) t a w.drew) (hT : ∀ a' w', T a w.drew a' w' → wpList P l.toArray Q (l.drop n) a' w') : (Code.region id l.toArray true).wp P Q a w :=
  region_tree (S w.drew) t n (T a w.drew) hm hB hS h hT
set_option maxHeartbeats 2000000 in
theorem step_bad (m cb n cc : Nat) (pc st y : Int) (w : World) (hm : m < w.heap.size) (hf : ∀ o, w.frozen? ⟨m, o, none⟩ = false) (h0 : w.cell? ⟨m, 0, none⟩ = some (.slice (some ⟨cb, 0, none⟩) n cc)) (hn : n ≤ 65536) (h18 : w.cell? ⟨m, 18, none⟩ = some (.int .i64 pc)) (h21 : w.cell? ⟨m, 21, none⟩ = some (.int .i64 0)) (h22 : w.cell? ⟨m, 22, none⟩ = some (.int .i64 y)) (h23 : w.cell? ⟨m, 23, none⟩ = some (.int .i64 st)) (hp : decide (pc < 0) = false) (hp' : decide ((n : Int) ≤ pc) = false) (v : Int) (hv : w.cell? ⟨cb, pc.toNat, none⟩ = some (.int .i64 v)) (hcb : cb < w.heap.size) (hcm : ¬ cb = m) (hmc : ¬ m = cb) (q0 : 0 ≤ pc) (q1 : pc < n) (g0 : -9223372036854775808 ≤ v) (g1 : v ≤ 9223372036854775807) (hd : decI v = none) :
    Calls Try.prog 17 #[.pointer (some ⟨m, 0, none⟩)] w fun e w' => e = .returned (.bool true) ∧ Below w.heap.size (endsW (w.setCell ⟨m, 23, none⟩ (.int .i64 (wrap64 (st + 1)))) m 5 0) w' := by
  have hmf : ∀ (fn : Fn) (first cap : Array Value) (w : World), (Instr.makeFunc fn first cap).run Try.prog w = .ok (.func fn first cap) w := fun _ _ _ _ => rfl
  go_enter_defers Try.func17, Try.ntmps17
  go_wp2
  refine region_still mixed (by kernel_rfl) ?_
  refine Stills.out ?_
  iterate 17 (refine Stills.take (by kernel_rfl) (fun K hK => ?_); go_simp; refine hK _ ?_; clear hK K)
  refine Stills.nil ?_
  go_wp2
  refine region_tree2 (fun W w' => Below W.heap.size W w') (.read 0 (.read 1 (.read 2 (.read 3 (.read 4 (.read 5 (.read 6 (.read 7 (.read 8 (.read 9 (.fork 10 (.read 11 (.read 12 (.read 13 (.turn 14 (.turn 15 .done))))) 14 (.turn 10 (.read 11 (.read 12 (.read 13 (.turn 15 .done)))))))))))))))) 16
    (fun a W a' w' => ∃ b, W.heap.size ≤ b ∧ b < w'.heap.size ∧ Below W.heap.size W w' ∧ w'.cell? ⟨b, 0, none⟩ = some (.int .i64 0) ∧ w'.cell? ⟨b, 1, none⟩ = some (.int .i64 0) ∧ w'.cell? ⟨b, 2, none⟩ = some (.int .i64 0) ∧ w'.cell? ⟨b, 3, none⟩ = some (.int .i64 0) ∧ w'.cell? ⟨b, 4, none⟩ = some (.int .i64 0) ∧ (∀ o, w'.frozen? ⟨b, o, none⟩ = false) ∧
      a' = ((((((((((((((a.put (some 42) (.pointer (some ⟨m, 0, none⟩))).put (some 43) (.pointer (some ⟨m, 0, none⟩))).put (some 44) (.pointer (some ⟨m, 0, none⟩))).put (some 45) (.slice (some ⟨cb, 0, none⟩) n cc)).put (some 46) (.pointer (some ⟨m, 0, none⟩))).put (some 47) (.pointer (some ⟨m, 0, none⟩))).put (some 48) (.pointer (some ⟨m, 18, none⟩))).put (some 49) (.int .i64 pc)).put (some 50) (.pointer (some ⟨cb, pc.toNat, none⟩))).put (some 51) (.int .i64 v)).put (some 52) (.tuple #[.agg #[.int .i64 0, .int .i64 0, .int .i64 0, .int .i64 0, .int .i64 0], .int .i64 4])).put (some 41) (.tuple #[.agg #[.int .i64 0, .int .i64 0, .int .i64 0, .int .i64 0, .int .i64 0], .int .i64 4])).put (some 53) (.agg #[.int .i64 0, .int .i64 0, .int .i64 0, .int .i64 0, .int .i64 0])).put (some 54) (.int .i64 4)).put (some 3) (.pointer (some ⟨b, 0, none⟩))) mixed (by kernel_rfl) (Below.refl _ _) ?_ ?_
  refine tree_read (some 42) ?v0 rfl rfl (door_put (by decide)) rfl ?y0 ?_
  case y0 => intro w' hS; obtain ⟨c1, c2⟩ := bcell hS; go_simp; rfl
  refine tree_read (some 43) ?v1 rfl rfl (door_put (by decide)) rfl ?y1 ?_
  case y1 => intro w' hS; obtain ⟨c1, c2⟩ := bcell hS; go_simp; rfl
  refine tree_read (some 44) ?v2 rfl rfl (door_put (by decide)) rfl ?y2 ?_
  case y2 => intro w' hS; obtain ⟨c1, c2⟩ := bcell hS; go_simp; rfl
  refine tree_read (some 45) ?v3 rfl rfl (door_put (by decide)) rfl ?y3 ?_
  case y3 => intro w' hS; obtain ⟨c1, c2⟩ := bcell hS; go_simp; rfl
  refine tree_read (some 46) ?v4 rfl rfl (door_put (by decide)) rfl ?y4 ?_
  case y4 => intro w' hS; obtain ⟨c1, c2⟩ := bcell hS; go_simp; rfl
  refine tree_read (some 47) ?v5 rfl rfl (door_put (by decide)) rfl ?y5 ?_
  case y5 => intro w' hS; obtain ⟨c1, c2⟩ := bcell hS; go_simp; rfl
  refine tree_read (some 48) ?v6 rfl rfl (door_put (by decide)) rfl ?y6 ?_
  case y6 => intro w' hS; obtain ⟨c1, c2⟩ := bcell hS; go_simp; rfl
  refine tree_read (some 49) ?v7 rfl rfl (door_put (by decide)) rfl ?y7 ?_
  case y7 => intro w' hS; obtain ⟨c1, c2⟩ := bcell hS; go_simp; rfl
  refine tree_read (some 50) ?v8 rfl rfl (door_put (by decide)) rfl ?y8 ?_
  case y8 => intro w' hS; obtain ⟨c1, c2⟩ := bcell hS; go_simp; rfl
  refine tree_read (some 51) ?v9 rfl rfl (door_put (by decide)) rfl ?y9 ?_
  case y9 => intro w' hS; obtain ⟨c1, c2⟩ := bcell hS; go_simp; rfl
  refine tree_fork rfl rfl rfl rfl (fun K hK => ?_) (fun K hK => ?_)
  · go_simp
    refine (decode_none g0 g1 hd _).mono ?_
    rintro e w1 ⟨rfl, hb⟩
    go_simp
    refine hK _ _ hb (fun _ => ?_)
    clear hK K
    refine tree_read (some 41) ?v11 rfl rfl (door_put (by decide)) rfl ?y11 ?_
    case y11 => intro w' hS; go_simp; try rfl
    refine tree_read (some 53) ?v12 rfl rfl (door_put (by decide)) rfl ?y12 ?_
    case y12 => intro w' hS; go_simp; try rfl
    refine tree_read (some 54) ?v13 rfl rfl (door_put (by decide)) rfl ?y13 ?_
    case y13 => intro w' hS; go_simp; try rfl
    refine tree_turn rfl rfl (fun K hK => ?_)
    unfold Oper.wp execOp
    go_simp
    refine hK _ _ (hb.alloc hb.size _) (fun _ => ?_)
    clear hK K
    refine tree_turn rfl rfl (fun K hK => ?_)
    unfold Oper.wp execOp
    go_simp
    refine hK _ _ ?_ (fun _ => ?_)
    · first | exact hb.alloc hb.size _ | exact (hb.alloc hb.size _).setCell hb.size _ | (refine Below.setCell ?_ hb.size _; refine Below.setCell ?_ hb.size _; refine Below.setCell ?_ hb.size _; refine Below.setCell ?_ hb.size _; refine Below.setCell ?_ hb.size _; exact hb.alloc hb.size _)
    clear hK K
    refine tree_done ⟨w1.heap.size, hb.size, ?_, ?_, ?_, ?_, ?_, ?_, ?_, ?_, by kernel_rfl⟩
    · simp [World.setCell]
    · first | exact hb.alloc hb.size _ | exact (hb.alloc hb.size _).setCell hb.size _
    · go_simp
    · go_simp
    · go_simp
    · go_simp
    · go_simp
    · intro o; go_simp
  · unfold Oper.wp execOp
    go_simp
    refine hK _ _ ((Below.refl _ _).alloc (Nat.le_refl _) _) (fun _ => ?_)
    clear hK K
    refine tree_turn rfl rfl (fun K hK => ?_)
    go_simp
    refine (decode_none g0 g1 hd _).mono ?_
    rintro e w1 ⟨rfl, hb⟩
    have hb' := hb
    obtain ⟨c1, c2⟩ := bcell hb'
    go_simp
    refine hK _ _ ?_ (fun _ => ?_)
    · exact Below.trans ((Below.refl _ _).alloc (Nat.le_refl _) _) (hb.mono (by simp))
    clear hK K
    refine tree_read (some 41) ?v11 rfl rfl (door_put (by decide)) rfl ?y11 ?_
    case y11 => intro w' hS; go_simp; try rfl
    refine tree_read (some 53) ?v12 rfl rfl (door_put (by decide)) rfl ?y12 ?_
    case y12 => intro w' hS; go_simp; try rfl
    refine tree_read (some 54) ?v13 rfl rfl (door_put (by decide)) rfl ?y13 ?_
    case y13 => intro w' hS; go_simp; try rfl
    refine tree_turn rfl rfl (fun K hK => ?_)
    unfold Oper.wp execOp
    go_simp
    have hbX : Below (w.heap.size + 1) ((w.setCell ⟨m, 23, none⟩ (.int .i64 (wrap64 (st + 1)))).alloc (.cells #[.pointer (some ⟨m, 0, none⟩)] 28)).drew.drew w1 := Below.trans (((Below.refl _ _).alloc (Nat.le_refl _) _).mono (by simp)) (hb.mono (by simp))
    have hbY := fun v0 v1 v2 v3 v4 => ((((hbX.setCell (p := ⟨w.heap.size + 1, 0, none⟩) (Nat.le_refl _) v0).setCell (p := ⟨w.heap.size + 1, 1, none⟩) (Nat.le_refl _) v1).setCell (p := ⟨w.heap.size + 1, 2, none⟩) (Nat.le_refl _) v2).setCell (p := ⟨w.heap.size + 1, 3, none⟩) (Nat.le_refl _) v3).setCell (p := ⟨w.heap.size + 1, 4, none⟩) (Nat.le_refl _) v4
    refine hK _ _ ?_ (fun _ => ?_)
    · refine Below.mono (hbY _ _ _ _ _) ?_
      simp
    clear hK K
    refine tree_done ⟨w.heap.size + 1, by simp, ?_, ?_, ?_, ?_, ?_, ?_, ?_, ?_, by kernel_rfl⟩
    · have := hb.size
      simp [World.setCell] at this ⊢
      omega
    · refine Below.mono (hbY _ _ _ _ _) ?_
      simp
    · go_simp
    · go_simp
    · go_simp
    · go_simp
    · go_simp
    · intro o; go_simp
  rintro a' w2 ⟨b, b0, b1, hb, d0, d1, d2, d3, d4, df, rfl⟩
  obtain ⟨c1, c2⟩ := bcell hb
  simp only [List.drop_succ_cons, List.drop_zero]
  go_simp
  go_wp2
  refine leaves_cons (f := 48) (args := #[.pointer (some ⟨w.heap.size, 0, none⟩)]) (by simp) (by simp [go_sem]) ?_
  refine (catch_panicking ⟨w.heap.size, 0, none⟩ m 0 y 65 _ [] _ ?_ ?_ ?_ ?_).mono ?_
  · go_simp
  · go_simp
  · go_simp
  · intro o; go_simp
  rintro e u' w'' ⟨rfl, rfl, rfl⟩
  simp only [settle, Leaves]
  exact ⟨.bool true, by simp [results, Try.results17, go_sem], rfl, by unfold endsW; exact below_put (below_put (Below.trans (((Below.refl _ _).alloc (by simp [World.setCell]) _).drew.drew) (hb.mono (by simp [World.setCell]))) _ _) _ _⟩
set_option maxHeartbeats 2000000 in
theorem step_words (m cb n cc : Nat) (pc st y : Int) (w : World) (hm : m < w.heap.size) (hf : ∀ o, w.frozen? ⟨m, o, none⟩ = false) (h0 : w.cell? ⟨m, 0, none⟩ = some (.slice (some ⟨cb, 0, none⟩) n cc)) (hn : n ≤ 65536) (h18 : w.cell? ⟨m, 18, none⟩ = some (.int .i64 pc)) (h21 : w.cell? ⟨m, 21, none⟩ = some (.int .i64 0)) (h22 : w.cell? ⟨m, 22, none⟩ = some (.int .i64 y)) (h23 : w.cell? ⟨m, 23, none⟩ = some (.int .i64 st)) (hp : decide (pc < 0) = false) (hp' : decide ((n : Int) ≤ pc) = false) (v : Int) (hv : w.cell? ⟨cb, pc.toNat, none⟩ = some (.int .i64 v)) (hcb : cb < w.heap.size) (hcm : ¬ cb = m) (hmc : ¬ m = cb) (q0 : 0 ≤ pc) (q1 : pc < n) (x : I5) (g0 : -9223372036854775808 ≤ v) (g1 : v ≤ 9223372036854775807) (hd : decI v = some x) (R : World → Prop) (ho : ¬ (x.o : Int) < 16) (ob oc : Nat) (h24 : w.cell? ⟨m, 24, none⟩ = some (.slice (some ⟨ob, 0, none⟩) 16 oc)) (hop : ∀ X, Below w.heap.size (pcW (w.setCell ⟨m, 23, none⟩ (.int .i64 (wrap64 (st + 1)))) m (pc + 1)) X → Calls Try.prog 51 #[.pointer (some ⟨m, 0, none⟩), .agg #[.int .i64 x.o, .int .i64 x.a, .int .i64 x.b, .int .i64 x.c, .int .i64 x.i]] X (fun e w' => (e = .returned (.tuple #[]) ∧ R w') ∨ (e = faultP ∧ Below X.heap.size X w' ∧ R (endsW w' m 5 0)))) :
    Calls Try.prog 17 #[.pointer (some ⟨m, 0, none⟩)] w fun e w' => e = .returned (.bool true) ∧ R w' := by
  have hmf : ∀ (fn : Fn) (first cap : Array Value) (w : World), (Instr.makeFunc fn first cap).run Try.prog w = .ok (.func fn first cap) w := fun _ _ _ _ => rfl
  go_enter_defers Try.func17, Try.ntmps17
  go_wp2
  refine region_still mixed (by kernel_rfl) ?_
  refine Stills.out ?_
  iterate 17 (refine Stills.take (by kernel_rfl) (fun K hK => ?_); go_simp; refine hK _ ?_; clear hK K)
  refine Stills.nil ?_
  go_wp2
  refine region_tree2 (fun W w' => Below W.heap.size W w') (.read 0 (.read 1 (.read 2 (.read 3 (.read 4 (.read 5 (.read 6 (.read 7 (.read 8 (.read 9 (.fork 10 (.read 11 (.read 12 (.read 13 (.turn 14 (.turn 15 .done))))) 14 (.turn 10 (.read 11 (.read 12 (.read 13 (.turn 15 .done)))))))))))))))) 16
    (fun a W a' w' => ∃ b, W.heap.size ≤ b ∧ b < w'.heap.size ∧ Below W.heap.size W w' ∧ w'.cell? ⟨b, 0, none⟩ = some (.int .i64 x.o) ∧ w'.cell? ⟨b, 1, none⟩ = some (.int .i64 x.a) ∧ w'.cell? ⟨b, 2, none⟩ = some (.int .i64 x.b) ∧ w'.cell? ⟨b, 3, none⟩ = some (.int .i64 x.c) ∧ w'.cell? ⟨b, 4, none⟩ = some (.int .i64 x.i) ∧ (∀ o, w'.frozen? ⟨b, o, none⟩ = false) ∧
      a' = ((((((((((((((a.put (some 42) (.pointer (some ⟨m, 0, none⟩))).put (some 43) (.pointer (some ⟨m, 0, none⟩))).put (some 44) (.pointer (some ⟨m, 0, none⟩))).put (some 45) (.slice (some ⟨cb, 0, none⟩) n cc)).put (some 46) (.pointer (some ⟨m, 0, none⟩))).put (some 47) (.pointer (some ⟨m, 0, none⟩))).put (some 48) (.pointer (some ⟨m, 18, none⟩))).put (some 49) (.int .i64 pc)).put (some 50) (.pointer (some ⟨cb, pc.toNat, none⟩))).put (some 51) (.int .i64 v)).put (some 52) (.tuple #[.agg #[.int .i64 x.o, .int .i64 x.a, .int .i64 x.b, .int .i64 x.c, .int .i64 x.i], .int .i64 0])).put (some 41) (.tuple #[.agg #[.int .i64 x.o, .int .i64 x.a, .int .i64 x.b, .int .i64 x.c, .int .i64 x.i], .int .i64 0])).put (some 53) (.agg #[.int .i64 x.o, .int .i64 x.a, .int .i64 x.b, .int .i64 x.c, .int .i64 x.i])).put (some 54) (.int .i64 0)).put (some 3) (.pointer (some ⟨b, 0, none⟩))) mixed (by kernel_rfl) (Below.refl _ _) ?_ ?_
  refine tree_read (some 42) ?v0 rfl rfl (door_put (by decide)) rfl ?y0 ?_
  case y0 => intro w' hS; obtain ⟨c1, c2⟩ := bcell hS; go_simp; rfl
  refine tree_read (some 43) ?v1 rfl rfl (door_put (by decide)) rfl ?y1 ?_
  case y1 => intro w' hS; obtain ⟨c1, c2⟩ := bcell hS; go_simp; rfl
  refine tree_read (some 44) ?v2 rfl rfl (door_put (by decide)) rfl ?y2 ?_
  case y2 => intro w' hS; obtain ⟨c1, c2⟩ := bcell hS; go_simp; rfl
  refine tree_read (some 45) ?v3 rfl rfl (door_put (by decide)) rfl ?y3 ?_
  case y3 => intro w' hS; obtain ⟨c1, c2⟩ := bcell hS; go_simp; rfl
  refine tree_read (some 46) ?v4 rfl rfl (door_put (by decide)) rfl ?y4 ?_
  case y4 => intro w' hS; obtain ⟨c1, c2⟩ := bcell hS; go_simp; rfl
  refine tree_read (some 47) ?v5 rfl rfl (door_put (by decide)) rfl ?y5 ?_
  case y5 => intro w' hS; obtain ⟨c1, c2⟩ := bcell hS; go_simp; rfl
  refine tree_read (some 48) ?v6 rfl rfl (door_put (by decide)) rfl ?y6 ?_
  case y6 => intro w' hS; obtain ⟨c1, c2⟩ := bcell hS; go_simp; rfl
  refine tree_read (some 49) ?v7 rfl rfl (door_put (by decide)) rfl ?y7 ?_
  case y7 => intro w' hS; obtain ⟨c1, c2⟩ := bcell hS; go_simp; rfl
  refine tree_read (some 50) ?v8 rfl rfl (door_put (by decide)) rfl ?y8 ?_
  case y8 => intro w' hS; obtain ⟨c1, c2⟩ := bcell hS; go_simp; rfl
  refine tree_read (some 51) ?v9 rfl rfl (door_put (by decide)) rfl ?y9 ?_
  case y9 => intro w' hS; obtain ⟨c1, c2⟩ := bcell hS; go_simp; rfl
  refine tree_fork rfl rfl rfl rfl (fun K hK => ?_) (fun K hK => ?_)
  · go_simp
    refine (decode_some g0 g1 hd _).mono ?_
    rintro e w1 ⟨rfl, hb⟩
    go_simp
    refine hK _ _ hb (fun _ => ?_)
    clear hK K
    refine tree_read (some 41) ?v11 rfl rfl (door_put (by decide)) rfl ?y11 ?_
    case y11 => intro w' hS; go_simp; try rfl
    refine tree_read (some 53) ?v12 rfl rfl (door_put (by decide)) rfl ?y12 ?_
    case y12 => intro w' hS; go_simp; try rfl
    refine tree_read (some 54) ?v13 rfl rfl (door_put (by decide)) rfl ?y13 ?_
    case y13 => intro w' hS; go_simp; try rfl
    refine tree_turn rfl rfl (fun K hK => ?_)
    unfold Oper.wp execOp
    go_simp
    refine hK _ _ (hb.alloc hb.size _) (fun _ => ?_)
    clear hK K
    refine tree_turn rfl rfl (fun K hK => ?_)
    unfold Oper.wp execOp
    go_simp
    refine hK _ _ ?_ (fun _ => ?_)
    · first | exact hb.alloc hb.size _ | exact (hb.alloc hb.size _).setCell hb.size _ | (refine Below.setCell ?_ hb.size _; refine Below.setCell ?_ hb.size _; refine Below.setCell ?_ hb.size _; refine Below.setCell ?_ hb.size _; refine Below.setCell ?_ hb.size _; exact hb.alloc hb.size _)
    clear hK K
    refine tree_done ⟨w1.heap.size, hb.size, ?_, ?_, ?_, ?_, ?_, ?_, ?_, ?_, by kernel_rfl⟩
    · simp [World.setCell]
    · first | exact hb.alloc hb.size _ | exact (hb.alloc hb.size _).setCell hb.size _
    · go_simp
    · go_simp
    · go_simp
    · go_simp
    · go_simp
    · intro o; go_simp
  · unfold Oper.wp execOp
    go_simp
    refine hK _ _ ((Below.refl _ _).alloc (Nat.le_refl _) _) (fun _ => ?_)
    clear hK K
    refine tree_turn rfl rfl (fun K hK => ?_)
    go_simp
    refine (decode_some g0 g1 hd _).mono ?_
    rintro e w1 ⟨rfl, hb⟩
    have hb' := hb
    obtain ⟨c1, c2⟩ := bcell hb'
    go_simp
    refine hK _ _ ?_ (fun _ => ?_)
    · exact Below.trans ((Below.refl _ _).alloc (Nat.le_refl _) _) (hb.mono (by simp))
    clear hK K
    refine tree_read (some 41) ?v11 rfl rfl (door_put (by decide)) rfl ?y11 ?_
    case y11 => intro w' hS; go_simp; try rfl
    refine tree_read (some 53) ?v12 rfl rfl (door_put (by decide)) rfl ?y12 ?_
    case y12 => intro w' hS; go_simp; try rfl
    refine tree_read (some 54) ?v13 rfl rfl (door_put (by decide)) rfl ?y13 ?_
    case y13 => intro w' hS; go_simp; try rfl
    refine tree_turn rfl rfl (fun K hK => ?_)
    unfold Oper.wp execOp
    go_simp
    have hbX : Below (w.heap.size + 1) ((w.setCell ⟨m, 23, none⟩ (.int .i64 (wrap64 (st + 1)))).alloc (.cells #[.pointer (some ⟨m, 0, none⟩)] 28)).drew.drew w1 := Below.trans (((Below.refl _ _).alloc (Nat.le_refl _) _).mono (by simp)) (hb.mono (by simp))
    have hbY := fun v0 v1 v2 v3 v4 => ((((hbX.setCell (p := ⟨w.heap.size + 1, 0, none⟩) (Nat.le_refl _) v0).setCell (p := ⟨w.heap.size + 1, 1, none⟩) (Nat.le_refl _) v1).setCell (p := ⟨w.heap.size + 1, 2, none⟩) (Nat.le_refl _) v2).setCell (p := ⟨w.heap.size + 1, 3, none⟩) (Nat.le_refl _) v3).setCell (p := ⟨w.heap.size + 1, 4, none⟩) (Nat.le_refl _) v4
    refine hK _ _ ?_ (fun _ => ?_)
    · refine Below.mono (hbY _ _ _ _ _) ?_
      simp
    clear hK K
    refine tree_done ⟨w.heap.size + 1, by simp, ?_, ?_, ?_, ?_, ?_, ?_, ?_, ?_, by kernel_rfl⟩
    · have := hb.size
      simp [World.setCell] at this ⊢
      omega
    · refine Below.mono (hbY _ _ _ _ _) ?_
      simp
    · go_simp
    · go_simp
    · go_simp
    · go_simp
    · go_simp
    · intro o; go_simp
  rintro a' w2 ⟨b, b0, b1, hb, d0, d1, d2, d3, d4, df, rfl⟩
  obtain ⟨c1, c2⟩ := bcell hb
  simp only [List.drop_succ_cons, List.drop_zero]
  go_simp
  go_wp2
  refine region_tail 7 mixed (by kernel_rfl) ?_
  simp only [List.take_succ_cons, List.take_zero, List.drop_succ_cons, List.drop_zero]
  repeat still_step
  refine wpStill_nil ?_
  go_wp2_with (fail)
  go_at_call 51
  refine (hop _ ?_).mono ?_
  · unfold pcW
    exact (below_put (Below.trans (((Below.refl _ _).alloc (by simp [World.setCell]) _).drew.drew) (hb.mono (by simp [World.setCell]))) _ _).drew
  rintro e w3 (⟨rfl, hR⟩ | ⟨rfl, hb3, hR⟩)
  · go_wp2
    refine leaves_cons (f := 48) (args := #[.pointer (some ⟨w.heap.size, 0, none⟩)]) (by simp) (by simp [go_sem]) ?_
    refine (catch_idle ⟨w.heap.size, 0, none⟩ _).mono ?_
    rintro e u' w'' ⟨rfl, rfl, rfl⟩
    simp only [settle, Leaves]
    exact ⟨.bool true, by simp [results, Try.results17, go_sem], rfl, hR⟩
  · dsimp only [faultP]
    go_wp2
    have z0 := hb.size
    simp only [World.size_drew, World.size_alloc, World.size_setCell] at z0
    have z1 : w.heap.size < w2.heap.size := by omega
    have z2 : m < w2.heap.size := by omega
    obtain ⟨k1, k2⟩ := bcell hb3
    refine leaves_cons (f := 48) (args := #[.pointer (some ⟨w.heap.size, 0, none⟩)]) (by simp) (by simp [go_sem]) ?_
    refine (catch_panicking ⟨w.heap.size, 0, none⟩ m 0 y 65 _ [] _ ?_ ?_ ?_ ?_).mono ?_
    · go_simp
    · go_simp
    · go_simp
    · intro o; go_simp
    rintro e u' w'' ⟨rfl, rfl, rfl⟩
    simp only [settle, Leaves]
    exact ⟨.bool true, by simp [results, Try.results17, go_sem], rfl, hR⟩
set_option maxHeartbeats 2000000 in
theorem step_ops (m cb n cc : Nat) (pc st y : Int) (w : World) (hm : m < w.heap.size) (hf : ∀ o, w.frozen? ⟨m, o, none⟩ = false) (h0 : w.cell? ⟨m, 0, none⟩ = some (.slice (some ⟨cb, 0, none⟩) n cc)) (hn : n ≤ 65536) (h18 : w.cell? ⟨m, 18, none⟩ = some (.int .i64 pc)) (h21 : w.cell? ⟨m, 21, none⟩ = some (.int .i64 0)) (h22 : w.cell? ⟨m, 22, none⟩ = some (.int .i64 y)) (h23 : w.cell? ⟨m, 23, none⟩ = some (.int .i64 st)) (hp : decide (pc < 0) = false) (hp' : decide ((n : Int) ≤ pc) = false) (v : Int) (hv : w.cell? ⟨cb, pc.toNat, none⟩ = some (.int .i64 v)) (hcb : cb < w.heap.size) (hcm : ¬ cb = m) (hmc : ¬ m = cb) (q0 : 0 ≤ pc) (q1 : pc < n) (x : I5) (g0 : -9223372036854775808 ≤ v) (g1 : v ≤ 9223372036854775807) (hd : decI v = some x) (R : World → Prop) (ho : (x.o : Int) < 16) (ho' : x.o < 16) (ob oc : Nat) (h24 : w.cell? ⟨m, 24, none⟩ = some (.slice (some ⟨ob, 0, none⟩) 16 oc)) (hob : w.cell? ⟨ob, x.o, none⟩ = some (opV m x.o)) (hobs : ob < w.heap.size) (hom : ¬ ob = m) (hmo : ¬ m = ob) (hop : ∀ X, Below w.heap.size (pcW (w.setCell ⟨m, 23, none⟩ (.int .i64 (wrap64 (st + 1)))) m (pc + 1)) X → Calls Try.prog (32 + x.o) #[.pointer (some ⟨m, 0, none⟩), .agg #[.int .i64 x.o, .int .i64 x.a, .int .i64 x.b, .int .i64 x.c, .int .i64 x.i]] X (fun e w' => (e = .returned (.tuple #[]) ∧ R w') ∨ (e = faultP ∧ Below X.heap.size X w' ∧ R (endsW w' m 5 0)))) :
    Calls Try.prog 17 #[.pointer (some ⟨m, 0, none⟩)] w fun e w' => e = .returned (.bool true) ∧ R w' := by
  have hmf : ∀ (fn : Fn) (first cap : Array Value) (w : World), (Instr.makeFunc fn first cap).run Try.prog w = .ok (.func fn first cap) w := fun _ _ _ _ => rfl
  go_enter_defers Try.func17, Try.ntmps17
  go_wp2
  refine region_still mixed (by kernel_rfl) ?_
  refine Stills.out ?_
  iterate 17 (refine Stills.take (by kernel_rfl) (fun K hK => ?_); go_simp; refine hK _ ?_; clear hK K)
  refine Stills.nil ?_
  go_wp2
  refine region_tree2 (fun W w' => Below W.heap.size W w') (.read 0 (.read 1 (.read 2 (.read 3 (.read 4 (.read 5 (.read 6 (.read 7 (.read 8 (.read 9 (.fork 10 (.read 11 (.read 12 (.read 13 (.turn 14 (.turn 15 .done))))) 14 (.turn 10 (.read 11 (.read 12 (.read 13 (.turn 15 .done)))))))))))))))) 16
    (fun a W a' w' => ∃ b, W.heap.size ≤ b ∧ b < w'.heap.size ∧ Below W.heap.size W w' ∧ w'.cell? ⟨b, 0, none⟩ = some (.int .i64 x.o) ∧ w'.cell? ⟨b, 1, none⟩ = some (.int .i64 x.a) ∧ w'.cell? ⟨b, 2, none⟩ = some (.int .i64 x.b) ∧ w'.cell? ⟨b, 3, none⟩ = some (.int .i64 x.c) ∧ w'.cell? ⟨b, 4, none⟩ = some (.int .i64 x.i) ∧ (∀ o, w'.frozen? ⟨b, o, none⟩ = false) ∧
      a' = ((((((((((((((a.put (some 42) (.pointer (some ⟨m, 0, none⟩))).put (some 43) (.pointer (some ⟨m, 0, none⟩))).put (some 44) (.pointer (some ⟨m, 0, none⟩))).put (some 45) (.slice (some ⟨cb, 0, none⟩) n cc)).put (some 46) (.pointer (some ⟨m, 0, none⟩))).put (some 47) (.pointer (some ⟨m, 0, none⟩))).put (some 48) (.pointer (some ⟨m, 18, none⟩))).put (some 49) (.int .i64 pc)).put (some 50) (.pointer (some ⟨cb, pc.toNat, none⟩))).put (some 51) (.int .i64 v)).put (some 52) (.tuple #[.agg #[.int .i64 x.o, .int .i64 x.a, .int .i64 x.b, .int .i64 x.c, .int .i64 x.i], .int .i64 0])).put (some 41) (.tuple #[.agg #[.int .i64 x.o, .int .i64 x.a, .int .i64 x.b, .int .i64 x.c, .int .i64 x.i], .int .i64 0])).put (some 53) (.agg #[.int .i64 x.o, .int .i64 x.a, .int .i64 x.b, .int .i64 x.c, .int .i64 x.i])).put (some 54) (.int .i64 0)).put (some 3) (.pointer (some ⟨b, 0, none⟩))) mixed (by kernel_rfl) (Below.refl _ _) ?_ ?_
  refine tree_read (some 42) ?v0 rfl rfl (door_put (by decide)) rfl ?y0 ?_
  case y0 => intro w' hS; obtain ⟨c1, c2⟩ := bcell hS; go_simp; rfl
  refine tree_read (some 43) ?v1 rfl rfl (door_put (by decide)) rfl ?y1 ?_
  case y1 => intro w' hS; obtain ⟨c1, c2⟩ := bcell hS; go_simp; rfl
  refine tree_read (some 44) ?v2 rfl rfl (door_put (by decide)) rfl ?y2 ?_
  case y2 => intro w' hS; obtain ⟨c1, c2⟩ := bcell hS; go_simp; rfl
  refine tree_read (some 45) ?v3 rfl rfl (door_put (by decide)) rfl ?y3 ?_
  case y3 => intro w' hS; obtain ⟨c1, c2⟩ := bcell hS; go_simp; rfl
  refine tree_read (some 46) ?v4 rfl rfl (door_put (by decide)) rfl ?y4 ?_
  case y4 => intro w' hS; obtain ⟨c1, c2⟩ := bcell hS; go_simp; rfl
  refine tree_read (some 47) ?v5 rfl rfl (door_put (by decide)) rfl ?y5 ?_
  case y5 => intro w' hS; obtain ⟨c1, c2⟩ := bcell hS; go_simp; rfl
  refine tree_read (some 48) ?v6 rfl rfl (door_put (by decide)) rfl ?y6 ?_
  case y6 => intro w' hS; obtain ⟨c1, c2⟩ := bcell hS; go_simp; rfl
  refine tree_read (some 49) ?v7 rfl rfl (door_put (by decide)) rfl ?y7 ?_
  case y7 => intro w' hS; obtain ⟨c1, c2⟩ := bcell hS; go_simp; rfl
  refine tree_read (some 50) ?v8 rfl rfl (door_put (by decide)) rfl ?y8 ?_
  case y8 => intro w' hS; obtain ⟨c1, c2⟩ := bcell hS; go_simp; rfl
  refine tree_read (some 51) ?v9 rfl rfl (door_put (by decide)) rfl ?y9 ?_
  case y9 => intro w' hS; obtain ⟨c1, c2⟩ := bcell hS; go_simp; rfl
  refine tree_fork rfl rfl rfl rfl (fun K hK => ?_) (fun K hK => ?_)
  · go_simp
    refine (decode_some g0 g1 hd _).mono ?_
    rintro e w1 ⟨rfl, hb⟩
    go_simp
    refine hK _ _ hb (fun _ => ?_)
    clear hK K
    refine tree_read (some 41) ?v11 rfl rfl (door_put (by decide)) rfl ?y11 ?_
    case y11 => intro w' hS; go_simp; try rfl
    refine tree_read (some 53) ?v12 rfl rfl (door_put (by decide)) rfl ?y12 ?_
    case y12 => intro w' hS; go_simp; try rfl
    refine tree_read (some 54) ?v13 rfl rfl (door_put (by decide)) rfl ?y13 ?_
    case y13 => intro w' hS; go_simp; try rfl
    refine tree_turn rfl rfl (fun K hK => ?_)
    unfold Oper.wp execOp
    go_simp
    refine hK _ _ (hb.alloc hb.size _) (fun _ => ?_)
    clear hK K
    refine tree_turn rfl rfl (fun K hK => ?_)
    unfold Oper.wp execOp
    go_simp
    refine hK _ _ ?_ (fun _ => ?_)
    · first | exact hb.alloc hb.size _ | exact (hb.alloc hb.size _).setCell hb.size _ | (refine Below.setCell ?_ hb.size _; refine Below.setCell ?_ hb.size _; refine Below.setCell ?_ hb.size _; refine Below.setCell ?_ hb.size _; refine Below.setCell ?_ hb.size _; exact hb.alloc hb.size _)
    clear hK K
    refine tree_done ⟨w1.heap.size, hb.size, ?_, ?_, ?_, ?_, ?_, ?_, ?_, ?_, by kernel_rfl⟩
    · simp [World.setCell]
    · first | exact hb.alloc hb.size _ | exact (hb.alloc hb.size _).setCell hb.size _
    · go_simp
    · go_simp
    · go_simp
    · go_simp
    · go_simp
    · intro o; go_simp
  · unfold Oper.wp execOp
    go_simp
    refine hK _ _ ((Below.refl _ _).alloc (Nat.le_refl _) _) (fun _ => ?_)
    clear hK K
    refine tree_turn rfl rfl (fun K hK => ?_)
    go_simp
    refine (decode_some g0 g1 hd _).mono ?_
    rintro e w1 ⟨rfl, hb⟩
    have hb' := hb
    obtain ⟨c1, c2⟩ := bcell hb'
    go_simp
    refine hK _ _ ?_ (fun _ => ?_)
    · exact Below.trans ((Below.refl _ _).alloc (Nat.le_refl _) _) (hb.mono (by simp))
    clear hK K
    refine tree_read (some 41) ?v11 rfl rfl (door_put (by decide)) rfl ?y11 ?_
    case y11 => intro w' hS; go_simp; try rfl
    refine tree_read (some 53) ?v12 rfl rfl (door_put (by decide)) rfl ?y12 ?_
    case y12 => intro w' hS; go_simp; try rfl
    refine tree_read (some 54) ?v13 rfl rfl (door_put (by decide)) rfl ?y13 ?_
    case y13 => intro w' hS; go_simp; try rfl
    refine tree_turn rfl rfl (fun K hK => ?_)
    unfold Oper.wp execOp
    go_simp
    have hbX : Below (w.heap.size + 1) ((w.setCell ⟨m, 23, none⟩ (.int .i64 (wrap64 (st + 1)))).alloc (.cells #[.pointer (some ⟨m, 0, none⟩)] 28)).drew.drew w1 := Below.trans (((Below.refl _ _).alloc (Nat.le_refl _) _).mono (by simp)) (hb.mono (by simp))
    have hbY := fun v0 v1 v2 v3 v4 => ((((hbX.setCell (p := ⟨w.heap.size + 1, 0, none⟩) (Nat.le_refl _) v0).setCell (p := ⟨w.heap.size + 1, 1, none⟩) (Nat.le_refl _) v1).setCell (p := ⟨w.heap.size + 1, 2, none⟩) (Nat.le_refl _) v2).setCell (p := ⟨w.heap.size + 1, 3, none⟩) (Nat.le_refl _) v3).setCell (p := ⟨w.heap.size + 1, 4, none⟩) (Nat.le_refl _) v4
    refine hK _ _ ?_ (fun _ => ?_)
    · refine Below.mono (hbY _ _ _ _ _) ?_
      simp
    clear hK K
    refine tree_done ⟨w.heap.size + 1, by simp, ?_, ?_, ?_, ?_, ?_, ?_, ?_, ?_, by kernel_rfl⟩
    · have := hb.size
      simp [World.setCell] at this ⊢
      omega
    · refine Below.mono (hbY _ _ _ _ _) ?_
      simp
    · go_simp
    · go_simp
    · go_simp
    · go_simp
    · go_simp
    · intro o; go_simp
  rintro a' w2 ⟨b, b0, b1, hb, d0, d1, d2, d3, d4, df, rfl⟩
  obtain ⟨c1, c2⟩ := bcell hb
  simp only [List.drop_succ_cons, List.drop_zero]
  go_simp
  go_wp2
  refine region_tail 7 mixed (by kernel_rfl) ?_
  simp only [List.take_succ_cons, List.take_zero, List.drop_succ_cons, List.drop_zero]
  repeat still_step
  refine wpStill_nil ?_
  unfold opV at hob
  go_wp2
  refine region_tail 9 mixed (by kernel_rfl) ?_
  simp only [List.take_succ_cons, List.take_zero, List.drop_succ_cons, List.drop_zero]
  repeat still_step
  refine wpStill_nil ?_
  have hcf := callFunc_op x.o ho'
  go_wp2_with (fail)
  refine (hop _ ?_).mono ?_
  · unfold pcW
    exact (below_put (Below.trans (((Below.refl _ _).alloc (by simp [World.setCell]) _).drew.drew) (hb.mono (by simp [World.setCell]))) _ _).drew.drew
  rintro e w3 (⟨rfl, hR⟩ | ⟨rfl, hb3, hR⟩)
  · go_wp2
    refine leaves_cons (f := 48) (args := #[.pointer (some ⟨w.heap.size, 0, none⟩)]) (by simp) (by simp [go_sem]) ?_
    refine (catch_idle ⟨w.heap.size, 0, none⟩ _).mono ?_
    rintro e u' w'' ⟨rfl, rfl, rfl⟩
    simp only [settle, Leaves]
    exact ⟨.bool true, by simp [results, Try.results17, go_sem], rfl, hR⟩
  · dsimp only [faultP]
    go_wp2
    have z0 := hb.size
    simp only [World.size_drew, World.size_alloc, World.size_setCell] at z0
    have z1 : w.heap.size < w2.heap.size := by omega
    have z2 : m < w2.heap.size := by omega
    obtain ⟨k1, k2⟩ := bcell hb3
    refine leaves_cons (f := 48) (args := #[.pointer (some ⟨w.heap.size, 0, none⟩)]) (by simp) (by simp [go_sem]) ?_
    refine (catch_panicking ⟨w.heap.size, 0, none⟩ m 0 y 65 _ [] _ ?_ ?_ ?_ ?_).mono ?_
    · go_simp
    · go_simp
    · go_simp
    · intro o; go_simp
    rintro e u' w'' ⟨rfl, rfl, rfl⟩
    simp only [settle, Leaves]
    exact ⟨.bool true, by simp [results, Try.results17, go_sem], rfl, hR⟩
end Go.Proofs.Ytbchiolgbhckhaa.Mach
end

section
/- One step of a machine that lies in memory, told by the plain state. -/
set_option linter.unusedVariables false
set_option linter.unusedSimpArgs false
namespace Go.Proofs.Ytbchiolgbhckhaa.Mach
open Go.RowKit Go.Proofs.YtbchiolgbhckhaaW.PrintWords Go.Proofs.YtbchiolgbhckhaaW.PrintMore Go.Proofs.Ytbchiolgbhckhaa.PMachRuns

theorem decI_ok {v : Int} {x : I5} (h : decI v = some x) : x.a < 16 ∧ x.b < 16 ∧ x.c < 16 ∧ x.o ≤ 43 ∧ ¬ (33 ≤ x.o ∧ x.o ≤ 40) ∧ -2147483648 ≤ x.i ∧ x.i ≤ 2147483647 := by
  unfold decI at h
  split at h
  · cases h
  rcases uses_cases (wOp v) with ⟨r, m, e, hk, _⟩ | ⟨e, _⟩
  · rw [e] at h
    dsimp only at h
    split at h
    · cases h
      have hw : -2147483648 ≤ wrap32 v ∧ wrap32 v ≤ 2147483647 := by unfold wrap32; omega
      refine ⟨show wA v < 16 by unfold wA; omega, show wB v < 16 by unfold wB; omega, show wC v < 16 by unfold wC; omega, hk, ?_, hw.1, hw.2⟩
      dsimp only
      rintro ⟨k1, k2⟩
      have hc : wOp v = 33 ∨ wOp v = 34 ∨ wOp v = 35 ∨ wOp v = 36 ∨ wOp v = 37 ∨ wOp v = 38 ∨ wOp v = 39 ∨ wOp v = 40 := by omega
      have hn : usesOf (wOp v) = none := by rcases hc with h | h | h | h | h | h | h | h <;> rw [h] <;> rfl
      rw [hn] at e
      cases e
    · cases h
  · rw [e] at h; cases h
theorem op_any {w : World} {L : Lay} {s : MS} (x : I5) (h : Holds w L s) (ho : x.o < 16) (ha : x.a < 16) (hb : x.b < 16) : Calls Try.prog (32 + x.o) (opArgs L x) w (OpEnd w L s (exec x s)) := by
  have hc : x.o = 0 ∨ x.o = 1 ∨ x.o = 2 ∨ x.o = 3 ∨ x.o = 4 ∨ x.o = 5 ∨ x.o = 6 ∨ x.o = 7 ∨ x.o = 8 ∨ x.o = 9 ∨ x.o = 10 ∨ x.o = 11 ∨ x.o = 12 ∨ x.o = 13 ∨ x.o = 14 ∨ x.o = 15 := by omega
  unfold exec
  rcases hc with e | e | e | e | e | e | e | e | e | e | e | e | e | e | e | e
  · rw [if_pos e]
    rw [e]
    exact op_halt x h
  · rw [if_neg (by omega), if_pos e]
    rw [e]
    exact op_trap x h
  · rw [if_neg (by omega), if_neg (by omega), if_pos e]
    rw [e]
    exact op_move x h ha hb
  · rw [if_neg (by omega), if_neg (by omega), if_neg (by omega), if_pos e]
    rw [e]
    exact op_konst x h ha
  · rw [if_neg (by omega), if_neg (by omega), if_neg (by omega), if_neg (by omega), if_pos e]
    rw [e]
    exact op_high x h ha
  · rw [if_neg (by omega), if_neg (by omega), if_neg (by omega), if_neg (by omega), if_neg (by omega), if_pos e]
    rw [e]
    exact op_load x h ha hb
  · rw [if_neg (by omega), if_neg (by omega), if_neg (by omega), if_neg (by omega), if_neg (by omega), if_neg (by omega), if_pos e]
    rw [e]
    exact op_store x h ha hb
  · rw [if_neg (by omega), if_neg (by omega), if_neg (by omega), if_neg (by omega), if_neg (by omega), if_neg (by omega), if_neg (by omega), if_pos e]
    rw [e]
    exact op_jump x h
  · rw [if_neg (by omega), if_neg (by omega), if_neg (by omega), if_neg (by omega), if_neg (by omega), if_neg (by omega), if_neg (by omega), if_neg (by omega), if_pos e]
    rw [e]
    exact op_zero x h ha
  · rw [if_neg (by omega), if_neg (by omega), if_neg (by omega), if_neg (by omega), if_neg (by omega), if_neg (by omega), if_neg (by omega), if_neg (by omega), if_neg (by omega), if_pos e]
    rw [e]
    exact op_some x h ha
  · rw [if_neg (by omega), if_neg (by omega), if_neg (by omega), if_neg (by omega), if_neg (by omega), if_neg (by omega), if_neg (by omega), if_neg (by omega), if_neg (by omega), if_neg (by omega), if_pos e]
    rw [e]
    exact op_call x h
  · rw [if_neg (by omega), if_neg (by omega), if_neg (by omega), if_neg (by omega), if_neg (by omega), if_neg (by omega), if_neg (by omega), if_neg (by omega), if_neg (by omega), if_neg (by omega), if_neg (by omega), if_pos e]
    rw [e]
    exact op_at x h ha
  · rw [if_neg (by omega), if_neg (by omega), if_neg (by omega), if_neg (by omega), if_neg (by omega), if_neg (by omega), if_neg (by omega), if_neg (by omega), if_neg (by omega), if_neg (by omega), if_neg (by omega), if_neg (by omega), if_pos e]
    rw [e]
    exact op_ret x h
  · rw [if_neg (by omega), if_neg (by omega), if_neg (by omega), if_neg (by omega), if_neg (by omega), if_neg (by omega), if_neg (by omega), if_neg (by omega), if_neg (by omega), if_neg (by omega), if_neg (by omega), if_neg (by omega), if_neg (by omega), if_pos e]
    rw [e]
    exact op_read x h ha
  · rw [if_neg (by omega), if_neg (by omega), if_neg (by omega), if_neg (by omega), if_neg (by omega), if_neg (by omega), if_neg (by omega), if_neg (by omega), if_neg (by omega), if_neg (by omega), if_neg (by omega), if_neg (by omega), if_neg (by omega), if_neg (by omega), if_pos e]
    rw [e]
    exact op_write x h ha
  · rw [if_neg (by omega), if_neg (by omega), if_neg (by omega), if_neg (by omega), if_neg (by omega), if_neg (by omega), if_neg (by omega), if_neg (by omega), if_neg (by omega), if_neg (by omega), if_neg (by omega), if_neg (by omega), if_neg (by omega), if_neg (by omega), if_neg (by omega), if_pos e]
    rw [e]
    exact op_room x h ha
theorem words_any {w : World} {L : Lay} {s : MS} (x : I5) (h : Holds w L s) (ho : 16 ≤ x.o) (ho' : x.o ≤ 43) (hn : ¬ (33 ≤ x.o ∧ x.o ≤ 40)) (ha : x.a < 16) (hb : x.b < 16) (hc : x.c < 16) :
    Calls Try.prog 51 (opArgs L x) w (OpEnd w L s (exec x s)) := by
  unfold exec
  repeat rw [if_neg (by omega)]
  exact op_words x h ha hb hc ⟨ho, by omega⟩ fun h40 => un2_ok _ (by omega)
theorem step_any {w : World} {L : Lay} {s : MS} (h : Holds w L s) (h0 : s.kind = 0) :
    Calls Try.prog 17 #[.pointer (some ⟨L.m, 0, none⟩)] w fun e w' => e = .returned (.bool true) ∧ ∃ L', Next w L s w' L' (step1 s) := by
  have hr := h.rows
  have c0 : w.cell? ⟨L.m, 0, none⟩ = some (.slice (some ⟨L.cb, 0, none⟩) s.code.length L.cc) := h.cells 0 (by omega)
  have c23 : w.cell? ⟨L.m, 23, none⟩ = some (.int .i64 s.steps) := h.cells 23 (by omega)
  have c24 : w.cell? ⟨L.m, 24, none⟩ = some (.slice (some ⟨L.ob, 0, none⟩) 16 L.oc) := h.cells 24 (by omega)
  have c21 := h.kind_cell
  rw [h0] at c21
  have n1 := Next.stepd h (wrap64 (s.steps + 1))
  have nf := n1.trans (Next.ends n1.holds 5 0)
  have zf : (endsW (w.setCell ⟨L.m, 23, none⟩ (.int .i64 (wrap64 (s.steps + 1)))) L.m 5 0).heap.size = w.heap.size := by simp [endsW, World.setCell]
  have l1 := hr.lim.1
  by_cases p0 : s.pc < 0
  · refine (step_low L.m L.cb _ _ s.pc s.steps s.panics w h.hm h.free c0 l1 h.pc_cell c21 h.panics_cell c23 p0).mono ?_
    rintro e w' ⟨rfl, hb⟩
    refine ⟨rfl, L, ?_⟩
    unfold step1
    rw [if_neg (by omega)]
    exact nf.below (by rw [zf]; exact hb)
  by_cases p1 : (s.code.length : Int) ≤ s.pc
  · refine (step_high L.m L.cb _ _ s.pc s.steps s.panics w h.hm h.free c0 l1 h.pc_cell c21 h.panics_cell c23 (decide_eq_false p0) p1).mono ?_
    rintro e w' ⟨rfl, hb⟩
    refine ⟨rfl, L, ?_⟩
    unfold step1
    rw [if_neg (by omega)]
    exact nf.below (by rw [zf]; exact hb)
  have hv : w.cell? ⟨L.cb, s.pc.toNat, none⟩ = some (.int .i64 (rd s.code s.pc)) := hr.code_at s.pc.toNat (by omega)
  obtain ⟨g0, g1⟩ : -9223372036854775808 ≤ rd s.code s.pc ∧ rd s.code s.pc ≤ 9223372036854775807 := hr.code_in s.pc.toNat
  obtain ⟨a1, a2, a3, a4, a5⟩ := hr.apart
  have s1 : ∀ x, decI (rd s.code s.pc) = x → step1 s = (match x with | none => { s with steps := wrap64 (s.steps + 1) }.fault | some x => exec x { s with steps := wrap64 (s.steps + 1), pc := s.pc + 1 }) := by
    intro x hx
    unfold step1
    rw [if_pos (by omega), hx, in64 (n := s.pc + 1) (by omega) (by omega)]
    cases x <;> rfl
  cases hd : decI (rd s.code s.pc) with
  | none =>
    rw [s1 _ hd]
    refine (step_bad L.m L.cb _ _ s.pc s.steps s.panics w h.hm h.free c0 l1 h.pc_cell c21 h.panics_cell c23 (decide_eq_false p0) (decide_eq_false p1) _ hv hr.blocks.2.2.1 (Ne.symm a2) a2 (by omega) (by omega) g0 g1 hd).mono ?_
    rintro e w' ⟨rfl, hb⟩
    exact ⟨rfl, L, nf.below (by rw [zf]; exact hb)⟩
  | some x =>
    rw [s1 _ hd]
    dsimp only
    obtain ⟨ha, hb, hc, ho, hn, _⟩ := decI_ok hd
    have n2 := n1.trans (Next.pc n1.holds (s.pc + 1))
    have zp : (pcW (w.setCell ⟨L.m, 23, none⟩ (.int .i64 (wrap64 (s.steps + 1)))) L.m (s.pc + 1)).heap.size = w.heap.size := by simp [pcW, World.setCell]
    have fin : ∀ X, Below w.heap.size (pcW (w.setCell ⟨L.m, 23, none⟩ (.int .i64 (wrap64 (s.steps + 1)))) L.m (s.pc + 1)) X → ∀ e w', OpEnd X L { s with steps := wrap64 (s.steps + 1), pc := s.pc + 1 } (exec x { s with steps := wrap64 (s.steps + 1), pc := s.pc + 1 }) e w' →
        (e = .returned (.tuple #[]) ∧ ∃ L', Next w L s w' L' (exec x { s with steps := wrap64 (s.steps + 1), pc := s.pc + 1 })) ∨ (e = faultP ∧ Below X.heap.size X w' ∧ ∃ L', Next w L s (endsW w' L.m 5 0) L' (exec x { s with steps := wrap64 (s.steps + 1), pc := s.pc + 1 })) := by
      intro X hX e w' hE
      have nX := n2.below (by rw [zp]; exact hX)
      rcases hE with ⟨he, L', hN⟩ | ⟨he, hf, hB⟩
      · exact .inl ⟨he, L', nX.trans hN⟩
      · have nW := nX.below hB
        rw [hf]
        exact .inr ⟨he, hB, L, nW.trans (Next.ends nW.holds 5 0)⟩
    have hX : ∀ X, Below w.heap.size (pcW (w.setCell ⟨L.m, 23, none⟩ (.int .i64 (wrap64 (s.steps + 1)))) L.m (s.pc + 1)) X → Holds X L { s with steps := wrap64 (s.steps + 1), pc := s.pc + 1 } := fun X hX => (n2.below (by rw [zp]; exact hX)).holds
    by_cases h16 : x.o < 16
    · exact step_ops L.m L.cb _ _ s.pc s.steps s.panics w h.hm h.free c0 l1 h.pc_cell c21 h.panics_cell c23 (decide_eq_false p0) (decide_eq_false p1) _ hv hr.blocks.2.2.1 (Ne.symm a2) a2 (by omega) (by omega) x g0 g1 hd
        (fun w' => ∃ L', Next w L s w' L' (exec x { s with steps := wrap64 (s.steps + 1), pc := s.pc + 1 })) (by omega) h16 L.ob L.oc c24 (hr.ops_at x.o h16) hr.blocks.2.2.2 (Ne.symm a3) a3
        (fun X hB => (op_any x (hX X hB) h16 ha hb).mono (fin X hB))
    · exact step_words L.m L.cb _ _ s.pc s.steps s.panics w h.hm h.free c0 l1 h.pc_cell c21 h.panics_cell c23 (decide_eq_false p0) (decide_eq_false p1) _ hv hr.blocks.2.2.1 (Ne.symm a2) a2 (by omega) (by omega) x g0 g1 hd
        (fun w' => ∃ L', Next w L s w' L' (exec x { s with steps := wrap64 (s.steps + 1), pc := s.pc + 1 })) (by omega) L.ob L.oc c24
        (fun X hB => (words_any x (hX X hB) (by omega) ho hn ha hb hc).mono (fin X hB))
/-- A run that is over makes no step. -/
theorem step_stop {w : World} {L : Lay} {s : MS} (h : Holds w L s) (h0 : ¬ s.kind = 0) :
    Calls Try.prog 17 #[.pointer (some ⟨L.m, 0, none⟩)] w fun e w' => e = .returned (.bool false) ∧ Next w L s w' L s := by
  refine (step_over L.m s.kind w h.kind_cell h0 h.hm).mono ?_
  rintro e w' ⟨rfl, hb⟩
  exact ⟨rfl, (Next.refl h).below hb⟩
end Go.Proofs.Ytbchiolgbhckhaa.Mach
end

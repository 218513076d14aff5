/- The bytes of an object: the statement's walk. -/
import Derived.Test.YtnbgbmddkbneeaaB19
import Derived.Test.YtnbgbmddkbneeaaB20
set_option linter.unusedVariables false
set_option linter.unusedSimpArgs false
namespace Go.Proofs.Ytnbgbmddkbneeaa.Obj
open Go.RowKit Go.Proofs.YtnbgbmddkbneeaaW.PrintWords Go.Proofs.YtnbgbmddkbneeaaW.PrintMore Go.Proofs.Ytnbgbmddkbneeaa.PLinkWeak
theorem nums_get {kd : IntKind} {xs : List Int} {k : Nat} (hk : k < xs.length) : (nums kd xs)[k]? = some (.int kd (xs.getD k 0)) := by
  simp [nums, hk]
theorem add_at (b k : Nat) : (⟨b, 0, none⟩ : Addr).add k = ⟨b, k, none⟩ := by
  by_cases h : k = 0 <;> simp [Addr.add, h]
set_option maxRecDepth 100000 in
theorem conv_own {w : World} {B : Nat} {A : Option Addr} {n c : Nat} {xs : List Int} (h : w.ownsRow B 5 1 (.slice A n c) n (nums .u8 xs)) (k c' : Nat) (hk : k ≤ n) :
    (convert 34 9 (.slice A k c')).run Try.prog w = .ok (.string (strOfNums (xs.take k))) w := by
  have hl : xs.length = n := by simpa [nums] using h.1
  rcases h.2 with ⟨e1, e2⟩ | ⟨g, cap, cur, e1, _⟩
  · cases e1
    obtain rfl : k = 0 := by omega
    rw [List.take_zero]
    exact run_convert_bytes_nil w 34 5 rfl rfl 0 c' 9 rfl
  · cases e1
    refine run_convert_bytes_arg w 34 5 rfl rfl g 0 k c' (xs.take k) (by simp; omega) (fun i hi => ?_) 9 rfl
    have hc := h.cells (g := g) rfl i _ (nums_get (show i < xs.length by omega))
    rw [add_at] at hc
    rw [Nat.zero_add, hc]
    simp [List.getD_eq_getElem?_getD, List.getElem?_take, hi]
theorem conv_all {w X : World} {B : Nat} {A : Option Addr} {c : Nat} {xs : List Int} (h : w.ownsRow B 5 1 (.slice A xs.length c) xs.length (nums .u8 xs)) (hb : Below w.heap.size w X) :
    (convert 34 9 (.slice A xs.length c)).run Try.prog X = .ok (.string (strOfNums xs)) X := by
  have := conv_own (own_move h fun k hk => hb.block k (h.lt k hk).2) xs.length c (Nat.le_refl _)
  rwa [List.take_length] at this
set_option maxRecDepth 100000 in
set_option maxHeartbeats 2000000 in
theorem objectEncodes_walk (o : S27) (hW : Wf o) {cs : List Value} {w : World} (hK : k27.K w o cs) :
    Calls Try.prog 4 #[.agg cs.toArray] w fun e w' => e = .returned (.bool true) ∧ Below w.heap.size w w' := by
  obtain ⟨b, hb, hG⟩ := great_at o hK
  have haw := Lib.hid (fun X : World => awake_any X)
  cases b
  · obtain ⟨s2, s3, s4, s5, s6⟩ := small_of hb
    have hF := hW.fine (by omega)
    have hen := Lib.hid (fun (X : World) (hX : Below w.heap.size w X) => encode_any' o hF (by omega) (by omega) (by omega) (k27.K_below hX hK))
    have hre := Lib.hid (fun (X : World) (hX : Below w.heap.size w X) => rencode_any o hF (by omega) (by omega) (by omega) (k27.K_below hX hK))
    unfold EncPost at hen hre
    clear s2 s3 s4 s5 s6 hF hW hb
    obtain ⟨A2, c2, A3, c3, A4, c4, A5, c5, A6, c6, rfl, _⟩ := k27_open hK
    clear hK
    have hb0 : Below w.heap.size w (w.alloc (.cells #[.string o.f0, .int .i64 o.f1, .slice A2 o.f2.length c2, .slice A3 o.f3.length c3, .slice A4 o.f4.length c4, .slice A5 o.f5.length c5, .slice A6 o.f6.length c6] 27)) := alloc_below _ _
    generalize (encP o).1 = F at *
    generalize (encP o).2 = E at *
    go_enter Try.func4, Try.ntmps4
    go_wp2_with (first | (go_at_call 11; refine (hG.out _ hb0).mono ?_; rintro e w1 ⟨rfl, hb1⟩; obtain ⟨e0, e1, e2, e3, e4, e5, e6, ez⟩ := box27_kept hb1) | (go_at_call 16; refine (hen.out _ (bnext hb0 hb1)).mono ?_; rintro e w2 ⟨A7, c7, rfl, ho7, hb2⟩; have HO7 := Lib.hid ho7; clear ho7; obtain ⟨e0, e1, e2, e3, e4, e5, e6, ez⟩ := box27_kept (bnext hb1 hb2)) | (go_at_call 17; refine (hre.out _ (bnext hb0 (bnext hb1 hb2))).mono ?_; rintro e w3 ⟨A8, c8, rfl, ho8, hb3⟩; have cv7 := conv_all HO7.out hb3; have cv8 := conv_all ho8 (Below.refl _ _); clear ho8) | (go_at_call 13; refine (errno_any _ _).mono ?_; rintro e w4 ⟨rfl, rfl⟩) | (go_at_call 12; refine (haw.out _).mono ?_; rintro e w5 ⟨rfl, hb5⟩))
    go_ret
    exact ⟨rfl, bnext hb0 (bnext hb1 (bnext hb2 (bnext hb3 hb5)))⟩
  · clear hW hb
    obtain ⟨A2, c2, A3, c3, A4, c4, A5, c5, A6, c6, rfl, _⟩ := k27_open hK
    clear hK
    have hb0 : Below w.heap.size w (w.alloc (.cells #[.string o.f0, .int .i64 o.f1, .slice A2 o.f2.length c2, .slice A3 o.f3.length c3, .slice A4 o.f4.length c4, .slice A5 o.f5.length c5, .slice A6 o.f6.length c6] 27)) := alloc_below _ _
    go_enter Try.func4, Try.ntmps4
    go_wp2_with (first | (go_at_call 11; refine (hG.out _ hb0).mono ?_; rintro e w1 ⟨rfl, hb1⟩; obtain ⟨e0, e1, e2, e3, e4, e5, e6, ez⟩ := box27_kept hb1) | (go_at_call 12; refine (haw.out _).mono ?_; rintro e w2 ⟨rfl, hb2⟩))
    go_ret
    exact ⟨rfl, bnext hb0 (bnext hb1 hb2)⟩
end Go.Proofs.Ytnbgbmddkbneeaa.Obj

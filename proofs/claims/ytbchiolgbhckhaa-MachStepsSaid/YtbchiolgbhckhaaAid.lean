/- Small laws of the statements' walks: boxes that are kept, an output's beginning, a whole run told in parts. -/
import Derived.Test.YtbchiolgbhckhaaA7
set_option linter.unusedVariables false
set_option linter.unusedSimpArgs false
namespace Go.Proofs.Ytbchiolgbhckhaa.Mach
open Go.RowKit Go.Proofs.YtbchiolgbhckhaaW.PrintWords Go.Proofs.YtbchiolgbhckhaaW.PrintMore Go.Proofs.Ytbchiolgbhckhaa.PMachRuns
theorem conv_own {w : World} {B : Nat} {A : Option Addr} {n c : Nat} {xs : List Int} (h : w.ownsRow B 5 1 (.slice A n c) n (nums .u8 xs)) (k c' : Nat) (hk : k ≤ n) :
    (convert 25 9 (.slice A k c')).run Try.prog w = .ok (.string (strOfNums (xs.take k))) w := by
  have hl : xs.length = n := by simpa [nums] using h.1
  rcases h.2 with ⟨e1, e2⟩ | ⟨g, cap, cur, e1, _⟩
  · cases e1
    obtain rfl : k = 0 := by omega
    rw [List.take_zero]
    exact run_convert_bytes_nil w 25 5 rfl rfl 0 c' 9 rfl
  · cases e1
    refine run_convert_bytes_arg w 25 5 rfl rfl g 0 k c' (xs.take k) (by simp; omega) (fun i hi => ?_) 9 rfl
    have hc := h.cells (g := g) rfl i _ (nums_get (show i < xs.length by omega))
    rw [add_at] at hc
    rw [Nat.zero_add, hc]
    simp [List.getD_eq_getElem?_getD, List.getElem?_take, hi]
set_option maxHeartbeats 2000000 in
theorem begins_any {w : World} {B1 B2 : Nat} {k1 p1 s1 k2 p2 s2 : Int} {A1 A2 : Option Addr} {n1 c1 n2 c2 : Nat} {o1 o2 : List Int} (r1 : w.ownsRow B1 5 1 (.slice A1 n1 c1) n1 (nums .u8 o1)) (r2 : w.ownsRow B2 5 1 (.slice A2 n2 c2) n2 (nums .u8 o2)) (l2 : n2 ≤ c2) (m2 : c2 ≤ maxLen)
    (h : o1 <+: o2) :
    Calls Try.prog 29 #[.agg #[.int .i64 k1, .int .i64 p1, .slice A1 n1 c1, .int .i64 s1], .agg #[.int .i64 k2, .int .i64 p2, .slice A2 n2 c2, .int .i64 s2]] w fun e w' => e = .returned (.bool true) ∧ Below w.heap.size w w' := by
  unfold maxLen at m2
  have hb : Below w.heap.size w (((w.alloc (.cells #[.int .i64 k1, .int .i64 p1, .slice A1 n1 c1, .int .i64 s1] 34)).alloc (.cells #[.int .i64 k2, .int .i64 p2, .slice A2 n2 c2, .int .i64 s2] 34)).drew) := (((Below.refl _ _).alloc (Nat.le_refl _) _).alloc (by simp) _).drew
  have e1 : o1.length = n1 := by have := r1.1; simpa [nums] using this
  have e2 : o2.length = n2 := by have := r2.1; simpa [nums] using this
  have hle : n1 ≤ n2 := by have := h.length_le; omega
  have cv1 := conv_own (own_below r1 hb) n1 c1 (Nat.le_refl _)
  have cv2 := conv_own (own_below r2 hb) n1 c2 hle
  rw [← e1, List.take_length, e1] at cv1
  rw [← e1, ← List.prefix_iff_eq_take.1 h, e1] at cv2
  have d1 : decide ((n1 : Int) ≤ n2) = true := decide_eq_true (by omega)
  have d2 : decide (n1 ≤ n2) = true := decide_eq_true hle
  have d3 : n1 ≤ c2 := by omega
  clear e1 e2 r1 r2 h
  go_enter Try.func29, Try.ntmps29
  go_wp2
  refine region_still mixed (by kernel_rfl) ?_
  repeat still_step
  refine wpStill_nil ?_
  go_wp2
  go_ret
  exact ⟨rfl, hb⟩
theorem own_cap {w : World} {B : Nat} {e : TypeId} {size : Nat} {A : Option Addr} {n c m : Nat} {xs : List Value} (h : w.ownsRow B e size (.slice A n c) m xs) : n ≤ c ∧ c ≤ maxLen := by
  rcases h.2 with ⟨e1, _⟩ | ⟨g, cap, cur, e1, _, _, h3, h4, _⟩
  · cases e1; exact ⟨Nat.le_refl _, Nat.zero_le _⟩
  · cases e1; exact ⟨h3, h4⟩
/-- A whole run, its end told in parts. -/
theorem mrun_lit {A1 A2 A3 : Option Addr} {n1 c1 n2 c2 n3 c3 : Nat} {en mem : Int} {code data inp : List Int} {w : World} (him : Image w A1 n1 c1 A2 n2 c2 code data) (hin : Input w A3 n3 c3 inp) (fuel : Int) (hfu : fuel ≤ 9223372036854775807)
    {k p st : Int} {o : List Int} (hk : (whole n1 n2 n3 en mem code data inp fuel).kind = k) (hp : (whole n1 n2 n3 en mem code data inp fuel).panics = p) (ho : (whole n1 n2 n3 en mem code data inp fuel).out = o) (hs : (whole n1 n2 n3 en mem code data inp fuel).steps = st) :
    Calls Try.prog 27 #[.agg #[.slice A1 n1 c1, .slice A2 n2 c2, .int .i64 en], .int .i64 mem, .slice A3 n3 c3, .int .i64 fuel] w fun e w' =>
      ∃ A n c, e = .returned (.agg #[.int .i64 k, .int .i64 p, .slice A n c, .int .i64 st]) ∧ (∃ B, w'.ownsRow B 5 1 (.slice A n c) n (nums .u8 o) ∧ w.heap.size ≤ B) ∧ n ≤ c ∧ c ≤ maxLen ∧ n ≤ 4096 ∧ Below w.heap.size w w' := by
  refine (mrun_any him hin fuel hfu).mono ?_
  rintro e w' ⟨B, ⟨v, rfl, hv⟩, hB, hb⟩
  have hoi := (whole_outin n1 n2 n3 en mem code data inp fuel).1
  rw [hk, hp, hs]
  rw [ho] at hv hoi
  obtain ⟨A, c, rfl⟩ := own_slice hv
  exact ⟨A, _, c, rfl, ⟨B, hv, hB⟩, (own_cap hv).1, (own_cap hv).2, hoi, hb⟩
theorem alloc_below (w : World) (o : Obj) : Below w.heap.size w (w.alloc o) := (Below.refl _ _).alloc (Nat.le_refl _) _
/-- An image's box, later. -/
theorem img_kept {w X : World} {v0 v1 v2 : Value} {t : TypeId} (hb : Below (w.alloc (.cells #[v0, v1, v2] t)).heap.size (w.alloc (.cells #[v0, v1, v2] t)) X) :
    X.cell? ⟨w.heap.size, 0, none⟩ = some v0 ∧ X.cell? ⟨w.heap.size, 1, none⟩ = some v1 ∧ X.cell? ⟨w.heap.size, 2, none⟩ = some v2 ∧ w.heap.size < X.heap.size := by
  have hz := hb.size
  simp only [World.size_alloc] at hz
  have hk : X.heap[w.heap.size]? = (w.alloc (.cells #[v0, v1, v2] t)).heap[w.heap.size]? := hb.block _ (by simp)
  exact ⟨(World.cell?_of_block hk).trans (by simp), (World.cell?_of_block hk).trans (by simp), (World.cell?_of_block hk).trans (by simp), by omega⟩
/-- An outcome's box, later. -/
theorem out_kept {w X : World} {v0 v1 v2 v3 : Value} {t : TypeId} (hb : Below (w.alloc (.cells #[v0, v1, v2, v3] t)).heap.size (w.alloc (.cells #[v0, v1, v2, v3] t)) X) :
    X.cell? ⟨w.heap.size, 0, none⟩ = some v0 ∧ X.cell? ⟨w.heap.size, 1, none⟩ = some v1 ∧ X.cell? ⟨w.heap.size, 2, none⟩ = some v2 ∧ X.cell? ⟨w.heap.size, 3, none⟩ = some v3 ∧ w.heap.size < X.heap.size := by
  have hz := hb.size
  simp only [World.size_alloc] at hz
  have hk : X.heap[w.heap.size]? = (w.alloc (.cells #[v0, v1, v2, v3] t)).heap[w.heap.size]? := hb.block _ (by simp)
  exact ⟨(World.cell?_of_block hk).trans (by simp), (World.cell?_of_block hk).trans (by simp), (World.cell?_of_block hk).trans (by simp), (World.cell?_of_block hk).trans (by simp), by omega⟩
end Go.Proofs.Ytbchiolgbhckhaa.Mach

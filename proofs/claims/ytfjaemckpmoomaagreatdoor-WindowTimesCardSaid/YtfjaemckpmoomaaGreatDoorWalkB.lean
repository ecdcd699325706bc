/- The walks of WindowTimes, the anchor a hypothesis. -/
import Derived.Test.YtfjaemckpmoomaaGreatDoorWalkA
namespace Go.Proofs.YtfjaemckpmoomaaGreatDoor
open Go.RowKit

/-- what the walk wants of the anchor -/
def Anchor (W : World) : Prop := ∀ w1 : World, Below W.heap.size W w1 → Calls Tryz.prog 6 #[] w1 fun e w2 => e = .returned (.bool true) ∧ Below w1.heap.size w1 w2

set_option maxRecDepth 100000 in
set_option maxHeartbeats 3200000 in
theorem walk_bad1 (a b s : Int) (w : World) (hA : Anchor w) (h : okT a = false) :
    Calls Tryz.prog 3 #[.int .i64 a, .int .i64 b, .int .i64 s] w fun e w' => e = .returned (.bool true) ∧ Below w.heap.size w w' := by
  go_enter Tryz.func3, Tryz.ntmps3
  go_wp2_with (first
    | (go_at_call 4; refine (times_bad1 a b s _ h).mono ?_; rintro e w1 ⟨rfl, rfl⟩)
    | (go_at_call 5; refine (valid5' _ _).mono ?_; rintro e w2 ⟨rfl, rfl⟩; first | rw [h])
    | (go_at_call 6; refine (hA _ (Below.refl _ _)).mono ?_; rintro e w3 ⟨rfl, hB⟩))
  go_ret
  exact ⟨rfl, hB⟩

set_option maxRecDepth 100000 in
set_option maxHeartbeats 3200000 in
theorem walk_bad2 (a b s : Int) (w : World) (hA : Anchor w) (h : okT a = true) (h2 : okT b = false) :
    Calls Tryz.prog 3 #[.int .i64 a, .int .i64 b, .int .i64 s] w fun e w' => e = .returned (.bool true) ∧ Below w.heap.size w w' := by
  go_enter Tryz.func3, Tryz.ntmps3
  go_wp2_with (first
    | (go_at_call 4; refine (times_bad2 a b s _ h h2).mono ?_; rintro e w1 ⟨rfl, rfl⟩)
    | (go_at_call 5; refine (valid5' _ _).mono ?_; rintro e w2 ⟨rfl, rfl⟩; first | rw [h] | rw [h2])
    | (go_at_call 6; refine (hA _ (Below.refl _ _)).mono ?_; rintro e w3 ⟨rfl, hB⟩))
  go_ret
  exact ⟨rfl, hB⟩

set_option maxRecDepth 100000 in
set_option maxHeartbeats 3200000 in
theorem walk_bad3 (a b s : Int) (w : World) (hA : Anchor w) (h : okT a = true) (h2 : okT b = true) (h3 : okT s = false) :
    Calls Tryz.prog 3 #[.int .i64 a, .int .i64 b, .int .i64 s] w fun e w' => e = .returned (.bool true) ∧ Below w.heap.size w w' := by
  go_enter Tryz.func3, Tryz.ntmps3
  go_wp2_with (first
    | (go_at_call 4; refine (times_bad3 a b s _ h h2 h3).mono ?_; rintro e w1 ⟨rfl, rfl⟩)
    | (go_at_call 5; refine (valid5' _ _).mono ?_; rintro e w2 ⟨rfl, rfl⟩; first | rw [h] | rw [h2] | rw [h3])
    | (go_at_call 6; refine (hA _ (Below.refl _ _)).mono ?_; rintro e w3 ⟨rfl, hB⟩))
  go_ret
  exact ⟨rfl, hB⟩

set_option maxRecDepth 100000 in
set_option maxHeartbeats 3200000 in
theorem walk_less (a b s : Int) (w : World) (hA : Anchor w) (h : okT a = true) (h2 : okT b = true) (h3 : okT s = true) (hlt : b < a) :
    Calls Tryz.prog 3 #[.int .i64 a, .int .i64 b, .int .i64 s] w fun e w' => e = .returned (.bool true) ∧ Below w.heap.size w w' := by
  go_enter Tryz.func3, Tryz.ntmps3
  go_wp2_with (first
    | (go_at_call 4; refine (times_less a b s _ h h2 h3 hlt).mono ?_; rintro e w1 ⟨rfl, rfl⟩)
    | (go_at_call 5; refine (valid5' _ _).mono ?_; rintro e w2 ⟨rfl, rfl⟩; first | rw [h] | rw [h2] | rw [h3])
    | (go_at_call 6; refine (hA _ (Below.refl _ _)).mono ?_; rintro e w3 ⟨rfl, hB⟩))
  refine wp_loop_rounds 1 ?_
  rw [rounds_succ]
  go_wp2_with (go_at_call 6; refine (hA _ (Below.refl _ _)).mono ?_; rintro e w3 ⟨rfl, hB⟩)
  go_ret
  exact ⟨rfl, hB⟩

set_option maxRecDepth 100000 in
set_option maxHeartbeats 3200000 in
theorem walk_many (a b s : Int) (w : World) (hA : Anchor w) (h : okT a = true) (h2 : okT b = true) (h3 : okT s = true) (hlt : ¬ b < a) (hn : 2000 < (b - a) / s + 1) :
    Calls Tryz.prog 3 #[.int .i64 a, .int .i64 b, .int .i64 s] w fun e w' => e = .returned (.bool true) ∧ Below w.heap.size w w' := by
  have ha := okT_true h
  have hb := okT_true h2
  have hs := okT_true h3
  have hd : ¬ s = 0 := by omega
  have hw := cnt_wrap h h2 h3 hlt
  go_enter Tryz.func3, Tryz.ntmps3
  go_wp2_with (first
    | (go_at_call 4; refine (times_many a b s _ h h2 h3 hlt hn).mono ?_; rintro e w1 ⟨rfl, rfl⟩)
    | (go_at_call 5; refine (valid5' _ _).mono ?_; rintro e w2 ⟨rfl, rfl⟩; first | rw [h] | rw [h2] | rw [h3])
    | (go_at_call 6; refine (hA _ (Below.refl _ _)).mono ?_; rintro e w3 ⟨rfl, hB⟩))
  go_ret
  exact ⟨rfl, hB⟩

set_option maxRecDepth 100000 in
set_option maxHeartbeats 3200000 in
theorem walk_ok (a b s : Int) (N : Nat) (w : World) (hA : Anchor w) (h : okT a = true) (h2 : okT b = true) (h3 : okT s = true) (hlt : ¬ b < a) (hN : (b - a) / s + 1 = N) (hn : N ≤ 2000) :
    Calls Tryz.prog 3 #[.int .i64 a, .int .i64 b, .int .i64 s] w fun e w' => e = .returned (.bool true) ∧ Below w.heap.size w w' := by
  have ha := okT_true h
  have hb := okT_true h2
  have hs := okT_true h3
  have hd : ¬ s = 0 := by omega
  have hw : wrap64 ((b - a) / s + 1) = (N : Int) := (cnt_wrap h h2 h3 hlt).trans hN
  have hN0 : 1 ≤ N := by have := div_bound h h2 h3 hlt; omega
  go_enter Tryz.func3, Tryz.ntmps3
  go_wp2_with (first
    | (go_at_call 4; refine (times_ok a b s N _ h h2 h3 hlt hN hn).mono ?_; rintro e w1 ⟨rfl, hown, hbel⟩)
    | (go_at_call 5; refine (valid5' _ _).mono ?_; rintro e w2 ⟨rfl, rfl⟩; first | rw [h] | rw [h2] | rw [h3]))
  have hcell : ∀ k : Nat, k < N → w2.cell? ⟨w.heap.size, k, none⟩ = some (Value.int .i64 (a + (k : Int) * s)) := fun k hk => by
    rw [hown.cellAt k (by omega)]
    simp [pts, hk]
  clear hown
  go_loop [69] (fun i => ∃ k : Nat, k ≤ N ∧ i = .int .i64 k) (fun i => N - (intOf i).toNat)
  case atStart => exact ⟨0, Nat.zero_le _, rfl⟩
  case round =>
    obtain ⟨k, hk, rfl⟩ := hrel
    have e1 : k < N → wrap64 ((k : Int) * s) = (k : Int) * s := fun hkN => by have := mul_bound h3 hN hkN; unfold wrap64; omega
    have e2 : k < N → wrap64 (a + (k : Int) * s) = a + (k : Int) * s := fun hkN => by have := mul_bound h3 hN hkN; unfold wrap64; omega
    have hck := hcell k
    clear hcell
    go_wp2_with (go_at_call 6; refine (hA _ hbel).mono ?_; rintro e w3 ⟨rfl, hB⟩)
    · exact ⟨⟨k + 1, by omega, by go_num⟩, by simp [intOf]; omega⟩
    · go_ret
      exact ⟨rfl, hbel.trans (hB.mono hbel.size)⟩
end Go.Proofs.YtfjaemckpmoomaaGreatDoor

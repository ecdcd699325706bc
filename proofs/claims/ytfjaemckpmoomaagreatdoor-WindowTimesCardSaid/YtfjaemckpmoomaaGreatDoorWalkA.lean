/- The walks of window.Times and of the two tests of a time. -/
import Derived.Test.YtfjaemckpmoomaaGreatDoorRows
import Derived.WalkKit
import Derived.WalkSpells
import Derived.WalkLawsBesides
namespace Go.Proofs.YtfjaemckpmoomaaGreatDoor
open Go.RowKit

set_option maxHeartbeats 400000 in
theorem valid7 (a : Int) (w : World) :
    Calls Tryz.prog 7 #[.int .i64 a] w fun e w' => e = .returned (.bool (decide (1 ≤ a ∧ a ≤ 1099511627776))) ∧ w' = w := by
  go_enter Tryz.func7, Tryz.ntmps7
  go_wp2
  all_goals go_ret
  all_goals (refine ⟨?_, rfl⟩; simp; try omega)

set_option maxHeartbeats 400000 in
theorem valid5 (a : Int) (w : World) :
    Calls Tryz.prog 5 #[.int .i64 a] w fun e w' => e = .returned (.bool (decide (1 ≤ a ∧ a ≤ 1099511627776))) ∧ w' = w := by
  go_enter Tryz.func5, Tryz.ntmps5
  go_wp2
  all_goals go_ret
  all_goals (refine ⟨?_, rfl⟩; simp; try omega)
end Go.Proofs.YtfjaemckpmoomaaGreatDoor

namespace Go.Proofs.YtfjaemckpmoomaaGreatDoor
open Go.RowKit
theorem info3W : (Tryz.prog.info? 3).map (fun i => (i.zero, i.size, i.bytes)) = some (some (.int .i64 0), 1, 8) := by kernel_rfl

def okT (a : Int) : Bool := decide (1 ≤ a ∧ a ≤ 1099511627776)
theorem okT_true {a : Int} (h : okT a = true) : 1 ≤ a ∧ a ≤ 1099511627776 := of_decide_eq_true h

theorem valid7' (a : Int) (w : World) : Calls Tryz.prog 7 #[.int .i64 a] w fun e w' => e = .returned (.bool (okT a)) ∧ w' = w := valid7 a w
theorem valid5' (a : Int) (w : World) : Calls Tryz.prog 5 #[.int .i64 a] w fun e w' => e = .returned (.bool (okT a)) ∧ w' = w := valid5 a w

set_option maxRecDepth 100000 in
set_option maxHeartbeats 1000000 in
theorem times_bad1 (a b s : Int) (w : World) (h : okT a = false) :
    Calls Tryz.prog 4 #[.int .i64 a, .int .i64 b, .int .i64 s] w fun e w' => e = .returned (.tuple #[.slice none 0 0, .int .i64 2]) ∧ w' = w := by
  go_enter Tryz.func4, Tryz.ntmps4
  go_wp2_with (go_at_call 7; refine (valid7' _ _).mono ?_; rintro e w' ⟨rfl, rfl⟩; rw [h])
  go_ret2
  exact ⟨rfl, rfl⟩

set_option maxRecDepth 100000 in
set_option maxHeartbeats 1000000 in
theorem times_bad2 (a b s : Int) (w : World) (h : okT a = true) (h2 : okT b = false) :
    Calls Tryz.prog 4 #[.int .i64 a, .int .i64 b, .int .i64 s] w fun e w' => e = .returned (.tuple #[.slice none 0 0, .int .i64 2]) ∧ w' = w := by
  go_enter Tryz.func4, Tryz.ntmps4
  go_wp2_with (go_at_call 7; refine (valid7' _ _).mono ?_; rintro e w' ⟨rfl, rfl⟩; first | rw [h] | rw [h2])
  go_ret2
  exact ⟨rfl, rfl⟩

set_option maxRecDepth 100000 in
set_option maxHeartbeats 1000000 in
theorem times_bad3 (a b s : Int) (w : World) (h : okT a = true) (h2 : okT b = true) (h3 : okT s = false) :
    Calls Tryz.prog 4 #[.int .i64 a, .int .i64 b, .int .i64 s] w fun e w' => e = .returned (.tuple #[.slice none 0 0, .int .i64 2]) ∧ w' = w := by
  go_enter Tryz.func4, Tryz.ntmps4
  go_wp2_with (go_at_call 7; refine (valid7' _ _).mono ?_; rintro e w' ⟨rfl, rfl⟩; first | rw [h] | rw [h2] | rw [h3])
  go_ret2
  exact ⟨rfl, rfl⟩

set_option maxRecDepth 100000 in
set_option maxHeartbeats 1000000 in
theorem times_less (a b s : Int) (w : World) (h : okT a = true) (h2 : okT b = true) (h3 : okT s = true) (hlt : b < a) :
    Calls Tryz.prog 4 #[.int .i64 a, .int .i64 b, .int .i64 s] w fun e w' => e = .returned (.tuple #[.slice none 0 0, .int .i64 0]) ∧ w' = w := by
  go_enter Tryz.func4, Tryz.ntmps4
  go_wp2_with (go_at_call 7; refine (valid7' _ _).mono ?_; rintro e w' ⟨rfl, rfl⟩; first | rw [h] | rw [h2] | rw [h3])
  go_ret2
  exact ⟨rfl, rfl⟩

theorem div_bound {a b s : Int} (h : okT a = true) (h2 : okT b = true) (h3 : okT s = true) (hlt : ¬ b < a) : 0 ≤ (b - a) / s ∧ (b - a) / s ≤ 1099511627776 := by
  have ha := okT_true h
  have hb := okT_true h2
  have hs := okT_true h3
  refine ⟨Int.ediv_nonneg (by omega) (by omega), Int.le_trans (Int.ediv_le_self s (by omega)) (by omega)⟩

theorem cnt_wrap {a b s : Int} (h : okT a = true) (h2 : okT b = true) (h3 : okT s = true) (hlt : ¬ b < a) : wrap64 ((b - a) / s + 1) = (b - a) / s + 1 := by
  have := div_bound h h2 h3 hlt
  unfold wrap64
  omega

set_option maxRecDepth 100000 in
set_option maxHeartbeats 1000000 in
theorem times_many (a b s : Int) (w : World) (h : okT a = true) (h2 : okT b = true) (h3 : okT s = true) (hlt : ¬ b < a) (hn : 2000 < (b - a) / s + 1) :
    Calls Tryz.prog 4 #[.int .i64 a, .int .i64 b, .int .i64 s] w fun e w' => e = .returned (.tuple #[.slice none 0 0, .int .i64 4]) ∧ w' = w := by
  have ha := okT_true h
  have hb := okT_true h2
  have hs := okT_true h3
  have hd : ¬ s = 0 := by omega
  have hw := cnt_wrap h h2 h3 hlt
  go_enter Tryz.func4, Tryz.ntmps4
  go_wp2_with (go_at_call 7; refine (valid7' _ _).mono ?_; rintro e w' ⟨rfl, rfl⟩; first | rw [h] | rw [h2] | rw [h3])
  go_ret2
  exact ⟨rfl, rfl⟩

/-- the points -/
def pts (a s : Int) (k : Nat) : List Int := (List.range k).map fun (i : Nat) => a + (i : Int) * s

theorem pts_length (a s : Int) (k : Nat) : (pts a s k).length = k := by simp [pts]
theorem pts_succ (a s : Int) (k : Nat) : pts a s (k + 1) = pts a s k ++ [a + (k : Int) * s] := by simp [pts, List.range_succ]

theorem mul_bound {a b s : Int} {k N : Nat} (h3 : okT s = true) (hN : (b - a) / s + 1 = N) (hk : k < N) : 0 ≤ (k : Int) * s ∧ (k : Int) * s ≤ b - a := by
  have hs := okT_true h3
  refine ⟨Int.mul_nonneg (by omega) (by omega), ?_⟩
  have h1 : (k : Int) ≤ (b - a) / s := by omega
  exact (Int.le_ediv_iff_mul_le (by omega)).1 h1

set_option maxRecDepth 100000 in
set_option maxHeartbeats 3200000 in
theorem times_ok (a b s : Int) (N : Nat) (w : World) (h : okT a = true) (h2 : okT b = true) (h3 : okT s = true) (hlt : ¬ b < a) (hN : (b - a) / s + 1 = N) (hn : N ≤ 2000) :
    Calls Tryz.prog 4 #[.int .i64 a, .int .i64 b, .int .i64 s] w fun e w' => e = .returned (.tuple #[.slice (some ⟨w.heap.size, 0, none⟩) N N, .int .i64 0]) ∧
      w'.ownsRow w.heap.size 3 1 (.slice (some ⟨w.heap.size, 0, none⟩) N N) N ((pts a s N).map (Value.int .i64)) ∧ Below w.heap.size w w' := by
  have ha := okT_true h
  have hb := okT_true h2
  have hs := okT_true h3
  have hd : ¬ s = 0 := by omega
  have hw : wrap64 ((b - a) / s + 1) = (N : Int) := (cnt_wrap h h2 h3 hlt).trans hN
  have hN0 : 1 ≤ N := by have := div_bound h h2 h3 hlt; omega
  obtain ⟨i0, hi, hz0, hz1, hz2⟩ := info_parts info3W
  go_enter Tryz.func4, Tryz.ntmps4
  go_wp2_with (first
    | (go_at_call 7; refine (valid7' _ _).mono ?_; rintro e w' ⟨rfl, rfl⟩; first | rw [h] | rw [h2] | rw [h3])
    | (at_make; refine wpList_make_own _ rfl _ _ 22 rfl w'.heap.size 3 i0 (.int .i64 0) 1 Tryz.underlying22 hi hz0 hz1 _ _ _ N rfl rfl (by omega) ?b2 ?b3 (Nat.le_refl _) ?_))
  case b2 => rw [hz2]; omega
  case b3 => unfold maxLen; omega
  intro w0 hown0 hgrow0
  go_wp2
  go_loopw [9, 38] (fun l i wr => ∃ k : Nat, k ≤ N ∧ i = .int .i64 k ∧ l = .slice (some ⟨w'.heap.size, 0, none⟩) k N ∧
      wr.ownsRow w'.heap.size 3 1 (.slice (some ⟨w'.heap.size, 0, none⟩) k N) k ((pts a s k).map (Value.int .i64)) ∧ Below w'.heap.size w' wr)
    (fun _ i _ => N - (intOf i).toNat)
  case atStart => exact ⟨0, Nat.zero_le _, rfl, rfl, hown0, (Below.refl _ _).grown hgrow0 (Nat.le_refl _) (fun k h => by cases h)⟩
  case round =>
    obtain ⟨k, hk, rfl, rfl, hown, hnx⟩ := hrel
    have e1 : k < N → wrap64 ((k : Int) * s) = (k : Int) * s := fun hkN => by have := mul_bound h3 hN hkN; unfold wrap64; omega
    have e2 : k < N → wrap64 (a + (k : Int) * s) = a + (k : Int) * s := fun hkN => by have := mul_bound h3 hN hkN; unfold wrap64; omega
    go_wp2_with (at_builtin; refine wpList_append_fits _ rfl (.tmp 41) (.tmp 47) 22 rfl w'.heap.size 3 i0 1 Tryz.underlying22 hi hz1 w'.heap.size k N _ rfl (hown.alloc _) ⟨wr.heap.size, 0, none⟩ 1 1 [.int .i64 (a + (k : Int) * s)] rfl rfl (by intro t u ht; match t, ht with | 0, ht => simp at ht; subst ht; simp [Addr.add]) (by intro u hu; simp at hu; subst hu; rfl) (by omega) ?_; intro w1 hown1 hgrow1)
    · have hkN : k < N := by assumption
      refine ⟨⟨k + 1, by omega, by go_num, rfl, ?_, ?_⟩, by simp [intOf]; omega⟩
      · rw [pts_succ, List.map_append]; exact hown1
      · exact (hnx.alloc hnx.size _).grown hgrow1 (by have := hnx.size; simp; omega) (fun j hj => by injection hj with hj; omega)
    · have : k = N := by omega
      subst this
      go_ret2
      exact ⟨rfl, hown, hnx⟩
end Go.Proofs.YtfjaemckpmoomaaGreatDoor

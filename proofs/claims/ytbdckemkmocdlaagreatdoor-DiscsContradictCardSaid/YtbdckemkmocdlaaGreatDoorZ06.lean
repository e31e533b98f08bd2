/- New integers: what the literals &wide{..} lay; (*whole.wide).times. -/
import Derived.Test.YtbdckemkmocdlaaGreatDoorZ05
import Derived.StillTailTactics
set_option linter.unusedVariables false
set_option linter.unusedSimpArgs false
namespace Go.Proofs.YtbdckemkmocdlaaGreatDoor
open Go.RowKit

theorem wz_is : Tryz.zeroCells145 = #[.bool false, .int .i64 0] ++ Array.replicate 232 (.int .i64 0) := by kernel_rfl
theorem wz_facts : Tryz.zeroCells145.size = 234 ∧ Tryz.zeroCells145[1]? = some (.int .i64 0) ∧ (∀ i, i < 232 → Tryz.zeroCells145[2 + i]? = some (.int .i64 0)) := by
  rw [wz_is]
  refine ⟨by simp, by simp, fun i hi => ?_⟩
  rw [Array.getElem?_append_right (by simp), show 2 + i - (#[Value.bool false, .int .i64 0] : Array Value).size = i by simp, Array.getElem?_replicate, if_pos hi]

theorem WB.new (w : World) (s : Bool) : WB (w.alloc (.cells (Tryz.zeroCells145.setIfInBounds 0 (.bool s)) 145 (0, 0))) w.heap.size s 0 (fun _ => 0) := by
  obtain ⟨h1, h2, h3⟩ := wz_facts
  refine ⟨_, heap_alloc_new _ _, by simp [h1], ?_, ?_, ?_⟩
  · rw [Array.getElem?_setIfInBounds_self_of_lt (by omega)]
  · rw [Array.getElem?_setIfInBounds_ne (by omega), h2]; rfl
  · intro i hi
    rw [Array.getElem?_setIfInBounds_ne (by omega)]; exact h3 i hi

set_option maxRecDepth 100000 in
set_option maxHeartbeats 1000000 in
theorem times_any (w : World) (b c x y : Nat) (nx ny : Bool) (hx : WB w b nx (nw x) (fun i => wd x i)) (hy : WB w c ny (nw y) (fun i => wd y i)) (hs : nw x + nw y ≤ 232) :
    Calls Tryz.prog 187 #[.pointer (some ⟨b, 0, none⟩), .pointer (some ⟨c, 0, none⟩)] w fun e w' =>
      ∃ g, e = .returned (.pointer (some ⟨g, 0, none⟩)) ∧ w.heap.size ≤ g ∧ WB w' g (nx != ny) (nw (x * y)) (fun i => wd (x * y) i) ∧ Below w.heap.size w w' := by
  have x0 := hx.c0
  have y0 := hy.c0
  have y1 := hy.c1
  have hc := hy.lt
  go_enter Tryz.func187, Tryz.ntmps187
  go_wp2
  go_still_tail 10, (by kernel_rfl)
  change wpList _ _ _ _ _ w.drew
  go_wp2
  have hn0 : WB ((w.alloc (.cells (Tryz.zeroCells145.setIfInBounds 0 (.bool !nx == ny)) 145 (0, 0))).drew) w.heap.size (!nx == ny) (nw (x * (y % BW ^ 0))) (fun i => wd (x * (y % BW ^ 0)) i) := by
    rw [times_zero, nw_zero]
    exact (WB.new w (!nx == ny)).congr (fun i _ => by simp [wd_zero])
  have hb0 : Below w.heap.size w ((w.alloc (.cells (Tryz.zeroCells145.setIfInBounds 0 (.bool !nx == ny)) 145 (0, 0))).drew) := ((Below.refl _ w).alloc (Nat.le_refl _) _).drew
  have hny : nw y ≤ 232 := by omega
  have hbl := hx.lt
  go_loopw [22] (fun i wr => ∃ k : Nat, i = .int .i64 k ∧ k ≤ nw y ∧ WB wr w.heap.size (!nx == ny) (nw (x * (y % BW ^ k))) (fun i => wd (x * (y % BW ^ k)) i) ∧ Below w.heap.size w wr)
    (fun i _ => nw y - (intOf i).toNat)
  case atStart => exact ⟨0, rfl, Nat.zero_le _, hn0, hb0⟩
  case round =>
    obtain ⟨k, rfl, hk, hw, hbel⟩ := hrel
    clear hn0 hb0
    by_cases hlt : k < nw y
    · have y3 := (hy.below hbel hc).cw k (by omega)
      have hz := wd_lt y k
      rw [show BW = 1000000000 from rfl] at hz
      go_wp2_with fail
      refine (carry_wi _ w.heap.size b k _ x _ _ nx _ hw (times_lt hs) (hx.below hbel hbl) (by omega) (by omega) (by omega) (times_step x y k) (times_lt hs)).mono ?_
      rintro e w1 ⟨rfl, hg1, hw1⟩
      go_wp2
      refine ⟨⟨k + 1, by simp, by omega, hw1, hbel.trans (below_of_grownBy hg1 (Nat.le_refl _) hbel.size)⟩, by simp [intOf]; omega⟩
    · obtain rfl : k = nw y := by omega
      rw [times_end] at hw
      go_wp2
      go_ret
      exact ⟨_, rfl, Nat.le_refl _, by rw [show (nx != ny) = (!nx == ny) from rfl]; exact hw, hbel⟩
end Go.Proofs.YtbdckemkmocdlaaGreatDoor

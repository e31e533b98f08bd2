/- (*whole.wide).plus: an integer is added to another one in place. -/
import Derived.Test.YtbdckemkmocdlaaGreatDoorZ06
import Derived.Test.YtbdckemkmocdlaaGreatDoorZ05
import Derived.Deep.WholeRow
set_option linter.unusedVariables false
set_option linter.unusedSimpArgs false
namespace Go.Proofs.YtbdckemkmocdlaaGreatDoor
open Go.RowKit

/-- the cells of an integer, as a whole -/
theorem WB.row {w : World} {b : Nat} {neg : Bool} {n : Nat} {f : Nat → Int} (h : WB w b neg n f) :
    ∃ c : Array Value, w.heap[b]? = some (.cells c 145 (0, 0)) ∧ c.size = 234 ∧ c.all (·.oneCell') = true ∧
      ∀ (w' : World) (g : Nat), w'.heap[g]? = some (.cells c 145 (0, 0)) → WB w' g neg n f := by
  obtain ⟨c, h1, h2, h3, h4, h5⟩ := h
  refine ⟨c, h1, h2, ?_, fun w' g hg => ⟨c, hg, h2, h3, h4, h5⟩⟩
  rw [Array.all_eq_true]
  intro i hi
  have e : c[i]? = some c[i] := Array.getElem?_eq_getElem hi
  by_cases i0 : i = 0
  · subst i0; rw [h3] at e; rw [← Option.some.inj e]; rfl
  · by_cases i1 : i = 1
    · subst i1; rw [h4] at e; rw [← Option.some.inj e]; rfl
    · have := h5 (i - 2) (by omega)
      rw [show 2 + (i - 2) = i by omega, e] at this
      rw [Option.some.inj this]; rfl

theorem info145 : (Tryz.prog.info? 145).map (·.size) = some 234 := by kernel_rfl

set_option maxRecDepth 100000 in
set_option maxHeartbeats 1000000 in
theorem plus_same (w : World) (b c x y : Nat) (ng : Bool) (hx : WB w b ng (nw x) (fun i => wd x i)) (hy : WB w c ng (nw y) (fun i => wd y i)) (hbc : b ≠ c) (hs : x + y < BW ^ 232) :
    Calls Tryz.prog 207 #[.pointer (some ⟨b, 0, none⟩), .pointer (some ⟨c, 0, none⟩)] w fun e w' =>
      e = .returned (.tuple #[]) ∧ w.grownBy w' (some b) ∧ WB w' b ng (nw (x + y)) (fun i => wd (x + y) i) := by
  have x0 := hx.c0
  have y0 := hy.c0
  have HS := Lib.hid hs
  clear hs
  go_enter Tryz.func207, Tryz.ntmps207
  go_wp2
  go_quiet (fail)
  go_wp2_with fail
  have h1 := nw_mono (show x ≤ x + y by omega)
  have h2 := nw_mono (show y ≤ x + y by omega)
  have h3 := nw_le.2 HS.out
  refine (carry_zero _ b c x y (x + y) ng ng 1 (hx.drewN _) (nw_le.1 (by omega)) (hy.drewN _) hbc (by omega) (by omega) (by omega) HS.out).mono ?_
  rintro e w1 ⟨rfl, hg1, hw1⟩
  go_wp2
  refine bodyPost_ret (results_none rfl _ _ _) rfl ?_
  exact ⟨rfl, (grownBy_drewN _ _ _).trans hg1, hw1⟩

set_option maxRecDepth 100000 in
set_option maxHeartbeats 1000000 in
theorem plus_less (w : World) (b c x y : Nat) (ng : Bool) (hx : WB w b ng (nw x) (fun i => wd x i)) (hy : WB w c (!ng) (nw y) (fun i => wd y i)) (hbc : b ≠ c) (hs : x < BW ^ 232) (hle : y ≤ x) :
    Calls Tryz.prog 207 #[.pointer (some ⟨b, 0, none⟩), .pointer (some ⟨c, 0, none⟩)] w fun e w' =>
      e = .returned (.tuple #[]) ∧ w.grownBy w' (some b) ∧ WB w' b ng (nw (x - y)) (fun i => wd (x - y) i) := by
  have x0 := hx.c0
  have y0 := hy.c0
  have h2 := nw_mono hle
  have h3 := nw_le.2 hs
  have HS := Lib.hid hs
  clear hs
  have te : (ng == !ng) = false := by cases ng <;> rfl
  go_enter Tryz.func207, Tryz.ntmps207
  go_wp2
  go_quiet (fail)
  go_wp2_with fail
  refine (beyond_any _ b c x y ng (!ng) (hx.drewN nq) (hy.drewN nq) (by omega) (by omega)).mono ?_
  rintro e w1 ⟨d, rfl, hd, n1, rfl⟩
  have hd0 : 0 ≤ d := by have := hd.1; omega
  clear hd
  go_wp2_with fail
  refine (carry_zero _ b c x y (x - y) ng (!ng) (-1) (hx.drewN _) HS.out (hy.drewN _) hbc (by omega) (by omega) (by omega) (by have := HS.out; omega)).mono ?_
  rintro e w1 ⟨rfl, hg1, hw1⟩
  go_wp2
  refine bodyPost_ret (results_none rfl _ _ _) rfl ?_
  exact ⟨rfl, (grownBy_drewN _ _ _).trans hg1, hw1⟩

set_option maxRecDepth 100000 in
set_option maxHeartbeats 1000000 in
theorem plus_more (w : World) (b c x y : Nat) (ng : Bool) (hx : WB w b ng (nw x) (fun i => wd x i)) (hy : WB w c (!ng) (nw y) (fun i => wd y i)) (hs : y < BW ^ 232) (hlt : x < y) :
    Calls Tryz.prog 207 #[.pointer (some ⟨b, 0, none⟩), .pointer (some ⟨c, 0, none⟩)] w fun e w' =>
      e = .returned (.tuple #[]) ∧ w.grownBy w' (some b) ∧ WB w' b (!ng) (nw (y - x)) (fun i => wd (y - x) i) := by
  have x0 := hx.c0
  have y0 := hy.c0
  have h2 := nw_mono (Nat.le_of_lt hlt)
  have h3 := nw_le.2 hs
  have HS := Lib.hid hs
  clear hs
  have te : (ng == !ng) = false := by cases ng <;> rfl
  go_enter Tryz.func207, Tryz.ntmps207
  go_wp2
  go_quiet (fail)
  go_wp2_with fail
  refine (beyond_any _ b c x y ng (!ng) (hx.drewN nq) (hy.drewN nq) (by omega) (by omega)).mono ?_
  rintro e w1 ⟨d, rfl, hd, n1, rfl⟩
  have hd0 : d < 0 := by have := hd.1; omega
  clear hd
  obtain ⟨cy, hcy, hcs, hco, hcw⟩ := hy.row
  have hi : (Tryz.prog.info? 145).map (·.size) = some cy.size := by rw [hcs]; exact info145
  have hz : Tryz.zeroCells145.size = cy.size := by rw [hcs]; exact wz_facts.1
  have HI := Lib.hid hi
  have HZ := Lib.hid hz
  have HCY := Lib.hid hcy
  have HCO := Lib.hid hco
  have HCS := Lib.hid hcs
  clear hi hz hcy hco hcs
  go_wp2_with (first
    | (refine wpList_load_row rfl 145 _ rfl c rfl 145 cy (0, 0) _ (by exact HCY.out) Tryz.underlying145 rfl HI.out ?_)
    | (refine wpList_store_row rfl 145 _ _ rfl w.heap.size cy rfl rfl 145 Tryz.zeroCells145 (heap_alloc_new _ _) HI.out HZ.out HCO.out ?_)
    | fail)
  rw [show (((w.drewN (nq + n1)).alloc (.cells Tryz.zeroCells145 145 (0, 0))).setRow w.heap.size cy) = (w.drewN (nq + n1)).alloc (.cells cy 145 (0, 0)) from World.setRow_alloc_new (w.drewN (nq + n1)) Tryz.zeroCells145 cy 145]
  have hbl := hx.lt
  have hxa : WB ((w.drewN (nq + n1)).alloc (.cells cy 145 (0, 0))) b ng (nw x) (fun i => wd x i) := hx.of_block (Below.heap_alloc (w.drewN (nq + n1)) _ b hbl)
  have hza : WB ((w.drewN (nq + n1)).alloc (.cells cy 145 (0, 0))) w.heap.size (!ng) (nw y) (fun i => wd y i) := hcw _ _ (heap_alloc_new (w.drewN (nq + n1)) _)
  have hga : w.grownBy ((w.drewN (nq + n1)).alloc (.cells cy 145 (0, 0))) (some b) := (grownBy_drewN w (nq + n1) _).trans (World.grownBy_alloc _ _ _)
  have hsz : ((w.drewN (nq + n1)).alloc (.cells cy 145 (0, 0))).heap.size = w.heap.size + 1 := by simp
  generalize (w.drewN (nq + n1)).alloc (.cells cy 145 (0, 0)) = W3 at hxa hza hga hsz ⊢
  clear hx hy hcw HCY HCO HCS HZ HI
  refine (carry_zero _ w.heap.size b y x (y - x) (!ng) ng (-1) hza HS.out hxa (by omega) (by omega) (by omega) (by omega) (by have := HS.out; omega)).mono ?_
  rintro e w1 ⟨rfl, hg1, hw1⟩
  obtain ⟨cz, hcz, hzs, hzo, hzw⟩ := hw1.row
  obtain ⟨cx, hcx, hxs, hxo, hxw⟩ := (hxa.kept hg1 (by simp; omega)).row
  have HI := Lib.hid (show (Tryz.prog.info? 145).map (·.size) = some cz.size by rw [hzs]; exact info145)
  have HZ := Lib.hid (show cx.size = cz.size by rw [hzs, hxs])
  have HCZ := Lib.hid hcz
  have HCX := Lib.hid hcx
  have HZO := Lib.hid hzo
  have HSZ := Lib.hid hsz
  clear hcz hcx hzs hxs hxo hzo hsz
  go_wp2_with (first
    | (refine wpList_load_row rfl 145 _ rfl w.heap.size rfl 145 cz (0, 0) _ (by exact HCZ.out) Tryz.underlying145 rfl HI.out ?_)
    | (refine wpList_store_row rfl 145 _ _ rfl b cz rfl rfl 145 cx HCX.out HI.out HZ.out HZO.out ?_)
    | fail)
  go_end0
  refine ⟨rfl, ⟨?_, ?_, ?_, ?_, ?_⟩, hzw _ _ (setRow_heap _ _ _ _ _ _ HCX.out)⟩
  · exact hg1.os.trans hga.os
  · exact hg1.tape.trans hga.tape
  · exact hg1.output.trans hga.output
  · rw [setRow_size]; exact Nat.le_trans hga.size hg1.size
  · intro k hk hne
    rw [setRow_other _ _ _ _ (fun e => hne (by rw [e])), hg1.block k (by have := HSZ.out; omega) (by simp; omega), hga.block k hk hne]

/-- an integer is added in place -/
theorem plus_any (w : World) (b c x y : Nat) (nx ny : Bool) (hx : WB w b nx (nw x) (fun i => wd x i)) (hy : WB w c ny (nw y) (fun i => wd y i)) (hbc : b ≠ c) (hs : x + y < BW ^ 232) :
    Calls Tryz.prog 207 #[.pointer (some ⟨b, 0, none⟩), .pointer (some ⟨c, 0, none⟩)] w fun e w' =>
      e = .returned (.tuple #[]) ∧ w.grownBy w' (some b) ∧ ∃ nr r, WB w' b nr (nw r) (fun i => wd r i) ∧ sv nr r = sv nx x + sv ny y ∧ r ≤ x + y := by
  by_cases h : nx = ny
  · subst h
    refine (plus_same w b c x y nx hx hy hbc hs).mono ?_
    rintro e w' ⟨h1, h2, h3⟩
    exact ⟨h1, h2, _, _, h3, by unfold sv; split <;> omega, Nat.le_refl _⟩
  · obtain rfl : ny = !nx := by cases nx <;> cases ny <;> simp_all
    by_cases hle : y ≤ x
    · refine (plus_less w b c x y nx hx hy hbc (by omega) hle).mono ?_
      rintro e w' ⟨h1, h2, h3⟩
      exact ⟨h1, h2, _, _, h3, by unfold sv; cases nx <;> simp <;> omega, by omega⟩
    · refine (plus_more w b c x y nx hx hy (by omega) (by omega)).mono ?_
      rintro e w' ⟨h1, h2, h3⟩
      exact ⟨h1, h2, _, _, h3, by unfold sv; cases nx <;> simp <;> omega, by omega⟩
end Go.Proofs.YtbdckemkmocdlaaGreatDoor

/- metrolabref12: First. -/
import Derived.Test.YtbdckemkmocdlaaGreatDoorZ36
import Derived.Test.YtbdckemkmocdlaaGreatDoorZ29
import Derived.Test.YtbdckemkmocdlaaGreatDoorZ34
import Derived.Test.YtbdckemkmocdlaaGreatDoorZ31
set_option linter.all false
set_option exponentiation.threshold 2000000
namespace Go.Proofs.YtbdckemkmocdlaaGreatDoor
open Go.RowKit

attribute [local irreducible] sI sQ

theorem first_found {l : List QD} {p : List Wt} {x : Wt} (h : ∀ y ∈ p, provesW l y = false) (hp : p ++ [x] <+: wits l.length) (hx : provesW l x = true) : firstQ l = some x := by
  obtain ⟨rest, e⟩ := hp
  unfold firstQ
  rw [← e, List.append_assoc, List.find?_append]
  have : p.find? (provesW l) = none := by rw [List.find?_eq_none]; intro y hy; rw [h y hy]; simp
  rw [this]
  simp [hx]
theorem first_none {l : List QD} (h : ∀ y ∈ wits l.length, provesW l y = false) : firstQ l = none := by
  unfold firstQ; rw [List.find?_eq_none]; intro y hy; rw [h y hy]; simp
theorem no_more {l : List QD} {p : List Wt} {x : Wt} (h : ∀ y ∈ p, provesW l y = false) (hx : provesW l x = false) : ∀ y ∈ p ++ [x], provesW l y = false := by
  intro y hy
  rcases List.mem_append.1 hy with h1 | h1
  · exact h y h1
  · simp at h1; rw [h1]; exact hx
theorem firstV_some {l : List QD} {x : Wt} (h : firstQ l = some x) : firstV l = .tuple #[.agg #[.int .i64 (x.1 : Int), .int .i64 (x.2.1 : Int), .int .i64 x.2.2], .bool true] := by unfold firstV; rw [h]; rfl
theorem firstV_none {l : List QD} (h : firstQ l = none) : firstV l = .tuple #[.agg #[.int .i64 0, .int .i64 0, .int .i64 0], .bool false] := by unfold firstV; rw [h]; rfl


set_option maxRecDepth 100000 in
set_option maxHeartbeats 8000000 in
theorem rfirst_any (b o cap : Nat) (l : List QD) (w : World) (hl : l.length ≤ 1000000) (hr : QRow w b o l) (hb : b < w.heap.size) (hbg : ∀ d ∈ l, Bg d) :
    Calls Tryz.prog 49 #[.slice (some ⟨b, o, none⟩) l.length cap] w fun e w' => e = .returned (firstV l) ∧ Below w.heap.size w w' := by
  have a1 := CB.new w (#[.int .i64 0, .int .i64 0, .int .i64 0]) 43
  have b1 := (Below.refl w.heap.size w).alloc (Nat.le_refl _) (.cells (#[.int .i64 0, .int .i64 0, .int .i64 0]) 43 (0, 0))
  have HA := Lib.hid a1
  have HB := Lib.hid b1
  have MP := Lib.hid (show ∀ (W : World) (i j : Nat) (side : Int), Below (w.alloc (.cells (#[.int .i64 0, .int .i64 0, .int .i64 0]) 43 (0, 0))).heap.size (w.alloc (.cells (#[.int .i64 0, .int .i64 0, .int .i64 0]) 43 (0, 0))) W → i < l.length → j < l.length →
      Calls Tryz.prog 54 #[.slice (some ⟨b, o, none⟩) l.length cap, .agg #[.int .i64 i, .int .i64 j, .int .i64 side]] W fun e w' => e = .returned (.bool (provesW l (i, j, side))) ∧ Below W.heap.size W w' from fun W i j side hW hi hj => by
    have h2 := b1.trans (hW.mono b1.size)
    exact rproves_any b o cap i j side l W hi hj hl (hr.below h2 hb) (Nat.lt_of_lt_of_le hb h2.size) hbg)
  have HF := Lib.hid (show ∀ (p : List Wt) (x : Wt), (∀ y ∈ p, provesW l y = false) → p ++ [x] <+: wits l.length → provesW l x = true → firstV l = .tuple #[.agg #[.int .i64 (x.1 : Int), .int .i64 (x.2.1 : Int), .int .i64 x.2.2], .bool true] from fun p x h hp hx => firstV_some (first_found h hp hx))
  have HN := Lib.hid (show (∀ y ∈ wits l.length, provesW l y = false) → firstV l = .tuple #[.agg #[.int .i64 0, .int .i64 0, .int .i64 0], .bool false] from fun h => firstV_none (first_none h))
  clear a1 b1 hr hbg
  go_enter Tryz.func49, Tryz.ntmps49
  go_wp2_with fail
  generalize w.alloc (.cells (#[.int .i64 0, .int .i64 0, .int .i64 0]) 43 (0, 0)) = W1 at *
  go_loopw [4] (fun iv wr => ∃ i : Nat, iv = .int .i64 i ∧ i ≤ l.length ∧ Hid (∀ y ∈ p1 i, provesW l y = false) ∧ Below W1.heap.size W1 wr) (fun iv _ => l.length - (intOf iv).toNat)
  case atStart => exact ⟨0, rfl, Nat.zero_le _, Lib.hid (by simp [p1]), Below.refl _ _⟩
  case round =>
    obtain ⟨i, rfl, hi, hA, hn1⟩ := hrel
    by_cases hlt : i < l.length
    · have hn2 := hn1.alloc hn1.size (.cells #[.int .i64 i, .int .i64 i, .int .i64 0] 43 (0, 0))
      have HC := Lib.hid (CB.new wr #[.int .i64 i, .int .i64 i, .int .i64 0] 43)
      have M := Lib.hid (MP.out _ i i 0 hn2 hlt hlt)
      have HX := Lib.hid (show provesW l (i, i, 0) = false → ∀ y ∈ p1 (i + 1), provesW l y = false from fun h => by rw [p1_succ]; exact no_more hA.out h)
      have HY := Lib.hid (show provesW l (i, i, 0) = true → _ from fun h => HF.out (p1 i) (i, i, 0) hA.out (by rw [← p1_succ]; exact p1_pre _ _ hlt) h)
      generalize provesW l (i, i, 0) = r at *
      clear hn1 hA
      go_wp2_with fail
      generalize wr.alloc (.cells #[.int .i64 i, .int .i64 i, .int .i64 0] 43 (0, 0)) = w4 at *
      generalize wr.heap.size = g at *
      go_wp2_with fail
      with_reducible refine M.out.mono ?_
      rintro e w5 ⟨rfl, hb5⟩
      have hn3 := hn2.trans (hb5.mono hn2.size)
      cases r
      · have HZ := Lib.hid (HX.out rfl)
        go_wp2_with fail
        exact ⟨⟨i + 1, by simp, by omega, HZ, hn3⟩, by simp [intOf]; omega⟩
      · have HZ := Lib.hid (HY.out rfl)
        have hc := HC.out.below hb5 HC.out.lt
        have ha := HA.out.below hn3 HA.out.lt
        have hbw := HB.out.trans (hn3.mono HB.out.size)
        obtain ⟨r0, r1, r2⟩ := hc.cells3
        obtain ⟨z0, z1, z2⟩ := ha.cells3
        have y0 := ha.fr 0
        have y1 := ha.fr 1
        have y2 := ha.fr 2
        clear hn2 hn3 hb5
        go_wp2_with fail
        have h3 := ha.set3 (.int .i64 i) (.int .i64 i) (.int .i64 0)
        have hb8 := below_set3 (p := w.heap.size) hbw (Nat.le_refl _) (.int .i64 i) (.int .i64 i) (.int .i64 0)
        clear z0 z1 z2
        obtain ⟨z0, z1, z2⟩ := h3.cells3
        generalize ((w5.setCell ⟨w.heap.size, 0, none⟩ (.int .i64 i)).setCell ⟨w.heap.size, 1, none⟩ (.int .i64 i)).setCell ⟨w.heap.size, 2, none⟩ (.int .i64 0) = w9 at *
        refine bodyPost_ret (v := .tuple #[.agg #[.int .i64 i, .int .i64 i, .int .i64 0], .bool true]) (by simp [results, Tryz.results49, go_sem, z0, z1, z2, Result.andThen]) rfl ⟨ret_v HZ.out.symm, hb8⟩
    · have hn : i = l.length := by omega
      subst hn
      have HP0 := Lib.hid (show ∀ y ∈ p2 l.length 0, provesW l y = false by rw [p2_zero]; exact hA.out)
      clear hlt hi hA
      go_wp2_with fail
      go_loopw [6] (fun iv wr => ∃ i : Nat, iv = .int .i64 i ∧ i ≤ l.length ∧ Hid (∀ y ∈ p2 l.length i, provesW l y = false) ∧ Below W1.heap.size W1 wr) (fun iv _ => l.length - (intOf iv).toNat)
      case atStart => exact ⟨0, rfl, Nat.zero_le _, HP0, hn1⟩
      case round =>
        clear hn1 HP0
        obtain ⟨i, rfl, hi, hA, hn1⟩ := hrel
        by_cases hlt : i < l.length
        · go_wp2_with fail
          go_loopw [7] (fun jv wr => ∃ j : Nat, jv = .int .i64 j ∧ i + 1 ≤ j ∧ j ≤ l.length ∧ Hid (∀ y ∈ p3 l.length i j, provesW l y = false) ∧ Below W1.heap.size W1 wr) (fun jv _ => l.length - (intOf jv).toNat)
          case atStart => exact ⟨i + 1, by simp, Nat.le_refl _, by omega, Lib.hid (by rw [p3_start]; exact hA.out), hn1⟩
          case round =>
            clear hn1 hA
            obtain ⟨j, rfl, hij, hj, hA, hn1⟩ := hrel
            by_cases hlt2 : j < l.length
            · have hn2 := hn1.alloc hn1.size (.cells #[.int .i64 0, .int .i64 1, .int .i64 (-1)] 3 (0, 0))
              have HS := Lib.hid (CB.new wr #[.int .i64 0, .int .i64 1, .int .i64 (-1)] 3)
              go_wp2_with fail
              generalize wr.alloc (.cells #[.int .i64 0, .int .i64 1, .int .i64 (-1)] 3 (0, 0)) = w4 at *
              generalize wr.heap.size = g at *
              have HN2 := Lib.hid hn2
              clear hn2 hn1
              go_loopw [40] (fun kv wr => ∃ k : Nat, kv = .int .i64 k ∧ k ≤ 3 ∧ Hid (∀ y ∈ p4 l.length i j k, provesW l y = false) ∧ Below w4.heap.size w4 wr) (fun kv _ => 3 - (intOf kv).toNat)
              case atStart => exact ⟨0, rfl, Nat.zero_le _, Lib.hid (by rw [p4_zero]; exact hA.out), Below.refl _ _⟩
              case round =>
                clear hA
                obtain ⟨k, rfl, hk, hA, hn1⟩ := hrel
                by_cases hlt3 : k < 3
                · have hcell : wr.cell? ⟨g, k, none⟩ = some (.int .i64 (sd k)) := by
                    rw [(HS.out.below hn1 HS.out.lt).c]
                    rcases (show k = 0 ∨ k = 1 ∨ k = 2 by omega) with rfl | rfl | rfl <;> rfl
                  have HX := Lib.hid (show provesW l (i, j, sd k) = false → ∀ y ∈ p4 l.length i j (k + 1), provesW l y = false from fun h => by rw [p4_succ _ _ _ _ hlt3]; exact no_more hA.out h)
                  have HY := Lib.hid (show provesW l (i, j, sd k) = true → _ from fun h => HF.out (p4 l.length i j k) (i, j, sd k) hA.out (by rw [← p4_succ _ _ _ _ hlt3]; exact p4_pre _ _ _ _ hlt hij hlt2) h)
                  generalize sd k = s at *
                  have hn3 := HN2.out.trans (hn1.mono HN2.out.size)
                  have hn4 := hn1.alloc hn1.size (.cells #[.int .i64 i, .int .i64 j, .int .i64 s] 43 (0, 0))
                  have HC := Lib.hid (CB.new wr #[.int .i64 i, .int .i64 j, .int .i64 s] 43)
                  have M := Lib.hid (MP.out _ i j s (hn3.alloc hn3.size (.cells #[.int .i64 i, .int .i64 j, .int .i64 s] 43 (0, 0))) hlt hlt2)
                  generalize provesW l (i, j, s) = r at *
                  clear hn1 hA hn3
                  go_wp2_with fail
                  generalize wr.alloc (.cells #[.int .i64 i, .int .i64 j, .int .i64 s] 43 (0, 0)) = w6 at *
                  generalize wr.heap.size = gg at *
                  go_wp2_with fail
                  with_reducible refine M.out.mono ?_
                  rintro e w5 ⟨rfl, hb5⟩
                  have hn5 := hn4.trans (hb5.mono hn4.size)
                  cases r
                  · have HZ := Lib.hid (HX.out rfl)
                    go_wp2_with fail
                    exact ⟨⟨k + 1, by simp, by omega, HZ, hn5⟩, by simp [intOf]; omega⟩
                  · have HZ := Lib.hid (HY.out rfl)
                    have hc := HC.out.below hb5 HC.out.lt
                    have hn6 := HN2.out.trans (hn5.mono HN2.out.size)
                    have ha := HA.out.below hn6 HA.out.lt
                    have hbw := HB.out.trans (hn6.mono HB.out.size)
                    obtain ⟨r0, r1, r2⟩ := hc.cells3
                    obtain ⟨z0, z1, z2⟩ := ha.cells3
                    have y0 := ha.fr 0
                    have y1 := ha.fr 1
                    have y2 := ha.fr 2
                    clear hn4 hn5 hb5 hn6
                    go_wp2_with fail
                    have h3 := ha.set3 (.int .i64 i) (.int .i64 j) (.int .i64 s)
                    have hb8 := below_set3 (p := w.heap.size) hbw (Nat.le_refl _) (.int .i64 i) (.int .i64 j) (.int .i64 s)
                    clear z0 z1 z2
                    obtain ⟨z0, z1, z2⟩ := h3.cells3
                    generalize ((w5.setCell ⟨w.heap.size, 0, none⟩ (.int .i64 i)).setCell ⟨w.heap.size, 1, none⟩ (.int .i64 j)).setCell ⟨w.heap.size, 2, none⟩ (.int .i64 s) = w9 at *
                    refine bodyPost_ret (v := .tuple #[.agg #[.int .i64 i, .int .i64 j, .int .i64 s], .bool true]) (by simp [results, Tryz.results49, go_sem, z0, z1, z2, Result.andThen]) rfl ⟨ret_v HZ.out.symm, hb8⟩
                · have hk3 : k = 3 := by omega
                  subst hk3
                  have HZ := Lib.hid (show ∀ y ∈ p3 l.length i (j + 1), provesW l y = false by rw [← p4_end _ _ _ hij]; exact hA.out)
                  have hn5 := HN2.out.trans (hn1.mono HN2.out.size)
                  clear hn1 hA
                  go_wp2_with fail
                  exact ⟨⟨j + 1, by simp, by omega, by omega, HZ, hn5⟩, by simp [intOf]; omega⟩
            · have hn : j = l.length := by omega
              subst hn
              have HZ := Lib.hid (show ∀ y ∈ p2 l.length (i + 1), provesW l y = false by rw [← p3_end]; exact hA.out)
              clear hA
              go_wp2_with fail
              exact ⟨⟨i + 1, by simp, by omega, HZ, hn1⟩, by simp [intOf]; omega⟩
        · have hn : i = l.length := by omega
          subst hn
          have HZ := Lib.hid (HN.out hA.out)
          have ha := HA.out.below hn1 HA.out.lt
          have hbw := HB.out.trans (hn1.mono HB.out.size)
          obtain ⟨z0, z1, z2⟩ := ha.cells3
          have y0 := ha.fr 0
          have y1 := ha.fr 1
          have y2 := ha.fr 2
          clear hn1 hA
          go_wp2_with fail
          have h3 := ha.set3 (.int .i64 0) (.int .i64 0) (.int .i64 0)
          have hb8 := below_set3 (p := w.heap.size) hbw (Nat.le_refl _) (.int .i64 0) (.int .i64 0) (.int .i64 0)
          clear z0 z1 z2
          obtain ⟨z0, z1, z2⟩ := h3.cells3
          generalize ((wr.setCell ⟨w.heap.size, 0, none⟩ (.int .i64 0)).setCell ⟨w.heap.size, 1, none⟩ (.int .i64 0)).setCell ⟨w.heap.size, 2, none⟩ (.int .i64 0) = w9 at *
          refine bodyPost_ret (v := .tuple #[.agg #[.int .i64 0, .int .i64 0, .int .i64 0], .bool false]) (by simp [results, Tryz.results49, go_sem, z0, z1, z2, Result.andThen]) rfl ⟨ret_v HZ.out.symm, hb8⟩
end Go.Proofs.YtbdckemkmocdlaaGreatDoor

/- Common: errors of both, the reference's result; back and sent. -/
namespace Go.Proofs.YtbdckemkmocdlaaGreatDoor
open Go.RowKit

attribute [local irreducible] sI sQ


set_option maxRecDepth 100000 in
set_option maxHeartbeats 2000000 in
theorem dcommon_err (v : Value) (n : Int) (hn : n ≠ 0) (w : World) (HL : ∀ W, Below w.heap.size w W → Calls Tryz.prog 46 #[v] W fun e w' => e = .returned (.int .i64 n) ∧ Below W.heap.size W w') :
    Calls Tryz.prog 17 #[v] w fun e w' => e = .returned (.tuple #[.bool false, wZ, .int .i64 n]) ∧ Below w.heap.size w w' := by
  have b1 := (Below.refl w.heap.size w).alloc (Nat.le_refl _) (.cells wZc 40 (0, 0))
  have a1 := CB.new w wZc 40
  have ML := Lib.hid (HL _ b1)
  have HA := Lib.hid a1
  have HB := Lib.hid b1
  have t0 : (n == 0) = false := by simpa using hn
  clear b1 a1 HL hn
  go_enter Tryz.func17, Tryz.ntmps17
  go_wp2_with fail
  generalize w.alloc (.cells wZc 40 (0, 0)) = W1 at *
  refine ML.out.mono ?_
  rintro e w2 ⟨rfl, hb2⟩
  have hb3 := HB.out.trans (hb2.mono HB.out.size)
  have ha := HA.out.below hb2 HA.out.lt
  obtain ⟨z0, z1, z2⟩ := ha.cells3
  have y0 := ha.fr 0
  have y1 := ha.fr 1
  have y2 := ha.fr 2
  clear hb2
  go_wp2_with fail
  have h3 := ha.set3 (.int .i64 0) (.int .i64 0) (.int .i64 0)
  have hb8 := below_set3 (p := w.heap.size) hb3 (Nat.le_refl _) (.int .i64 0) (.int .i64 0) (.int .i64 0)
  clear z0 z1 z2
  obtain ⟨z0, z1, z2⟩ := h3.cells3
  generalize ((w2.setCell ⟨w.heap.size, 0, none⟩ (.int .i64 0)).setCell ⟨w.heap.size, 1, none⟩ (.int .i64 0)).setCell ⟨w.heap.size, 2, none⟩ (.int .i64 0) = w9 at *
  refine bodyPost_ret (v := .tuple #[.bool false, wZ, .int .i64 n]) (by simp [results, Tryz.results17, go_sem, z0, z1, z2, Result.andThen]) rfl ⟨rfl, hb8⟩

set_option maxRecDepth 100000 in
set_option maxHeartbeats 2000000 in
theorem rcommon_err (v : Value) (n : Int) (hn : n ≠ 0) (w : World) (HL : ∀ W, Below w.heap.size w W → Calls Tryz.prog 48 #[v] W fun e w' => e = .returned (.int .i64 n) ∧ Below W.heap.size W w') :
    Calls Tryz.prog 18 #[v] w fun e w' => e = .returned (.tuple #[.bool false, wZ, .int .i64 n]) ∧ Below w.heap.size w w' := by
  have b1 := (Below.refl w.heap.size w).alloc (Nat.le_refl _) (.cells wZc 43 (0, 0))
  have a1 := CB.new w wZc 43
  have ML := Lib.hid (HL _ b1)
  have HA := Lib.hid a1
  have HB := Lib.hid b1
  have t0 : (n == 0) = false := by simpa using hn
  clear b1 a1 HL hn
  go_enter Tryz.func18, Tryz.ntmps18
  go_wp2_with fail
  generalize w.alloc (.cells wZc 43 (0, 0)) = W1 at *
  refine ML.out.mono ?_
  rintro e w2 ⟨rfl, hb2⟩
  have hb3 := HB.out.trans (hb2.mono HB.out.size)
  have ha := HA.out.below hb2 HA.out.lt
  obtain ⟨z0, z1, z2⟩ := ha.cells3
  have y0 := ha.fr 0
  have y1 := ha.fr 1
  have y2 := ha.fr 2
  clear hb2
  go_wp2_with fail
  have h3 := ha.set3 (.int .i64 0) (.int .i64 0) (.int .i64 0)
  have hb8 := below_set3 (p := w.heap.size) hb3 (Nat.le_refl _) (.int .i64 0) (.int .i64 0) (.int .i64 0)
  clear z0 z1 z2
  obtain ⟨z0, z1, z2⟩ := h3.cells3
  generalize ((w2.setCell ⟨w.heap.size, 0, none⟩ (.int .i64 0)).setCell ⟨w.heap.size, 1, none⟩ (.int .i64 0)).setCell ⟨w.heap.size, 2, none⟩ (.int .i64 0) = w9 at *
  refine bodyPost_ret (v := .tuple #[.bool false, wZ, .int .i64 n]) (by simp [results, Tryz.results18, go_sem, z0, z1, z2, Result.andThen]) rfl ⟨rfl, hb8⟩

set_option maxRecDepth 100000 in
set_option maxHeartbeats 4000000 in
theorem rcommon_ok (b o cap : Nat) (l : List QD) (w : World) (hl : l.length ≤ 1000000) (hs : ∀ d ∈ l.map QD.t, d.short) (hr : QRow w b o l) (hb : b < w.heap.size) (hc : chkL (l.map QD.t) = 0) (hbg : ∀ d ∈ l, Bg d) :
    Calls Tryz.prog 18 #[.slice (some ⟨b, o, none⟩) l.length cap] w fun e w' =>
      e = .returned (.tuple #[.bool (firstQ l).isSome, .agg #[.int .i64 (firstW l).1, .int .i64 (firstW l).2.1, .int .i64 (firstW l).2.2], .int .i64 0]) ∧ Below w.heap.size w w' := by
  have b1 := (Below.refl w.heap.size w).alloc (Nat.le_refl _) (.cells wZc 43 (0, 0))
  have a1 := CB.new w wZc 43
  have HL := Lib.hid (rlist_any b o cap (l.map QD.t) _ (by simpa using hl) hs (hr.below b1 hb) (Nat.lt_of_lt_of_le hb b1.size))
  rw [List.length_map, hc] at HL
  have HR := Lib.hid hr
  have HBG := Lib.hid hbg
  have HV := Lib.hid (firstV_eq l)
  have HA := Lib.hid a1
  have HB := Lib.hid b1
  clear b1 a1 hr hbg hs hc
  go_enter Tryz.func18, Tryz.ntmps18
  go_wp2_with fail
  generalize w.alloc (.cells wZc 43 (0, 0)) = W1 at *
  refine HL.out.mono ?_
  rintro e w2 ⟨rfl, hb2⟩
  have hb3 := HB.out.trans (hb2.mono HB.out.size)
  have M := Lib.hid (rfirst_any b o cap l w2 hl (HR.out.below hb3 hb) (Nat.lt_of_lt_of_le hb hb3.size) HBG.out)
  rw [HV.out] at M
  have HX4 := Lib.hid hb2
  have HB4 := Lib.hid hb3
  generalize hfw : firstW l = fw at *
  generalize hfq : (firstQ l).isSome = fq at *
  have HFW := Lib.hid hfw
  have HFQ := Lib.hid hfq
  clear hb3 hb2 hfw hfq HL HV
  go_wp2_with fail
  refine M.out.mono ?_
  rintro e w5 ⟨rfl, hb5⟩
  have g5 := (HA.out.below HX4.out HA.out.lt).below hb5 (Nat.lt_of_lt_of_le HA.out.lt HX4.out.size)
  have q5 := g5.alloc (.cells #[.int .i64 fw.1, .int .i64 fw.2.1, .int .i64 fw.2.2] 43 (0, 0))
  have hb6 := HB4.out.trans (hb5.mono HB4.out.size)
  have hb7 := hb6.alloc hb6.size (.cells #[.int .i64 fw.1, .int .i64 fw.2.1, .int .i64 fw.2.2] 43 (0, 0))
  have n5 := CB.new w5 #[.int .i64 fw.1, .int .i64 fw.2.1, .int .i64 fw.2.2] 43
  obtain ⟨z0, z1, z2⟩ := q5.cells3
  have y0 := q5.fr 0
  have y1 := q5.fr 1
  have y2 := q5.fr 2
  obtain ⟨x0, x1, x2⟩ := n5.cells3
  have Q5 := Lib.hid q5
  have HB7 := Lib.hid hb7
  clear g5 q5 hb6 hb7 n5
  have hgx : w.heap.size < w5.heap.size := by
    have e1 := HA.out.lt
    have e2 := HX4.out.size
    have e3 := hb5.size
    omega
  go_wp2_with fail
  generalize w5.alloc (.cells #[.int .i64 fw.1, .int .i64 fw.2.1, .int .i64 fw.2.2] 43 (0, 0)) = w6 at *
  go_region
  have h5 := Q5.out.set3 (.int .i64 fw.1) (.int .i64 fw.2.1) (.int .i64 fw.2.2)
  have hb8 := below_set3 (p := w.heap.size) HB7.out (Nat.le_refl _) (.int .i64 fw.1) (.int .i64 fw.2.1) (.int .i64 fw.2.2)
  clear z0 z1 z2
  obtain ⟨z0, z1, z2⟩ := h5.cells3
  generalize ((w6.setCell ⟨w.heap.size, 0, none⟩ (.int .i64 fw.1)).setCell ⟨w.heap.size, 1, none⟩ (.int .i64 fw.2.1)).setCell ⟨w.heap.size, 2, none⟩ (.int .i64 fw.2.2) = w9 at *
  go_wp2_with fail
  refine bodyPost_ret (v := .tuple #[.bool fq, .agg #[.int .i64 fw.1, .int .i64 fw.2.1, .int .i64 fw.2.2], .int .i64 0]) (by simp [results, Tryz.results18, go_sem, z0, z1, z2, Result.andThen]) rfl ⟨by rw [HFW.out, HFQ.out], hb8.drew⟩

set_option maxRecDepth 100000 in
set_option maxHeartbeats 2000000 in
theorem back_any (i j k : Int) (w : World) :
    Calls Tryz.prog 19 #[.agg #[.int .i64 i, .int .i64 j, .int .i64 k]] w fun e w' => e = .returned (.agg #[.int .i64 i, .int .i64 j, .int .i64 k]) ∧ Below w.heap.size w w' := by
  obtain ⟨b2, _, a2⟩ := blocks2 w #[.int .i64 i, .int .i64 j, .int .i64 k] #[.int .i64 i, .int .i64 j, .int .i64 k] 40 43
  obtain ⟨z0, z1, z2⟩ := a2.cells3
  go_enter Tryz.func19, Tryz.ntmps19
  go_wp2_with fail
  refine bodyPost_ret (v := .agg #[.int .i64 i, .int .i64 j, .int .i64 k]) (by simp [results, Tryz.results19, go_sem, z0, z1, z2, Result.andThen]) rfl ⟨rfl, b2⟩

set_option maxRecDepth 100000 in
set_option maxHeartbeats 2000000 in
theorem sent_any (i j k : Int) (w : World) :
    Calls Tryz.prog 23 #[.agg #[.int .i64 i, .int .i64 j, .int .i64 k]] w fun e w' => e = .returned (.agg #[.int .i64 i, .int .i64 j, .int .i64 k]) ∧ Below w.heap.size w w' := by
  obtain ⟨b2, _, a2⟩ := blocks2 w #[.int .i64 i, .int .i64 j, .int .i64 k] #[.int .i64 i, .int .i64 j, .int .i64 k] 43 40
  obtain ⟨z0, z1, z2⟩ := a2.cells3
  go_enter Tryz.func23, Tryz.ntmps23
  go_wp2_with fail
  refine bodyPost_ret (v := .agg #[.int .i64 i, .int .i64 j, .int .i64 k]) (by simp [results, Tryz.results23, go_sem, z0, z1, z2, Result.andThen]) rfl ⟨rfl, b2⟩

/-- discs of short texts without an error are right ones of short numbers -/
theorem good_list {l : List TD} (hs : ∀ d ∈ l, short12 d.x d.y d.q = true) (hc : chkL l = 0) : ∃ L : List QD, l = L.map QD.t ∧ (∀ d ∈ L, Bg d) ∧ L ≠ [] := by
  unfold chkL at hc
  split at hc
  · cases hc
  have hall : ∀ d ∈ l, chkT d = 0 := by
    intro d hd
    apply Classical.byContradiction
    intro hne
    split at hc
    · rename_i e hf
      have := List.find?_some hf
      rw [hc] at this
      simp at this
    · rename_i hf
      rw [List.find?_eq_none] at hf
      exact hf d hd (by simpa using hne)
  have hne : l ≠ [] := by
    intro e
    subst e
    simp at hc
  have key : ∀ m : List TD, (∀ d ∈ m, short12 d.x d.y d.q = true) → (∀ d ∈ m, chkT d = 0) → ∃ L : List QD, m = L.map QD.t ∧ ∀ d ∈ L, Bg d := by
    intro m
    induction m with
    | nil => intro _ _; exact ⟨[], rfl, fun d hd => by cases hd⟩
    | cons a m ih =>
      intro h1 h2
      obtain ⟨L, e, hL⟩ := ih (fun d hd => h1 d (List.mem_cons_of_mem _ hd)) (fun d hd => h2 d (List.mem_cons_of_mem _ hd))
      have ha := h2 a List.mem_cons_self
      rcases short_cases (h1 a List.mem_cons_self) with h | ⟨x, y, q, e1, e2, e3, hq, hsh⟩
      · exact absurd ha h
      · refine ⟨⟨x, y, q⟩ :: L, ?_, ?_⟩
        · rw [List.map_cons, ← e]
          congr 1
          obtain ⟨ax, ay, aq⟩ := a
          simp only at e1 e2 e3
          subst e1 e2 e3
          rfl
        · intro d hd
          rcases List.mem_cons.1 hd with rfl | hd
          · exact ⟨hsh.x, hsh.y, hsh.s.mono (by omega) (by omega), hq⟩
          · exact hL d hd
  obtain ⟨L, e, hL⟩ := key l hs hall
  exact ⟨L, e, hL, fun h => hne (by rw [e, h]; rfl)⟩
end Go.Proofs.YtbdckemkmocdlaaGreatDoor

/- the law DiscsMeet. -/
namespace Go.Proofs.YtbdckemkmocdlaaGreatDoor
open Go.RowKit

attribute [local irreducible] sI sQ

/-- both sides answer alike -/
theorem common_both (w : World) (v : Value) (l : List TD) (hS : SL w v l) (hf : fewT l = true) : ∃ (r : Bool) (i j s n : Int),
    (∀ W, Below w.heap.size w W → Env W → Calls Tryz.prog 17 #[v] W fun e w' => e = .returned (.tuple #[.bool r, .agg #[.int .i64 i, .int .i64 j, .int .i64 s], .int .i64 n]) ∧ Below W.heap.size W w') ∧
    (∀ W, Below w.heap.size w W → Calls Tryz.prog 18 #[v] W fun e w' => e = .returned (.tuple #[.bool r, .agg #[.int .i64 i, .int .i64 j, .int .i64 s], .int .i64 n]) ∧ Below W.heap.size W w') := by
  obtain ⟨hl, hfew⟩ := few_cases hf
  by_cases hc : chkL l = 0
  · have h64 : l.length ≤ 64 := by
      apply Classical.byContradiction
      intro h
      rw [chkL_many (by omega)] at hc; cases hc
    obtain ⟨h12, h5, hsh⟩ := hfew h64
    obtain ⟨L, rfl, hbg, hne⟩ := good_list h12 hc
    rcases hS with ⟨_, _, _, h⟩ | ⟨b, o, cap, rfl, hb, hr⟩
    · exact absurd (List.map_eq_nil_iff.1 h) hne
    · rw [List.length_map] at hl ⊢
      refine ⟨(firstQ L).isSome, (firstW L).1, (firstW L).2.1, (firstW L).2.2, 0, fun W hW he => ?_, fun W hW => ?_⟩
      · exact dcommon_ok b o cap L W hl hsh (DRow.below hr hW hb) (Nat.lt_of_lt_of_le hb hW.size) hc (fun x _ => bg_prove hbg _ _ _) he
      · exact rcommon_ok b o cap L W hl hsh (DRow.below hr hW hb) (Nat.lt_of_lt_of_le hb hW.size) hc hbg
  · exact ⟨false, 0, 0, 0, chkL l, fun W hW he => dcommon_err v (chkL l) hc W (fun W' hW' => dlistS v l W' (hS.below (hW.trans (hW'.mono hW.size))) hl (fun h => (hfew h).2.2) (he.below hW')),
      fun W hW => rcommon_err v (chkL l) hc W (fun W' hW' => rlistS v l W' (hS.below (hW.trans (hW'.mono hW.size))) hl (fun h => (hfew h).2.2))⟩


set_option maxRecDepth 100000 in
set_option maxHeartbeats 2000000 in
theorem lawMeet_any (v : Value) (l : List TD) (w : World) (hS : SL w v l) (hl : l.length ≤ 9223372036854775807) (he : Env w) :
    Calls Tryz.prog 4 #[v] w fun e w' => e = .returned (.bool true) ∧ Below w.heap.size w w' := by
  have KE := Lib.hid (show ∀ W, Below w.heap.size w W → Env W from fun W hW => he.below hW)
  have M1 := Lib.hid (rfewS v l w hS hl)
  have MB := Lib.hid (fun (h : fewT l = true) => common_both w v l hS h)
  have MW := Lib.hid (fun W hW => awake_any W (KE.out W hW))
  clear he hS
  go_enter Tryz.func4, Tryz.ntmps4
  go_wp2_with fail
  refine M1.out.mono ?_
  rintro e w1 ⟨rfl, hb1⟩
  by_cases hs : fewT l = true
  · obtain ⟨r, i, j, s, n, hA, hB⟩ := MB.out hs
    have MA := Lib.hid hA
    have MR := Lib.hid hB
    rw [hs]
    clear MB M1 hA hB hs
    go_wp2_with fail
    refine (MA.out _ hb1 (KE.out _ hb1)).mono ?_
    rintro e w2 ⟨rfl, hb2⟩
    have hb3 := hb1.trans (hb2.mono hb1.size)
    have HG := Lib.hid (CB.new w2 (#[.int .i64 i, .int .i64 j, .int .i64 s]) 40)
    have hb4 := hb3.alloc hb3.size (.cells (#[.int .i64 i, .int .i64 j, .int .i64 s]) 40 (0, 0))
    clear hb1 hb2 hb3
    go_wp2_with fail
    generalize w2.alloc (.cells (#[.int .i64 i, .int .i64 j, .int .i64 s]) 40 (0, 0)) = w3 at *
    generalize w2.heap.size = g at *
    refine (MR.out _ hb4).mono ?_
    rintro e w4 ⟨rfl, hb5⟩
    have hb6 := hb4.trans (hb5.mono hb4.size)
    have HK := Lib.hid (CB.new w4 (#[.int .i64 i, .int .i64 j, .int .i64 s]) 43)
    have HG2 := Lib.hid ((HG.out.below hb5 HG.out.lt).alloc (.cells (#[.int .i64 i, .int .i64 j, .int .i64 s]) 43 (0, 0)))
    have hb7 := hb6.alloc hb6.size (.cells (#[.int .i64 i, .int .i64 j, .int .i64 s]) 43 (0, 0))
    clear hb4 hb5 hb6 HG MA MR
    go_wp2_with fail
    generalize w4.alloc (.cells (#[.int .i64 i, .int .i64 j, .int .i64 s]) 43 (0, 0)) = w5 at *
    generalize w4.heap.size = k at *
    have HB7 := Lib.hid hb7
    have KS := Lib.hid (show ∀ W, Below w5.heap.size w5 W → (W.cell? ⟨g, 0, none⟩ = some (.int .i64 i) ∧ W.cell? ⟨g, 1, none⟩ = some (.int .i64 j) ∧ W.cell? ⟨g, 2, none⟩ = some (.int .i64 s) ∧ W.cell? ⟨k, 0, none⟩ = some (.int .i64 i) ∧ W.cell? ⟨k, 1, none⟩ = some (.int .i64 j) ∧ W.cell? ⟨k, 2, none⟩ = some (.int .i64 s)) ∧ (Below w5.heap.size w5 W ∧ Below w.heap.size w W) from fun W hW => by
      have e1 := HG2.out.below hW HG2.out.lt
      have e2 := HK.out.below hW HK.out.lt
      exact ⟨⟨e1.c 0, e1.c 1, e1.c 2, e2.c 0, e2.c 1, e2.c 2⟩, hW, HB7.out.trans (hW.mono HB7.out.size)⟩)
    clear hb7
    have MK := Lib.hid (fun W => back_any i j s W)
    have t1 : (r == r) = true := by simp
    have t2 : (n == n) = true := by simp
    have t3 : (i == i) = true := by simp
    have t4 : (j == j) = true := by simp
    have t5 : (s == s) = true := by simp
    go_region_held3 (fun W => (W.cell? ⟨g, 0, none⟩ = some (.int .i64 i) ∧ W.cell? ⟨g, 1, none⟩ = some (.int .i64 j) ∧ W.cell? ⟨g, 2, none⟩ = some (.int .i64 s) ∧ W.cell? ⟨k, 0, none⟩ = some (.int .i64 i) ∧ W.cell? ⟨k, 1, none⟩ = some (.int .i64 j) ∧ W.cell? ⟨k, 2, none⟩ = some (.int .i64 s)) ∧ (Below w5.heap.size w5 W ∧ Below w.heap.size w W))
      ((refine KS.out _ ?_; first | exact (Below.refl _ _).drew | assumption))
      (first | (go_at_call 11; have hh := ‹(_ ∧ _) ∧ (_ ∧ Below w.heap.size w _)›; with_reducible refine (MW.out _ hh.2.2).mono ?_; rintro e w1 ⟨rfl, hb1⟩; have hb2 := hh.2.1.trans (hb1.mono hh.2.1.size)) | (go_at_call 19; have hh := ‹(_ ∧ _) ∧ (_ ∧ Below w.heap.size w _)›; with_reducible refine (MK.out _).mono ?_; rintro e w1 ⟨rfl, hb1⟩; have hb2 := hh.2.1.trans (hb1.mono hh.2.1.size)))
    obtain ⟨_, _, hb3⟩ := KS.out _ hb2
    go_wp2_with fail
    go_ret
    exact ⟨rfl, hb3⟩
  · rw [Bool.not_eq_true] at hs
    rw [hs]
    clear MB M1 hs
    go_wp2_with fail
    refine (MW.out _ hb1).mono ?_
    rintro e w7 ⟨rfl, hb7⟩
    go_wp2_with fail
    go_ret
    exact ⟨rfl, hb1.trans (hb7.mono hb1.size)⟩
end Go.Proofs.YtbdckemkmocdlaaGreatDoor

/- Verify: both. -/
import Derived.Test.YtbdckemkmocdlaaGreatDoorZ37
import Derived.Test.YtbdckemkmocdlaaGreatDoorZ29
import Derived.Test.YtbdckemkmocdlaaGreatDoorZ36
set_option linter.all false
set_option exponentiation.threshold 2000000
namespace Go.Proofs.YtbdckemkmocdlaaGreatDoor
open Go.RowKit

attribute [local irreducible] sI sQ

/-- the number of the error of a witness's indices -/
def witE (n : Nat) (i j s : Int) : Int :=
  if i < 0 ∨ (n : Int) ≤ i ∨ j < 0 ∨ (n : Int) ≤ j then 2 else if j < i then 9 else if s < -1 ∨ 1 < s then 1 else 0


set_option maxRecDepth 100000 in
set_option maxHeartbeats 2000000 in
theorem dverify_err (v : Value) (n : Int) (hn : n ≠ 0) (i j s : Int) (w : World) (HL : ∀ W, Below w.heap.size w W → Calls Tryz.prog 46 #[v] W fun e w' => e = .returned (.int .i64 n) ∧ Below W.heap.size W w') :
    Calls Tryz.prog 22 #[v, .agg (#[.int .i64 i, .int .i64 j, .int .i64 s])] w fun e w' => e = .returned (.tuple #[.bool false, .int .i64 n]) ∧ Below w.heap.size w w' := by
  have b1 := (Below.refl w.heap.size w).alloc (Nat.le_refl _) (.cells (#[.int .i64 i, .int .i64 j, .int .i64 s]) 40 (0, 0))
  have ML := Lib.hid (HL _ b1)
  have HB := Lib.hid b1
  have t0 : (n == 0) = false := by simpa using hn
  clear b1 HL hn
  go_enter Tryz.func22, Tryz.ntmps22
  go_wp2_with fail
  generalize w.alloc (.cells (#[.int .i64 i, .int .i64 j, .int .i64 s]) 40 (0, 0)) = W1 at *
  refine ML.out.mono ?_
  rintro e w2 ⟨rfl, hb2⟩
  go_wp2_with fail
  go_ret2
  exact ⟨rfl, HB.out.trans (hb2.mono HB.out.size)⟩
set_option maxRecDepth 100000 in
set_option maxHeartbeats 2000000 in
theorem rverify_err (v : Value) (n : Int) (hn : n ≠ 0) (i j s : Int) (w : World) (HL : ∀ W, Below w.heap.size w W → Calls Tryz.prog 48 #[v] W fun e w' => e = .returned (.int .i64 n) ∧ Below W.heap.size W w') :
    Calls Tryz.prog 24 #[v, .agg (#[.int .i64 i, .int .i64 j, .int .i64 s])] w fun e w' => e = .returned (.tuple #[.bool false, .int .i64 n]) ∧ Below w.heap.size w w' := by
  have b1 := (Below.refl w.heap.size w).alloc (Nat.le_refl _) (.cells (#[.int .i64 i, .int .i64 j, .int .i64 s]) 43 (0, 0))
  have ML := Lib.hid (HL _ b1)
  have HB := Lib.hid b1
  have t0 : (n == 0) = false := by simpa using hn
  clear b1 HL hn
  go_enter Tryz.func24, Tryz.ntmps24
  go_wp2_with fail
  generalize w.alloc (.cells (#[.int .i64 i, .int .i64 j, .int .i64 s]) 43 (0, 0)) = W1 at *
  refine ML.out.mono ?_
  rintro e w2 ⟨rfl, hb2⟩
  go_wp2_with fail
  go_ret2
  exact ⟨rfl, HB.out.trans (hb2.mono HB.out.size)⟩

/-- the first error of the indices, test by test -/
inductive WitCase (n : Nat) (i j s : Int) : Int → Prop
  | a : i < 0 → WitCase n i j s 2
  | b : ¬ i < 0 → (n : Int) ≤ i → WitCase n i j s 2
  | c : ¬ i < 0 → ¬ (n : Int) ≤ i → j < 0 → WitCase n i j s 2
  | d : ¬ i < 0 → ¬ (n : Int) ≤ i → ¬ j < 0 → (n : Int) ≤ j → WitCase n i j s 2
  | e : ¬ i < 0 → ¬ (n : Int) ≤ i → ¬ j < 0 → ¬ (n : Int) ≤ j → j < i → WitCase n i j s 9
  | f : ¬ i < 0 → ¬ (n : Int) ≤ i → ¬ j < 0 → ¬ (n : Int) ≤ j → ¬ j < i → s < -1 → WitCase n i j s 1
  | g : ¬ i < 0 → ¬ (n : Int) ≤ i → ¬ j < 0 → ¬ (n : Int) ≤ j → ¬ j < i → ¬ s < -1 → 1 < s → WitCase n i j s 1
theorem wit_case {n : Nat} {i j s : Int} (h : witE n i j s ≠ 0) : WitCase n i j s (witE n i j s) := by
  by_cases h1 : i < 0
  · rw [show witE n i j s = 2 from if_pos (.inl h1)]; exact .a h1
  by_cases h2 : (n : Int) ≤ i
  · rw [show witE n i j s = 2 from if_pos (.inr (.inl h2))]; exact .b h1 h2
  by_cases h3 : j < 0
  · rw [show witE n i j s = 2 from if_pos (.inr (.inr (.inl h3)))]; exact .c h1 h2 h3
  by_cases h4 : (n : Int) ≤ j
  · rw [show witE n i j s = 2 from if_pos (.inr (.inr (.inr h4)))]; exact .d h1 h2 h3 h4
  have hx : ¬ (i < 0 ∨ (n : Int) ≤ i ∨ j < 0 ∨ (n : Int) ≤ j) := by omega
  by_cases h5 : j < i
  · rw [show witE n i j s = 9 by unfold witE; rw [if_neg hx, if_pos h5]]; exact .e h1 h2 h3 h4 h5
  by_cases h6 : s < -1
  · rw [show witE n i j s = 1 by unfold witE; rw [if_neg hx, if_neg h5, if_pos (.inl h6)]]; exact .f h1 h2 h3 h4 h5 h6
  by_cases h7 : 1 < s
  · rw [show witE n i j s = 1 by unfold witE; rw [if_neg hx, if_neg h5, if_pos (.inr h7)]]; exact .g h1 h2 h3 h4 h5 h6 h7
  · exact absurd (by unfold witE; rw [if_neg hx, if_neg h5, if_neg (by omega)]) h

theorem wit_ok {n : Nat} {i j s : Int} (h : witE n i j s = 0) : 0 ≤ i ∧ i < n ∧ 0 ≤ j ∧ j < n ∧ i ≤ j ∧ -1 ≤ s ∧ s ≤ 1 := by
  unfold witE at h
  split at h
  · cases h
  split at h
  · cases h
  split at h
  · cases h
  omega

set_option maxRecDepth 100000 in
set_option maxHeartbeats 4000000 in
theorem dverify_out (a : Option Addr) (m cap : Nat) (i j s : Int) (w : World) (hw : witE m i j s ≠ 0) (HL : ∀ W, Below w.heap.size w W → Calls Tryz.prog 46 #[.slice a m cap] W fun e w' => e = .returned (.int .i64 0) ∧ Below W.heap.size W w') :
    Calls Tryz.prog 22 #[.slice a m cap, .agg (#[.int .i64 i, .int .i64 j, .int .i64 s])] w fun e w' => e = .returned (.tuple #[.bool false, .int .i64 (witE m i j s)]) ∧ Below w.heap.size w w' := by
  have b1 := (Below.refl w.heap.size w).alloc (Nat.le_refl _) (.cells (#[.int .i64 i, .int .i64 j, .int .i64 s]) 40 (0, 0))
  have a1 := CB.new w (#[.int .i64 i, .int .i64 j, .int .i64 s]) 40
  have ML := Lib.hid (HL _ b1)
  have HB := Lib.hid b1
  have HA := Lib.hid a1
  have HC := Lib.hid (wit_case hw)
  generalize witE m i j s = q at *
  clear b1 a1 HL hw
  go_enter Tryz.func22, Tryz.ntmps22
  go_wp2_with fail
  generalize w.alloc (.cells (#[.int .i64 i, .int .i64 j, .int .i64 s]) 40 (0, 0)) = W1 at *
  refine ML.out.mono ?_
  rintro e w2 ⟨rfl, hb2⟩
  have hb3 := HB.out.trans (hb2.mono HB.out.size)
  obtain ⟨r0, r1, r2⟩ := (HA.out.below hb2 HA.out.lt).cells3
  have HCC := HC.out
  clear HC hb2
  cases HCC
  all_goals
    go_wp2_with fail
    go_ret2
    exact ⟨rfl, hb3⟩

set_option maxRecDepth 100000 in
set_option maxHeartbeats 4000000 in
theorem rverify_out (a : Option Addr) (m cap : Nat) (i j s : Int) (w : World) (hw : witE m i j s ≠ 0) (HL : ∀ W, Below w.heap.size w W → Calls Tryz.prog 48 #[.slice a m cap] W fun e w' => e = .returned (.int .i64 0) ∧ Below W.heap.size W w') :
    Calls Tryz.prog 24 #[.slice a m cap, .agg (#[.int .i64 i, .int .i64 j, .int .i64 s])] w fun e w' => e = .returned (.tuple #[.bool false, .int .i64 (witE m i j s)]) ∧ Below w.heap.size w w' := by
  have b1 := (Below.refl w.heap.size w).alloc (Nat.le_refl _) (.cells (#[.int .i64 i, .int .i64 j, .int .i64 s]) 43 (0, 0))
  have a1 := CB.new w (#[.int .i64 i, .int .i64 j, .int .i64 s]) 43
  have ML := Lib.hid (HL _ b1)
  have HB := Lib.hid b1
  have HA := Lib.hid a1
  have HC := Lib.hid (wit_case hw)
  generalize witE m i j s = q at *
  clear b1 a1 HL hw
  go_enter Tryz.func24, Tryz.ntmps24
  go_wp2_with fail
  generalize w.alloc (.cells (#[.int .i64 i, .int .i64 j, .int .i64 s]) 43 (0, 0)) = W1 at *
  refine ML.out.mono ?_
  rintro e w2 ⟨rfl, hb2⟩
  have hb3 := HB.out.trans (hb2.mono HB.out.size)
  have c2 := HA.out.below hb2 HA.out.lt
  obtain ⟨r0, r1, r2⟩ := c2.cells3
  have hb4 := hb3.alloc hb3.size (.cells #[.int .i64 i, .int .i64 j] 3 (0, 0))
  have n4 := CB.new w2 #[.int .i64 i, .int .i64 j] 3
  have c4 := c2.alloc (.cells #[.int .i64 i, .int .i64 j] 3 (0, 0))
  have HCC := HC.out
  clear HC hb2
  go_wp2_with fail
  generalize w2.alloc (.cells #[.int .i64 i, .int .i64 j] 3 (0, 0)) = w4 at *
  generalize w2.heap.size = g at *
  clear r0 r1 r2
  obtain ⟨r0, r1, r2⟩ := c4.cells3
  obtain ⟨x0, x1⟩ := n4.cells2
  have XB := Lib.hid n4
  have CB4 := Lib.hid c4
  have HB4 := Lib.hid hb4
  clear x0 x1 r0 r1 r2 n4 c4 hb4 c2
  go_loopw [20] (fun iv wr => ∃ k : Nat, iv = .int .i64 k ∧ k ≤ 2 ∧ Hid ((1 ≤ k → ¬ i < 0 ∧ ¬ (m : Int) ≤ i) ∧ (2 ≤ k → ¬ j < 0 ∧ ¬ (m : Int) ≤ j)) ∧ Below w4.heap.size w4 wr) (fun iv _ => 3 - (intOf iv).toNat)
  case atStart => exact ⟨0, rfl, Nat.zero_le _, Lib.hid ⟨fun h => by omega, fun h => by omega⟩, Below.refl _ _⟩
  case round =>
    obtain ⟨k, rfl, hk, hh, hn⟩ := hrel
    obtain ⟨r0, r1, r2⟩ := (CB4.out.below hn CB4.out.lt).cells3
    obtain ⟨x0, x1⟩ := (XB.out.below hn XB.out.lt).cells2
    have hb5 := HB4.out.trans (hn.mono HB4.out.size)
    have h1 := hh.out.1
    have h2 := hh.out.2
    rcases (show k = 0 ∨ k = 1 ∨ k = 2 by omega) with rfl | rfl | rfl
    · clear h1 h2 hh
      by_cases q1 : i < 0
      · cases HCC <;> first | (exfalso; omega) | (go_wp2_with fail; go_ret2; exact ⟨rfl, hb5⟩)
      · by_cases q2 : (m : Int) ≤ i
        · cases HCC <;> first | (exfalso; omega) | (go_wp2_with fail; go_ret2; exact ⟨rfl, hb5⟩)
        · have HX := Lib.hid (show (1 ≤ 1 → ¬ i < 0 ∧ ¬ (m : Int) ≤ i) ∧ (2 ≤ 1 → ¬ j < 0 ∧ ¬ (m : Int) ≤ j) from ⟨fun _ => ⟨q1, q2⟩, fun h => by omega⟩)
          clear HCC
          go_wp2_with fail
          exact ⟨⟨1, by simp, by omega, HX, hn⟩, by simp [intOf]⟩
    · have k1 := (h1 (Nat.le_refl _)).1
      have k2 := (h1 (Nat.le_refl _)).2
      clear h1 h2 hh
      by_cases q1 : j < 0
      · cases HCC <;> first | (exfalso; omega) | (go_wp2_with fail; go_ret2; exact ⟨rfl, hb5⟩)
      · by_cases q2 : (m : Int) ≤ j
        · cases HCC <;> first | (exfalso; omega) | (go_wp2_with fail; go_ret2; exact ⟨rfl, hb5⟩)
        · have HX := Lib.hid (show (1 ≤ 2 → ¬ i < 0 ∧ ¬ (m : Int) ≤ i) ∧ (2 ≤ 2 → ¬ j < 0 ∧ ¬ (m : Int) ≤ j) from ⟨fun _ => ⟨k1, k2⟩, fun _ => ⟨q1, q2⟩⟩)
          clear HCC
          go_wp2_with fail
          exact ⟨⟨2, by simp, by omega, HX, hn⟩, by simp [intOf]⟩
    · have k1 := (h1 (by omega)).1
      have k2 := (h1 (by omega)).2
      have k3 := (h2 (Nat.le_refl _)).1
      have k4 := (h2 (Nat.le_refl _)).2
      clear h1 h2 hh
      cases HCC <;> first | (exfalso; omega) | (go_wp2_with fail; go_ret2; exact ⟨rfl, hb5⟩)

set_option maxRecDepth 100000 in
set_option maxHeartbeats 4000000 in
theorem rverify_ok (b o cap : Nat) (l : List QD) (i j s : Int) (w : World) (hw : witE l.length i j s = 0) (hl : l.length ≤ 1000000) (hr : QRow w b o l) (hb : b < w.heap.size) (hbg : ∀ d ∈ l, Bg d)
    (HL : ∀ W, Below w.heap.size w W → Calls Tryz.prog 48 #[.slice (some ⟨b, o, none⟩) l.length cap] W fun e w' => e = .returned (.int .i64 0) ∧ Below W.heap.size W w') :
    Calls Tryz.prog 24 #[.slice (some ⟨b, o, none⟩) l.length cap, .agg (#[.int .i64 i, .int .i64 j, .int .i64 s])] w fun e w' => e = .returned (.tuple #[.bool (provesQ l i.toNat j.toNat s), .int .i64 0]) ∧ Below w.heap.size w w' := by
  obtain ⟨g1, g2, g3, g4, g5, g6, g7⟩ := wit_ok hw
  have b1 := (Below.refl w.heap.size w).alloc (Nat.le_refl _) (.cells (#[.int .i64 i, .int .i64 j, .int .i64 s]) 43 (0, 0))
  have a1 := CB.new w (#[.int .i64 i, .int .i64 j, .int .i64 s]) 43
  have ML := Lib.hid (HL _ b1)
  have HB := Lib.hid b1
  have HA := Lib.hid a1
  have MP := Lib.hid (show ∀ W, Below w.heap.size w W → Calls Tryz.prog 54 #[.slice (some ⟨b, o, none⟩) l.length cap, .agg (#[.int .i64 i, .int .i64 j, .int .i64 s])] W fun e w' => e = .returned (.bool (provesQ l i.toNat j.toNat s)) ∧ Below W.heap.size W w' from fun W hW => by
    have := rproves_any b o cap i.toNat j.toNat s l W (by omega) (by omega) hl (hr.below hW hb) (Nat.lt_of_lt_of_le hb hW.size) hbg
    rwa [show ((i.toNat : Nat) : Int) = i by omega, show ((j.toNat : Nat) : Int) = j by omega] at this)
  generalize provesQ l i.toNat j.toNat s = R at *
  clear b1 a1 HL hw hbg hr
  go_enter Tryz.func24, Tryz.ntmps24
  go_wp2_with fail
  generalize w.alloc (.cells (#[.int .i64 i, .int .i64 j, .int .i64 s]) 43 (0, 0)) = W1 at *
  refine ML.out.mono ?_
  rintro e w2 ⟨rfl, hb2⟩
  have hb3 := HB.out.trans (hb2.mono HB.out.size)
  have c2 := HA.out.below hb2 HA.out.lt
  obtain ⟨r0, r1, r2⟩ := c2.cells3
  have hb4 := hb3.alloc hb3.size (.cells #[.int .i64 i, .int .i64 j] 3 (0, 0))
  have n4 := CB.new w2 #[.int .i64 i, .int .i64 j] 3
  have c4 := c2.alloc (.cells #[.int .i64 i, .int .i64 j] 3 (0, 0))
  clear hb2
  go_wp2_with fail
  generalize w2.alloc (.cells #[.int .i64 i, .int .i64 j] 3 (0, 0)) = w4 at *
  generalize w2.heap.size = g at *
  clear r0 r1 r2
  have XB := Lib.hid n4
  have CB4 := Lib.hid c4
  have HB4 := Lib.hid hb4
  clear n4 c4 hb4 c2
  go_loopw [20] (fun iv wr => ∃ k : Nat, iv = .int .i64 k ∧ k ≤ 2 ∧ Below w4.heap.size w4 wr) (fun iv _ => 3 - (intOf iv).toNat)
  case atStart => exact ⟨0, rfl, Nat.zero_le _, Below.refl _ _⟩
  case round =>
    obtain ⟨k, rfl, hk, hn⟩ := hrel
    obtain ⟨r0, r1, r2⟩ := (CB4.out.below hn CB4.out.lt).cells3
    obtain ⟨x0, x1⟩ := (XB.out.below hn XB.out.lt).cells2
    have hb5 := HB4.out.trans (hn.mono HB4.out.size)
    rcases (show k = 0 ∨ k = 1 ∨ k = 2 by omega) with rfl | rfl | rfl
    · go_wp2_with fail
      exact ⟨⟨1, by simp, by omega, hn⟩, by simp [intOf]⟩
    · go_wp2_with fail
      exact ⟨⟨2, by simp, by omega, hn⟩, by simp [intOf]⟩
    · go_wp2_with fail
      refine (MP.out _ hb5).mono ?_
      rintro e w5 ⟨rfl, hb6⟩
      go_wp2_with fail
      go_ret2
      exact ⟨rfl, hb5.trans (hb6.mono hb5.size)⟩

set_option maxRecDepth 100000 in
set_option maxHeartbeats 4000000 in
theorem dverify_ok (b o cap : Nat) (l : List QD) (i j s : Int) (w : World) (hw : witE l.length i j s = 0) (hl : l.length ≤ 1000000) (hr : QRow w b o l) (hb : b < w.heap.size) (hf : FitProve l i.toNat j.toNat s)
    (HL : ∀ W, Below w.heap.size w W → Calls Tryz.prog 46 #[.slice (some ⟨b, o, none⟩) l.length cap] W fun e w' => e = .returned (.int .i64 0) ∧ Below W.heap.size W w') (he : Env w) :
    Calls Tryz.prog 22 #[.slice (some ⟨b, o, none⟩) l.length cap, .agg (#[.int .i64 i, .int .i64 j, .int .i64 s])] w fun e w' => e = .returned (.tuple #[.bool (provesQ l i.toNat j.toNat s), .int .i64 0]) ∧ Below w.heap.size w w' := by
  obtain ⟨g1, g2, g3, g4, g5, g6, g7⟩ := wit_ok hw
  have b1 := (Below.refl w.heap.size w).alloc (Nat.le_refl _) (.cells (#[.int .i64 i, .int .i64 j, .int .i64 s]) 40 (0, 0))
  have a1 := CB.new w (#[.int .i64 i, .int .i64 j, .int .i64 s]) 40
  have ML := Lib.hid (HL _ b1)
  have HB := Lib.hid b1
  have HA := Lib.hid a1
  have MP := Lib.hid (show ∀ W q, Below w.heap.size w W → OK0 W q → Calls Tryz.prog 53 #[.pointer (some ⟨q, 0, none⟩), .slice (some ⟨b, o, none⟩) l.length cap, .agg (#[.int .i64 i, .int .i64 j, .int .i64 s])] W fun e w' => e = .returned (.bool (provesQ l i.toNat j.toNat s)) ∧ Below W.heap.size W w' from fun W q hW h0 => by
    have := proves_any q b o cap i.toNat j.toNat s l W h0 (by omega) (by omega) hl (hr.below hW hb) (Nat.lt_of_lt_of_le hb hW.size) hf (he.below hW)
    rwa [show ((i.toNat : Nat) : Int) = i by omega, show ((j.toNat : Nat) : Int) = j by omega] at this)
  generalize provesQ l i.toNat j.toNat s = R at *
  clear b1 a1 HL hw hf hr he
  go_enter Tryz.func22, Tryz.ntmps22
  go_wp2_with fail
  generalize w.alloc (.cells (#[.int .i64 i, .int .i64 j, .int .i64 s]) 40 (0, 0)) = W1 at *
  refine ML.out.mono ?_
  rintro e w2 ⟨rfl, hb2⟩
  have hb3 := HB.out.trans (hb2.mono HB.out.size)
  have c2 := HA.out.below hb2 HA.out.lt
  obtain ⟨r0, r1, r2⟩ := c2.cells3
  have h0 := ok0_newd w2
  have hb4 := hb3.alloc hb3.size (.cells #[.int .i64 0] 73 (0, 0))
  have c4 := c2.alloc (.cells #[.int .i64 0] 73 (0, 0))
  obtain ⟨x0, x1, x2⟩ := c4.cells3
  have H0 := Lib.hid h0
  have M := Lib.hid (MP.out _ _ hb4 h0)
  have HB4 := Lib.hid hb4
  clear hb2 c2 c4 h0 hb4 MP
  go_wp2_with fail
  generalize w2.alloc (.cells #[.int .i64 0] 73 (0, 0)) = w4 at *
  generalize w2.heap.size = q at *
  refine M.out.mono ?_
  rintro e w5 ⟨rfl, hb6⟩
  obtain ⟨k0, k1, k2⟩ := H0.out.below hb6
  have hb7 := HB4.out.trans (hb6.mono HB4.out.size)
  go_wp2_with fail
  go_quiet (fail)
  go_wp2_with fail
  go_ret2
  exact ⟨rfl, below_drewN' hb7 _⟩
end Go.Proofs.YtbdckemkmocdlaaGreatDoor

/- the law DiscsVerify. -/
namespace Go.Proofs.YtbdckemkmocdlaaGreatDoor
open Go.RowKit

attribute [local irreducible] sI sQ

/-- both sides answer alike -/
theorem verify_both (w : World) (v : Value) (l : List TD) (i j s : Int) (hS : SL w v l) (hf : fewT l = true) : ∃ (r : Bool) (n : Int),
    (∀ W, Below w.heap.size w W → Env W → Calls Tryz.prog 22 #[v, .agg (#[.int .i64 i, .int .i64 j, .int .i64 s])] W fun e w' => e = .returned (.tuple #[.bool r, .int .i64 n]) ∧ Below W.heap.size W w') ∧
    (∀ W, Below w.heap.size w W → Calls Tryz.prog 24 #[v, .agg (#[.int .i64 i, .int .i64 j, .int .i64 s])] W fun e w' => e = .returned (.tuple #[.bool r, .int .i64 n]) ∧ Below W.heap.size W w') := by
  obtain ⟨hl, hfew⟩ := few_cases hf
  have HD : ∀ W, Below w.heap.size w W → Env W → ∀ W', Below W.heap.size W W' → Calls Tryz.prog 46 #[v] W' fun e w' => e = .returned (.int .i64 (chkL l)) ∧ Below W'.heap.size W' w' :=
    fun W hW he W' hW' => dlistS v l W' (hS.below (hW.trans (hW'.mono hW.size))) hl (fun h => (hfew h).2.2) (he.below hW')
  have HR : ∀ W, Below w.heap.size w W → ∀ W', Below W.heap.size W W' → Calls Tryz.prog 48 #[v] W' fun e w' => e = .returned (.int .i64 (chkL l)) ∧ Below W'.heap.size W' w' :=
    fun W hW W' hW' => rlistS v l W' (hS.below (hW.trans (hW'.mono hW.size))) hl (fun h => (hfew h).2.2)
  by_cases hc : chkL l = 0
  · have h64 : l.length ≤ 64 := by
      apply Classical.byContradiction
      intro h
      rw [chkL_many (by omega)] at hc; cases hc
    obtain ⟨h12, h5, hsh⟩ := hfew h64
    obtain ⟨L, rfl, hbg, hne⟩ := good_list h12 hc
    rw [hc] at HD HR
    rcases hS with ⟨_, _, _, h⟩ | ⟨b, o, cap, rfl, hb, hr⟩
    · exact absurd (List.map_eq_nil_iff.1 h) hne
    · rw [List.length_map] at hl HD HR ⊢
      by_cases hw : witE L.length i j s = 0
      · exact ⟨provesQ L i.toNat j.toNat s, 0, fun W hW he => dverify_ok b o cap L i j s W hw hl (DRow.below hr hW hb) (Nat.lt_of_lt_of_le hb hW.size) (bg_prove hbg _ _ _) (HD W hW he) he,
          fun W hW => rverify_ok b o cap L i j s W hw hl (DRow.below hr hW hb) (Nat.lt_of_lt_of_le hb hW.size) hbg (HR W hW)⟩
      · exact ⟨false, _, fun W hW he => dverify_out _ _ _ i j s W hw (HD W hW he), fun W hW => rverify_out _ _ _ i j s W hw (HR W hW)⟩
  · exact ⟨false, chkL l, fun W hW he => dverify_err v (chkL l) hc i j s W (HD W hW he), fun W hW => rverify_err v (chkL l) hc i j s W (HR W hW)⟩

set_option maxRecDepth 100000 in
set_option maxHeartbeats 2000000 in
theorem lawVerify_any (v : Value) (l : List TD) (i j s : Int) (w : World) (hS : SL w v l) (hl : l.length ≤ 9223372036854775807) (he : Env w) :
    Calls Tryz.prog 6 #[v, .agg (#[.int .i64 i, .int .i64 j, .int .i64 s])] w fun e w' => e = .returned (.bool true) ∧ Below w.heap.size w w' := by
  have KE := Lib.hid (show ∀ W, Below w.heap.size w W → Env W from fun W hW => he.below hW)
  have b1 := (Below.refl w.heap.size w).alloc (Nat.le_refl _) (.cells (#[.int .i64 i, .int .i64 j, .int .i64 s]) 43 (0, 0))
  have a1 := CB.new w (#[.int .i64 i, .int .i64 j, .int .i64 s]) 43
  have M1 := Lib.hid (rfewS v l _ (hS.below b1) hl)
  have MB := Lib.hid (fun (h : fewT l = true) => verify_both w v l i j s hS h)
  have MW := Lib.hid (fun W hW => awake_any W (KE.out W hW))
  have MS := Lib.hid (fun W => sent_any i j s W)
  have HB := Lib.hid b1
  have HA := Lib.hid a1
  clear he hS b1 a1
  go_enter Tryz.func6, Tryz.ntmps6
  go_wp2_with fail
  generalize w.alloc (.cells (#[.int .i64 i, .int .i64 j, .int .i64 s]) 43 (0, 0)) = W1 at *
  refine M1.out.mono ?_
  rintro e w1 ⟨rfl, hb1⟩
  have hb2 := HB.out.trans (hb1.mono HB.out.size)
  by_cases hs : fewT l = true
  · obtain ⟨r, n, hA, hB⟩ := MB.out hs
    have MA := Lib.hid hA
    have MR := Lib.hid hB
    have c1 := HA.out.below hb1 HA.out.lt
    obtain ⟨r0, r1, r2⟩ := c1.cells3
    rw [hs]
    clear MB M1 hA hB hs hb1
    go_wp2_with fail
    refine (MS.out _).mono ?_
    rintro e w2 ⟨rfl, hb3⟩
    have hb4 := hb2.trans (hb3.mono hb2.size)
    have c2 := c1.below hb3 c1.lt
    clear r0 r1 r2 hb3
    go_wp2_with fail
    refine (MA.out _ hb4 (KE.out _ hb4)).mono ?_
    rintro e w3 ⟨rfl, hb5⟩
    have hb6 := hb4.trans (hb5.mono hb4.size)
    obtain ⟨r0, r1, r2⟩ := (c2.below hb5 c2.lt).cells3
    clear hb5
    go_wp2_with fail
    refine (MR.out _ hb6).mono ?_
    rintro e w4 ⟨rfl, hb7⟩
    have hb8 := hb6.trans (hb7.mono hb6.size)
    clear r0 r1 r2 hb7
    go_wp2_with fail
    refine (MW.out _ hb8).mono ?_
    rintro e w5 ⟨rfl, hb9⟩
    go_wp2_with fail
    go_ret
    exact ⟨rfl, hb8.trans (hb9.mono hb8.size)⟩
  · rw [Bool.not_eq_true] at hs
    rw [hs]
    clear MB M1 hs
    go_wp2_with fail
    refine (MW.out _ hb2).mono ?_
    rintro e w7 ⟨rfl, hb7⟩
    go_wp2_with fail
    go_ret
    exact ⟨rfl, hb2.trans (hb7.mono hb2.size)⟩
end Go.Proofs.YtbdckemkmocdlaaGreatDoor

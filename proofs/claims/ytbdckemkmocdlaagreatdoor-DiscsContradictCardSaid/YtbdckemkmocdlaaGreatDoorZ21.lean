/- metrolabref02: Lowest, crossed. -/
import Derived.Test.YtbdckemkmocdlaaGreatDoorZ20
import Derived.Test.YtbdckemkmocdlaaGreatDoorZ16
import Derived.Test.YtbdckemkmocdlaaGreatDoorZ15
set_option linter.all false
set_option exponentiation.threshold 2000000
namespace Go.Proofs.YtbdckemkmocdlaaGreatDoor
open Go.RowKit

attribute [local irreducible] sI sQ

theorem lg_low {a b : Int} {k : Nat} (hb0 : b ≠ 0) (hb : Lg k b) : Lg k (low a b) := by
  refine hb.le ?_
  have hg : Int.gcd a b ≤ b.natAbs := Nat.gcd_le_right _ (by omega)
  unfold low; split <;> omega

theorem low_dvd {a b : Int} (h0 : b ≠ 0) : low a b ≠ 0 ∧ low a b ∣ a ∧ low a b ∣ b := by
  have hg : (Int.gcd a b : Int) ≠ 0 := by
    intro h; have := Int.gcd_eq_zero_iff.1 (Int.natCast_eq_zero.1 h); exact h0 this.2
  unfold low
  split
  · exact ⟨by omega, Int.neg_dvd.2 (Int.gcd_dvd_left a b), Int.neg_dvd.2 (Int.gcd_dvd_right a b)⟩
  · exact ⟨hg, Int.gcd_dvd_left a b, Int.gcd_dvd_right a b⟩

theorem lg_div {a b : Int} {k : Nat} (h : Lg k a) : Lg k (a / b) := h.le (Int.natAbs_ediv_le_natAbs a b)
theorem lg_gcd {a b : Int} {k : Nat} (hb0 : b ≠ 0) (hb : Lg k b) : Lg k (Int.gcd a b : Nat) := by
  refine hb.le ?_
  exact Nat.gcd_le_right _ (by omega)

set_option maxRecDepth 100000 in
set_option maxHeartbeats 2000000 in
theorem rlowest_any (a b : Int) (w : World) (ha : Lg 9000 a) (hb : Lg 9000 b) (hb0 : b ≠ 0) :
    Calls Tryz.prog 60 #[.string (sI a), .string (sI b)] w fun e w' => e = .returned (.string (sQ (Rat.divInt a b))) ∧ Below w.heap.size w w' := by
  obtain ⟨x, hx⟩ : ∃ x, x = Rat.divInt a b := ⟨_, rfl⟩
  obtain ⟨l0, l1, l2⟩ := low_dvd (a := a) hb0
  have LL := Lib.hid (lg_low (a := a) hb0 hb)
  have HN := Lib.hid (show a.fdiv (low a b) = x.num by rw [Int.fdiv_eq_ediv_of_dvd l1, hx, divInt_num a b hb0]; rfl)
  have HD := Lib.hid (show b.fdiv (low a b) = x.den by rw [Int.fdiv_eq_ediv_of_dvd l2, hx, divInt_den a b hb0]; rfl)
  have HL0 := Lib.hid l0
  have hs1 : (sI x.num).size ≤ 9001 := by rw [← HN.out, Int.fdiv_eq_ediv_of_dvd l1]; exact (lg_div ha).sI
  have hs2 : (sI x.den).size ≤ 9001 := by rw [← HD.out, Int.fdiv_eq_ediv_of_dvd l2]; exact (lg_div hb).sI
  have hd := sI_eq_one x.den
  have HA := Lib.hid ha
  have HB := Lib.hid hb
  have HG := Lib.hid (lg_gcd (a := a) hb0 hb)
  rw [← hx]
  have HE1 := Lib.hid (show (x.den : Int) = 1 → sI x.num = sQ x from fun h => sQ_of (by rw [sI_list, ratT_one (by omega)]))
  have HE2 := Lib.hid (show ¬ (x.den : Int) = 1 → sI x.num ++ ⟨#[47]⟩ ++ sI x.den = sQ x from fun h => sQ_of (by
      rw [ratT_ne (by omega), ByteArray.data_append, ByteArray.data_append, Array.toList_append, Array.toList_append, sI_list, sI_list, itoa_nat]; simp))
  generalize hdx : (x.den : Int) = D at *
  clear ha hb hb0 l0 l1 l2 hx hdx
  go_enter Tryz.func60, Tryz.ntmps60
  go_wp2_with fail
  refine (rshared_any a b _ HA.out HB.out).mono ?_
  rintro e w1 ⟨rfl, hb1⟩
  go_wp2_with fail
  refine (rbelow_sI b _).mono ?_
  rintro e w2 ⟨rfl, rfl⟩
  by_cases hneg : b < 0
  · have HT := Lib.hid (decide_eq_true hneg)
    have HW := Lib.hid (show -((Int.gcd a b : Nat) : Int) = low a b by unfold low; rw [if_pos hneg])
    clear hneg
    rw [HT.out]
    go_wp2_with fail
    refine (rturned_any _ _ (HG.out.mono (by omega))).mono ?_
    rintro e w2 ⟨rfl, rfl⟩
    rw [HW.out]
    go_wp2_with fail
    refine (rparted_any a _ _ HA.out LL.out HL0.out).mono ?_
    rintro e w3 ⟨rfl, hb3⟩
    rw [HN.out]
    have hb4 := hb1.trans (hb3.mono hb1.size)
    generalize a.fmod (low a b) = r1
    go_wp2_with fail
    refine (rparted_any b _ _ HB.out LL.out HL0.out).mono ?_
    rintro e w5 ⟨rfl, hb5⟩
    rw [HD.out]
    have hb6 := hb4.trans (hb5.mono hb4.size)
    generalize b.fmod (low a b) = r2
    by_cases h : D = 1
    · rw [decide_eq_true h] at hd
      have HX := Lib.hid (HE1.out h)
      clear h
      go_wp2_with fail
      go_ret
      exact ⟨ret_ba HX.out, hb6⟩
    · rw [decide_eq_false h] at hd
      have HX := Lib.hid (HE2.out h)
      clear h
      go_wp2_with fail
      go_ret
      exact ⟨ret_ba HX.out, hb6⟩
  · have HT := Lib.hid (decide_eq_false hneg)
    have HW := Lib.hid (show ((Int.gcd a b : Nat) : Int) = low a b by unfold low; rw [if_neg hneg])
    clear hneg
    rw [HT.out, HW.out]
    go_wp2_with fail
    refine (rparted_any a _ _ HA.out LL.out HL0.out).mono ?_
    rintro e w3 ⟨rfl, hb3⟩
    rw [HN.out]
    have hb4 := hb1.trans (hb3.mono hb1.size)
    generalize a.fmod (low a b) = r1
    go_wp2_with fail
    refine (rparted_any b _ _ HB.out LL.out HL0.out).mono ?_
    rintro e w5 ⟨rfl, hb5⟩
    rw [HD.out]
    have hb6 := hb4.trans (hb5.mono hb4.size)
    generalize b.fmod (low a b) = r2
    by_cases h : D = 1
    · rw [decide_eq_true h] at hd
      have HX := Lib.hid (HE1.out h)
      clear h
      go_wp2_with fail
      go_ret
      exact ⟨ret_ba HX.out, hb6⟩
    · rw [decide_eq_false h] at hd
      have HX := Lib.hid (HE2.out h)
      clear h
      go_wp2_with fail
      go_ret
      exact ⟨ret_ba HX.out, hb6⟩

/-- not too long for the reference -/
def Md (x : Rat) : Prop := Lg 4000 x.num ∧ Lg 4000 x.den

theorem ratT_len (x : Rat) : (ratT x).length ≤ (Lib.itoa x.num).length + 1 + (Lib.decDigits x.den).length := by
  unfold ratT; split
  · omega
  · simp; omega
theorem Md.size {x : Rat} (h : Md x) : (sQ x).size ≤ 8002 := by
  have h1 := h.1.sI
  have h2 : (Lib.decDigits x.den).length ≤ 4000 := h.2
  have := ratT_len x
  rw [ba_size, sI_list] at h1
  rw [ba_size, sQ_list]; omega

theorem split_sQ (x : Rat) (w : World) (h : Md x) : Calls Tryz.prog 73 #[.string (sQ x)] w fun e w' => e = .returned (.tuple #[.string (sI x.num), .string (sI x.den)]) ∧ Below w.heap.size w w' := by
  refine split_any _ _ _ (decide (x.den ≠ 1)) w (by have := h.size; omega) ?_
  rw [sQ_list, cutQ_rat, sI_list, sI_list, itoa_nat]

/-- the products of two numbers -/
def crossI (x y : Rat) : List Int := [x.num * y.den, y.num * x.den, x.den * y.den, x.num * y.num, x.den * y.num]
theorem cross_lg {x y : Rat} (hx : Md x) (hy : Md y) : ∀ n ∈ crossI x y, Lg 8000 n := by
  intro n hn
  simp only [crossI, List.mem_cons, List.not_mem_nil, or_false] at hn
  rcases hn with rfl | rfl | rfl | rfl | rfl
  · exact hx.1.mul hy.2
  · exact hy.1.mul hx.2
  · exact hx.2.mul hy.2
  · exact hx.1.mul hy.1
  · exact hx.2.mul hy.1

set_option maxRecDepth 100000 in
set_option maxHeartbeats 2000000 in
theorem crossed_any (x y : Rat) (w : World) (hx : Md x) (hy : Md y) :
    Calls Tryz.prog 59 #[.string (sQ x), .string (sQ y)] w fun e w' => ∃ g, e = .returned (.slice (some ⟨g, 0, none⟩) 5 5) ∧ w.heap.size ≤ g ∧
      CB w' g #[.string (sI (x.num * y.den)), .string (sI (y.num * x.den)), .string (sI (x.den * y.den)), .string (sI (x.num * y.num)), .string (sI (x.den * y.num))] 93 ∧ Below w.heap.size w w' := by
  have HX := Lib.hid hx
  have HY := Lib.hid hy
  have HM := Lib.hid (fun (m n : Int) (W : World) (h1 : Lg 4000 m) (h2 : Lg 4000 n) => rtimes_any m n W (h1.mono (by omega)) (h2.mono (by omega)))
  clear hx hy
  go_enter Tryz.func59, Tryz.ntmps59
  go_wp2_with fail
  refine (split_sQ x _ HX.out).mono ?_
  rintro e w1 ⟨rfl, hb1⟩
  go_wp2_with fail
  refine (split_sQ y _ HY.out).mono ?_
  rintro e w2 ⟨rfl, hb2⟩
  replace hb2 := hb1.trans (hb2.mono hb1.size)
  clear hb1
  go_wp2_with fail
  refine (HM.out x.num y.den _ HX.out.1 HY.out.2).mono ?_
  rintro e w3 ⟨rfl, hb3⟩
  replace hb3 := hb2.trans (hb3.mono hb2.size)
  clear hb2
  go_wp2_with fail
  refine (HM.out y.num x.den _ HY.out.1 HX.out.2).mono ?_
  rintro e w4 ⟨rfl, hb4⟩
  replace hb4 := hb3.trans (hb4.mono hb3.size)
  clear hb3
  go_wp2_with fail
  refine (HM.out x.den y.den _ HX.out.2 HY.out.2).mono ?_
  rintro e w5 ⟨rfl, hb5⟩
  replace hb5 := hb4.trans (hb5.mono hb4.size)
  clear hb4
  go_wp2_with fail
  refine (HM.out x.num y.num _ HX.out.1 HY.out.1).mono ?_
  rintro e w6 ⟨rfl, hb6⟩
  replace hb6 := hb5.trans (hb6.mono hb5.size)
  clear hb5
  go_wp2_with fail
  refine (HM.out x.den y.num _ HX.out.2 HY.out.1).mono ?_
  rintro e w7 ⟨rfl, hb7⟩
  replace hb7 := hb6.trans (hb7.mono hb6.size)
  clear hb6
  have c := CB.new w7 #[.string (sI (x.num * y.den)), .string (sI (y.num * x.den)), .string (sI (x.den * y.den)), .string (sI (x.num * y.num)), .string (sI (x.den * y.num))] 93
  have HB := Lib.hid (hb7.alloc hb7.size (.cells #[.string (sI (x.num * y.den)), .string (sI (y.num * x.den)), .string (sI (x.den * y.den)), .string (sI (x.num * y.num)), .string (sI (x.den * y.num))] 93 (0, 0)))
  have HC := Lib.hid c
  have HS := Lib.hid hb7.size
  clear c hb7
  go_wp2_with fail
  go_ret
  exact ⟨_, rfl, HS.out, HC.out, HB.out⟩
end Go.Proofs.YtbdckemkmocdlaaGreatDoor

/- metrolabref02: Plus, Minus, Times, By, Order, Signum. -/
namespace Go.Proofs.YtbdckemkmocdlaaGreatDoor
open Go.RowKit

attribute [local irreducible] sI sQ


theorem dne (x : Rat) : (x.den : Int) ≠ 0 := by have := x.den_pos; omega

set_option maxRecDepth 100000 in
set_option maxHeartbeats 4000000 in
theorem rqplus_any (x y : Rat) (w : World) (hx : Md x) (hy : Md y) :
    Calls Tryz.prog 33 #[.string (sQ x), .string (sQ y)] w fun e w' => e = .returned (.string (sQ (x + y))) ∧ Below w.heap.size w w' := by
  have L := cross_lg hx hy
  have HX := Lib.hid hx
  have HY := Lib.hid hy
  have P1 := Lib.hid (fun W => rplus_any (x.num * y.den) (y.num * x.den) W ((L (x.num * y.den) (by simp [crossI])).mono (by omega)) ((L (y.num * x.den) (by simp [crossI])).mono (by omega)))
  have P2 := Lib.hid (fun W => rlowest_any (x.num * y.den + y.num * x.den) (x.den * y.den) W (((L (x.num * y.den) (by simp [crossI])).add (L (y.num * x.den) (by simp [crossI]))).mono (by omega)) ((L (x.den * y.den) (by simp [crossI])).mono (by omega)) (Int.mul_ne_zero (dne x) (dne y)))
  rw [divInt_add'] at P2
  clear L hx hy
  go_enter Tryz.func33, Tryz.ntmps33
  go_wp2_with fail
  refine (crossed_any x y _ HX.out HY.out).mono ?_
  rintro e W0 ⟨g, rfl, hg, hc, hb⟩
  have KS := Lib.hid (show ∀ W, Below W0.heap.size W0 W → (W.cell? ⟨g, 0, none⟩ = some (.string (sI (x.num * y.den))) ∧ W.cell? ⟨g, 1, none⟩ = some (.string (sI (y.num * x.den))) ∧ W.cell? ⟨g, 2, none⟩ = some (.string (sI (x.den * y.den))) ∧ W.cell? ⟨g, 3, none⟩ = some (.string (sI (x.num * y.num))) ∧ W.cell? ⟨g, 4, none⟩ = some (.string (sI (x.den * y.num)))) ∧ (Below W0.heap.size W0 W ∧ Below w.heap.size w W) from fun W hW => by have e1 := hc.below hW hc.lt; exact ⟨⟨e1.c 0, e1.c 1, e1.c 2, e1.c 3, e1.c 4⟩, hW, hb.trans (hW.mono hb.size)⟩)
  clear hc
  go_wp2_with fail
  go_region_held3 (fun W => (W.cell? ⟨g, 0, none⟩ = some (.string (sI (x.num * y.den))) ∧ W.cell? ⟨g, 1, none⟩ = some (.string (sI (y.num * x.den))) ∧ W.cell? ⟨g, 2, none⟩ = some (.string (sI (x.den * y.den))) ∧ W.cell? ⟨g, 3, none⟩ = some (.string (sI (x.num * y.num))) ∧ W.cell? ⟨g, 4, none⟩ = some (.string (sI (x.den * y.num)))) ∧ (Below W0.heap.size W0 W ∧ Below w.heap.size w W))
    ((refine KS.out _ ?_; first | exact (Below.refl _ _).drew | assumption))
    (first | (go_at_call 61; have hh := ‹(_ ∧ _) ∧ (_ ∧ Below w.heap.size w _)›; with_reducible refine (P1.out _).mono ?_; rintro e w1 ⟨rfl, hb1⟩; have hb2 := hh.2.1.trans (hb1.mono hh.2.1.size)) | (go_at_call 60; have hh := ‹(_ ∧ _) ∧ (_ ∧ Below w.heap.size w _)›; with_reducible refine (P2.out _).mono ?_; rintro e w1 ⟨rfl, hb1⟩; have hb2 := hh.2.1.trans (hb1.mono hh.2.1.size)))
  go_wp2_with fail
  go_ret
  exact ⟨rfl, hb.trans (hb2.mono hb.size)⟩

set_option maxRecDepth 100000 in
set_option maxHeartbeats 4000000 in
theorem rqminus_any (x y : Rat) (w : World) (hx : Md x) (hy : Md y) :
    Calls Tryz.prog 105 #[.string (sQ x), .string (sQ y)] w fun e w' => e = .returned (.string (sQ (x - y))) ∧ Below w.heap.size w w' := by
  have L := cross_lg hx hy
  have HX := Lib.hid hx
  have HY := Lib.hid hy
  have P1 := Lib.hid (fun W => rminus_any (x.num * y.den) (y.num * x.den) W ((L (x.num * y.den) (by simp [crossI])).mono (by omega)) ((L (y.num * x.den) (by simp [crossI])).mono (by omega)))
  have P2 := Lib.hid (fun W => rlowest_any (x.num * y.den - y.num * x.den) (x.den * y.den) W (((L (x.num * y.den) (by simp [crossI])).sub (L (y.num * x.den) (by simp [crossI]))).mono (by omega)) ((L (x.den * y.den) (by simp [crossI])).mono (by omega)) (Int.mul_ne_zero (dne x) (dne y)))
  rw [divInt_sub'] at P2
  clear L hx hy
  go_enter Tryz.func105, Tryz.ntmps105
  go_wp2_with fail
  refine (crossed_any x y _ HX.out HY.out).mono ?_
  rintro e W0 ⟨g, rfl, hg, hc, hb⟩
  have KS := Lib.hid (show ∀ W, Below W0.heap.size W0 W → (W.cell? ⟨g, 0, none⟩ = some (.string (sI (x.num * y.den))) ∧ W.cell? ⟨g, 1, none⟩ = some (.string (sI (y.num * x.den))) ∧ W.cell? ⟨g, 2, none⟩ = some (.string (sI (x.den * y.den))) ∧ W.cell? ⟨g, 3, none⟩ = some (.string (sI (x.num * y.num))) ∧ W.cell? ⟨g, 4, none⟩ = some (.string (sI (x.den * y.num)))) ∧ (Below W0.heap.size W0 W ∧ Below w.heap.size w W) from fun W hW => by have e1 := hc.below hW hc.lt; exact ⟨⟨e1.c 0, e1.c 1, e1.c 2, e1.c 3, e1.c 4⟩, hW, hb.trans (hW.mono hb.size)⟩)
  clear hc
  go_wp2_with fail
  go_region_held3 (fun W => (W.cell? ⟨g, 0, none⟩ = some (.string (sI (x.num * y.den))) ∧ W.cell? ⟨g, 1, none⟩ = some (.string (sI (y.num * x.den))) ∧ W.cell? ⟨g, 2, none⟩ = some (.string (sI (x.den * y.den))) ∧ W.cell? ⟨g, 3, none⟩ = some (.string (sI (x.num * y.num))) ∧ W.cell? ⟨g, 4, none⟩ = some (.string (sI (x.den * y.num)))) ∧ (Below W0.heap.size W0 W ∧ Below w.heap.size w W))
    ((refine KS.out _ ?_; first | exact (Below.refl _ _).drew | assumption))
    (first | (go_at_call 118; have hh := ‹(_ ∧ _) ∧ (_ ∧ Below w.heap.size w _)›; with_reducible refine (P1.out _).mono ?_; rintro e w1 ⟨rfl, hb1⟩; have hb2 := hh.2.1.trans (hb1.mono hh.2.1.size)) | (go_at_call 60; have hh := ‹(_ ∧ _) ∧ (_ ∧ Below w.heap.size w _)›; with_reducible refine (P2.out _).mono ?_; rintro e w1 ⟨rfl, hb1⟩; have hb2 := hh.2.1.trans (hb1.mono hh.2.1.size)))
  go_wp2_with fail
  go_ret
  exact ⟨rfl, hb.trans (hb2.mono hb.size)⟩

set_option maxRecDepth 100000 in
set_option maxHeartbeats 4000000 in
theorem rqtimes_any (x y : Rat) (w : World) (hx : Md x) (hy : Md y) :
    Calls Tryz.prog 107 #[.string (sQ x), .string (sQ y)] w fun e w' => e = .returned (.string (sQ (x * y))) ∧ Below w.heap.size w w' := by
  have L := cross_lg hx hy
  have HX := Lib.hid hx
  have HY := Lib.hid hy
  have P2 := Lib.hid (fun W => rlowest_any (x.num * y.num) (x.den * y.den) W ((L (x.num * y.num) (by simp [crossI])).mono (by omega)) ((L (x.den * y.den) (by simp [crossI])).mono (by omega)) (Int.mul_ne_zero (dne x) (dne y)))
  rw [divInt_mul'] at P2
  clear L hx hy
  go_enter Tryz.func107, Tryz.ntmps107
  go_wp2_with fail
  refine (crossed_any x y _ HX.out HY.out).mono ?_
  rintro e W0 ⟨g, rfl, hg, hc, hb⟩
  have KS := Lib.hid (show ∀ W, Below W0.heap.size W0 W → (W.cell? ⟨g, 0, none⟩ = some (.string (sI (x.num * y.den))) ∧ W.cell? ⟨g, 1, none⟩ = some (.string (sI (y.num * x.den))) ∧ W.cell? ⟨g, 2, none⟩ = some (.string (sI (x.den * y.den))) ∧ W.cell? ⟨g, 3, none⟩ = some (.string (sI (x.num * y.num))) ∧ W.cell? ⟨g, 4, none⟩ = some (.string (sI (x.den * y.num)))) ∧ (Below W0.heap.size W0 W ∧ Below w.heap.size w W) from fun W hW => by have e1 := hc.below hW hc.lt; exact ⟨⟨e1.c 0, e1.c 1, e1.c 2, e1.c 3, e1.c 4⟩, hW, hb.trans (hW.mono hb.size)⟩)
  clear hc
  go_wp2_with fail
  go_region_held3 (fun W => (W.cell? ⟨g, 0, none⟩ = some (.string (sI (x.num * y.den))) ∧ W.cell? ⟨g, 1, none⟩ = some (.string (sI (y.num * x.den))) ∧ W.cell? ⟨g, 2, none⟩ = some (.string (sI (x.den * y.den))) ∧ W.cell? ⟨g, 3, none⟩ = some (.string (sI (x.num * y.num))) ∧ W.cell? ⟨g, 4, none⟩ = some (.string (sI (x.den * y.num)))) ∧ (Below W0.heap.size W0 W ∧ Below w.heap.size w W))
    ((refine KS.out _ ?_; first | exact (Below.refl _ _).drew | assumption))
    (first | (go_at_call 60; have hh := ‹(_ ∧ _) ∧ (_ ∧ Below w.heap.size w _)›; with_reducible refine (P2.out _).mono ?_; rintro e w1 ⟨rfl, hb1⟩; have hb2 := hh.2.1.trans (hb1.mono hh.2.1.size)))
  go_wp2_with fail
  go_ret
  exact ⟨rfl, hb.trans (hb2.mono hb.size)⟩

set_option maxRecDepth 100000 in
set_option maxHeartbeats 4000000 in
theorem rqby_any (x y : Rat) (w : World) (hx : Md x) (hy : Md y) (hy0 : y ≠ 0) :
    Calls Tryz.prog 161 #[.string (sQ x), .string (sQ y)] w fun e w' => e = .returned (.string (sQ (x / y))) ∧ Below w.heap.size w w' := by
  have L := cross_lg hx hy
  have HX := Lib.hid hx
  have HY := Lib.hid hy
  have P2 := Lib.hid (fun W => rlowest_any (x.num * y.den) (x.den * y.num) W ((L (x.num * y.den) (by simp [crossI])).mono (by omega)) ((L (x.den * y.num) (by simp [crossI])).mono (by omega)) (Int.mul_ne_zero (dne x) (fun h => hy0 (Rat.num_eq_zero.1 h))))
  rw [divInt_div'] at P2
  clear hy0
  clear L hx hy
  go_enter Tryz.func161, Tryz.ntmps161
  go_wp2_with fail
  refine (crossed_any x y _ HX.out HY.out).mono ?_
  rintro e W0 ⟨g, rfl, hg, hc, hb⟩
  have KS := Lib.hid (show ∀ W, Below W0.heap.size W0 W → (W.cell? ⟨g, 0, none⟩ = some (.string (sI (x.num * y.den))) ∧ W.cell? ⟨g, 1, none⟩ = some (.string (sI (y.num * x.den))) ∧ W.cell? ⟨g, 2, none⟩ = some (.string (sI (x.den * y.den))) ∧ W.cell? ⟨g, 3, none⟩ = some (.string (sI (x.num * y.num))) ∧ W.cell? ⟨g, 4, none⟩ = some (.string (sI (x.den * y.num)))) ∧ (Below W0.heap.size W0 W ∧ Below w.heap.size w W) from fun W hW => by have e1 := hc.below hW hc.lt; exact ⟨⟨e1.c 0, e1.c 1, e1.c 2, e1.c 3, e1.c 4⟩, hW, hb.trans (hW.mono hb.size)⟩)
  clear hc
  go_wp2_with fail
  go_region_held3 (fun W => (W.cell? ⟨g, 0, none⟩ = some (.string (sI (x.num * y.den))) ∧ W.cell? ⟨g, 1, none⟩ = some (.string (sI (y.num * x.den))) ∧ W.cell? ⟨g, 2, none⟩ = some (.string (sI (x.den * y.den))) ∧ W.cell? ⟨g, 3, none⟩ = some (.string (sI (x.num * y.num))) ∧ W.cell? ⟨g, 4, none⟩ = some (.string (sI (x.den * y.num)))) ∧ (Below W0.heap.size W0 W ∧ Below w.heap.size w W))
    ((refine KS.out _ ?_; first | exact (Below.refl _ _).drew | assumption))
    (first | (go_at_call 60; have hh := ‹(_ ∧ _) ∧ (_ ∧ Below w.heap.size w _)›; with_reducible refine (P2.out _).mono ?_; rintro e w1 ⟨rfl, hb1⟩; have hb2 := hh.2.1.trans (hb1.mono hh.2.1.size)))
  go_wp2_with fail
  go_ret
  exact ⟨rfl, hb.trans (hb2.mono hb.size)⟩

theorem sgn_mul_pos {g : Int} (k : Int) (hg : 0 < g) : sgn (g * k) = sgn k := by
  unfold sgn
  rcases Int.lt_trichotomy k 0 with h | h | h
  · have := Int.mul_neg_of_pos_of_neg hg h; rw [if_pos this, if_pos h]
  · subst h; simp
  · have := Int.mul_pos hg h; rw [if_neg (by omega), if_neg (by omega), if_neg (by omega), if_neg (by omega)]

theorem sgn_divInt (n d : Int) (hd : 0 < d) : sgn (Rat.divInt n d).num = sgn n := by
  rw [divInt_num n d (by omega), if_neg (by omega)]
  have hg : (0 : Int) < Int.gcd n d := by
    have : Int.gcd n d ≠ 0 := by
      intro h; have := Int.gcd_eq_zero_iff.1 h; omega
    omega
  obtain ⟨k, hk⟩ := Int.gcd_dvd_left n d
  generalize (Int.gcd n d : Int) = g at *
  subst hk
  rw [Int.mul_ediv_cancel_left _ (by omega), sgn_mul_pos _ hg]

theorem sgn_cross (x y : Rat) : sgn (x.num * y.den - y.num * x.den) = sgn (x - y).num := by
  rw [← divInt_sub', sgn_divInt]
  exact Int.mul_pos (by have := x.den_pos; omega) (by have := y.den_pos; omega)

set_option maxRecDepth 100000 in
set_option maxHeartbeats 4000000 in
theorem rqorder_any (x y : Rat) (w : World) (hx : Md x) (hy : Md y) :
    Calls Tryz.prog 81 #[.string (sQ x), .string (sQ y)] w fun e w' => e = .returned (.int .i64 (sgn (x - y).num)) ∧ Below w.heap.size w w' := by
  have L := cross_lg hx hy
  have HX := Lib.hid hx
  have HY := Lib.hid hy
  have P1 := Lib.hid (fun W => rorder_any (x.num * y.den) (y.num * x.den) W ((L (x.num * y.den) (by simp [crossI])).mono (by omega)) ((L (y.num * x.den) (by simp [crossI])).mono (by omega)))
  rw [sgn_cross] at P1
  clear L hx hy
  go_enter Tryz.func81, Tryz.ntmps81
  go_wp2_with fail
  refine (crossed_any x y _ HX.out HY.out).mono ?_
  rintro e W0 ⟨g, rfl, hg, hc, hb⟩
  have KS := Lib.hid (show ∀ W, Below W0.heap.size W0 W → (W.cell? ⟨g, 0, none⟩ = some (.string (sI (x.num * y.den))) ∧ W.cell? ⟨g, 1, none⟩ = some (.string (sI (y.num * x.den))) ∧ W.cell? ⟨g, 2, none⟩ = some (.string (sI (x.den * y.den))) ∧ W.cell? ⟨g, 3, none⟩ = some (.string (sI (x.num * y.num))) ∧ W.cell? ⟨g, 4, none⟩ = some (.string (sI (x.den * y.num)))) ∧ (Below W0.heap.size W0 W ∧ Below w.heap.size w W) from fun W hW => by have e1 := hc.below hW hc.lt; exact ⟨⟨e1.c 0, e1.c 1, e1.c 2, e1.c 3, e1.c 4⟩, hW, hb.trans (hW.mono hb.size)⟩)
  clear hc
  go_wp2_with fail
  go_region_held3 (fun W => (W.cell? ⟨g, 0, none⟩ = some (.string (sI (x.num * y.den))) ∧ W.cell? ⟨g, 1, none⟩ = some (.string (sI (y.num * x.den))) ∧ W.cell? ⟨g, 2, none⟩ = some (.string (sI (x.den * y.den))) ∧ W.cell? ⟨g, 3, none⟩ = some (.string (sI (x.num * y.num))) ∧ W.cell? ⟨g, 4, none⟩ = some (.string (sI (x.den * y.num)))) ∧ (Below W0.heap.size W0 W ∧ Below w.heap.size w W))
    ((refine KS.out _ ?_; first | exact (Below.refl _ _).drew | assumption))
    (first | (go_at_call 76; have hh := ‹(_ ∧ _) ∧ (_ ∧ Below w.heap.size w _)›; with_reducible refine (P1.out _).mono ?_; rintro e w1 ⟨rfl, hb1⟩; have hb2 := hh.2.1.trans (hb1.mono hh.2.1.size)))
  go_wp2_with fail
  go_ret
  exact ⟨rfl, hb.trans (hb2.mono hb.size)⟩

set_option maxRecDepth 100000 in
set_option maxHeartbeats 2000000 in
theorem rsignum_any (x : Rat) (w : World) (hx : Md x) : Calls Tryz.prog 45 #[.string (sQ x)] w fun e w' => e = .returned (.int .i64 (sgn x.num)) ∧ Below w.heap.size w w' := by
  have P1 := Lib.hid (fun W => rorder_any x.num 0 W (hx.1.mono (by omega)) (((lg_iff (a := 1) (by omega)).2 (by decide)).mono (by omega)))
  rw [Int.sub_zero] at P1
  go_enter Tryz.func45, Tryz.ntmps45
  go_wp2_with fail
  refine (split_sQ x _ hx).mono ?_
  rintro e w1 ⟨rfl, hb1⟩
  go_wp2_with fail
  rw [sI_zero]
  refine (P1.out _).mono ?_
  rintro e w2 ⟨rfl, hb2⟩
  go_wp2_with fail
  go_ret
  exact ⟨rfl, hb1.trans (hb2.mono hb1.size)⟩

theorem md_zero : Md 0 := ⟨((lg_iff (a := 1) (by omega)).2 (by decide)).mono (by omega), ((lg_iff (a := 1) (by omega)).2 (by decide)).mono (by omega)⟩

set_option maxRecDepth 100000 in
set_option maxHeartbeats 2000000 in
theorem rqturned_any (x : Rat) (w : World) (hx : Md x) : Calls Tryz.prog 125 #[.string (sQ x)] w fun e w' => e = .returned (.string (sQ (0 - x))) ∧ Below w.heap.size w w' := by
  go_enter Tryz.func125, Tryz.ntmps125
  go_wp2_with fail
  rw [show (⟨#[48]⟩ : ByteArray) = sQ 0 from sQ_of (by rw [ratT_one (by rfl)]; exact itoa_zero.symm)]
  refine (rqminus_any 0 x _ md_zero hx).mono ?_
  rintro e w1 ⟨rfl, hb1⟩
  go_wp2_with fail
  go_ret
  exact ⟨rfl, hb1⟩
end Go.Proofs.YtbdckemkmocdlaaGreatDoor

/- metrolabref02: Root, Check. -/
namespace Go.Proofs.YtbdckemkmocdlaaGreatDoor
open Go.RowKit

attribute [local irreducible] sI sQ

theorem num_eq (x : Rat) : (x.num : Rat) = x * (x.den : Rat) := by
  have h := Rat.num_divInt_den x
  have hd : (x.den : Rat) ≠ 0 := by
    intro h
    have h2 : ((x.den : Int) : Rat) = ((0 : Int) : Rat) := by simpa using h
    have h3 := Rat.intCast_inj.1 h2
    have := x.den_pos
    omega
  have h4 : (x.num : Rat) / (x.den : Rat) = x := by
    rw [Rat.divInt_eq_div, Rat.intCast_natCast] at h
    exact h
  generalize (x.num : Rat) = n at *
  generalize (x.den : Rat) = d at *
  grind

theorem sgn_scale (z : Rat) (D : Int) (hD : 0 < D) : sgn (z * (D : Rat)).num = sgn z.num := by
  rw [← divInt_mul']
  rw [sgn_divInt _ _ (Int.mul_pos (by have := z.den_pos; omega) (by have := (D : Rat).den_pos; omega))]
  rw [Rat.num_intCast, Int.mul_comm, sgn_mul_pos _ hD]

theorem sgn_mulR (k : Int) {g : Int} (hg : 0 < g) : sgn (k * g) = sgn k := by rw [Int.mul_comm, sgn_mul_pos _ hg]

theorem rootR_eq (a b c : Rat) : rootR a b c = if 0 ≤ sgn a.num * (sgn b.num * sgn c.num) then (if sgn a.num = 0 then sgn b.num * sgn c.num else sgn a.num) else sgn a.num * sgn (a * a - b * b * c).num := by
  have pa : (0 : Int) < a.den := by have := a.den_pos; omega
  have pb : (0 : Int) < b.den := by have := b.den_pos; omega
  have pc : (0 : Int) < c.den := by have := c.den_pos; omega
  have e1 : sgn (a.num * b.den * c.den) = sgn a.num := by rw [sgn_mulR _ pc, sgn_mulR _ pb]
  have e2 : sgn (b.num * a.den) = sgn b.num := sgn_mulR _ pa
  have e3 : sgn (c.num * c.den) = sgn c.num := sgn_mulR _ pc
  have hD : (0 : Int) < (a.den : Int) * a.den * (b.den * b.den) * (c.den * c.den) := Int.mul_pos (Int.mul_pos (Int.mul_pos pa pa) (Int.mul_pos pb pb)) (Int.mul_pos pc pc)
  have e4 : sgn (a.num * b.den * c.den * (a.num * b.den * c.den) - b.num * a.den * (b.num * a.den) * (c.num * c.den)) = sgn (a * a - b * b * c).num := by
    rw [← sgn_scale (a * a - b * b * c) _ hD]
    rw [show (a * a - b * b * c) * ((((a.den : Int) * a.den * (b.den * b.den) * (c.den * c.den) : Int)) : Rat) = (((a.num * b.den * c.den * (a.num * b.den * c.den) - b.num * a.den * (b.num * a.den) * (c.num * c.den) : Int)) : Rat) by
      push_cast
      rw [num_eq a, num_eq b, num_eq c]
      grind]
    rw [Rat.num_intCast]
  unfold rootR rootI
  rw [e1, e2, e3, e4]

structure RFit (a b c : Rat) : Prop where
  ma : Md a
  mb : Md b
  mc : Md c
  aa : Md (a * a)
  bb : Md (b * b)
  bbc : Md (b * b * c)

set_option maxRecDepth 100000 in
set_option maxHeartbeats 4000000 in
theorem rroot_any (a b c : Rat) (w : World) (h : RFit a b c) :
    Calls Tryz.prog 106 #[.string (sQ a), .string (sQ b), .string (sQ c)] w fun e w' => e = .returned (.int .i64 (rootR a b c)) ∧ Below w.heap.size w w' := by
  have HF := Lib.hid h
  have HV := Lib.hid (rootR_eq a b c)
  have ha := sgn_le a.num
  have hb := sgn_le b.num
  have hc := sgn_le c.num
  have ho := sgn_le (a * a - b * b * c).num
  have HA := Lib.hid (fun W => rsignum_any a W h.ma)
  have HB := Lib.hid (fun W => rsignum_any b W h.mb)
  have HC := Lib.hid (fun W => rsignum_any c W h.mc)
  have HO := Lib.hid (fun W => rqorder_any (a * a) (b * b * c) W h.aa h.bbc)
  generalize sgn a.num = X at *
  generalize sgn b.num = Y at *
  generalize sgn c.num = Z at *
  generalize sgn (a * a - b * b * c).num = O at *
  have hm := unit_mul hb hc
  have hm2 := unit_mul ha hm
  have hm3 := unit_mul ha ho
  generalize rootR a b c = R at *
  clear h hb hc
  go_enter Tryz.func106, Tryz.ntmps106
  go_wp2_with fail
  refine (HA.out _).mono ?_
  rintro e w1 ⟨rfl, hb1⟩
  go_wp2_with fail
  refine (HB.out _).mono ?_
  rintro e w2 ⟨rfl, hb2⟩
  replace hb2 := hb1.trans (hb2.mono hb1.size)
  clear hb1
  go_wp2_with fail
  refine (HC.out _).mono ?_
  rintro e w3 ⟨rfl, hb3⟩
  replace hb3 := hb2.trans (hb3.mono hb2.size)
  clear hb2
  by_cases hz : 0 ≤ X * (Y * Z)
  · by_cases hx : X = 0
    · have HR := Lib.hid (show R = Y * Z by rw [HV.out, if_pos hz, if_pos hx])
      subst hx
      go_wp2_with fail
      go_ret
      exact ⟨ret_int HR.out.symm, hb3⟩
    · have HR := Lib.hid (show R = X by rw [HV.out, if_pos hz, if_neg hx])
      go_wp2_with fail
      go_ret
      exact ⟨ret_int HR.out.symm, hb3⟩
  · have HR := Lib.hid (show R = X * O by rw [HV.out, if_neg hz])
    go_wp2_with fail
    refine (rqtimes_any a a _ HF.out.ma HF.out.ma).mono ?_
    rintro e w4 ⟨rfl, hb4⟩
    replace hb4 := hb3.trans (hb4.mono hb3.size)
    clear hb3
    go_wp2_with fail
    refine (rqtimes_any b b _ HF.out.mb HF.out.mb).mono ?_
    rintro e w5 ⟨rfl, hb5⟩
    replace hb5 := hb4.trans (hb5.mono hb4.size)
    clear hb4
    go_wp2_with fail
    refine (rqtimes_any (b * b) c _ HF.out.bb HF.out.mc).mono ?_
    rintro e w6 ⟨rfl, hb6⟩
    replace hb6 := hb5.trans (hb6.mono hb5.size)
    clear hb5
    go_wp2_with fail
    refine (HO.out _).mono ?_
    rintro e w7 ⟨rfl, hb7⟩
    replace hb7 := hb6.trans (hb7.mono hb6.size)
    clear hb6
    go_wp2_with fail
    go_ret
    exact ⟨ret_int HR.out.symm, hb7⟩
end Go.Proofs.YtbdckemkmocdlaaGreatDoor

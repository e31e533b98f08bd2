/- metrolabref01: Parted. -/
import Derived.Test.YtbdckemkmocdlaaGreatDoorZ19
import Derived.Test.YtbdckemkmocdlaaGreatDoorZ13
import Derived.BigQuiet
set_option linter.all false
set_option exponentiation.threshold 2000000
namespace Go.Proofs.YtbdckemkmocdlaaGreatDoor
open Go.RowKit

attribute [local irreducible] sI

theorem tmod_abs (m : Int) {n : Int} (hn : n ≠ 0) : (m.tmod n).natAbs < n.natAbs := by
  rw [Int.natAbs_tmod]; exact Nat.mod_lt _ (by omega)
theorem tmod_sign (m n : Int) : (0 ≤ m → 0 ≤ m.tmod n) ∧ (m ≤ 0 → m.tmod n ≤ 0) := by
  refine ⟨Int.tmod_nonneg n, fun h => ?_⟩
  have := Int.tmod_nonneg n (show 0 ≤ -m by omega)
  rw [Int.neg_tmod] at this; omega
theorem tdiv_abs (m n : Int) : (m.tdiv n).natAbs ≤ m.natAbs := by
  rw [Int.natAbs_tdiv]; exact Nat.div_le_self _ _

/-- the rest is right as it is -/
theorem part_keep {m n : Int} (hn : n ≠ 0) (h : m.tmod n = 0 ∨ (m.tmod n < 0 ∧ n < 0) ∨ (0 < m.tmod n ∧ 0 < n)) :
    m.tmod n = m.fmod n ∧ (m - m.tmod n).tdiv n = m.fdiv n := by
  have e := Int.tmod_add_mul_tdiv m n
  have a := tmod_abs m hn
  have u := floor_unique (m := m) (n := n) (q := m.tdiv n) (r := m.tmod n) (by omega) (by omega)
  refine ⟨u.2.symm, ?_⟩
  rw [u.1, show m - m.tmod n = n * m.tdiv n by omega, Int.mul_tdiv_cancel_left _ hn]
/-- the rest is moved -/
theorem part_move {m n : Int} (hn : n ≠ 0) (h : (m.tmod n < 0 ∧ 0 < n) ∨ (0 < m.tmod n ∧ n < 0)) :
    m.tmod n + n = m.fmod n ∧ (m - (m.tmod n + n)).tdiv n = m.fdiv n := by
  have e := Int.tmod_add_mul_tdiv m n
  have a := tmod_abs m hn
  have e2 : n * (m.tdiv n - 1) = n * m.tdiv n - n := by rw [Int.mul_sub]; omega
  have u := floor_unique (m := m) (n := n) (q := m.tdiv n - 1) (r := m.tmod n + n) (by omega) (by omega)
  refine ⟨u.2.symm, ?_⟩
  rw [u.1, show m - (m.tmod n + n) = n * (m.tdiv n - 1) by omega, Int.mul_tdiv_cancel_left _ hn]

theorem fdiv_abs (m : Int) {n : Int} (hn : n ≠ 0) : (m.fdiv n).natAbs ≤ m.natAbs := by
  have h := floor_eq m n
  have r := fmod_range m hn
  generalize m.fdiv n = q at *
  generalize m.fmod n = t at *
  apply Classical.byContradiction; intro hc
  have hq : m.natAbs + 1 ≤ q.natAbs := by omega
  have h2 : n.natAbs * (m.natAbs + 1) ≤ n.natAbs * q.natAbs := Nat.mul_le_mul_left _ hq
  have h3 : (n * q).natAbs = n.natAbs * q.natAbs := Int.natAbs_mul n q
  have h5 : m.natAbs ≤ n.natAbs * m.natAbs := Nat.le_mul_of_pos_left _ (by omega)
  rw [Nat.mul_add] at h2
  have h4 : (n * q).natAbs ≤ m.natAbs + n.natAbs := by omega
  rcases Int.lt_trichotomy m 0 with hm | hm | hm
  · rcases r with r | r <;> omega
  · rcases r with r | r
    · subst hm; simp at hc; 
      omega
    · omega
  · omega

set_option maxRecDepth 100000 in
set_option maxHeartbeats 4000000 in
theorem rparted_small (m n : Int) (w : World) (hm : Lg 18 m) (hn : Lg 18 n) (h0 : n ≠ 0) :
    Calls Tryz.prog 93 #[.string (sI m), .string (sI n)] w fun e w' => e = .returned (.tuple #[.string (sI (m.fdiv n)), .string (sI (m.fmod n))]) ∧ Below w.heap.size w w' := by
  obtain ⟨m1, m2⟩ := lg18 hm
  obtain ⟨n1, n2⟩ := lg18 hn
  have HM := Lib.hid hm
  have HN := Lib.hid hn
  have t0 : (n == 0) = false := by simpa using h0
  have ta := tmod_abs m h0
  have hq := fdiv_abs m h0
  have PK := Lib.hid (@part_keep m n h0)
  have PM := Lib.hid (@part_move m n h0)
  obtain ⟨t, ht⟩ : ∃ t, m.tmod n = t := ⟨_, rfl⟩
  have eW : IntKind.i64.wrap t = t := IntWalk.i64_in _ (by omega)
  rw [ht] at PK PM ta
  generalize m.fdiv n = q at *
  generalize m.fmod n = r at *
  have HC := Lib.hid (show t = 0 ∨ (t < 0 ∧ n < 0) ∨ (0 < t ∧ 0 < n) ∨ (t < 0 ∧ 0 < n) ∨ (0 < t ∧ n < 0) by omega)
  clear hm hn h0
  go_enter Tryz.func93, Tryz.ntmps93
  go_wp2_with fail
  refine (rbrief_yes m n _ HM.out HN.out).mono ?_
  rintro e w1 ⟨rfl, rfl⟩
  clear HM HN
  rcases (show t = 0 ∨ (t < 0 ∧ n < 0) ∨ (0 < t ∧ 0 < n) ∨ (t < 0 ∧ 0 < n) ∨ (0 < t ∧ n < 0) from HC.out) with h | ⟨h, h'⟩ | ⟨h, h'⟩ | ⟨h, h'⟩ | ⟨h, h'⟩
  · obtain ⟨k1, eq2⟩ := PK.out (Or.inl h)
    subst k1
    subst h
    rw [Int.sub_zero] at eq2
    have HW := Lib.hid (show wrap64 (m.tdiv n) = q by rw [← eq2]; exact IntWalk.wrap64_in _ (by omega))
    have HW2 := Lib.hid eq2
    clear eq2 PK PM
    go_wp2_with fail
    first | rw [HW.out] | rw [HW2.out]
    refine (rof_any q _ (by omega) (by omega)).mono ?_
    rintro e w2 ⟨rfl, hb2⟩
    go_wp2_with fail
    refine (rof_any (0) _ (by omega) (by omega)).mono ?_
    rintro e w3 ⟨rfl, hb3⟩
    go_wp2_with fail
    go_ret2
    exact ⟨rfl, hb2.trans (hb3.mono hb2.size)⟩
  · obtain ⟨k1, eq2⟩ := PK.out (Or.inr (Or.inl ⟨h, h'⟩))
    subst k1
    have tn : (t == 0) = false := by simp; omega
    have d1 : decide (t < 0) = true := by simp; omega
    have d2 : decide (n < 0) = true := by simp; omega
    have HW := Lib.hid (show wrap64 ((m - t).tdiv n) = q by rw [← eq2]; exact IntWalk.wrap64_in _ (by omega))
    have HW2 := Lib.hid eq2
    clear eq2 PK PM
    go_wp2_with fail
    first | rw [HW.out] | rw [HW2.out]
    refine (rof_any q _ (by omega) (by omega)).mono ?_
    rintro e w2 ⟨rfl, hb2⟩
    go_wp2_with fail
    refine (rof_any (t) _ (by omega) (by omega)).mono ?_
    rintro e w3 ⟨rfl, hb3⟩
    go_wp2_with fail
    go_ret2
    exact ⟨rfl, hb2.trans (hb3.mono hb2.size)⟩
  · obtain ⟨k1, eq2⟩ := PK.out (Or.inr (Or.inr ⟨h, h'⟩))
    subst k1
    have tn : (t == 0) = false := by simp; omega
    have d1 : decide (t < 0) = false := by simp; omega
    have d2 : decide (n < 0) = false := by simp; omega
    have HW := Lib.hid (show wrap64 ((m - t).tdiv n) = q by rw [← eq2]; exact IntWalk.wrap64_in _ (by omega))
    have HW2 := Lib.hid eq2
    clear eq2 PK PM
    go_wp2_with fail
    first | rw [HW.out] | rw [HW2.out]
    refine (rof_any q _ (by omega) (by omega)).mono ?_
    rintro e w2 ⟨rfl, hb2⟩
    go_wp2_with fail
    refine (rof_any (t) _ (by omega) (by omega)).mono ?_
    rintro e w3 ⟨rfl, hb3⟩
    go_wp2_with fail
    go_ret2
    exact ⟨rfl, hb2.trans (hb3.mono hb2.size)⟩
  · obtain ⟨k1, eq2⟩ := PM.out (Or.inl ⟨h, h'⟩)
    subst k1
    have tn : (t == 0) = false := by simp; omega
    have d1 : decide (t < 0) = true := by simp; omega
    have d2 : decide (n < 0) = false := by simp; omega
    have HW := Lib.hid (show wrap64 ((m - (t + n)).tdiv n) = q by rw [← eq2]; exact IntWalk.wrap64_in _ (by omega))
    have HW2 := Lib.hid eq2
    clear eq2 PK PM
    go_wp2_with fail
    first | rw [HW.out] | rw [HW2.out]
    refine (rof_any q _ (by omega) (by omega)).mono ?_
    rintro e w2 ⟨rfl, hb2⟩
    go_wp2_with fail
    refine (rof_any (t + n) _ (by omega) (by omega)).mono ?_
    rintro e w3 ⟨rfl, hb3⟩
    go_wp2_with fail
    go_ret2
    exact ⟨rfl, hb2.trans (hb3.mono hb2.size)⟩
  · obtain ⟨k1, eq2⟩ := PM.out (Or.inr ⟨h, h'⟩)
    subst k1
    have tn : (t == 0) = false := by simp; omega
    have d1 : decide (t < 0) = false := by simp; omega
    have d2 : decide (n < 0) = true := by simp; omega
    have HW := Lib.hid (show wrap64 ((m - (t + n)).tdiv n) = q by rw [← eq2]; exact IntWalk.wrap64_in _ (by omega))
    have HW2 := Lib.hid eq2
    clear eq2 PK PM
    go_wp2_with fail
    first | rw [HW.out] | rw [HW2.out]
    refine (rof_any q _ (by omega) (by omega)).mono ?_
    rintro e w2 ⟨rfl, hb2⟩
    go_wp2_with fail
    refine (rof_any (t + n) _ (by omega) (by omega)).mono ?_
    rintro e w3 ⟨rfl, hb3⟩
    go_wp2_with fail
    go_ret2
    exact ⟨rfl, hb2.trans (hb3.mono hb2.size)⟩

theorem part_big {m n : Int} (hn : n ≠ 0) : sv (decide (m < 0) != decide (n < 0)) (m.natAbs / n.natAbs) - (if m.natAbs % n.natAbs ≠ 0 ∧ decide (m < 0) ≠ decide (n < 0) then 1 else 0) = m.fdiv n := by
  have hR : m.natAbs % n.natAbs < n.natAbs := Nat.mod_lt _ (by omega)
  have hS := Nat.div_add_mod m.natAbs n.natAbs
  generalize m.natAbs / n.natAbs = Q at *
  generalize m.natAbs % n.natAbs = R at *
  have hS2 : (n.natAbs : Int) * Q + R = m.natAbs := by exact_mod_cast hS
  by_cases h1 : m < 0
  · by_cases h2 : n < 0
    · have e : n * (Q : Int) = -((n.natAbs : Int) * Q) := by rw [show n = -(n.natAbs : Int) by omega, Int.neg_mul]; simp
      have := floor_unique (m := m) (n := n) (q := Q) (r := -(R : Int)) (by omega) (by omega)
      rw [this.1]; simp [h1, h2, sv]
    · have e : n * (Q : Int) = ((n.natAbs : Int) * Q) := by rw [show n = (n.natAbs : Int) by omega]; simp
      by_cases h3 : R = 0
      · have := floor_unique (m := m) (n := n) (q := -(Q : Int)) (r := 0) (by rw [Int.mul_neg]; omega) (by omega)
        rw [this.1]; simp [h1, h2, h3, sv]
      · have := floor_unique (m := m) (n := n) (q := -(Q : Int) - 1) (r := n - R) (by rw [Int.mul_sub, Int.mul_neg]; omega) (by omega)
        rw [this.1]; simp [h1, h2, h3, sv]
  · by_cases h2 : n < 0
    · have e : n * (Q : Int) = -((n.natAbs : Int) * Q) := by rw [show n = -(n.natAbs : Int) by omega, Int.neg_mul]; simp
      by_cases h3 : R = 0
      · have := floor_unique (m := m) (n := n) (q := -(Q : Int)) (r := 0) (by rw [Int.mul_neg]; omega) (by omega)
        rw [this.1]; simp [h1, h2, h3, sv]
      · have := floor_unique (m := m) (n := n) (q := -(Q : Int) - 1) (r := n + R) (by rw [Int.mul_sub, Int.mul_neg]; omega) (by omega)
        rw [this.1]; simp [h1, h2, h3, sv]
    · have e : n * (Q : Int) = ((n.natAbs : Int) * Q) := by rw [show n = (n.natAbs : Int) by omega]; simp
      have := floor_unique (m := m) (n := n) (q := Q) (r := (R : Int)) (by omega) (by omega)
      rw [this.1]; simp [h1, h2, sv]

set_option maxRecDepth 100000 in
set_option maxHeartbeats 4000000 in
theorem rparted_big (m n : Int) (w : World) (hm : Lg 9000 m) (hn : Lg 9000 n) (h0 : n ≠ 0) (hb : ¬ (Lg 18 m ∧ Lg 18 n)) :
    Calls Tryz.prog 93 #[.string (sI m), .string (sI n)] w fun e w' => e = .returned (.tuple #[.string (sI (m.fdiv n)), .string (sI (m.fmod n))]) ∧ Below w.heap.size w w' := by
  have m1 := hm.dI
  have n1 := hn.dI
  have m2 := hm.sI
  have n2 := hn.sI
  have HM := Lib.hid hm
  have HN := Lib.hid hn
  have HB := Lib.hid hb
  have HV := Lib.hid (part_big (m := m) h0)
  have HR := Lib.hid (show m - m.fdiv n * n = m.fmod n by have := floor_eq m n; rw [Int.mul_comm]; omega)
  have LF := Lib.hid (hm.le (fdiv_abs m h0))
  have hQ : (dI (m.natAbs / n.natAbs)).size ≤ 9000 := Nat.le_trans (dI_le (Nat.div_le_self _ _)) m1
  have hn0 : n.natAbs ≠ 0 := by omega
  have LQ := Lib.hid (show ∀ b, Lg 9000 (sv b (m.natAbs / n.natAbs)) from fun b => by
    have h2 : Lg 9000 ((m.natAbs / n.natAbs : Nat) : Int) := by unfold Lg; rw [← dI_size]; exact hQ
    cases b
    · exact h2
    · exact h2.neg)
  have HZ := Lib.hid (show ((dI (m.natAbs % n.natAbs)).toList == [48]) = decide (m.natAbs % n.natAbs = 0) by
    rw [show dI (m.natAbs % n.natAbs) = sI ((m.natAbs % n.natAbs : Nat) : Int) from rfl, sI_eq_zero]; congr 1; exact propext (by omega))
  have HB1 := Lib.hid (fun W => rbelow_sI m W)
  have HB2 := Lib.hid (fun W => rbelow_sI n W)
  have HS1 := Lib.hid (fun W => rsize_sI m W (by omega))
  have HS2 := Lib.hid (fun W => rsize_sI n W (by omega))
  have HM1 := Lib.hid (fun k W (h1 : Lg 40000 k) => rminus_any k 1 W h1 (((lg_iff (a := 1) (by omega)).2 (by decide)).mono (by omega)))
  rw [← sI_one] at HM1
  have HT := Lib.hid (fun W => rtimes_any (m.fdiv n) n W (LF.out.mono (by omega)) (hn.mono (by omega)))
  have LT := Lib.hid ((LF.out.mul hn).mono (show 9000 + 9000 ≤ 40000 by omega))
  clear hm hn hb h0
  generalize m.fdiv n = q at *
  generalize m.fmod n = r at *
  generalize hS : m.natAbs = S at *
  generalize hN : n.natAbs = N at *
  clear hS hN
  go_enter Tryz.func93, Tryz.ntmps93
  go_wp2_with fail
  refine (rbrief_no m n _ (HM.out.mono (by omega)) (HN.out.mono (by omega)) HB.out).mono ?_
  rintro e w1 ⟨rfl, rfl⟩
  clear HB
  generalize decide (m < 0) = a at *
  generalize decide (n < 0) = b at *
  go_wp2_with fail
  refine (HS1.out _).mono ?_
  rintro e w1 ⟨rfl, rfl⟩
  go_wp2_with fail
  refine (HS2.out _).mono ?_
  rintro e w1 ⟨rfl, rfl⟩
  go_wp2_with fail
  refine (rdivided_any S N _ hn0 (by omega) (by omega)).mono ?_
  rintro e w2 ⟨rfl, hb2⟩
  go_wp2_with fail
  refine (HB1.out _).mono ?_
  rintro e w3 ⟨rfl, rfl⟩
  go_wp2_with fail
  refine (HB2.out _).mono ?_
  rintro e w3 ⟨rfl, rfl⟩
  go_wp2_with fail
  refine (signed_any _ _ _ (by omega)).mono ?_
  rintro e w3 ⟨rfl, rfl⟩
  generalize S / N = Q at *
  generalize S % N = R at *
  by_cases hR0 : R = 0
  · have hz : ((dI R).toList == [48]) = true := by rw [HZ.out]; exact decide_eq_true hR0
    have HQ := Lib.hid (show sv (!a == b) Q = q by have := HV.out; rw [if_neg (by simp [hR0])] at this; rw [← this]; simp [bne])
    clear hR0
    go_wp2_with fail
    rw [HQ.out]
    refine (HT.out _).mono ?_
    rintro e w4 ⟨rfl, hb4⟩
    have hb5 := hb2.trans (hb4.mono hb2.size)
    go_wp2_with fail
    refine (rminus_any m (q * n) _ (HM.out.mono (by omega)) LT.out).mono ?_
    rintro e w6 ⟨rfl, hb6⟩
    go_wp2_with fail
    go_ret2
    exact ⟨by rw [HR.out]; rfl, hb5.trans (hb6.mono hb5.size)⟩
  · have hz : ((dI R).toList == [48]) = false := by rw [HZ.out]; exact decide_eq_false hR0
    by_cases hab : a = b
    · have hab2 : (a == b) = true := by simpa using hab
      have HQ := Lib.hid (show sv false Q = q by have := HV.out; rw [if_neg (by simp [hab])] at this; rw [← this, hab]; simp)
      clear hR0 hab
      go_wp2_with fail
      refine (HB1.out _).mono ?_
      rintro e w3 ⟨rfl, rfl⟩
      go_wp2_with fail
      refine (HB2.out _).mono ?_
      rintro e w3 ⟨rfl, rfl⟩
      go_wp2_with fail
      rw [HQ.out]
      refine (HT.out _).mono ?_
      rintro e w4 ⟨rfl, hb4⟩
      have hb5 := hb2.trans (hb4.mono hb2.size)
      go_wp2_with fail
      refine (rminus_any m (q * n) _ (HM.out.mono (by omega)) LT.out).mono ?_
      rintro e w6 ⟨rfl, hb6⟩
      go_wp2_with fail
      go_ret2
      exact ⟨by rw [HR.out]; rfl, hb5.trans (hb6.mono hb5.size)⟩
    · have hab2 : (a == b) = false := by simpa using hab
      have HQ := Lib.hid (show sv true Q - 1 = q by have := HV.out; rw [if_pos ⟨hR0, hab⟩] at this; rw [← this]; simp [bne, hab2])
      clear hR0 hab
      go_wp2_with fail
      refine (HB1.out _).mono ?_
      rintro e w3 ⟨rfl, rfl⟩
      go_wp2_with fail
      refine (HB2.out _).mono ?_
      rintro e w3 ⟨rfl, rfl⟩
      go_wp2_with fail
      refine (HM1.out _ _ ((LQ.out true).mono (by omega))).mono ?_
      rintro e w7 ⟨rfl, hb7⟩
      have hb8 := hb2.trans (hb7.mono hb2.size)
      go_wp2_with fail
      rw [HQ.out]
      refine (HT.out _).mono ?_
      rintro e w4 ⟨rfl, hb4⟩
      have hb5 := hb8.trans (hb4.mono hb8.size)
      go_wp2_with fail
      refine (rminus_any m (q * n) _ (HM.out.mono (by omega)) LT.out).mono ?_
      rintro e w6 ⟨rfl, hb6⟩
      go_wp2_with fail
      go_ret2
      exact ⟨by rw [HR.out]; rfl, hb5.trans (hb6.mono hb5.size)⟩

theorem rparted_any (m n : Int) (w : World) (hm : Lg 9000 m) (hn : Lg 9000 n) (h0 : n ≠ 0) :
    Calls Tryz.prog 93 #[.string (sI m), .string (sI n)] w fun e w' => e = .returned (.tuple #[.string (sI (m.fdiv n)), .string (sI (m.fmod n))]) ∧ Below w.heap.size w w' := by
  by_cases h : Lg 18 m ∧ Lg 18 n
  · exact rparted_small m n w h.1 h.2 h0
  · exact rparted_big m n w hm hn h0 h
end Go.Proofs.YtbdckemkmocdlaaGreatDoor

/- metrolabref01: Shared, Check. -/
namespace Go.Proofs.YtbdckemkmocdlaaGreatDoor
open Go.RowKit

attribute [local irreducible] sI

theorem fmod_nat (x y : Nat) : (x : Int).fmod (y : Int) = ((x % y : Nat) : Int) := by rw [Int.fmod_eq_emod_of_nonneg _ (by omega)]; rfl
theorem nat_zero_text (y : Nat) : ((sI (y : Int)).toList == [48]) = decide (y = 0) := by rw [sI_eq_zero]; congr 1; exact propext (by omega)

set_option maxRecDepth 100000 in
set_option maxHeartbeats 4000000 in
theorem rshared_any (m n : Int) (w : World) (hm : Lg 9000 m) (hn : Lg 9000 n) :
    Calls Tryz.prog 77 #[.string (sI m), .string (sI n)] w fun e w' => e = .returned (.string (sI (Int.gcd m n : Nat))) ∧ Below w.heap.size w w' := by
  have m1 := hm.dI
  have n1 := hn.dI
  have m2 := hm.sI
  have n2 := hn.sI
  have HM := Lib.hid (show Lg 9000 (m.natAbs : Int) from hm)
  have HN := Lib.hid (show Lg 9000 (n.natAbs : Int) from hn)
  have HS1 := Lib.hid (fun W => rsize_sI m W (by omega))
  have HS2 := Lib.hid (fun W => rsize_sI n W (by omega))
  have HG := Lib.hid (show Nat.gcd m.natAbs n.natAbs = Int.gcd m n from rfl)
  generalize Int.gcd m n = G at *
  generalize m.natAbs = u at *
  generalize n.natAbs = v at *
  clear hm hn
  go_enter Tryz.func77, Tryz.ntmps77
  go_wp2_with fail
  refine (HS1.out _).mono ?_
  rintro e w1 ⟨rfl, rfl⟩
  go_wp2_with fail
  refine (signed_any u false _ (by omega)).mono ?_
  rintro e w1 ⟨rfl, rfl⟩
  go_wp2_with fail
  refine (HS2.out _).mono ?_
  rintro e w1 ⟨rfl, rfl⟩
  go_wp2_with fail
  refine (signed_any v false _ (by omega)).mono ?_
  rintro e w1 ⟨rfl, rfl⟩
  go_wp2_with fail
  go_loopg [0, 1] v (fun k p q wr => ∃ x : Nat, p = .string (sI x) ∧ q = .string (sI k) ∧ Hid (Lg 9000 (x : Int)) ∧ Hid (Lg 9000 (k : Int)) ∧ Hid (Nat.gcd x k = G) ∧ Below w.heap.size w wr)
  case atStart => exact ⟨u, rfl, rfl, HM, HN, HG, Below.refl _ _⟩
  case round =>
    obtain ⟨x, rfl, rfl, lx, lk, hg, hb⟩ := hrel
    have hz := nat_zero_text gk
    by_cases h0 : gk = 0
    · rw [decide_eq_true h0] at hz
      have HV := Lib.hid (show x = G by have := hg.out; rw [h0] at this; simpa using this)
      clear h0
      go_wp2_with fail
      go_ret
      exact ⟨ret_ba (by rw [HV.out]), hb⟩
    · rw [decide_eq_false h0] at hz
      have hlt : x % gk < gk := Nat.mod_lt _ (by omega)
      have HG2 := Lib.hid (show Nat.gcd gk (x % gk) = G by rw [← hg.out, Nat.gcd_comm x gk, Nat.gcd_rec gk x, Nat.gcd_comm])
      by_cases h18 : Lg 18 (x : Int) ∧ Lg 18 (gk : Int)
      · have H18 := Lib.hid h18
        have lx1 := lg18 h18.1
        have lk1 := lg18 h18.2
        clear h18 h0
        go_wp2_with fail
        refine (rbrief_yes _ _ _ H18.out.1 H18.out.2).mono ?_
        rintro e w1 ⟨rfl, rfl⟩
        clear H18
        go_wp2_with fail
        go_loopg [5, 6] gk (fun k p q wr2 => ∃ (a1 : Nat), p = .int .i64 a1 ∧ q = .int .i64 k ∧ a1 < 1000000000000000000 ∧ k < 1000000000000000000 ∧ Hid (Nat.gcd a1 k = G) ∧ ∃ nq, wr2 = wr.drewN nq)
        case atStart => exact ⟨x, rfl, rfl, by omega, by omega, hg, 0, rfl⟩
        case round =>
          clear lx1 lk1 hg hlt HG2 hz lx lk
          obtain ⟨a1, rfl, rfl, l1, l2, hg1, n2, rfl⟩ := hrel
          have hb2 : Below w.heap.size w (wr.drewN n2) := hb.trans (below_same _ _ _)
          by_cases h0 : gk = 0
          · subst h0
            have HGA := Lib.hid (show a1 = G by simpa using hg1.out)
            clear hg1
            go_wp2_with fail
            refine (rof_any a1 _ (by omega) (by omega)).mono ?_
            rintro e w5 ⟨rfl, hb5⟩
            go_wp2
            go_ret
            exact ⟨ret_ba (by rw [HGA.out]), hb2.trans (hb5.mono hb2.size)⟩
          · have t0 : ((gk : Int) == 0) = false := by simpa using h0
            have er : (a1 : Int).tmod gk = ((a1 % gk : Nat) : Int) := by rw [Int.tmod_eq_emod_of_nonneg (by omega)]; rfl
            have hlt : a1 % gk < gk := Nat.mod_lt _ (by omega)
            have eW : IntKind.i64.wrap ((a1 % gk : Nat) : Int) = ((a1 % gk : Nat) : Int) := IntWalk.i64_in _ (by omega)
            have HG2 := Lib.hid (show Nat.gcd gk (a1 % gk) = G by rw [← hg1.out, Nat.gcd_comm a1 gk, Nat.gcd_rec gk a1, Nat.gcd_comm])
            clear hg1
            go_wp2_with fail
            go_quiet (fail)
            go_wp2_with fail
            go_roundg (a1 % gk)
            case measure => exact hlt
            case rel =>
              obtain ⟨mq, hmq⟩ := drew2 wr n2 nq
              exact ⟨gk, rfl, rfl, l2, by omega, HG2, mq, hmq⟩
      · have H18 := Lib.hid h18
        have HP := Lib.hid (fun W => rparted_any (x : Int) (gk : Int) W lx.out lk.out (by omega))
        have HL := Lib.hid (show Lg 9000 ((x % gk : Nat) : Int) from lx.out.le (by simp; exact Nat.mod_le _ _))
        rw [fmod_nat] at HP
        clear h18
        go_wp2_with fail
        refine (rbrief_no _ _ _ (lx.out.mono (by omega)) (lk.out.mono (by omega)) H18.out).mono ?_
        rintro e w1 ⟨rfl, rfl⟩
        go_wp2_with fail
        refine (HP.out _).mono ?_
        rintro e w5 ⟨rfl, hb5⟩
        go_wp2_with fail
        go_roundg (x % gk)
        case measure => exact hlt
        case rel => exact ⟨gk, rfl, rfl, lk, HL, HG2, hb.trans (hb5.mono hb.size)⟩
end Go.Proofs.YtbdckemkmocdlaaGreatDoor

/- metrolabref01: Check. -/
namespace Go.Proofs.YtbdckemkmocdlaaGreatDoor
open Go.RowKit

theorem chkW_not_dig {l : List UInt8} (h : ¬ ∀ c ∈ Lib.trimPrefix l [45], isDig c) : chkW l = 3 := by
  unfold chkW
  by_cases h1 : Lib.trimPrefix l [45] = []
  · rw [if_pos h1]
  · rw [if_neg h1, if_pos (fun e => h ((trimS_nil _).1 e))]
theorem chkW_zero {l : List UInt8} (h : (Lib.trimPrefix l [45]).head? = some 48 ∧ l ≠ [48]) : chkW l = 3 := by
  unfold chkW
  by_cases h1 : Lib.trimPrefix l [45] = []
  · rw [if_pos h1]
  · rw [if_neg h1]
    by_cases h2 : Lib.trimS (Lib.trimPrefix l [45]) digits10 ≠ []
    · rw [if_pos h2]
    · rw [if_neg h2, if_pos h]
theorem chkW_rest {l : List UInt8} (h1 : Lib.trimPrefix l [45] ≠ []) (h2 : ∀ c ∈ Lib.trimPrefix l [45], isDig c) (h3 : ¬ ((Lib.trimPrefix l [45]).head? = some 48 ∧ l ≠ [48])) :
    chkW l = if 1024 < (Lib.trimPrefix l [45]).length then 11 else 0 := by
  unfold chkW
  rw [if_neg h1, if_neg (by rw [(trimS_nil _).2 h2]; simp), if_neg h3]

/-- a zero in front: more than one byte -/
theorem zero_long {l : List UInt8} (h : (Lib.trimPrefix l [45]).head? = some 48) : l ≠ [48] ↔ (1 < (Lib.trimPrefix l [45]).length ∨ 1 < l.length) := by
  constructor
  · intro hn
    right
    cases l with
    | nil => simp [Lib.trimPrefix, Lib.hasPrefix] at h
    | cons c r =>
      cases r with
      | cons => simp
      | nil =>
        by_cases hc : c = 45
        · subst hc; simp [Lib.trimPrefix, Lib.hasPrefix] at h
        · rw [trimPre_other (by simpa using hc)] at h; simp at h; subst h; exact absurd rfl hn
  · rintro h1 rfl
    rw [trimPre_other (by simp)] at h1; simp at h1

set_option maxRecDepth 100000 in
set_option maxHeartbeats 4000000 in
theorem rcheck_loop (s d : ByteArray) (w : World) (hs : s.size ≤ 1000000) (hd : szT s = d) (hp : 0 < d.size)
    (h0 : (((d[0]'hp).toNat : Int) == 48) = false ∨ ((((d[0]'hp).toNat : Int) == 48) = true ∧ ¬ (1 < (d.size : Int)) ∧ ¬ (1 < (s.size : Int)))) :
    Calls Tryz.prog 74 #[.string s] w fun e w' => e = .returned (.int .i64 (chkW s.data.toList)) ∧ w = w' := by
  have hdl : d.data.toList = Lib.trimPrefix s.data.toList [45] := by rw [← hd, szT_list]
  have HR := Lib.hid (fun W => rsize_any s W hs)
  rw [hd] at HR
  have he : d.toList.isEmpty = false := str_f (by intro e; rw [ba_size, e] at hp; simp at hp)
  have HD := Lib.hid hdl
  have hds : d.size ≤ 1000000 := by
    have := trimPrefix_len s.data.toList [45]
    rw [ba_size, hdl]; rw [ba_size] at hs; omega
  have HNZ := Lib.hid (show ¬ ((Lib.trimPrefix s.data.toList [45]).head? = some 48 ∧ s.data.toList ≠ [48]) by
    rintro ⟨e1, e2⟩
    rw [← hdl] at e1
    have e3 := (head_ba d hp 48).1 e1
    have e4 := (zero_long (by rw [← hdl]; exact e1)).1 e2
    rw [← hdl, ← ba_size, ← ba_size] at e4
    rcases h0 with h0 | ⟨_, h1, h2⟩
    · simp at h0; exact h0 e3
    · omega)
  have hsg : ∀ k, ∀ hk : k < d.size, isDig (d.data.toList[k]'(by rw [← ba_size]; exact hk)) ↔ 48 ≤ ((d[k].toNat : Nat) : Int) ∧ ((d[k].toNat : Nat) : Int) ≤ 57 := by
    intro k hk
    have e : d[k] = d.data.toList[k]'(by rw [← ba_size]; exact hk) := (Array.getElem_toList _).symm
    rw [e]; unfold isDig; omega
  have HSG := Lib.hid hsg
  clear hd hdl hsg
  rcases h0 with h0 | ⟨h0, h1, h2⟩
  all_goals
    go_enter Tryz.func74, Tryz.ntmps74
    go_wp2_with fail
    refine (HR.out _).mono ?_
    rintro e w1 ⟨rfl, rfl⟩
    go_wp2_with fail
    go_loopw [4] (fun i wr => ∃ k : Nat, i = .int .i64 k ∧ k ≤ d.size ∧ Hid (∀ c ∈ d.data.toList.take k, isDig c) ∧ w = wr) (fun i _ => d.size - (intOf i).toNat)
    case atStart => exact ⟨0, rfl, Nat.zero_le _, Lib.hid (by simp), rfl⟩
    case round =>
      obtain ⟨k, rfl, hk, hdg, rfl⟩ := hrel
      by_cases hlt : k < d.size
      · have hlk : k < d.data.toList.length := by rw [← ba_size]; exact hlt
        rcases (show ((d[k].toNat : Nat) : Int) < 48 ∨ 57 < ((d[k].toNat : Nat) : Int) ∨ (48 ≤ ((d[k].toNat : Nat) : Int) ∧ ((d[k].toNat : Nat) : Int) ≤ 57) by omega) with hc | hc | hc
        · have HV := Lib.hid (show chkW s.data.toList = 3 from chkW_not_dig (fun h => by
            rw [← HD.out] at h
            have := (HSG.out k hlt).1 (h _ (List.getElem_mem hlk)); omega))
          go_wp2_with fail
          go_ret
          exact ⟨ret_int HV.out.symm, rfl⟩
        · have HV := Lib.hid (show chkW s.data.toList = 3 from chkW_not_dig (fun h => by
            rw [← HD.out] at h
            have := (HSG.out k hlt).1 (h _ (List.getElem_mem hlk)); omega))
          have hc2 : ¬ ((d[k].toNat : Nat) : Int) < 48 := by omega
          go_wp2_with fail
          go_ret
          exact ⟨ret_int HV.out.symm, rfl⟩
        · obtain ⟨c1, c2⟩ := hc
          have HN := Lib.hid (show ∀ c ∈ d.data.toList.take (k + 1), isDig c by
            intro c hc
            rw [List.take_succ_eq_append_getElem hlk, List.mem_append] at hc
            rcases hc with hc | hc
            · exact hdg.out c hc
            · rw [List.mem_singleton.1 hc]; exact (HSG.out k hlt).2 ⟨c1, c2⟩)
          have c3 : ¬ ((d[k].toNat : Nat) : Int) < 48 := by omega
          have c4 : ¬ 57 < ((d[k].toNat : Nat) : Int) := by omega
          go_wp2_with fail
          exact ⟨⟨k + 1, by simp, by omega, HN, trivial⟩, by simp [intOf]; omega⟩
      · have hkd : k = d.size := by omega
        have HA := Lib.hid (show ∀ c ∈ Lib.trimPrefix s.data.toList [45], isDig c by
          have h5 := hdg.out
          rw [hkd, ba_size, List.take_length, HD.out] at h5; exact h5)
        have HE := Lib.hid (show Lib.trimPrefix s.data.toList [45] ≠ [] by
          rw [← HD.out]; intro e; rw [ba_size, e] at hp; simp at hp)
        have HV := Lib.hid (chkW_rest HE.out HA.out HNZ.out)
        rw [← HD.out, ← ba_size] at HV
        clear hkd
        by_cases hL : 1024 < d.size
        · rw [if_pos hL] at HV
          go_wp2_with fail
          all_goals
            go_ret
            exact ⟨ret_int HV.out.symm, rfl⟩
        · rw [if_neg hL] at HV
          go_wp2_with fail
          go_ret
          exact ⟨ret_int HV.out.symm, rfl⟩

set_option maxRecDepth 100000 in
set_option maxHeartbeats 4000000 in
theorem rcheck_any (s : ByteArray) (w : World) (hs : s.size ≤ 1000000) :
    Calls Tryz.prog 74 #[.string s] w fun e w' => e = .returned (.int .i64 (chkW s.data.toList)) ∧ w = w' := by
  obtain ⟨d, hd⟩ : ∃ d, szT s = d := ⟨_, rfl⟩
  have hdl : d.data.toList = Lib.trimPrefix s.data.toList [45] := by rw [← hd, szT_list]
  have HR := Lib.hid (fun W => rsize_any s W hs)
  rw [hd] at HR
  by_cases hp : 0 < d.size
  · have hh := head_ba d hp 48
    by_cases h48 : d.data.toList.head? = some 48
    · have t1 : ((d[0]'hp).toNat : Int) = 48 := hh.1 h48
      have zl := zero_long (l := s.data.toList) (by rw [← hdl]; exact h48)
      rw [← hdl, ← ba_size, ← ba_size] at zl
      by_cases hlong : 1 < d.size ∨ 1 < s.size
      · have HV := Lib.hid (chkW_zero (l := s.data.toList) ⟨by rw [← hdl]; exact h48, zl.2 hlong⟩)
        have he : d.toList.isEmpty = false := str_f (by intro e; rw [ba_size, e] at hp; simp at hp)
        clear hh h48 zl hd hdl
        by_cases hd1 : 1 < d.size
        · clear hlong
          go_enter Tryz.func74, Tryz.ntmps74
          go_wp2_with fail
          refine (HR.out _).mono ?_
          rintro e w1 ⟨rfl, rfl⟩
          go_wp2_with fail
          go_ret
          exact ⟨ret_int HV.out.symm, rfl⟩
        · have hs1 : 1 < s.size := by omega
          clear hlong
          go_enter Tryz.func74, Tryz.ntmps74
          go_wp2_with fail
          refine (HR.out _).mono ?_
          rintro e w1 ⟨rfl, rfl⟩
          go_wp2_with fail
          go_ret
          exact ⟨ret_int HV.out.symm, rfl⟩
      · exact rcheck_loop s d w hs hd hp (Or.inr ⟨by simpa using t1, by omega, by omega⟩)
    · exact rcheck_loop s d w hs hd hp (Or.inl (by simpa using fun e => h48 (hh.2 e)))
  · have hn : d.data.toList = [] := by
      have h1 := ba_size d
      cases h : d.data.toList with
      | nil => rfl
      | cons => rw [h] at h1; simp at h1; omega
    have he : d.toList.isEmpty = true := str_t hn
    have HV := Lib.hid (show chkW s.data.toList = 3 by unfold chkW; rw [if_pos (by rw [← hdl]; exact hn)])
    clear hd hdl hn
    go_enter Tryz.func74, Tryz.ntmps74
    go_wp2_with fail
    refine (HR.out _).mono ?_
    rintro e w1 ⟨rfl, rfl⟩
    go_wp2_with fail
    go_ret
    exact ⟨ret_int HV.out.symm, rfl⟩
end Go.Proofs.YtbdckemkmocdlaaGreatDoor

/- metrolabref02: slash, Split. -/
namespace Go.Proofs.YtbdckemkmocdlaaGreatDoor
open Go.RowKit

attribute [local irreducible] sI sQ

set_option maxRecDepth 100000 in
set_option maxHeartbeats 2000000 in
theorem slash_none (s : ByteArray) (w : World) (hs : s.size ≤ 1000000) (h : (47 : UInt8) ∉ s.data.toList) :
    Calls Tryz.prog 75 #[.string s] w fun e w' => e = .returned (.int .i64 (-1)) ∧ w = w' := by
  have H := Lib.hid (show ∀ k, ∀ hk : k < s.size, (((s[k].toNat : Nat) : Int) == 47) = false from fun k hk => by
    have hl : k < s.data.toList.length := by rw [← ba_size]; exact hk
    have e : s[k] = s.data.toList[k] := (Array.getElem_toList _).symm
    refine beq_eq_false_iff_ne.2 fun h2 => ?_
    rw [e] at h2
    exact h (by rw [show (47 : UInt8) = s.data.toList[k] from (UInt8.toNat_inj.1 (by show 47 = _; omega))]; exact List.getElem_mem hl))
  clear h
  go_enter Tryz.func75, Tryz.ntmps75
  go_wp2_with fail
  go_loopw [3] (fun i wr => ∃ k : Nat, i = .int .i64 k ∧ k ≤ s.size ∧ w = wr) (fun i _ => s.size - (intOf i).toNat)
  case atStart => exact ⟨0, rfl, Nat.zero_le _, rfl⟩
  case round =>
    obtain ⟨k, rfl, hk, rfl⟩ := hrel
    by_cases hlt : k < s.size
    · have t := H.out k hlt
      go_wp2_with fail
      exact ⟨⟨k + 1, by simp, by omega, trivial⟩, by simp [intOf]; omega⟩
    · go_wp2_with fail
      go_ret
      exact ⟨rfl, rfl⟩

set_option maxRecDepth 100000 in
set_option maxHeartbeats 2000000 in
theorem slash_some (s : ByteArray) (a r : List UInt8) (w : World) (hs : s.size ≤ 1000000) (hsl : s.data.toList = a ++ 47 :: r) (h : (47 : UInt8) ∉ a) :
    Calls Tryz.prog 75 #[.string s] w fun e w' => e = .returned (.int .i64 a.length) ∧ w = w' := by
  have hlen : a.length < s.size := by rw [ba_size, hsl]; simp
  have H := Lib.hid (show ∀ k, ∀ hk : k < s.size, k < a.length → (((s[k].toNat : Nat) : Int) == 47) = false from fun k hk hka => by
    have hl : k < s.data.toList.length := by rw [← ba_size]; exact hk
    have e : s[k] = s.data.toList[k] := (Array.getElem_toList _).symm
    have e2 : s.data.toList[k] = a[k] := by simp only [hsl]; exact List.getElem_append_left hka
    refine beq_eq_false_iff_ne.2 fun h2 => ?_
    rw [e, e2] at h2
    exact h (by rw [show (47 : UInt8) = a[k] from (UInt8.toNat_inj.1 (by show 47 = _; omega))]; exact List.getElem_mem hka))
  have H2 := Lib.hid (show ((s[a.length]'hlen).toNat : Int) = 47 by
    have hl : a.length < s.data.toList.length := by rw [← ba_size]; exact hlen
    have e : s[a.length] = s.data.toList[a.length] := (Array.getElem_toList _).symm
    rw [e]; simp only [hsl]; rw [List.getElem_append_right (by omega)]; simp)
  clear h hsl
  go_enter Tryz.func75, Tryz.ntmps75
  go_wp2_with fail
  go_loopw [3] (fun i wr => ∃ k : Nat, i = .int .i64 k ∧ k ≤ a.length ∧ w = wr) (fun i _ => s.size - (intOf i).toNat)
  case atStart => exact ⟨0, rfl, Nat.zero_le _, rfl⟩
  case round =>
    obtain ⟨k, rfl, hk, rfl⟩ := hrel
    by_cases hlt : k < a.length
    · have t := H.out k (by omega) hlt
      go_wp2_with fail
      exact ⟨⟨k + 1, by simp, by omega, trivial⟩, by simp [intOf]; omega⟩
    · obtain rfl : k = a.length := by omega
      have t := H2.out
      go_wp2_with fail
      go_ret
      exact ⟨rfl, rfl⟩

theorem ret_ss2 {a b c d : ByteArray} (h : a = b) (h2 : c = d) : Ending.returned (.tuple #[.string a, .string c]) = .returned (.tuple #[.string b, .string d]) := by rw [h, h2]

theorem cutQ_cases {s a b : ByteArray} {t : Bool} (h : cutQ s.data.toList = (a.data.toList, b.data.toList, t)) :
    (t = false ∧ (47 : UInt8) ∉ s.data.toList ∧ a = s ∧ b = ⟨#[49]⟩) ∨ (t = true ∧ s.data.toList = a.data.toList ++ 47 :: b.data.toList ∧ (47 : UInt8) ∉ a.data.toList) := by
  unfold cutQ at h
  rcases slash_cases s.data.toList with hn | ⟨p, r, h1, h2⟩
  · left
    rw [cut_none hn] at h
    dsimp only at h
    rw [Prod.mk.injEq, Prod.mk.injEq] at h
    exact ⟨h.2.2.symm, hn, ByteArray.ext (Array.toList_inj.1 h.1.symm), (ba_eq (l := [49]) (by rw [← h.2.1]; rfl)).symm⟩
  · right
    rw [h1, cut_some h2] at h
    simp at h
    obtain ⟨rfl, rfl, rfl⟩ := h
    exact ⟨rfl, h1, h2⟩

set_option maxRecDepth 100000 in
set_option maxHeartbeats 2000000 in
theorem split_any (s a b : ByteArray) (t : Bool) (w : World) (hs : s.size ≤ 1000000) (hc : cutQ s.data.toList = (a.data.toList, b.data.toList, t)) :
    Calls Tryz.prog 73 #[.string s] w fun e w' => e = .returned (.tuple #[.string a, .string b]) ∧ Below w.heap.size w w' := by
  rcases cutQ_cases hc with ⟨rfl, h1, rfl, rfl⟩ | ⟨rfl, h1, h2⟩
  · have H := Lib.hid h1
    clear hc h1
    go_enter Tryz.func73, Tryz.ntmps73
    go_wp2_with fail
    refine (slash_none _ _ hs H.out).mono ?_
    rintro e w1 ⟨rfl, rfl⟩
    go_wp2_with fail
    go_ret2
    exact ⟨rfl, Below.refl _ _⟩
  · have H1 := Lib.hid h1
    have H2 := Lib.hid h2
    have hlen : a.size + 1 + b.size = s.size := by rw [ba_size s, h1, ba_size, ba_size]; simp; omega
    have HA := Lib.hid (show s.extract 0 a.size = a from by
      refine ByteArray.ext (Array.toList_inj.1 ?_)
      rw [Lib.extract_data, h1, ba_size]; simp)
    have HB := Lib.hid (show s.extract (a.size + 1) s.size = b from by
      refine ByteArray.ext (Array.toList_inj.1 ?_)
      rw [Lib.extract_data, List.take_of_length_le (by rw [List.length_drop, ← ba_size s]; exact Nat.le_refl _), h1, ba_size, show a.data.toList ++ 47 :: b.data.toList = (a.data.toList ++ [47]) ++ b.data.toList by simp, show a.data.toList.length + 1 = (a.data.toList ++ [47]).length by simp, List.drop_left])
    have HL := Lib.hid (show a.data.toList.length = a.size from (ba_size a).symm)
    clear hc h1 h2
    go_enter Tryz.func73, Tryz.ntmps73
    go_wp2_with fail
    refine (slash_some _ _ _ _ hs H1.out H2.out).mono ?_
    rintro e w1 ⟨rfl, rfl⟩
    rw [HL.out]
    go_wp2_with fail
    go_quiet (fail)
    go_wp2_with fail
    go_ret2
    exact ⟨ret_ss2 HA.out HB.out, below_same _ _ _⟩
end Go.Proofs.YtbdckemkmocdlaaGreatDoor

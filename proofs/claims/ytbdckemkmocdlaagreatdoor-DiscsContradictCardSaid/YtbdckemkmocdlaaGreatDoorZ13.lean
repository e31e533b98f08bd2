/- whole.parted and Quo, where nothing is left. -/
import Derived.Test.YtbdckemkmocdlaaGreatDoorZ12
import Derived.Test.YtbdckemkmocdlaaGreatDoorZ08
import Derived.BigRegion
import Derived.Test.YtbdckemkmocdlaaGreatDoorZ03
set_option linter.unusedVariables false
set_option linter.unusedSimpArgs false
namespace Go.Proofs.YtbdckemkmocdlaaGreatDoor
open Go.RowKit

theorem exact_small {m n : Int} (hn : n ≠ 0) (hd : n ∣ m) : m.tdiv n = m / n ∧ m.tmod n = 0 := by
  obtain ⟨k, rfl⟩ := hd
  rw [Int.mul_tdiv_cancel_left k hn, Int.mul_ediv_cancel_left k hn, Int.mul_tmod_right]; exact ⟨rfl, rfl⟩

theorem exact_abs {m n : Int} (hn : n ≠ 0) (hd : n ∣ m) : m.natAbs % n.natAbs = 0 ∧ sv (decide (m < 0) != decide (n < 0)) (m.natAbs / n.natAbs) = m / n := by
  obtain ⟨k, rfl⟩ := hd
  rw [Int.mul_ediv_cancel_left k hn, Int.natAbs_mul, Nat.mul_mod_right, Nat.mul_div_cancel_left _ (by omega)]
  refine ⟨rfl, ?_⟩
  unfold sv
  rcases Int.lt_trichotomy n 0 with h1 | h1 | h1
  · rcases Int.lt_trichotomy k 0 with h2 | h2 | h2
    · have : 0 < n * k := Int.mul_pos_of_neg_of_neg h1 h2
      rw [decide_eq_false (by omega), decide_eq_true h1]; simp; omega
    · subst h2; simp
    · have : n * k < 0 := Int.mul_neg_of_neg_of_pos h1 h2
      rw [decide_eq_true this, decide_eq_true h1]; simp; omega
  · exact absurd h1 hn
  · rcases Int.lt_trichotomy k 0 with h2 | h2 | h2
    · have : n * k < 0 := Int.mul_neg_of_pos_of_neg h1 h2
      rw [decide_eq_true this, decide_eq_false (by omega)]; simp; omega
    · subst h2; simp
    · have : 0 < n * k := Int.mul_pos h1 h2
      rw [decide_eq_false (by omega), decide_eq_false (by omega)]; simp; omega

theorem fit_div {m n : Int} (hm : Fit m) : Fit (m / n) := by
  unfold Fit at *
  rw [dec_len_le _ _ (by omega)] at *
  refine Nat.lt_of_le_of_lt ?_ hm
  exact Int.natAbs_ediv_le_natAbs m n

set_option maxRecDepth 100000 in
set_option maxHeartbeats 4000000 in
theorem parted_small (m n : Int) (w : World) (hm : Fit m) (hn : Fit n) (hn0 : n ≠ 0) (hd : n ∣ m) (hs1 : (sI m).size ≤ 9) (hs2 : (sI n).size ≤ 9) (he : Env w) :
    Calls Tryz.prog 206 #[.string (sI m), .string (sI n)] w fun e w' => e = .returned (.tuple #[.string (sI (m / n)), .string (sI 0), .int .i64 0]) ∧ Below w.heap.size w w' := by
  have KE := Lib.hid (show ∀ W, Below w.heap.size w W → Env W from fun W hW => he.below hW)
  have hz := sI_eq_zero n
  rw [decide_eq_false hn0] at hz
  have hx := exact_small hn0 hd
  obtain ⟨m1, m2⟩ := sI_short hs1
  obtain ⟨n1, n2⟩ := sI_short hs2
  have hq : (m / n).natAbs ≤ m.natAbs := Int.natAbs_ediv_le_natAbs m n
  have q1 : -999999999 ≤ m / n := by omega
  have q2 : m / n ≤ 999999999 := by omega
  obtain ⟨x1, x2⟩ := hx
  have hn0' : (n == 0) = false := by simpa using hn0
  clear he hd hq
  go_enter Tryz.func206, Tryz.ntmps206
  go_wp2_with fail
  refine (all_two w m n hm hn).mono ?_
  rintro e w1 ⟨rfl, hb1⟩
  go_wp2_with fail
  refine (small_yes m n _ hs1 hs2).mono ?_
  rintro e w2 ⟨rfl, hb2⟩
  have hb3 := hb1.trans (hb2.mono hb1.size)
  go_wp2_with fail
  have eW : IntKind.i64.wrap (m / n) = m / n := IntWalk.i64_in _ (by omega)
  have eW0 : IntKind.i64.wrap 0 = 0 := by decide
  go_quiet (fail)
  clear x1 x2 eW eW0
  have hb3' : Below w.heap.size w (w2.drewN nq) := hb3.trans (below_same _ _ _)
  go_wp2_with fail
  refine (of_any (m / n) _ (by omega) (by omega) (KE.out _ hb3')).mono ?_
  rintro e w4 ⟨rfl, hb4⟩
  have hb5 := hb3'.trans (hb4.mono hb3'.size)
  go_wp2_with fail
  refine (of_any 0 _ (by omega) (by omega) (KE.out _ hb5)).mono ?_
  rintro e w6 ⟨rfl, hb6⟩
  go_wp2
  go_ret3
  exact ⟨rfl, hb5.trans (hb6.mono hb5.size)⟩

set_option maxRecDepth 100000 in
set_option maxHeartbeats 4000000 in
theorem parted_big (m n : Int) (w : World) (hm : Fit m) (hn : Fit n) (hn0 : n ≠ 0) (hd : n ∣ m) (hs : 9 < (sI m).size ∨ 9 < (sI n).size) (he : Env w) :
    Calls Tryz.prog 206 #[.string (sI m), .string (sI n)] w fun e w' => e = .returned (.tuple #[.string (sI (m / n)), .string (sI 0), .int .i64 0]) ∧ Below w.heap.size w w' := by
  have KE := Lib.hid (show ∀ W, Below w.heap.size w W → Env W from fun W hW => he.below hW)
  have hz := sI_eq_zero n
  rw [decide_eq_false hn0] at hz
  have hx := exact_abs hn0 hd
  have HX1 := Lib.hid hx.1
  have HX2 := Lib.hid hx.2
  have hnm := fit_nw hm
  have hnn := fit_nw hn
  obtain ⟨p, hp⟩ : ∃ p, nw n.natAbs = p + 1 := ⟨nw n.natAbs - 1, by rw [nw_pos (show n.natAbs ≠ 0 by omega)]; simp⟩
  have HP := Lib.hid hp
  clear he hd hx hp
  go_enter Tryz.func206, Tryz.ntmps206
  go_wp2_with fail
  refine (all_two w m n hm hn).mono ?_
  rintro e w1 ⟨rfl, hb1⟩
  go_wp2_with fail
  refine (small_no m n _ hs).mono ?_
  rintro e w2 ⟨rfl, rfl⟩
  go_wp2_with fail
  refine (read_sI m _ hm).mono ?_
  rintro e w3 ⟨g3, rfl, hg3, hr3, hb3⟩
  go_wp2_with fail
  refine (read_sI n _ hn).mono ?_
  rintro e w4 ⟨g4, rfl, hg4, hr4, hb4⟩
  have hr5 := hr3.below hb4 hr3.lt
  go_wp2_with fail
  refine (divided_any _ g3 g4 _ _ p _ _ hr5 hr4 (by omega) (by omega) HP.out).mono ?_
  rintro e w5 ⟨rfl, hq5, hrr5, hb5⟩
  have hx5 := hr5.below hb5 hr5.lt
  have hy5 := hr4.below hb5 hr4.lt
  have l3 := hr5.lt
  have l4 := hr4.lt
  have hb6 : Below w.heap.size w w5 := hb1.trans (((hb3.trans (hb4.mono hb3.size)).trans (hb5.mono (Nat.le_trans hb3.size hb4.size))).mono hb1.size)
  have hwq : w.heap.size ≤ w4.heap.size := Nat.le_trans hb1.size (Nat.le_trans hb3.size hb4.size)
  generalize hQ : w4.heap.size = Q at *
  have x0 := hx5.c0
  have y0 := hy5.c0
  have q0 := hq5.c0
  have q1 := hq5.fr 0
  have s0 := hrr5.c0
  have s1 := hrr5.fr 0
  clear hx5 hy5 hr3 hr4 hr5 hb3 hb4 hb5 hb1 hQ hz hs hnm hnn
  generalize decide (m < 0) = a at *
  generalize decide (n < 0) = b at *
  go_wp2_with fail
  go_region
  have hb7 : Below w.heap.size w ((w5.setCell ⟨Q, 0, none⟩ (.bool (!a == b))).setCell ⟨Q + 1, 0, none⟩ (.bool a)).drew :=
    ((hb6.setCell hwq _).setCell (p := ⟨Q + 1, 0, none⟩) (by show w.heap.size ≤ Q + 1; omega) _).drew
  have hqs : WB ((w5.setCell ⟨Q, 0, none⟩ (.bool (!a == b))).setCell ⟨Q + 1, 0, none⟩ (.bool a)).drew Q (!a == b) _ _ :=
    (hq5.setNeg (!a == b)).of_block (Below.heap_setCell _ _ _ _ (by simp))
  have hrs : WB ((w5.setCell ⟨Q, 0, none⟩ (.bool (!a == b))).setCell ⟨Q + 1, 0, none⟩ (.bool a)).drew (Q + 1) a _ _ :=
    (hrr5.of_block (w' := w5.setCell ⟨Q, 0, none⟩ (.bool (!a == b))) (Below.heap_setCell _ _ _ _ (by simp))).setNeg a
  rw [HX1.out] at hrs
  have u0 : (((w5.setCell ⟨Q, 0, none⟩ (.bool (!a == b))).setCell ⟨Q + 1, 0, none⟩ (.bool a)).drew).cell? ⟨g3, 0, none⟩ = some (.bool a) := by
    rw [← x0]; exact World.cell?_of_block ((Below.heap_setCell _ _ _ g3 (by show g3 ≠ Q + 1; omega)).trans (Below.heap_setCell _ _ _ g3 (by show g3 ≠ Q; omega)))
  have u1 : (((w5.setCell ⟨Q, 0, none⟩ (.bool (!a == b))).setCell ⟨Q + 1, 0, none⟩ (.bool a)).drew).cell? ⟨g4, 0, none⟩ = some (.bool b) := by
    rw [← y0]; exact World.cell?_of_block ((Below.heap_setCell _ _ _ g4 (by show g4 ≠ Q + 1; omega)).trans (Below.heap_setCell _ _ _ g4 (by show g4 ≠ Q; omega)))
  generalize ((w5.setCell ⟨Q, 0, none⟩ (.bool (!a == b))).setCell ⟨Q + 1, 0, none⟩ (.bool a)).drew = w7 at *
  have u2 := hrs.c1
  rw [nw_zero] at u2
  clear x0 y0 q0 q1 s0 s1 hq5 hrr5 hb6
  have hsz : nw (m.natAbs / n.natAbs) ≤ 232 := by
    have h1 := fit_nw hm
    have h2 : nw (m.natAbs / n.natAbs) ≤ 114 := nw_le.2 (Nat.lt_of_le_of_lt (Nat.div_le_self _ _) (nw_le.1 h1))
    omega
  generalize hm8 : nw (m.natAbs / n.natAbs) = m8 at *
  go_wp2_with fail
  go_quiet (fail)
  have hb8 : Below w.heap.size w (w7.drewN nq) := hb7.trans (below_same _ _ _)
  go_wp2_with fail
  subst hm8
  refine (text_any _ Q _ _ (hqs.drewN nq) hsz (KE.out _ hb8)).mono ?_
  rintro e w9 ⟨rfl, hb9⟩
  go_wp2_with fail
  refine (text_any _ (Q + 1) _ _ ((hrs.drewN nq).below hb9 (hrs.drewN nq).lt) (by rw [nw_zero]; omega) (KE.out _ (hb8.trans (hb9.mono hb8.size)))).mono ?_
  rintro e w10 ⟨rfl, hb10⟩
  go_wp2
  go_ret3
  refine ⟨?_, (hb8.trans (hb9.mono hb8.size)).trans (hb10.mono (Nat.le_trans hb8.size hb9.size))⟩
  have e1 : sv (!a == b) (m.natAbs / n.natAbs) = m / n := HX2.out
  rw [e1]
  cases a <;> rfl
end Go.Proofs.YtbdckemkmocdlaaGreatDoor

/- whole.Quo, Gcd. -/
namespace Go.Proofs.YtbdckemkmocdlaaGreatDoor
open Go.RowKit

theorem parted_any (m n : Int) (w : World) (hm : Fit m) (hn : Fit n) (hn0 : n ≠ 0) (hd : n ∣ m) (he : Env w) :
    Calls Tryz.prog 206 #[.string (sI m), .string (sI n)] w fun e w' => e = .returned (.tuple #[.string (sI (m / n)), .string (sI 0), .int .i64 0]) ∧ Below w.heap.size w w' := by
  by_cases hs : (sI m).size ≤ 9 ∧ (sI n).size ≤ 9
  · exact parted_small m n w hm hn hn0 hd hs.1 hs.2 he
  · exact parted_big m n w hm hn hn0 hd (by omega) he

set_option maxRecDepth 100000 in
set_option maxHeartbeats 2000000 in
theorem quo_any (m n : Int) (w : World) (hm : Fit m) (hn : Fit n) (hn0 : n ≠ 0) (hd : n ∣ m) (he : Env w) :
    Calls Tryz.prog 183 #[.string (sI m), .string (sI n)] w fun e w' => e = .returned (.tuple #[.string (sI (m / n)), .int .i64 0]) ∧ Below w.heap.size w w' := by
  have HX := Lib.hid (show Fit (m / n) from fit_div hm)
  go_enter Tryz.func183, Tryz.ntmps183
  go_wp2_with fail
  refine (parted_any m n w hm hn hn0 hd he).mono ?_
  clear hd hn0
  rintro e w1 ⟨rfl, hb1⟩
  go_wp2_with fail
  refine (check_sI (m / n) _ HX.out).mono ?_
  rintro e w2 ⟨rfl, hb2⟩
  go_wp2
  go_ret2
  exact ⟨rfl, hb1.trans (hb2.mono hb1.size)⟩

/-- a pair whose greatest common divisor is asked for -/
def GcdIs (G a b : Nat) : Prop := Nat.gcd a b = G ∧ nw a ≤ 114 ∧ nw b ≤ 114

theorem GcdIs.step {G a b : Nat} (h : GcdIs G a b) : GcdIs G b (a % b) := by
  refine ⟨?_, h.2.2, Nat.le_trans (nw_mono (Nat.mod_le _ _)) h.2.1⟩
  rw [← h.1, Nat.gcd_comm a b, Nat.gcd_rec b a, Nat.gcd_comm]

theorem wd_low {a : Nat} (h : nw a ≤ 1) : wd a 0 = a := by
  have := nw_le.1 h
  unfold wd; simp; rw [Nat.mod_eq_of_lt (by simpa using this)]

set_option maxRecDepth 100000 in
set_option maxHeartbeats 4000000 in
theorem gcd_any (m n : Int) (w : World) (hm : Fit m) (hn : Fit n) (he : Env w) :
    Calls Tryz.prog 72 #[.string (sI m), .string (sI n)] w fun e w' => e = .returned (.tuple #[.string (sI (Int.gcd m n : Nat)), .int .i64 0]) ∧ Below w.heap.size w w' := by
  have KE := Lib.hid (show ∀ W, Below w.heap.size w W → Env W from fun W hW => he.below hW)
  have HG := Lib.hid (show GcdIs (Int.gcd m n) m.natAbs n.natAbs from ⟨rfl, fit_nw hm, fit_nw hn⟩)
  clear he
  go_enter Tryz.func72, Tryz.ntmps72
  go_wp2_with fail
  refine (all_two w m n hm hn).mono ?_
  rintro e w1 ⟨rfl, hb1⟩
  go_wp2_with fail
  refine (read_sI m _ hm).mono ?_
  rintro e w3 ⟨g3, rfl, hg3, hr3, hb3⟩
  go_wp2_with fail
  refine (read_sI n _ hn).mono ?_
  rintro e w4 ⟨g4, rfl, hg4, hr4, hb4⟩
  have hr5 := hr3.below hb4 hr3.lt
  have hb5 : Below w.heap.size w w4 := hb1.trans (((hb3.trans (hb4.mono hb3.size))).mono hb1.size)
  have hg5 : w.heap.size ≤ g3 := Nat.le_trans hb1.size hg3
  have hg6 : w.heap.size ≤ g4 := Nat.le_trans hb1.size (Nat.le_trans hb3.size hg4)
  generalize decide (m < 0) = a at *
  generalize decide (n < 0) = b at *
  generalize hG : Int.gcd m n = G at *
  generalize m.natAbs = u at *
  generalize n.natAbs = v at *
  have HGE := Lib.hid hG
  clear hG hr3 hb1 hb3 hb4 hg3 hg4 hm hn
  go_wp2_with fail
  go_loopg [7, 8] v (fun k p q wr => ∃ (i j x : Nat) (s t : Bool), p = .pointer (some ⟨i, 0, none⟩) ∧ q = .pointer (some ⟨j, 0, none⟩) ∧ w.heap.size ≤ i ∧ w.heap.size ≤ j ∧ GcdIs G x k ∧
    WB wr i s (nw x) (fun l => wd x l) ∧ WB wr j t (nw k) (fun l => wd k l) ∧ Below w.heap.size w wr)
  case atStart => exact ⟨g3, g4, u, a, b, rfl, rfl, hg5, hg6, HG.out, hr5, hr4, hb5⟩
  case round =>
    clear hr5 hr4 hb5 hg5 hg6 HG
    obtain ⟨i, j, x, s, t, rfl, rfl, hi, hj, hgc, hx, hy, hb⟩ := hrel
    have x1 := hx.c1
    have y1 := hy.c1
    by_cases hk : nw gk = 0
    · have hk0 : gk = 0 := by
        have := nw_le.1 (Nat.le_of_eq hk); simpa using this
      subst hk0
      have hgx : G = x := by have := hgc.1; simpa using this.symm
      subst hgx
      rw [nw_zero] at y1 hy
      have f0 := hx.c0
      have f1 := hx.fr 0
      have hnx : nw G ≤ 232 := by have := hgc.2.1; omega
      have ht : WB (wr.setCell ⟨i, 0, none⟩ (.bool false)) i false (nw G) _ := hx.setNeg false
      have hb2 : Below w.heap.size w (wr.setCell ⟨i, 0, none⟩ (.bool false)) := hb.setCell hi _
      clear hgc hx hy hk x1
      generalize hmm : nw G = mm at *
      go_wp2_with fail
      subst hmm
      refine (text_any _ i _ _ ht hnx (KE.out _ hb2)).mono ?_
      rintro e w5 ⟨rfl, hb5⟩
      go_wp2
      go_ret2
      exact ⟨ret_pairI (by rw [HGE.out]; rfl), hb2.trans (hb5.mono hb2.size)⟩
    · obtain ⟨q, hq⟩ : ∃ q, nw gk = q + 1 := ⟨nw gk - 1, by omega⟩
      have g1 := hgc.2.1
      have g2 := hgc.2.2
      by_cases hsm : nw x ≤ 1 ∧ nw gk ≤ 1
      · obtain ⟨s1, s2⟩ := hsm
        have x2 := hx.cw 0 (by omega)
        have y2 := hy.cw 0 (by omega)
        rw [wd_low s1] at x2
        rw [wd_low s2] at y2
        have lx : x < 1000000000 := by have h := nw_le.1 s1; rw [Nat.pow_one] at h; exact h
        have lk : gk < 1000000000 := by have h := nw_le.1 s2; rw [Nat.pow_one] at h; exact h
        have HG1 := Lib.hid hgc.1
        clear hgc hx hy hk g1 g2 hi hj
        generalize hmx : nw x = mx at *
        generalize hmk : nw gk = mk at *
        obtain rfl : q = 0 := by omega
        clear hmx hmk
        go_wp2_with fail
        go_quiet (fail)
        go_wp2_with fail
        go_loopg [9, 10] gk (fun k p q wr2 => ∃ (a1 : Nat), p = .int .i64 a1 ∧ q = .int .i64 k ∧ a1 < 1000000000 ∧ k < 1000000000 ∧ Nat.gcd a1 k = G ∧ ∃ nq, wr2 = wr.drewN nq)
        case atStart => exact ⟨x, rfl, rfl, lx, lk, HG1.out, nq, rfl⟩
        case round =>
          clear lx lk HG1 x1 y1 x2 y2
          obtain ⟨a1, rfl, rfl, l1, l2, hg1, n2, rfl⟩ := hrel
          have hb2 : Below w.heap.size w (wr.drewN n2) := hb.trans (below_same _ _ _)
          by_cases h0 : gk = 0
          · subst h0
            have hga : a1 = G := by simpa using hg1
            subst hga
            clear hg1
            go_wp2_with fail
            refine (of_any a1 _ (by omega) (by omega) (KE.out _ hb2)).mono ?_
            rintro e w5 ⟨rfl, hb5⟩
            go_wp2
            go_ret2
            exact ⟨ret_pairI (by rw [HGE.out]), hb2.trans (hb5.mono hb2.size)⟩
          · have t0 : ((gk : Int) == 0) = false := by simpa using h0
            have er : (a1 : Int).tmod gk = ((a1 % gk : Nat) : Int) := by rw [Int.tmod_eq_emod_of_nonneg (by omega)]; rfl
            have hlt : a1 % gk < gk := Nat.mod_lt _ (by omega)
            have eW : IntKind.i64.wrap ((a1 % gk : Nat) : Int) = ((a1 % gk : Nat) : Int) := IntWalk.i64_in _ (by omega)
            have HG2 := Lib.hid (show Nat.gcd gk (a1 % gk) = G by rw [← hg1, Nat.gcd_comm a1 gk, Nat.gcd_rec gk a1, Nat.gcd_comm])
            clear hg1
            go_wp2_with fail
            go_quiet (fail)
            go_wp2_with fail
            go_roundg (a1 % gk)
            case measure => exact hlt
            case rel =>
              obtain ⟨mq, hmq⟩ := drew2 wr n2 nq
              exact ⟨gk, rfl, rfl, l2, by omega, HG2.out, mq, hmq⟩
      · have HD := Lib.hid (show ∀ W, Below wr.heap.size wr W → True from fun _ _ => trivial)
        have hlt : x % gk < gk := Nat.mod_lt _ (by rcases Nat.eq_zero_or_pos gk with h | h; · subst h; rw [nw_zero] at hk; exact absurd rfl hk
                                                   · exact h)
        have HGS := Lib.hid hgc.step
        have HQ := Lib.hid hq
        have hgp : 0 < nw gk := by omega
        have hx0 := hx
        have hy0 := hy
        have hsz : w.heap.size ≤ wr.heap.size := hb.size
        rcases (show 1 < nw x ∨ (nw x ≤ 1 ∧ 1 < nw gk) by omega) with h1 | ⟨h1, h2⟩
        case' inl => clear hk hsm hgc hx hy hq
        case' inr => clear hk hsm hgc hx hy hq
        all_goals
          have g1' : nw x ≤ 200 := by omega
          have g2' : nw gk ≤ 200 := by omega
          go_wp2_with fail
          refine (divided_any _ i j x gk q _ _ hx0 hy0 g1' g2' HQ.out).mono ?_
          rintro e w5 ⟨rfl, hq5, hr5, hb5⟩
          go_wp2_with fail
          go_roundg (x % gk)
          case measure => exact hlt
          case rel =>
            exact ⟨j, wr.heap.size + 1, gk, t, false, rfl, rfl, hj, by omega, HGS.out, hy0.below hb5 hy0.lt, hr5, hb.trans (hb5.mono hb.size)⟩
end Go.Proofs.YtbdckemkmocdlaaGreatDoor

/- whole.order, Compare, Sign. -/
namespace Go.Proofs.YtbdckemkmocdlaaGreatDoor
open Go.RowKit

/-- the text of the digits of a natural number -/
noncomputable def dI (n : Nat) : ByteArray := sI n
theorem dI_list (n : Nat) : (dI n).data.toList = Lib.decDigits n := by unfold dI; rw [sI_list, itoa_nat]

theorem trim_sI (n : Int) (w : World) : Calls Tryz.prog 109 #[.string (sI n), .string ⟨#[45]⟩] w fun e w' => e = .returned (.string (dI n.natAbs)) ∧ w = w' := by
  refine trimPrefix_d (sI n) (dI n.natAbs) w ?_
  rw [dI_list, sI_list]
  rw [trimPrefix_itoa]

theorem ba_size_int (d : ByteArray) : (d.size : Int) = (d.data.toList.length : Int) := by rw [ba_size]

set_option maxRecDepth 100000 in
set_option maxHeartbeats 1000000 in
theorem order_any (m n : Nat) (w : World) : Calls Tryz.prog 113 #[.string (dI m), .string (dI n)] w fun e w' => e = .returned (.int .i64 (sgn ((m : Int) - n))) ∧ w = w' := by
  have hd := dec_order m n
  have e1 : (dI m).size = (Lib.decDigits m).length := by rw [ba_size, dI_list]
  have e2 : (dI n).size = (Lib.decDigits n).length := by rw [ba_size, dI_list]
  rw [← e1, ← e2] at hd
  clear e1 e2
  by_cases h1 : (dI m).size = (dI n).size
  · rw [if_pos h1] at hd
    have HD := Lib.hid hd
    clear hd
    go_enter Tryz.func113, Tryz.ntmps113
    go_wp2_with (first | (go_at_call 149; refine (Tryz.strings_Compare _ _ _).mono ?_; rintro e w1 ⟨rfl, rfl⟩))
    go_ret
    exact ⟨ret_int (by rw [dI_list, dI_list]; exact HD.out), rfl⟩
  · rw [if_neg h1] at hd
    by_cases h2 : (dI m).size < (dI n).size
    · rw [if_pos h2] at hd
      have HD := Lib.hid hd
      clear hd
      go_enter Tryz.func113, Tryz.ntmps113
      go_wp2_with fail
      go_ret
      exact ⟨ret_int HD.out, rfl⟩
    · rw [if_neg h2] at hd
      have HD := Lib.hid hd
      clear hd
      go_enter Tryz.func113, Tryz.ntmps113
      go_wp2_with fail
      go_ret
      exact ⟨ret_int HD.out, rfl⟩

theorem sgn_lt {m n : Int} (h : sgn m < sgn n) : sgn (m - n) = -1 := by
  rcases sgn_cases m with ⟨a, b⟩ | ⟨a, b⟩ | ⟨a, b⟩ <;> rcases sgn_cases n with ⟨c, d⟩ | ⟨c, d⟩ | ⟨c, d⟩ <;> rcases sgn_cases (m - n) with ⟨e, f⟩ | ⟨e, f⟩ | ⟨e, f⟩ <;> omega
theorem sgn_gt {m n : Int} (h : sgn n < sgn m) : sgn (m - n) = 1 := by
  rcases sgn_cases m with ⟨a, b⟩ | ⟨a, b⟩ | ⟨a, b⟩ <;> rcases sgn_cases n with ⟨c, d⟩ | ⟨c, d⟩ | ⟨c, d⟩ <;> rcases sgn_cases (m - n) with ⟨e, f⟩ | ⟨e, f⟩ | ⟨e, f⟩ <;> omega
theorem sgn_same {m n : Int} (h : sgn m = sgn n) : sgn m * sgn ((m.natAbs : Int) - n.natAbs) = sgn (m - n) := by
  rcases sgn_cases m with ⟨a, b⟩ | ⟨a, b⟩ | ⟨a, b⟩ <;> rcases sgn_cases n with ⟨c, d⟩ | ⟨c, d⟩ | ⟨c, d⟩ <;> rcases sgn_cases (m - n) with ⟨e, f⟩ | ⟨e, f⟩ | ⟨e, f⟩ <;>
    rcases sgn_cases ((m.natAbs : Int) - n.natAbs) with ⟨g, k⟩ | ⟨g, k⟩ | ⟨g, k⟩ <;> rw [b, f, k] <;> omega
theorem sgn_le (n : Int) : -1 ≤ sgn n ∧ sgn n ≤ 1 := by rcases sgn_cases n with ⟨_, b⟩ | ⟨_, b⟩ | ⟨_, b⟩ <;> omega

theorem ret_pi {a b c : Int} (h : a = b) : Ending.returned (.tuple #[.int .i64 a, .int .i64 c]) = .returned (.tuple #[.int .i64 b, .int .i64 c]) := by rw [h]

set_option maxRecDepth 100000 in
set_option maxHeartbeats 2000000 in
theorem compare_any (m n : Int) (w : World) (hm : Fit m) (hn : Fit n) :
    Calls Tryz.prog 71 #[.string (sI m), .string (sI n)] w fun e w' => e = .returned (.tuple #[.int .i64 (sgn (m - n)), .int .i64 0]) ∧ Below w.heap.size w w' := by
  have l1 := sgn_le m
  have l2 := sgn_le n
  go_enter Tryz.func71, Tryz.ntmps71
  go_wp2_with fail
  refine (all_two w m n hm hn).mono ?_
  rintro e w1 ⟨rfl, hb1⟩
  go_wp2_with fail
  refine (sign_sI m _).mono ?_
  rintro e w2 ⟨rfl, rfl⟩
  go_wp2_with fail
  refine (sign_sI n _).mono ?_
  rintro e w2 ⟨rfl, rfl⟩
  rcases (show sgn m < sgn n ∨ sgn n < sgn m ∨ sgn m = sgn n by omega) with h | h | h
  · have HE := Lib.hid (sgn_lt h)
    go_wp2_with fail
    go_ret2
    exact ⟨ret_pi HE.out.symm, hb1⟩
  · have HE := Lib.hid (sgn_gt h)
    go_wp2_with fail
    refine (sign_sI n _).mono ?_
    rintro e w2 ⟨rfl, rfl⟩
    go_wp2_with fail
    go_ret2
    exact ⟨ret_pi HE.out.symm, hb1⟩
  · have HE := Lib.hid (sgn_same h)
    have h1 : ¬ sgn m < sgn n := by omega
    have h2 : ¬ sgn n < sgn m := by omega
    have HM := Lib.hid (show wrap64 (sgn m * sgn ((m.natAbs : Int) - n.natAbs)) = sgn (m - n) by
      rw [sgn_same h]; have := sgn_le (m - n); exact IntWalk.wrap64_in (sgn (m - n)) (by omega))
    clear h
    go_wp2_with fail
    refine (sign_sI n _).mono ?_
    rintro e w2 ⟨rfl, rfl⟩
    go_wp2_with fail
    refine (trim_sI m _).mono ?_
    rintro e w2 ⟨rfl, rfl⟩
    go_wp2_with fail
    refine (trim_sI n _).mono ?_
    rintro e w2 ⟨rfl, rfl⟩
    go_wp2_with fail
    refine (order_any _ _ _).mono ?_
    rintro e w2 ⟨rfl, rfl⟩
    go_wp2_with fail
    go_ret2
    exact ⟨ret_pi HM.out, hb1⟩

set_option maxRecDepth 100000 in
set_option maxHeartbeats 2000000 in
theorem wsign_any (m : Int) (w : World) (hm : Fit m) :
    Calls Tryz.prog 190 #[.string (sI m)] w fun e w' => e = .returned (.tuple #[.int .i64 (sgn m), .int .i64 0]) ∧ Below w.heap.size w w' := by
  go_enter Tryz.func190, Tryz.ntmps190
  go_wp2_with fail
  refine (check_sI m w hm).mono ?_
  rintro e w1 ⟨rfl, hb1⟩
  go_wp2_with fail
  refine (sign_sI m _).mono ?_
  rintro e w2 ⟨rfl, rfl⟩
  go_wp2_with fail
  go_ret2
  exact ⟨rfl, hb1⟩
end Go.Proofs.YtbdckemkmocdlaaGreatDoor

/- package ratio: cut, Check. -/
namespace Go.Proofs.YtbdckemkmocdlaaGreatDoor
open Go.RowKit

/-- the text of a rational number -/
noncomputable def sQ (x : Rat) : ByteArray := ⟨(ratT x).toArray⟩
theorem sQ_list (x : Rat) : (sQ x).data.toList = ratT x := by simp [sQ]
theorem sQ_of {d : ByteArray} {x : Rat} (h : d.data.toList = ratT x) : d = sQ x := by unfold sQ; rw [ba_eq h]
theorem sQ_inj {x y : Rat} (h : sQ x = sQ y) : x = y := by
  have : (sQ x).data.toList = (sQ y).data.toList := by rw [h]
  rw [sQ_list, sQ_list] at this; exact ratT_inj this

/-- not too long -/
def FitQ (x : Rat) : Prop := Fit x.num ∧ Fit x.den

/-- numerator, denominator and whether the latter is written -/
def cutQ (l : List UInt8) : List UInt8 × List UInt8 × Bool :=
  let c := Lib.cut l [47]
  (c.1, if c.2.2 then c.2.1 else [49], c.2.2)

theorem cutQ_rat (x : Rat) : cutQ (ratT x) = (Lib.itoa x.num, Lib.decDigits x.den, decide (x.den ≠ 1)) := by
  unfold cutQ
  by_cases h : x.den = 1
  · rw [ratT_one h, cut_none (not47_itoa _), h, Lib.decDigits_one (by omega)]; rfl
  · rw [ratT_ne h, cut_some (not47_itoa _)]; simp [h]

theorem cut_d (s a c : ByteArray) (t : Bool) (w : World) (hs : s.size < 4294967281) (he : Env w) (hc : Lib.cut s.data.toList [47] = (a.data.toList, c.data.toList, t)) :
    Calls Tryz.prog 108 #[.string s, .string ⟨#[47]⟩] w fun e w' => e = .returned (.tuple #[.string a, .string c, .bool t]) ∧ Below w.heap.size w w' := by
  refine (Tryz.strings_Cut_shaped s ⟨#[47]⟩ _ he.1 hs).mono ?_
  rintro e w' ⟨h1, n, h2⟩
  refine ⟨?_, by rw [h2]; exact below_same _ _ _⟩
  have hc' : Lib.cut s.data.toList (ByteArray.mk #[47]).data.toList = (a.data.toList, c.data.toList, t) := hc
  rw [h1, hc']

set_option maxRecDepth 100000 in
set_option maxHeartbeats 1000000 in
theorem cut_any (s a b : ByteArray) (t : Bool) (w : World) (hs : s.size < 4294967281) (he : Env w) (hc : cutQ s.data.toList = (a.data.toList, b.data.toList, t)) :
    Calls Tryz.prog 69 #[.string s] w fun e w' => e = .returned (.tuple #[.string a, .string b, .bool t]) ∧ Below w.heap.size w w' := by
  obtain ⟨⟨x, y, z⟩, hx⟩ : ∃ c, Lib.cut s.data.toList [47] = c := ⟨_, rfl⟩
  obtain ⟨c, hcc⟩ := ba_ex y
  unfold cutQ at hc
  rw [hx] at hc
  simp only [Prod.mk.injEq] at hc
  obtain ⟨rfl, h2, rfl⟩ := hc
  subst hcc
  have HX := Lib.hid hx
  clear hx
  cases z with
  | true =>
    have HB := Lib.hid (show c = b from by simp only [if_true] at h2; exact ByteArray.ext (Array.toList_inj.1 h2))
    clear h2
    go_enter Tryz.func69, Tryz.ntmps69
    go_wp2_with fail
    refine (cut_d s a c true _ hs he HX.out).mono ?_
    rintro e w1 ⟨rfl, hb1⟩
    go_wp2_with fail
    go_ret3
    exact ⟨by rw [← HB.out]; rfl, hb1⟩
  | false =>
    have HB := Lib.hid (show (⟨#[49]⟩ : ByteArray) = b from by simp only [Bool.false_eq_true, if_false] at h2; exact ByteArray.ext (Array.toList_inj.1 (by rw [← h2])))
    clear h2
    go_enter Tryz.func69, Tryz.ntmps69
    go_wp2_with fail
    refine (cut_d s a c false _ hs he HX.out).mono ?_
    rintro e w1 ⟨rfl, hb1⟩
    go_wp2_with fail
    go_ret3
    exact ⟨by rw [← HB.out]; rfl, hb1⟩

theorem cut_sQ (x : Rat) (w : World) (hs : (sQ x).size < 4294967281) (he : Env w) :
    Calls Tryz.prog 69 #[.string (sQ x)] w fun e w' => e = .returned (.tuple #[.string (sI x.num), .string (sI x.den), .bool (decide (x.den ≠ 1))]) ∧ Below w.heap.size w w' :=
  cut_any _ _ _ _ _ hs he (by rw [sQ_list, sI_list, sI_list, itoa_nat]; exact cutQ_rat x)

theorem FitQ.size {x : Rat} (h : FitQ x) : (sQ x).size ≤ 2100 := by
  have h1 := h.1.size
  have h2 := h.2.size
  rw [ba_size, sI_list] at h1 h2
  rw [itoa_nat] at h2
  rw [ba_size, sQ_list]
  unfold ratT
  split
  · omega
  · simp; omega
end Go.Proofs.YtbdckemkmocdlaaGreatDoor

/- ratio.Check. -/
namespace Go.Proofs.YtbdckemkmocdlaaGreatDoor
open Go.RowKit

theorem itoa_1 : Lib.itoa 1 = [49] := by rw [← sI_list, ← sI_one]
theorem sI_eq_one (n : Int) : ((sI n).toList == [49]) = decide (n = 1) := by
  rw [ByteArray.toList_eq, sI_list, Bool.eq_iff_iff, beq_iff_eq, decide_eq_true_eq]
  constructor
  · intro h; exact itoa_inj (h.trans itoa_1.symm)
  · rintro rfl; exact itoa_1

theorem fit_one : Fit 1 := by unfold Fit; rw [show Int.natAbs 1 = 1 from rfl, Lib.decDigits_one (by omega)]; simp
theorem fit_zero : Fit 0 := by unfold Fit; rw [show Int.natAbs 0 = 0 from rfl, Lib.decDigits_one (by omega)]; simp

theorem compare_one (n : Int) (w : World) (hn : Fit n) :
    Calls Tryz.prog 71 #[.string (sI n), .string ⟨#[49]⟩] w fun e w' => e = .returned (.tuple #[.int .i64 (sgn (n - 1)), .int .i64 0]) ∧ Below w.heap.size w w' := by
  rw [sI_one]; exact compare_any n 1 w hn fit_one

theorem rat_gcd (x : Rat) : Int.gcd x.num x.den = 1 := by have := x.reduced; unfold Nat.Coprime at this; unfold Int.gcd; simpa using this

set_option maxRecDepth 100000 in
set_option maxHeartbeats 2000000 in
theorem check_good (x : Rat) (w : World) (hx : FitQ x) (he : Env w) :
    Calls Tryz.prog 43 #[.string (sQ x)] w fun e w' => e = .returned (.int .i64 0) ∧ Below w.heap.size w w' := by
  have KE := Lib.hid (show ∀ W, Below w.heap.size w W → Env W from fun W hW => he.below hW)
  have hsz := hx.size
  have h1 := hx.1
  have h2 := hx.2
  have hg := sI_eq_one (Int.gcd x.num x.den)
  rw [rat_gcd] at hg
  simp only [decide_true, Int.natCast_one] at hg
  have HG := Lib.hid (rat_gcd x)
  have hdp := x.den_pos
  by_cases hd : x.den = 1
  · have hd1 : decide (x.den ≠ 1) = false := by simp [hd]
    clear hd
    go_enter Tryz.func43, Tryz.ntmps43
    go_wp2_with fail
    refine (cut_sQ x _ (by omega) he).mono ?_
    clear he
    rintro e w1 ⟨rfl, hb1⟩
    go_wp2_with fail
    refine (check_sI x.num _ h1).mono ?_
    rintro e w2 ⟨rfl, hb2⟩
    go_wp2_with fail
    refine (check_sI x.den _ h2).mono ?_
    rintro e w3 ⟨rfl, hb3⟩
    have hb4 := hb1.trans ((hb2.trans (hb3.mono hb2.size)).mono hb1.size)
    go_wp2_with fail
    go_ret
    exact ⟨rfl, hb4⟩
  · have hd1 : decide (x.den ≠ 1) = true := by simp [hd]
    have hs1 : sgn ((x.den : Int) - 1) = 1 := by
      rcases sgn_cases ((x.den : Int) - 1) with ⟨a, b⟩ | ⟨a, b⟩ | ⟨a, b⟩ <;> omega
    clear hd
    go_enter Tryz.func43, Tryz.ntmps43
    go_wp2_with fail
    refine (cut_sQ x _ (by omega) he).mono ?_
    clear he
    rintro e w1 ⟨rfl, hb1⟩
    go_wp2_with fail
    refine (check_sI x.num _ h1).mono ?_
    rintro e w2 ⟨rfl, hb2⟩
    go_wp2_with fail
    refine (check_sI x.den _ h2).mono ?_
    rintro e w3 ⟨rfl, hb3⟩
    have hb4 := hb1.trans ((hb2.trans (hb3.mono hb2.size)).mono hb1.size)
    clear hb1 hb2 hb3
    go_wp2_with fail
    refine (compare_one x.den _ h2).mono ?_
    rintro e w5 ⟨rfl, hb5⟩
    rw [hs1]
    have hb6 := hb4.trans (hb5.mono hb4.size)
    go_wp2_with fail
    refine (gcd_any x.num x.den _ h1 h2 (KE.out _ hb6)).mono ?_
    rintro e w7 ⟨rfl, hb7⟩
    rw [HG.out]
    have hb8 := hb6.trans (hb7.mono hb6.size)
    go_wp2_with fail
    go_ret
    exact ⟨rfl, hb8⟩

set_option maxRecDepth 100000 in
set_option maxHeartbeats 2000000 in
theorem check_bad1 (s a b : ByteArray) (t : Bool) (w : World) (hs : s.size ≤ 100000) (ha : a.size ≤ 100000) (hb : b.size ≤ 100000) (hc : cutQ s.data.toList = (a.data.toList, b.data.toList, t))
    (h : chkW a.data.toList = 3 ∨ (chkW a.data.toList = 0 ∧ chkW b.data.toList = 3)) (he : Env w) :
    Calls Tryz.prog 43 #[.string s] w fun e w' => e = .returned (.int .i64 3) ∧ Below w.heap.size w w' := by
  have HC := Lib.hid hc
  clear hc
  rcases h with h1 | ⟨h1, h2⟩
  · have H1 := Lib.hid h1
    generalize hf : chkW b.data.toList = f
    have HF := Lib.hid hf
    clear h1 hf
    go_enter Tryz.func43, Tryz.ntmps43
    go_wp2_with fail
    refine (cut_any s a b t _ (by omega) he HC.out).mono ?_
    rintro e w1 ⟨rfl, hb1⟩
    go_wp2_with fail
    refine (check_any a _ (by omega)).mono ?_
    rintro e w2 ⟨rfl, hb2⟩
    rw [H1.out]
    go_wp2_with fail
    refine (check_any b _ (by omega)).mono ?_
    rintro e w3 ⟨rfl, hb3⟩
    rw [HF.out]
    have hb4 := hb1.trans ((hb2.trans (hb3.mono hb2.size)).mono hb1.size)
    go_wp2_with fail
    go_ret
    exact ⟨rfl, hb4⟩
  · have H1 := Lib.hid h1
    have H2 := Lib.hid h2
    clear h1 h2
    go_enter Tryz.func43, Tryz.ntmps43
    go_wp2_with fail
    refine (cut_any s a b t _ (by omega) he HC.out).mono ?_
    rintro e w1 ⟨rfl, hb1⟩
    go_wp2_with fail
    refine (check_any a _ (by omega)).mono ?_
    rintro e w2 ⟨rfl, hb2⟩
    rw [H1.out]
    go_wp2_with fail
    refine (check_any b _ (by omega)).mono ?_
    rintro e w3 ⟨rfl, hb3⟩
    rw [H2.out]
    have hb4 := hb1.trans ((hb2.trans (hb3.mono hb2.size)).mono hb1.size)
    go_wp2_with fail
    go_ret
    exact ⟨rfl, hb4⟩

set_option maxRecDepth 100000 in
set_option maxHeartbeats 2000000 in
theorem check_bad2 (s : ByteArray) (n d : Int) (w : World) (hs : s.size ≤ 100000) (hn : Fit n) (hd : Fit d) (hc : cutQ s.data.toList = (Lib.itoa n, Lib.itoa d, true))
    (h : d ≤ 1 ∨ Int.gcd n d ≠ 1) (he : Env w) :
    Calls Tryz.prog 43 #[.string s] w fun e w' => e = .returned (.int .i64 3) ∧ Below w.heap.size w w' := by
  have KE := Lib.hid (show ∀ W, Below w.heap.size w W → Env W from fun W hW => he.below hW)
  rw [← sI_list, ← sI_list] at hc
  have HC := Lib.hid hc
  clear hc
  have hg := sI_eq_one (Int.gcd n d)
  have hh : sgn (d - 1) ≤ 0 ∨ (0 < sgn (d - 1) ∧ decide (((Int.gcd n d : Nat) : Int) = 1) = false) := by
    rcases sgn_cases (d - 1) with ⟨a, b⟩ | ⟨a, b⟩ | ⟨a, b⟩
    · left; omega
    · left; omega
    · right
      refine ⟨by omega, decide_eq_false ?_⟩
      rcases h with h | h <;> omega
  clear h
  go_enter Tryz.func43, Tryz.ntmps43
  go_wp2_with fail
  refine (cut_any s _ _ true _ (by omega) he HC.out).mono ?_
  clear he
  rintro e w1 ⟨rfl, hb1⟩
  go_wp2_with fail
  refine (check_sI n _ hn).mono ?_
  rintro e w2 ⟨rfl, hb2⟩
  go_wp2_with fail
  refine (check_sI d _ hd).mono ?_
  rintro e w3 ⟨rfl, hb3⟩
  have hb4 := hb1.trans ((hb2.trans (hb3.mono hb2.size)).mono hb1.size)
  clear hb1 hb2 hb3
  go_wp2_with fail
  refine (compare_one d _ hd).mono ?_
  rintro e w5 ⟨rfl, hb5⟩
  have hb6 := hb4.trans (hb5.mono hb4.size)
  go_wp2_with fail
  refine (gcd_any n d _ hn hd (KE.out _ hb6)).mono ?_
  rintro e w7 ⟨rfl, hb7⟩
  have hb8 := hb6.trans (hb7.mono hb6.size)
  generalize ((Int.gcd n d : Nat) : Int) = g at *
  generalize sgn (d - 1) = o at *
  rcases hh with h | ⟨h, h2⟩
  · clear hg
    go_wp2_with fail
    go_ret
    exact ⟨rfl, hb8⟩
  · rw [h2] at hg
    clear h2
    go_wp2_with fail
    go_ret
    exact ⟨rfl, hb8⟩

theorem rat_of (n d : Int) (hd : 1 < d) (hg : Int.gcd n d = 1) : canR (Lib.itoa n ++ 47 :: Lib.itoa d) := by
  refine ⟨⟨n, d.toNat, by omega, ?_⟩, ?_⟩
  · unfold Nat.Coprime; unfold Int.gcd at hg; rw [← hg]; congr 1; omega
  · rw [ratT_ne (by show d.toNat ≠ 1; omega), itoa_nonneg (show 0 ≤ d by omega)]

theorem rat_int (n : Int) : ratT n = Lib.itoa n := by rw [ratT_one (by simp)]; simp

theorem short_len {n : Int} {k : Nat} (h : (Lib.itoa n).length ≤ k) : (Lib.decDigits n.natAbs).length ≤ k := by
  unfold Lib.itoa at h
  by_cases hn : n < 0
  · rw [if_pos hn] at h; simp at h; omega
  · rw [if_neg hn, show n.toNat = n.natAbs by omega] at h; exact h

/-- the number of the error of a text of a rational number -/
noncomputable def chkR (l : List UInt8) : Int := open Classical in if canR l then 0 else 3

theorem check_short (s : ByteArray) (w : World) (hs : s.size ≤ 1000) (he : Env w) :
    Calls Tryz.prog 43 #[.string s] w fun e w' => e = .returned (.int .i64 (chkR s.data.toList)) ∧ Below w.heap.size w w' := by
  have hl : s.data.toList.length ≤ 1000 := by rw [← ba_size]; exact hs
  unfold chkR
  by_cases hc : canR s.data.toList
  · rw [if_pos hc]
    obtain ⟨x, hx⟩ := hc
    have hq := sQ_of hx
    subst hq
    refine check_good x w ?_ he
    rw [sQ_list] at hl
    unfold ratT at hl
    constructor
    · unfold Fit
      have : (Lib.itoa x.num).length ≤ 1000 := by
        split at hl
        · omega
        · simp at hl; omega
      have := short_len this; omega
    · unfold Fit
      by_cases hd : x.den = 1
      · rw [hd]; exact fit_one
      · rw [if_neg hd] at hl; simp at hl; simp; omega
  · rw [if_neg hc]
    rcases slash_cases s.data.toList with h | ⟨a, r, h1, h2⟩
    · have hi : ¬ canI s.data.toList := fun ⟨n, hn⟩ => hc ⟨n, by rw [hn, rat_int]⟩
      refine check_bad1 s s ⟨#[49]⟩ false w (by omega) (by omega) (by decide) ?_ (.inl (chkW_not _ hi)) he
      unfold cutQ; rw [cut_none h]; rfl
    · obtain ⟨a, rfl⟩ := ba_ex a
      obtain ⟨r, rfl⟩ := ba_ex r
      have hcut : cutQ s.data.toList = (a.data.toList, r.data.toList, true) := by unfold cutQ; rw [h1, cut_some h2]; rfl
      have hlen : a.size + r.size + 1 ≤ 1000 := by
        rw [h1] at hl; rw [ba_size, ba_size]; simp at hl ⊢; omega
      rcases chkW_cases a.data.toList with ⟨_, h3⟩ | ⟨n, hn, h3⟩
      · exact check_bad1 s a r true w (by omega) (by omega) (by omega) hcut (.inl h3) he
      · have f1 : Fit n := by unfold Fit; have := short_len (n := n) (k := 1000) (by rw [← hn, ← ba_size]; omega); omega
        rw [if_pos (show (Lib.decDigits n.natAbs).length ≤ 1024 from f1)] at h3
        rcases chkW_cases r.data.toList with ⟨_, h4⟩ | ⟨d, hd, h4⟩
        · exact check_bad1 s a r true w (by omega) (by omega) (by omega) hcut (.inr ⟨h3, h4⟩) he
        · have f2 : Fit d := by unfold Fit; have := short_len (n := d) (k := 1000) (by rw [← hd, ← ba_size]; omega); omega
          refine check_bad2 s n d w (by omega) f1 f2 (by rw [hcut, hn, hd]) ?_ he
          apply Classical.byContradiction
          intro hcc
          exact hc (by rw [h1, hn, hd]; exact rat_of n d (by omega) (by omega))
end Go.Proofs.YtbdckemkmocdlaaGreatDoor

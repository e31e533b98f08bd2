/- whole.read: the integer of a text. -/
import Derived.Test.YtbdckemkmocdlaaGreatDoorZ10
import Derived.Test.YtbdckemkmocdlaaGreatDoorZ06
import Derived.Test.YtbdckemkmocdlaaGreatDoorZ04
import Derived.Deep.RegionWith
set_option linter.unusedVariables false
set_option linter.unusedSimpArgs false
namespace Go.Proofs.YtbdckemkmocdlaaGreatDoor
open Go.RowKit

theorem below_freeze (w : World) (a : Addr) (n B : Nat) (h : B ≤ a.block) : Below B w (w.freeze a n) := by
  unfold World.freeze
  split
  · exact Below.refl _ _
  · refine ⟨rfl, rfl, rfl, by simp, fun k hk => ?_⟩
    simp only [Array.getElem?_modify]
    rw [if_neg (by omega)]
theorem below_bytesWorld (w : World) (e : TypeId) (t : ByteArray) : Below w.heap.size w (Lib.bytesWorld w e t) :=
  (((Below.refl _ w).drew).alloc (Nat.le_refl _) _).trans (below_freeze _ _ _ _ (Nat.le_refl _))

/-- nine digits at most are read as a number -/
theorem atoi_any (s : ByteArray) (w : World) (hs : s.size ≤ 9) (h0 : s.data.toList ≠ []) (h : ∀ c ∈ s.data.toList, isDig c) :
    Calls Tryz.prog 150 #[.string s] w fun e w' => e = .returned (.tuple #[.int .i64 (dval s.data.toList : Int), .nilIface]) ∧ Below w.heap.size w w' :=
  (Tryz.strconv_Atoi s _ (by omega) (atoi_dig _ h0 h) w).mono fun e w' ⟨h1, t, h2⟩ => ⟨h1, by rw [h2]; exact below_bytesWorld _ _ _⟩

/-- what a round of read leaves -/
theorem read_rel {w wr w1 : World} {r d : ByteArray} {v k : Nat} {ng : Bool} (hrd : ∀ c ∈ r.data.toList, isDig c) (hrv : dval r.data.toList = v / BW ^ k) (hrs : r.size = d.size - 9 * k)
    (hk : k < 134) (hr : 0 < r.size) (hw : WB wr w.heap.size ng k (fun i => if i < k then wd v i else 0)) (hbel : Below w.heap.size w wr) (hb1 : Below wr.heap.size wr w1) :
    ∃ (k1 : Nat) (r1 : ByteArray), Value.string (r.extract 0 (r.size - 9)) = .string r1 ∧ (∀ c ∈ r1.data.toList, isDig c) ∧ dval r1.data.toList = v / BW ^ k1 ∧ r1.size = d.size - 9 * k1 ∧ k1 ≤ 134 ∧
      WB ((w1.setCell ⟨w.heap.size, 2 + k, none⟩ (.int .i64 (wd v k : Int))).setCell ⟨w.heap.size, 1, none⟩ (.int .i64 ((k : Int) + 1))) w.heap.size ng k1 (fun i => if i < k1 then wd v i else 0) ∧
      Below w.heap.size w ((w1.setCell ⟨w.heap.size, 2 + k, none⟩ (.int .i64 (wd v k : Int))).setCell ⟨w.heap.size, 1, none⟩ (.int .i64 ((k : Int) + 1))) := by
  have e1 : (r.extract 0 (r.size - 9)).data.toList = r.data.toList.take (r.data.toList.length - 9) := by
    rw [Lib.extract_data, ba_size r]; simp
  have e2 := (chunk r.data.toList hrd).1
  have hw1 := hw.below hb1 hw.lt
  refine ⟨k + 1, _, rfl, ?_, ?_, ?_, by omega, ?_, ?_⟩
  · intro c hc; rw [e1] at hc; exact hrd c (List.mem_of_mem_take hc)
  · rw [e1, e2, hrv, Nat.pow_succ, ← Nat.div_div_eq_div_mul]
  · rw [ba_size, e1]; rw [ba_size] at hrs; simp at hrs ⊢; omega
  · have := (hw1.setW k (by omega) (wd v k : Int)).setN (k + 1)
    rw [show ((k + 1 : Nat) : Int) = (k : Int) + 1 by omega] at this
    refine this.congr ?_
    intro i hi
    unfold upd
    by_cases e : i = k
    · subst e; simp
    · rw [if_neg e]
      show (if i < k then (wd v i : Int) else 0) = _
      by_cases hlt : i < k
      · rw [if_pos hlt, if_pos (by omega)]
      · rw [if_neg hlt, if_neg (by omega)]
  · exact (((hbel.trans (hb1.mono hbel.size)).setCell (p := ⟨w.heap.size, 2 + k, none⟩) (Nat.le_refl _) _).setCell (p := ⟨w.heap.size, 1, none⟩) (Nat.le_refl _) _)

theorem read_measure (r : ByteArray) (hr : 0 < r.size) :
    (match Value.string (r.extract 0 (r.size - 9)) with | .string r => r.size | _ => 0) < (match Value.string r with | .string r => r.size | _ => 0) := by
  show (r.extract 0 (r.size - 9)).size < r.size
  simp; omega

theorem read_words {v k : Nat} (hv : v / BW ^ k = 0) (i : Nat) : (if i < k then (wd v i : Int) else 0) = (wd v i : Int) := by
  by_cases h : i < k
  · rw [if_pos h]
  · rw [if_neg h, wd_big]
    · rfl
    · have : v < BW ^ k := by
        rcases Nat.div_eq_zero_iff.1 hv with h | h
        · exact absurd h (Nat.pos_iff_ne_zero.1 (Nat.pow_pos BW_pos))
        · exact h
      have := nw_le.2 this
      omega

set_option maxRecDepth 100000 in
set_option maxHeartbeats 2000000 in
theorem read_any (s : ByteArray) (n : Int) (w : World) (hn : s.data.toList = Lib.itoa n) (hb : (Lib.decDigits n.natAbs).length ≤ 1200) :
    Calls Tryz.prog 114 #[.string s] w fun e w' => ∃ g, e = .returned (.pointer (some ⟨g, 0, none⟩)) ∧ w.heap.size ≤ g ∧ WB w' g (decide (n < 0)) (nw n.natAbs) (fun i => wd n.natAbs i) ∧ Below w.heap.size w w' := by
  obtain ⟨d, hd⟩ := ba_ex (Lib.decDigits n.natAbs)
  have hdl : d.size ≤ 1200 := by rw [ba_size, hd]; exact hb
  have hs0 : 0 < s.size := by rw [ba_size, hn]; exact List.length_pos_iff.2 (itoa_ne_nil n)
  have HD := Lib.hid (show d.data.toList = Lib.trimPrefix s.data.toList [45] by rw [hn, trimPrefix_itoa, hd])
  have t0 : ((s[0].toNat : Int) == 45) = decide (n < 0) := by
    have h1 := head_ba s hs0 45
    have h2 := itoa_head_minus (n := n)
    rw [← hn] at h2
    rw [Bool.eq_iff_iff, beq_iff_eq, decide_eq_true_eq]
    exact ⟨fun e => h2.1 (h1.2 e), fun e => h1.1 (h2.2 e)⟩
  have HDD := Lib.hid hd
  clear hd
  generalize decide (n < 0) = ng at t0 ⊢
  go_enter Tryz.func114, Tryz.ntmps114
  go_wp2_with (first | (go_at_call 109; refine (trimPrefix_d s d _ HD.out).mono ?_; rintro e w1 ⟨rfl, rfl⟩))
  have hw0 : WB (w.alloc (.cells (Tryz.zeroCells145.setIfInBounds 0 (.bool ng)) 145 (0, 0))) w.heap.size ng 0 (fun i => if i < 0 then wd n.natAbs i else 0) := (WB.new w ng).congr (fun i _ => rfl)
  have hb0 : Below w.heap.size w (w.alloc (.cells (Tryz.zeroCells145.setIfInBounds 0 (.bool ng)) 145 (0, 0))) := (Below.refl _ w).alloc (Nat.le_refl _) _
  go_loopw [3] (fun sv wr => ∃ (k : Nat) (r : ByteArray), sv = .string r ∧ (∀ c ∈ r.data.toList, isDig c) ∧ dval r.data.toList = n.natAbs / BW ^ k ∧ r.size = d.size - 9 * k ∧ k ≤ 134 ∧
      WB wr w.heap.size ng k (fun i => if i < k then wd n.natAbs i else 0) ∧ Below w.heap.size w wr)
    (fun sv _ => match sv with | .string r => r.size | _ => 0)
  case atStart => exact ⟨0, d, rfl, by rw [HDD.out]; exact dig_isDig _, by rw [HDD.out, dval_dec]; simp, by omega, by omega, hw0, hb0⟩
  case round =>
    clear hw0 hb0
    obtain ⟨k, r, rfl, hrd, hrv, hrs, hk, hw, hbel⟩ := hrel
    have HRD := Lib.hid hrd
    have HRV := Lib.hid hrv
    have HRS := Lib.hid hrs
    have k1 := hw.c1
    have k2 := hw.fr
    by_cases hr : 0 < r.size
    · have hk2 : k < 134 := by have := HRS.out; omega
      have k3 := hw.cw k (by omega)
      clear hrd hrv hrs
      have hrl : r.size ≤ 1200 := by have := HRS.out; omega
      have hgl := hw.lt
      have HX := Lib.hid (show ∀ W : World, Calls Tryz.prog 150 #[.string (r.extract (r.size - 9) r.size)] W fun e W' => e = .returned (.tuple #[.int .i64 (wd n.natAbs k : Int), .nilIface]) ∧ Below W.heap.size W W' by
        intro W
        have e1 : (r.extract (r.size - 9) r.size).data.toList = r.data.toList.drop (r.data.toList.length - 9) := by
          rw [Lib.extract_data, ba_size r]; rw [List.take_of_length_le]; simp
        have e2 := (chunk r.data.toList HRD.out).2
        rw [HRV.out] at e2
        refine (atoi_any (r.extract (r.size - 9) r.size) W ?_ ?_ ?_).mono ?_
        · rw [ba_size, e1]; simp; omega
        · rw [e1]; intro e; have := congrArg List.length e; rw [ba_size] at hr; simp at this hr; omega
        · intro c hc; rw [e1] at hc; exact HRD.out c (List.mem_of_mem_drop hc)
        · rintro e W' ⟨h1, h2⟩; rw [e1, e2] at h1; exact ⟨h1, h2⟩)
      go_wp2_with fail
      rw [show max (0 : Int) ((r.size : Int) - 9) = ((r.size - 9 : Nat) : Int) by omega]
      have hm : r.size - 9 ≤ r.size := by omega
      go_region_with ((go_at_call 150; refine (HX.out _).mono ?_; rintro e w1 ⟨rfl, hb1⟩; have j1 := (hb1.cell (p := ⟨w.heap.size, 1, none⟩) (by simpa using hgl)).trans k1; have j3 := (hb1.cell (p := ⟨w.heap.size, 2 + k, none⟩) (by simpa using hgl)).trans k3; have j2 := fun o => (hb1.frozen (p := ⟨w.heap.size, o, none⟩) (by simpa using hgl)).trans (k2 o)))
      all_goals
        go_wp2
        exact ⟨read_rel HRD.out HRV.out HRS.out hk2 hr (show WB wr.drew w.heap.size ng k _ from hw) hbel.drew hb1, read_measure r hr⟩
    · have hr0 : r.size = 0 := by omega
      have HZ : Hid (n.natAbs / BW ^ k = 0) := by
        have h1 := HRV.out
        have : r.data.toList = [] := by rw [ba_size] at hr0; exact List.length_eq_zero_iff.1 hr0
        rw [this] at h1; exact h1.symm
      have hnw : nw n.natAbs ≤ k := by
        have := HZ.out
        rcases Nat.div_eq_zero_iff.1 this with h | h
        · exact absurd h (Nat.pos_iff_ne_zero.1 (Nat.pow_pos BW_pos))
        · exact nw_le.2 h
      have hw2 := hw.congr (g := fun i => (wd n.natAbs i : Int)) (fun i _ => read_words HZ.out i)
      clear hrd hrv hrs hw
      go_wp2_with (first | (go_at_call 151; refine (trimmed_any _ w.heap.size k ng _ hw2 (by omega)).mono ?_; rintro e w1 ⟨rfl, hg1, m, hm, hw1, hz1, ht1⟩))
      go_ret
      refine ⟨_, rfl, Nat.le_refl _, ?_, hbel.trans (below_of_grownBy hg1 (Nat.le_refl _) hbel.size)⟩
      have hbd : ∀ i, i < 232 → (0 : Int) ≤ (wd n.natAbs i : Int) ∧ (wd n.natAbs i : Int) < 1000000000 := by
        intro i _; have := wd_lt n.natAbs i; rw [show BW = 1000000000 from rfl] at this; omega
      refine wb_of_val hw1 (by omega) hbd ?_ ht1 ?_
      · intro i h1 h2
        by_cases hc : i < k
        · exact hz1 i h1 hc
        · show (wd n.natAbs i : Int) = 0
          rw [wd_big (by omega)]; rfl
      · exact wval_wd_lt (nw_le.1 (by omega))
end Go.Proofs.YtbdckemkmocdlaaGreatDoor

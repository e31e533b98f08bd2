/- Lists of discs, nil and too long ones too: discs.list, metrolabref12.List. -/
import Derived.Test.YtbdckemkmocdlaaGreatDoorZ23
set_option linter.all false
set_option exponentiation.threshold 2000000
namespace Go.Proofs.YtbdckemkmocdlaaGreatDoor
open Go.RowKit

attribute [local irreducible] sI sQ

/-- a slice of discs: nil, or a row of them -/
def SL (w : World) (v : Value) (l : List TD) : Prop :=
  (∃ a cap, v = .slice a 0 cap ∧ l = []) ∨ ∃ b o cap, v = .slice (some ⟨b, o, none⟩) l.length cap ∧ b < w.heap.size ∧ DRow w b o l
theorem SL.below {w w' : World} {v : Value} {l : List TD} (h : SL w v l) (hb : Below w.heap.size w w') : SL w' v l := by
  rcases h with h | ⟨b, o, cap, h1, h2, h3⟩
  · exact .inl h
  · exact .inr ⟨b, o, cap, h1, Nat.lt_of_lt_of_le h2 hb.size, h3.below hb h2⟩

set_option maxRecDepth 100000 in
set_option maxHeartbeats 2000000 in
theorem dlist_many (a : Option Addr) (n cap : Nat) (w : World) (hn : 64 < n) :
    Calls Tryz.prog 46 #[.slice a n cap] w fun e w' => e = .returned (.int .i64 5) ∧ Below w.heap.size w w' := by
  go_enter Tryz.func46, Tryz.ntmps46
  go_wp2_with fail
  go_ret
  exact ⟨rfl, Below.refl _ _⟩
set_option maxRecDepth 100000 in
set_option maxHeartbeats 2000000 in
theorem rlist_many (a : Option Addr) (n cap : Nat) (w : World) (hn : 64 < n) :
    Calls Tryz.prog 48 #[.slice a n cap] w fun e w' => e = .returned (.int .i64 5) ∧ Below w.heap.size w w' := by
  go_enter Tryz.func48, Tryz.ntmps48
  go_wp2_with fail
  go_ret
  exact ⟨rfl, Below.refl _ _⟩
set_option maxRecDepth 100000 in
set_option maxHeartbeats 2000000 in
theorem dlist_nil (a : Option Addr) (cap : Nat) (w : World) : Calls Tryz.prog 46 #[.slice a 0 cap] w fun e w' => e = .returned (.int .i64 13) ∧ Below w.heap.size w w' := by
  go_enter Tryz.func46, Tryz.ntmps46
  go_wp2_with fail
  go_loopw [11] (fun i wr => i = .int .i64 0 ∧ wr = w) (fun _ _ => 0)
  case atStart => exact ⟨rfl, rfl⟩
  case round =>
    obtain ⟨rfl, rfl⟩ := hrel
    go_wp2_with fail
    go_ret
    exact ⟨rfl, Below.refl _ _⟩
set_option maxRecDepth 100000 in
set_option maxHeartbeats 2000000 in
theorem rlist_nil (a : Option Addr) (cap : Nat) (w : World) : Calls Tryz.prog 48 #[.slice a 0 cap] w fun e w' => e = .returned (.int .i64 13) ∧ Below w.heap.size w w' := by
  go_enter Tryz.func48, Tryz.ntmps48
  go_wp2_with fail
  go_loopw [3] (fun i wr => i = .int .i64 0 ∧ wr = w) (fun _ _ => 0)
  case atStart => exact ⟨rfl, rfl⟩
  case round =>
    obtain ⟨rfl, rfl⟩ := hrel
    go_wp2_with fail
    go_ret
    exact ⟨rfl, Below.refl _ _⟩

set_option maxRecDepth 100000 in
set_option maxHeartbeats 2000000 in
theorem rlist_any (b o cap : Nat) (l : List TD) (w : World) (hl : l.length ≤ 1000000) (hs : ∀ d ∈ l, d.short) (hr : DRow w b o l) (hb : b < w.heap.size) :
    Calls Tryz.prog 48 #[.slice (some ⟨b, o, none⟩) l.length cap] w fun e w' => e = .returned (.int .i64 (chkL l)) ∧ Below w.heap.size w w' := by
  have HR := Lib.hid hr
  have HS := Lib.hid hs
  have HV := Lib.hid (show chkL l = if 64 < l.length then 5 else match l.find? (fun d => decide (chkT d ≠ 0)) with | some d => chkT d | none => if l.length = 0 then 13 else 0 from rfl)
  clear hr hs
  go_enter Tryz.func48, Tryz.ntmps48
  by_cases h64 : 64 < l.length
  · have HW := Lib.hid (show chkL l = 5 by rw [HV.out, if_pos h64])
    go_wp2_with fail
    go_ret
    exact ⟨ret_int HW.out.symm, Below.refl _ _⟩
  · rw [if_neg h64] at HV
    go_wp2_with fail
    go_loopw [3] (fun i wr => ∃ k : Nat, i = .int .i64 k ∧ k ≤ l.length ∧ Hid (∀ j, ∀ h : j < l.length, j < k → chkT l[j] = 0) ∧ Below w.heap.size w wr) (fun i _ => l.length - (intOf i).toNat)
    case atStart => exact ⟨0, rfl, Nat.zero_le _, Lib.hid (fun j _ h => by omega), Below.refl _ _⟩
    case round =>
      obtain ⟨k, rfl, hk, ha, hb1⟩ := hrel
      by_cases hlt : k < l.length
      · obtain ⟨c1, c2, c3⟩ := HR.out.below hb1 hb k hlt
        obtain ⟨s1, s2, s3⟩ := HS.out _ (List.getElem_mem hlt)
        have H0 := Lib.hid (show chkT l[k] = 0 → ∀ j, ∀ h : j < l.length, j < k + 1 → chkT l[j] = 0 from fun h0 j hj hjk => by
          by_cases e : j = k
          · subst e; exact h0
          · exact ha.out j hj (by omega))
        have HN := Lib.hid (show chkT l[k] ≠ 0 → chkL l = chkT l[k] from fun hne => by
          rw [HV.out]
          have hf : l.find? (fun d => decide (chkT d ≠ 0)) = some l[k] := by
            rw [List.find?_eq_some_iff_getElem]
            refine ⟨by simpa using hne, k, hlt, rfl, fun j hj => ?_⟩
            have := ha.out j (by omega) hj
            simp [this]
          rw [hf])
        have HCT := Lib.hid (show chkD (l[k]).x.data.toList (l[k]).y.data.toList (l[k]).q.data.toList = chkT l[k] from rfl)
        generalize hd : l[k] = d at *
        clear hd
        go_wp2_with fail
        refine (rfcheck_any d.x d.y d.q _ s1 s2 s3).mono ?_
        rintro e w3 ⟨rfl, hb3⟩
        replace hb3 := hb1.trans (hb3.mono hb1.size)
        rw [HCT.out]
        by_cases h0 : chkT d = 0
        · have HH := Lib.hid (H0.out h0)
          rw [h0]
          clear h0
          go_wp2_with fail
          exact ⟨⟨k + 1, by simp, by omega, HH, hb3⟩, by simp [intOf]; omega⟩
        · have HW := Lib.hid (HN.out h0)
          have t0 : (chkT d == 0) = false := by simpa using h0
          generalize chkT d = n at *
          clear h0
          go_wp2_with fail
          go_ret
          exact ⟨ret_int HW.out.symm, hb3⟩
      · have hf : l.find? (fun d => decide (chkT d ≠ 0)) = none := by
          rw [List.find?_eq_none]
          intro d hd
          obtain ⟨j, hj, rfl⟩ := List.getElem_of_mem hd
          have := ha.out j hj (by omega)
          simp [this]
        rw [hf] at HV
        by_cases hz : l.length = 0
        · have HW := Lib.hid (show chkL l = 13 by rw [HV.out]; simp [hz])
          go_wp2_with fail
          go_ret
          exact ⟨ret_int HW.out.symm, hb1⟩
        · have HW := Lib.hid (show chkL l = 0 by rw [HV.out]; simp [hz])
          go_wp2_with fail
          go_ret
          exact ⟨ret_int HW.out.symm, hb1⟩

theorem chkL_nil : chkL [] = 13 := rfl
theorem chkL_many {l : List TD} (h : 64 < l.length) : chkL l = 5 := by unfold chkL; rw [if_pos h]

/-- both lists' checks -/
theorem dlistS (v : Value) (l : List TD) (w : World) (h : SL w v l) (hl : l.length ≤ 1000000) (hs : l.length ≤ 64 → ∀ d ∈ l, d.short) (he : Env w) :
    Calls Tryz.prog 46 #[v] w fun e w' => e = .returned (.int .i64 (chkL l)) ∧ Below w.heap.size w w' := by
  rcases h with ⟨a, cp, rfl, rfl⟩ | ⟨b, o, cap, rfl, hb, hr⟩
  · rw [chkL_nil]; exact dlist_nil a cp w
  · by_cases h64 : 64 < l.length
    · rw [chkL_many h64]; exact dlist_many _ _ _ w h64
    · exact dlist_any b o cap l w hl (hs (by omega)) hr hb he
theorem rlistS (v : Value) (l : List TD) (w : World) (h : SL w v l) (hl : l.length ≤ 1000000) (hs : l.length ≤ 64 → ∀ d ∈ l, d.short) :
    Calls Tryz.prog 48 #[v] w fun e w' => e = .returned (.int .i64 (chkL l)) ∧ Below w.heap.size w w' := by
  rcases h with ⟨a, cp, rfl, rfl⟩ | ⟨b, o, cap, rfl, hb, hr⟩
  · rw [chkL_nil]; exact rlist_nil a cp w
  · by_cases h64 : 64 < l.length
    · rw [chkL_many h64]; exact rlist_many _ _ _ w h64
    · exact rlist_any b o cap l w hl (hs (by omega)) hr hb

/-- what Few leaves -/
theorem few_cases {l : List TD} (h : fewT l = true) : l.length ≤ 1000000 ∧ (l.length ≤ 64 → (∀ d ∈ l, short12 d.x d.y d.q = true) ∧ l.length ≤ 5 ∧ ∀ d ∈ l, d.short) := by
  unfold fewT at h
  rw [Bool.and_eq_true, List.all_eq_true, Bool.or_eq_true, Bool.and_eq_true, decide_eq_true_eq, decide_eq_true_eq, decide_eq_true_eq] at h
  obtain ⟨h1, h2⟩ := h
  refine ⟨by omega, fun h64 => ?_⟩
  have h5 : l.length ≤ 5 := by omega
  have ht : l.take 6 = l := List.take_of_length_le (by omega)
  rw [ht] at h1
  refine ⟨h1, h5, fun d hd => ?_⟩
  have h3 := (short12_nth d.x d.y d.q).1 (h1 d hd)
  exact ⟨Nat.le_trans (h3 0 (by omega)) (by omega), Nat.le_trans (h3 1 (by omega)) (by omega), Nat.le_trans (h3 2 (by omega)) (by omega)⟩
theorem rfewS (v : Value) (l : List TD) (w : World) (h : SL w v l) (hl : l.length ≤ 9223372036854775807) :
    Calls Tryz.prog 16 #[v] w fun e w' => e = .returned (.bool (fewT l)) ∧ Below w.heap.size w w' := by
  rcases h with ⟨a, cp, rfl, rfl⟩ | ⟨b, o, cap, rfl, hb, hr⟩
  · exact rfew_nil a cp w
  · exact rfew_any b o cap l w hr hb hl
end Go.Proofs.YtbdckemkmocdlaaGreatDoor

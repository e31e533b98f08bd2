/- package discs: the iterator of witnesses. -/
import Derived.RangeFuncNested
import Derived.RangeFuncBound
import Derived.RangeFuncCalls
import Derived.RangeFuncLeaves
import Derived.Shelf.Abstract
import Derived.Shelf.RegionOpen
import Derived.WalkKit
import Derived.OwnWalkIn
import Derived.TacticsInMore
import Derived.LoopNIn
import Derived.LoopIn
import Derived.Lib.Hide
import Derived.Test.YtbdckemkmocdlaaGreatDoorProg
set_option linter.unusedVariables false
set_option linter.unusedSimpArgs false
namespace Go.Proofs.YtbdckemkmocdlaaGreatDoor
open Go.RowKit Go.Shelf

attribute [local go_sem] Oper.semAt_some

/-- what a round that goes on keeps: what lies below n₀, and all cells -/
def KeepC (n₀ : Nat) (W W' : World) : Prop := Below n₀ W W' ∧ ∀ (b : Nat) (cs : Array Value) (t : TypeId) (fr : Nat × Nat), W.heap[b]? = some (Obj.cells cs t fr) → W'.heap[b]? = some (Obj.cells cs t fr)
theorem KeepC.trans {n₀ : Nat} {A B C : World} (h : KeepC n₀ A B) (h2 : KeepC n₀ B C) : KeepC n₀ A C := ⟨h.1.trans h2.1, fun b cs t fr e => h2.2 b cs t fr (h.2 b cs t fr e)⟩
theorem KeepC.below {n₀ : Nat} {A B : World} (h : Below A.heap.size A B) (hn : n₀ ≤ A.heap.size) : KeepC n₀ A B :=
  ⟨h.mono hn, fun b cs t fr e => (h.block b (Array.getElem?_eq_some_iff.1 e).1).trans e⟩

/-- a witness -/
abbrev Wt := Nat × Nat × Int
abbrev encW (x : Wt) : Value := .agg #[.int .i64 (x.1 : Int), .int .i64 (x.2.1 : Int), .int .i64 x.2.2]
def wit3 (i j : Nat) : List Wt := [(i, j, 0), (i, j, 1), (i, j, -1)]
def wrow (m i : Nat) : List Wt := (List.range' (i + 1) (m - (i + 1))).flatMap (wit3 i)
def p1 (k : Nat) : List Wt := (List.range k).map (fun i => (i, i, (0 : Int)))
def p2 (m i : Nat) : List Wt := p1 m ++ (List.range i).flatMap (wrow m)
def p3 (m i j : Nat) : List Wt := p2 m i ++ (List.range' (i + 1) (j - (i + 1))).flatMap (wit3 i)
def p4 (m i j k : Nat) : List Wt := p3 m i j ++ (wit3 i j).take k
/-- all witnesses of so many discs -/
def wits (m : Nat) : List Wt := p2 m m

theorem p1_succ (k : Nat) : p1 (k + 1) = p1 k ++ [(k, k, 0)] := by simp [p1, List.range_succ]
theorem p2_zero (m : Nat) : p2 m 0 = p1 m := by simp [p2]
theorem p3_start (m i : Nat) : p3 m i (i + 1) = p2 m i := by simp [p3]
theorem p3_end (m i : Nat) : p3 m i m = p2 m (i + 1) := by simp [p3, p2, wrow, List.range_succ]
theorem p4_zero (m i j : Nat) : p4 m i j 0 = p3 m i j := by simp [p4]
theorem p4_end (m i j : Nat) (h : i < j) : p4 m i j 3 = p3 m i (j + 1) := by
  have e : j + 1 - (i + 1) = (j - (i + 1)) + 1 := by omega
  have e2 : i + 1 + (j - (i + 1)) = j := by omega
  simp [p4, p3, e, List.range'_concat, e2, wit3]
def sd (k : Nat) : Int := if k = 0 then 0 else if k = 1 then 1 else -1
theorem p4_succ (m i j k : Nat) (h : k < 3) : p4 m i j (k + 1) = p4 m i j k ++ [(i, j, sd k)] := by
  rcases (show k = 0 ∨ k = 1 ∨ k = 2 by omega) with rfl | rfl | rfl <;> simp [p4, wit3, sd]
theorem p2_pre (m i : Nat) (h : i ≤ m) : p2 m i <+: wits m := by
  unfold wits p2
  refine List.prefix_append_right_inj _ |>.2 ?_
  have e : List.range m = List.range i ++ List.range' i (m - i) := by
    rw [List.range_eq_range', List.range_eq_range', show m = i + (m - i) by omega]
    rw [← List.range'_append]; simp
  rw [e, List.flatMap_append]; exact List.prefix_append _ _
theorem p1_pre (m k : Nat) (h : k ≤ m) : p1 k <+: wits m := by
  refine List.IsPrefix.trans ?_ (p2_pre m 0 (Nat.zero_le _))
  rw [p2_zero]
  unfold p1
  have e : List.range m = List.range k ++ List.range' k (m - k) := by
    rw [List.range_eq_range', List.range_eq_range', show m = k + (m - k) by omega]
    rw [← List.range'_append]; simp
  rw [e, List.map_append]; exact List.prefix_append _ _
theorem p3_pre (m i j : Nat) (hi : i < m) (hij : i + 1 ≤ j) (hj : j ≤ m) : p3 m i j <+: wits m := by
  refine List.IsPrefix.trans ?_ (p2_pre m (i + 1) hi)
  rw [← p3_end]
  unfold p3
  refine List.prefix_append_right_inj _ |>.2 ?_
  have e : List.range' (i + 1) (m - (i + 1)) = List.range' (i + 1) (j - (i + 1)) ++ List.range' j (m - j) := by
    rw [show m - (i + 1) = (j - (i + 1)) + (m - j) by omega, ← List.range'_append]
    congr 2; omega
  rw [e, List.flatMap_append]; exact List.prefix_append _ _
theorem p4_pre (m i j k : Nat) (hi : i < m) (hij : i + 1 ≤ j) (hj : j < m) : p4 m i j k <+: wits m := by
  refine List.IsPrefix.trans ?_ (p3_pre m i (j + 1) hi (by omega) hj)
  rw [← p4_end m i j (by omega)]
  unfold p4
  refine List.prefix_append_right_inj _ |>.2 ?_
  exact List.IsPrefix.trans (List.take_prefix _ _) (by simp [wit3])
theorem pre_lt {m : Nat} {p : List Wt} {x : Wt} (h : p ++ [x] <+: wits m) : p.length < (wits m).length := by
  have := h.length_le; simp at this; omega

set_option maxRecDepth 100000 in
set_option maxHeartbeats 4000000 in
theorem wit_in (F : Fence) (n : Nat) (hf : F.fn 119) (hro : F.round = none) (hn : 1 ≤ n) (l Bn m n₀ : Nat) (hm : m ≤ 1000000) (hBn : Bn < n₀) (J Jx : List Wt → World → Prop) (W : World) (hJ : AbidesFrom W.heap.size J)
    (hY : ∀ pre x W, J pre W → pre ++ [x] <+: wits m → YieldAt F (n - 1) Tryz.prog l #[encW x] W fun e W' =>
      (e = .returned (.bool true) ∧ J (pre ++ [x]) W' ∧ KeepC n₀ W W') ∨ (e = .returned (.bool false) ∧ Jx (pre ++ [x]) W'))
    (hc : W.cell? ⟨Bn, 0, none⟩ = some (.int .i64 m)) (hn0 : n₀ ≤ W.heap.size) (h0 : J [] W) :
    CallsIn F n Tryz.prog 119 #[.func (.yield l) #[] #[], .pointer (some ⟨Bn, 0, none⟩)] W fun e W' => (∃ v, e = .returned v) ∧
      ((∃ ys, ys = wits m ∧ J ys W') ∨ (∃ pre, pre <+: wits m ∧ Jx pre W')) := by
  refine callsIn_of_wp Tryz.func119 rfl hf ?_ hro
  simp only [Tryz.ntmps119, List.size_toArray, List.length_cons, List.length_nil, Nat.reduceAdd, Nat.reduceSub, Array.replicate_succ, Array.replicate_zero, List.push_toArray, List.append_toArray, List.nil_append, List.cons_append]
  gi_wp2
  gi_loopw [9] (fun i wr => ∃ k : Nat, k ≤ m ∧ i = .int .i64 k ∧ J (p1 k) wr ∧ Below n₀ W wr) (fun i _ => m - (intOf i).toNat)
  case atStart => exact ⟨0, Nat.zero_le _, rfl, by simpa [p1] using h0, Below.refl _ _⟩
  case round =>
    obtain ⟨k, hk, rfl, hJs, hnx⟩ := hrel
    by_cases hlt : k < m
    · have hpl : p1 k ++ [(k, k, (0 : Int))] <+: wits m := by rw [← p1_succ]; exact p1_pre m (k + 1) hlt
      obtain ⟨fn, tmps, assign, body, hy, hR⟩ := hY _ (k, k, 0) wr hJs hpl
      gi_wp2
      refine hR.mono ?_
      rintro e W3 (⟨rfl, hJ3, hk3⟩ | ⟨rfl, hJx3⟩)
      · gi_wp2
        go_roundw
        case rel => exact ⟨k + 1, by omega, by simp, by rw [p1_succ]; exact hJ3, hnx.trans hk3.1⟩
        case measure => simp [intOf]; omega
      · gi_wp2
        refine bodyPost_ret (results_none rfl _ _ _) rfl ?_
        exact ⟨⟨_, rfl⟩, .inr ⟨_, by rw [← p1_succ]; exact p1_pre m (k + 1) hlt, hJx3⟩⟩
    · obtain rfl : k = m := by omega
      have hc2 := (hnx.cell (p := ⟨Bn, 0, none⟩) hBn).trans hc
      gi_wp2
      gi_loopw [20] (fun i wr => ∃ i0 : Nat, i0 ≤ k ∧ i = .int .i64 i0 ∧ J (p2 k i0) wr ∧ Below n₀ W wr) (fun i _ => k - (intOf i).toNat)
      case atStart => exact ⟨0, Nat.zero_le _, rfl, by rw [p2_zero]; exact hJs, hnx⟩
      case round =>
        clear hJs hnx hc2
        obtain ⟨i, hi, rfl, hJs, hnx⟩ := hrel
        by_cases hlt2 : i < k
        · gi_wp2
          gi_loopw [5] (fun jv wr => ∃ j : Nat, i + 1 ≤ j ∧ j ≤ k ∧ jv = .int .i64 j ∧ J (p3 k i j) wr ∧ Below n₀ W wr) (fun jv _ => k - (intOf jv).toNat)
          case atStart => exact ⟨i + 1, Nat.le_refl _, by omega, by simp, by rw [p3_start]; exact hJs, hnx⟩
          case round =>
            clear hJs hnx
            obtain ⟨j, hij, hj, rfl, hJs, hnx⟩ := hrel
            have hc3 := (hnx.cell (p := ⟨Bn, 0, none⟩) hBn).trans hc
            by_cases hlt3 : j < k
            · have hJa := hJ _ _ _ _ hJs (World.grownBy_alloc _ (.cells #[.int .i64 0, .int .i64 1, .int .i64 (-1)] 3) none) (fun r e => by cases e)
              have hnn := hnx.size
              have hnb := hnx.alloc (by omega) (.cells #[.int .i64 0, .int .i64 1, .int .i64 (-1)] 3)
              have hG := World.alloc_heap_new wr (.cells #[.int .i64 0, .int .i64 1, .int .i64 (-1)] 3)
              gi_wp2
              generalize wr.alloc (.cells #[.int .i64 0, .int .i64 1, .int .i64 (-1)] 3) = wr2 at *
              generalize wr.heap.size = G at *
              gi_loopw [32] (fun qv wr => ∃ q : Nat, q ≤ 3 ∧ qv = .int .i64 q ∧ J (p4 k i j q) wr ∧ Below n₀ W wr ∧ wr.heap[G]? = some (.cells #[.int .i64 0, .int .i64 1, .int .i64 (-1)] 3 (0, 0))) (fun qv _ => 3 - (intOf qv).toNat)
              case atStart => exact ⟨0, by omega, by simp, by rw [p4_zero]; exact hJa, hnb, hG⟩
              case round =>
                clear hJs hnx hJa hnn hnb hG hc3
                obtain ⟨q, hq, rfl, hJs, hnx, hG⟩ := hrel
                by_cases hlt4 : q < 3
                · have hcq : wr.cell? ⟨G, q, none⟩ = some (.int .i64 (sd q)) := by
                    rcases (show q = 0 ∨ q = 1 ∨ q = 2 by omega) with rfl | rfl | rfl <;> simp [World.cell?, hG, sd]
                  have hpl : p4 k i j q ++ [(i, j, sd q)] <+: wits k := by rw [← p4_succ k i j q hlt4]; exact p4_pre k i j (q + 1) hlt2 hij hlt3
                  obtain ⟨fn, tmps, assign, body, hy, hR⟩ := hY _ (i, j, sd q) wr hJs hpl
                  have HP := Lib.hid (by rw [← p4_succ k i j q hlt4]; exact p4_pre k i j (q + 1) hlt2 hij hlt3 : p4 k i j q ++ [(i, j, sd q)] <+: wits k)
                  have HS := Lib.hid (p4_succ k i j q hlt4)
                  generalize sd q = sdq at *
                  gi_wp2
                  refine hR.mono ?_
                  rintro e W3 (⟨rfl, hJ3, hk3⟩ | ⟨rfl, hJx3⟩)
                  · gi_wp2
                    go_roundw
                    case rel => exact ⟨q + 1, by omega, by simp, by rw [HS.out]; exact hJ3, hnx.trans hk3.1, hk3.2 _ _ _ _ hG⟩
                    case measure => simp [intOf]; omega
                  · gi_wp2
                    refine bodyPost_ret (results_none rfl _ _ _) rfl ?_
                    exact ⟨⟨_, rfl⟩, .inr ⟨_, HP.out, hJx3⟩⟩
                · obtain rfl : q = 3 := by omega
                  have hJ4 : J (p3 k i (j + 1)) wr := by rw [← p4_end k i j (by omega)]; exact hJs
                  clear hJs
                  gi_wp2
                  go_roundw
                  case rel => exact ⟨j + 1, by omega, by omega, by simp, hJ4, hnx⟩
                  case measure => simp [intOf]; omega
            · obtain rfl : j = k := by omega
              have hJ4 : J (p2 j (i + 1)) wr := by rw [← p3_end]; exact hJs
              clear hJs
              gi_wp2
              go_roundw
              case rel => exact ⟨i + 1, by omega, by simp, hJ4, hnx⟩
              case measure => simp [intOf]; omega
        · obtain rfl : i = k := by omega
          gi_wp2
          go_end0
          exact ⟨⟨_, rfl⟩, .inl ⟨_, rfl, hJs⟩⟩
end Go.Proofs.YtbdckemkmocdlaaGreatDoor

/- whole.divided: quotient and remainder of magnitudes. -/
import Derived.Test.YtbdckemkmocdlaaGreatDoorZ07
import Derived.Test.YtbdckemkmocdlaaGreatDoorZ05
import Derived.Test.YtbdckemkmocdlaaGreatDoorZ01
import Derived.Deep.AppendLies
import Derived.Deep.RegionLaw
import Derived.Laws.CopyOwn
set_option linter.unusedVariables false
set_option linter.unusedSimpArgs false
namespace Go.Proofs.YtbdckemkmocdlaaGreatDoor
open Go.RowKit

theorem WB.new0 (w : World) : WB (w.alloc (.cells Tryz.zeroCells145 145 (0, 0))) w.heap.size false 0 (fun _ => 0) := by
  obtain ⟨h1, h2, h3⟩ := wz_facts
  refine ⟨_, heap_alloc_new _ _, h1, by rw [wz_is]; simp, h2, fun i hi => h3 i hi⟩

/-- where the words of the quotient stand before the word k is made -/
def qwords (x y k : Nat) : Nat → Int := fun j => if k ≤ j then (wd (x / y) j : Int) else 0
def qlen (x k : Nat) : Nat := if k = nw x then 0 else nw x

theorem under56 : Tryz.prog.underlying 56 = some (.slice 3) := Tryz.underlying56
theorem info3 : (Tryz.prog.info? 3).map (·.size) = some 1 := by kernel_rfl

/-- the words that are moved -/
def moved (r : Nat) : List Value := (List.range (nw r)).map fun i => Value.int .i64 (wd r i)

theorem moved_get (r j : Nat) (v : Value) (h : (moved r)[j]? = some v) : j < nw r ∧ v = .int .i64 (wd r j) := by
  unfold moved at h
  rw [List.getElem?_map] at h
  by_cases hj : j < nw r
  · rw [List.getElem?_range hj] at h; simp at h; exact ⟨hj, h.symm⟩
  · rw [List.getElem?_eq_none (by simpa using hj)] at h; simp at h

theorem WB.shift {w' : World} {g r : Nat} {neg : Bool} {c : Array Value} (hr : nw r ≤ 200) (h2 : c.size = 234) (h3 : c[0]? = some (.bool neg)) (h4 : c[1]? = some (.int .i64 (nw r))) (h5 : ∀ i, i < 232 → c[2 + i]? = some (.int .i64 (wd r i)))
    (h : w'.heap[g]? = some (.cells (splice c.toList 3 (moved r)).toArray 145 (0, 0))) : WB w' g neg (nw r) (fun i => if i = 0 then wd r 0 else wd r (i - 1)) := by
  have hm : (moved r).length = nw r := by unfold moved; simp
  have key : ∀ i, (splice c.toList 3 (moved r)).toArray[i]? = if i < 3 then c[i]? else if i < 3 + nw r then (moved r)[i - 3]? else c[i]? := by
    intro i
    unfold splice
    rw [List.getElem?_toArray, List.getElem?_append, List.getElem?_append, List.length_take, hm]
    have hl : c.toList.length = 234 := by simp [h2]
    rw [hl]
    by_cases h0 : i < 3
    · rw [if_pos (by omega), if_pos h0, List.getElem?_take_of_lt (by omega)]; simp
    · rw [if_neg (by omega), if_neg h0]
      by_cases h1 : i < 3 + nw r
      · rw [if_pos (by omega), if_pos h1]; congr 1
      · rw [if_neg (by omega), if_neg h1, List.getElem?_drop]
        rw [show 3 + nw r + (i - min 3 234 - nw r) = i by omega]; simp
  refine ⟨_, h, ?_, ?_, ?_, ?_⟩
  · rw [List.size_toArray, length_splice _ _ _ (by rw [hm]; simp [h2]; omega)]; simp [h2]
  · rw [key, if_pos (by omega)]; exact h3
  · rw [key, if_pos (by omega)]; exact h4
  · intro i hi
    rw [key]
    by_cases h0 : i = 0
    · subst h0; rw [if_pos (by omega)]; simpa using h5 0 (by omega)
    · rw [if_neg (by omega)]
      show _ = some (Value.int IntKind.i64 (if i = 0 then (wd r 0 : Int) else (wd r (i - 1) : Int)))
      rw [if_neg h0]
      by_cases h1 : 2 + i < 3 + nw r
      · rw [if_pos h1]
        unfold moved
        rw [List.getElem?_map, List.getElem?_range (by omega)]
        simp; rw [show 2 + i - 3 = i - 1 by omega]
      · rw [if_neg h1, h5 i hi, wd_big (by omega), wd_big (by omega)]

theorem slice_lo (w : World) (g : Nat) : (Instr.sliceAt 143 (.pointer (some ⟨g, 2, none⟩)) (some (.int .i64 1)) none none).run Tryz.prog w = .ok (.slice (some ⟨g, 3, none⟩) 231 231) w := by
  go_simp
theorem slice_hi (w : World) (g n : Nat) (h : (n : Int) ≤ 232) : (Instr.sliceAt 143 (.pointer (some ⟨g, 2, none⟩)) none (some (.int .i64 n)) none).run Tryz.prog w = .ok (.slice (some ⟨g, 2, none⟩) n 232) w := by
  have h0 : (0 : Int) ≤ n := by omega
  go_simp

theorem trimmed_num (w : World) (b n T : Nat) (neg : Bool) (h : WB w b neg n (fun i => wd T i)) (hT : nw T ≤ n) (hn : n ≤ 232) :
    Calls Tryz.prog 151 #[.pointer (some ⟨b, 0, none⟩)] w fun e w' => e = .returned (.pointer (some ⟨b, 0, none⟩)) ∧ w.grownBy w' (some b) ∧ WB w' b neg (nw T) (fun i => wd T i) := by
  refine (trimmed_any w b n neg _ h hn).mono ?_
  rintro e w' ⟨h1, h2, m, hm, hw, hz, ht⟩
  refine ⟨h1, h2, wb_of_val hw (by omega) (fun i _ => by have := wd_lt T i; rw [show BW = 1000000000 from rfl] at this; omega) (fun i h1 _ => ?_) ht (wval_wd_lt (nw_le.1 (by omega)))⟩
  by_cases hc : i < n
  · exact hz i h1 hc
  · show (wd T i : Int) = 0
    rw [wd_big (by omega)]; rfl

theorem push_words (r c i : Nat) (hc : c < BW) : (if i = 0 then (c : Int) else (if i = 0 then (wd r 0 : Int) else (wd r (i - 1) : Int))) = (wd (r * BW + c) i : Int) := by
  by_cases h : i = 0
  · subst h; rw [if_pos rfl, wd_push_zero r c hc]
  · rw [if_neg h, if_neg h]
    obtain ⟨k, rfl⟩ : ∃ k, i = k + 1 := ⟨i - 1, by omega⟩
    rw [wd_push_succ r c k hc]; rfl

theorem sub_cast {v q y : Nat} (h : q * y ≤ v) : ((v - q * y : Nat) : Int) = (v : Int) + -(q : Int) * (y : Int) := by
  rw [Int.ofNat_sub h, Int.natCast_mul, Int.neg_mul]; omega
theorem sub_lt {v a : Nat} (h : nw v ≤ 232) : v - a < BW ^ 232 := Nat.lt_of_le_of_lt (Nat.sub_le _ _) (nw_le.1 h)

structure CopyOK (wr : World) (R r m : Nat) (neg : Bool) (cur : List Value) : Prop where
  h1 : wr.drew.heap[R]? = some (.cells cur.toArray 145 (0, 0))
  h2 : (moved r).length = Nat.min m 231
  h3 : 0 < (moved r).length → (some (⟨R, 3, none⟩ : Addr) = some ⟨R, 3, none⟩ ∧ ∃ ad, some (⟨R, 2, none⟩ : Addr) = some ad ∧ ∀ j v, (moved r)[j]? = some v → wr.drew.cell? (ad.add j) = some v)
  h4 : 3 + (moved r).length ≤ cur.length
  h5 : ∀ v ∈ moved r, v.oneCell' = true
  h6 : ∀ w' : World, w'.heap[R]? = some (.cells (splice cur 3 (moved r)).toArray 145 (0, 0)) → WB w' R neg m (fun i => if i = 0 then wd r 0 else wd r (i - 1))

theorem copy_facts {wr : World} {R r : Nat} {neg : Bool} (hr : WB wr R neg (nw r) (fun i => wd r i)) (hn : nw r ≤ 200) : ∃ cur : List Value, CopyOK wr R r (nw r) neg cur := by
  obtain ⟨c0, h1, h2, h3, h4, h5⟩ := hr
  have hl : (moved r).length = nw r := by unfold moved; rw [List.length_map, List.length_range]
  refine ⟨c0.toList, by rw [Array.toArray_toList]; exact h1, by rw [hl]; exact (Nat.min_eq_left (by omega)).symm, ?_, by rw [hl, Array.length_toList]; omega, ?_, fun w' hw' => WB.shift hn h2 h3 h4 h5 hw'⟩
  · intro _
    refine ⟨rfl, _, rfl, fun i v hv => ?_⟩
    obtain ⟨hi, rfl⟩ := moved_get r i v hv
    have h := h5 i (by omega)
    have e : (⟨R, 2, none⟩ : Addr).add i = ⟨R, 2 + i, none⟩ := by unfold Addr.add; split <;> simp_all
    rw [e, cell_of_row wr.drew R (2 + i) c0 145 (0, 0) h1]; exact h
  · intro v hv; unfold moved at hv; simp at hv; obtain ⟨i, _, rfl⟩ := hv; rfl

theorem qlen_zero (x y : Nat) : nw (x / y) ≤ qlen x 0 := by
  have := nw_div x y
  unfold qlen; split <;> omega
theorem qlen_le {x k : Nat} (h : nw x ≤ 200) : qlen x k ≤ 232 := by unfold qlen; split <;> omega

theorem div_rel {w wr : World} {x y j d n1 : Nat} (hj : j + 1 ≤ nw x ∧ nw x ≤ 200) (hq : WB wr w.heap.size false (qlen x (j + 1)) (qwords x y (j + 1)))
    (hr : WB wr (w.heap.size + 1) false (nw (restAt x y j)) (fun i => wd (restAt x y j) i)) (hb : Below w.heap.size w wr) (hd : d = wd (x / y) j) :
    ∃ k : Nat, Value.int .i64 ((j : Int) - 1) = .int .i64 ((k : Int) - 1) ∧ k ≤ nw x ∧
      WB (((wr.drewN n1).setCell ⟨w.heap.size, 2 + j, none⟩ (.int .i64 (d : Int))).setCell ⟨w.heap.size, 1, none⟩ (.int .i64 (if ((qlen x (j + 1) : Nat) : Int) < (j : Int) + 1 then (j : Int) + 1 else ((qlen x (j + 1) : Nat) : Int)))) w.heap.size false (qlen x k) (qwords x y k) ∧
      WB (((wr.drewN n1).setCell ⟨w.heap.size, 2 + j, none⟩ (.int .i64 (d : Int))).setCell ⟨w.heap.size, 1, none⟩ (.int .i64 (if ((qlen x (j + 1) : Nat) : Int) < (j : Int) + 1 then (j : Int) + 1 else ((qlen x (j + 1) : Nat) : Int)))) (w.heap.size + 1) false (nw (restAt x y k)) (fun i => wd (restAt x y k) i) ∧
      Below w.heap.size w (((wr.drewN n1).setCell ⟨w.heap.size, 2 + j, none⟩ (.int .i64 (d : Int))).setCell ⟨w.heap.size, 1, none⟩ (.int .i64 (if ((qlen x (j + 1) : Nat) : Int) < (j : Int) + 1 then (j : Int) + 1 else ((qlen x (j + 1) : Nat) : Int)))) := by
  have e : (if ((qlen x (j + 1) : Nat) : Int) < (j : Int) + 1 then (j : Int) + 1 else ((qlen x (j + 1) : Nat) : Int)) = ((qlen x j : Nat) : Int) := by
    have e1 : qlen x j = nw x := by unfold qlen; rw [if_neg (by omega)]
    rw [e1]
    unfold qlen
    by_cases h : j + 1 = nw x
    · rw [if_pos h]; simp; omega
    · rw [if_neg h, if_neg (by omega)]
  rw [e]
  have hg : wr.grownBy (((wr.drewN n1).setCell ⟨w.heap.size, 2 + j, none⟩ (.int .i64 (d : Int))).setCell ⟨w.heap.size, 1, none⟩ (.int .i64 ((qlen x j : Nat) : Int))) (some w.heap.size) :=
    ((grownBy_drewN wr n1 _).trans (grownBy_setCell _ ⟨w.heap.size, 2 + j, none⟩ _)).trans (grownBy_setCell _ ⟨w.heap.size, 1, none⟩ _)
  refine ⟨j, rfl, by omega, ?_, hr.kept hg (by simp), hb.trans (below_of_grownBy hg (Nat.le_refl _) hb.size)⟩
  refine (((hq.drewN n1).setW j (by omega) (d : Int)).setN (qlen x j)).congr (fun i _ => ?_)
  unfold upd qwords
  by_cases h : i = j
  · subst h; rw [if_pos rfl, if_pos (Nat.le_refl _), hd]
  · rw [if_neg h]
    by_cases h2 : j + 1 ≤ i
    · rw [if_pos h2, if_pos (by omega)]
    · rw [if_neg h2, if_neg (by omega)]

set_option maxRecDepth 100000 in
set_option maxHeartbeats 4000000 in
theorem divided_any (w : World) (b c x y p : Nat) (nx ny : Bool) (hx : WB w b nx (nw x) (fun i => wd x i)) (hy : WB w c ny (nw y) (fun i => wd y i)) (hnx : nw x ≤ 200) (hny : nw y ≤ 200) (hp : nw y = p + 1) :
    Calls Tryz.prog 116 #[.pointer (some ⟨b, 0, none⟩), .pointer (some ⟨c, 0, none⟩)] w fun e w' =>
      e = .returned (.tuple #[.pointer (some ⟨w.heap.size, 0, none⟩), .pointer (some ⟨w.heap.size + 1, 0, none⟩)]) ∧
        WB w' w.heap.size false (nw (x / y)) (fun i => wd (x / y) i) ∧ WB w' (w.heap.size + 1) false (nw (x % y)) (fun i => wd (x % y) i) ∧ Below w.heap.size w w' := by
  have hbl := hx.lt
  have hcl := hy.lt
  have x1 := hx.c1
  go_enter Tryz.func116, Tryz.ntmps116
  go_wp2
  have hb0 : Below w.heap.size w ((w.alloc (.cells Tryz.zeroCells145 145 (0, 0))).alloc (.cells Tryz.zeroCells145 145 (0, 0))) := ((Below.refl _ w).alloc (Nat.le_refl _) _).alloc (by simp) _
  have hq0 : WB ((w.alloc (.cells Tryz.zeroCells145 145 (0, 0))).alloc (.cells Tryz.zeroCells145 145 (0, 0))) w.heap.size false (qlen x (nw x)) (qwords x y (nw x)) := by
    have h1 := (WB.new0 w).kept (World.grownBy_alloc _ (.cells Tryz.zeroCells145 145 (0, 0)) none) (by simp)
    unfold qlen; rw [if_pos rfl]
    refine h1.congr (fun i _ => ?_)
    unfold qwords; split
    · rw [wd_big (Nat.le_trans (nw_div x y) (by assumption))]; rfl
    · rfl
  have hr0 : WB ((w.alloc (.cells Tryz.zeroCells145 145 (0, 0))).alloc (.cells Tryz.zeroCells145 145 (0, 0))) (w.heap.size + 1) false (nw (restAt x y (nw x))) (fun i => wd (restAt x y (nw x)) i) := by
    have h1 := WB.new0 (w.alloc (.cells Tryz.zeroCells145 145 (0, 0)))
    rw [World.size_alloc] at h1
    rw [rest_top, nw_zero]
    exact h1.congr (fun i _ => by rw [wd_zero]; rfl)
  have hy0 : 0 < y := by
    apply Nat.pos_of_ne_zero; intro e; subst e; rw [nw_zero] at hp; omega
  go_loopw [8] (fun i wr => ∃ k : Nat, i = .int .i64 ((k : Int) - 1) ∧ k ≤ nw x ∧ WB wr w.heap.size false (qlen x k) (qwords x y k) ∧
      WB wr (w.heap.size + 1) false (nw (restAt x y k)) (fun i => wd (restAt x y k) i) ∧ Below w.heap.size w wr)
    (fun i _ => (intOf i + 1).toNat)
  case atStart => exact ⟨nw x, rfl, Nat.le_refl _, hq0, hr0, hb0⟩
  case round =>
    clear hq0 hr0 hb0
    obtain ⟨k, rfl, hk, hq, hr, hbel⟩ := hrel
    by_cases hk0 : 0 < k
    · obtain ⟨j, rfl⟩ : ∃ j, k = j + 1 := ⟨k - 1, by omega⟩
      have hrl := rest_lt x y (j + 1) hy0
      have hrn := nw_mono (Nat.le_of_lt hrl)
      have hpb := push_bound x y j hy0
      have hrs := rest_step x y j
      have hds := digit_step x y j hy0
      have hcl2 := wd_lt x j
      have hxj := (hx.below hbel hbl).cw j (by omega)
      have HRS := Lib.hid hrs
      have HDS := Lib.hid hds
      have HPB := Lib.hid hpb
      have ej : ((j + 1 : Nat) : Int) - 1 = (j : Int) := by omega
      rw [ej]
      clear hrs hds hpb ej
      generalize restAt x y (j + 1) = r at *
      have r1 := hr.c1
      have r2 := hr.fr
      obtain ⟨cur, hc⟩ := copy_facts hr (by omega)
      have hnr : nw r ≤ 200 := by omega
      obtain ⟨m, hm⟩ : ∃ m, m = nw r := ⟨_, rfl⟩
      rw [← hm] at r1 hnr
      have HM := Lib.hid hm
      have hnr0 : (m : Int) ≤ 232 := by omega
      clear hm
      go_wp2_with fail
      go_still_tail 12, (by kernel_rfl)
      change wpList _ _ _ _ _ wr.drew
      rw [← HM.out] at hc
      refine wpList_copy_splice rfl (.tmp 27) (.tmp 35) 56 56 rfl 3 under56 info3 (some ⟨w.heap.size + 1, 3, none⟩) (some ⟨w.heap.size + 1, 2, none⟩) 231 231 m 232 rfl rfl (w.heap.size + 1) 3 cur 145 hc.h1 (moved r) hc.h2 hc.h3 hc.h4 hc.h5 (w.heap.size + 1) wr ((Below.refl _ wr).drew) (Nat.le_refl _) ?_
      intro w4 hg4 hb4
      have hr4 := hc.h6 w4 hg4.out
      have hx4 := (hx.below hbel hbl).below hb4 (by omega)
      have hq4 := hq.below hb4 (by omega)
      have hbel4 : Below w.heap.size w w4 := hbel.trans (hb4.mono (by omega))
      clear hc hg4 hb4 hq hbel
      have r1 := hr4.c1
      have r2 := hr4.fr
      have r3 := hr4.cw 0 (by omega)
      have x3 := hx4.cw j (by omega)
      have jb : (j : Int) < 232 := by omega
      have jb0 : (0 : Int) ≤ (j : Int) := by omega
      go_wp2
      go_still_tail 10, (by kernel_rfl)
      change wpList _ _ _ _ _ w4.drew
      obtain ⟨c1, hc1⟩ : ∃ c1, c1 = wd x j := ⟨_, rfl⟩
      rw [← hc1] at x3 HPB HRS HDS hcl2
      simp only [← hc1]
      have HC1 := Lib.hid hc1
      clear hc1
      have hr5 := (hr4.setW 0 (by omega) (c1 : Int)).setN (m + 1)
      have hg5 : w4.grownBy ((w4.setCell ⟨w.heap.size + 1, 2, none⟩ (.int .i64 (c1 : Int))).setCell ⟨w.heap.size + 1, 1, none⟩ (.int .i64 ((m : Int) + 1))).drew (some (w.heap.size + 1)) :=
        ((grownBy_setCell w4 ⟨w.heap.size + 1, 2, none⟩ (.int .i64 (c1 : Int))).trans (grownBy_setCell _ ⟨w.heap.size + 1, 1, none⟩ (.int .i64 ((m : Int) + 1)))).trans (grownBy_drewN _ 1 _)
      rw [show ((m + 1 : Nat) : Int) = (m : Int) + 1 by omega] at hr5
      have hr6 : WB ((w4.setCell ⟨w.heap.size + 1, 2, none⟩ (.int .i64 (c1 : Int))).setCell ⟨w.heap.size + 1, 1, none⟩ (.int .i64 ((m : Int) + 1))).drew (w.heap.size + 1) false (m + 1) (fun i => (wd (r * BW + c1) i : Int)) :=
        hr5.congr (g := fun i => (wd (r * BW + c1) i : Int)) (fun i _ => push_words r c1 i hcl2)
      have hnT : nw (r * BW + c1) ≤ m + 1 := by have := nw_push r c1 hcl2; have := HM.out; omega
      have hq5 := hq4.kept hg5 (by simp)
      have hbel5 := hbel4.trans (below_of_grownBy hg5 (Nat.le_succ _) hbel4.size)
      clear hr5 hr4 hg5 hq4 hbel4 hx4
      go_wp2_with fail
      generalize ((w4.setCell ⟨w.heap.size + 1, 2, none⟩ (.int .i64 (c1 : Int))).setCell ⟨w.heap.size + 1, 1, none⟩ (.int .i64 ((m : Int) + 1))).drew = w5 at *
      refine (trimmed_num _ (w.heap.size + 1) (m + 1) (r * BW + c1) false hr6 hnT (by omega)).mono ?_
      rintro e w6 ⟨rfl, hg6, hr7⟩
      have hq6 := hq5.kept hg6 (by simp)
      have hbel6 := hbel5.trans (below_of_grownBy hg6 (Nat.le_succ _) hbel5.size)
      clear hr6 hg6 hq5 hbel5 r1 r2 r3 x3 hnT
      generalize hT : r * BW + c1 = T at *
      have HTT := Lib.hid hT
      clear hT
      have hy6 : WB w6 c ny (nw y) (fun i => wd y i) := hy.below hbel6 hcl
      have hyR : c ≠ w.heap.size + 1 := by omega
      have hrl2 : nw T ≤ 201 := by
        have h1 : T < y * BW := HPB.out
        have h2 := lt_pow_nw y
        have h3 : T < BW ^ (nw y + 1) := by
          rw [Nat.pow_succ]; exact Nat.lt_of_lt_of_le h1 (Nat.mul_le_mul_right _ (Nat.le_of_lt h2))
        have := nw_le.2 h3; omega
      go_wp2
      go_loopw [9] (fun dv wr2 => ∃ (d v : Nat), dv = .int .i64 d ∧ Taken T y d v ∧ WB wr2 (w.heap.size + 1) false (nw v) (fun i => wd v i) ∧ w6.grownBy wr2 (some (w.heap.size + 1)))
        (fun dv _ => 1000000000 - (intOf dv).toNat)
      case atStart => exact ⟨0, T, rfl, by unfold Taken; omega, hr7, World.grownBy.refl _ _⟩
      case round =>
        obtain ⟨d, v, rfl, htk, hrv, hgv⟩ := hrel
        have hdb : d < 1000000000 := taken_bound htk HPB.out
        have hvT : v ≤ T := by unfold Taken at htk; omega
        have hvn := nw_mono hvT
        have hyv := hy6.kept hgv (by simp; omega)
        have HTK := Lib.hid htk
        clear htk hr7
        by_cases hle : y ≤ v
        · go_wp2_with fail
          refine (beyond_any _ (w.heap.size + 1) c v y false ny hrv hyv (by omega) (by omega)).mono ?_
          rintro e w7 ⟨dd, rfl, hd, n1, rfl⟩
          have hd0 : 0 ≤ dd := by have := hd.1; omega
          clear hd
          go_wp2_with fail
          refine (estimate_any _ (w.heap.size + 1) c v y p false ny (hrv.drewN _) (hyv.drewN _) (by omega) (by omega) hp hle).mono ?_
          rintro e w8 ⟨kk, rfl, hk8, n2, rfl⟩
          obtain ⟨hk1, hk2, hk3⟩ := hk8
          obtain ⟨q8, rfl⟩ := Int.eq_ofNat_of_zero_le (show 0 ≤ kk by omega)
          have hk4 : q8 * y ≤ v := by exact_mod_cast hk3
          have HK4 := Lib.hid hk4
          clear hk3 hk4
          go_wp2_with fail
          refine (carry_zero _ (w.heap.size + 1) c v y (v - q8 * y) false ny (-(q8 : Int)) (hrv.drewN _) (nw_le.1 (by omega)) (hyv.drewN _) (by omega) (by omega) (by omega) (sub_cast HK4.out) (sub_lt (by omega))).mono ?_
          rintro e w9 ⟨rfl, hg9, hr9⟩
          have hd2 : d + q8 < 1000000000 := taken_bound (taken_step HTK.out HK4.out) HPB.out
          go_wp2
          refine ⟨⟨d + q8, v - q8 * y, by simp, taken_step HTK.out HK4.out, hr9, hgv.trans ((grownBy_drewN _ _ _).trans hg9)⟩, by simp [intOf]; omega⟩
        · go_wp2_with fail
          refine (beyond_any _ (w.heap.size + 1) c v y false ny hrv hyv (by omega) (by omega)).mono ?_
          rintro e w7 ⟨dd, rfl, hd, n1, rfl⟩
          have hd0 : dd < 0 := by have := hd.1; omega
          clear hd
          have hdone := taken_done HTK.out (show v < y by omega)
          have HDN := Lib.hid hdone
          clear hdone
          have hqv := hq6.kept hgv (by simp)
          have q1 := hqv.c1
          have q2 := hqv.fr
          have q3 := hqv.cw j (by omega)
          have hrest : v = restAt x y j := HDN.out.2.trans HRS.out
          have hdig : d = wd (x / y) j := HDN.out.1.trans HDS.out
          have HR1 := Lib.hid hrest
          have HD1 := Lib.hid hdig
          clear hrest hdig
          go_wp2
          exact ⟨div_rel (by omega) hqv (by rw [← HR1.out]; exact hrv) (hbel6.trans (below_of_grownBy hgv (Nat.le_succ _) hbel6.size)) HD1.out, by simp [intOf]⟩
    · obtain rfl : k = 0 := by omega
      go_wp2_with fail
      refine (trimmed_num _ w.heap.size (qlen x 0) (x / y) false (hq.congr (fun i _ => by unfold qwords; rw [if_pos (Nat.zero_le _)])) (qlen_zero x y) (qlen_le hnx)).mono ?_
      rintro e w6 ⟨rfl, hg6, hq6⟩
      have hr6 := hr.kept hg6 (by simp)
      rw [rest_zero] at hr6
      go_wp2
      go_ret2
      exact ⟨rfl, hq6, hr6, hbel.trans (below_of_grownBy hg6 (Nat.le_refl _) hbel.size)⟩
end Go.Proofs.YtbdckemkmocdlaaGreatDoor

/- The memory of an integer of package whole: one block of 234 cells (sign, number of words, words), and what stores to it do. -/
import Derived.Test.YtbdckemkmocdlaaGreatDoorProg
import Derived.WalkKit
import Derived.WalkSpells
import Derived.WalkLawsBesides
import Derived.WalkSmall
import Derived.Maps.AppendAt
import Derived.Deep.QuietTactic
import Derived.BigQuiet
import Derived.Deep.LoopGhost
import Derived.Lib.Hide
import Derived.Test.YtbdckemkmocdlaaGreatDoorZ01
import Derived.IntWalk
set_option linter.unusedVariables false
set_option linter.unusedSimpArgs false
namespace Go.Proofs.YtbdckemkmocdlaaGreatDoor
open Go.RowKit

/-- block b holds an integer: its sign, how many words count, the words -/
def WB (w : World) (b : Nat) (neg : Bool) (n : Nat) (f : Nat → Int) : Prop :=
  ∃ c : Array Value, w.heap[b]? = some (.cells c 145 (0, 0)) ∧ c.size = 234 ∧ c[0]? = some (.bool neg) ∧ c[1]? = some (.int .i64 n) ∧ ∀ i, i < 232 → c[2 + i]? = some (.int .i64 (f i))

section
variable {w w' : World} {b : Nat} {neg : Bool} {n : Nat} {f : Nat → Int}
theorem WB.c0 (h : WB w b neg n f) : w.cell? ⟨b, 0, none⟩ = some (.bool neg) := by
  obtain ⟨c, h1, h2, h3, h4, h5⟩ := h; simp [World.cell?, h1, h3]
theorem WB.c1 (h : WB w b neg n f) : w.cell? ⟨b, 1, none⟩ = some (.int .i64 n) := by
  obtain ⟨c, h1, h2, h3, h4, h5⟩ := h; simp [World.cell?, h1, h4]
theorem WB.cw (h : WB w b neg n f) (i : Nat) (hi : i < 232) : w.cell? ⟨b, 2 + i, none⟩ = some (.int .i64 (f i)) := by
  obtain ⟨c, h1, h2, h3, h4, h5⟩ := h; simp [World.cell?, h1, h5 i hi]
theorem WB.fr (h : WB w b neg n f) (o : Nat) : w.frozen? ⟨b, o, none⟩ = false := by
  obtain ⟨c, h1, h2, h3, h4, h5⟩ := h; simp [World.frozen?, h1]
theorem WB.lt (h : WB w b neg n f) : b < w.heap.size := by
  obtain ⟨c, h1, _⟩ := h; exact (Array.getElem?_eq_some_iff.1 h1).1
theorem WB.of_block (h : WB w b neg n f) (e : w'.heap[b]? = w.heap[b]?) : WB w' b neg n f := by
  obtain ⟨c, h1, h2⟩ := h; exact ⟨c, e.trans h1, h2⟩
theorem WB.kept {row : Option Nat} (h : WB w b neg n f) (hg : w.grownBy w' row) (hne : some b ≠ row) : WB w' b neg n f :=
  h.of_block (hg.block b h.lt hne)
theorem WB.below (h : WB w b neg n f) {B : Nat} (hg : Below B w w') (hb : b < B) : WB w' b neg n f :=
  h.of_block (hg.block b hb)
theorem WB.drewN (h : WB w b neg n f) (k : Nat) : WB (w.drewN k) b neg n f := h
theorem WB.congr {g : Nat → Int} (h : WB w b neg n f) (e : ∀ i, i < 232 → f i = g i) : WB w b neg n g := by
  obtain ⟨c, h1, h2, h3, h4, h5⟩ := h; exact ⟨c, h1, h2, h3, h4, fun i hi => by rw [h5 i hi, e i hi]⟩

theorem heap_setCell_at {c : Array Value} {t : TypeId} {z : Nat × Nat} (h : w.heap[b]? = some (.cells c t z)) (o : Nat) (u : Value) :
    (w.setCell ⟨b, o, none⟩ u).heap[b]? = some (.cells (c.setIfInBounds o u) t z) := by
  simp [World.setCell, Array.getElem?_modify, h]

theorem WB.setN (h : WB w b neg n f) (m : Nat) : WB (w.setCell ⟨b, 1, none⟩ (.int .i64 m)) b neg m f := by
  obtain ⟨c, h1, h2, h3, h4, h5⟩ := h
  refine ⟨_, heap_setCell_at h1 _ _, by simpa using h2, ?_, ?_, ?_⟩
  · rw [Array.getElem?_setIfInBounds_ne (by omega)]; exact h3
  · rw [Array.getElem?_setIfInBounds_self_of_lt (by omega)]
  · intro i hi; rw [Array.getElem?_setIfInBounds_ne (by omega)]; exact h5 i hi
theorem WB.setNeg (h : WB w b neg n f) (s : Bool) : WB (w.setCell ⟨b, 0, none⟩ (.bool s)) b s n f := by
  obtain ⟨c, h1, h2, h3, h4, h5⟩ := h
  refine ⟨_, heap_setCell_at h1 _ _, by simpa using h2, ?_, ?_, ?_⟩
  · rw [Array.getElem?_setIfInBounds_self_of_lt (by omega)]
  · rw [Array.getElem?_setIfInBounds_ne (by omega)]; exact h4
  · intro i hi; rw [Array.getElem?_setIfInBounds_ne (by omega)]; exact h5 i hi

theorem WB.setW (h : WB w b neg n f) (k : Nat) (hk : k < 232) (v : Int) : WB (w.setCell ⟨b, 2 + k, none⟩ (.int .i64 v)) b neg n (upd f k v) := by
  obtain ⟨c, h1, h2, h3, h4, h5⟩ := h
  refine ⟨_, heap_setCell_at h1 _ _, by simpa using h2, ?_, ?_, ?_⟩
  · rw [Array.getElem?_setIfInBounds_ne (by omega)]; exact h3
  · rw [Array.getElem?_setIfInBounds_ne (by omega)]; exact h4
  · intro i hi
    unfold upd
    by_cases e : i = k
    · subst e; rw [Array.getElem?_setIfInBounds_self_of_lt (by omega), if_pos rfl]
    · rw [Array.getElem?_setIfInBounds_ne (by omega), if_neg e]; exact h5 i hi
end

theorem grownBy_setCell (w : World) (p : Addr) (u : Value) : w.grownBy (w.setCell p u) (some p.block) :=
  ⟨rfl, rfl, rfl, by simp [World.setCell], fun k _ hne => Below.heap_setCell _ _ _ _ (fun e => hne (by rw [e]))⟩
theorem grownBy_drewN (w : World) (k : Nat) (row : Option Nat) : w.grownBy (w.drewN k) row := ⟨rfl, rfl, rfl, Nat.le_refl _, fun _ _ _ => rfl⟩
theorem below_of_grownBy {w w' : World} {b B : Nat} (h : w.grownBy w' (some b)) (hb : B ≤ b) (hB : B ≤ w.heap.size) : Below B w w' :=
  (Below.refl B w).grown h hB (fun k e => by cases e; exact hb)
theorem grownBy_of_below {w w' : World} (h : Below w.heap.size w w') (row : Option Nat) : w.grownBy w' row :=
  ⟨h.os, h.tape, h.output, h.size, fun k hk _ => h.block k hk⟩

theorem drew2 (w : World) (a b : Nat) : ∃ m, (w.drewN a).drewN b = w.drewN m := ⟨_, World.drewN_drewN ..⟩
theorem drew3 (w : World) (a b c : Nat) : ∃ m, ((w.drewN a).drewN b).drewN c = w.drewN m := ⟨_, by rw [World.drewN_drewN, World.drewN_drewN]⟩

/-- the number of words that count, read off the memory: a measure -/
def numAt (w : World) (b o : Nat) : Nat := match w.cell? ⟨b, o, none⟩ with | some (.int _ q) => q.toNat | _ => 0
theorem WB.numAt {w : World} {b : Nat} {neg : Bool} {n : Nat} {f : Nat → Int} (h : WB w b neg n f) : numAt w b 1 = n := by
  unfold YtbdckemkmocdlaaGreatDoor.numAt; rw [h.c1]; simp

/-- block b holds the integer with a sign and a magnitude -/
def WI (w : World) (b : Nat) (neg : Bool) (v : Nat) : Prop := v < BW ^ 232 ∧ WB w b neg (nw v) (fun i => wd v i)

/-- trimmed words are those of the number that they spell -/
theorem wb_of_val {w : World} {b m T : Nat} {neg : Bool} {g : Nat → Int} (h : WB w b neg m g) (hm : m ≤ 232) (hb : ∀ i, i < 232 → 0 ≤ g i ∧ g i < 1000000000)
    (hz : ∀ i, m ≤ i → i < 232 → g i = 0) (ht : m = 0 ∨ g (m - 1) ≠ 0) (hv : wval g 232 = (T : Int)) : WB w b neg (nw T) (fun i => wd T i) := by
  have e : (wval g 232).toNat = T := by rw [hv]; simp
  have e1 := nw_of g 232 m hm hb hz ht
  rw [e] at e1; rw [e1]
  exact h.congr (fun i hi => by rw [wd_of_wval g 232 hb i hi, e])

set_option maxHeartbeats 400000 in
theorem trimmed_any (w : World) (b n : Nat) (neg : Bool) (f : Nat → Int) (h : WB w b neg n f) (hn : n ≤ 232) :
    Calls Tryz.prog 151 #[.pointer (some ⟨b, 0, none⟩)] w fun e w' => e = .returned (.pointer (some ⟨b, 0, none⟩)) ∧
      w.grownBy w' (some b) ∧ ∃ m, m ≤ n ∧ WB w' b neg m f ∧ (∀ i, m ≤ i → i < n → f i = 0) ∧ (m = 0 ∨ f (m - 1) ≠ 0) := by
  go_enter Tryz.func151, Tryz.ntmps151
  go_wp2
  go_loopw [] (fun wr => ∃ m, m ≤ n ∧ WB wr b neg m f ∧ (∀ i, m ≤ i → i < n → f i = 0) ∧ w.grownBy wr (some b))
    (fun wr => numAt wr b 1)
  case atStart => exact ⟨n, Nat.le_refl _, h, fun i h1 h2 => by omega, World.grownBy.refl _ _⟩
  case round =>
    obtain ⟨m, hm, hw, hz, hg⟩ := hrel
    have k1 := hw.c1
    have k2 := hw.fr
    by_cases h0 : 0 < m
    · have k3 := hw.cw (m - 1) (by omega)
      by_cases hf : f (m - 1) = 0
      · have t : (f (m - 1) == 0) = true := by simp [hf]
        have HF := Lib.hid hf
        have HZ := Lib.hid hz
        clear hf hz
        go_wp2
        go_quiet (fail)
        go_wp2
        have e1 : ((m : Int) - 1) = ((m - 1 : Nat) : Int) := by omega
        rw [e1]
        have hw2 := (hw.drewN nq).setN (m - 1)
        refine ⟨⟨m - 1, by omega, hw2, ?_, ?_⟩, ?_⟩
        · intro i h1 h2
          by_cases e : i = m - 1
          · rw [e]; exact HF.out
          · exact HZ.out i (by omega) h2
        · exact hg.trans ((grownBy_drewN _ _ _).trans (grownBy_setCell _ _ _))
        · rw [hw2.numAt, hw.numAt]; omega
      · have t : (f (m - 1) == 0) = false := by simp [hf]
        have HF := Lib.hid hf
        have HZ := Lib.hid hz
        clear hf hz
        go_wp2
        go_quiet (fail)
        go_wp2
        go_ret
        exact ⟨rfl, hg.trans (grownBy_drewN _ _ _), m, hm, hw.drewN _, HZ.out, .inr HF.out⟩
    · have e0 : m = 0 := by omega
      subst e0
      have HZ := Lib.hid hz
      clear hz
      go_wp2
      go_quiet (fail)
      go_wp2
      go_ret
      exact ⟨rfl, hg.trans (grownBy_drewN _ _ _), 0, hm, hw.drewN _, HZ.out, .inl rfl⟩
end Go.Proofs.YtbdckemkmocdlaaGreatDoor

/- (*whole.wide).carry: a magnitude plus a factor times another one, some words higher. -/
namespace Go.Proofs.YtbdckemkmocdlaaGreatDoor
open Go.RowKit

theorem mul_bound_hi {a z : Int} (h2 : a ≤ 999999999) (z1 : 0 ≤ z) (z2 : z < 1000000000) : a * z ≤ 1000000000000000000 := by
  have : a * z ≤ 999999999 * z := Int.mul_le_mul_of_nonneg_right h2 z1
  omega
theorem mul_bound_lo {a z : Int} (h2 : -999999999 ≤ a) (z1 : 0 ≤ z) (z2 : z < 1000000000) : -1000000000000000000 ≤ a * z := by
  have : -999999999 * z ≤ a * z := Int.mul_le_mul_of_nonneg_right h2 z1
  omega

theorem tdiv_cases (S : Int) : (0 ≤ S ∧ S.tdiv 1000000000 = S / 1000000000) ∨ (S < 0 ∧ S.tdiv 1000000000 = -((-S) / 1000000000)) := by
  by_cases h : 0 ≤ S
  · exact .inl ⟨h, Int.tdiv_eq_ediv_of_nonneg h⟩
  · refine .inr ⟨by omega, ?_⟩
    rw [← Int.tdiv_eq_ediv_of_nonneg (by omega), Int.neg_tdiv]; simp

theorem carry_neg {S : Int} (h1 : -2000000000000000000 ≤ S) (h2 : S ≤ 2000000000000000000) (h : wrap64 (S - wrap64 (S.tdiv 1000000000 * 1000000000)) < 0) :
    ∃ d m : Int, wrap64 (S.tdiv 1000000000 - 1) = d ∧ wrap64 (wrap64 (S - wrap64 (S.tdiv 1000000000 * 1000000000)) + 1000000000) = m ∧ wrap64 (S - wrap64 (S.tdiv 1000000000 * 1000000000)) + 1000000000 = m ∧ S = d * 1000000000 + m ∧ 0 ≤ m ∧ m < 1000000000 ∧ -2000000000 ≤ d ∧ d ≤ 2000000000 := by
  unfold wrap64 at *
  rcases tdiv_cases S with ⟨h0, e⟩ | ⟨h0, e⟩
  · rw [e] at h ⊢; omega
  · rw [e] at h ⊢
    refine ⟨_, _, rfl, rfl, ?_, ?_, ?_, ?_, ?_, ?_⟩ <;> omega

theorem carry_nonneg {S : Int} (h1 : -2000000000000000000 ≤ S) (h2 : S ≤ 2000000000000000000) (h : 0 ≤ wrap64 (S - wrap64 (S.tdiv 1000000000 * 1000000000))) :
    ∃ d m : Int, S.tdiv 1000000000 = d ∧ wrap64 (S - wrap64 (S.tdiv 1000000000 * 1000000000)) = m ∧ S = d * 1000000000 + m ∧ 0 ≤ m ∧ m < 1000000000 ∧ -2000000000 ≤ d ∧ d ≤ 2000000000 := by
  unfold wrap64 at *
  rcases tdiv_cases S with ⟨h0, e⟩ | ⟨h0, e⟩
  · rw [e] at h ⊢; refine ⟨_, _, rfl, rfl, ?_, ?_, ?_, ?_, ?_⟩ <;> omega
  · rw [e] at h ⊢; refine ⟨_, _, rfl, rfl, ?_, ?_, ?_, ?_, ?_⟩ <;> omega

/-- what a round of a carry leaves -/
theorem carry_rel {w wr : World} {b k up m y : Nat} {neg : Bool} {g : Nat → Int} {r factor T d v : Int} (hlt : k + up < 232) (hm : m ≤ 232) (hw : WB wr b neg m g)
    (hgb : ∀ i, i < 232 → 0 ≤ g i ∧ g i < 1000000000) (hgz : ∀ i, m ≤ i → i < 232 → g i = 0) (hg : w.grownBy wr (some b))
    (hv : wval g 232 + r * (BW : Int) ^ (k + up) + factor * ((y / BW ^ k : Nat) : Int) * (BW : Int) ^ (k + up) = T)
    (hs : g (k + up) + r + factor * (wd y k : Int) = d * 1000000000 + v) (h0 : 0 ≤ v) (h1 : v < 1000000000) (d1 : -2000000000 ≤ d) (d2 : d ≤ 2000000000) (u : Int) (hu : u = if (m : Int) < k + up + 1 then (k : Int) + up + 1 else m) :
    ∃ (k1 m1 : Nat) (r1 : Int) (g1 : Nat → Int), Value.int .i64 ((k : Int) + 1) = .int .i64 k1 ∧ Value.int .i64 d = .int .i64 r1 ∧ k1 + up ≤ 232 ∧ m1 ≤ 232 ∧ -2000000000 ≤ r1 ∧ r1 ≤ 2000000000 ∧
      WB ((wr.setCell ⟨b, 2 + (k + up), none⟩ (.int .i64 v)).setCell ⟨b, 1, none⟩ (.int .i64 u)) b neg m1 g1 ∧
      (∀ i, i < 232 → 0 ≤ g1 i ∧ g1 i < 1000000000) ∧ (∀ i, m1 ≤ i → i < 232 → g1 i = 0) ∧
      w.grownBy ((wr.setCell ⟨b, 2 + (k + up), none⟩ (.int .i64 v)).setCell ⟨b, 1, none⟩ (.int .i64 u)) (some b) ∧
      wval g1 232 + r1 * (BW : Int) ^ (k1 + up) + factor * ((y / BW ^ k1 : Nat) : Int) * (BW : Int) ^ (k1 + up) = T := by
  have hu' : u = ((max m (k + up + 1) : Nat) : Int) := by rw [hu]; split <;> omega
  refine ⟨k + 1, max m (k + up + 1), d, upd g (k + up) v, by simp, rfl, by omega, by omega, d1, d2, ?_, ?_, ?_, ?_, ?_⟩
  · rw [hu']; exact (hw.setW (k + up) hlt v).setN _
  · intro i hi; unfold upd; split
    · exact ⟨h0, h1⟩
    · exact hgb i hi
  · intro i h1 h2; unfold upd; rw [if_neg (by omega)]; exact hgz i (by omega) h2
  · exact (hg.trans (grownBy_setCell _ _ _)).trans (grownBy_setCell _ _ _)
  · rw [carry_step g k up y r factor d v hlt hs]; exact hv

set_option maxRecDepth 100000 in
set_option maxHeartbeats 1000000 in
theorem carry_any (w : World) (b c up y n T : Nat) (neg negy : Bool) (f : Nat → Int) (factor : Int) (hx : WB w b neg n f) (hn : n ≤ 232)
    (hfb : ∀ i, i < 232 → 0 ≤ f i ∧ f i < 1000000000) (hfz : ∀ i, n ≤ i → i < 232 → f i = 0) (hy : WB w c negy (nw y) (fun i => wd y i)) (hbc : b ≠ c)
    (hf1 : -999999999 ≤ factor) (hf2 : factor ≤ 999999999) (hup : nw y + up ≤ 232) (hT : (T : Int) = wval f 232 + factor * (y : Int) * (BW : Int) ^ up) (hT2 : T < BW ^ 232) :
    Calls Tryz.prog 155 #[.pointer (some ⟨b, 0, none⟩), .pointer (some ⟨c, 0, none⟩), .int .i64 factor, .int .i64 up] w fun e w' =>
      e = .returned (.tuple #[]) ∧ w.grownBy w' (some b) ∧ WB w' b neg (nw T) (fun i => wd T i) := by
  have HT := Lib.hid hT
  have HT2 := Lib.hid hT2
  have HFB := Lib.hid hfb
  have HFZ := Lib.hid hfz
  clear hT hT2 hfb hfz
  go_enter Tryz.func155, Tryz.ntmps155
  go_wp2
  go_loopw [8, 9] (fun rest i wr => ∃ (k m : Nat) (r : Int) (g : Nat → Int), i = .int .i64 k ∧ rest = .int .i64 r ∧ k + up ≤ 232 ∧ m ≤ 232 ∧ -2000000000 ≤ r ∧ r ≤ 2000000000 ∧
      WB wr b neg m g ∧ (∀ i, i < 232 → 0 ≤ g i ∧ g i < 1000000000) ∧ (∀ i, m ≤ i → i < 232 → g i = 0) ∧ w.grownBy wr (some b) ∧
      wval g 232 + r * (BW : Int) ^ (k + up) + factor * ((y / BW ^ k : Nat) : Int) * (BW : Int) ^ (k + up) = (T : Int))
    (fun _ i _ => 232 - (intOf i).toNat)
  case atStart => exact ⟨0, n, 0, f, rfl, rfl, by omega, hn, by omega, by omega, hx, HFB.out, HFZ.out, World.grownBy.refl _ _, carry_start f up y factor T HT.out⟩
  case round =>
    obtain ⟨k, m, r, g, rfl, rfl, hk, hm, hr1, hr2, hw, hgb, hgz, hg, hv⟩ := hrel
    have x1 := hw.c1
    have x2 := hw.fr
    have hyk := hy.kept hg (by simp; omega)
    have y1 := hyk.c1
    have HV := Lib.hid hv
    have HGB := Lib.hid hgb
    have HGZ := Lib.hid hgz
    clear hv hgb hgz
    by_cases hky : k < nw y
    · have x3 := hw.cw (k + up) (by omega)
      have y3 := hyk.cw k (by omega)
      obtain ⟨a, ha⟩ : ∃ a, a = g (k + up) := ⟨_, rfl⟩
      obtain ⟨z, hz⟩ : ∃ z : Int, z = (wd y k : Int) := ⟨_, rfl⟩
      rw [← ha] at x3
      simp only [← hz] at y3
      have ha' := HGB.out (k + up) (by omega)
      rw [← ha] at ha'
      have hz1 : 0 ≤ z ∧ z < 1000000000 := by rw [hz]; have := wd_lt y k; rw [show BW = 1000000000 from rfl] at this; omega
      have HA := Lib.hid ha
      have HZ := Lib.hid hz
      obtain ⟨ha1, ha2⟩ := ha'
      obtain ⟨hz1, hz2⟩ := hz1
      have hp1 : -1000000000000000000 ≤ factor * z := mul_bound_lo hf1 hz1 hz2
      have hp2 : factor * z ≤ 1000000000000000000 := mul_bound_hi hf2 hz1 hz2
      clear ha hz
      have hlt : k + up < 232 := by omega
      have HS : Hid (g (k + up) + r + factor * (wd y k : Int) = a + r + factor * z) := by rw [HA.out, HZ.out]; exact rfl
      go_wp2
      · have hs : wrap64 (a + r + factor * z - wrap64 ((a + r + factor * z).tdiv 1000000000 * 1000000000)) < 0 := by assumption
        obtain ⟨d, v, e1, e2, e3, e4, v0, v1, d1, d2⟩ := carry_neg (by omega) (by omega) hs
        first | rw [e2, e1] | rw [e3, e1]
        exact ⟨carry_rel hlt hm hw HGB.out HGZ.out hg HV.out (HS.out.trans e4) v0 v1 d1 d2 _ rfl, by simp [intOf]; omega⟩
      · have hs : 0 ≤ wrap64 (a + r + factor * z - wrap64 ((a + r + factor * z).tdiv 1000000000 * 1000000000)) := by assumption
        obtain ⟨d, v, e1, e2, e4, v0, v1, d1, d2⟩ := carry_nonneg (by omega) (by omega) hs
        rw [e2, e1]
        exact ⟨carry_rel hlt hm hw HGB.out HGZ.out hg HV.out (HS.out.trans e4) v0 v1 d1 d2 _ rfl, by simp [intOf]; omega⟩
    · have hyz : (y / BW ^ k : Nat) = 0 := Nat.div_eq_of_lt (nw_le.1 (by omega))
      by_cases hr0 : r = 0
      · subst hr0
        have HTV : Hid (wval g 232 = (T : Int)) := carry_done g k up y factor T (by omega) HV.out
        have HM := Lib.hid hm
        clear hyz HV
        go_wp2_with (go_at_call 151; refine (trimmed_any _ b m neg g hw HM.out).mono ?_; rintro e w1 ⟨rfl, hg1, m1, hm1, hw1, hz1, ht1⟩)
        go_end0
        exact ⟨rfl, hg.trans hg1, wb_of_val hw1 (by omega) HGB.out (fun i h1 h2 => by by_cases hc : i < m; exact hz1 i h1 hc; exact HGZ.out i (by omega) h2) ht1 HTV.out⟩
      · have t : (r != 0) = true := by simp [hr0]
        have hlt : k + up < 232 := by
          apply Classical.byContradiction; intro hc
          exact hr0 (carry_end g k up y r factor T (by omega) (by omega) HGB.out HV.out (by omega) (by have := HT2.out; exact_mod_cast this))
        have x3 := hw.cw (k + up) (by omega)
        obtain ⟨a, ha⟩ : ∃ a, a = g (k + up) := ⟨_, rfl⟩
        rw [← ha] at x3
        have ha' := HGB.out (k + up) (by omega)
        rw [← ha] at ha'
        have HA := Lib.hid ha
        obtain ⟨ha1, ha2⟩ := ha'
        have HS : Hid (g (k + up) + r + factor * (wd y k : Int) = a + r) := by rw [HA.out, wd_big (by omega)]; show _ = _; simp
        clear ha hr0 hyz
        go_wp2
        · have hs : wrap64 (a + r - wrap64 ((a + r).tdiv 1000000000 * 1000000000)) < 0 := by assumption
          obtain ⟨d, v, e1, e2, e3, e4, v0, v1, d1, d2⟩ := carry_neg (by omega) (by omega) hs
          first | rw [e2, e1] | rw [e3, e1]
          exact ⟨carry_rel hlt hm hw HGB.out HGZ.out hg HV.out (HS.out.trans e4) v0 v1 d1 d2 _ rfl, by simp [intOf]; omega⟩
        · have hs : 0 ≤ wrap64 (a + r - wrap64 ((a + r).tdiv 1000000000 * 1000000000)) := by assumption
          obtain ⟨d, v, e1, e2, e4, v0, v1, d1, d2⟩ := carry_nonneg (by omega) (by omega) hs
          rw [e2, e1]
          exact ⟨carry_rel hlt hm hw HGB.out HGZ.out hg HV.out (HS.out.trans e4) v0 v1 d1 d2 _ rfl, by simp [intOf]; omega⟩

/-- the same, from one integer to another -/
theorem carry_wi (w : World) (b c up X Y T : Nat) (neg negy : Bool) (factor : Int) (hx : WB w b neg (nw X) (fun i => wd X i)) (hX : X < BW ^ 232)
    (hy : WB w c negy (nw Y) (fun i => wd Y i)) (hbc : b ≠ c)
    (hf : -999999999 ≤ factor ∧ factor ≤ 999999999) (hup : nw Y + up ≤ 232) (hT : (T : Int) = X + factor * (Y : Int) * (BW : Int) ^ up) (hT2 : T < BW ^ 232) :
    Calls Tryz.prog 155 #[.pointer (some ⟨b, 0, none⟩), .pointer (some ⟨c, 0, none⟩), .int .i64 factor, .int .i64 up] w fun e w' =>
      e = .returned (.tuple #[]) ∧ w.grownBy w' (some b) ∧ WB w' b neg (nw T) (fun i => wd T i) :=
  carry_any w b c up Y (nw X) T neg negy _ factor hx (nw_le.2 hX) (fun i _ => by have := wd_lt X i; rw [show BW = 1000000000 from rfl] at this; omega)
    (fun i h1 _ => by rw [wd_big h1]; rfl) hy hbc hf.1 hf.2 hup (by rw [wval_wd_lt hX]; exact hT) hT2

theorem carry_zero (w : World) (b c X Y T : Nat) (neg negy : Bool) (factor : Int) (hx : WB w b neg (nw X) (fun i => wd X i)) (hX : X < BW ^ 232)
    (hy : WB w c negy (nw Y) (fun i => wd Y i)) (hbc : b ≠ c)
    (hf : -999999999 ≤ factor ∧ factor ≤ 999999999) (hup : nw Y ≤ 232) (hT : (T : Int) = X + factor * (Y : Int)) (hT2 : T < BW ^ 232) :
    Calls Tryz.prog 155 #[.pointer (some ⟨b, 0, none⟩), .pointer (some ⟨c, 0, none⟩), .int .i64 factor, .int .i64 0] w fun e w' =>
      e = .returned (.tuple #[]) ∧ w.grownBy w' (some b) ∧ WB w' b neg (nw T) (fun i => wd T i) :=
  carry_wi w b c 0 X Y T neg negy factor hx hX hy hbc hf hup (by rw [hT]; simp) hT2

end Go.Proofs.YtbdckemkmocdlaaGreatDoor

/- (*whole.wide).beyond: the order of two magnitudes. -/
namespace Go.Proofs.YtbdckemkmocdlaaGreatDoor
open Go.RowKit

set_option maxRecDepth 100000 in
set_option maxHeartbeats 1000000 in
theorem beyond_any (w : World) (b c x y : Nat) (nx ny : Bool) (hx : WB w b nx (nw x) (fun i => wd x i)) (hy : WB w c ny (nw y) (fun i => wd y i)) (hnx : nw x ≤ 232) (hny : nw y ≤ 232) :
    Calls Tryz.prog 153 #[.pointer (some ⟨b, 0, none⟩), .pointer (some ⟨c, 0, none⟩)] w fun e w' =>
      ∃ d : Int, e = .returned (.int .i64 d) ∧ Cmp x y d ∧ ∃ nq, w' = w.drewN nq := by
  have x1 := hx.c1
  have y1 := hy.c1
  by_cases hn : nw x = nw y
  · have t : ((nw x : Int) != (nw y : Int)) = false := by simp [hn]
    have HN := Lib.hid hn
    clear hn
    go_enter Tryz.func153, Tryz.ntmps153
    go_wp2
    go_quiet (fail)
    go_wp2
    go_loopw [5] (fun i wr => ∃ (k : Nat), i = .int .i64 ((k : Int) - 1) ∧ k ≤ nw x ∧ x / BW ^ k = y / BW ^ k ∧ ∃ nq, wr = w.drewN nq)
      (fun i _ => (intOf i + 1).toNat)
    case atStart => exact ⟨nw x, rfl, Nat.le_refl _, same_start HN.out, nq, rfl⟩
    case round =>
      obtain ⟨k, rfl, hk, he, n0, rfl⟩ := hrel
      have HE := Lib.hid he
      clear he
      by_cases h0 : 0 < k
      · obtain ⟨j, rfl⟩ : ∃ j, k = j + 1 := ⟨k - 1, by omega⟩
        have x3 := hx.cw j (by omega)
        have y3 := hy.cw j (by omega)
        have ej : ((j + 1 : Nat) : Int) - 1 = (j : Int) := by omega
        rw [ej]
        by_cases hd : wd x j = wd y j
        · have t2 : ((wd x j : Int) != (wd y j : Int)) = false := by simp [hd]
          have HD := Lib.hid hd
          clear hd ej
          go_wp2
          go_quiet (fail)
          go_wp2
          refine ⟨⟨j, rfl, by omega, same_step HE.out HD.out, _, rfl⟩, by simp [intOf]⟩
        · have t2 : ((wd x j : Int) != (wd y j : Int)) = true := by simp; omega
          have HD := Lib.hid hd
          clear hd ej
          have b1 := wd_lt x j
          have b2 := wd_lt y j
          rw [show BW = 1000000000 from rfl] at b1 b2
          go_wp2
          go_quiet (fail)
          go_wp2
          go_quiet (fail)
          go_wp2
          go_ret
          exact ⟨_, rfl, cmp_step HE.out HD.out, drew3 _ _ _ _⟩
      · obtain rfl : k = 0 := by omega
        go_wp2
        go_ret
        exact ⟨_, rfl, cmp_same HE.out, _, rfl⟩
  · have t : ((nw x : Int) != (nw y : Int)) = true := by simp; omega
    have HN := Lib.hid hn
    clear hn
    go_enter Tryz.func153, Tryz.ntmps153
    go_wp2
    go_quiet (fail)
    go_wp2
    go_quiet (fail)
    go_wp2
    go_ret
    exact ⟨_, rfl, cmp_nw HN.out, drew2 _ _ _⟩
end Go.Proofs.YtbdckemkmocdlaaGreatDoor

/- whole.estimate: how often a magnitude may be subtracted. -/
namespace Go.Proofs.YtbdckemkmocdlaaGreatDoor
open Go.RowKit

/-- the i-th word, 0 before the first one -/
def topw (v : Nat) (i : Int) : Int := if 0 ≤ i then (wd v i.toNat : Int) else 0

set_option maxRecDepth 100000 in
set_option maxHeartbeats 1000000 in
theorem top_any (w : World) (b v : Nat) (neg : Bool) (i : Nat) (hw : WB w b neg (nw v) (fun i => wd v i)) (hn : nw v ≤ 232) :
    Calls Tryz.prog 179 #[.pointer (some ⟨b, 0, none⟩), .int .i64 (i : Int)] w fun e w' => e = .returned (.int .i64 (wd v i : Int)) ∧ w' = w := by
  have k1 := hw.c1
  by_cases h : i < nw v
  · have k3 := hw.cw i (by omega)
    go_enter Tryz.func179, Tryz.ntmps179
    go_wp2
    go_ret
    exact ⟨rfl, rfl⟩
  · have HZ := Lib.hid (show wd v i = 0 from wd_big (by omega))
    go_enter Tryz.func179, Tryz.ntmps179
    go_wp2
    go_ret
    rw [HZ.out]
    exact ⟨rfl, rfl⟩

theorem est_le {x y p : Nat} (hp : nw y = p + 1) (k : Nat) (hk : k ≤ (wd x (p + 1) * BW + wd x p) / (if p = 0 then wd y p else wd y p + 1)) : k * y ≤ x := by
  have hy0 : y ≠ 0 := by intro e; subst e; rw [nw_zero] at hp; omega
  have ht := top_word' hy0
  rw [hp] at ht
  simp only [Nat.add_sub_cancel] at ht
  have hx2 : (wd x (p + 1) * BW + wd x p) * BW ^ p ≤ x := by
    have h1 := div_step x p
    have h2 : wd x (p + 1) ≤ x / BW ^ (p + 1) := Nat.mod_le _ _
    have h3 : wd x (p + 1) * BW + wd x p ≤ x / BW ^ p := by
      rw [h1]; have := Nat.mul_le_mul_left BW h2; rw [Nat.mul_comm BW (wd x (p + 1))] at this; omega
    exact Nat.le_trans (Nat.mul_le_mul_right _ h3) (Nat.div_mul_le_self _ _)
  by_cases h0 : p = 0
  · subst h0
    rw [if_pos rfl] at hk
    rw [Nat.pow_zero, Nat.div_one] at ht
    rw [Nat.pow_zero, Nat.mul_one] at hx2
    rw [← ht]
    exact Nat.le_trans (Nat.mul_le_mul_right _ hk) (Nat.le_trans (Nat.div_mul_le_self _ _) hx2)
  · rw [if_neg h0] at hk
    have hy : y ≤ (wd y p + 1) * BW ^ p := by
      rw [ht, Nat.add_mul, Nat.one_mul]
      have := Nat.div_add_mod y (BW ^ p)
      have h2 := Nat.mod_lt y (Nat.pow_pos (n := p) BW_pos)
      rw [Nat.mul_comm] at this; omega
    have h1 : k * (wd y p + 1) ≤ wd x (p + 1) * BW + wd x p := Nat.le_trans (Nat.mul_le_mul_right _ hk) (Nat.div_mul_le_self _ _)
    calc k * y ≤ k * ((wd y p + 1) * BW ^ p) := Nat.mul_le_mul_left _ hy
      _ = k * (wd y p + 1) * BW ^ p := by rw [Nat.mul_assoc]
      _ ≤ _ := Nat.mul_le_mul_right _ h1
      _ ≤ x := hx2

/-- what estimate tells -/
def Est (x y : Nat) (k : Int) : Prop := 1 ≤ k ∧ k ≤ 999999999 ∧ k * (y : Int) ≤ (x : Int)

theorem est_of {x y N B : Nat} {k : Int} (HE : ∀ k, k ≤ N / B → k * y ≤ x) (h1 : 1 ≤ k) (h2 : k ≤ 999999999) (h3 : k ≤ ((N / B : Nat) : Int)) : Est x y k := by
  refine ⟨h1, h2, ?_⟩
  obtain ⟨q, rfl⟩ := Int.eq_ofNat_of_zero_le (show 0 ≤ k by omega)
  have := HE q (by omega)
  exact_mod_cast this
theorem cast_div (A A0 B : Nat) : ((A : Int) * 1000000000 + (A0 : Int)) / (B : Int) = (((A * 1000000000 + A0) / B : Nat) : Int) := by
  rw [Int.natCast_ediv, Int.natCast_add, Int.natCast_mul]; rfl
theorem est_one {x y : Nat} (h : y ≤ x) : Est x y 1 := ⟨by omega, by omega, by omega⟩

set_option maxRecDepth 100000 in
set_option maxHeartbeats 2000000 in
theorem estimate_any (w : World) (b c x y p : Nat) (nx ny : Bool) (hx : WB w b nx (nw x) (fun i => wd x i)) (hy : WB w c ny (nw y) (fun i => wd y i)) (hnx : nw x ≤ 232) (hny : nw y ≤ 232) (hp : nw y = p + 1) (hle : y ≤ x) :
    Calls Tryz.prog 154 #[.pointer (some ⟨b, 0, none⟩), .pointer (some ⟨c, 0, none⟩)] w fun e w' => ∃ k : Int, e = .returned (.int .i64 k) ∧ Est x y k ∧ ∃ nq, w' = w.drewN nq := by
  have y1 := hy.c1
  rw [hp] at y1
  rw [show ((p + 1 : Nat) : Int) = (p : Int) + 1 by omega] at y1
  have e1 : IntKind.i64.wrap ((p : Int) + 1 - 1) = (p : Int) := by rw [IntWalk.i64_in _ (by omega)]; omega
  have HX := Lib.hid (show ∀ n i, Calls Tryz.prog 179 #[.pointer (some ⟨b, 0, none⟩), .int .i64 ((i : Nat) : Int)] (w.drewN n) fun e w' => e = .returned (.int .i64 (wd x i : Int)) ∧ w' = w.drewN n from fun n i => top_any (w.drewN n) b x nx i (hx.drewN n) hnx)
  have HY := Lib.hid (show ∀ n i, Calls Tryz.prog 179 #[.pointer (some ⟨c, 0, none⟩), .int .i64 ((i : Nat) : Int)] (w.drewN n) fun e w' => e = .returned (.int .i64 (wd y i : Int)) ∧ w' = w.drewN n from fun n i => top_any (w.drewN n) c y ny i (hy.drewN n) hny)
  have HX1 := Lib.hid (show ∀ n, Calls Tryz.prog 179 #[.pointer (some ⟨b, 0, none⟩), .int .i64 ((p : Int) + 1)] (w.drewN n) fun e w' => e = .returned (.int .i64 (wd x (p + 1) : Int)) ∧ w' = w.drewN n from fun n => HX.out n (p + 1))
  have a1 := wd_lt x (p + 1)
  have a0 := wd_lt x p
  have b0 := wd_lt y p
  have bp : 1 ≤ wd y p := by
    have hy0 : y ≠ 0 := by intro e; subst e; rw [nw_zero] at hp; omega
    have := wd_top hy0
    rw [hp] at this; simp at this; omega
  have HE := Lib.hid (fun k => est_le (x := x) hp k)
  have HLE := Lib.hid hle
  rw [show BW = 1000000000 from rfl] at a1 a0 b0 HE
  have eA : IntKind.i64.wrap ((wd x (p + 1) : Int) * 1000000000) = (wd x (p + 1) : Int) * 1000000000 := IntWalk.i64_in _ (by omega)
  have eB : IntKind.i64.wrap ((wd x (p + 1) : Int) * 1000000000 + (wd x p : Int)) = (wd x (p + 1) : Int) * 1000000000 + (wd x p : Int) := IntWalk.i64_in _ (by omega)
  go_enter Tryz.func154, Tryz.ntmps154
  go_wp2_with fail
  go_quiet ((first | (go_at_call 179; with_reducible exact Calls.quiet_of_same (HX1.out _)) | (go_at_call 179; with_reducible exact Calls.quiet_of_same (HX.out _ p)) | (go_at_call 179; with_reducible exact Calls.quiet_of_same (HY.out _ p))))
  clear hp hle HX HY HX1 e1 hx hy eA eB
  by_cases h0 : p = 0
  · subst h0
    simp only [if_true] at HE
    have y2 : w.cell? ⟨c, 1, none⟩ = some (.int .i64 1) := y1
    generalize wd x (0 + 1) = A at *
    generalize wd x 0 = A0 at *
    generalize wd y 0 = B at *
    clear y1
    have eN : ((A : Int) * 1000000000 + (A0 : Int)) / (B : Int) = (((A * 1000000000 + A0) / B : Nat) : Int) := cast_div A A0 B
    have HN := Lib.hid eN
    clear eN
    go_wp2
    all_goals go_ret
    all_goals refine ⟨_, rfl, ?_, _, rfl⟩
    · exact est_of HE.out (by omega) (by omega) (by have := HN.out; omega)
    · exact est_of HE.out (by omega) (by assumption) (by rw [HN.out]; exact Int.le_refl _)
    · exact est_one HLE.out
  · rw [if_neg h0] at HE
    have t1 : (1 : Int) < (p : Int) + 1 := by omega
    generalize wd x (p + 1) = A at *
    generalize wd x p = A0 at *
    generalize wd y p = B at *
    have eN : ((A : Int) * 1000000000 + (A0 : Int)) / ((B : Int) + 1) = (((A * 1000000000 + A0) / (B + 1) : Nat) : Int) := by rw [← cast_div]; rw [Int.natCast_add]; rfl
    have HN := Lib.hid eN
    clear eN
    go_wp2
    all_goals go_ret
    all_goals refine ⟨_, rfl, ?_, _, rfl⟩
    · exact est_of HE.out (by omega) (by omega) (by have := HN.out; omega)
    · exact est_of HE.out (by omega) (by assumption) (by rw [HN.out]; exact Int.le_refl _)
    · exact est_one HLE.out
end Go.Proofs.YtbdckemkmocdlaaGreatDoor

/- metrolabref12: Has, Contains. -/
import Derived.Test.YtbdckemkmocdlaaGreatDoorZ22
import Derived.Test.YtbdckemkmocdlaaGreatDoorZ17
set_option linter.all false
set_option exponentiation.threshold 2000000
namespace Go.Proofs.YtbdckemkmocdlaaGreatDoor
open Go.RowKit

attribute [local irreducible] sI sQ


set_option maxRecDepth 100000 in
set_option maxHeartbeats 2000000 in
theorem rhas_any (a b p c d : Rat) (w : World) (h1 : Sh a b p) (hc : Sz 12 10 c) (hd : Sz 12 10 d) :
    Calls Tryz.prog 52 #[dcV a b p, plV c d] w fun e w' => e = .returned (.bool (hasQ a b p c d)) ∧ Below w.heap.size w w' := by
  obtain ⟨b0, a1, a2⟩ := disc_place w (sQ a) (sQ b) (sQ p) (sQ c) (sQ d)
  have HB := Lib.hid b0
  have H1 := Lib.hid a1
  have H2 := Lib.hid a2
  have M1 := Lib.hid (fun W => rffar_any a b c d W (mdFar h1.x h1.y hc hd))
  have M2 := Lib.hid (fun W => rqorder_any (farQ a b c d) p W (sz_far h1.x h1.y hc hd).md h1.s.md)
  have HV := Lib.hid (show hasQ a b p c d = decide (sgn (farQ a b c d - p).num ≤ 0) from rfl)
  generalize hasQ a b p c d = R at *
  generalize sgn (farQ a b c d - p).num = o at *
  clear a1 a2 b0 h1 hc hd
  go_enter Tryz.func52, Tryz.ntmps52
  go_wp2_with fail
  generalize (w.alloc (.cells #[.string (sQ a), .string (sQ b), .string (sQ p)] 26 (0, 0))).alloc (.cells #[.string (sQ c), .string (sQ d)] 24 (0, 0)) = W0 at *
  have KS := Lib.hid (show ∀ W, Below W0.heap.size W0 W → (W.cell? ⟨w.heap.size, 0, none⟩ = some (.string (sQ a)) ∧ W.cell? ⟨w.heap.size, 1, none⟩ = some (.string (sQ b)) ∧ W.cell? ⟨w.heap.size, 2, none⟩ = some (.string (sQ p)) ∧ W.cell? ⟨w.heap.size + 1, 0, none⟩ = some (.string (sQ c)) ∧ W.cell? ⟨w.heap.size + 1, 1, none⟩ = some (.string (sQ d))) ∧ (Below W0.heap.size W0 W ∧ Below w.heap.size w W) from fun W hW => by
    have e1 := H1.out.below hW H1.out.lt
    have e2 := H2.out.below hW H2.out.lt
    exact ⟨⟨e1.c 0, e1.c 1, e1.c 2, e2.c 0, e2.c 1⟩, hW, HB.out.trans (hW.mono HB.out.size)⟩)
  go_region_held3 (fun W => (W.cell? ⟨w.heap.size, 0, none⟩ = some (.string (sQ a)) ∧ W.cell? ⟨w.heap.size, 1, none⟩ = some (.string (sQ b)) ∧ W.cell? ⟨w.heap.size, 2, none⟩ = some (.string (sQ p)) ∧ W.cell? ⟨w.heap.size + 1, 0, none⟩ = some (.string (sQ c)) ∧ W.cell? ⟨w.heap.size + 1, 1, none⟩ = some (.string (sQ d))) ∧ (Below W0.heap.size W0 W ∧ Below w.heap.size w W))
    ((refine KS.out _ ?_; first | exact (Below.refl _ _).drew | assumption))
    (first | (go_at_call 82; have hh := ‹(_ ∧ _) ∧ (_ ∧ Below w.heap.size w _)›; with_reducible refine (M1.out _).mono ?_; rintro e w1 ⟨rfl, hb1⟩; have hb2 := hh.2.1.trans (hb1.mono hh.2.1.size)) | (go_at_call 81; have hh := ‹(_ ∧ _) ∧ (_ ∧ Below w.heap.size w _)›; with_reducible refine (M2.out _).mono ?_; rintro e w1 ⟨rfl, hb1⟩; have hb2 := hh.2.1.trans (hb1.mono hh.2.1.size)))
  go_wp2_with fail
  go_ret
  exact ⟨ret_bool HV.out.symm, HB.out.trans (hb2.mono HB.out.size)⟩


set_option maxRecDepth 100000 in
set_option maxHeartbeats 2000000 in
theorem rcontains_bad (x y q u v : ByteArray) (w : World) (hx : x.size ≤ 1000) (hy : y.size ≤ 1000) (hq : q.size ≤ 1000) (hn : chkD x.data.toList y.data.toList q.data.toList ≠ 0) :
    Calls Tryz.prog 21 #[dtV x y q, ptV u v] w fun e w' => e = .returned (.tuple #[.bool false, .int .i64 (chkD x.data.toList y.data.toList q.data.toList)]) ∧ Below w.heap.size w w' := by
  obtain ⟨b0, a1, a2⟩ := disc_place w x y q u v
  have HB := Lib.hid b0
  have c0 := a1.c 0
  have c1 := a1.c 1
  have c2 := a1.c 2
  simp at c0 c1 c2
  have M1 := Lib.hid (fun W => rfcheck_any x y q W hx hy hq)
  have t0 : (chkD x.data.toList y.data.toList q.data.toList == 0) = false := by simpa using hn
  generalize chkD x.data.toList y.data.toList q.data.toList = n at *
  clear a1 a2 b0 hn
  go_enter Tryz.func21, Tryz.ntmps21
  go_wp2_with fail
  generalize (w.alloc (.cells #[.string x, .string y, .string q] 26 (0, 0))).alloc (.cells #[.string u, .string v] 24 (0, 0)) = W0 at *
  go_wp2_with fail
  with_reducible refine (M1.out _).mono ?_
  rintro e w1 ⟨rfl, hb1⟩
  go_wp2_with fail
  go_ret2
  exact ⟨rfl, HB.out.trans (hb1.mono HB.out.size)⟩

set_option maxRecDepth 100000 in
set_option maxHeartbeats 2000000 in
theorem rcontains_bad2 (x y q u v : ByteArray) (w : World) (hx : x.size ≤ 1000) (hy : y.size ≤ 1000) (hq : q.size ≤ 1000) (hu : u.size ≤ 1000) (hv : v.size ≤ 1000) (h0 : chkD x.data.toList y.data.toList q.data.toList = 0)
    (hn : chkR u.data.toList = 3 ∨ (chkR u.data.toList = 0 ∧ chkR v.data.toList = 3)) :
    Calls Tryz.prog 21 #[dtV x y q, ptV u v] w fun e w' => e = .returned (.tuple #[.bool false, .int .i64 3]) ∧ Below w.heap.size w w' := by
  obtain ⟨b0, a1, a2⟩ := disc_place w x y q u v
  have HB := Lib.hid b0
  have H2 := Lib.hid a2
  have c0 := a1.c 0
  have c1 := a1.c 1
  have c2 := a1.c 2
  simp at c0 c1 c2
  have M1 := Lib.hid (fun W => rfcheck_any x y q W hx hy hq)
  have M2 := Lib.hid (fun W => rqcheck_short u W hu)
  have M3 := Lib.hid (fun W => rqcheck_short v W hv)
  rw [h0] at M1
  generalize chkR u.data.toList = n at *
  generalize chkR v.data.toList = m at *
  clear a1 a2 b0 h0
  go_enter Tryz.func21, Tryz.ntmps21
  go_wp2_with fail
  generalize (w.alloc (.cells #[.string x, .string y, .string q] 26 (0, 0))).alloc (.cells #[.string u, .string v] 24 (0, 0)) = W0 at *
  go_wp2_with fail
  with_reducible refine (M1.out _).mono ?_
  rintro e w1 ⟨rfl, hb1⟩
  have e2 := H2.out.below hb1 H2.out.lt
  have hb2 := HB.out.trans (hb1.mono HB.out.size)
  have r0 := e2.c 0
  simp at r0
  clear c0 c1 c2
  go_wp2_with fail
  with_reducible refine (M2.out _).mono ?_
  rintro e w3 ⟨rfl, hb3⟩
  have hb4 := hb2.trans (hb3.mono hb2.size)
  rcases hn with rfl | ⟨rfl, rfl⟩
  · go_wp2_with fail
    go_ret2
    exact ⟨rfl, hb4⟩
  · have e4 := e2.below hb3 e2.lt
    have r1 := e4.c 1
    simp at r1
    go_wp2_with fail
    with_reducible refine (M3.out _).mono ?_
    rintro e w5 ⟨rfl, hb5⟩
    go_wp2_with fail
    go_ret2
    exact ⟨rfl, hb4.trans (hb5.mono hb4.size)⟩

set_option maxRecDepth 100000 in
set_option maxHeartbeats 2000000 in
theorem rcontains_ok (a b p c d : Rat) (w : World) (hs : (sQ a).size ≤ 1000 ∧ (sQ b).size ≤ 1000 ∧ (sQ p).size ≤ 1000 ∧ (sQ c).size ≤ 1000 ∧ (sQ d).size ≤ 1000) (hp : 0 ≤ p.num) (h1 : Sh a b p) (hc : Sz 12 10 c) (hd : Sz 12 10 d) :
    Calls Tryz.prog 21 #[dcV a b p, plV c d] w fun e w' => e = .returned (.tuple #[.bool (hasQ a b p c d), .int .i64 0]) ∧ Below w.heap.size w w' := by
  obtain ⟨s1, s2, s3, s4, s5⟩ := hs
  obtain ⟨b0, a1, a2⟩ := disc_place w (sQ a) (sQ b) (sQ p) (sQ c) (sQ d)
  have HB := Lib.hid b0
  have H1 := Lib.hid a1
  have H2 := Lib.hid a2
  have M1 := Lib.hid (fun W => rfcheck_any (sQ a) (sQ b) (sQ p) W s1 s2 s3)
  rw [chkD_ok hp] at M1
  have M2 := Lib.hid (fun W => rqcheck_short (sQ c) W s4)
  have M3 := Lib.hid (fun W => rqcheck_short (sQ d) W s5)
  rw [show chkR (sQ c).data.toList = 0 by unfold chkR; rw [if_pos ⟨c, sQ_list c⟩]] at M2
  rw [show chkR (sQ d).data.toList = 0 by unfold chkR; rw [if_pos ⟨d, sQ_list d⟩]] at M3
  have M4 := Lib.hid (fun W => rhas_any a b p c d W h1 hc hd)
  generalize hasQ a b p c d = R at *
  have c0 := a1.c 0
  have c1 := a1.c 1
  have c2 := a1.c 2
  simp at c0 c1 c2
  clear a1 a2 b0 h1 hc hd hp
  go_enter Tryz.func21, Tryz.ntmps21
  go_wp2_with fail
  generalize (w.alloc (.cells #[.string (sQ a), .string (sQ b), .string (sQ p)] 26 (0, 0))).alloc (.cells #[.string (sQ c), .string (sQ d)] 24 (0, 0)) = W0 at *
  go_wp2_with fail
  with_reducible refine (M1.out _).mono ?_
  rintro e w1 ⟨rfl, hb1⟩
  have d1 := H1.out.below hb1 H1.out.lt
  have d2 := H2.out.below hb1 H2.out.lt
  have hb2 := HB.out.trans (hb1.mono HB.out.size)
  have r0 := d2.c 0
  simp at r0
  clear c0 c1 c2
  go_wp2_with fail
  with_reducible refine (M2.out _).mono ?_
  rintro e w3 ⟨rfl, hb3⟩
  have hb4 := hb2.trans (hb3.mono hb2.size)
  have d3 := d1.below hb3 d1.lt
  have d4 := d2.below hb3 d2.lt
  have r1 := d4.c 1
  simp at r1
  clear r0
  go_wp2_with fail
  with_reducible refine (M3.out _).mono ?_
  rintro e w5 ⟨rfl, hb5⟩
  have hb6 := hb4.trans (hb5.mono hb4.size)
  have d5 := d3.below hb5 d3.lt
  have d6 := d4.below hb5 d4.lt
  have c0 := d5.c 0
  have c1 := d5.c 1
  have c2 := d5.c 2
  have r0 := d6.c 0
  clear r1
  have r1 := d6.c 1
  simp at c0 c1 c2 r0 r1
  go_wp2_with fail
  with_reducible refine (M4.out _).mono ?_
  rintro e w7 ⟨rfl, hb7⟩
  go_wp2_with fail
  go_ret2
  exact ⟨rfl, hb6.trans (hb7.mono hb6.size)⟩
end Go.Proofs.YtbdckemkmocdlaaGreatDoor

/- metrolabref12: Short, Few. -/
namespace Go.Proofs.YtbdckemkmocdlaaGreatDoor
open Go.RowKit

attribute [local irreducible] sI sQ

theorem blocks2 (w : World) (cs ds : Array Value) (t u : TypeId) : Below w.heap.size w ((w.alloc (.cells cs t (0, 0))).alloc (.cells ds u (0, 0))) ∧
    CB ((w.alloc (.cells cs t (0, 0))).alloc (.cells ds u (0, 0))) w.heap.size cs t ∧ CB ((w.alloc (.cells cs t (0, 0))).alloc (.cells ds u (0, 0))) (w.heap.size + 1) ds u := by
  have a1 := (CB.new w cs t).alloc (.cells ds u (0, 0))
  have b1 := (Below.refl w.heap.size w).alloc (Nat.le_refl _) (.cells cs t (0, 0))
  have a2 := CB.new (w.alloc (.cells cs t (0, 0))) ds u
  have b2 := b1.alloc b1.size (.cells ds u (0, 0))
  simp only [size_alloc] at a2
  exact ⟨b2, a1, a2⟩

/-- whether a disc has short texts -/
def short12 (x y q : ByteArray) : Bool := decide (x.size ≤ 12) && decide (y.size ≤ 12) && decide (q.size ≤ 12)
theorem short12_nth (x y q : ByteArray) : short12 x y q = true ↔ ∀ j, j < 3 → (nth3 x y q j).size ≤ 12 := by
  unfold short12
  simp only [Bool.and_eq_true, decide_eq_true_eq]
  constructor
  · rintro ⟨⟨h1, h2⟩, h3⟩ j hj
    rcases (show j = 0 ∨ j = 1 ∨ j = 2 by omega) with rfl | rfl | rfl <;> assumption
  · intro h
    exact ⟨⟨h 0 (by omega), h 1 (by omega)⟩, h 2 (by omega)⟩

set_option maxRecDepth 100000 in
set_option maxHeartbeats 2000000 in
theorem rshort_any (x y q : ByteArray) (w : World) :
    Calls Tryz.prog 10 #[dtV x y q] w fun e w' => e = .returned (.bool (short12 x y q)) ∧ Below w.heap.size w w' := by
  obtain ⟨b2, a1, a2⟩ := blocks2 w #[.string x, .string y, .string q] #[.string x, .string y, .string q] 26 22
  have HB := Lib.hid b2
  have H2 := Lib.hid a2
  have HV := Lib.hid (short12_nth x y q)
  clear a1 a2 b2
  go_enter Tryz.func10, Tryz.ntmps10
  go_wp2_with fail
  generalize (w.alloc (.cells #[.string x, .string y, .string q] 26 (0, 0))).alloc (.cells #[.string x, .string y, .string q] 22 (0, 0)) = W0 at *
  go_loopw [15] (fun i wr => ∃ k : Nat, i = .int .i64 k ∧ k ≤ 3 ∧ Hid (∀ j, j < k → (nth3 x y q j).size ≤ 12) ∧ Below W0.heap.size W0 wr) (fun i _ => 3 - (intOf i).toNat)
  case atStart => exact ⟨0, rfl, by omega, Lib.hid (fun j h => by omega), Below.refl _ _⟩
  case round =>
    obtain ⟨k, rfl, hk, ha, hb⟩ := hrel
    have hb2 := HB.out.trans (hb.mono HB.out.size)
    by_cases hlt : k < 3
    · have e2 := H2.out.below hb H2.out.lt
      have hc : wr.cell? ⟨w.heap.size + 1, k, none⟩ = some (.string (nth3 x y q k)) := by
        rw [e2.c]
        rcases (show k = 0 ∨ k = 1 ∨ k = 2 by omega) with rfl | rfl | rfl <;> rfl
      have HN := Lib.hid (show (nth3 x y q k).size ≤ 12 → ∀ j, j < k + 1 → (nth3 x y q j).size ≤ 12 from fun h j hj => by
        by_cases e : j = k
        · subst e; exact h
        · exact ha.out j (by omega))
      have HF := Lib.hid (show ¬ (nth3 x y q k).size ≤ 12 → short12 x y q = false from fun h => by
        rw [Bool.eq_false_iff]; intro e; exact h (HV.out.1 e k hlt))
      generalize nth3 x y q k = u at *
      by_cases hu : u.size ≤ 12
      · have HX := Lib.hid (HN.out hu)
        have t1 : ¬ 12 < u.size := by omega
        clear e2 ha
        go_wp2_with fail
        exact ⟨⟨k + 1, by simp, by omega, HX, hb⟩, by simp [intOf]; omega⟩
      · have HX := Lib.hid (HF.out hu)
        have t1 : 12 < u.size := by omega
        clear e2 ha hu
        go_wp2_with fail
        go_ret
        exact ⟨ret_bool HX.out.symm, hb2⟩
    · have HX := Lib.hid (show short12 x y q = true from HV.out.2 fun j hj => ha.out j (by omega))
      go_wp2_with fail
      go_ret
      exact ⟨ret_bool HX.out.symm, hb2⟩

/-- whether discs are few and short, or too many -/
def fewT (l : List TD) : Bool := (l.take 6).all (fun d => short12 d.x d.y d.q) && (decide (l.length ≤ 5) || (decide (64 < l.length) && decide (l.length < 128)))

set_option maxRecDepth 100000 in
set_option maxHeartbeats 2000000 in
theorem rfew_any (b o cap : Nat) (l : List TD) (w : World) (hr : DRow w b o l) (hb : b < w.heap.size) (hl : l.length ≤ 9223372036854775807) :
    Calls Tryz.prog 16 #[.slice (some ⟨b, o, none⟩) l.length cap] w fun e w' => e = .returned (.bool (fewT l)) ∧ Below w.heap.size w w' := by
  have HR := Lib.hid hr
  have HV := Lib.hid (show fewT l = ((l.take 6).all (fun d => short12 d.x d.y d.q) && (decide (l.length ≤ 5) || (decide (64 < l.length) && decide (l.length < 128)))) from rfl)
  clear hr
  go_enter Tryz.func16, Tryz.ntmps16
  go_wp2_with fail
  go_loopw [3] (fun i wr => ∃ k : Nat, i = .int .i64 k ∧ k ≤ l.length ∧ k ≤ 6 ∧ Hid (∀ j, ∀ h : j < l.length, j < k → short12 l[j].x l[j].y l[j].q = true) ∧ Below w.heap.size w wr) (fun i _ => 6 - (intOf i).toNat)
  case atStart => exact ⟨0, rfl, Nat.zero_le _, Nat.zero_le _, Lib.hid (fun j _ h => by omega), Below.refl _ _⟩
  case round =>
    obtain ⟨k, rfl, hk, hk6, ha, hb1⟩ := hrel
    have hend : ¬ (k < l.length ∧ k < 6) → fewT l = (decide (l.length ≤ 5) || (decide (64 < l.length) && decide (l.length < 128))) := fun hn => by
      rw [HV.out]
      have : (l.take 6).all (fun d => short12 d.x d.y d.q) = true := by
        rw [List.all_eq_true]
        intro d hd
        obtain ⟨j, hj, rfl⟩ := List.getElem_of_mem hd
        rw [List.length_take] at hj
        rw [List.getElem_take]
        exact ha.out j (by omega) (by omega)
      rw [this, Bool.true_and]
    have HE := Lib.hid hend
    clear hend
    by_cases hlt : k < l.length
    · by_cases h6 : k < 6
      · obtain ⟨c1, c2, c3⟩ := HR.out.below hb1 hb k hlt
        have HN := Lib.hid (show short12 l[k].x l[k].y l[k].q = true → ∀ j, ∀ h : j < l.length, j < k + 1 → short12 l[j].x l[j].y l[j].q = true from fun h j hj hjk => by
          by_cases e : j = k
          · subst e; exact h
          · exact ha.out j hj (by omega))
        have HF := Lib.hid (show short12 l[k].x l[k].y l[k].q = false → fewT l = false from fun h => by
          rw [HV.out]
          have : (l.take 6).all (fun d => short12 d.x d.y d.q) = false := by
            rw [List.all_eq_false]
            exact ⟨l[k], by rw [List.mem_take_iff_getElem]; exact ⟨k, by omega, rfl⟩, by rw [h]; simp⟩
          rw [this, Bool.false_and])
        generalize hd : l[k] = d at *
        clear hd
        have M := Lib.hid (fun W => rshort_any d.x d.y d.q W)
        generalize short12 d.x d.y d.q = r at *
        have ho : ((o : Int) + (k : Int) * 3) = ((o + k * 3 : Nat) : Int) := by push_cast; rfl
        clear HE ha
        go_wp2_with fail
        refine (M.out _).mono ?_
        rintro e w3 ⟨rfl, hb3⟩
        replace hb3 := hb1.trans (hb3.mono hb1.size)
        cases r
        · have HX := Lib.hid (HF.out rfl)
          go_wp2_with fail
          go_ret
          exact ⟨ret_bool HX.out.symm, hb3⟩
        · have HX := Lib.hid (HN.out rfl)
          go_wp2_with fail
          exact ⟨⟨k + 1, by simp, by omega, by omega, HX, hb3⟩, by simp [intOf]; omega⟩
      · have HX0 := HE.out (by omega)
        have hk : k = 6 := by omega
        subst hk
        have h5 : ¬ l.length ≤ 5 := by omega
        rw [decide_eq_false h5, Bool.false_or] at HX0
        have HX := Lib.hid HX0
        clear HX0
        have t5 : decide ((l.length : Int) ≤ 5) = false := by simp; omega
        clear HE ha
        by_cases h64 : 64 < l.length
        · by_cases h128 : l.length < 128
          · have HY := Lib.hid (show fewT l = true by rw [HX.out, decide_eq_true h64, decide_eq_true h128]; rfl)
            have t6 : decide ((l.length : Int) < 128) = true := by simp; omega
            go_wp2_with fail
            go_ret
            exact ⟨ret_bool HY.out.symm, hb1⟩
          · have HY := Lib.hid (show fewT l = false by rw [HX.out, decide_eq_true h64, decide_eq_false h128]; rfl)
            have t6 : decide ((l.length : Int) < 128) = false := by simp; omega
            go_wp2_with fail
            go_ret
            exact ⟨ret_bool HY.out.symm, hb1⟩
        · have HY := Lib.hid (show fewT l = false by rw [HX.out, decide_eq_false h64]; rfl)
          go_wp2_with fail
          go_ret
          exact ⟨ret_bool HY.out.symm, hb1⟩
    · have HX := Lib.hid (HE.out (by omega))
      clear HE ha
      by_cases h5 : l.length ≤ 5
      · have HY := Lib.hid (show fewT l = true by rw [HX.out, decide_eq_true h5]; rfl)
        have t5 : decide ((l.length : Int) ≤ 5) = true := by simp; omega
        go_wp2_with fail
        go_ret
        exact ⟨ret_bool HY.out.symm, hb1⟩
      · have hk6 : k = 6 := by omega
        have h64 : ¬ 64 < l.length := by omega
        have HY := Lib.hid (show fewT l = false by rw [HX.out, decide_eq_false h5, decide_eq_false h64]; rfl)
        have t5 : decide ((l.length : Int) ≤ 5) = false := by simp; omega
        go_wp2_with fail
        go_ret
        exact ⟨ret_bool HY.out.symm, hb1⟩

set_option maxRecDepth 100000 in
set_option maxHeartbeats 2000000 in
theorem rfew_nil (a : Option Addr) (cap : Nat) (w : World) : Calls Tryz.prog 16 #[.slice a 0 cap] w fun e w' => e = .returned (.bool true) ∧ Below w.heap.size w w' := by
  go_enter Tryz.func16, Tryz.ntmps16
  go_wp2_with fail
  go_loopw [3] (fun i wr => i = .int .i64 0 ∧ wr = w) (fun _ _ => 0)
  case atStart => exact ⟨rfl, rfl⟩
  case round =>
    obtain ⟨rfl, rfl⟩ := hrel
    go_wp2_with fail
    go_ret
    exact ⟨rfl, Below.refl _ _⟩
end Go.Proofs.YtbdckemkmocdlaaGreatDoor

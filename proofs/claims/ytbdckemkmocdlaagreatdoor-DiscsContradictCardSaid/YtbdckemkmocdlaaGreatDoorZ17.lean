/- Bounds for what compares two discs. -/
import Derived.Test.YtbdckemkmocdlaaGreatDoorZ15
import Derived.Test.YtbdckemkmocdlaaGreatDoorZ16
set_option linter.unusedVariables false
set_option linter.unusedSimpArgs false
namespace Go.Proofs.YtbdckemkmocdlaaGreatDoor
open Go.RowKit

theorem sz_zero : Sz 1 1 0 := ⟨by decide, by decide⟩
theorem sz_two : Sz 1 1 2 := ⟨by decide, by decide⟩
theorem sz_mtwo : Sz 1 1 (-2) := ⟨by decide, by decide⟩

theorem rat_num_nonneg {x : Rat} : 0 ≤ x.num ↔ 0 ≤ x := Rat.num_nonneg
theorem mul_num_nonneg {p q : Rat} (hp : 0 ≤ p.num) (hq : 0 ≤ q.num) : 0 ≤ (p * q).num :=
  rat_num_nonneg.2 (Rat.mul_nonneg (rat_num_nonneg.1 hp) (rat_num_nonneg.1 hq))

theorem sz_far {a b c d : Rat} (ha : Sz 12 10 a) (hb : Sz 12 10 b) (hc : Sz 12 10 c) (hd : Sz 12 10 d) : Sz 87 80 (farQ a b c d) := by
  have h1 := sz_sub ha hc
  have h2 := sz_sub hb hd
  exact (sz_add (sz_mul h1 h1) (sz_mul h2 h2)).mono (by omega) (by omega)

theorem fitFar {a b c d : Rat} (ha : Sz 12 10 a) (hb : Sz 12 10 b) (hc : Sz 12 10 c) (hd : Sz 12 10 d) : FitFar a b c d := by
  have h1 := sz_sub ha hc
  have h2 := sz_sub hb hd
  exact ⟨fitSub ha hc (by omega) (by omega) (by omega), fitSub hb hd (by omega) (by omega) (by omega), fitMul h1 h1 (by omega) (by omega), fitMul h2 h2 (by omega) (by omega),
    fitAdd (sz_mul h1 h1) (sz_mul h2 h2) (by omega) (by omega) (by omega)⟩

theorem fitPair {a b p c d q : Rat} (ha : Sz 12 10 a) (hb : Sz 12 10 b) (hp : Sz 12 10 p) (hc : Sz 12 10 c) (hd : Sz 12 10 d) (hq : Sz 12 10 q) (hp0 : 0 ≤ p.num) (hq0 : 0 ≤ q.num) : FitPair a b p c d q := by
  have hf := sz_far ha hb hc hd
  have hpq := sz_add hp hq
  have hs := sz_sub hf hpq
  exact { far := fitFar ha hb hc hd, add := fitAdd hp hq (by omega) (by omega) (by omega), sub := fitSub hf hpq (by omega) (by omega) (by omega), mul := fitMul hp hq (by omega) (by omega)
          r2 := rootFit hs sz_two (sz_mul hp hq) (by omega) (by omega), rm2 := rootFit hs sz_mtwo (sz_mul hp hq) (by omega) (by omega), pq := mul_num_nonneg hp0 hq0
          ord := fitSub hp hq (by omega) (by omega) (by omega), ord0 := rootFit (sz_sub hp hq) sz_zero sz_zero (by omega) (by omega) }
end Go.Proofs.YtbdckemkmocdlaaGreatDoor

/- package discs: Contains. -/
namespace Go.Proofs.YtbdckemkmocdlaaGreatDoor
open Go.RowKit

attribute [local irreducible] sI sQ

theorem disc_place (w : World) (x y q u v : ByteArray) : Below w.heap.size w ((w.alloc (.cells #[.string x, .string y, .string q] 26 (0, 0))).alloc (.cells #[.string u, .string v] 24 (0, 0))) ∧ CB ((w.alloc (.cells #[.string x, .string y, .string q] 26 (0, 0))).alloc (.cells #[.string u, .string v] 24 (0, 0))) w.heap.size #[.string x, .string y, .string q] 26 ∧ CB ((w.alloc (.cells #[.string x, .string y, .string q] 26 (0, 0))).alloc (.cells #[.string u, .string v] 24 (0, 0))) (w.heap.size + 1) #[.string u, .string v] 24 := by
  have a1 := (CB.new w #[.string x, .string y, .string q] 26).alloc (.cells #[.string u, .string v] 24 (0, 0))
  have b1 := (Below.refl w.heap.size w).alloc (Nat.le_refl _) (.cells #[.string x, .string y, .string q] 26 (0, 0))
  have a2 := CB.new (w.alloc (.cells #[.string x, .string y, .string q] 26 (0, 0))) #[.string u, .string v] 24
  have b2 := b1.alloc b1.size (.cells #[.string u, .string v] 24 (0, 0))
  simp only [size_alloc] at a2
  exact ⟨b2, a1, a2⟩

/-- a place of texts -/
abbrev ptV (u v : ByteArray) : Value := .agg #[.string u, .string v]

theorem ret_bi {a b : Bool} {c d : Int} (h : a = b) (h2 : c = d) : Ending.returned (.tuple #[.bool a, .int .i64 c]) = .returned (.tuple #[.bool b, .int .i64 d]) := by rw [h, h2]

set_option maxRecDepth 100000 in
set_option maxHeartbeats 2000000 in
theorem dcontains_bad (x y q u v : ByteArray) (w : World) (hx : x.size ≤ 1000) (hy : y.size ≤ 1000) (hq : q.size ≤ 1000) (hn : chkD x.data.toList y.data.toList q.data.toList ≠ 0) (he : Env w) :
    Calls Tryz.prog 20 #[dtV x y q, ptV u v] w fun e w' => e = .returned (.tuple #[.bool false, .int .i64 (chkD x.data.toList y.data.toList q.data.toList)]) ∧ Below w.heap.size w w' := by
  have KE := Lib.hid (show ∀ W, Below w.heap.size w W → Env W from fun W hW => he.below hW)
  have HB := Lib.hid (disc_place w x y q u v).1
  have t0 : (chkD x.data.toList y.data.toList q.data.toList == 0) = false := by simpa using hn
  clear he hn
  go_enter Tryz.func20, Tryz.ntmps20
  go_wp2_with fail
  generalize (w.alloc (.cells #[.string x, .string y, .string q] 26 (0, 0))).alloc (.cells #[.string u, .string v] 24 (0, 0)) = W0 at *
  with_reducible refine (dcheck_any _ _ _ _ hx hy hq (KE.out _ HB.out)).mono ?_
  rintro e w5 ⟨rfl, hb6⟩
  go_wp2_with fail
  go_ret2
  exact ⟨rfl, HB.out.trans (hb6.mono HB.out.size)⟩

set_option maxRecDepth 100000 in
set_option maxHeartbeats 2000000 in
theorem dcontains_bad2 (x y q u v : ByteArray) (w : World) (hx : x.size ≤ 1000) (hy : y.size ≤ 1000) (hq : q.size ≤ 1000) (hu : u.size ≤ 1000) (hv : v.size ≤ 1000) (h0 : chkD x.data.toList y.data.toList q.data.toList = 0)
    (hn : chkR u.data.toList = 3 ∨ (chkR u.data.toList = 0 ∧ chkR v.data.toList = 3)) (he : Env w) :
    Calls Tryz.prog 20 #[dtV x y q, ptV u v] w fun e w' => e = .returned (.tuple #[.bool false, .int .i64 3]) ∧ Below w.heap.size w w' := by
  have KE := Lib.hid (show ∀ W, Below w.heap.size w W → Env W from fun W hW => he.below hW)
  obtain ⟨b0, a1, a2⟩ := disc_place w x y q u v
  have HB := Lib.hid b0
  have H2 := Lib.hid a2
  have H0 := Lib.hid h0
  have HN := Lib.hid hn
  clear he hn h0 b0 a1 a2
  go_enter Tryz.func20, Tryz.ntmps20
  go_wp2_with fail
  generalize (w.alloc (.cells #[.string x, .string y, .string q] 26 (0, 0))).alloc (.cells #[.string u, .string v] 24 (0, 0)) = W0 at *
  with_reducible refine (dcheck_any _ _ _ _ hx hy hq (KE.out _ HB.out)).mono ?_
  rintro e w5 ⟨rfl, hb6⟩
  rw [H0.out]
  have e2 := H2.out.below hb6 H2.out.lt
  have c0 := e2.c 0
  have c1 := e2.c 1
  simp at c0 c1
  have hb7 := HB.out.trans (hb6.mono HB.out.size)
  have hb8 := hb7.alloc hb7.size (.cells #[.string u, .string v] 22 (0, 0))
  have e3 := CB.new w5 #[.string u, .string v] 22
  go_wp2_with fail
  generalize w5.alloc (.cells #[.string u, .string v] 22 (0, 0)) = w6 at *
  generalize w5.heap.size = g at *
  have H3 := Lib.hid e3
  clear e2 c0 c1 e3
  go_loopw [23] (fun i wr => ∃ k : Nat, i = .int .i64 k ∧ (k = 0 ∨ (k = 1 ∧ chkR u.data.toList = 0)) ∧ Below w6.heap.size w6 wr) (fun i _ => 3 - (intOf i).toNat)
  case atStart => exact ⟨0, rfl, .inl rfl, Below.refl _ _⟩
  case round =>
    obtain ⟨k, rfl, hk, hb⟩ := hrel
    have e3 := H3.out.below hb H3.out.lt
    have hb2 := hb8.trans (hb.mono hb8.size)
    have c0 := e3.c 0
    have c1 := e3.c 1
    simp at c0 c1
    clear e3
    rcases hk with rfl | ⟨rfl, hk⟩
    · go_wp2_with fail
      with_reducible refine (check_short u _ hu (KE.out _ hb2)).mono ?_
      rintro e w9 ⟨rfl, hb9⟩
      rcases HN.out with h | ⟨h, h'⟩
      · rw [h]
        clear h
        go_wp2_with fail
        go_ret2
        exact ⟨rfl, hb2.trans (hb9.mono hb2.size)⟩
      · rw [h]
        have HZ := Lib.hid h
        clear h h'
        go_wp2_with fail
        exact ⟨⟨1, rfl, .inr ⟨rfl, HZ.out⟩, hb.trans (hb9.mono hb.size)⟩, by simp [intOf]⟩
    · have HZ := Lib.hid hk
      clear hk
      go_wp2_with fail
      with_reducible refine (check_short v _ hv (KE.out _ hb2)).mono ?_
      rintro e w9 ⟨rfl, hb9⟩
      have h : chkR v.data.toList = 3 := by
        rcases HN.out with h | ⟨h, h'⟩
        · have := HZ.out; omega
        · exact h'
      rw [h]
      clear h
      go_wp2_with fail
      go_ret2
      exact ⟨rfl, hb2.trans (hb9.mono hb2.size)⟩
end Go.Proofs.YtbdckemkmocdlaaGreatDoor

/- package discs: Contains, of right numbers. -/
namespace Go.Proofs.YtbdckemkmocdlaaGreatDoor
open Go.RowKit

attribute [local irreducible] sI sQ

/-- whether a place is in a disc -/
def hasQ (a b p c d : Rat) : Bool := decide (sgnQ (farQ a b c d - p) ≤ 0)

structure FitHas (a b p c d : Rat) : Prop where
  far : FitFar a b c d
  ord : FitSub (farQ a b c d) p
  ord0 : RootFit (farQ a b c d - p) 0 0

theorem fitHas {a b p c d : Rat} (ha : Sz 12 10 a) (hb : Sz 12 10 b) (hp : Sz 12 10 p) (hc : Sz 12 10 c) (hd : Sz 12 10 d) : FitHas a b p c d := by
  have hf := sz_far ha hb hc hd
  exact ⟨fitFar ha hb hc hd, fitSub hf hp (by omega) (by omega) (by omega), rootFit (sz_sub hf hp) sz_zero sz_zero (by omega) (by omega)⟩

set_option maxRecDepth 100000 in
set_option maxHeartbeats 4000000 in
theorem dcontains_ok (a b p c d : Rat) (w : World) (hs : (sQ a).size ≤ 1000 ∧ (sQ b).size ≤ 1000 ∧ (sQ p).size ≤ 1000 ∧ (sQ c).size ≤ 1000 ∧ (sQ d).size ≤ 1000) (hp : 0 ≤ p.num) (hf : FitHas a b p c d) (he : Env w) :
    Calls Tryz.prog 20 #[dcV a b p, plV c d] w fun e w' => e = .returned (.tuple #[.bool (hasQ a b p c d), .int .i64 0]) ∧ Below w.heap.size w w' := by
  have KE := Lib.hid (show ∀ W, Below w.heap.size w W → Env W from fun W hW => he.below hW)
  obtain ⟨s1, s2, s3, s4, s5⟩ := hs
  obtain ⟨b0, a1, a2⟩ := disc_place w (sQ a) (sQ b) (sQ p) (sQ c) (sQ d)
  have HB := Lib.hid b0
  have H1 := Lib.hid a1
  have H2 := Lib.hid a2
  have E1 := Lib.hid (chkD_ok (x := a) (y := b) hp)
  have R1 := Lib.hid (show chkR (sQ c).data.toList = 0 by unfold chkR; rw [if_pos ⟨c, sQ_list c⟩])
  have R2 := Lib.hid (show chkR (sQ d).data.toList = 0 by unfold chkR; rw [if_pos ⟨d, sQ_list d⟩])
  have HV := Lib.hid (show hasQ a b p c d = decide (sgnQ (farQ a b c d - p) ≤ 0) from rfl)
  clear he b0 a1 a2
  go_enter Tryz.func20, Tryz.ntmps20
  go_wp2_with fail
  generalize (w.alloc (.cells #[.string (sQ a), .string (sQ b), .string (sQ p)] 26 (0, 0))).alloc (.cells #[.string (sQ c), .string (sQ d)] 24 (0, 0)) = W0 at *
  with_reducible refine (dcheck_any _ _ _ _ s1 s2 s3 (KE.out _ HB.out)).mono ?_
  rintro e w5 ⟨rfl, hb6⟩
  rw [E1.out]
  have e1 := H1.out.below hb6 H1.out.lt
  have e2 := H2.out.below hb6 H2.out.lt
  have c0 := e2.c 0
  have c1 := e2.c 1
  simp at c0 c1
  have hb7 := HB.out.trans (hb6.mono HB.out.size)
  have hb8 := hb7.alloc hb7.size (.cells #[.string (sQ c), .string (sQ d)] 22 (0, 0))
  have e3 := CB.new w5 #[.string (sQ c), .string (sQ d)] 22
  replace e1 := e1.alloc (.cells #[.string (sQ c), .string (sQ d)] 22 (0, 0))
  replace e2 := e2.alloc (.cells #[.string (sQ c), .string (sQ d)] 22 (0, 0))
  go_wp2_with fail
  generalize w5.alloc (.cells #[.string (sQ c), .string (sQ d)] 22 (0, 0)) = w6 at *
  generalize w5.heap.size = g at *
  have H3 := Lib.hid e3
  have J1 := Lib.hid e1
  have J2 := Lib.hid e2
  clear e1 e2 c0 c1 e3
  go_loopw [23] (fun i wr => ∃ k : Nat, i = .int .i64 k ∧ k ≤ 2 ∧ Below w6.heap.size w6 wr) (fun i _ => 3 - (intOf i).toNat)
  case atStart => exact ⟨0, rfl, by omega, Below.refl _ _⟩
  case round =>
    obtain ⟨k, rfl, hk, hb⟩ := hrel
    have e3 := H3.out.below hb H3.out.lt
    have hb2 := hb8.trans (hb.mono hb8.size)
    have c0 := e3.c 0
    have c1 := e3.c 1
    simp at c0 c1
    clear e3
    rcases (show k = 0 ∨ k = 1 ∨ k = 2 by omega) with rfl | rfl | rfl
    · go_wp2_with fail
      with_reducible refine (check_short (sQ c) _ s4 (KE.out _ hb2)).mono ?_
      rintro e w9 ⟨rfl, hb9⟩
      rw [R1.out]
      go_wp2_with fail
      exact ⟨⟨1, rfl, by omega, hb.trans (hb9.mono hb.size)⟩, by simp [intOf]⟩
    · go_wp2_with fail
      with_reducible refine (check_short (sQ d) _ s5 (KE.out _ hb2)).mono ?_
      rintro e w9 ⟨rfl, hb9⟩
      rw [R2.out]
      go_wp2_with fail
      exact ⟨⟨2, rfl, by omega, hb.trans (hb9.mono hb.size)⟩, by simp [intOf]⟩
    · clear c0 c1
      have hk0 := ok0_newd wr
      have hb4 := hb2.alloc hb2.size (.cells #[.int .i64 0] 73 (0, 0))
      have hb5 := hb.alloc hb.size (.cells #[.int .i64 0] 73 (0, 0))
      have e1 := J1.out.below hb5 J1.out.lt
      have e2 := J2.out.below hb5 J2.out.lt
      clear hb hb2 hb5
      go_wp2_with fail
      generalize wr.alloc (.cells #[.int .i64 0] 73 (0, 0)) = W9 at *
      generalize wr.heap.size = s at *
      have KS := Lib.hid (show ∀ W, Below W9.heap.size W9 W → (W.cell? ⟨w.heap.size, 0, none⟩ = some (.string (sQ a)) ∧ W.cell? ⟨w.heap.size, 1, none⟩ = some (.string (sQ b)) ∧ W.cell? ⟨w.heap.size, 2, none⟩ = some (.string (sQ p)) ∧ W.cell? ⟨w.heap.size + 1, 0, none⟩ = some (.string (sQ c)) ∧ W.cell? ⟨w.heap.size + 1, 1, none⟩ = some (.string (sQ d))) ∧ (Below W9.heap.size W9 W ∧ Below w.heap.size w W) from fun W hW => by
        have x1 := e1.below hW e1.lt
        have x2 := e2.below hW e2.lt
        exact ⟨⟨x1.c 0, x1.c 1, x1.c 2, x2.c 0, x2.c 1⟩, hW, hb4.trans (hW.mono hb4.size)⟩)
      have KO := Lib.hid (show ∀ W, Below W9.heap.size W9 W → OK0 W s from fun W hW => hk0.below hW)
      clear e1 e2
      go_region_held3 (fun W => (W.cell? ⟨w.heap.size, 0, none⟩ = some (.string (sQ a)) ∧ W.cell? ⟨w.heap.size, 1, none⟩ = some (.string (sQ b)) ∧ W.cell? ⟨w.heap.size, 2, none⟩ = some (.string (sQ p)) ∧ W.cell? ⟨w.heap.size + 1, 0, none⟩ = some (.string (sQ c)) ∧ W.cell? ⟨w.heap.size + 1, 1, none⟩ = some (.string (sQ d))) ∧ (Below W9.heap.size W9 W ∧ Below w.heap.size w W))
        ((refine KS.out _ ?_; first | exact (Below.refl _ _).drew | assumption))
        (first | (go_at_call 51; have hh := ‹(_ ∧ _) ∧ (_ ∧ Below w.heap.size w _)›; with_reducible refine (hf.far.calls s _ (KO.out _ hh.2.1) (KE.out _ hh.2.2)).mono ?_; rintro e w1 ⟨rfl, hb1⟩; have hb2 := hh.2.1.trans (hb1.mono hh.2.1.size)) | (go_at_call 50; have hh := ‹(_ ∧ _) ∧ (_ ∧ Below w.heap.size w _)›; with_reducible refine (dorder_any s (farQ a b c d) p _ (KO.out _ hh.2.1) hf.ord hf.ord0 (KE.out _ hh.2.2)).mono ?_; rintro e w1 ⟨rfl, hb1⟩; have hb2 := hh.2.1.trans (hb1.mono hh.2.1.size)))
      have hk1 := KO.out _ hb2
      obtain ⟨_, _, hb10⟩ := KS.out _ hb2
      obtain ⟨k1, k2, _⟩ := hk1
      generalize sgnQ (farQ a b c d - p) = r at *
      by_cases hr : r ≤ 0
      · have HR := Lib.hid (show hasQ a b p c d = true by rw [HV.out, decide_eq_true hr])
        go_wp2_with fail
        go_quiet (fail)
        go_wp2_with fail
        go_ret2
        exact ⟨ret_bi HR.out.symm rfl, hb10.trans (below_same _ _ _)⟩
      · have HR := Lib.hid (show hasQ a b p c d = false by rw [HV.out, decide_eq_false hr])
        have t1 : decide (r ≤ 0) = false := decide_eq_false hr
        have t2 : 0 < r := by omega
        generalize decide (r ≤ 0) = rr at *
        subst t1
        go_wp2_with fail
        go_quiet (fail)
        go_wp2_with fail
        go_ret2
        exact ⟨ret_bi HR.out.symm rfl, hb10.trans (below_same _ _ _)⟩
end Go.Proofs.YtbdckemkmocdlaaGreatDoor

/- package discs: list. -/
namespace Go.Proofs.YtbdckemkmocdlaaGreatDoor
open Go.RowKit

attribute [local irreducible] sI sQ

/-- a disc of texts -/
structure TD where
  x : ByteArray
  y : ByteArray
  q : ByteArray
def TD.chk (d : TD) : List UInt8 × List UInt8 × List UInt8 := (d.x.data.toList, d.y.data.toList, d.q.data.toList)
noncomputable def chkT (d : TD) : Int := chkD d.x.data.toList d.y.data.toList d.q.data.toList
def TD.short (d : TD) : Prop := d.x.size ≤ 1000 ∧ d.y.size ≤ 1000 ∧ d.q.size ≤ 1000

/-- discs in a row -/
def DRow (w : World) (b o : Nat) (l : List TD) : Prop := ∀ i, ∀ h : i < l.length,
  w.cell? ⟨b, o + i * 3, none⟩ = some (.string (l[i]).x) ∧ w.cell? ⟨b, o + i * 3 + 1, none⟩ = some (.string (l[i]).y) ∧ w.cell? ⟨b, o + i * 3 + 2, none⟩ = some (.string (l[i]).q)
theorem DRow.below {w w' : World} {b o B : Nat} {l : List TD} (h : DRow w b o l) (hb : Below B w w') (hB : b < B) : DRow w' b o l := fun i hi =>
  ⟨(hb.cell (p := ⟨b, _, none⟩) hB).trans (h i hi).1, (hb.cell (p := ⟨b, _, none⟩) hB).trans (h i hi).2.1, (hb.cell (p := ⟨b, _, none⟩) hB).trans (h i hi).2.2⟩

/-- the number of the error of a list -/
noncomputable def chkL (l : List TD) : Int :=
  if 64 < l.length then 5 else match l.find? (fun d => decide (chkT d ≠ 0)) with
    | some d => chkT d
    | none => if l.length = 0 then 13 else 0

set_option maxRecDepth 100000 in
set_option maxHeartbeats 2000000 in
theorem dlist_any (b o cap : Nat) (l : List TD) (w : World) (hl : l.length ≤ 1000000) (hs : ∀ d ∈ l, d.short) (hr : DRow w b o l) (hb : b < w.heap.size) (he : Env w) :
    Calls Tryz.prog 46 #[.slice (some ⟨b, o, none⟩) l.length cap] w fun e w' => e = .returned (.int .i64 (chkL l)) ∧ Below w.heap.size w w' := by
  have KE := Lib.hid (show ∀ W, Below w.heap.size w W → Env W from fun W hW => he.below hW)
  have HR := Lib.hid hr
  have HS := Lib.hid hs
  have HV := Lib.hid (show chkL l = if 64 < l.length then 5 else match l.find? (fun d => decide (chkT d ≠ 0)) with | some d => chkT d | none => if l.length = 0 then 13 else 0 from rfl)
  clear he hr hs
  go_enter Tryz.func46, Tryz.ntmps46
  by_cases h64 : 64 < l.length
  · have HW := Lib.hid (show chkL l = 5 by rw [HV.out, if_pos h64])
    go_wp2_with fail
    go_ret
    exact ⟨ret_int HW.out.symm, Below.refl _ _⟩
  · rw [if_neg h64] at HV
    go_wp2_with fail
    go_loopw [11] (fun i wr => ∃ k : Nat, i = .int .i64 k ∧ k ≤ l.length ∧ Hid (∀ j, ∀ h : j < l.length, j < k → chkT l[j] = 0) ∧ Below w.heap.size w wr) (fun i _ => l.length - (intOf i).toNat)
    case atStart => exact ⟨0, rfl, Nat.zero_le _, Lib.hid (fun j _ h => by omega), Below.refl _ _⟩
    case round =>
      obtain ⟨k, rfl, hk, ha, hb1⟩ := hrel
      by_cases hlt : k < l.length
      · obtain ⟨c1, c2, c3⟩ := HR.out.below hb1 hb k hlt
        obtain ⟨s1, s2, s3⟩ := HS.out _ (List.getElem_mem hlt)
        have hb2 := hb1.alloc hb1.size (.cells #[.string (l[k]).x, .string (l[k]).y, .string (l[k]).q] 26 (0, 0))
        have H0 := Lib.hid (show chkT l[k] = 0 → ∀ j, ∀ h : j < l.length, j < k + 1 → chkT l[j] = 0 from fun h0 j hj hjk => by
          by_cases e : j = k
          · subst e; exact h0
          · exact ha.out j hj (by omega))
        have HN := Lib.hid (show chkT l[k] ≠ 0 → chkL l = chkT l[k] from fun hne => by
          rw [HV.out]
          have hf : l.find? (fun d => decide (chkT d ≠ 0)) = some l[k] := by
            rw [List.find?_eq_some_iff_getElem]
            refine ⟨by simpa using hne, k, hlt, rfl, fun j hj => ?_⟩
            have := ha.out j (by omega) hj
            simp [this]
          rw [hf])
        have HCT := Lib.hid (show chkD (l[k]).x.data.toList (l[k]).y.data.toList (l[k]).q.data.toList = chkT l[k] from rfl)
        generalize hd : l[k] = d at *
        clear hd
        go_wp2_with fail
        refine (dcheck_any d.x d.y d.q _ s1 s2 s3 (KE.out _ hb2)).mono ?_
        rintro e w3 ⟨rfl, hb3⟩
        replace hb3 := hb2.trans (hb3.mono hb2.size)
        rw [HCT.out]
        by_cases h0 : chkT d = 0
        · have HH := Lib.hid (H0.out h0)
          rw [h0]
          clear h0
          go_wp2_with fail
          exact ⟨⟨k + 1, by simp, by omega, HH, hb3⟩, by simp [intOf]; omega⟩
        · have HW := Lib.hid (HN.out h0)
          have t0 : (chkT d == 0) = false := by simpa using h0
          generalize chkT d = n at *
          clear h0
          go_wp2_with fail
          go_ret
          exact ⟨ret_int HW.out.symm, hb3⟩
      · have hf : l.find? (fun d => decide (chkT d ≠ 0)) = none := by
          rw [List.find?_eq_none]
          intro d hd
          obtain ⟨j, hj, rfl⟩ := List.getElem_of_mem hd
          have := ha.out j hj (by omega)
          simp [this]
        rw [hf] at HV
        by_cases hz : l.length = 0
        · have HW := Lib.hid (show chkL l = 13 by rw [HV.out]; simp [hz])
          go_wp2_with fail
          go_ret
          exact ⟨ret_int HW.out.symm, hb1⟩
        · have HW := Lib.hid (show chkL l = 0 by rw [HV.out]; simp [hz])
          go_wp2_with fail
          go_ret
          exact ⟨ret_int HW.out.symm, hb1⟩
end Go.Proofs.YtbdckemkmocdlaaGreatDoor

/- package discs: sums.named, two circles. -/
import Derived.Test.YtbdckemkmocdlaaGreatDoorZ25
import Derived.Deep.RegionHeld3
set_option linter.unusedVariables false
set_option linter.unusedSimpArgs false
namespace Go.Proofs.YtbdckemkmocdlaaGreatDoor
open Go.RowKit

attribute [local irreducible] sI sQ

/-- how far along the line of the centers the circles' chord lies -/
def tQ (a c : QD) : Rat := (farQ c.x c.y a.x a.y + a.q - c.q) / (2 * farQ c.x c.y a.x a.y)
/-- the place that a witness of two circles names -/
def spotQ (a c : QD) (side : Int) : Spt :=
  ⟨a.x + tQ a c * (c.x - a.x), a.y + tQ a c * (c.y - a.y), if side < 0 then c.y - a.y else 0 - (c.y - a.y), if side < 0 then 0 - (c.x - a.x) else c.x - a.x, a.q / farQ c.x c.y a.x a.y - tQ a c * tQ a c⟩

structure FitSpot (a c : QD) : Prop where
  far : FitFar c.x c.y a.x a.y
  s1 : FitAdd (farQ c.x c.y a.x a.y) a.q
  s2 : FitSub (farQ c.x c.y a.x a.y + a.q) c.q
  s3 : FitMul 2 (farQ c.x c.y a.x a.y)
  s4 : farQ c.x c.y a.x a.y ≠ 0 → FitDiv (farQ c.x c.y a.x a.y + a.q - c.q) (2 * farQ c.x c.y a.x a.y)
  s5 : FitMul (tQ a c) (c.x - a.x)
  s6 : FitAdd a.x (tQ a c * (c.x - a.x))
  s7 : FitMul (tQ a c) (c.y - a.y)
  s8 : FitAdd a.y (tQ a c * (c.y - a.y))
  s9 : FitSub 0 (c.y - a.y)
  s10 : farQ c.x c.y a.x a.y ≠ 0 → FitDiv a.q (farQ c.x c.y a.x a.y)
  s11 : FitMul (tQ a c) (tQ a c)
  s12 : FitSub (a.q / farQ c.x c.y a.x a.y) (tQ a c * tQ a c)
  s13 : FitSub 0 (c.x - a.x)

theorem below_set5 {B p : Nat} {w0 w : World} (h : Below B w0 w) (hp : B ≤ p) (v0 v1 v2 v3 v4 : Value) :
    Below B w0 (((((w.setCell ⟨p, 0, none⟩ v0).setCell ⟨p, 1, none⟩ v1).setCell ⟨p, 2, none⟩ v2).setCell ⟨p, 3, none⟩ v3).setCell ⟨p, 4, none⟩ v4) :=
  ((((h.setCell (p := ⟨p, 0, none⟩) hp v0).setCell (p := ⟨p, 1, none⟩) hp v1).setCell (p := ⟨p, 2, none⟩) hp v2).setCell (p := ⟨p, 3, none⟩) hp v3).setCell (p := ⟨p, 4, none⟩) hp v4
theorem CB.drew1 {w : World} {p : Nat} {cs : Array Value} {t : TypeId} (h : CB w p cs t) : CB w.drew p cs t := h
theorem CB.set5 {w : World} {p : Nat} {t : TypeId} {u0 u1 u2 u3 u4 : Value} (h : CB w p #[u0, u1, u2, u3, u4] t) (v0 v1 v2 v3 v4 : Value) :
    CB (((((w.setCell ⟨p, 0, none⟩ v0).setCell ⟨p, 1, none⟩ v1).setCell ⟨p, 2, none⟩ v2).setCell ⟨p, 3, none⟩ v3).setCell ⟨p, 4, none⟩ v4) p #[v0, v1, v2, v3, v4] t := by
  have := ((((h.set 0 v0).set 1 v1).set 2 v2).set 3 v3).set 4 v4
  simpa using this
noncomputable abbrev Spt.cs (s : Spt) : Array Value := #[.string (sQ s.fx), .string (sQ s.fy), .string (sQ s.ux), .string (sQ s.uy), .string (sQ s.h)]
theorem CB.set5_other {w : World} {p q : Nat} {t : TypeId} {cs : Array Value} (h : CB w p cs t) (hne : p ≠ q) (v0 v1 v2 v3 v4 : Value) :
    CB (((((w.setCell ⟨q, 0, none⟩ v0).setCell ⟨q, 1, none⟩ v1).setCell ⟨q, 2, none⟩ v2).setCell ⟨q, 3, none⟩ v3).setCell ⟨q, 4, none⟩ v4) p cs t := by
  unfold CB
  rw [Below.heap_setCell _ _ _ p hne, Below.heap_setCell _ _ _ p hne, Below.heap_setCell _ _ _ p hne, Below.heap_setCell _ _ _ p hne, Below.heap_setCell _ _ _ p hne]
  exact h
theorem CB.new_below {w w1 : World} {cs : Array Value} {t : TypeId} (h : Below (w.alloc (.cells cs t (0, 0))).heap.size (w.alloc (.cells cs t (0, 0))) w1) : CB w1 w.heap.size cs t :=
  (CB.new w cs t).below h (by rw [size_alloc]; omega)
theorem CB.new_belowD {w w1 : World} {cs : Array Value} {t : TypeId} (h : Below (w.alloc (.cells cs t (0, 0))).drew.heap.size (w.alloc (.cells cs t (0, 0))).drew w1) : CB w1 w.heap.size cs t :=
  CB.new_below ⟨h.os, h.tape, h.output, h.size, h.block⟩
/-- what named returns for two circles -/
noncomputable def namedR (a c : QD) (side : Int) : Value :=
  if farQ c.x c.y a.x a.y = 0 then .tuple #[.agg #[.string ⟨#[]⟩, .string ⟨#[]⟩, .string ⟨#[]⟩, .string ⟨#[]⟩, .string ⟨#[]⟩], .bool false]
  else .tuple #[(spotQ a c side).v, .bool (decide (0 ≤ (spotQ a c side).h.num) && (decide ((spotQ a c side).h = 0) == decide (side = 0)))]
theorem ret_v {a b : Value} (h : a = b) : Ending.returned a = .returned b := by rw [h]


/-- the first part: both discs are boxed -/
def Boxed (w W2 wx : World) (i j : Nat) (side : Int) (a c : QD) (ba bb : Nat) : Prop :=
  CB wx ba a.cs 26 ∧ CB wx bb c.cs 26 ∧ CB wx w.heap.size #[.int .i64 i, .int .i64 j, .int .i64 side] 40 ∧
    CB wx (w.heap.size + 1) #[.string ⟨#[]⟩, .string ⟨#[]⟩, .string ⟨#[]⟩, .string ⟨#[]⟩, .string ⟨#[]⟩] 112 ∧ Below w.heap.size w wx ∧ ba ≠ w.heap.size + 1 ∧ bb ≠ w.heap.size + 1

set_option maxRecDepth 100000 in
set_option maxHeartbeats 4000000 in
theorem named_pair (s b o cap i j : Nat) (side : Int) (l : List QD) (w : World) (h0 : OK0 w s) (hij : i ≠ j) (hi : i < l.length) (hj : j < l.length) (hl : l.length ≤ 1000000) (hr : QRow w b o l) (hb : b < w.heap.size)
    (hf : FitSpot l[i] l[j]) (he : Env w) :
    Calls Tryz.prog 83 #[.pointer (some ⟨s, 0, none⟩), .slice (some ⟨b, o, none⟩) l.length cap, .agg #[.int .i64 i, .int .i64 j, .int .i64 side]] w fun e w' =>
      e = .returned (namedR l[i] l[j] side) ∧ Below w.heap.size w w' := by
  have a1 := (CB.new w #[.int .i64 i, .int .i64 j, .int .i64 side] 40).alloc (.cells #[.string ⟨#[]⟩, .string ⟨#[]⟩, .string ⟨#[]⟩, .string ⟨#[]⟩, .string ⟨#[]⟩] 112 (0, 0))
  have b1 := ((Below.refl w.heap.size w).alloc (Nat.le_refl _) (.cells #[.int .i64 i, .int .i64 j, .int .i64 side] 40 (0, 0))).alloc (by rw [size_alloc]; omega) (.cells #[.string ⟨#[]⟩, .string ⟨#[]⟩, .string ⟨#[]⟩, .string ⟨#[]⟩, .string ⟨#[]⟩] 112 (0, 0))
  have a2 := CB.new (w.alloc (.cells #[.int .i64 i, .int .i64 j, .int .i64 side] 40 (0, 0))) #[.string ⟨#[]⟩, .string ⟨#[]⟩, .string ⟨#[]⟩, .string ⟨#[]⟩, .string ⟨#[]⟩] 112
  have hsz : ((w.alloc (.cells #[.int .i64 i, .int .i64 j, .int .i64 side] 40 (0, 0))).alloc (.cells #[.string ⟨#[]⟩, .string ⟨#[]⟩, .string ⟨#[]⟩, .string ⟨#[]⟩, .string ⟨#[]⟩] 112 (0, 0))).heap.size = w.heap.size + 1 + 1 := by simp
  simp only [size_alloc] at a2
  have KE := Lib.hid (show ∀ W, Below w.heap.size w W → Env W from fun W hW => he.below hW)
  have KO := Lib.hid (show ∀ W, Below w.heap.size w W → OK0 W s from fun W hW => h0.below hW)
  have HR := Lib.hid hr
  have HB := Lib.hid b1
  have H1 := Lib.hid a1
  have H2 := Lib.hid a2
  have HF := Lib.hid hf
  have tij : ((i : Int) == (j : Int)) = false := by simp; omega
  clear a1 a2 b1 hr he h0 hf hij
  go_enter Tryz.func83, Tryz.ntmps83
  go_upto_region 1 with fail
  generalize (w.alloc (.cells #[.int .i64 i, .int .i64 j, .int .i64 side] 40 (0, 0))).alloc (.cells #[.string ⟨#[]⟩, .string ⟨#[]⟩, .string ⟨#[]⟩, .string ⟨#[]⟩, .string ⟨#[]⟩] 112 (0, 0)) = W2 at *
  have r2 := HR.out.below HB.out hb
  have hb2 : b < W2.heap.size := by omega
  have HA := Lib.hid (fun X => (Below.refl W2.heap.size W2).alloc (Nat.le_refl _) X)
  have HAA := Lib.hid (fun X Y => (HA.out X).alloc (HA.out X).size Y)
  obtain ⟨p1, p2, p3⟩ := r2.at i hi
  have q1 := fun X => ((r2.below (HA.out X) hb2).at i hi).1
  have q2 := fun X => ((r2.below (HA.out X) hb2).at i hi).2.1
  have q3 := fun X => ((r2.below (HA.out X) hb2).at i hi).2.2
  have s1 := fun X Y => ((r2.below (HAA.out X Y) hb2).at i hi).1
  have s2 := fun X Y => ((r2.below (HAA.out X Y) hb2).at i hi).2.1
  have s3 := fun X Y => ((r2.below (HAA.out X Y) hb2).at i hi).2.2
  obtain ⟨p4, p5, p6⟩ := r2.at j hj
  have q4 := fun X => ((r2.below (HA.out X) hb2).at j hj).1
  have q5 := fun X => ((r2.below (HA.out X) hb2).at j hj).2.1
  have q6 := fun X => ((r2.below (HA.out X) hb2).at j hj).2.2
  have s4 := fun X Y => ((r2.below (HAA.out X Y) hb2).at j hj).1
  have s5 := fun X Y => ((r2.below (HAA.out X Y) hb2).at j hj).2.1
  have s6 := fun X Y => ((r2.below (HAA.out X Y) hb2).at j hj).2.2
  obtain ⟨k1, k2, k3⟩ := H1.out.cells3
  have k4 := fun X => (H1.out.alloc X).cells3.1
  have k5 := fun X => (H1.out.alloc X).cells3.2.1
  have k7 := fun X Y => ((H1.out.alloc X).alloc Y).cells3.1
  have k8 := fun X Y => ((H1.out.alloc X).alloc Y).cells3.2.1
  generalize hda : l[i] = a at *
  generalize hdc : l[j] = c at *
  have HDA := Lib.hid hda
  have HDC := Lib.hid hdc
  clear r2 hda hdc
  have N1 := Lib.hid (two_new W2 _ hsz a.cs c.cs 26)
  have N2 := Lib.hid (two_new W2 _ hsz c.cs a.cs 26)
  have HBX := Lib.hid (show ∀ wx ba bb, CB wx ba a.cs 26 → CB wx bb c.cs 26 → Below W2.heap.size W2 wx → ba ≠ w.heap.size + 1 → bb ≠ w.heap.size + 1 → Boxed w W2 wx i j side a c ba bb from fun wx ba bb ca cb hw n1 n2 =>
    ⟨ca, cb, H1.out.below hw H1.out.lt, H2.out.below hw H2.out.lt, HB.out.trans (hw.mono HB.out.size), n1, n2⟩)
  go_cut [8, 9] (fun s8 s9 wx => ∃ ba bb : Nat, s8 = .pointer (some ⟨ba, 0, none⟩) ∧ s9 = .pointer (some ⟨bb, 0, none⟩) ∧ Hid (Boxed w W2 wx i j side a c ba bb))
  case first =>
    go_region
    all_goals
      go_wp2_with fail
      go_meet
      first
        | exact ⟨_, _, rfl, rfl, Lib.hid (HBX.out _ _ _ N1.out.1 N1.out.2.1 N1.out.2.2 (by omega) (by omega))⟩
        | exact ⟨_, _, rfl, rfl, Lib.hid (HBX.out _ _ _ N2.out.2.1 N2.out.1 N2.out.2.2 (by omega) (by omega))⟩
  case rest =>
    clear p1 p2 p3 q1 q2 q3 s1 s2 s3 p4 p5 p6 q4 q5 q6 s4 s5 s6 k1 k2 k3 k4 k5 k7 k8 N1 N2 HBX H1 H2 HB HR HA HAA
    obtain ⟨ba, bb, rfl, rfl, hbx⟩ := hcut
    obtain ⟨ca, cb, cw, cp, hbw, n1, n2⟩ := hbx.out
    obtain ⟨k1, k2, k3⟩ := cw.cells3
    obtain ⟨v1, v2, v3⟩ := ca.cells3
    obtain ⟨x1, x2, x3⟩ := cb.cells3
    have CA := Lib.hid ca
    have CC := Lib.hid cb
    have CW := Lib.hid cw
    have CP := Lib.hid cp
    have HBW := Lib.hid hbw
    clear ca cb cw cp hbw hbx
    go_wp2_with fail
    with_reducible refine (dless_any s c.x c.y a.x a.y _ (KO.out _ HBW.out) HF.out.far.x HF.out.far.y (KE.out _ HBW.out)).mono ?_
    rintro e w3 ⟨rfl, hb3⟩
    have hb4 := HBW.out.trans (hb3.mono HBW.out.size)
    have G4 := Lib.hid (CB.new w3 #[.string (sQ (c.x - a.x)), .string (sQ (c.y - a.y))] 24)
    have hb5 := hb4.alloc hb4.size (.cells #[.string (sQ (c.x - a.x)), .string (sQ (c.y - a.y))] 24 (0, 0))
    have hbx5 := hb3.alloc hb3.size (.cells #[.string (sQ (c.x - a.x)), .string (sQ (c.y - a.y))] 24 (0, 0))
    have hg3 : w.heap.size + 1 < w3.heap.size := Nat.lt_of_lt_of_le CP.out.lt hb3.size
    go_wp2_with fail
    generalize w3.alloc (.cells #[.string (sQ (c.x - a.x)), .string (sQ (c.y - a.y))] 24 (0, 0)) = w4 at *
    generalize hgg : w3.heap.size = g at *
    clear k1 k2 k3 v1 v2 v3 x1 x2 x3 hb3 hb4 hgg
    obtain ⟨f0, f1, f2, f3, f4, f5, f6, f7, f8, f9, f10, f11, f12, f13⟩ := HF.out
    with_reducible refine (ddot_any s (c.x - a.x) (c.y - a.y) (c.x - a.x) (c.y - a.y) _ (KO.out _ hb5) f0.xx f0.yy f0.z (KE.out _ hb5)).mono ?_
    rintro e w5 ⟨rfl, hb6⟩
    have hF : (c.x - a.x) * (c.x - a.x) + (c.y - a.y) * (c.y - a.y) = farQ c.x c.y a.x a.y := rfl
    rw [hF]
    obtain ⟨F, hFF⟩ : ∃ F, farQ c.x c.y a.x a.y = F := ⟨_, rfl⟩
    obtain ⟨T, hTT⟩ : ∃ T, tQ a c = T := ⟨_, rfl⟩
    have HTV := Lib.hid (show (F + a.q - c.q) / (2 * F) = T by rw [← hTT, ← hFF]; rfl)
    rw [hTT] at f5 f6 f7 f8 f11 f12
    rw [hFF] at f1 f2 f3 f4 f10 f12
    have hz := sQ_eq_zero F
    have HFF := Lib.hid hFF
    have HTT := Lib.hid hTT
    rw [hFF]
    have CA5 := Lib.hid ((CA.out.below hbx5 CA.out.lt).below hb6 (Nat.lt_of_lt_of_le CA.out.lt hbx5.size))
    have CC5 := Lib.hid ((CC.out.below hbx5 CC.out.lt).below hb6 (Nat.lt_of_lt_of_le CC.out.lt hbx5.size))
    have CW5 := Lib.hid ((CW.out.below hbx5 CW.out.lt).below hb6 (Nat.lt_of_lt_of_le CW.out.lt hbx5.size))
    have CP5 := Lib.hid ((CP.out.below hbx5 CP.out.lt).below hb6 (Nat.lt_of_lt_of_le CP.out.lt hbx5.size))
    have CG5 := Lib.hid (G4.out.below hb6 G4.out.lt)
    have hb7 := hb5.trans (hb6.mono hb5.size)
    clear CA CC CW CP G4 hbx5 hb6 hb5 hF hFF hTT HF f0 HBW
    by_cases hF0 : F = 0
    · rw [decide_eq_true hF0] at hz
      have HF0 := Lib.hid hF0
      clear f1 f2 f3 f4 f5 f6 f7 f8 f9 f10 f11 f12 f13 hF0
      have z0 := CP5.out.c 0
      have z1 := CP5.out.c 1
      have z2 := CP5.out.c 2
      have z3 := CP5.out.c 3
      have z4 := CP5.out.c 4
      have y0 := CP5.out.fr 0
      have y1 := CP5.out.fr 1
      have y2 := CP5.out.fr 2
      have y3 := CP5.out.fr 3
      have y4 := CP5.out.fr 4
      simp at z0 z1 z2 z3 z4
      have HB7 := Lib.hid hb7
      go_wp2_with fail
      have h5 := ((((CP5.out.set 0 (.string ⟨#[]⟩)).set 1 (.string ⟨#[]⟩)).set 2 (.string ⟨#[]⟩)).set 3 (.string ⟨#[]⟩)).set 4 (.string ⟨#[]⟩)
      have hb8 := ((((HB7.out.setCell (p := ⟨w.heap.size + 1, 0, none⟩) (by show w.heap.size ≤ w.heap.size + 1; omega) (.string ⟨#[]⟩)).setCell (p := ⟨w.heap.size + 1, 1, none⟩) (by show w.heap.size ≤ w.heap.size + 1; omega) (.string ⟨#[]⟩)).setCell (p := ⟨w.heap.size + 1, 2, none⟩) (by show w.heap.size ≤ w.heap.size + 1; omega) (.string ⟨#[]⟩)).setCell (p := ⟨w.heap.size + 1, 3, none⟩) (by show w.heap.size ≤ w.heap.size + 1; omega) (.string ⟨#[]⟩)).setCell (p := ⟨w.heap.size + 1, 4, none⟩) (by show w.heap.size ≤ w.heap.size + 1; omega) (.string ⟨#[]⟩)
      clear z0 z1 z2 z3 z4
      have z0 := h5.c 0
      have z1 := h5.c 1
      have z2 := h5.c 2
      have z3 := h5.c 3
      have z4 := h5.c 4
      simp at z0 z1 z2 z3 z4
      generalize ((((w5.setCell ⟨w.heap.size + 1, 0, none⟩ (.string ⟨#[]⟩)).setCell ⟨w.heap.size + 1, 1, none⟩ (.string ⟨#[]⟩)).setCell ⟨w.heap.size + 1, 2, none⟩ (.string ⟨#[]⟩)).setCell ⟨w.heap.size + 1, 3, none⟩ (.string ⟨#[]⟩)).setCell ⟨w.heap.size + 1, 4, none⟩ (.string ⟨#[]⟩) = w9 at *
      refine bodyPost_ret (v := .tuple #[.agg #[.string ⟨#[]⟩, .string ⟨#[]⟩, .string ⟨#[]⟩, .string ⟨#[]⟩, .string ⟨#[]⟩], .bool false]) (by simp [results, Tryz.results83, go_sem, z0, z1, z2, z3, z4, Result.andThen]) rfl ⟨ret_v (by unfold namedR; rw [HDA.out, HDC.out, HFF.out, if_pos HF0.out]), hb8⟩
    · rw [decide_eq_false hF0] at hz
      have HF0 := Lib.hid hF0
      replace f4 := f4 hF0
      replace f10 := f10 hF0
      have M1 := Lib.hid (fun W hW => dadd_any s F a.q W (KO.out W hW) f1 (KE.out W hW))
      have M2 := Lib.hid (fun W hW => dsub_any s (F + a.q) c.q W (KO.out W hW) f2 (KE.out W hW))
      have M3 := Lib.hid (fun W hW => dmul_any s 2 F W (KO.out W hW) f3 (KE.out W hW))
      have M4 := Lib.hid (fun W hW => ddiv_any s (F + a.q - c.q) (2 * F) W (KO.out W hW) f4 (KE.out W hW))
      rw [HTV.out] at M4
      rw [← sQ_two] at M3
      have M5 := Lib.hid (fun W hW => dmul_any s T (c.x - a.x) W (KO.out W hW) f5 (KE.out W hW))
      have M6 := Lib.hid (fun W hW => dadd_any s a.x (T * (c.x - a.x)) W (KO.out W hW) f6 (KE.out W hW))
      have M7 := Lib.hid (fun W hW => dmul_any s T (c.y - a.y) W (KO.out W hW) f7 (KE.out W hW))
      have M8 := Lib.hid (fun W hW => dadd_any s a.y (T * (c.y - a.y)) W (KO.out W hW) f8 (KE.out W hW))
      have M9 := Lib.hid (fun W hW => dsub_any s 0 (c.y - a.y) W (KO.out W hW) f9 (KE.out W hW))
      have M10 := Lib.hid (fun W hW => ddiv_any s a.q F W (KO.out W hW) f10 (KE.out W hW))
      have M11 := Lib.hid (fun W hW => dmul_any s T T W (KO.out W hW) f11 (KE.out W hW))
      have M12 := Lib.hid (fun W hW => dsub_any s (a.q / F) (T * T) W (KO.out W hW) f12 (KE.out W hW))
      have M13 := Lib.hid (fun W hW => dsub_any s 0 (c.x - a.x) W (KO.out W hW) f13 (KE.out W hW))
      rw [← sQ_zero] at M9 M13
      clear f1 f2 f3 f4 f5 f6 f7 f8 f9 f10 f11 f12 f13 hF0
      have HB7 := Lib.hid hb7
      have KS := Lib.hid (show ∀ W, Below w5.heap.size w5 W → (W.cell? ⟨ba, 0, none⟩ = some (.string (sQ a.x)) ∧ W.cell? ⟨ba, 1, none⟩ = some (.string (sQ a.y)) ∧ W.cell? ⟨ba, 2, none⟩ = some (.string (sQ a.q)) ∧ W.cell? ⟨bb, 2, none⟩ = some (.string (sQ c.q)) ∧ W.cell? ⟨g, 0, none⟩ = some (.string (sQ (c.x - a.x))) ∧ W.cell? ⟨g, 1, none⟩ = some (.string (sQ (c.y - a.y)))) ∧ (Below w5.heap.size w5 W ∧ Below w.heap.size w W) from fun W hW => by
        have e1 := CA5.out.below hW CA5.out.lt
        have e2 := CC5.out.below hW CC5.out.lt
        have e3 := CG5.out.below hW CG5.out.lt
        exact ⟨⟨e1.c 0, e1.c 1, e1.c 2, e2.c 2, e3.c 0, e3.c 1⟩, hW, HB7.out.trans (hW.mono HB7.out.size)⟩)
      clear hb7
      go_wp2_with fail
      go_region_held3 (fun W => (W.cell? ⟨ba, 0, none⟩ = some (.string (sQ a.x)) ∧ W.cell? ⟨ba, 1, none⟩ = some (.string (sQ a.y)) ∧ W.cell? ⟨ba, 2, none⟩ = some (.string (sQ a.q)) ∧ W.cell? ⟨bb, 2, none⟩ = some (.string (sQ c.q)) ∧ W.cell? ⟨g, 0, none⟩ = some (.string (sQ (c.x - a.x))) ∧ W.cell? ⟨g, 1, none⟩ = some (.string (sQ (c.y - a.y)))) ∧ (Below w5.heap.size w5 W ∧ Below w.heap.size w W))
        ((refine KS.out _ ?_; first | exact (Below.refl _ _).drew | assumption))
        (first | (go_at_call 64; have hh := ‹(_ ∧ _) ∧ (_ ∧ Below w.heap.size w _)›; with_reducible refine (M1.out _ hh.2.2).mono ?_; rintro e w1 ⟨rfl, hb1⟩; have hb2 := hh.2.1.trans (hb1.mono hh.2.1.size)) | (go_at_call 63; have hh := ‹(_ ∧ _) ∧ (_ ∧ Below w.heap.size w _)›; with_reducible refine (M2.out _ hh.2.2).mono ?_; rintro e w1 ⟨rfl, hb1⟩; have hb2 := hh.2.1.trans (hb1.mono hh.2.1.size)) | (go_at_call 66; have hh := ‹(_ ∧ _) ∧ (_ ∧ Below w.heap.size w _)›; with_reducible refine (M3.out _ hh.2.2).mono ?_; rintro e w1 ⟨rfl, hb1⟩; have hb2 := hh.2.1.trans (hb1.mono hh.2.1.size)) | (go_at_call 99; have hh := ‹(_ ∧ _) ∧ (_ ∧ Below w.heap.size w _)›; with_reducible refine (M4.out _ hh.2.2).mono ?_; rintro e w1 ⟨rfl, hb1⟩; have hb2 := hh.2.1.trans (hb1.mono hh.2.1.size)))
      have hq := hb2
      clear hb1
      go_upto_region 9 with fail
      have HSP := Lib.hid (show ∀ (W : World), Below w5.heap.size w5 W → ∃ p : Nat, Value.pointer (some ⟨W.heap.size, 0, none⟩) = .pointer (some ⟨p, 0, none⟩) ∧ Hid (CB (W.alloc (.cells (#[.string (sQ (a.x + T * (c.x - a.x))), .string (sQ (a.y + T * (c.y - a.y))), .string (sQ (0 - (c.y - a.y))), .string (sQ (c.x - a.x)), .string (sQ (a.q / F - T * T))]) 112 (0, 0))) p (#[.string (sQ (a.x + T * (c.x - a.x))), .string (sQ (a.y + T * (c.y - a.y))), .string (sQ (0 - (c.y - a.y))), .string (sQ (c.x - a.x)), .string (sQ (a.q / F - T * T))]) 112) ∧ Below w5.heap.size w5 (W.alloc (.cells (#[.string (sQ (a.x + T * (c.x - a.x))), .string (sQ (a.y + T * (c.y - a.y))), .string (sQ (0 - (c.y - a.y))), .string (sQ (c.x - a.x)), .string (sQ (a.q / F - T * T))]) 112 (0, 0))) ∧ w5.heap.size ≤ p from fun W hW =>
        ⟨_, rfl, Lib.hid (CB.new W _ _), hW.alloc hW.size _, hW.size⟩)
      go_cut [13] (fun s13 wx => ∃ p : Nat, s13 = .pointer (some ⟨p, 0, none⟩) ∧ Hid (CB wx p (#[.string (sQ (a.x + T * (c.x - a.x))), .string (sQ (a.y + T * (c.y - a.y))), .string (sQ (0 - (c.y - a.y))), .string (sQ (c.x - a.x)), .string (sQ (a.q / F - T * T))]) 112) ∧ Below w5.heap.size w5 wx ∧ w5.heap.size ≤ p)
      case first =>
        have hb2 := hq
        clear M1 M2 M3 M4 M13 HF0 HTV HTT HFF CA5 CC5 CW5 CP5 CG5 HDA HDC KE KO HB7 hz
        go_region_held3 (fun W => (W.cell? ⟨ba, 0, none⟩ = some (.string (sQ a.x)) ∧ W.cell? ⟨ba, 1, none⟩ = some (.string (sQ a.y)) ∧ W.cell? ⟨ba, 2, none⟩ = some (.string (sQ a.q)) ∧ W.cell? ⟨bb, 2, none⟩ = some (.string (sQ c.q)) ∧ W.cell? ⟨g, 0, none⟩ = some (.string (sQ (c.x - a.x))) ∧ W.cell? ⟨g, 1, none⟩ = some (.string (sQ (c.y - a.y)))) ∧ (Below w5.heap.size w5 W ∧ Below w.heap.size w W))
          ((refine KS.out _ ?_; first | with_reducible exact hq.drew | with_reducible assumption | with_reducible exact hb2.alloc hb2.size _ | with_reducible exact below_set5 hb2 hP _ _ _ _ _ | with_reducible exact (hq.alloc hq.size _).drew | exact hb2.alloc hb2.size _))
          (first | (go_at_call 66; have hPx := hb2.size; have hh := ‹(_ ∧ _) ∧ (_ ∧ Below w.heap.size w _)›; with_reducible refine (M5.out _ hh.2.2).mono ?_; rintro e w1 ⟨rfl, hb1⟩; have hb2 := hh.2.1.trans (hb1.mono hh.2.1.size); first | (have GN := GN.below hb1 GN.lt; have r0 := GN.c 0; have r1 := GN.c 1; have r2 := GN.c 2; have r3 := GN.c 3; have r4 := GN.c 4; have t0 := GN.fr 0; have t1 := GN.fr 1; have t2 := GN.fr 2; have t3 := GN.fr 3; have t4 := GN.fr 4; simp at r0 r1 r2 r3 r4) | (with_reducible (have GN := CB.new_below hb1); have hP := hPx; have r0 := GN.c 0; have r1 := GN.c 1; have r2 := GN.c 2; have r3 := GN.c 3; have r4 := GN.c 4; have t0 := GN.fr 0; have t1 := GN.fr 1; have t2 := GN.fr 2; have t3 := GN.fr 3; have t4 := GN.fr 4; simp at r0 r1 r2 r3 r4) | (with_reducible (have GN := CB.new_belowD hb1); have hP := hPx; have r0 := GN.c 0; have r1 := GN.c 1; have r2 := GN.c 2; have r3 := GN.c 3; have r4 := GN.c 4; have t0 := GN.fr 0; have t1 := GN.fr 1; have t2 := GN.fr 2; have t3 := GN.fr 3; have t4 := GN.fr 4; simp at r0 r1 r2 r3 r4) | skip) | (go_at_call 64; have hPx := hb2.size; have hh := ‹(_ ∧ _) ∧ (_ ∧ Below w.heap.size w _)›; with_reducible refine (M6.out _ hh.2.2).mono ?_; rintro e w1 ⟨rfl, hb1⟩; have hb2 := hh.2.1.trans (hb1.mono hh.2.1.size); first | (have GN := GN.below hb1 GN.lt; have r0 := GN.c 0; have r1 := GN.c 1; have r2 := GN.c 2; have r3 := GN.c 3; have r4 := GN.c 4; have t0 := GN.fr 0; have t1 := GN.fr 1; have t2 := GN.fr 2; have t3 := GN.fr 3; have t4 := GN.fr 4; simp at r0 r1 r2 r3 r4) | (with_reducible (have GN := CB.new_below hb1); have hP := hPx; have r0 := GN.c 0; have r1 := GN.c 1; have r2 := GN.c 2; have r3 := GN.c 3; have r4 := GN.c 4; have t0 := GN.fr 0; have t1 := GN.fr 1; have t2 := GN.fr 2; have t3 := GN.fr 3; have t4 := GN.fr 4; simp at r0 r1 r2 r3 r4) | (with_reducible (have GN := CB.new_belowD hb1); have hP := hPx; have r0 := GN.c 0; have r1 := GN.c 1; have r2 := GN.c 2; have r3 := GN.c 3; have r4 := GN.c 4; have t0 := GN.fr 0; have t1 := GN.fr 1; have t2 := GN.fr 2; have t3 := GN.fr 3; have t4 := GN.fr 4; simp at r0 r1 r2 r3 r4) | skip) | (go_at_call 66; have hPx := hb2.size; have hh := ‹(_ ∧ _) ∧ (_ ∧ Below w.heap.size w _)›; with_reducible refine (M7.out _ hh.2.2).mono ?_; rintro e w1 ⟨rfl, hb1⟩; have hb2 := hh.2.1.trans (hb1.mono hh.2.1.size); first | (have GN := GN.below hb1 GN.lt; have r0 := GN.c 0; have r1 := GN.c 1; have r2 := GN.c 2; have r3 := GN.c 3; have r4 := GN.c 4; have t0 := GN.fr 0; have t1 := GN.fr 1; have t2 := GN.fr 2; have t3 := GN.fr 3; have t4 := GN.fr 4; simp at r0 r1 r2 r3 r4) | (with_reducible (have GN := CB.new_below hb1); have hP := hPx; have r0 := GN.c 0; have r1 := GN.c 1; have r2 := GN.c 2; have r3 := GN.c 3; have r4 := GN.c 4; have t0 := GN.fr 0; have t1 := GN.fr 1; have t2 := GN.fr 2; have t3 := GN.fr 3; have t4 := GN.fr 4; simp at r0 r1 r2 r3 r4) | (with_reducible (have GN := CB.new_belowD hb1); have hP := hPx; have r0 := GN.c 0; have r1 := GN.c 1; have r2 := GN.c 2; have r3 := GN.c 3; have r4 := GN.c 4; have t0 := GN.fr 0; have t1 := GN.fr 1; have t2 := GN.fr 2; have t3 := GN.fr 3; have t4 := GN.fr 4; simp at r0 r1 r2 r3 r4) | skip) | (go_at_call 64; have hPx := hb2.size; have hh := ‹(_ ∧ _) ∧ (_ ∧ Below w.heap.size w _)›; with_reducible refine (M8.out _ hh.2.2).mono ?_; rintro e w1 ⟨rfl, hb1⟩; have hb2 := hh.2.1.trans (hb1.mono hh.2.1.size); first | (have GN := GN.below hb1 GN.lt; have r0 := GN.c 0; have r1 := GN.c 1; have r2 := GN.c 2; have r3 := GN.c 3; have r4 := GN.c 4; have t0 := GN.fr 0; have t1 := GN.fr 1; have t2 := GN.fr 2; have t3 := GN.fr 3; have t4 := GN.fr 4; simp at r0 r1 r2 r3 r4) | (with_reducible (have GN := CB.new_below hb1); have hP := hPx; have r0 := GN.c 0; have r1 := GN.c 1; have r2 := GN.c 2; have r3 := GN.c 3; have r4 := GN.c 4; have t0 := GN.fr 0; have t1 := GN.fr 1; have t2 := GN.fr 2; have t3 := GN.fr 3; have t4 := GN.fr 4; simp at r0 r1 r2 r3 r4) | (with_reducible (have GN := CB.new_belowD hb1); have hP := hPx; have r0 := GN.c 0; have r1 := GN.c 1; have r2 := GN.c 2; have r3 := GN.c 3; have r4 := GN.c 4; have t0 := GN.fr 0; have t1 := GN.fr 1; have t2 := GN.fr 2; have t3 := GN.fr 3; have t4 := GN.fr 4; simp at r0 r1 r2 r3 r4) | skip) | (go_at_call 63; have hPx := hb2.size; have hh := ‹(_ ∧ _) ∧ (_ ∧ Below w.heap.size w _)›; with_reducible refine (M9.out _ hh.2.2).mono ?_; rintro e w1 ⟨rfl, hb1⟩; have hb2 := hh.2.1.trans (hb1.mono hh.2.1.size); first | (have GN := GN.below hb1 GN.lt; have r0 := GN.c 0; have r1 := GN.c 1; have r2 := GN.c 2; have r3 := GN.c 3; have r4 := GN.c 4; have t0 := GN.fr 0; have t1 := GN.fr 1; have t2 := GN.fr 2; have t3 := GN.fr 3; have t4 := GN.fr 4; simp at r0 r1 r2 r3 r4) | (with_reducible (have GN := CB.new_below hb1); have hP := hPx; have r0 := GN.c 0; have r1 := GN.c 1; have r2 := GN.c 2; have r3 := GN.c 3; have r4 := GN.c 4; have t0 := GN.fr 0; have t1 := GN.fr 1; have t2 := GN.fr 2; have t3 := GN.fr 3; have t4 := GN.fr 4; simp at r0 r1 r2 r3 r4) | (with_reducible (have GN := CB.new_belowD hb1); have hP := hPx; have r0 := GN.c 0; have r1 := GN.c 1; have r2 := GN.c 2; have r3 := GN.c 3; have r4 := GN.c 4; have t0 := GN.fr 0; have t1 := GN.fr 1; have t2 := GN.fr 2; have t3 := GN.fr 3; have t4 := GN.fr 4; simp at r0 r1 r2 r3 r4) | skip) | (go_at_call 99; have hPx := hb2.size; have hh := ‹(_ ∧ _) ∧ (_ ∧ Below w.heap.size w _)›; with_reducible refine (M10.out _ hh.2.2).mono ?_; rintro e w1 ⟨rfl, hb1⟩; have hb2 := hh.2.1.trans (hb1.mono hh.2.1.size); first | (have GN := GN.below hb1 GN.lt; have r0 := GN.c 0; have r1 := GN.c 1; have r2 := GN.c 2; have r3 := GN.c 3; have r4 := GN.c 4; have t0 := GN.fr 0; have t1 := GN.fr 1; have t2 := GN.fr 2; have t3 := GN.fr 3; have t4 := GN.fr 4; simp at r0 r1 r2 r3 r4) | (with_reducible (have GN := CB.new_below hb1); have hP := hPx; have r0 := GN.c 0; have r1 := GN.c 1; have r2 := GN.c 2; have r3 := GN.c 3; have r4 := GN.c 4; have t0 := GN.fr 0; have t1 := GN.fr 1; have t2 := GN.fr 2; have t3 := GN.fr 3; have t4 := GN.fr 4; simp at r0 r1 r2 r3 r4) | (with_reducible (have GN := CB.new_belowD hb1); have hP := hPx; have r0 := GN.c 0; have r1 := GN.c 1; have r2 := GN.c 2; have r3 := GN.c 3; have r4 := GN.c 4; have t0 := GN.fr 0; have t1 := GN.fr 1; have t2 := GN.fr 2; have t3 := GN.fr 3; have t4 := GN.fr 4; simp at r0 r1 r2 r3 r4) | skip) | (go_at_call 66; have hPx := hb2.size; have hh := ‹(_ ∧ _) ∧ (_ ∧ Below w.heap.size w _)›; with_reducible refine (M11.out _ hh.2.2).mono ?_; rintro e w1 ⟨rfl, hb1⟩; have hb2 := hh.2.1.trans (hb1.mono hh.2.1.size); first | (have GN := GN.below hb1 GN.lt; have r0 := GN.c 0; have r1 := GN.c 1; have r2 := GN.c 2; have r3 := GN.c 3; have r4 := GN.c 4; have t0 := GN.fr 0; have t1 := GN.fr 1; have t2 := GN.fr 2; have t3 := GN.fr 3; have t4 := GN.fr 4; simp at r0 r1 r2 r3 r4) | (with_reducible (have GN := CB.new_below hb1); have hP := hPx; have r0 := GN.c 0; have r1 := GN.c 1; have r2 := GN.c 2; have r3 := GN.c 3; have r4 := GN.c 4; have t0 := GN.fr 0; have t1 := GN.fr 1; have t2 := GN.fr 2; have t3 := GN.fr 3; have t4 := GN.fr 4; simp at r0 r1 r2 r3 r4) | (with_reducible (have GN := CB.new_belowD hb1); have hP := hPx; have r0 := GN.c 0; have r1 := GN.c 1; have r2 := GN.c 2; have r3 := GN.c 3; have r4 := GN.c 4; have t0 := GN.fr 0; have t1 := GN.fr 1; have t2 := GN.fr 2; have t3 := GN.fr 3; have t4 := GN.fr 4; simp at r0 r1 r2 r3 r4) | skip) | (go_at_call 63; have hPx := hb2.size; have hh := ‹(_ ∧ _) ∧ (_ ∧ Below w.heap.size w _)›; with_reducible refine (M12.out _ hh.2.2).mono ?_; rintro e w1 ⟨rfl, hb1⟩; have hb2 := hh.2.1.trans (hb1.mono hh.2.1.size); first | (have GN := GN.below hb1 GN.lt; have r0 := GN.c 0; have r1 := GN.c 1; have r2 := GN.c 2; have r3 := GN.c 3; have r4 := GN.c 4; have t0 := GN.fr 0; have t1 := GN.fr 1; have t2 := GN.fr 2; have t3 := GN.fr 3; have t4 := GN.fr 4; simp at r0 r1 r2 r3 r4) | (with_reducible (have GN := CB.new_below hb1); have hP := hPx; have r0 := GN.c 0; have r1 := GN.c 1; have r2 := GN.c 2; have r3 := GN.c 3; have r4 := GN.c 4; have t0 := GN.fr 0; have t1 := GN.fr 1; have t2 := GN.fr 2; have t3 := GN.fr 3; have t4 := GN.fr 4; simp at r0 r1 r2 r3 r4) | (with_reducible (have GN := CB.new_belowD hb1); have hP := hPx; have r0 := GN.c 0; have r1 := GN.c 1; have r2 := GN.c 2; have r3 := GN.c 3; have r4 := GN.c 4; have t0 := GN.fr 0; have t1 := GN.fr 1; have t2 := GN.fr 2; have t3 := GN.fr 3; have t4 := GN.fr 4; simp at r0 r1 r2 r3 r4) | skip))
        all_goals
          go_wp2_with fail
          go_meet
          first
            | with_reducible exact HSP.out _ hb2
            | exact ⟨_, rfl, Lib.hid (GN.set5 _ _ _ _ _), below_set5 hb2 hP _ _ _ _ _, hP⟩
      case rest =>
        clear HSP
        obtain ⟨p, rfl, hp, hbp, hp5⟩ := hcut
        have HPW := Lib.hid (HB7.out.trans (hbp.mono HB7.out.size))
        have HBP := Lib.hid hbp
        have HP5 := Lib.hid hp5
        have hw5 : w.heap.size + 1 < w5.heap.size := CP5.out.lt
        obtain ⟨k1, k2, k3⟩ := (CW5.out.below hbp CW5.out.lt).cells3
        clear k1 k2 hb2 hq hp5 hbp
        go_upto_if 105 with fail
        have HS := Lib.hid (show ∀ W, Below w5.heap.size w5 W → Below w5.heap.size w5 W from fun W h => h)
        go_cut [] (fun wx => Hid (CB wx p (spotQ a c side).cs 112) ∧ Below w5.heap.size w5 wx)
        case first =>
          have hsp := Lib.hid (show (spotQ a c side).cs = #[.string (sQ (a.x + T * (c.x - a.x))), .string (sQ (a.y + T * (c.y - a.y))), .string (sQ (if side < 0 then c.y - a.y else 0 - (c.y - a.y))), .string (sQ (if side < 0 then 0 - (c.x - a.x) else c.x - a.x)), .string (sQ (a.q / F - T * T))] by
            rw [← HTT.out, ← HFF.out]; rfl)
          by_cases hs : side < 0
          · have hds : decide (side < 0) = true := decide_eq_true hs
            rw [if_pos hs, if_pos hs] at hsp
            have hpp := hp.out
            have HPB := Lib.hid HBP.out
            have hpd := CB.drew1 hp.out
            have f2 := hpp.c 2
            have f3 := hpp.c 3
            have e2 := hpp.fr 2
            have e3 := hpp.fr 3
            simp at f2 f3
            go_wp2_with fail
            go_region_held3 (fun W => (W.cell? ⟨ba, 0, none⟩ = some (.string (sQ a.x)) ∧ W.cell? ⟨ba, 1, none⟩ = some (.string (sQ a.y)) ∧ W.cell? ⟨ba, 2, none⟩ = some (.string (sQ a.q)) ∧ W.cell? ⟨bb, 2, none⟩ = some (.string (sQ c.q)) ∧ W.cell? ⟨g, 0, none⟩ = some (.string (sQ (c.x - a.x))) ∧ W.cell? ⟨g, 1, none⟩ = some (.string (sQ (c.y - a.y)))) ∧ (Below w5.heap.size w5 W ∧ Below w.heap.size w W))
              ((refine KS.out _ ?_; first | exact HPB.out.drew | assumption | exact (hb2.setCell (p := ⟨p, 2, none⟩) HP5.out _).setCell (p := ⟨p, 3, none⟩) HP5.out _))
              (first | (go_at_call 63; have hh := ‹(_ ∧ _) ∧ (_ ∧ Below w.heap.size w _)›; with_reducible refine (M13.out _ hh.2.2).mono ?_; rintro e w1 ⟨rfl, hb1⟩; have hb2 := hh.2.1.trans (hb1.mono hh.2.1.size); have GN := hpd.below hb1 hpd.lt; have r2 := GN.c 2; have r3 := GN.c 3; have t2 := GN.fr 2; have t3 := GN.fr 3; simp at r2 r3))
            go_wp2_with fail
            go_meet
            have h5 := (GN.set 2 (.string (sQ (c.y - a.y)))).set 3 (.string (sQ (0 - (c.x - a.x))))
            rw [hsp.out]
            exact ⟨Lib.hid (by simpa using h5), (hb2.setCell (p := ⟨p, 2, none⟩) HP5.out _).setCell (p := ⟨p, 3, none⟩) HP5.out _⟩
          · have hds : decide (side < 0) = false := decide_eq_false hs
            rw [if_neg hs, if_neg hs] at hsp
            go_wp2_with fail
            go_meet
            rw [hsp.out]
            exact ⟨hp, HBP.out⟩
        case rest =>
          obtain ⟨hp2, hbq⟩ := hcut
          have HBQ := Lib.hid (HB7.out.trans (hbq.mono HB7.out.size))
          have hso := (KO.out _ HBQ.out).1
          have HNR := Lib.hid (show namedR l[i] l[j] side = .tuple #[(spotQ a c side).v, .bool (decide (0 ≤ (spotQ a c side).h.num) && (decide ((spotQ a c side).h = 0) == decide (side = 0)))] by
            unfold namedR; rw [HDA.out, HDC.out, HFF.out, if_neg HF0.out])
          generalize spotQ a c side = sp at *
          obtain ⟨_, _, k3'⟩ := (CW5.out.below hbq CW5.out.lt).cells3
          have f0 := hp2.out.c 0
          have f1 := hp2.out.c 1
          have f2 := hp2.out.c 2
          have f3 := hp2.out.c 3
          have f4 := hp2.out.c 4
          have CPX := CP5.out.below hbq CP5.out.lt
          have z0 := CPX.c 0
          have z1 := CPX.c 1
          have z2 := CPX.c 2
          have z3 := CPX.c 3
          have z4 := CPX.c 4
          have y0 := CPX.fr 0
          have y1 := CPX.fr 1
          have y2 := CPX.fr 2
          have y3 := CPX.fr 3
          have y4 := CPX.fr 4
          simp at z0 z1 z2 z3 z4 f0 f1 f2 f3 f4
          have hp0 := sQ_pos sp.h
          have hh := sQ_head sp.h
          have hz2 := sQ_eq_zero sp.h
          have HX := Lib.hid CPX
          have hwp : w.heap.size + 1 < w5.heap.size := CP5.out.lt
          have hp5' := HP5.out
          have HBQ5 := below_set5 (p := w.heap.size + 1) HBQ.out (by omega) (.string (sQ sp.fx)) (.string (sQ sp.fy)) (.string (sQ sp.ux)) (.string (sQ sp.uy)) (.string (sQ sp.h))
          have hso5 := (KO.out _ HBQ5).1
          have GP5 := hp2.out.set5_other (q := w.heap.size + 1) (by omega) (.string (sQ sp.fx)) (.string (sQ sp.fy)) (.string (sQ sp.ux)) (.string (sQ sp.uy)) (.string (sQ sp.h))
          have GW5 := (CW5.out.below hbq CW5.out.lt).set5_other (q := w.heap.size + 1) (by omega) (.string (sQ sp.fx)) (.string (sQ sp.fy)) (.string (sQ sp.ux)) (.string (sQ sp.uy)) (.string (sQ sp.h))
          have g4 := GP5.c 4
          have g5 := GW5.c 2
          simp at g4 g5
          clear GP5 GW5 HBQ5
          clear CA5 CC5 CW5 CP5 CG5 M1 M2 M3 M4 M5 M6 M7 M8 M9 M10 M11 M12 M13 KS CPX
          rcases (show sp.h.num < 0 ∨ 0 ≤ sp.h.num by omega) with hneg | hneg
          · have t1 := hh.2 hneg
            have HVV := Lib.hid (show namedR l[i] l[j] side = .tuple #[sp.v, .bool false] by rw [HNR.out, decide_eq_false (by omega)]; rfl)
            clear hh hneg HNR hz2
            go_wp2_with fail
            go_region
            have h5 := HX.out.set5 (.string (sQ sp.fx)) (.string (sQ sp.fy)) (.string (sQ sp.ux)) (.string (sQ sp.uy)) (.string (sQ sp.h))
            have hb5 := below_set5 (p := w.heap.size + 1) HBQ.out (by omega) (.string (sQ sp.fx)) (.string (sQ sp.fy)) (.string (sQ sp.ux)) (.string (sQ sp.uy)) (.string (sQ sp.h))
            clear z0 z1 z2 z3 z4
            have z0 := h5.c 0
            have z1 := h5.c 1
            have z2 := h5.c 2
            have z3 := h5.c 3
            have z4 := h5.c 4
            simp at z0 z1 z2 z3 z4
            generalize ((((wc.setCell ⟨w.heap.size + 1, 0, none⟩ (.string (sQ sp.fx))).setCell ⟨w.heap.size + 1, 1, none⟩ (.string (sQ sp.fy))).setCell ⟨w.heap.size + 1, 2, none⟩ (.string (sQ sp.ux))).setCell ⟨w.heap.size + 1, 3, none⟩ (.string (sQ sp.uy))).setCell ⟨w.heap.size + 1, 4, none⟩ (.string (sQ sp.h)) = w9 at *
            go_wp2_with fail
            refine bodyPost_ret (v := .tuple #[sp.v, .bool false]) (by simp [results, Tryz.results83, go_sem, z0, z1, z2, z3, z4, Result.andThen]) rfl ⟨ret_v HVV.out.symm, hb5.drew⟩
          · have t1 : ((((sQ sp.h)[0]'hp0).toNat : Int) == 45) = false := by simp only [beq_eq_false_iff_ne, ne_eq]; intro e; have := hh.1 e; omega
            have t2 : ((((sQ sp.h)[0]'hp0).toNat : Int) != 45) = true := by simp only [bne, t1]; rfl
            have t3 : ¬ (((sQ sp.h)[0]'hp0).toNat : Int) = 45 := fun e => by have := hh.1 e; omega
            have hside : (side == 0) = decide (side = 0) := by rw [Bool.eq_iff_iff]; simp
            have HVV := Lib.hid (show namedR l[i] l[j] side = .tuple #[sp.v, .bool (decide (sp.h = 0) == decide (side = 0))] by rw [HNR.out, decide_eq_true hneg]; rfl)
            clear hh hneg HNR
            generalize decide (sp.h = 0) = bz at *
            generalize decide (side = 0) = bs at *
            go_wp2_with fail
            go_region
            have h5 := HX.out.set5 (.string (sQ sp.fx)) (.string (sQ sp.fy)) (.string (sQ sp.ux)) (.string (sQ sp.uy)) (.string (sQ sp.h))
            have hb5 := below_set5 (p := w.heap.size + 1) HBQ.out (by omega) (.string (sQ sp.fx)) (.string (sQ sp.fy)) (.string (sQ sp.ux)) (.string (sQ sp.uy)) (.string (sQ sp.h))
            clear z0 z1 z2 z3 z4
            have z0 := h5.c 0
            have z1 := h5.c 1
            have z2 := h5.c 2
            have z3 := h5.c 3
            have z4 := h5.c 4
            simp at z0 z1 z2 z3 z4
            generalize ((((wc.setCell ⟨w.heap.size + 1, 0, none⟩ (.string (sQ sp.fx))).setCell ⟨w.heap.size + 1, 1, none⟩ (.string (sQ sp.fy))).setCell ⟨w.heap.size + 1, 2, none⟩ (.string (sQ sp.ux))).setCell ⟨w.heap.size + 1, 3, none⟩ (.string (sQ sp.uy))).setCell ⟨w.heap.size + 1, 4, none⟩ (.string (sQ sp.h)) = w9 at *
            go_wp2_with fail
            refine bodyPost_ret (v := .tuple #[sp.v, .bool (bz == bs)]) (by simp [results, Tryz.results83, go_sem, z0, z1, z2, z3, z4, Result.andThen]) rfl ⟨ret_v HVV.out.symm, hb5.drew⟩
end Go.Proofs.YtbdckemkmocdlaaGreatDoor

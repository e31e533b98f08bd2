/- metrolabref12: Reached. -/
import Derived.Test.YtbdckemkmocdlaaGreatDoorZ35
import Derived.Test.YtbdckemkmocdlaaGreatDoorZ28
import Derived.Test.YtbdckemkmocdlaaGreatDoorZ33
import Derived.Test.YtbdckemkmocdlaaGreatDoorZ22
set_option linter.all false
set_option exponentiation.threshold 2000000
namespace Go.Proofs.YtbdckemkmocdlaaGreatDoor
open Go.RowKit

attribute [local irreducible] sI sQ

theorem cross_cases (a c : QD) : ∃ (x0 x1 x2 x3 x4 : ByteArray) (ok : Bool), crossR a c = .tuple #[.agg #[.string x0, .string x1, .string x2, .string x3, .string x4], .bool ok] ∧
    (ok = true → farQ c.x c.y a.x a.y ≠ 0 ∧ 0 ≤ (spotQ a c 0).h.num ∧ x0 = sQ (spotQ a c 0).fx ∧ x1 = sQ (spotQ a c 0).fy ∧ x2 = sQ (spotQ a c 0).ux ∧ x3 = sQ (spotQ a c 0).uy ∧ x4 = sQ (spotQ a c 0).h) ∧
    (ok = false → ¬ (farQ c.x c.y a.x a.y ≠ 0 ∧ 0 ≤ (spotQ a c 0).h.num)) := by
  unfold crossR
  by_cases hF : farQ c.x c.y a.x a.y = 0
  · rw [if_pos hF]
    exact ⟨_, _, _, _, _, _, rfl, fun h => absurd h (by decide), fun _ h => h.1 hF⟩
  · rw [if_neg hF]
    have hcs := sgn_cases (spotQ a c 0).h.num
    refine ⟨_, _, _, _, _, _, rfl, fun h => ⟨hF, ?_, rfl, rfl, rfl, rfl, rfl⟩, fun h h2 => ?_⟩
    · have := of_decide_eq_true h; omega
    · have := of_decide_eq_false h; omega

theorem spot_pos (a c : QD) {side : Int} (h : ¬ side < 0) : spotQ a c side = spotQ a c 0 := by
  unfold spotQ; simp only [if_neg h, if_neg (show ¬ (0 : Int) < 0 by decide)]
theorem spot_neg (a c : QD) {side : Int} (h : side < 0) : spotQ a c side = ⟨(spotQ a c 0).fx, (spotQ a c 0).fy, 0 - (spotQ a c 0).ux, 0 - (spotQ a c 0).uy, (spotQ a c 0).h⟩ := by
  unfold spotQ; simp only [if_pos h, if_neg (show ¬ (0 : Int) < 0 by decide)]
  congr 1; grind
theorem spot_h (a c : QD) (side : Int) : (spotQ a c side).h = (spotQ a c 0).h := rfl


set_option maxRecDepth 100000 in
set_option maxHeartbeats 4000000 in
theorem rreached_same (b o cap i j : Nat) (side : Int) (l : List QD) (w : World) (hj : j = i) (hi : i < l.length) (hl : l.length ≤ 1000000) (hr : QRow w b o l) (hb : b < w.heap.size) :
    Calls Tryz.prog 88 #[.slice (some ⟨b, o, none⟩) l.length cap, .agg #[.int .i64 i, .int .i64 j, .int .i64 side]] w fun e w' =>
      e = .returned (.tuple #[(⟨(l[i]).x, (l[i]).y, 0, 0, 0⟩ : Spt).v, .bool (side == 0)]) ∧ Below w.heap.size w w' := by
  subst hj
  obtain ⟨b2, a1, a2⟩ := blocks2 w #[.int .i64 j, .int .i64 j, .int .i64 side] (#[.string ⟨#[]⟩, .string ⟨#[]⟩, .string ⟨#[]⟩, .string ⟨#[]⟩, .string ⟨#[]⟩]) 43 118
  have hsz : ((w.alloc (.cells #[.int .i64 j, .int .i64 j, .int .i64 side] 43 (0, 0))).alloc (.cells (#[.string ⟨#[]⟩, .string ⟨#[]⟩, .string ⟨#[]⟩, .string ⟨#[]⟩, .string ⟨#[]⟩]) 118 (0, 0))).heap.size = w.heap.size + 1 + 1 := by simp
  have HB := Lib.hid b2
  have H2 := Lib.hid a2
  obtain ⟨k1, k2, k3⟩ := a1.cells3
  obtain ⟨p1, p2, p3⟩ := (hr.below b2 hb).at j hi
  generalize hd : l[j] = d at *
  clear hd
  obtain ⟨z0, z1, z2, z3, z4⟩ := a2.cells5
  have y0 := a2.fr 0
  have y1 := a2.fr 1
  have y2 := a2.fr 2
  have y3 := a2.fr 3
  have y4 := a2.fr 4
  clear a1 a2 b2 hr
  go_enter Tryz.func88, Tryz.ntmps88
  go_upto_region 1 with fail
  generalize (w.alloc (.cells #[.int .i64 j, .int .i64 j, .int .i64 side] 43 (0, 0))).alloc (.cells (#[.string ⟨#[]⟩, .string ⟨#[]⟩, .string ⟨#[]⟩, .string ⟨#[]⟩, .string ⟨#[]⟩]) 118 (0, 0)) = W2 at *
  go_wp2_with fail
  go_region
  all_goals
    have h5 := H2.out.set5 (.string (sQ d.x)) (.string (sQ d.y)) (.string ⟨#[48]⟩) (.string ⟨#[48]⟩) (.string ⟨#[48]⟩)
    have hb5 := (below_set5 (p := w.heap.size + 1) HB.out (by omega) (.string (sQ d.x)) (.string (sQ d.y)) (.string ⟨#[48]⟩) (.string ⟨#[48]⟩) (.string ⟨#[48]⟩)).drew
    clear z0 z1 z2 z3 z4
    obtain ⟨z0, z1, z2, z3, z4⟩ := h5.cells5
    generalize ((((W2.setCell ⟨w.heap.size + 1, 0, none⟩ (.string (sQ d.x))).setCell ⟨w.heap.size + 1, 1, none⟩ (.string (sQ d.y))).setCell ⟨w.heap.size + 1, 2, none⟩ (.string ⟨#[48]⟩)).setCell ⟨w.heap.size + 1, 3, none⟩ (.string ⟨#[48]⟩)).setCell ⟨w.heap.size + 1, 4, none⟩ (.string ⟨#[48]⟩) = w5 at *
    go_wp2_with fail
    refine bodyPost_ret (v := .tuple #[(⟨d.x, d.y, 0, 0, 0⟩ : Spt).v, .bool (side == 0)]) (by simp [results, Tryz.results88, go_sem, z0, z1, z2, z3, z4, Result.andThen, sQ_zero]) rfl ⟨rfl, hb5⟩


theorem CB.setP {w : World} {b : Nat} {cs : Array Value} {t : TypeId} (h : CB w b cs t) {p : Addr} (hne : b ≠ p.block) (v : Value) : CB (w.setCell p v) b cs t := (Below.heap_setCell _ _ _ b hne).trans h
/-- what Reached returns -/
def ReachE (l : List QD) (i j : Nat) (side : Int) (e : Ending) : Prop :=
  ∃ (x0 x1 x2 x3 x4 : ByteArray) (ok : Bool), e = .returned (.tuple #[.agg #[.string x0, .string x1, .string x2, .string x3, .string x4], .bool ok]) ∧
    (ok = true → ∃ p, reachQ l i j side = some p ∧ x0 = sQ p.fx ∧ x1 = sQ p.fy ∧ x2 = sQ p.ux ∧ x3 = sQ p.uy ∧ x4 = sQ p.h) ∧ (ok = false → reachQ l i j side = none)
theorem ReachE.no {l : List QD} {i j : Nat} {side : Int} (x0 x1 x2 x3 x4 : ByteArray) (h : reachQ l i j side = none) : ReachE l i j side (.returned (.tuple #[.agg #[.string x0, .string x1, .string x2, .string x3, .string x4], .bool false])) :=
  ⟨x0, x1, x2, x3, x4, false, rfl, fun h => absurd h (by decide), fun _ => h⟩
theorem ReachE.yes {l : List QD} {i j : Nat} {side : Int} (p : Spt) (h : reachQ l i j side = some p) : ReachE l i j side (.returned (.tuple #[.agg p.cs, .bool true])) :=
  ⟨_, _, _, _, _, true, rfl, fun _ => ⟨p, h, rfl, rfl, rfl, rfl, rfl⟩, fun h => absurd h (by decide)⟩

set_option maxRecDepth 100000 in
set_option maxHeartbeats 4000000 in
theorem rreached_pair (b o cap i j : Nat) (side : Int) (l : List QD) (w : World) (hij : i ≠ j) (hi : i < l.length) (hj : j < l.length) (hl : l.length ≤ 1000000) (hr : QRow w b o l) (hb : b < w.heap.size) (hba : Bg l[i]) (hbc : Bg l[j]) :
    Calls Tryz.prog 88 #[.slice (some ⟨b, o, none⟩) l.length cap, .agg #[.int .i64 i, .int .i64 j, .int .i64 side]] w fun e w' =>
      ReachE l i j side e ∧ Below w.heap.size w w' := by
  have HQ := Lib.hid (show reachQ l i j side = if farQ (l[j]).x (l[j]).y (l[i]).x (l[i]).y ≠ 0 ∧ 0 ≤ (spotQ l[i] l[j] side).h.num ∧ ((spotQ l[i] l[j] side).h = 0 ↔ side = 0) then some (spotQ l[i] l[j] side) else none by
    unfold reachQ; rw [List.getElem?_eq_getElem hi, List.getElem?_eq_getElem hj]; simp only [if_neg hij])
  obtain ⟨b2, a1, a2⟩ := blocks2 w #[.int .i64 i, .int .i64 j, .int .i64 side] (#[.string ⟨#[]⟩, .string ⟨#[]⟩, .string ⟨#[]⟩, .string ⟨#[]⟩, .string ⟨#[]⟩]) 43 118
  have hsz : ((w.alloc (.cells #[.int .i64 i, .int .i64 j, .int .i64 side] 43 (0, 0))).alloc (.cells (#[.string ⟨#[]⟩, .string ⟨#[]⟩, .string ⟨#[]⟩, .string ⟨#[]⟩, .string ⟨#[]⟩]) 118 (0, 0))).heap.size = w.heap.size + 1 + 1 := by simp
  have HB := Lib.hid b2
  have H1 := Lib.hid a1
  have H2 := Lib.hid a2
  have HR := Lib.hid (hr.below b2 hb)
  have hb2 : b < ((w.alloc (.cells #[.int .i64 i, .int .i64 j, .int .i64 side] 43 (0, 0))).alloc (.cells (#[.string ⟨#[]⟩, .string ⟨#[]⟩, .string ⟨#[]⟩, .string ⟨#[]⟩, .string ⟨#[]⟩]) 118 (0, 0))).heap.size := by omega
  have MX := Lib.hid (fun W => rcrossing_any l[i] l[j] W hba hbc)
  have MT1 := Lib.hid (fun W => rqturned_any (spotQ l[i] l[j] 0).ux W (show Md (spotQ l[i] l[j] 0).ux from (sz_sub sz_zero (sz_sub hbc.y hba.y)).md))
  have MT2 := Lib.hid (fun W => rqturned_any (spotQ l[i] l[j] 0).uy W (show Md (spotQ l[i] l[j] 0).uy from (sz_sub hbc.x hba.x).md))
  have hat := fun (W : World) (h : QRow W b o l) => And.intro (h.at i hi) (h.at j hj)
  generalize hda : l[i] = a at *
  generalize hdc : l[j] = c at *
  have HAT := Lib.hid hat
  clear hat hda hdc a1 a2 b2 hr hba hbc
  obtain ⟨x0, x1, x2, x3, x4, ok, hR, hyes, hno⟩ := cross_cases a c
  have HY := Lib.hid hyes
  have HN := Lib.hid hno
  rw [hR] at MX
  clear hR hyes hno
  have tij : ((i : Int) == (j : Int)) = false := by simp; omega
  obtain ⟨k1, k2, k3⟩ := H1.out.cells3
  go_enter Tryz.func88, Tryz.ntmps88
  go_upto_region 1 with fail
  generalize (w.alloc (.cells #[.int .i64 i, .int .i64 j, .int .i64 side] 43 (0, 0))).alloc (.cells (#[.string ⟨#[]⟩, .string ⟨#[]⟩, .string ⟨#[]⟩, .string ⟨#[]⟩, .string ⟨#[]⟩]) 118 (0, 0)) = W2 at *
  go_upto_region 3 with fail
  have hw2 : w.heap.size + 1 < W2.heap.size := H2.out.lt
  clear k1 k2 k3 hsz
  have KS := Lib.hid (show ∀ W, Below W2.heap.size W2 W → (W.cell? ⟨w.heap.size, 0, none⟩ = some (.int .i64 i) ∧ W.cell? ⟨w.heap.size, 1, none⟩ = some (.int .i64 j) ∧ W.cell? ⟨b, o + i * 3, none⟩ = some (.string (sQ a.x)) ∧ W.cell? ⟨b, o + i * 3 + 1, none⟩ = some (.string (sQ a.y)) ∧ W.cell? ⟨b, o + i * 3 + 2, none⟩ = some (.string (sQ a.q)) ∧ W.cell? ⟨b, o + j * 3, none⟩ = some (.string (sQ c.x)) ∧ W.cell? ⟨b, o + j * 3 + 1, none⟩ = some (.string (sQ c.y)) ∧ W.cell? ⟨b, o + j * 3 + 2, none⟩ = some (.string (sQ c.q))) ∧ (Below W2.heap.size W2 W ∧ Below w.heap.size w W) from fun W hW => by
    have e1 := H1.out.below hW H1.out.lt
    obtain ⟨⟨f1, f2, f3⟩, f4, f5, f6⟩ := HAT.out W (HR.out.below hW hb2)
    exact ⟨⟨e1.c 0, e1.c 1, f1, f2, f3, f4, f5, f6⟩, hW, HB.out.trans (hW.mono HB.out.size)⟩)
  have hq := Below.refl W2.heap.size W2
  have HSX := Lib.hid (show ∀ (W : World), Below W2.heap.size W2 W → ∃ p : Nat, Value.pointer (some ⟨W.heap.size, 0, none⟩) = .pointer (some ⟨p, 0, none⟩) ∧ Hid (CB (W.alloc (.cells (#[.string x0, .string x1, .string x2, .string x3, .string x4]) 118 (0, 0))) p (#[.string x0, .string x1, .string x2, .string x3, .string x4]) 118) ∧ Below W2.heap.size W2 (W.alloc (.cells (#[.string x0, .string x1, .string x2, .string x3, .string x4]) 118 (0, 0))) ∧ W2.heap.size ≤ p from fun W hW =>
    ⟨_, rfl, Lib.hid (CB.new W _ _), hW.alloc hW.size _, hW.size⟩)
  go_cut [6, 7] (fun s6 s7 wx => ∃ p : Nat, s6 = .pointer (some ⟨p, 0, none⟩) ∧ s7 = .bool ok ∧ Hid (CB wx p (#[.string x0, .string x1, .string x2, .string x3, .string x4]) 118) ∧ Below W2.heap.size W2 wx ∧ W2.heap.size ≤ p)
  case first =>
    have hb2 := hq
    go_region_held3 (fun W => (W.cell? ⟨w.heap.size, 0, none⟩ = some (.int .i64 i) ∧ W.cell? ⟨w.heap.size, 1, none⟩ = some (.int .i64 j) ∧ W.cell? ⟨b, o + i * 3, none⟩ = some (.string (sQ a.x)) ∧ W.cell? ⟨b, o + i * 3 + 1, none⟩ = some (.string (sQ a.y)) ∧ W.cell? ⟨b, o + i * 3 + 2, none⟩ = some (.string (sQ a.q)) ∧ W.cell? ⟨b, o + j * 3, none⟩ = some (.string (sQ c.x)) ∧ W.cell? ⟨b, o + j * 3 + 1, none⟩ = some (.string (sQ c.y)) ∧ W.cell? ⟨b, o + j * 3 + 2, none⟩ = some (.string (sQ c.q))) ∧ (Below W2.heap.size W2 W ∧ Below w.heap.size w W))
      ((refine KS.out _ ?_; first | with_reducible exact hq.drew | with_reducible assumption | with_reducible exact hb2.alloc hb2.size _ | with_reducible exact below_set5 hb2 hP _ _ _ _ _ | with_reducible exact (hq.alloc hq.size _).drew))
      (first | (go_at_call 124; have hPx := hb2.size; have hh := ‹(_ ∧ _) ∧ (_ ∧ Below w.heap.size w _)›; with_reducible refine (MX.out _).mono ?_; rintro e w1 ⟨rfl, hb1⟩; have hb2 := hh.2.1.trans (hb1.mono hh.2.1.size); first | (with_reducible (have GN := CB.new_belowD hb1); have hP := hPx; obtain ⟨r0, r1, r2, r3, r4⟩ := GN.cells5; have t0 := GN.fr 0; have t1 := GN.fr 1; have t2 := GN.fr 2; have t3 := GN.fr 3; have t4 := GN.fr 4) | skip))
    all_goals
      go_wp2_with fail
      go_meet
      first
        | with_reducible exact (HSX.out _ hb2).elim fun p h => ⟨p, h.1, rfl, h.2⟩
        | exact ⟨_, rfl, rfl, Lib.hid (GN.set5 _ _ _ _ _), below_set5 hb2 hP _ _ _ _ _, hP⟩
  case rest =>
    obtain ⟨p, rfl, rfl, hp, hbp, hp5⟩ := hcut
    have HBW := Lib.hid (HB.out.trans (hbp.mono HB.out.size))
    obtain ⟨k1, k2, k3⟩ := (H1.out.below hbp H1.out.lt).cells3
    have GN := H2.out.below hbp H2.out.lt
    obtain ⟨z0, z1, z2, z3, z4⟩ := GN.cells5
    have y0 := GN.fr 0
    have y1 := GN.fr 1
    have y2 := GN.fr 2
    have y3 := GN.fr 3
    have y4 := GN.fr 4
    have HG := Lib.hid GN
    have hpn : p ≠ w.heap.size + 1 := by omega
    obtain ⟨r0, r1, r2, r3, r4⟩ := hp.out.cells5
    clear GN KS HAT MX hq H1 H2 HR HSX
    have hside : (side == 0) = decide (side = 0) := by rw [Bool.eq_iff_iff]; simp
    have HE := Lib.hid (show ∀ (X : World), CB X (w.heap.size + 1) (#[.string ⟨#[]⟩, .string ⟨#[]⟩, .string ⟨#[]⟩, .string ⟨#[]⟩, .string ⟨#[]⟩]) 118 → Below w.heap.size w X → CB (((((X.setCell ⟨w.heap.size + 1, 0, none⟩ (.string ⟨#[]⟩)).setCell ⟨w.heap.size + 1, 1, none⟩ (.string ⟨#[]⟩)).setCell ⟨w.heap.size + 1, 2, none⟩ (.string ⟨#[]⟩)).setCell ⟨w.heap.size + 1, 3, none⟩ (.string ⟨#[]⟩)).setCell ⟨w.heap.size + 1, 4, none⟩ (.string ⟨#[]⟩)) (w.heap.size + 1) (#[.string ⟨#[]⟩, .string ⟨#[]⟩, .string ⟨#[]⟩, .string ⟨#[]⟩, .string ⟨#[]⟩]) 118 ∧
      Below w.heap.size w (((((X.setCell ⟨w.heap.size + 1, 0, none⟩ (.string ⟨#[]⟩)).setCell ⟨w.heap.size + 1, 1, none⟩ (.string ⟨#[]⟩)).setCell ⟨w.heap.size + 1, 2, none⟩ (.string ⟨#[]⟩)).setCell ⟨w.heap.size + 1, 3, none⟩ (.string ⟨#[]⟩)).setCell ⟨w.heap.size + 1, 4, none⟩ (.string ⟨#[]⟩)) from fun X h hb =>
        ⟨h.set5 _ _ _ _ _, below_set5 (p := w.heap.size + 1) hb (by omega) _ _ _ _ _⟩)
    cases ok
    · have HZ := Lib.hid (show reachQ l i j side = none by rw [HQ.out, if_neg (fun h => HN.out rfl ⟨h.1, by rw [spot_h] at h; exact h.2.1⟩)])
      go_wp2_with fail
      obtain ⟨h5, hb8⟩ := HE.out wc HG.out HBW.out
      clear z0 z1 z2 z3 z4
      obtain ⟨z0, z1, z2, z3, z4⟩ := h5.cells5
      generalize ((((wc.setCell ⟨w.heap.size + 1, 0, none⟩ (.string ⟨#[]⟩)).setCell ⟨w.heap.size + 1, 1, none⟩ (.string ⟨#[]⟩)).setCell ⟨w.heap.size + 1, 2, none⟩ (.string ⟨#[]⟩)).setCell ⟨w.heap.size + 1, 3, none⟩ (.string ⟨#[]⟩)).setCell ⟨w.heap.size + 1, 4, none⟩ (.string ⟨#[]⟩) = w9 at *
      refine bodyPost_ret (v := .tuple #[.agg (#[.string ⟨#[]⟩, .string ⟨#[]⟩, .string ⟨#[]⟩, .string ⟨#[]⟩, .string ⟨#[]⟩]), .bool false]) (by simp [results, Tryz.results88, go_sem, z0, z1, z2, z3, z4, Result.andThen]) rfl ⟨ReachE.no _ _ _ _ _ HZ.out, hb8⟩
    · obtain ⟨hF, hnum, rfl, rfl, rfl, rfl, rfl⟩ := HY.out rfl
      have hz := sQ_eq_zero (spotQ a c 0).h
      have HQ2 := Lib.hid (show reachQ l i j side = if ((spotQ a c 0).h = 0 ↔ side = 0) then some (spotQ a c side) else none by
        rw [HQ.out, spot_h]
        by_cases h : ((spotQ a c 0).h = 0 ↔ side = 0)
        · rw [if_pos h, if_pos ⟨hF, hnum, h⟩]
        · rw [if_neg h, if_neg (fun h' => h h'.2.2)])
      have HP1 := Lib.hid (show ¬ side < 0 → spotQ a c side = spotQ a c 0 from fun h => spot_pos a c h)
      have HP2 := Lib.hid (show side < 0 → spotQ a c side = ⟨(spotQ a c 0).fx, (spotQ a c 0).fy, 0 - (spotQ a c 0).ux, 0 - (spotQ a c 0).uy, (spotQ a c 0).h⟩ from fun h => spot_neg a c h)
      clear HY HN HQ hF hnum
      generalize spotQ a c 0 = P at *
      by_cases hm : (P.h = 0 ↔ side = 0)
      · have HZ := Lib.hid (show reachQ l i j side = some (spotQ a c side) by rw [HQ2.out, if_pos hm])
        have hb : decide (P.h = 0) = decide (side = 0) := by rw [decide_eq_decide]; exact hm
        rw [hb] at hz
        generalize decide (side = 0) = bs at *
        have hbb : (bs != bs) = false := by cases bs <;> rfl
        clear hm hb HQ2
        by_cases hs : side < 0
        · have hds : decide (side < 0) = true := decide_eq_true hs
          have HZ2 := Lib.hid (HZ.out.trans (congrArg some (HP2.out hs)))
          clear HP1 HP2 HZ
          have KS := Lib.hid (show ∀ W, Below wc.heap.size wc W → (W.cell? ⟨p, 2, none⟩ = some (.string (sQ P.ux)) ∧ W.cell? ⟨p, 3, none⟩ = some (.string (sQ P.uy))) ∧ (Below wc.heap.size wc W ∧ Below w.heap.size w W) from fun W hW => by
            have e := hp.out.below hW hp.out.lt
            exact ⟨⟨e.c 2, e.c 3⟩, hW, HBW.out.trans (hW.mono HBW.out.size)⟩)
          have hq := (Below.refl wc.heap.size wc).drew
          clear z0 z1 z2 z3 z4 y0 y1 y2 y3 y4
          go_upto_region 7 with fail
          clear r0 r1 r2 r3 r4
          go_cut [] (fun wx => Hid (CB wx p #[.string (sQ P.fx), .string (sQ P.fy), .string (sQ (0 - P.ux)), .string (sQ (0 - P.uy)), .string (sQ P.h)] 118) ∧ Hid (CB wx (w.heap.size + 1) (#[.string ⟨#[]⟩, .string ⟨#[]⟩, .string ⟨#[]⟩, .string ⟨#[]⟩, .string ⟨#[]⟩]) 118) ∧ Below w.heap.size w wx)
          case first =>
            have GN := CB.drew1 hp.out
            obtain ⟨r0, r1, r2, r3, r4⟩ := GN.cells5
            have t0 := GN.fr 2
            have t1 := GN.fr 3
            have hb2 := hq
            go_region_with (first | (go_at_call 125; with_reducible refine (MT1.out _).mono ?_; rintro e w1 ⟨rfl, hb1⟩; have hb2 := hb2.trans (hb1.mono hb2.size); with_reducible (have GN := GN.below hb1 GN.lt); clear r0 r1 r2 r3 r4 t0 t1; obtain ⟨r0, r1, r2, r3, r4⟩ := GN.cells5; have t0 := GN.fr 2; have t1 := GN.fr 3) | (go_at_call 125; with_reducible refine (MT2.out _).mono ?_; rintro e w1 ⟨rfl, hb1⟩; have hb2 := hb2.trans (hb1.mono hb2.size); with_reducible (have GN := GN.below hb1 GN.lt); clear r0 r1 r2 r3 r4 t0 t1; obtain ⟨r0, r1, r2, r3, r4⟩ := GN.cells5; have t0 := GN.fr 2; have t1 := GN.fr 3))
            all_goals
              go_wp2_with fail
              go_meet
              have g2 := (GN.set 2 (.string (sQ (0 - P.ux)))).set 3 (.string (sQ (0 - P.uy)))
              have g3 := ((HG.out.below hb2 HG.out.lt).setP (p := ⟨p, 2, none⟩) (Ne.symm hpn) (.string (sQ (0 - P.ux)))).setP (p := ⟨p, 3, none⟩) (Ne.symm hpn) (.string (sQ (0 - P.uy)))
              have g4 := ((HBW.out.trans (hb2.mono HBW.out.size)).setCell (p := ⟨p, 2, none⟩) (by show w.heap.size ≤ p; omega) (.string (sQ (0 - P.ux)))).setCell (p := ⟨p, 3, none⟩) (by show w.heap.size ≤ p; omega) (.string (sQ (0 - P.uy)))
              exact ⟨Lib.hid (by simpa using g2), Lib.hid g3, g4⟩
          case rest =>
            obtain ⟨hp7, hg7, hb7⟩ := hcut
            obtain ⟨r0, r1, r2, r3, r4⟩ := hp7.out.cells5
            obtain ⟨z0, z1, z2, z3, z4⟩ := hg7.out.cells5
            have y0 := hg7.out.fr 0
            have y1 := hg7.out.fr 1
            have y2 := hg7.out.fr 2
            have y3 := hg7.out.fr 3
            have y4 := hg7.out.fr 4
            clear KS hq k1 k2 k3
            have HX := Lib.hid (ReachE.yes _ HZ2.out)
            go_wp2_with fail
            have h5 := hg7.out.set5 (.string (sQ P.fx)) (.string (sQ P.fy)) (.string (sQ (0 - P.ux))) (.string (sQ (0 - P.uy))) (.string (sQ P.h))
            have hb8 := below_set5 (p := w.heap.size + 1) hb7 (by omega) (.string (sQ P.fx)) (.string (sQ P.fy)) (.string (sQ (0 - P.ux))) (.string (sQ (0 - P.uy))) (.string (sQ P.h))
            clear z0 z1 z2 z3 z4
            obtain ⟨z0, z1, z2, z3, z4⟩ := h5.cells5
            generalize ((((wc.setCell ⟨w.heap.size + 1, 0, none⟩ (.string (sQ P.fx))).setCell ⟨w.heap.size + 1, 1, none⟩ (.string (sQ P.fy))).setCell ⟨w.heap.size + 1, 2, none⟩ (.string (sQ (0 - P.ux)))).setCell ⟨w.heap.size + 1, 3, none⟩ (.string (sQ (0 - P.uy)))).setCell ⟨w.heap.size + 1, 4, none⟩ (.string (sQ P.h)) = w9 at *
            refine bodyPost_ret (v := .tuple #[.agg #[.string (sQ P.fx), .string (sQ P.fy), .string (sQ (0 - P.ux)), .string (sQ (0 - P.uy)), .string (sQ P.h)], .bool true]) (by simp [results, Tryz.results88, go_sem, z0, z1, z2, z3, z4, Result.andThen]) rfl ⟨HX.out, hb8⟩
        · have hds : decide (side < 0) = false := decide_eq_false hs
          have HZ2 := Lib.hid (HZ.out.trans (congrArg some (HP1.out hs)))
          clear HP1 HP2 HZ
          go_wp2_with fail
          have h5 := HG.out.set5 (.string (sQ P.fx)) (.string (sQ P.fy)) (.string (sQ P.ux)) (.string (sQ P.uy)) (.string (sQ P.h))
          have hb8 := below_set5 (p := w.heap.size + 1) HBW.out (by omega) (.string (sQ P.fx)) (.string (sQ P.fy)) (.string (sQ P.ux)) (.string (sQ P.uy)) (.string (sQ P.h))
          clear z0 z1 z2 z3 z4
          obtain ⟨z0, z1, z2, z3, z4⟩ := h5.cells5
          generalize ((((wc.setCell ⟨w.heap.size + 1, 0, none⟩ (.string (sQ P.fx))).setCell ⟨w.heap.size + 1, 1, none⟩ (.string (sQ P.fy))).setCell ⟨w.heap.size + 1, 2, none⟩ (.string (sQ P.ux))).setCell ⟨w.heap.size + 1, 3, none⟩ (.string (sQ P.uy))).setCell ⟨w.heap.size + 1, 4, none⟩ (.string (sQ P.h)) = w9 at *
          refine bodyPost_ret (v := .tuple #[.agg P.cs, .bool true]) (by simp [results, Tryz.results88, go_sem, z0, z1, z2, z3, z4, Result.andThen]) rfl ⟨ReachE.yes P HZ2.out, hb8⟩
      · have HZ := Lib.hid (show reachQ l i j side = none by rw [HQ2.out, if_neg hm])
        have hb : (decide (P.h = 0) == decide (side = 0)) = false := by
          rw [beq_eq_false_iff_ne]; intro e; rw [decide_eq_decide] at e; exact hm e
        generalize decide (P.h = 0) = bz at *
        generalize decide (side = 0) = bs at *
        clear hm HQ2 HP1 HP2
        go_wp2_with fail
        obtain ⟨h5, hb8⟩ := HE.out wc HG.out HBW.out
        clear z0 z1 z2 z3 z4
        obtain ⟨z0, z1, z2, z3, z4⟩ := h5.cells5
        generalize ((((wc.setCell ⟨w.heap.size + 1, 0, none⟩ (.string ⟨#[]⟩)).setCell ⟨w.heap.size + 1, 1, none⟩ (.string ⟨#[]⟩)).setCell ⟨w.heap.size + 1, 2, none⟩ (.string ⟨#[]⟩)).setCell ⟨w.heap.size + 1, 3, none⟩ (.string ⟨#[]⟩)).setCell ⟨w.heap.size + 1, 4, none⟩ (.string ⟨#[]⟩) = w9 at *
        refine bodyPost_ret (v := .tuple #[.agg (#[.string ⟨#[]⟩, .string ⟨#[]⟩, .string ⟨#[]⟩, .string ⟨#[]⟩, .string ⟨#[]⟩]), .bool false]) (by simp [results, Tryz.results88, go_sem, z0, z1, z2, z3, z4, Result.andThen]) rfl ⟨ReachE.no _ _ _ _ _ HZ.out, hb8⟩
end Go.Proofs.YtbdckemkmocdlaaGreatDoor

/- metrolabref12: Keeps, Proves. -/
namespace Go.Proofs.YtbdckemkmocdlaaGreatDoor
open Go.RowKit

attribute [local irreducible] sI sQ

/-- a place whose numbers are not too long -/
structure Pz (p : Spt) : Prop where
  fx : Sz 240 240 p.fx
  fy : Sz 240 240 p.fy
  ux : Sz 30 30 p.ux
  uy : Sz 30 30 p.uy
  h : Sz 500 500 p.h

theorem bg_t1 {a c : QD} (ha : Bg a) (hc : Bg c) (h0 : farQ c.x c.y a.x a.y ≠ 0) : Sz 190 188 (tQ a c) := by
  have hf := bg_far ha hc
  have h2 := sz_mul sz_two hf
  have h3 := sz_sub (sz_add hf ha.q) hc.q
  have hn : 2 * farQ c.x c.y a.x a.y ≠ 0 := by
    intro h
    rcases Rat.mul_eq_zero.1 h with h | h
    · exact absurd h (by decide)
    · exact h0 h
  exact (sz_div hn h3 h2).mono (by omega) (by omega)

theorem bg_reach {l : List QD} (hl : ∀ d ∈ l, Bg d) {i j : Nat} {side : Int} {p : Spt} (h : reachQ l i j side = some p) : Pz p := by
  unfold reachQ at h
  split at h
  · rename_i a c ea ec
    have ha := hl a (List.mem_of_getElem? ea)
    have hc := hl c (List.mem_of_getElem? ec)
    by_cases hij : i = j
    · rw [if_pos hij] at h
      by_cases hs : side = 0
      · rw [if_pos hs] at h
        obtain rfl := Option.some.inj h
        exact ⟨ha.x.mono (by omega) (by omega), ha.y.mono (by omega) (by omega), sz_zero.mono (by omega) (by omega), sz_zero.mono (by omega) (by omega), sz_zero.mono (by omega) (by omega)⟩
      · rw [if_neg hs] at h; cases h
    · rw [if_neg hij] at h
      split at h
      · rename_i hc3
        obtain ⟨h0, h1, _⟩ := hc3
        obtain rfl := Option.some.inj h
        have hf := bg_far ha hc
        have ht := bg_t1 ha hc h0
        have hx := sz_sub hc.x ha.x
        have hy := sz_sub hc.y ha.y
        have e1 := sz_add ha.x (sz_mul ht hx)
        have e2 := sz_add ha.y (sz_mul ht hy)
        have e3 := sz_sub (sz_div h0 ha.q hf) (sz_mul ht ht)
        have e4 := sz_sub sz_zero hx
        have e5 := sz_sub sz_zero hy
        have f1 : Sz 30 30 (c.x - a.x) := hx.mono (by omega) (by omega)
        have f2 : Sz 30 30 (c.y - a.y) := hy.mono (by omega) (by omega)
        have f3 : Sz 30 30 (0 - (c.x - a.x)) := e4.mono (by omega) (by omega)
        have f4 : Sz 30 30 (0 - (c.y - a.y)) := e5.mono (by omega) (by omega)
        refine ⟨e1.mono (by omega) (by omega), e2.mono (by omega) (by omega), ?_, ?_, e3.mono (by omega) (by omega)⟩
        · show Sz 30 30 (if side < 0 then c.y - a.y else 0 - (c.y - a.y))
          split <;> assumption
        · show Sz 30 30 (if side < 0 then 0 - (c.x - a.x) else c.x - a.x)
          split <;> assumption
      · cases h
  · cases h


set_option maxRecDepth 100000 in
set_option maxHeartbeats 4000000 in
theorem rkeeps_any (d : QD) (p : Spt) (w : World) (hd : Bg d) (hp : Pz p) :
    Calls Tryz.prog 89 #[.agg d.cs, .agg p.cs] w fun e w' => e = .returned (.bool (keepsQ d p)) ∧ Below w.heap.size w w' := by
  obtain ⟨b2, a1, a2⟩ := blocks2 w d.cs p.cs 26 118
  have HB := Lib.hid b2
  have H1 := Lib.hid a1
  have H2 := Lib.hid a2
  have HV := Lib.hid (show keepsQ d p = decide (rootR ((p.fx - d.x) * (p.fx - d.x) + (p.fy - d.y) * (p.fy - d.y) + p.h * (p.ux * p.ux + p.uy * p.uy) - d.q) (2 * ((p.fx - d.x) * p.ux + (p.fy - d.y) * p.uy)) p.h ≤ 0) from rfl)
  have m1 := sz_sub hp.fx hd.x
  have m2 := sz_sub hp.fy hd.y
  have mm := sz_add (sz_mul m1 m1) (sz_mul m2 m2)
  have uu := sz_add (sz_mul hp.ux hp.ux) (sz_mul hp.uy hp.uy)
  have hu := sz_mul hp.h uu
  have hs := sz_add mm hu
  have hA := sz_sub hs hd.q
  have mu := sz_add (sz_mul m1 hp.ux) (sz_mul m2 hp.uy)
  have hb := sz_mul sz_two mu
  have M1 := Lib.hid (fun W => rfminus_any p.fx p.fy d.x d.y W hp.fx.md hp.fy.md hd.x.md hd.y.md)
  have M2 := Lib.hid (fun W => rfdot_any (p.fx - d.x) (p.fy - d.y) (p.fx - d.x) (p.fy - d.y) W m1.md m2.md m1.md m2.md (sz_mul m1 m1).md (sz_mul m2 m2).md)
  have M3 := Lib.hid (fun W => rfdot_any p.ux p.uy p.ux p.uy W hp.ux.md hp.uy.md hp.ux.md hp.uy.md (sz_mul hp.ux hp.ux).md (sz_mul hp.uy hp.uy).md)
  have M4 := Lib.hid (fun W => rqtimes_any p.h (p.ux * p.ux + p.uy * p.uy) W hp.h.md uu.md)
  have M5 := Lib.hid (fun W => rqplus_any _ _ W mm.md hu.md)
  have M6 := Lib.hid (fun W => rqminus_any _ _ W hs.md hd.q.md)
  have M7 := Lib.hid (fun W => rfdot_any (p.fx - d.x) (p.fy - d.y) p.ux p.uy W m1.md m2.md hp.ux.md hp.uy.md (sz_mul m1 hp.ux).md (sz_mul m2 hp.uy).md)
  have M8 := Lib.hid (fun W => rqtimes_any 2 _ W sz_two.md mu.md)
  have M9 := Lib.hid (fun W => rroot_any _ _ p.h W ⟨hA.md, hb.md, hp.h.md, (sz_mul hA hA).md, (sz_mul hb hb).md, (sz_mul (sz_mul hb hb) hp.h).md⟩)
  rw [← sQ_two] at M8
  clear a1 a2 b2 hp hd m1 m2 mm uu hu hs hA mu hb
  go_enter Tryz.func89, Tryz.ntmps89
  go_wp2_with fail
  generalize (w.alloc (.cells #[.string (sQ d.x), .string (sQ d.y), .string (sQ d.q)] 26 (0, 0))).alloc (.cells #[.string (sQ p.fx), .string (sQ p.fy), .string (sQ p.ux), .string (sQ p.uy), .string (sQ p.h)] 118 (0, 0)) = W2 at *
  have v0 := H1.out.c 0
  have v1 := H1.out.c 1
  have x0 := H2.out.c 0
  have x1 := H2.out.c 1
  simp at v0 v1 x0 x1
  go_wp2_with fail
  with_reducible refine (M1.out _).mono ?_
  rintro e w3 ⟨rfl, hb3⟩
  have hb4 := HB.out.trans (hb3.mono HB.out.size)
  have G4 := Lib.hid (CB.new w3 #[.string (sQ (p.fx - d.x)), .string (sQ (p.fy - d.y))] 24)
  have hb5 := hb4.alloc hb4.size (.cells #[.string (sQ (p.fx - d.x)), .string (sQ (p.fy - d.y))] 24 (0, 0))
  have hbx5 := hb3.alloc hb3.size (.cells #[.string (sQ (p.fx - d.x)), .string (sQ (p.fy - d.y))] 24 (0, 0))
  clear v0 v1 x0 x1
  go_wp2_with fail
  generalize w3.alloc (.cells #[.string (sQ (p.fx - d.x)), .string (sQ (p.fy - d.y))] 24 (0, 0)) = w4 at *
  generalize hgg : w3.heap.size = g at *
  have H1' := Lib.hid (H1.out.below hbx5 H1.out.lt)
  have H2' := Lib.hid (H2.out.below hbx5 H2.out.lt)
  have HB5 := Lib.hid hb5
  clear hb3 hb4 hgg hbx5 H1 H2 HB
  have KS := Lib.hid (show ∀ W, Below w4.heap.size w4 W → (W.cell? ⟨w.heap.size, 2, none⟩ = some (.string (sQ d.q)) ∧ W.cell? ⟨w.heap.size + 1, 2, none⟩ = some (.string (sQ p.ux)) ∧ W.cell? ⟨w.heap.size + 1, 3, none⟩ = some (.string (sQ p.uy)) ∧ W.cell? ⟨w.heap.size + 1, 4, none⟩ = some (.string (sQ p.h)) ∧ W.cell? ⟨g, 0, none⟩ = some (.string (sQ (p.fx - d.x))) ∧ W.cell? ⟨g, 1, none⟩ = some (.string (sQ (p.fy - d.y)))) ∧ (Below w4.heap.size w4 W ∧ Below w.heap.size w W) from fun W hW => by
    have e1 := H1'.out.below hW H1'.out.lt
    have e2 := H2'.out.below hW H2'.out.lt
    have e3 := G4.out.below hW G4.out.lt
    exact ⟨⟨e1.c 2, e2.c 2, e2.c 3, e2.c 4, e3.c 0, e3.c 1⟩, hW, HB5.out.trans (hW.mono HB5.out.size)⟩)
  clear hb5
  go_region_held3 (fun W => (W.cell? ⟨w.heap.size, 2, none⟩ = some (.string (sQ d.q)) ∧ W.cell? ⟨w.heap.size + 1, 2, none⟩ = some (.string (sQ p.ux)) ∧ W.cell? ⟨w.heap.size + 1, 3, none⟩ = some (.string (sQ p.uy)) ∧ W.cell? ⟨w.heap.size + 1, 4, none⟩ = some (.string (sQ p.h)) ∧ W.cell? ⟨g, 0, none⟩ = some (.string (sQ (p.fx - d.x))) ∧ W.cell? ⟨g, 1, none⟩ = some (.string (sQ (p.fy - d.y)))) ∧ (Below w4.heap.size w4 W ∧ Below w.heap.size w W))
    ((refine KS.out _ ?_; first | exact (Below.refl _ _).drew | assumption))
    (first | (go_at_call 120; have hh := ‹(_ ∧ _) ∧ (_ ∧ Below w.heap.size w _)›; with_reducible refine (M2.out _).mono ?_; rintro e w1 ⟨rfl, hb1⟩; have hb2 := hh.2.1.trans (hb1.mono hh.2.1.size)) | (go_at_call 120; have hh := ‹(_ ∧ _) ∧ (_ ∧ Below w.heap.size w _)›; with_reducible refine (M3.out _).mono ?_; rintro e w1 ⟨rfl, hb1⟩; have hb2 := hh.2.1.trans (hb1.mono hh.2.1.size)) | (go_at_call 107; have hh := ‹(_ ∧ _) ∧ (_ ∧ Below w.heap.size w _)›; with_reducible refine (M4.out _).mono ?_; rintro e w1 ⟨rfl, hb1⟩; have hb2 := hh.2.1.trans (hb1.mono hh.2.1.size)) | (go_at_call 33; have hh := ‹(_ ∧ _) ∧ (_ ∧ Below w.heap.size w _)›; with_reducible refine (M5.out _).mono ?_; rintro e w1 ⟨rfl, hb1⟩; have hb2 := hh.2.1.trans (hb1.mono hh.2.1.size)))
  have hq := hb2
  clear hb1
  go_wp2_with fail
  go_region_held3 (fun W => (W.cell? ⟨w.heap.size, 2, none⟩ = some (.string (sQ d.q)) ∧ W.cell? ⟨w.heap.size + 1, 2, none⟩ = some (.string (sQ p.ux)) ∧ W.cell? ⟨w.heap.size + 1, 3, none⟩ = some (.string (sQ p.uy)) ∧ W.cell? ⟨w.heap.size + 1, 4, none⟩ = some (.string (sQ p.h)) ∧ W.cell? ⟨g, 0, none⟩ = some (.string (sQ (p.fx - d.x))) ∧ W.cell? ⟨g, 1, none⟩ = some (.string (sQ (p.fy - d.y)))) ∧ (Below w4.heap.size w4 W ∧ Below w.heap.size w W))
    ((refine KS.out _ ?_; first | exact hq.drew | assumption))
    (first | (go_at_call 105; have hh := ‹(_ ∧ _) ∧ (_ ∧ Below w.heap.size w _)›; with_reducible refine (M6.out _).mono ?_; rintro e w1 ⟨rfl, hb1⟩; have hb2 := hh.2.1.trans (hb1.mono hh.2.1.size)) | (go_at_call 120; have hh := ‹(_ ∧ _) ∧ (_ ∧ Below w.heap.size w _)›; with_reducible refine (M7.out _).mono ?_; rintro e w1 ⟨rfl, hb1⟩; have hb2 := hh.2.1.trans (hb1.mono hh.2.1.size)) | (go_at_call 107; have hh := ‹(_ ∧ _) ∧ (_ ∧ Below w.heap.size w _)›; with_reducible refine (M8.out _).mono ?_; rintro e w1 ⟨rfl, hb1⟩; have hb2 := hh.2.1.trans (hb1.mono hh.2.1.size)) | (go_at_call 106; have hh := ‹(_ ∧ _) ∧ (_ ∧ Below w.heap.size w _)›; with_reducible refine (M9.out _).mono ?_; rintro e w1 ⟨rfl, hb1⟩; have hb2 := hh.2.1.trans (hb1.mono hh.2.1.size)))
  go_wp2_with fail
  go_ret
  exact ⟨ret_bool HV.out.symm, HB5.out.trans (hb2.mono HB5.out.size)⟩

theorem rreached_any (b o cap i j : Nat) (side : Int) (l : List QD) (w : World) (hi : i < l.length) (hj : j < l.length) (hl : l.length ≤ 1000000) (hr : QRow w b o l) (hb : b < w.heap.size) (hbg : ∀ d ∈ l, Bg d) :
    Calls Tryz.prog 88 #[.slice (some ⟨b, o, none⟩) l.length cap, .agg #[.int .i64 i, .int .i64 j, .int .i64 side]] w fun e w' => ReachE l i j side e ∧ Below w.heap.size w w' := by
  by_cases hij : i = j
  · subst hij
    refine (rreached_same b o cap i i side l w rfl hi hl hr hb).mono ?_
    rintro e w' ⟨rfl, hb'⟩
    refine ⟨?_, hb'⟩
    have hq : reachQ l i i side = if side = 0 then some ⟨(l[i]).x, (l[i]).y, 0, 0, 0⟩ else none := by
      unfold reachQ; rw [List.getElem?_eq_getElem hi]; simp only [if_true]
    by_cases hs : side = 0
    · subst hs
      exact ReachE.yes (⟨(l[i]).x, (l[i]).y, 0, 0, 0⟩ : Spt) (by rw [hq, if_pos rfl])
    · have : (side == 0) = false := by simpa using hs
      rw [this]
      exact ReachE.no _ _ _ _ _ (by rw [hq, if_neg hs])
  · exact rreached_pair b o cap i j side l w hij hi hj hl hr hb (hbg _ (List.getElem_mem hi)) (hbg _ (List.getElem_mem hj))


set_option maxRecDepth 100000 in
set_option maxHeartbeats 4000000 in
theorem rproves_any (b o cap i j : Nat) (side : Int) (l : List QD) (w : World) (hi : i < l.length) (hj : j < l.length) (hl : l.length ≤ 1000000) (hr : QRow w b o l) (hb : b < w.heap.size) (hbg : ∀ d ∈ l, Bg d) :
    Calls Tryz.prog 54 #[.slice (some ⟨b, o, none⟩) l.length cap, .agg #[.int .i64 i, .int .i64 j, .int .i64 side]] w fun e w' => e = .returned (.bool (provesQ l i j side)) ∧ Below w.heap.size w w' := by
  have a1 := CB.new w #[.int .i64 i, .int .i64 j, .int .i64 side] 43
  have b1 := (Below.refl w.heap.size w).alloc (Nat.le_refl _) (.cells #[.int .i64 i, .int .i64 j, .int .i64 side] 43 (0, 0))
  have M := Lib.hid (rreached_any b o cap i j side l (w.alloc (.cells #[.int .i64 i, .int .i64 j, .int .i64 side] 43 (0, 0))) hi hj hl (hr.below b1 hb) (Nat.lt_of_lt_of_le hb b1.size) hbg)
  have HR := Lib.hid hr
  have HBG := Lib.hid hbg
  have HRE := Lib.hid (show ∀ p, reachQ l i j side = some p → Pz p from fun p h => bg_reach hbg h)
  have HV := Lib.hid (show provesQ l i j side = match reachQ l i j side with | some p => l.all (fun d => keepsQ d p) | none => false from rfl)
  obtain ⟨k1, k2, k3⟩ := a1.cells3
  have HB := Lib.hid b1
  clear hr hbg a1 b1
  go_enter Tryz.func54, Tryz.ntmps54
  go_wp2_with fail
  generalize w.alloc (.cells #[.int .i64 i, .int .i64 j, .int .i64 side] 43 (0, 0)) = W1 at *
  go_wp2_with fail
  with_reducible refine M.out.mono ?_
  rintro e w3 ⟨⟨x0, x1, x2, x3, x4, ok, rfl, hyes, hno⟩, hb3⟩
  have hb4 := HB.out.trans (hb3.mono HB.out.size)
  have hb5 := hb4.alloc hb4.size (.cells #[.string x0, .string x1, .string x2, .string x3, .string x4] 118 (0, 0))
  have HG := Lib.hid (CB.new w3 #[.string x0, .string x1, .string x2, .string x3, .string x4] 118)
  clear k1 k2 k3 M hb4 hb3
  cases ok
  · have HN := Lib.hid (show provesQ l i j side = false by rw [HV.out, hno rfl])
    clear hyes hno
    go_wp2_with fail
    go_ret
    exact ⟨ret_bool HN.out.symm, hb5⟩
  · obtain ⟨p, hp, rfl, rfl, rfl, rfl, rfl⟩ := hyes rfl
    have HN := Lib.hid (show provesQ l i j side = l.all (fun d => keepsQ d p) by rw [HV.out, hp])
    have hpz := HRE.out p hp
    clear hyes hno hp
    have HB5 := Lib.hid hb5
    clear hb5
    go_wp2_with fail
    generalize w3.alloc (.cells p.cs 118 (0, 0)) = w4 at *
    generalize w3.heap.size = g at *
    go_loopw [7] (fun iv wr => ∃ k : Nat, iv = .int .i64 k ∧ k ≤ l.length ∧ Hid (∀ m, ∀ h : m < l.length, m < k → keepsQ l[m] p = true) ∧ Below w4.heap.size w4 wr) (fun iv _ => l.length - (intOf iv).toNat)
    case atStart => exact ⟨0, rfl, Nat.zero_le _, Lib.hid (fun m _ h => by omega), Below.refl _ _⟩
    case round =>
      obtain ⟨k, rfl, hk, ha, hn1⟩ := hrel
      by_cases hlt : k < l.length
      · have MK := Lib.hid (fun W => rkeeps_any l[k] p W (HBG.out _ (List.getElem_mem hlt)) hpz)
        have HX := Lib.hid (show keepsQ l[k] p = true → ∀ m, ∀ h : m < l.length, m < k + 1 → keepsQ l[m] p = true from fun h m hm hmk => by
          by_cases e : m = k
          · subst e; exact h
          · exact ha.out m hm (by omega))
        have HF := Lib.hid (show keepsQ l[k] p = false → provesQ l i j side = false from fun h => by
          rw [HN.out, List.all_eq_false]; exact ⟨l[k], List.getElem_mem hlt, by rw [h]; simp⟩)
        have HBW := Lib.hid (HB5.out.trans (hn1.mono HB5.out.size))
        have HRR := Lib.hid (show ∀ W, Below w4.heap.size w4 W → _ from fun W hW => (HR.out.below (HB5.out.trans (hW.mono HB5.out.size)) hb).at k hlt)
        generalize l[k] = d at *
        have KS := Lib.hid (show ∀ W, Below w4.heap.size w4 W → (W.cell? ⟨b, o + k * 3, none⟩ = some (.string (sQ d.x)) ∧ W.cell? ⟨b, o + k * 3 + 1, none⟩ = some (.string (sQ d.y)) ∧ W.cell? ⟨b, o + k * 3 + 2, none⟩ = some (.string (sQ d.q)) ∧ W.cell? ⟨g, 0, none⟩ = some (.string (sQ p.fx)) ∧ W.cell? ⟨g, 1, none⟩ = some (.string (sQ p.fy)) ∧ W.cell? ⟨g, 2, none⟩ = some (.string (sQ p.ux)) ∧ W.cell? ⟨g, 3, none⟩ = some (.string (sQ p.uy)) ∧ W.cell? ⟨g, 4, none⟩ = some (.string (sQ p.h))) ∧ (Below w4.heap.size w4 W ∧ Below w.heap.size w W) from fun W hW => by
          have e3 := HG.out.below hW HG.out.lt
          obtain ⟨f1, f2, f3⟩ := HRR.out W hW
          exact ⟨⟨f1, f2, f3, e3.c 0, e3.c 1, e3.c 2, e3.c 3, e3.c 4⟩, hW, HB5.out.trans (hW.mono HB5.out.size)⟩)
        generalize keepsQ d p = r at *
        clear ha
        go_wp2_with fail
        go_region_held3 (fun W => (W.cell? ⟨b, o + k * 3, none⟩ = some (.string (sQ d.x)) ∧ W.cell? ⟨b, o + k * 3 + 1, none⟩ = some (.string (sQ d.y)) ∧ W.cell? ⟨b, o + k * 3 + 2, none⟩ = some (.string (sQ d.q)) ∧ W.cell? ⟨g, 0, none⟩ = some (.string (sQ p.fx)) ∧ W.cell? ⟨g, 1, none⟩ = some (.string (sQ p.fy)) ∧ W.cell? ⟨g, 2, none⟩ = some (.string (sQ p.ux)) ∧ W.cell? ⟨g, 3, none⟩ = some (.string (sQ p.uy)) ∧ W.cell? ⟨g, 4, none⟩ = some (.string (sQ p.h))) ∧ (Below w4.heap.size w4 W ∧ Below w.heap.size w W))
          ((refine KS.out _ ?_; first | exact hn1.drew | assumption))
          (first | (go_at_call 89; have hh := ‹(_ ∧ _) ∧ (_ ∧ Below w.heap.size w _)›; with_reducible refine (MK.out _).mono ?_; rintro e w1 ⟨rfl, hb1⟩; have hb2 := hh.2.1.trans (hb1.mono hh.2.1.size)))
        have hbf := HB5.out.trans (hb2.mono HB5.out.size)
        cases r
        · have HY := Lib.hid (HF.out rfl)
          go_wp2_with fail
          go_ret
          exact ⟨ret_bool HY.out.symm, hbf⟩
        · have HY := Lib.hid (HX.out rfl)
          go_wp2_with fail
          exact ⟨⟨k + 1, by simp, by omega, HY, hb2⟩, by simp [intOf]; omega⟩
      · have HY := Lib.hid (show provesQ l i j side = true by
          rw [HN.out, List.all_eq_true]
          intro d hd
          obtain ⟨m, hm, rfl⟩ := List.getElem_of_mem hd
          exact ha.out m hm (by omega))
        have hbf := HB5.out.trans (hn1.mono HB5.out.size)
        go_wp2_with fail
        go_ret
        exact ⟨ret_bool HY.out.symm, hbf⟩
end Go.Proofs.YtbdckemkmocdlaaGreatDoor

/- Closed forms of what two circles' common place gives: each number of the way keeps within 1024 digits. -/
namespace Go.Proofs.YtbdckemkmocdlaaGreatDoor
open Go.RowKit

/-- at most so many digits -/
def Dg (n : Nat) (k : Int) : Prop := k.natAbs < 10 ^ n
theorem Dg.mul {n m : Nat} {a b : Int} (ha : Dg n a) (hb : Dg m b) : Dg (n + m) (a * b) := by
  unfold Dg at *; rw [Int.natAbs_mul, Nat.pow_add]; exact Nat.mul_lt_mul'' ha hb
theorem Dg.mono {n m : Nat} {a : Int} (ha : Dg n a) (h : n ≤ m) : Dg m a :=
  Nat.lt_of_lt_of_le ha (Nat.pow_le_pow_right (by omega) h)
theorem Dg.add {n m : Nat} {a b : Int} (ha : Dg n a) (hb : Dg m b) : Dg (max n m + 1) (a + b) := by
  have h1 := ha.mono (Nat.le_max_left n m)
  have h2 := hb.mono (Nat.le_max_right n m)
  unfold Dg at *
  rw [Nat.pow_succ]
  have := Int.natAbs_add_le a b
  omega
theorem Dg.neg {n : Nat} {a : Int} (ha : Dg n a) : Dg n (-a) := by unfold Dg at *; rwa [Int.natAbs_neg]
theorem Dg.sub {n m : Nat} {a b : Int} (ha : Dg n a) (hb : Dg m b) : Dg (max n m + 1) (a - b) := by
  rw [Int.sub_eq_add_neg]; exact ha.add hb.neg
theorem Dg.sq {n : Nat} {a : Int} (ha : Dg n a) : Dg (n + n) (a ^ 2) := by
  rw [Int.pow_succ, Int.pow_succ, Int.pow_zero, Int.one_mul]; exact ha.mul ha

section
variable {dx dy g1 g2 X Y : Rat}
theorem cf_far (h1 : dx * g1 = X) (h2 : dy * g2 = Y) : (dx * dx + dy * dy) * ((g1 * g2) ^ 2) = X ^ 2 * g2 ^ 2 + Y ^ 2 * g1 ^ 2 := by grind
theorem cf_n {F G Fn qa qc a3 c3 A3 C3 : Rat} (hF : F * G = Fn) (ha : qa * a3 = A3) (hc : qc * c3 = C3) :
    (F + qa - qc) * (G * (a3 * c3)) = Fn * (a3 * c3) + (A3 * c3 - C3 * a3) * G := by grind
theorem cf_t {F G Fn e N n T : Rat} (h2 : F ≠ 0) (hF : F * G = Fn) (hn : n * (G * e) = N) (hT : T = n / (2 * F)) : T * (2 * (Fn * e)) = N := by
  have : (2 * F) ≠ 0 := by grind
  have h : T * (2 * F) = n := by grind
  grind
theorem cf_foot {T E N ax a1 A1 c1 d X : Rat} (hT : T * E = N) (ha : ax * a1 = A1) (hx : d * (a1 * c1) = X) : (ax + T * d) * (E * (a1 * c1)) = A1 * (E * c1) + N * X := by grind
theorem cf_less {x y k l D E : Rat} (h1 : x * D = k) (h2 : y * E = l) : (x - y) * (D * E) = k * E - l * D := by grind
theorem cf_sq2 {m1 m2 E f1 f2 k1 k2 : Rat} (h1 : m1 * (E * f1) = k1) (h2 : m2 * (E * f2) = k2) : (m1 * m1 + m2 * m2) * (E ^ 2 * (f1 * f2) ^ 2) = k1 ^ 2 * f2 ^ 2 + k2 ^ 2 * f1 ^ 2 := by grind
theorem cf_h {F G Fn e T N qa a3 c3 A3 : Rat} (h2 : F ≠ 0) (hF : F * G = Fn) (he : e = a3 * c3) (hT : T * (2 * (Fn * e)) = N) (ha : qa * a3 = A3) :
    (qa / F - T * T) * (4 * (Fn ^ 2 * e ^ 2)) = 4 * (A3 * (a3 * c3 ^ 2) * (Fn * G)) - N ^ 2 := by
  obtain ⟨r, hr⟩ : ∃ r, qa / F = r := ⟨_, rfl⟩
  have : r * F = qa := by rw [← hr]; grind
  rw [hr]
  grind
/-- the sum, by the distance of the centers -/
theorem cf_x0 {ax ay qa x y d1 d2 T F : Rat} (hF : F ≠ 0) (hFF : F = d1 * d1 + d2 * d2) :
    (ax + T * d1 - x) * (ax + T * d1 - x) + (ay + T * d2 - y) * (ay + T * d2 - y) + (qa / F - T * T) * F
      = ((ax - x) * (ax - x) + (ay - y) * (ay - y)) + 2 * T * (d1 * (ax - x) + d2 * (ay - y)) + qa := by
  have : (qa / F - T * T) * F = qa - T * T * F := by
    obtain ⟨r, hr⟩ : ∃ r, qa / F = r := ⟨_, rfl⟩
    have : r * F = qa := by rw [← hr]; grind
    rw [hr]; grind
  rw [this]; grind
theorem cf_mu {ax ay x y d1 d2 T u1 u2 s : Rat} (h1 : u1 = s * (0 - d2)) (h2 : u2 = s * d1) :
    (ax + T * d1 - x) * u1 + (ay + T * d2 - y) * u2 = s * ((ay - y) * d1 - (ax - x) * d2) := by subst h1 h2; grind
/-- of a product of differences -/
theorem cf_dot {p q d1 d2 a1 a2 c1 c2 e1 e2 P Q X Y : Rat} (hp : p * (a1 * e1) = P) (hq : q * (a2 * e2) = Q) (hx : d1 * (a1 * c1) = X) (hy : d2 * (a2 * c2) = Y) :
    (d1 * p + d2 * q) * (a1 ^ 2 * c1 * e1 * (a2 ^ 2 * c2 * e2)) = X * P * (a2 ^ 2 * c2 * e2) + Y * Q * (a1 ^ 2 * c1 * e1) := by grind
theorem cf_cross {p q d1 d2 a1 a2 c1 c2 e1 e2 P Q X Y : Rat} (hp : p * (a1 * e1) = P) (hq : q * (a2 * e2) = Q) (hx : d1 * (a1 * c1) = X) (hy : d2 * (a2 * c2) = Y) :
    (q * d1 - p * d2) * (a1 * a2 * c1 * c2 * e1 * e2) = Q * X * (c2 * e1) - P * Y * (c1 * e2) := by grind
theorem cf_x {T Fn N S R qa A3 a1 c1 e1 a2 c2 e2 a3 c3 dist dot : Rat} (hT : T * (2 * (Fn * (a3 * c3))) = N) (hR : dist * ((a1 * e1 * (a2 * e2)) ^ 2) = R)
    (hS : dot * (a1 ^ 2 * c1 * e1 * (a2 ^ 2 * c2 * e2)) = S) (hq : qa * a3 = A3) :
    (dist + 2 * T * dot + qa) * (Fn * (a3 * c3) * (a1 ^ 2 * c1 * e1 ^ 2 * (a2 ^ 2 * c2 * e2 ^ 2)))
      = R * (Fn * (a3 * c3)) * (c1 * c2) + N * S * (e1 * e2) + A3 * c3 * Fn * (a1 ^ 2 * c1 * e1 ^ 2 * (a2 ^ 2 * c2 * e2 ^ 2)) := by
  grind
end

theorem cf_of {n d : Nat} {x : Rat} (h : Sz n d x) : ∃ k D : Int, D ≠ 0 ∧ x * (D : Rat) = (k : Rat) ∧ Dg n k ∧ Dg d D :=
  ⟨x.num, x.den, by have := x.den_pos; omega, (num_eq x).symm, h.1, by simpa [Dg] using h.2⟩
theorem sz_of {n d : Nat} {x : Rat} {k D : Int} (hD : D ≠ 0) (h : x * (D : Rat) = (k : Rat)) (hk : Dg n k) (hd : Dg d D) : Sz n d x := by
  have hD' : (D : Rat) ≠ 0 := by exact_mod_cast hD
  have : x = Rat.divInt k D := by
    rw [Rat.divInt_eq_div]
    grind
  rw [this]
  exact sz_divInt hD hk hd

/-- what is known of a pair of discs with two centers -/
theorem bg_pair {a c : QD} (ha : Bg a) (hc : Bg c) (h0 : farQ c.x c.y a.x a.y ≠ 0) :
    ∃ A1 a1 A2 a2 A3 a3 c1 c2 c3 X Y Fn N : Int, a1 ≠ 0 ∧ a2 ≠ 0 ∧ a3 ≠ 0 ∧ c1 ≠ 0 ∧ c2 ≠ 0 ∧ c3 ≠ 0 ∧ Fn ≠ 0 ∧
      a.x * (a1 : Rat) = (A1 : Rat) ∧ a.y * (a2 : Rat) = (A2 : Rat) ∧ a.q * (a3 : Rat) = (A3 : Rat) ∧
      (c.x - a.x) * ((a1 : Rat) * (c1 : Rat)) = (X : Rat) ∧ (c.y - a.y) * ((a2 : Rat) * (c2 : Rat)) = (Y : Rat) ∧
      farQ c.x c.y a.x a.y * (((a1 : Rat) * (c1 : Rat)) * ((a2 : Rat) * (c2 : Rat))) ^ 2 = (Fn : Rat) ∧
      tQ a c * (2 * ((Fn : Rat) * ((a3 : Rat) * (c3 : Rat)))) = (N : Rat) ∧
      Dg 12 A1 ∧ Dg 10 a1 ∧ Dg 12 A2 ∧ Dg 10 a2 ∧ Dg 13 A3 ∧ Dg 10 a3 ∧ Dg 10 c1 ∧ Dg 10 c2 ∧ Dg 10 c3 ∧ Dg 23 X ∧ Dg 23 Y ∧ Dg 87 Fn ∧ Dg 108 N := by
  obtain ⟨A1, a1, a1n, a1e, A1d, a1d⟩ := cf_of ha.x
  obtain ⟨A2, a2, a2n, a2e, A2d, a2d⟩ := cf_of ha.y
  obtain ⟨A3, a3, a3n, a3e, A3d, a3d⟩ := cf_of ha.q
  obtain ⟨C1, c1, c1n, c1e, C1d, c1d⟩ := cf_of hc.x
  obtain ⟨C2, c2, c2n, c2e, C2d, c2d⟩ := cf_of hc.y
  obtain ⟨C3, c3, c3n, c3e, C3d, c3d⟩ := cf_of hc.q
  have hX : (c.x - a.x) * ((a1 : Rat) * (c1 : Rat)) = ((C1 * a1 - A1 * c1 : Int) : Rat) := by push_cast; grind
  have hY : (c.y - a.y) * ((a2 : Rat) * (c2 : Rat)) = ((C2 * a2 - A2 * c2 : Int) : Rat) := by push_cast; grind
  have Xd : Dg 23 (C1 * a1 - A1 * c1) := ((C1d.mul a1d).sub (A1d.mul c1d)).mono (by omega)
  have Yd : Dg 23 (C2 * a2 - A2 * c2) := ((C2d.mul a2d).sub (A2d.mul c2d)).mono (by omega)
  generalize C1 * a1 - A1 * c1 = X at *
  generalize C2 * a2 - A2 * c2 = Y at *
  have hF : farQ c.x c.y a.x a.y * (((a1 : Rat) * (c1 : Rat)) * ((a2 : Rat) * (c2 : Rat))) ^ 2 = ((X ^ 2 * (a2 * c2) ^ 2 + Y ^ 2 * (a1 * c1) ^ 2 : Int) : Rat) := by
    push_cast; exact cf_far hX hY
  have Fd : Dg 87 (X ^ 2 * (a2 * c2) ^ 2 + Y ^ 2 * (a1 * c1) ^ 2) := ((Xd.sq.mul (a2d.mul c2d).sq).add (Yd.sq.mul (a1d.mul c1d).sq)).mono (by omega)
  generalize X ^ 2 * (a2 * c2) ^ 2 + Y ^ 2 * (a1 * c1) ^ 2 = Fn at *
  have r1 : (a1 : Rat) ≠ 0 := by exact_mod_cast a1n
  have r2 : (a2 : Rat) ≠ 0 := by exact_mod_cast a2n
  have r3 : (c1 : Rat) ≠ 0 := by exact_mod_cast c1n
  have r4 : (c2 : Rat) ≠ 0 := by exact_mod_cast c2n
  have hFn : Fn ≠ 0 := by
    intro e
    rw [e] at hF
    have : ((0 : Int) : Rat) = 0 := rfl
    grind
  have hN : tQ a c * (2 * ((Fn : Rat) * ((a3 : Rat) * (c3 : Rat)))) = ((Fn * (a3 * c3) + (A3 * c3 - C3 * a3) * ((a1 * c1) * (a2 * c2)) ^ 2 : Int) : Rat) := by
    have := cf_n hF a3e c3e
    push_cast
    exact cf_t h0 hF this rfl
  have Nd : Dg 108 (Fn * (a3 * c3) + (A3 * c3 - C3 * a3) * ((a1 * c1) * (a2 * c2)) ^ 2) :=
    ((Fd.mul (a3d.mul c3d)).add (((A3d.mul c3d).sub (C3d.mul a3d)).mul ((a1d.mul c1d).mul (a2d.mul c2d)).sq)).mono (by omega)
  exact ⟨A1, a1, A2, a2, A3, a3, c1, c2, c3, X, Y, Fn, _, a1n, a2n, a3n, c1n, c2n, c3n, hFn, a1e, a2e, a3e, hX, hY, hF, hN, A1d, a1d, A2d, a2d, A3d, a3d, c1d, c2d, c3d, Xd, Yd, Fd, Nd⟩

theorem dg2 : Dg 1 2 := by unfold Dg; decide
theorem dg4 : Dg 1 4 := by unfold Dg; decide
theorem mul_ne {a b : Int} (ha : a ≠ 0) (hb : b ≠ 0) : a * b ≠ 0 := Int.mul_ne_zero ha hb
theorem sq_ne {a : Int} (ha : a ≠ 0) : a ^ 2 ≠ 0 := by
  rw [Int.pow_succ, Int.pow_succ, Int.pow_zero, Int.one_mul]; exact mul_ne ha ha

theorem bg_t {a c : QD} (ha : Bg a) (hc : Bg c) : Sz 108 108 (tQ a c) := by
  by_cases h0 : farQ c.x c.y a.x a.y = 0
  · have : tQ a c = 0 := by unfold tQ; rw [h0, Rat.mul_zero, Rat.div_def, Rat.inv_zero, Rat.mul_zero]
    rw [this]; exact sz_zero.mono (by omega) (by omega)
  · obtain ⟨A1, a1, A2, a2, A3, a3, c1, c2, c3, X, Y, Fn, N, a1n, a2n, a3n, c1n, c2n, c3n, hFn, a1e, a2e, a3e, hX, hY, hF, hN, A1d, a1d, A2d, a2d, A3d, a3d, c1d, c2d, c3d, Xd, Yd, Fd, Nd⟩ := bg_pair ha hc h0
    refine sz_of (k := N) (D := 2 * (Fn * (a3 * c3))) (mul_ne (by decide) (mul_ne hFn (mul_ne a3n c3n))) (by push_cast; exact hN) Nd ((dg2.mul (Fd.mul (a3d.mul c3d))).mono (by omega))

theorem bg_h {a c : QD} (ha : Bg a) (hc : Bg c) (h0 : farQ c.x c.y a.x a.y ≠ 0) : Sz 217 215 (a.q / farQ c.x c.y a.x a.y - tQ a c * tQ a c) := by
  obtain ⟨A1, a1, A2, a2, A3, a3, c1, c2, c3, X, Y, Fn, N, a1n, a2n, a3n, c1n, c2n, c3n, hFn, a1e, a2e, a3e, hX, hY, hF, hN, A1d, a1d, A2d, a2d, A3d, a3d, c1d, c2d, c3d, Xd, Yd, Fd, Nd⟩ := bg_pair ha hc h0
  refine sz_of (k := 4 * (A3 * (a3 * c3 ^ 2) * (Fn * (((a1 * c1) * (a2 * c2)) ^ 2))) - N ^ 2) (D := 4 * (Fn ^ 2 * (a3 * c3) ^ 2)) (mul_ne (by decide) (mul_ne (sq_ne hFn) (sq_ne (mul_ne a3n c3n)))) (by push_cast; exact cf_h h0 hF rfl hN a3e) ?_ ?_
  · exact ((dg4.mul ((A3d.mul (a3d.mul c3d.sq)).mul (Fd.mul ((a1d.mul c1d).mul (a2d.mul c2d)).sq))).sub Nd.sq).mono (by omega)
  · exact (dg4.mul (Fd.sq.mul (a3d.mul c3d).sq)).mono (by omega)

theorem bg_spot {a c : QD} (ha : Bg a) (hc : Bg c) : FitSpot a c := by
  have hf := bg_far ha hc
  have h2 := sz_mul sz_two hf
  have h3 := sz_add hf ha.q
  have h4 : farQ c.x c.y a.x a.y ≠ 0 → Sz 108 100 (farQ c.x c.y a.x a.y + a.q - c.q) := fun h0 => by
    obtain ⟨A1, a1, a1n, a1e, A1d, a1d⟩ := cf_of ha.x
    obtain ⟨A2, a2, a2n, a2e, A2d, a2d⟩ := cf_of ha.y
    obtain ⟨A3, a3, a3n, a3e, A3d, a3d⟩ := cf_of ha.q
    obtain ⟨C3, c3, c3n, c3e, C3d, c3d⟩ := cf_of hc.q
    obtain ⟨Fn, G, Gn, hF, Fd, Gd⟩ := cf_of hf
    refine sz_of (k := Fn * (a3 * c3) + (A3 * c3 - C3 * a3) * G) (D := G * (a3 * c3)) (mul_ne Gn (mul_ne a3n c3n)) (by push_cast; exact cf_n hF a3e c3e) ?_ ?_
    · exact ((Fd.mul (a3d.mul c3d)).add (((A3d.mul c3d).sub (C3d.mul a3d)).mul Gd)).mono (by omega)
    · exact (Gd.mul (a3d.mul c3d)).mono (by omega)
  have ht := bg_t ha hc
  have hx : Sz 23 20 (c.x - a.x) := sz_sub hc.x ha.x
  have hy : Sz 23 20 (c.y - a.y) := sz_sub hc.y ha.y
  have hn : farQ c.x c.y a.x a.y ≠ 0 → 2 * farQ c.x c.y a.x a.y ≠ 0 := by
    intro h0 h
    rcases Rat.mul_eq_zero.1 h with h | h
    · exact absurd h (by decide)
    · exact h0 h
  have hq : Sz 93 97 (a.q / farQ c.x c.y a.x a.y) := by
    by_cases h : farQ c.x c.y a.x a.y = 0
    · rw [h, Rat.div_def, Rat.inv_zero, Rat.mul_zero]; exact sz_zero.mono (by omega) (by omega)
    · exact sz_div h ha.q hf
  exact { far := bg_fitFar ha hc, s1 := fitAdd hf ha.q (by omega) (by omega) (by omega), s2 := fitSub h3 hc.q (by omega) (by omega) (by omega), s3 := fitMul sz_two hf (by omega) (by omega),
          s4 := fun h => fitDiv (hn h) (h4 h) h2 (by omega) (by omega), s5 := fitMul ht hx (by omega) (by omega), s6 := fitAdd ha.x (sz_mul ht hx) (by omega) (by omega) (by omega),
          s7 := fitMul ht hy (by omega) (by omega), s8 := fitAdd ha.y (sz_mul ht hy) (by omega) (by omega) (by omega), s9 := fitSub sz_zero hy (by omega) (by omega) (by omega),
          s10 := fun h => fitDiv h ha.q hf (by omega) (by omega), s11 := fitMul ht ht (by omega) (by omega), s12 := fitSub hq (sz_mul ht ht) (by omega) (by omega) (by omega),
          s13 := fitSub sz_zero hx (by omega) (by omega) (by omega) }

theorem spot_sq (a c : QD) (side : Int) : (spotQ a c side).ux * (spotQ a c side).ux + (spotQ a c side).uy * (spotQ a c side).uy = farQ c.x c.y a.x a.y := by
  unfold spotQ farQ
  by_cases hs : side < 0
  · simp only [if_pos hs]; grind
  · simp only [if_neg hs]; grind
theorem spot_u (a c : QD) (side : Int) : ∃ s : Rat, (s = 1 ∨ s = -1) ∧ (spotQ a c side).ux = s * (0 - (c.y - a.y)) ∧ (spotQ a c side).uy = s * (c.x - a.x) := by
  unfold spotQ
  by_cases hs : side < 0
  · exact ⟨-1, .inr rfl, by simp only [if_pos hs]; grind, by simp only [if_pos hs]; grind⟩
  · exact ⟨1, .inl rfl, by simp only [if_neg hs]; grind, by simp only [if_neg hs]; grind⟩
theorem sz_neg {n d : Nat} {x : Rat} (h : Sz n d x) : Sz n d (-x) := by unfold Sz at *; simpa using h

theorem bg_keep {a c d : QD} (ha : Bg a) (hc : Bg c) (hd : Bg d) (side : Int) (h0 : farQ c.x c.y a.x a.y ≠ 0) (hh : 0 ≤ (spotQ a c side).h.num) : FitKeep d (spotQ a c side) := by
  obtain ⟨s, hs, hux, huy⟩ := spot_u a c side
  have huu := spot_sq a c side
  have hH : (spotQ a c side).h = a.q / farQ c.x c.y a.x a.y - tQ a c * tQ a c := rfl
  have hfx : (spotQ a c side).fx = a.x + tQ a c * (c.x - a.x) := rfl
  have hfy : (spotQ a c side).fy = a.y + tQ a c * (c.y - a.y) := rfl
  have szH := bg_h ha hc h0
  rw [← hH] at szH
  have szF := bg_far ha hc
  have hFF : farQ c.x c.y a.x a.y = (c.x - a.x) * (c.x - a.x) + (c.y - a.y) * (c.y - a.y) := rfl
  have hkA : kA d (spotQ a c side) = (((a.x - d.x) * (a.x - d.x) + (a.y - d.y) * (a.y - d.y)) + 2 * tQ a c * ((c.x - a.x) * (a.x - d.x) + (c.y - a.y) * (a.y - d.y)) + a.q) - d.q := by
    unfold kA; rw [huu, hH, hfx, hfy, cf_x0 h0 hFF]
  have hsum : ((spotQ a c side).fx - d.x) * ((spotQ a c side).fx - d.x) + ((spotQ a c side).fy - d.y) * ((spotQ a c side).fy - d.y) + (spotQ a c side).h * ((spotQ a c side).ux * (spotQ a c side).ux + (spotQ a c side).uy * (spotQ a c side).uy)
      = ((a.x - d.x) * (a.x - d.x) + (a.y - d.y) * (a.y - d.y)) + 2 * tQ a c * ((c.x - a.x) * (a.x - d.x) + (c.y - a.y) * (a.y - d.y)) + a.q := by
    rw [huu, hH, hfx, hfy, cf_x0 h0 hFF]
  have hmu : ((spotQ a c side).fx - d.x) * (spotQ a c side).ux + ((spotQ a c side).fy - d.y) * (spotQ a c side).uy = s * ((a.y - d.y) * (c.x - a.x) - (a.x - d.x) * (c.y - a.y)) := by
    rw [hfx, hfy]; exact cf_mu hux huy
  obtain ⟨A1, a1, A2, a2, A3, a3, c1, c2, c3, X, Y, Fn, N, a1n, a2n, a3n, c1n, c2n, c3n, hFn, a1e, a2e, a3e, hX, hY, hF, hN, A1d, a1d, A2d, a2d, A3d, a3d, c1d, c2d, c3d, Xd, Yd, Fd, Nd⟩ := bg_pair ha hc h0
  obtain ⟨D1, e1, e1n, e1e, D1d, e1d⟩ := cf_of hd.x
  obtain ⟨D2, e2, e2n, e2e, D2d, e2d⟩ := cf_of hd.y
  have hP : (a.x - d.x) * ((a1 : Rat) * (e1 : Rat)) = ((A1 * e1 - D1 * a1 : Int) : Rat) := by push_cast; exact cf_less a1e e1e
  have hQ : (a.y - d.y) * ((a2 : Rat) * (e2 : Rat)) = ((A2 * e2 - D2 * a2 : Int) : Rat) := by push_cast; exact cf_less a2e e2e
  have Pd : Dg 23 (A1 * e1 - D1 * a1) := ((A1d.mul e1d).sub (D1d.mul a1d)).mono (by omega)
  have Qd : Dg 23 (A2 * e2 - D2 * a2) := ((A2d.mul e2d).sub (D2d.mul a2d)).mono (by omega)
  generalize A1 * e1 - D1 * a1 = P at *
  generalize A2 * e2 - D2 * a2 = Q at *
  -- the foot less a center
  have En : 2 * (Fn * (a3 * c3)) ≠ 0 := mul_ne (by decide) (mul_ne hFn (mul_ne a3n c3n))
  have Ed : Dg 108 (2 * (Fn * (a3 * c3))) := (dg2.mul (Fd.mul (a3d.mul c3d))).mono (by omega)
  have hTE : tQ a c * ((2 * (Fn * (a3 * c3)) : Int) : Rat) = (N : Rat) := by push_cast; exact hN
  generalize 2 * (Fn * (a3 * c3)) = E at *
  have hfx' := cf_foot hTE a1e hX
  have hfy' := cf_foot hTE a2e hY
  rw [← hfx] at hfx'
  rw [← hfy] at hfy'
  have szfx : Sz 132 128 (spotQ a c side).fx := sz_of (k := A1 * (E * c1) + N * X) (D := E * (a1 * c1)) (mul_ne En (mul_ne a1n c1n)) (by push_cast; exact hfx')
    (((A1d.mul (Ed.mul c1d)).add (Nd.mul Xd)).mono (by omega)) ((Ed.mul (a1d.mul c1d)).mono (by omega))
  have szfy : Sz 132 128 (spotQ a c side).fy := sz_of (k := A2 * (E * c2) + N * Y) (D := E * (a2 * c2)) (mul_ne En (mul_ne a2n c2n)) (by push_cast; exact hfy')
    (((A2d.mul (Ed.mul c2d)).add (Nd.mul Yd)).mono (by omega)) ((Ed.mul (a2d.mul c2d)).mono (by omega))
  have hmx : ((spotQ a c side).fx - d.x) * ((E : Rat) * ((a1 * c1 * e1 : Int) : Rat)) = (((A1 * (E * c1) + N * X) * e1 - D1 * (E * (a1 * c1)) : Int) : Rat) := by
    have := cf_less hfx' e1e
    push_cast; grind
  have hmy : ((spotQ a c side).fy - d.y) * ((E : Rat) * ((a2 * c2 * e2 : Int) : Rat)) = (((A2 * (E * c2) + N * Y) * e2 - D2 * (E * (a2 * c2)) : Int) : Rat) := by
    have := cf_less hfy' e2e
    push_cast; grind
  have Mxd : Dg 143 ((A1 * (E * c1) + N * X) * e1 - D1 * (E * (a1 * c1))) := ((((A1d.mul (Ed.mul c1d)).add (Nd.mul Xd)).mul e1d).sub (D1d.mul (Ed.mul (a1d.mul c1d)))).mono (by omega)
  have Myd : Dg 143 ((A2 * (E * c2) + N * Y) * e2 - D2 * (E * (a2 * c2))) := ((((A2d.mul (Ed.mul c2d)).add (Nd.mul Yd)).mul e2d).sub (D2d.mul (Ed.mul (a2d.mul c2d)))).mono (by omega)
  generalize (A1 * (E * c1) + N * X) * e1 - D1 * (E * (a1 * c1)) = Mx at *
  generalize (A2 * (E * c2) + N * Y) * e2 - D2 * (E * (a2 * c2)) = My at *
  have f1n : a1 * c1 * e1 ≠ 0 := mul_ne (mul_ne a1n c1n) e1n
  have f2n : a2 * c2 * e2 ≠ 0 := mul_ne (mul_ne a2n c2n) e2n
  have f1d : Dg 30 (a1 * c1 * e1) := ((a1d.mul c1d).mul e1d).mono (by omega)
  have f2d : Dg 30 (a2 * c2 * e2) := ((a2d.mul c2d).mul e2d).mono (by omega)
  have szmx : Sz 143 138 ((spotQ a c side).fx - d.x) := sz_of (k := Mx) (D := E * (a1 * c1 * e1)) (mul_ne En f1n) (by rw [← hmx]; push_cast; grind) Mxd ((Ed.mul f1d).mono (by omega))
  have szmy : Sz 143 138 ((spotQ a c side).fy - d.y) := sz_of (k := My) (D := E * (a2 * c2 * e2)) (mul_ne En f2n) (by rw [← hmy]; push_cast; grind) Myd ((Ed.mul f2d).mono (by omega))
  have szmm : Sz 347 336 (((spotQ a c side).fx - d.x) * ((spotQ a c side).fx - d.x) + ((spotQ a c side).fy - d.y) * ((spotQ a c side).fy - d.y)) := by
    have := cf_sq2 hmx hmy
    refine sz_of (k := Mx ^ 2 * (a2 * c2 * e2) ^ 2 + My ^ 2 * (a1 * c1 * e1) ^ 2) (D := E ^ 2 * ((a1 * c1 * e1) * (a2 * c2 * e2)) ^ 2) (mul_ne (sq_ne En) (sq_ne (mul_ne f1n f2n))) ?_ ?_ ?_
    · push_cast at this ⊢; exact this
    · exact ((Mxd.sq.mul f2d.sq).add (Myd.sq.mul f1d.sq)).mono (by omega)
    · exact (Ed.sq.mul (f1d.mul f2d).sq).mono (by omega)
  have szux : Sz 24 20 (spotQ a c side).ux := by
    have h1 : Sz 24 20 (c.y - a.y) := (sz_sub hc.y ha.y).mono (by omega) (by omega)
    have h2 : Sz 24 20 (0 - (c.y - a.y)) := by rw [Rat.sub_eq_add_neg, Rat.zero_add]; exact sz_neg h1
    show Sz 24 20 (if side < 0 then c.y - a.y else 0 - (c.y - a.y))
    split <;> assumption
  have szuy : Sz 24 20 (spotQ a c side).uy := by
    have h1 : Sz 24 20 (c.x - a.x) := (sz_sub hc.x ha.x).mono (by omega) (by omega)
    have h2 : Sz 24 20 (0 - (c.x - a.x)) := by rw [Rat.sub_eq_add_neg, Rat.zero_add]; exact sz_neg h1
    show Sz 24 20 (if side < 0 then 0 - (c.x - a.x) else c.x - a.x)
    split <;> assumption
  have szuu : Sz 87 80 ((spotQ a c side).ux * (spotQ a c side).ux + (spotQ a c side).uy * (spotQ a c side).uy) := by rw [huu]; exact szF
  have szmu : Sz 67 60 (((spotQ a c side).fx - d.x) * (spotQ a c side).ux + ((spotQ a c side).fy - d.y) * (spotQ a c side).uy) := by
    have hb : Sz 67 60 ((a.y - d.y) * (c.x - a.x) - (a.x - d.x) * (c.y - a.y)) := by
      refine sz_of (k := Q * X * (c2 * e1) - P * Y * (c1 * e2)) (D := a1 * a2 * c1 * c2 * e1 * e2) (mul_ne (mul_ne (mul_ne (mul_ne (mul_ne a1n a2n) c1n) c2n) e1n) e2n) ?_ ?_ ?_
      · push_cast; exact cf_cross hP hQ hX hY
      · exact (((Qd.mul Xd).mul (c2d.mul e1d)).sub ((Pd.mul Yd).mul (c1d.mul e2d))).mono (by omega)
      · exact (((((a1d.mul a2d).mul c1d).mul c2d).mul e1d).mul e2d).mono (by omega)
    rw [hmu]
    rcases hs with rfl | rfl
    · rw [Rat.one_mul]; exact hb
    · rw [show (-1 : Rat) * ((a.y - d.y) * (c.x - a.x) - (a.x - d.x) * (c.y - a.y)) = -((a.y - d.y) * (c.x - a.x) - (a.x - d.x) * (c.y - a.y)) by grind]; exact sz_neg hb
  have szx : Sz 217 207 (((a.x - d.x) * (a.x - d.x) + (a.y - d.y) * (a.y - d.y)) + 2 * tQ a c * ((c.x - a.x) * (a.x - d.x) + (c.y - a.y) * (a.y - d.y)) + a.q) := by
    have hR := cf_far hP hQ
    have hS := cf_dot hP hQ hX hY
    have hR' : ((a.x - d.x) * (a.x - d.x) + (a.y - d.y) * (a.y - d.y)) * (((a1 : Rat) * (e1 : Rat) * ((a2 : Rat) * (e2 : Rat))) ^ 2) = ((P ^ 2 * (a2 * e2) ^ 2 + Q ^ 2 * (a1 * e1) ^ 2 : Int) : Rat) := by push_cast; exact hR
    have hS' : ((c.x - a.x) * (a.x - d.x) + (c.y - a.y) * (a.y - d.y)) * ((a1 : Rat) ^ 2 * c1 * e1 * ((a2 : Rat) ^ 2 * c2 * e2)) = ((X * P * (a2 ^ 2 * c2 * e2) + Y * Q * (a1 ^ 2 * c1 * e1) : Int) : Rat) := by push_cast; exact hS
    have Rd : Dg 87 (P ^ 2 * (a2 * e2) ^ 2 + Q ^ 2 * (a1 * e1) ^ 2) := ((Pd.sq.mul (a2d.mul e2d).sq).add (Qd.sq.mul (a1d.mul e1d).sq)).mono (by omega)
    have Sd : Dg 87 (X * P * (a2 ^ 2 * c2 * e2) + Y * Q * (a1 ^ 2 * c1 * e1)) := (((Xd.mul Pd).mul ((a2d.sq.mul c2d).mul e2d)).add ((Yd.mul Qd).mul ((a1d.sq.mul c1d).mul e1d))).mono (by omega)
    generalize P ^ 2 * (a2 * e2) ^ 2 + Q ^ 2 * (a1 * e1) ^ 2 = R at *
    generalize X * P * (a2 ^ 2 * c2 * e2) + Y * Q * (a1 ^ 2 * c1 * e1) = S at *
    have gn : a1 ^ 2 * c1 * e1 ^ 2 * (a2 ^ 2 * c2 * e2 ^ 2) ≠ 0 := mul_ne (mul_ne (mul_ne (sq_ne a1n) c1n) (sq_ne e1n)) (mul_ne (mul_ne (sq_ne a2n) c2n) (sq_ne e2n))
    have gd : Dg 100 (a1 ^ 2 * c1 * e1 ^ 2 * (a2 ^ 2 * c2 * e2 ^ 2)) := (((a1d.sq.mul c1d).mul e1d.sq).mul ((a2d.sq.mul c2d).mul e2d.sq)).mono (by omega)
    refine sz_of (k := R * (Fn * (a3 * c3)) * (c1 * c2) + N * S * (e1 * e2) + A3 * c3 * Fn * (a1 ^ 2 * c1 * e1 ^ 2 * (a2 ^ 2 * c2 * e2 ^ 2))) (D := Fn * (a3 * c3) * (a1 ^ 2 * c1 * e1 ^ 2 * (a2 ^ 2 * c2 * e2 ^ 2))) (mul_ne (mul_ne hFn (mul_ne a3n c3n)) gn) ?_ ?_ ?_
    · push_cast; exact cf_x hN hR' hS' a3e
    · exact ((((Rd.mul (Fd.mul (a3d.mul c3d))).mul (c1d.mul c2d)).add ((Nd.mul Sd).mul (e1d.mul e2d))).add (((A3d.mul c3d).mul Fd).mul gd)).mono (by omega)
    · exact ((Fd.mul (a3d.mul c3d)).mul gd).mono (by omega)
  have szsum : Sz 217 207 (((spotQ a c side).fx - d.x) * ((spotQ a c side).fx - d.x) + ((spotQ a c side).fy - d.y) * ((spotQ a c side).fy - d.y) + (spotQ a c side).h * ((spotQ a c side).ux * (spotQ a c side).ux + (spotQ a c side).uy * (spotQ a c side).uy)) := by
    rw [hsum]; exact szx
  have szA : Sz 228 217 (kA d (spotQ a c side)) := by rw [hkA]; exact (sz_sub szx hd.q).mono (by omega) (by omega)
  have szB : Sz 68 61 (kB d (spotQ a c side)) := by unfold kB; exact sz_mul sz_two szmu
  generalize spotQ a c side = p at *
  exact { s1 := fitSub szfx hd.x (by omega) (by omega) (by omega), s2 := fitSub szfy hd.y (by omega) (by omega) (by omega), m1 := fitMul szmx szmx (by omega) (by omega), m2 := fitMul szmy szmy (by omega) (by omega),
          a1 := fitAdd (sz_mul szmx szmx) (sz_mul szmy szmy) (by omega) (by omega) (by omega), m3 := fitMul szux szux (by omega) (by omega), m4 := fitMul szuy szuy (by omega) (by omega),
          a2 := fitAdd (sz_mul szux szux) (sz_mul szuy szuy) (by omega) (by omega) (by omega), m5 := fitMul szH szuu (by omega) (by omega), a3 := fitAdd szmm (sz_mul szH szuu) (by omega) (by omega) (by omega),
          s3 := fitSub szsum hd.q (by omega) (by omega) (by omega), m6 := fitMul szmx szux (by omega) (by omega), m7 := fitMul szmy szuy (by omega) (by omega),
          a4 := fitAdd (sz_mul szmx szux) (sz_mul szmy szuy) (by omega) (by omega) (by omega), m8 := fitMul sz_two szmu (by omega) (by omega), r := rootFit szA szB szH (by omega) (by omega), h := hh }

/-- a center -/
theorem bg_keep0 {a d : QD} (ha : Bg a) (hd : Bg d) : FitKeep d ⟨a.x, a.y, 0, 0, 0⟩ := by
  have z := sz_zero
  have m1 := sz_sub ha.x hd.x
  have m2 := sz_sub ha.y hd.y
  have mm := sz_add (sz_mul m1 m1) (sz_mul m2 m2)
  have uu := sz_add (sz_mul z z) (sz_mul z z)
  have hu := sz_mul z uu
  have hs := sz_add mm hu
  have hA := sz_sub hs hd.q
  have mu := sz_add (sz_mul m1 z) (sz_mul m2 z)
  have hb := sz_mul sz_two mu
  exact { s1 := fitSub ha.x hd.x (by omega) (by omega) (by omega), s2 := fitSub ha.y hd.y (by omega) (by omega) (by omega), m1 := fitMul m1 m1 (by omega) (by omega), m2 := fitMul m2 m2 (by omega) (by omega),
          a1 := fitAdd (sz_mul m1 m1) (sz_mul m2 m2) (by omega) (by omega) (by omega), m3 := fitMul z z (by omega) (by omega), m4 := fitMul z z (by omega) (by omega),
          a2 := fitAdd (sz_mul z z) (sz_mul z z) (by omega) (by omega) (by omega), m5 := fitMul z uu (by omega) (by omega), a3 := fitAdd mm hu (by omega) (by omega) (by omega),
          s3 := fitSub hs hd.q (by omega) (by omega) (by omega), m6 := fitMul m1 z (by omega) (by omega), m7 := fitMul m2 z (by omega) (by omega),
          a4 := fitAdd (sz_mul m1 z) (sz_mul m2 z) (by omega) (by omega) (by omega), m8 := fitMul sz_two mu (by omega) (by omega), r := rootFit hA hb z (by omega) (by omega), h := by show (0 : Int) ≤ (0 : Rat).num; decide }

theorem bg_prove {l : List QD} (hl : ∀ d ∈ l, Bg d) (i j : Nat) (side : Int) : FitProve l i j side := by
  refine ⟨fun _ a c ha hc => bg_spot (hl a (List.mem_of_getElem? ha)) (hl c (List.mem_of_getElem? hc)), fun p hp d hd => ?_⟩
  unfold reachQ at hp
  split at hp
  · rename_i a c ea ec
    have ha := hl a (List.mem_of_getElem? ea)
    have hc := hl c (List.mem_of_getElem? ec)
    by_cases hij : i = j
    · rw [if_pos hij] at hp
      by_cases hs : side = 0
      · rw [if_pos hs] at hp
        obtain rfl := Option.some.inj hp
        exact bg_keep0 ha (hl d hd)
      · rw [if_neg hs] at hp; cases hp
    · rw [if_neg hij] at hp
      split at hp
      · rename_i h3
        obtain rfl := Option.some.inj hp
        exact bg_keep ha hc (hl d hd) side h3.1 h3.2.1
      · cases hp
  · cases hp
end Go.Proofs.YtbdckemkmocdlaaGreatDoor

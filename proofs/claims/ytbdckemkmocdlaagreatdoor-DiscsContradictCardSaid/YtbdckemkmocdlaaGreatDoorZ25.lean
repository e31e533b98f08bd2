/- package discs: sums.named. -/
import Derived.Test.YtbdckemkmocdlaaGreatDoorZ17
import Derived.Deep.DeepCutAuto
set_option linter.unusedVariables false
set_option linter.unusedSimpArgs false
namespace Go.Proofs.YtbdckemkmocdlaaGreatDoor
open Go.RowKit

attribute [local irreducible] sI sQ

/-- a right disc -/
structure QD where
  x : Rat
  y : Rat
  q : Rat
noncomputable def QD.t (d : QD) : TD := ⟨sQ d.x, sQ d.y, sQ d.q⟩
noncomputable abbrev QD.cs (d : QD) : Array Value := #[.string (sQ d.x), .string (sQ d.y), .string (sQ d.q)]

def QRow (w : World) (b o : Nat) (l : List QD) : Prop := DRow w b o (l.map QD.t)
theorem QRow.at {w : World} {b o : Nat} {l : List QD} (h : QRow w b o l) (i : Nat) (hi : i < l.length) :
    w.cell? ⟨b, o + i * 3, none⟩ = some (.string (sQ (l[i]).x)) ∧ w.cell? ⟨b, o + i * 3 + 1, none⟩ = some (.string (sQ (l[i]).y)) ∧ w.cell? ⟨b, o + i * 3 + 2, none⟩ = some (.string (sQ (l[i]).q)) := by
  have := h i (by simpa using hi)
  simpa [QD.t] using this
theorem QRow.below {w w' : World} {b o B : Nat} {l : List QD} (h : QRow w b o l) (hb : Below B w w') (hB : b < B) : QRow w' b o l := DRow.below h hb hB

/-- a place: a foot, and a vector times the root of a number -/
structure Spt where
  fx : Rat
  fy : Rat
  ux : Rat
  uy : Rat
  h : Rat
noncomputable abbrev Spt.v (s : Spt) : Value := .agg #[.string (sQ s.fx), .string (sQ s.fy), .string (sQ s.ux), .string (sQ s.uy), .string (sQ s.h)]


/-- what is read of two boxed things -/
theorem CB.cells3 {w : World} {b : Nat} {u v x : Value} {t : TypeId} (h : CB w b #[u, v, x] t) : w.cell? ⟨b, 0, none⟩ = some u ∧ w.cell? ⟨b, 1, none⟩ = some v ∧ w.cell? ⟨b, 2, none⟩ = some x := ⟨h.c 0, h.c 1, h.c 2⟩

theorem two_new (W : World) (n : Nat) (hn : W.heap.size = n) (cs ds : Array Value) (t : TypeId) :
    CB ((W.alloc (.cells cs t (0, 0))).alloc (.cells ds t (0, 0))).drew n cs t ∧ CB ((W.alloc (.cells cs t (0, 0))).alloc (.cells ds t (0, 0))).drew (n + 1) ds t ∧ Below W.heap.size W ((W.alloc (.cells cs t (0, 0))).alloc (.cells ds t (0, 0))).drew := by
  subst hn
  have a := (CB.new W cs t).alloc (.cells ds t (0, 0))
  have b := CB.new (W.alloc (.cells cs t (0, 0))) ds t
  rw [size_alloc] at b
  have e := (Below.refl W.heap.size W).alloc (Nat.le_refl _) (.cells cs t (0, 0))
  exact ⟨a, b, (e.alloc e.size _).drew⟩

set_option maxRecDepth 100000 in
set_option maxHeartbeats 2000000 in
theorem named_same (s b o cap i : Nat) (side : Int) (l : List QD) (w : World) (h0 : OK0 w s) (hi : i < l.length) (hl : l.length ≤ 1000000) (hr : QRow w b o l) (hb : b < w.heap.size) (he : Env w) :
    Calls Tryz.prog 83 #[.pointer (some ⟨s, 0, none⟩), .slice (some ⟨b, o, none⟩) l.length cap, .agg #[.int .i64 i, .int .i64 i, .int .i64 side]] w fun e w' =>
      e = .returned (.tuple #[(⟨(l[i]).x, (l[i]).y, 0, 0, 0⟩ : Spt).v, .bool (side == 0)]) ∧ Below w.heap.size w w' := by
  obtain ⟨j, hj⟩ : ∃ j, i = j := ⟨i, rfl⟩
  have a1 := (CB.new w #[.int .i64 i, .int .i64 j, .int .i64 side] 40).alloc (.cells #[.string ⟨#[]⟩, .string ⟨#[]⟩, .string ⟨#[]⟩, .string ⟨#[]⟩, .string ⟨#[]⟩] 112 (0, 0))
  have b1 := ((Below.refl w.heap.size w).alloc (Nat.le_refl _) (.cells #[.int .i64 i, .int .i64 j, .int .i64 side] 40 (0, 0))).alloc (by rw [size_alloc]; omega) (.cells #[.string ⟨#[]⟩, .string ⟨#[]⟩, .string ⟨#[]⟩, .string ⟨#[]⟩, .string ⟨#[]⟩] 112 (0, 0))
  have a2 := CB.new (w.alloc (.cells #[.int .i64 i, .int .i64 j, .int .i64 side] 40 (0, 0))) #[.string ⟨#[]⟩, .string ⟨#[]⟩, .string ⟨#[]⟩, .string ⟨#[]⟩, .string ⟨#[]⟩] 112
  have hsz : ((w.alloc (.cells #[.int .i64 i, .int .i64 j, .int .i64 side] 40 (0, 0))).alloc (.cells #[.string ⟨#[]⟩, .string ⟨#[]⟩, .string ⟨#[]⟩, .string ⟨#[]⟩, .string ⟨#[]⟩] 112 (0, 0))).heap.size = w.heap.size + 1 + 1 := by simp
  simp only [size_alloc] at a2
  subst hj
  have HR := Lib.hid hr
  have HB := Lib.hid b1
  have H1 := Lib.hid a1
  have H2 := Lib.hid a2
  clear a1 a2 b1 hr
  go_enter Tryz.func83, Tryz.ntmps83
  go_upto_region 1 with fail
  generalize (w.alloc (.cells #[.int .i64 i, .int .i64 i, .int .i64 side] 40 (0, 0))).alloc (.cells #[.string ⟨#[]⟩, .string ⟨#[]⟩, .string ⟨#[]⟩, .string ⟨#[]⟩, .string ⟨#[]⟩] 112 (0, 0)) = W2 at *
  have r2 := HR.out.below HB.out hb
  have hb2 : b < W2.heap.size := by omega
  have HA := Lib.hid (fun X => (Below.refl W2.heap.size W2).alloc (Nat.le_refl _) X)
  have HAA := Lib.hid (fun X Y => (HA.out X).alloc (HA.out X).size Y)
  obtain ⟨p1, p2, p3⟩ := r2.at i hi
  have q1 := fun X => ((r2.below (HA.out X) hb2).at i hi).1
  have q2 := fun X => ((r2.below (HA.out X) hb2).at i hi).2.1
  have q3 := fun X => ((r2.below (HA.out X) hb2).at i hi).2.2
  have s1 := fun X Y => ((r2.below (HAA.out X Y) hb2).at i hi).1
  have s2 := fun X Y => ((r2.below (HAA.out X Y) hb2).at i hi).2.1
  have s3 := fun X Y => ((r2.below (HAA.out X Y) hb2).at i hi).2.2
  obtain ⟨k1, k2, k3⟩ := H1.out.cells3
  have k4 := fun X => (H1.out.alloc X).cells3.1
  have k5 := fun X => (H1.out.alloc X).cells3.2.1
  have k7 := fun X Y => ((H1.out.alloc X).alloc Y).cells3.1
  have k8 := fun X Y => ((H1.out.alloc X).alloc Y).cells3.2.1
  generalize hd : l[i] = d at *
  have HDD := Lib.hid hd
  clear r2 hd
  have N1 := Lib.hid (two_new W2 _ hsz d.cs d.cs 26)
  go_cut [8, 9] (fun s8 s9 wx => ∃ ba bb : Nat, s8 = .pointer (some ⟨ba, 0, none⟩) ∧ s9 = .pointer (some ⟨bb, 0, none⟩) ∧ Hid (CB wx ba d.cs 26) ∧ Hid (CB wx bb d.cs 26) ∧ Below W2.heap.size W2 wx)
  case first =>
    go_region
    all_goals
      go_wp2_with fail
      go_meet
      first
        | exact ⟨_, _, rfl, rfl, Lib.hid N1.out.1, Lib.hid N1.out.2.1, N1.out.2.2⟩
        | exact ⟨_, _, rfl, rfl, Lib.hid N1.out.2.1, Lib.hid N1.out.1, N1.out.2.2⟩
  case rest =>
    clear p1 p2 p3 q1 q2 q3 s1 s2 s3 k1 k2 k3 k4 k5 k7 k8
    obtain ⟨ba, bb, rfl, rfl, ca, cb, hbw⟩ := hcut
    have h1 := H1.out.below hbw H1.out.lt
    obtain ⟨k1, k2, k3⟩ := h1.cells3
    obtain ⟨v1, v2, v3⟩ := ca.out.cells3
    have h2 := H2.out.below hbw H2.out.lt
    have z0 := h2.c 0
    have z1 := h2.c 1
    have z2 := h2.c 2
    have z3 := h2.c 3
    have z4 := h2.c 4
    have y0 := h2.fr 0
    have y1 := h2.fr 1
    have y2 := h2.fr 2
    have y3 := h2.fr 3
    have y4 := h2.fr 4
    simp at z0 z1 z2 z3 z4
    have hbw2 := Lib.hid (HB.out.trans (hbw.mono HB.out.size))
    go_wp2_with fail
    go_region
    have h5 := ((((h2.set 0 (.string (sQ d.x))).set 1 (.string (sQ d.y))).set 2 (.string ⟨#[48]⟩)).set 3 (.string ⟨#[48]⟩)).set 4 (.string ⟨#[48]⟩)
    have hb5 := (((((hbw2.out.setCell (p := ⟨w.heap.size + 1, 0, none⟩) (by show w.heap.size ≤ w.heap.size + 1; omega) (.string (sQ d.x))).setCell (p := ⟨w.heap.size + 1, 1, none⟩) (by show w.heap.size ≤ w.heap.size + 1; omega) (.string (sQ d.y))).setCell (p := ⟨w.heap.size + 1, 2, none⟩) (by show w.heap.size ≤ w.heap.size + 1; omega) (.string ⟨#[48]⟩)).setCell (p := ⟨w.heap.size + 1, 3, none⟩) (by show w.heap.size ≤ w.heap.size + 1; omega) (.string ⟨#[48]⟩)).setCell (p := ⟨w.heap.size + 1, 4, none⟩) (by show w.heap.size ≤ w.heap.size + 1; omega) (.string ⟨#[48]⟩)).drew
    clear z0 z1 z2 z3 z4
    have z0 := h5.c 0
    have z1 := h5.c 1
    have z2 := h5.c 2
    have z3 := h5.c 3
    have z4 := h5.c 4
    simp at z0 z1 z2 z3 z4
    generalize ((((wc.setCell ⟨w.heap.size + 1, 0, none⟩ (.string (sQ d.x))).setCell ⟨w.heap.size + 1, 1, none⟩ (.string (sQ d.y))).setCell ⟨w.heap.size + 1, 2, none⟩ (.string ⟨#[48]⟩)).setCell ⟨w.heap.size + 1, 3, none⟩ (.string ⟨#[48]⟩)).setCell ⟨w.heap.size + 1, 4, none⟩ (.string ⟨#[48]⟩) = w5 at *
    go_wp2_with fail
    refine bodyPost_ret (v := .tuple #[(⟨d.x, d.y, 0, 0, 0⟩ : Spt).v, .bool (side == 0)]) (by simp [results, Tryz.results83, go_sem, z0, z1, z2, z3, z4, Result.andThen, sQ_zero]) rfl ⟨by rw [HDD.out], hb5⟩
end Go.Proofs.YtbdckemkmocdlaaGreatDoor

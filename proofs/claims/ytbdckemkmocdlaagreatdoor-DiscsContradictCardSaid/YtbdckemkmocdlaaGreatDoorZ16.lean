/- package discs: sums.less, dot, far. -/
import Derived.Test.YtbdckemkmocdlaaGreatDoorZ15
import Derived.Deep.RegionHeld3
set_option linter.unusedVariables false
set_option linter.unusedSimpArgs false
namespace Go.Proofs.YtbdckemkmocdlaaGreatDoor
open Go.RowKit

attribute [local irreducible] sI sQ

/-- a place -/
noncomputable abbrev plV (x y : Rat) : Value := .agg #[.string (sQ x), .string (sQ y)]

/-- a block of cells -/
def CB (w : World) (b : Nat) (cs : Array Value) (t : TypeId) : Prop := w.heap[b]? = some (.cells cs t (0, 0))
theorem CB.lt {w : World} {b : Nat} {cs : Array Value} {t : TypeId} (h : CB w b cs t) : b < w.heap.size := (Array.getElem?_eq_some_iff.1 h).1
theorem CB.below {w w' : World} {b : Nat} {cs : Array Value} {t : TypeId} {B : Nat} (h : CB w b cs t) (hb : Below B w w') (hB : b < B) : CB w' b cs t := (hb.block b hB).trans h
theorem CB.alloc {w : World} {b : Nat} {cs : Array Value} {t : TypeId} (h : CB w b cs t) (o : Obj) : CB (w.alloc o) b cs t := h.below ((Below.refl w.heap.size w).alloc (Nat.le_refl _) o) h.lt
theorem CB.new (w : World) (cs : Array Value) (t : TypeId) : CB (w.alloc (.cells cs t (0, 0))) w.heap.size cs t := heap_alloc_new w _
theorem CB.c {w : World} {b : Nat} {cs : Array Value} {t : TypeId} (h : CB w b cs t) (i : Nat) : w.cell? ⟨b, i, none⟩ = cs[i]? := cell_of_row _ _ _ _ _ _ h
theorem CB.fr {w : World} {b : Nat} {cs : Array Value} {t : TypeId} (h : CB w b cs t) (i : Nat) : w.frozen? ⟨b, i, none⟩ = false := by
  simp only [World.frozen?]; rw [show w.heap[b]? = _ from h]; rfl

theorem CB.set {w : World} {b : Nat} {cs : Array Value} {t : TypeId} (h : CB w b cs t) (i : Nat) (v : Value) : CB (w.setCell ⟨b, i, none⟩ v) b (cs.setIfInBounds i v) t := heap_setCell_at h i v
theorem size_alloc (w : World) (o : Obj) : (w.alloc o).heap.size = w.heap.size + 1 := by simp

set_option maxRecDepth 100000 in
set_option maxHeartbeats 2000000 in
theorem dless_any (s : Nat) (a b c d : Rat) (w : World) (h0 : OK0 w s) (hx : FitSub a c) (hy : FitSub b d) (he : Env w) :
    Calls Tryz.prog 79 #[.pointer (some ⟨s, 0, none⟩), plV a b, plV c d] w fun e w' => e = .returned (plV (a - c) (b - d)) ∧ Below w.heap.size w w' := by
  have KE := Lib.hid (show ∀ W, Below w.heap.size w W → Env W from fun W hW => he.below hW)
  have KO := Lib.hid (show ∀ W, Below w.heap.size w W → OK0 W s from fun W hW => h0.below hW)
  clear he h0
  have a1 := CB.new w #[.string (sQ a), .string (sQ b)] 24
  have b1 := (Below.refl w.heap.size w).alloc (Nat.le_refl _) (.cells #[.string (sQ a), .string (sQ b)] 24 (0, 0))
  have a2 := CB.new (w.alloc (.cells #[.string (sQ a), .string (sQ b)] 24 (0, 0))) #[.string (sQ c), .string (sQ d)] 24
  have b2 := b1.alloc b1.size (.cells #[.string (sQ c), .string (sQ d)] 24 (0, 0))
  have a3 := CB.new ((w.alloc (.cells #[.string (sQ a), .string (sQ b)] 24 (0, 0))).alloc (.cells #[.string (sQ c), .string (sQ d)] 24 (0, 0))) #[.string ⟨#[]⟩, .string ⟨#[]⟩] 24
  have b3 := b2.alloc b2.size (.cells #[.string ⟨#[]⟩, .string ⟨#[]⟩] 24 (0, 0))
  replace a1 := (a1.alloc (.cells #[.string (sQ c), .string (sQ d)] 24 (0, 0))).alloc (.cells #[.string ⟨#[]⟩, .string ⟨#[]⟩] 24 (0, 0))
  replace a2 := a2.alloc (.cells #[.string ⟨#[]⟩, .string ⟨#[]⟩] 24 (0, 0))
  simp only [size_alloc] at a2 a3
  clear b1 b2
  have HB := Lib.hid b3
  have H1 := Lib.hid a1
  have H2 := Lib.hid a2
  have H3 := Lib.hid a3
  clear a1 a2 a3 b3
  go_enter Tryz.func79, Tryz.ntmps79
  go_wp2_with fail
  generalize ((w.alloc (.cells #[.string (sQ a), .string (sQ b)] 24 (0, 0))).alloc (.cells #[.string (sQ c), .string (sQ d)] 24 (0, 0))).alloc (.cells #[.string ⟨#[]⟩, .string ⟨#[]⟩] 24 (0, 0)) = W0 at *
  have hsz := H3.out.lt
  have D3 := Lib.hid (show CB W0.drew (w.heap.size + 1 + 1) #[.string ⟨#[]⟩, .string ⟨#[]⟩] 24 from H3.out)
  have KS := Lib.hid (show ∀ W, Below (w.heap.size + 1 + 1) W0 W → (W.cell? ⟨w.heap.size, 0, none⟩ = some (.string (sQ a)) ∧ W.cell? ⟨w.heap.size, 1, none⟩ = some (.string (sQ b)) ∧ W.cell? ⟨w.heap.size + 1, 0, none⟩ = some (.string (sQ c)) ∧ W.cell? ⟨w.heap.size + 1, 1, none⟩ = some (.string (sQ d))) ∧ (Below (w.heap.size + 1 + 1) W0 W ∧ Below w.heap.size w W) from fun W hW => by
    have e1 := H1.out.below hW (by omega)
    have e2 := H2.out.below hW (by omega)
    exact ⟨⟨e1.c 0, e1.c 1, e2.c 0, e2.c 1⟩, hW, HB.out.trans (hW.mono (by omega))⟩)
  go_region_held3 (fun W => (W.cell? ⟨w.heap.size, 0, none⟩ = some (.string (sQ a)) ∧ W.cell? ⟨w.heap.size, 1, none⟩ = some (.string (sQ b)) ∧ W.cell? ⟨w.heap.size + 1, 0, none⟩ = some (.string (sQ c)) ∧ W.cell? ⟨w.heap.size + 1, 1, none⟩ = some (.string (sQ d))) ∧ (Below (w.heap.size + 1 + 1) W0 W ∧ Below w.heap.size w W))
    ((refine KS.out _ ?_; first | exact (Below.refl _ _).drew | assumption | exact (hb2.setCell (p := ⟨w.heap.size + 1 + 1, 0, none⟩) (Nat.le_refl _) _).setCell (p := ⟨w.heap.size + 1 + 1, 1, none⟩) (Nat.le_refl _) _))
    (first | (go_at_call 63; have hh := ‹(_ ∧ _) ∧ (_ ∧ Below w.heap.size w _)›; with_reducible refine (dsub_any s a c _ (KO.out _ hh.2.2) hx (KE.out _ hh.2.2)).mono ?_; rintro e w1 ⟨rfl, hb1⟩; have hb2 := hh.2.1.trans (hb1.mono (Nat.le_trans (Nat.le_of_lt hsz) hh.2.1.size)); have c3 := D3.out.below hb1 D3.out.lt) | (go_at_call 63; have hh := ‹(_ ∧ _) ∧ (_ ∧ Below w.heap.size w _)›; with_reducible refine (dsub_any s b d _ (KO.out _ hh.2.2) hy (KE.out _ hh.2.2)).mono ?_; rintro e w1 ⟨rfl, hb1⟩; have hb2 := hh.2.1.trans (hb1.mono (Nat.le_trans (Nat.le_of_lt hsz) hh.2.1.size)); have c4 := c3.below hb1 c3.lt; have r1 := c4.c 0; have r2 := c4.c 1; have r3 := c4.fr 0; have r4 := c4.fr 1; simp at r1 r2))
  have c5 := (c4.set 0 (.string (sQ (a - c)))).set 1 (.string (sQ (b - d)))
  have z0 := c5.c 0
  have z1 := c5.c 1
  have hb5 : Below w.heap.size w ((w1.setCell ⟨w.heap.size + 1 + 1, 0, none⟩ (.string (sQ (a - c)))).setCell ⟨w.heap.size + 1 + 1, 1, none⟩ (.string (sQ (b - d)))) :=
    ((HB.out.trans (hb2.mono (by omega))).setCell (p := ⟨w.heap.size + 1 + 1, 0, none⟩) (by show w.heap.size ≤ w.heap.size + 1 + 1; omega) _).setCell (p := ⟨w.heap.size + 1 + 1, 1, none⟩) (by show w.heap.size ≤ w.heap.size + 1 + 1; omega) _
  simp at z0 z1
  generalize (w1.setCell ⟨w.heap.size + 1 + 1, 0, none⟩ (.string (sQ (a - c)))).setCell ⟨w.heap.size + 1 + 1, 1, none⟩ (.string (sQ (b - d))) = w5 at *
  go_wp2_with fail
  refine bodyPost_ret (v := plV (a - c) (b - d)) (by simp [results, Tryz.results79, go_sem, z0, z1, Result.andThen]) rfl ⟨rfl, hb5⟩
end Go.Proofs.YtbdckemkmocdlaaGreatDoor

/- package discs: sums.dot, far. -/
namespace Go.Proofs.YtbdckemkmocdlaaGreatDoor
open Go.RowKit

attribute [local irreducible] sI sQ

set_option maxRecDepth 100000 in
set_option maxHeartbeats 2000000 in
theorem ddot_any (s : Nat) (a b c d : Rat) (w : World) (h0 : OK0 w s) (hx : FitMul a c) (hy : FitMul b d) (hz : FitAdd (a * c) (b * d)) (he : Env w) :
    Calls Tryz.prog 80 #[.pointer (some ⟨s, 0, none⟩), plV a b, plV c d] w fun e w' => e = .returned (.string (sQ (a * c + b * d))) ∧ Below w.heap.size w w' := by
  have KE := Lib.hid (show ∀ W, Below w.heap.size w W → Env W from fun W hW => he.below hW)
  have KO := Lib.hid (show ∀ W, Below w.heap.size w W → OK0 W s from fun W hW => h0.below hW)
  clear he h0
  have a1 := (CB.new w #[.string (sQ a), .string (sQ b)] 24).alloc (.cells #[.string (sQ c), .string (sQ d)] 24 (0, 0))
  have b1 := (Below.refl w.heap.size w).alloc (Nat.le_refl _) (.cells #[.string (sQ a), .string (sQ b)] 24 (0, 0))
  have a2 := CB.new (w.alloc (.cells #[.string (sQ a), .string (sQ b)] 24 (0, 0))) #[.string (sQ c), .string (sQ d)] 24
  have b2 := b1.alloc b1.size (.cells #[.string (sQ c), .string (sQ d)] 24 (0, 0))
  simp only [size_alloc] at a2
  have HB := Lib.hid b2
  have H1 := Lib.hid a1
  have H2 := Lib.hid a2
  clear a1 a2 b1 b2
  go_enter Tryz.func80, Tryz.ntmps80
  go_wp2_with fail
  generalize (w.alloc (.cells #[.string (sQ a), .string (sQ b)] 24 (0, 0))).alloc (.cells #[.string (sQ c), .string (sQ d)] 24 (0, 0)) = W0 at *
  have KS := Lib.hid (show ∀ W, Below W0.heap.size W0 W → (W.cell? ⟨w.heap.size, 0, none⟩ = some (.string (sQ a)) ∧ W.cell? ⟨w.heap.size, 1, none⟩ = some (.string (sQ b)) ∧ W.cell? ⟨w.heap.size + 1, 0, none⟩ = some (.string (sQ c)) ∧ W.cell? ⟨w.heap.size + 1, 1, none⟩ = some (.string (sQ d))) ∧ (Below W0.heap.size W0 W ∧ Below w.heap.size w W) from fun W hW => by
    have e1 := H1.out.below hW H1.out.lt
    have e2 := H2.out.below hW H2.out.lt
    exact ⟨⟨e1.c 0, e1.c 1, e2.c 0, e2.c 1⟩, hW, HB.out.trans (hW.mono HB.out.size)⟩)
  go_region_held3 (fun W => (W.cell? ⟨w.heap.size, 0, none⟩ = some (.string (sQ a)) ∧ W.cell? ⟨w.heap.size, 1, none⟩ = some (.string (sQ b)) ∧ W.cell? ⟨w.heap.size + 1, 0, none⟩ = some (.string (sQ c)) ∧ W.cell? ⟨w.heap.size + 1, 1, none⟩ = some (.string (sQ d))) ∧ (Below W0.heap.size W0 W ∧ Below w.heap.size w W))
    ((refine KS.out _ ?_; first | exact (Below.refl _ _).drew | assumption))
    (first | (go_at_call 66; have hh := ‹(_ ∧ _) ∧ (_ ∧ Below w.heap.size w _)›; with_reducible refine (dmul_any s a c _ (KO.out _ hh.2.2) hx (KE.out _ hh.2.2)).mono ?_; rintro e w1 ⟨rfl, hb1⟩; have hb2 := hh.2.1.trans (hb1.mono hh.2.1.size)) | (go_at_call 66; have hh := ‹(_ ∧ _) ∧ (_ ∧ Below w.heap.size w _)›; with_reducible refine (dmul_any s b d _ (KO.out _ hh.2.2) hy (KE.out _ hh.2.2)).mono ?_; rintro e w1 ⟨rfl, hb1⟩; have hb2 := hh.2.1.trans (hb1.mono hh.2.1.size)) | (go_at_call 64; have hh := ‹(_ ∧ _) ∧ (_ ∧ Below w.heap.size w _)›; with_reducible refine (dadd_any s (a * c) (b * d) _ (KO.out _ hh.2.2) hz (KE.out _ hh.2.2)).mono ?_; rintro e w1 ⟨rfl, hb1⟩; have hb2 := hh.2.1.trans (hb1.mono hh.2.1.size)))
  go_wp2_with fail
  go_ret
  exact ⟨rfl, HB.out.trans (hb2.mono HB.out.size)⟩
end Go.Proofs.YtbdckemkmocdlaaGreatDoor

/- package discs: sums.far, part, within. -/
namespace Go.Proofs.YtbdckemkmocdlaaGreatDoor
open Go.RowKit

attribute [local irreducible] sI sQ

set_option maxRecDepth 100000 in
set_option maxHeartbeats 2000000 in
theorem dfar_any (s : Nat) (a b c d : Rat) (w : World) (h0 : OK0 w s) (hx : FitSub a c) (hy : FitSub b d) (hxx : FitMul (a - c) (a - c)) (hyy : FitMul (b - d) (b - d)) (hz : FitAdd ((a - c) * (a - c)) ((b - d) * (b - d))) (he : Env w) :
    Calls Tryz.prog 51 #[.pointer (some ⟨s, 0, none⟩), plV a b, plV c d] w fun e w' => e = .returned (.string (sQ ((a - c) * (a - c) + (b - d) * (b - d)))) ∧ Below w.heap.size w w' := by
  have KE := Lib.hid (show ∀ W, Below w.heap.size w W → Env W from fun W hW => he.below hW)
  have KO := Lib.hid (show ∀ W, Below w.heap.size w W → OK0 W s from fun W hW => h0.below hW)
  clear he h0
  go_enter Tryz.func51, Tryz.ntmps51
  go_wp2_with fail
  have b2 := (((Below.refl w.heap.size w).alloc (Nat.le_refl _) (.cells #[.string (sQ a), .string (sQ b)] 24 (0, 0))).alloc (by rw [size_alloc]; omega) (.cells #[.string (sQ c), .string (sQ d)] 24 (0, 0)))
  generalize (w.alloc (.cells #[.string (sQ a), .string (sQ b)] 24 (0, 0))).alloc (.cells #[.string (sQ c), .string (sQ d)] 24 (0, 0)) = W0 at *
  with_reducible refine (dless_any s a b c d _ (KO.out _ b2) hx hy (KE.out _ b2)).mono ?_
  rintro e w1 ⟨rfl, hb1⟩
  have hb2 := b2.trans (hb1.mono b2.size)
  have hb3 := hb2.alloc hb2.size (.cells #[.string (sQ (a - c)), .string (sQ (b - d))] 24 (0, 0))
  go_wp2_with fail
  generalize w1.alloc (.cells #[.string (sQ (a - c)), .string (sQ (b - d))] 24 (0, 0)) = w2 at *
  with_reducible refine (ddot_any s (a - c) (b - d) (a - c) (b - d) _ (KO.out _ hb3) hxx hyy hz (KE.out _ hb3)).mono ?_
  rintro e w3 ⟨rfl, hb4⟩
  go_wp2_with fail
  go_ret
  exact ⟨rfl, hb3.trans (hb4.mono hb3.size)⟩

/-- a disc -/
noncomputable abbrev dcV (x y q : Rat) : Value := .agg #[.string (sQ x), .string (sQ y), .string (sQ q)]

/-- the squared distance of two places -/
def farQ (a b c d : Rat) : Rat := (a - c) * (a - c) + (b - d) * (b - d)

structure FitFar (a b c d : Rat) : Prop where
  x : FitSub a c
  y : FitSub b d
  xx : FitMul (a - c) (a - c)
  yy : FitMul (b - d) (b - d)
  z : FitAdd ((a - c) * (a - c)) ((b - d) * (b - d))

theorem FitFar.calls {a b c d : Rat} (h : FitFar a b c d) (s : Nat) (w : World) (h0 : OK0 w s) (he : Env w) :
    Calls Tryz.prog 51 #[.pointer (some ⟨s, 0, none⟩), plV a b, plV c d] w fun e w' => e = .returned (.string (sQ (farQ a b c d))) ∧ Below w.heap.size w w' :=
  dfar_any s a b c d w h0 h.x h.y h.xx h.yy h.z he


/-- what two boxed discs are behind the two boxes -/
theorem two_discs (w : World) (a b p c d q : Rat) : ∀ W0, W0 = (w.alloc (.cells #[.string (sQ a), .string (sQ b), .string (sQ p)] 26 (0, 0))).alloc (.cells #[.string (sQ c), .string (sQ d), .string (sQ q)] 26 (0, 0)) → Below w.heap.size w W0 ∧ ∀ W, Below W0.heap.size W0 W → (W.cell? ⟨w.heap.size, 0, none⟩ = some (.string (sQ a)) ∧ W.cell? ⟨w.heap.size, 1, none⟩ = some (.string (sQ b)) ∧ W.cell? ⟨w.heap.size, 2, none⟩ = some (.string (sQ p)) ∧ W.cell? ⟨w.heap.size + 1, 0, none⟩ = some (.string (sQ c)) ∧ W.cell? ⟨w.heap.size + 1, 1, none⟩ = some (.string (sQ d)) ∧ W.cell? ⟨w.heap.size + 1, 2, none⟩ = some (.string (sQ q))) ∧ (Below W0.heap.size W0 W ∧ Below w.heap.size w W) := by
  rintro W0 rfl
  have a1 := (CB.new w #[.string (sQ a), .string (sQ b), .string (sQ p)] 26).alloc (.cells #[.string (sQ c), .string (sQ d), .string (sQ q)] 26 (0, 0))
  have b1 := (Below.refl w.heap.size w).alloc (Nat.le_refl _) (.cells #[.string (sQ a), .string (sQ b), .string (sQ p)] 26 (0, 0))
  have a2 := CB.new (w.alloc (.cells #[.string (sQ a), .string (sQ b), .string (sQ p)] 26 (0, 0))) #[.string (sQ c), .string (sQ d), .string (sQ q)] 26
  have b2 := b1.alloc b1.size (.cells #[.string (sQ c), .string (sQ d), .string (sQ q)] 26 (0, 0))
  simp only [size_alloc] at a2
  refine ⟨b2, fun W hW => ?_⟩
  have e1 := a1.below hW a1.lt
  have e2 := a2.below hW a2.lt
  exact ⟨⟨e1.c 0, e1.c 1, e1.c 2, e2.c 0, e2.c 1, e2.c 2⟩, hW, b2.trans (hW.mono b2.size)⟩

set_option maxRecDepth 100000 in
set_option maxHeartbeats 2000000 in
theorem dpart_any (s : Nat) (a b p c d q k : Rat) (w : World) (h0 : OK0 w s) (hf : FitFar a b c d) (ha : FitAdd p q) (hs : FitSub (farQ a b c d) (p + q)) (hm : FitMul p q) (hr : RootFit (farQ a b c d - (p + q)) k (p * q)) (hpq : 0 ≤ (p * q).num) (he : Env w) :
    Calls Tryz.prog 41 #[.pointer (some ⟨s, 0, none⟩), dcV a b p, dcV c d q, .string (sQ k)] w fun e w' => e = .returned (.int .i64 (rootR (farQ a b c d - (p + q)) k (p * q))) ∧ Below w.heap.size w w' := by
  have KE := Lib.hid (show ∀ W, Below w.heap.size w W → Env W from fun W hW => he.below hW)
  have KO := Lib.hid (show ∀ W, Below w.heap.size w W → OK0 W s from fun W hW => h0.below hW)
  have h2 := two_discs w a b p c d q _ rfl
  have HB := Lib.hid h2.1
  have KS := Lib.hid h2.2
  clear h2
  clear he h0
  go_enter Tryz.func41, Tryz.ntmps41
  go_wp2_with fail
  generalize (w.alloc (.cells #[.string (sQ a), .string (sQ b), .string (sQ p)] 26 (0, 0))).alloc (.cells #[.string (sQ c), .string (sQ d), .string (sQ q)] 26 (0, 0)) = W0 at *
  go_region_held3 (fun W => (W.cell? ⟨w.heap.size, 0, none⟩ = some (.string (sQ a)) ∧ W.cell? ⟨w.heap.size, 1, none⟩ = some (.string (sQ b)) ∧ W.cell? ⟨w.heap.size, 2, none⟩ = some (.string (sQ p)) ∧ W.cell? ⟨w.heap.size + 1, 0, none⟩ = some (.string (sQ c)) ∧ W.cell? ⟨w.heap.size + 1, 1, none⟩ = some (.string (sQ d)) ∧ W.cell? ⟨w.heap.size + 1, 2, none⟩ = some (.string (sQ q))) ∧ (Below W0.heap.size W0 W ∧ Below w.heap.size w W))
    ((refine KS.out _ ?_; first | exact (Below.refl _ _).drew | assumption))
    (first | (go_at_call 51; have hh := ‹(_ ∧ _) ∧ (_ ∧ Below w.heap.size w _)›; with_reducible refine (hf.calls s _ (KO.out _ hh.2.2) (KE.out _ hh.2.2)).mono ?_; rintro e w1 ⟨rfl, hb1⟩; have hb2 := hh.2.1.trans (hb1.mono hh.2.1.size)) | (go_at_call 64; have hh := ‹(_ ∧ _) ∧ (_ ∧ Below w.heap.size w _)›; with_reducible refine (dadd_any s p q _ (KO.out _ hh.2.2) ha (KE.out _ hh.2.2)).mono ?_; rintro e w1 ⟨rfl, hb1⟩; have hb2 := hh.2.1.trans (hb1.mono hh.2.1.size)) | (go_at_call 63; have hh := ‹(_ ∧ _) ∧ (_ ∧ Below w.heap.size w _)›; with_reducible refine (dsub_any s (farQ a b c d) (p + q) _ (KO.out _ hh.2.2) hs (KE.out _ hh.2.2)).mono ?_; rintro e w1 ⟨rfl, hb1⟩; have hb2 := hh.2.1.trans (hb1.mono hh.2.1.size)))
  have hh := KS.out _ hb2
  obtain ⟨⟨q1, q2, q3, q4, q5, q6⟩, _, hb3⟩ := hh
  go_wp2_with fail
  with_reducible refine (dmul_any s p q _ (KO.out _ hb3) hm (KE.out _ hb3)).mono ?_
  rintro e w5 ⟨rfl, hb5⟩
  have hb6 := hb3.trans (hb5.mono hb3.size)
  go_wp2_with fail
  with_reducible refine (droot_any s (farQ a b c d - (p + q)) k (p * q) _ (KO.out _ hb6) hr hpq (KE.out _ hb6)).mono ?_
  rintro e w7 ⟨rfl, hb7⟩
  go_wp2_with fail
  go_ret
  exact ⟨rfl, hb6.trans (hb7.mono hb6.size)⟩
end Go.Proofs.YtbdckemkmocdlaaGreatDoor

/- package discs: sums.within, Relate. -/
namespace Go.Proofs.YtbdckemkmocdlaaGreatDoor
open Go.RowKit

attribute [local irreducible] sI sQ

theorem sQ_two : (⟨#[50]⟩ : ByteArray) = sQ 2 := sQ_of (by
  rw [ratT_one (by rfl), show (2 : Rat).num = 2 from rfl, ← sI_list, ← sI_two])
theorem sQ_mtwo : (⟨#[45, 50]⟩ : ByteArray) = sQ (-2) := sQ_of (by
  rw [ratT_one (by rfl), show (-2 : Rat).num = -2 from rfl, itoa_neg (by omega), show (-2 : Int).natAbs = 2 from rfl, Lib.decDigits_one (by omega)]; rfl)

/-- what the comparison of two discs asks of the lengths -/
structure FitPair (a b p c d q : Rat) : Prop where
  far : FitFar a b c d
  add : FitAdd p q
  sub : FitSub (farQ a b c d) (p + q)
  mul : FitMul p q
  r2 : RootFit (farQ a b c d - (p + q)) 2 (p * q)
  rm2 : RootFit (farQ a b c d - (p + q)) (-2) (p * q)
  pq : 0 ≤ (p * q).num
  ord : FitSub p q
  ord0 : RootFit (p - q) 0 0

theorem FitPair.part (s : Nat) {a b p c d q : Rat} (w : World) (h0 : OK0 w s) (hf : FitPair a b p c d q) (he : Env w) :
    Calls Tryz.prog 41 #[.pointer (some ⟨s, 0, none⟩), dcV a b p, dcV c d q, .string (sQ 2)] w fun e w' => e = .returned (.int .i64 (rootR (farQ a b c d - (p + q)) 2 (p * q))) ∧ Below w.heap.size w w' :=
  dpart_any s a b p c d q 2 w h0 hf.far hf.add hf.sub hf.mul hf.r2 hf.pq he
theorem FitPair.part' (s : Nat) {a b p c d q : Rat} (w : World) (h0 : OK0 w s) (hf : FitPair a b p c d q) (he : Env w) :
    Calls Tryz.prog 41 #[.pointer (some ⟨s, 0, none⟩), dcV a b p, dcV c d q, .string (sQ (-2))] w fun e w' => e = .returned (.int .i64 (rootR (farQ a b c d - (p + q)) (-2) (p * q))) ∧ Below w.heap.size w w' :=
  dpart_any s a b p c d q (-2) w h0 hf.far hf.add hf.sub hf.mul hf.rm2 hf.pq he

/-- whether a disc is in another one -/
def withinQ (a b p c d q : Rat) : Bool := decide (sgnQ (p - q) ≤ 0) && decide (rootR (farQ a b c d - (p + q)) 2 (p * q) ≤ 0)
theorem ret_bool {a b : Bool} (h : a = b) : Ending.returned (.bool a) = .returned (.bool b) := by rw [h]

set_option maxRecDepth 100000 in
set_option maxHeartbeats 2000000 in
theorem dwithin_any (s : Nat) (a b p c d q : Rat) (w : World) (h0 : OK0 w s) (hf : FitPair a b p c d q) (he : Env w) :
    Calls Tryz.prog 40 #[.pointer (some ⟨s, 0, none⟩), dcV a b p, dcV c d q] w fun e w' => e = .returned (.bool (withinQ a b p c d q)) ∧ Below w.heap.size w w' := by
  have KE := Lib.hid (show ∀ W, Below w.heap.size w W → Env W from fun W hW => he.below hW)
  have KO := Lib.hid (show ∀ W, Below w.heap.size w W → OK0 W s from fun W hW => h0.below hW)
  have h2 := two_discs w a b p c d q _ rfl
  have HB := Lib.hid h2.1
  have KS := Lib.hid h2.2
  have HW := Lib.hid (show withinQ a b p c d q = (decide (sgnQ (p - q) ≤ 0) && decide (rootR (farQ a b c d - (p + q)) 2 (p * q) ≤ 0)) from rfl)
  clear h2 he h0
  go_enter Tryz.func40, Tryz.ntmps40
  go_wp2_with fail
  generalize (w.alloc (.cells #[.string (sQ a), .string (sQ b), .string (sQ p)] 26 (0, 0))).alloc (.cells #[.string (sQ c), .string (sQ d), .string (sQ q)] 26 (0, 0)) = W0 at *
  with_reducible refine (dorder_any s p q _ (KO.out _ HB.out) hf.ord hf.ord0 (KE.out _ HB.out)).mono ?_
  rintro e w1 ⟨rfl, hb1⟩
  obtain ⟨⟨q1, q2, q3, q4, q5, q6⟩, _, hb3⟩ := KS.out _ hb1
  by_cases ho : sgnQ (p - q) ≤ 0
  · have HV := Lib.hid (show withinQ a b p c d q = decide (rootR (farQ a b c d - (p + q)) 2 (p * q) ≤ 0) by rw [HW.out, decide_eq_true ho]; rfl)
    go_wp2_with fail
    rw [sQ_two]
    with_reducible refine (FitPair.part s _ (KO.out _ hb3) hf (KE.out _ hb3)).mono ?_
    rintro e w5 ⟨rfl, hb5⟩
    go_wp2_with fail
    go_ret
    exact ⟨ret_bool HV.out.symm, hb3.trans (hb5.mono hb3.size)⟩
  · have HV := Lib.hid (show withinQ a b p c d q = false by rw [HW.out, decide_eq_false ho]; rfl)
    go_wp2_with fail
    go_ret
    exact ⟨ret_bool HV.out.symm, hb3⟩
end Go.Proofs.YtbdckemkmocdlaaGreatDoor

/- package discs: Check. -/
namespace Go.Proofs.YtbdckemkmocdlaaGreatDoor
open Go.RowKit

attribute [local irreducible] sI sQ

theorem chkR_cases (l : List UInt8) : (canR l ∧ chkR l = 0) ∨ (¬ canR l ∧ chkR l = 3) := by
  unfold chkR; by_cases h : canR l
  · exact .inl ⟨h, if_pos h⟩
  · exact .inr ⟨h, if_neg h⟩

/-- the number of the error of a disc -/
noncomputable def chkD (x y q : List UInt8) : Int :=
  if chkR x ≠ 0 then chkR x else if chkR y ≠ 0 then chkR y else if chkR q ≠ 0 then chkR q else if q.head? = some 45 then 2 else 0

/-- one of three texts -/
def nth3 (x y q : ByteArray) (k : Nat) : ByteArray := if k = 0 then x else if k = 1 then y else q

set_option maxRecDepth 100000 in
set_option maxHeartbeats 2000000 in
theorem dcheck_any (x y q : ByteArray) (w : World) (hx : x.size ≤ 1000) (hy : y.size ≤ 1000) (hq : q.size ≤ 1000) (he : Env w) :
    Calls Tryz.prog 14 #[.agg #[.string x, .string y, .string q]] w fun e w' => e = .returned (.int .i64 (chkD x.data.toList y.data.toList q.data.toList)) ∧ Below w.heap.size w w' := by
  have KE := Lib.hid (show ∀ W, Below w.heap.size w W → Env W from fun W hW => he.below hW)
  have a1 := (CB.new w #[.string x, .string y, .string q] 26).alloc (.cells #[.string x, .string y, .string q] 22 (0, 0))
  have b1 := (Below.refl w.heap.size w).alloc (Nat.le_refl _) (.cells #[.string x, .string y, .string q] 26 (0, 0))
  have a2 := CB.new (w.alloc (.cells #[.string x, .string y, .string q] 26 (0, 0))) #[.string x, .string y, .string q] 22
  have b2 := b1.alloc b1.size (.cells #[.string x, .string y, .string q] 22 (0, 0))
  simp only [size_alloc] at a2
  have HB := Lib.hid b2
  have H1 := Lib.hid a1
  have H2 := Lib.hid a2
  clear a1 a2 b1 b2 he
  go_enter Tryz.func14, Tryz.ntmps14
  go_wp2_with fail
  generalize (w.alloc (.cells #[.string x, .string y, .string q] 26 (0, 0))).alloc (.cells #[.string x, .string y, .string q] 22 (0, 0)) = W0 at *
  go_loopw [16] (fun i wr => ∃ k : Nat, i = .int .i64 k ∧ k ≤ 3 ∧ (∀ j, j < k → chkR (nth3 x y q j).data.toList = 0) ∧ Below W0.heap.size W0 wr) (fun i _ => 3 - (intOf i).toNat)
  case atStart => exact ⟨0, rfl, by omega, fun j h => by omega, Below.refl _ _⟩
  case round =>
    obtain ⟨k, rfl, hk, hall, hb⟩ := hrel
    have HA := Lib.hid hall
    clear hall
    by_cases hlt : k < 3
    · have e2 := H2.out.below hb H2.out.lt
      have hc : wr.cell? ⟨w.heap.size + 1, k, none⟩ = some (.string (nth3 x y q k)) := by
        rw [e2.c]
        rcases (show k = 0 ∨ k = 1 ∨ k = 2 by omega) with rfl | rfl | rfl <;> rfl
      have hs : (nth3 x y q k).size ≤ 1000 := by unfold nth3; split; exact hx; split; exact hy; exact hq
      have HN := Lib.hid (show chkR (nth3 x y q k).data.toList ≠ 0 → chkD x.data.toList y.data.toList q.data.toList = chkR (nth3 x y q k).data.toList from by
        intro hne
        have ha := HA.out
        unfold chkD
        rcases (show k = 0 ∨ k = 1 ∨ k = 2 by omega) with rfl | rfl | rfl
        · exact if_pos hne
        · have h0 := ha 0 (by omega)
          rw [if_neg (by rw [show x = nth3 x y q 0 from rfl, h0]; simp)]; exact if_pos hne
        · have h0 := ha 0 (by omega)
          have h1 := ha 1 (by omega)
          rw [if_neg (by rw [show x = nth3 x y q 0 from rfl, h0]; simp), if_neg (by rw [show y = nth3 x y q 1 from rfl, h1]; simp)]; exact if_pos hne)
      have hb2 := HB.out.trans (hb.mono HB.out.size)
      have HM := Lib.hid (show chkR (nth3 x y q k).data.toList = 0 → ∀ j, j < k + 1 → chkR (nth3 x y q j).data.toList = 0 from by
        intro h j hj
        by_cases e : j = k
        · subst e; exact h
        · exact HA.out j (by omega))
      generalize hu : nth3 x y q k = u at hc hs HN HM
      clear hu
      go_wp2_with fail
      with_reducible refine (check_short u _ hs (KE.out _ hb2)).mono ?_
      rintro e w1 ⟨rfl, hb1⟩
      rcases chkR_cases u.data.toList with ⟨_, h0⟩ | ⟨_, h0⟩
      · rw [h0]
        have HZ := Lib.hid h0
        clear h0
        go_wp2_with fail
        exact ⟨⟨k + 1, by simp, by omega, HM.out HZ.out, hb.trans (hb1.mono hb.size)⟩, by simp [intOf]; omega⟩
      · rw [h0]
        have HZ := Lib.hid h0
        clear h0
        go_wp2_with fail
        go_ret
        exact ⟨ret_int (by rw [HN.out (by rw [HZ.out]; omega), HZ.out]), hb2.trans (hb1.mono hb2.size)⟩
    · have h0 := HA.out 0 (by omega)
      have h1 := HA.out 1 (by omega)
      have h2 := HA.out 2 (by omega)
      rw [show nth3 x y q 0 = x from rfl] at h0
      rw [show nth3 x y q 1 = y from rfl] at h1
      rw [show nth3 x y q 2 = q from rfl] at h2
      obtain ⟨z, hz⟩ : canR q.data.toList := by
        rcases chkR_cases q.data.toList with ⟨h, _⟩ | ⟨_, h⟩
        · exact h
        · rw [h2] at h; omega
      have hq' := sQ_of hz
      have hp : 0 < q.size := by rw [hq']; exact sQ_pos z
      have hh := head_ba q hp 45
      have HV := Lib.hid (show chkD x.data.toList y.data.toList q.data.toList = if q.data.toList.head? = some 45 then 2 else 0 by
        unfold chkD; rw [h0, h1, h2]; simp)
      have e1 := (H1.out.below hb H1.out.lt).c 2
      have hb2 := HB.out.trans (hb.mono HB.out.size)
      simp at e1
      clear h0 h1 h2 hz hq' HA
      by_cases hm : q.data.toList.head? = some 45
      · have t := hh.1 hm
        have HR := Lib.hid (show chkD x.data.toList y.data.toList q.data.toList = 2 by rw [HV.out, if_pos hm])
        clear hh hm
        go_wp2_with fail
        go_ret
        exact ⟨ret_int HR.out.symm, hb2⟩
      · have t : ((q[0].toNat : Int) == 45) = false := by simpa using fun e => hm (hh.2 e)
        have HR := Lib.hid (show chkD x.data.toList y.data.toList q.data.toList = 0 by rw [HV.out, if_neg hm])
        clear hh hm
        go_wp2_with fail
        go_ret
        exact ⟨ret_int HR.out.symm, hb2⟩
end Go.Proofs.YtbdckemkmocdlaaGreatDoor

/- package discs: Relate. -/
namespace Go.Proofs.YtbdckemkmocdlaaGreatDoor
open Go.RowKit

attribute [local irreducible] sI sQ

/-- a disc of texts -/
abbrev dtV (x y q : ByteArray) : Value := .agg #[.string x, .string y, .string q]

/-- how two discs are related -/
def kindQ (a b p c d q : Rat) : Int :=
  if withinQ a b p c d q then 2 else if withinQ c d q a b p then 3 else -rootR (farQ a b c d - (p + q)) (-2) (p * q)

theorem chkD_ok {x y q : Rat} (h : 0 ≤ q.num) : chkD (sQ x).data.toList (sQ y).data.toList (sQ q).data.toList = 0 := by
  have hr : ∀ z : Rat, chkR (sQ z).data.toList = 0 := fun z => by unfold chkR; rw [if_pos ⟨z, sQ_list z⟩]
  unfold chkD
  rw [hr, hr, hr]
  have h1 := head_ba (sQ q) (sQ_pos q) 45
  have h2 := sQ_head q
  rw [if_neg (by simp), if_neg (by simp), if_neg (by simp), if_neg]
  intro hc
  have := h2.1 (h1.1 hc); omega

theorem three_blocks (w : World) (x y q x' y' q' : ByteArray) : Below w.heap.size w (((w.alloc (.cells #[.string x, .string y, .string q] 26 (0, 0))).alloc (.cells #[.string x', .string y', .string q'] 26 (0, 0))).alloc (.cells #[.string x, .string y, .string q, .string x', .string y', .string q'] 26 (0, 0))) ∧ CB (((w.alloc (.cells #[.string x, .string y, .string q] 26 (0, 0))).alloc (.cells #[.string x', .string y', .string q'] 26 (0, 0))).alloc (.cells #[.string x, .string y, .string q, .string x', .string y', .string q'] 26 (0, 0))) w.heap.size #[.string x, .string y, .string q] 26 ∧
    CB (((w.alloc (.cells #[.string x, .string y, .string q] 26 (0, 0))).alloc (.cells #[.string x', .string y', .string q'] 26 (0, 0))).alloc (.cells #[.string x, .string y, .string q, .string x', .string y', .string q'] 26 (0, 0))) (w.heap.size + 1) #[.string x', .string y', .string q'] 26 ∧ CB (((w.alloc (.cells #[.string x, .string y, .string q] 26 (0, 0))).alloc (.cells #[.string x', .string y', .string q'] 26 (0, 0))).alloc (.cells #[.string x, .string y, .string q, .string x', .string y', .string q'] 26 (0, 0))) (w.heap.size + 1 + 1) #[.string x, .string y, .string q, .string x', .string y', .string q'] 26 := by
  have a1 := ((CB.new w #[.string x, .string y, .string q] 26).alloc (.cells #[.string x', .string y', .string q'] 26 (0, 0))).alloc (.cells #[.string x, .string y, .string q, .string x', .string y', .string q'] 26 (0, 0))
  have b1 := (Below.refl w.heap.size w).alloc (Nat.le_refl _) (.cells #[.string x, .string y, .string q] 26 (0, 0))
  have a2 := (CB.new (w.alloc (.cells #[.string x, .string y, .string q] 26 (0, 0))) #[.string x', .string y', .string q'] 26).alloc (.cells #[.string x, .string y, .string q, .string x', .string y', .string q'] 26 (0, 0))
  have b2 := b1.alloc b1.size (.cells #[.string x', .string y', .string q'] 26 (0, 0))
  have a3 := CB.new ((w.alloc (.cells #[.string x, .string y, .string q] 26 (0, 0))).alloc (.cells #[.string x', .string y', .string q'] 26 (0, 0))) #[.string x, .string y, .string q, .string x', .string y', .string q'] 26
  have b3 := b2.alloc b2.size (.cells #[.string x, .string y, .string q, .string x', .string y', .string q'] 26 (0, 0))
  simp only [size_alloc] at a2 a3
  exact ⟨b3, a1, a2, a3⟩

set_option maxRecDepth 100000 in
set_option maxHeartbeats 2000000 in
theorem drelate_err (x y q x' y' q' : ByteArray) (w : World) (hx : x.size ≤ 1000) (hy : y.size ≤ 1000) (hq : q.size ≤ 1000) (hx' : x'.size ≤ 1000) (hy' : y'.size ≤ 1000) (hq' : q'.size ≤ 1000) (he : Env w)
    (n : Int) (hn0 : n ≠ 0) (hn : chkD x.data.toList y.data.toList q.data.toList = n ∨ (chkD x.data.toList y.data.toList q.data.toList = 0 ∧ chkD x'.data.toList y'.data.toList q'.data.toList = n)) :
    Calls Tryz.prog 12 #[dtV x y q, dtV x' y' q'] w fun e w' => e = .returned (.tuple #[.int .i64 0, .int .i64 n]) ∧ Below w.heap.size w w' := by
  have KE := Lib.hid (show ∀ W, Below w.heap.size w W → Env W from fun W hW => he.below hW)
  obtain ⟨b, a1, a2, a3⟩ := three_blocks w x y q x' y' q'
  have HB := Lib.hid b
  have H3 := Lib.hid a3
  clear b a1 a2 a3 he
  have t0 : (n == 0) = false := by simpa using hn0
  have HN := Lib.hid hn
  clear hn
  go_enter Tryz.func12, Tryz.ntmps12
  go_wp2_with fail
  generalize ((w.alloc (.cells #[.string x, .string y, .string q] 26 (0, 0))).alloc (.cells #[.string x', .string y', .string q'] 26 (0, 0))).alloc (.cells #[.string x, .string y, .string q, .string x', .string y', .string q'] 26 (0, 0)) = W0 at *
  go_loopw [15] (fun i wr => ∃ k : Nat, i = .int .i64 k ∧ (k = 0 ∨ (k = 1 ∧ chkD x.data.toList y.data.toList q.data.toList = 0)) ∧ Below W0.heap.size W0 wr) (fun i _ => 3 - (intOf i).toNat)
  case atStart => exact ⟨0, rfl, .inl rfl, Below.refl _ _⟩
  case round =>
    obtain ⟨k, rfl, hk, hb⟩ := hrel
    have e3 := H3.out.below hb H3.out.lt
    have hb2 := HB.out.trans (hb.mono HB.out.size)
    have c0 := e3.c 0
    have c1 := e3.c 1
    have c2 := e3.c 2
    have c3 := e3.c 3
    have c4 := e3.c 4
    have c5 := e3.c 5
    simp at c0 c1 c2 c3 c4 c5
    clear e3
    rcases hk with rfl | ⟨rfl, hk⟩
    · have hb4 := hb2.alloc hb2.size (.cells #[.string x, .string y, .string q] 26 (0, 0))
      have hb5 := hb.alloc hb.size (.cells #[.string x, .string y, .string q] 26 (0, 0))
      go_wp2_with fail
      generalize wr.alloc (.cells #[.string x, .string y, .string q] 26 (0, 0)) = w4 at *
      with_reducible refine (dcheck_any x y q _ hx hy hq (KE.out _ hb4)).mono ?_
      rintro e w5 ⟨rfl, hb6⟩
      rcases HN.out with h | ⟨h, h'⟩
      · rw [h]
        clear h
        go_wp2_with fail
        go_ret2
        exact ⟨rfl, hb4.trans (hb6.mono hb4.size)⟩
      · rw [h]
        have HZ := Lib.hid h
        clear h h'
        go_wp2_with fail
        exact ⟨⟨1, rfl, .inr ⟨rfl, HZ.out⟩, hb5.trans (hb6.mono hb5.size)⟩, by simp [intOf]⟩
    · have hb4 := hb2.alloc hb2.size (.cells #[.string x', .string y', .string q'] 26 (0, 0))
      have HZ := Lib.hid hk
      clear hk
      go_wp2_with fail
      generalize wr.alloc (.cells #[.string x', .string y', .string q'] 26 (0, 0)) = w4 at *
      with_reducible refine (dcheck_any x' y' q' _ hx' hy' hq' (KE.out _ hb4)).mono ?_
      rintro e w5 ⟨rfl, hb6⟩
      have h : chkD x'.data.toList y'.data.toList q'.data.toList = n := by
        rcases HN.out with h | ⟨h, h'⟩
        · exact absurd (h.symm.trans HZ.out) hn0
        · exact h'
      rw [h]
      clear h
      go_wp2_with fail
      go_ret2
      exact ⟨rfl, hb4.trans (hb6.mono hb4.size)⟩
end Go.Proofs.YtbdckemkmocdlaaGreatDoor

/- package discs: Relate, of right discs. -/
namespace Go.Proofs.YtbdckemkmocdlaaGreatDoor
open Go.RowKit

attribute [local irreducible] sI sQ

theorem ok0_newd (w : World) : OK0 (w.alloc (.cells #[.int .i64 0] 73 (0, 0))) w.heap.size := by
  have h := heap_alloc_new w (.cells #[.int .i64 0] 73 (0, 0))
  refine ⟨?_, ?_, by simp⟩
  · rw [cell_of_row _ _ _ _ _ _ h]; rfl
  · simp only [World.frozen?]; rw [h]; rfl

theorem rootI_le (a b c : Int) : -1 ≤ rootI a b c ∧ rootI a b c ≤ 1 := by
  unfold rootI
  have h1 := sgn_le a
  have h2 := sgn_mul_le b c
  have h3 := unit_mul (sgn_le a) (sgn_le (a * a - b * b * c))
  split
  · split
    · exact h2
    · exact h1
  · exact h3
theorem rootR_le (a b c : Rat) : -1 ≤ rootR a b c ∧ rootR a b c ≤ 1 := rootI_le _ _ _


set_option maxRecDepth 100000 in
set_option maxHeartbeats 4000000 in
theorem drelate_ok (a b p c d q : Rat) (w : World) (hs : (sQ a).size ≤ 1000 ∧ (sQ b).size ≤ 1000 ∧ (sQ p).size ≤ 1000 ∧ (sQ c).size ≤ 1000 ∧ (sQ d).size ≤ 1000 ∧ (sQ q).size ≤ 1000) (hp : 0 ≤ p.num) (hq : 0 ≤ q.num)
    (f1 : FitPair a b p c d q) (f2 : FitPair c d q a b p) (he : Env w) :
    Calls Tryz.prog 12 #[dcV a b p, dcV c d q] w fun e w' => e = .returned (.tuple #[.int .i64 (kindQ a b p c d q), .int .i64 0]) ∧ Below w.heap.size w w' := by
  have KE := Lib.hid (show ∀ W, Below w.heap.size w W → Env W from fun W hW => he.below hW)
  obtain ⟨s1, s2, s3, s4, s5, s6⟩ := hs
  obtain ⟨b0, a1, a2, a3⟩ := three_blocks w (sQ a) (sQ b) (sQ p) (sQ c) (sQ d) (sQ q)
  have HB := Lib.hid b0
  have H1 := Lib.hid a1
  have H2 := Lib.hid a2
  have H3 := Lib.hid a3
  have E1 := Lib.hid (chkD_ok (x := a) (y := b) hp)
  have E2 := Lib.hid (chkD_ok (x := c) (y := d) hq)
  have HKD := Lib.hid (show kindQ a b p c d q = if withinQ a b p c d q then 2 else if withinQ c d q a b p then 3 else -rootR (farQ a b c d - (p + q)) (-2) (p * q) from rfl)
  have hrl := rootR_le (farQ a b c d - (p + q)) (-2) (p * q)
  clear b0 a1 a2 a3 he
  go_enter Tryz.func12, Tryz.ntmps12
  go_wp2_with fail
  generalize ((w.alloc (.cells #[.string (sQ a), .string (sQ b), .string (sQ p)] 26 (0, 0))).alloc (.cells #[.string (sQ c), .string (sQ d), .string (sQ q)] 26 (0, 0))).alloc (.cells #[.string (sQ a), .string (sQ b), .string (sQ p), .string (sQ c), .string (sQ d), .string (sQ q)] 26 (0, 0)) = W0 at *
  go_loopw [15] (fun i wr => ∃ k : Nat, i = .int .i64 k ∧ k ≤ 2 ∧ Below W0.heap.size W0 wr) (fun i _ => 3 - (intOf i).toNat)
  case atStart => exact ⟨0, rfl, by omega, Below.refl _ _⟩
  case round =>
    obtain ⟨k, rfl, hk, hb⟩ := hrel
    have e3 := H3.out.below hb H3.out.lt
    have hb2 := HB.out.trans (hb.mono HB.out.size)
    have c0 := e3.c 0
    have c1 := e3.c 1
    have c2 := e3.c 2
    have c3 := e3.c 3
    have c4 := e3.c 4
    have c5 := e3.c 5
    simp at c0 c1 c2 c3 c4 c5
    clear e3
    rcases (show k = 0 ∨ k = 1 ∨ k = 2 by omega) with rfl | rfl | rfl
    · have hb4 := hb2.alloc hb2.size (.cells #[.string (sQ a), .string (sQ b), .string (sQ p)] 26 (0, 0))
      have hb5 := hb.alloc hb.size (.cells #[.string (sQ a), .string (sQ b), .string (sQ p)] 26 (0, 0))
      go_wp2_with fail
      generalize wr.alloc (.cells #[.string (sQ a), .string (sQ b), .string (sQ p)] 26 (0, 0)) = w4 at *
      with_reducible refine (dcheck_any _ _ _ _ s1 s2 s3 (KE.out _ hb4)).mono ?_
      rintro e w5 ⟨rfl, hb6⟩
      rw [E1.out]
      go_wp2_with fail
      exact ⟨⟨1, rfl, by omega, hb5.trans (hb6.mono hb5.size)⟩, by simp [intOf]⟩
    · have hb4 := hb2.alloc hb2.size (.cells #[.string (sQ c), .string (sQ d), .string (sQ q)] 26 (0, 0))
      have hb5 := hb.alloc hb.size (.cells #[.string (sQ c), .string (sQ d), .string (sQ q)] 26 (0, 0))
      go_wp2_with fail
      generalize wr.alloc (.cells #[.string (sQ c), .string (sQ d), .string (sQ q)] 26 (0, 0)) = w4 at *
      with_reducible refine (dcheck_any _ _ _ _ s4 s5 s6 (KE.out _ hb4)).mono ?_
      rintro e w5 ⟨rfl, hb6⟩
      rw [E2.out]
      go_wp2_with fail
      exact ⟨⟨2, rfl, by omega, hb5.trans (hb6.mono hb5.size)⟩, by simp [intOf]⟩
    · clear c0 c1 c2 c3 c4 c5
      have hk0 := ok0_newd wr
      have hb4 := hb2.alloc hb2.size (.cells #[.int .i64 0] 73 (0, 0))
      have hb5 := hb.alloc hb.size (.cells #[.int .i64 0] 73 (0, 0))
      have e1 := H1.out.below hb5 H1.out.lt
      have e2 := H2.out.below hb5 H2.out.lt
      have c0 := e1.c 0
      have c1 := e1.c 1
      have c2 := e1.c 2
      have c3 := e2.c 0
      have c4 := e2.c 1
      have c5 := e2.c 2
      simp at c0 c1 c2 c3 c4 c5
      have HC := Lib.hid (show ∀ W, Below (wr.alloc (.cells #[.int .i64 0] 73 (0, 0))).heap.size (wr.alloc (.cells #[.int .i64 0] 73 (0, 0))) W →
          (W.cell? ⟨w.heap.size, 0, none⟩ = some (.string (sQ a)) ∧ W.cell? ⟨w.heap.size, 1, none⟩ = some (.string (sQ b)) ∧ W.cell? ⟨w.heap.size, 2, none⟩ = some (.string (sQ p)) ∧ W.cell? ⟨w.heap.size + 1, 0, none⟩ = some (.string (sQ c)) ∧ W.cell? ⟨w.heap.size + 1, 1, none⟩ = some (.string (sQ d)) ∧ W.cell? ⟨w.heap.size + 1, 2, none⟩ = some (.string (sQ q))) ∧ OK0 W wr.heap.size ∧ Below w.heap.size w W from fun W hW => by
        have x1 := e1.below hW e1.lt
        have x2 := e2.below hW e2.lt
        exact ⟨⟨x1.c 0, x1.c 1, x1.c 2, x2.c 0, x2.c 1, x2.c 2⟩, hk0.below hW, hb4.trans (hW.mono hb4.size)⟩)
      clear e1 e2 hb hb2 hb5
      go_wp2_with fail
      generalize wr.alloc (.cells #[.int .i64 0] 73 (0, 0)) = w4 at *
      generalize wr.heap.size = s at *
      with_reducible refine (dwithin_any s a b p c d q _ hk0 f1 (KE.out _ hb4)).mono ?_
      rintro e w5 ⟨rfl, hb6⟩
      obtain ⟨⟨x0, x1, x2, x3, x4, x5⟩, ⟨k1, k2, _⟩, hb7⟩ := HC.out _ hb6
      have hk1 := hk0.below hb6
      clear c0 c1 c2 c3 c4 c5
      cases hw1 : withinQ a b p c d q with
      | true =>
        have HR := Lib.hid (show kindQ a b p c d q = 2 by rw [HKD.out, hw1]; rfl)
        clear hw1
        go_wp2_with fail
        go_ret2
        exact ⟨ret_pi HR.out.symm, hb7⟩
      | false =>
        have HR := Lib.hid (show kindQ a b p c d q = if withinQ c d q a b p then 3 else -rootR (farQ a b c d - (p + q)) (-2) (p * q) by rw [HKD.out, hw1]; rfl)
        clear hw1
        go_wp2_with fail
        with_reducible refine (dwithin_any s c d q a b p _ hk1 f2 (KE.out _ hb7)).mono ?_
        rintro e w8 ⟨rfl, hb8⟩
        have hb9 := hb6.trans (hb8.mono hb6.size)
        clear x0 x1 x2 x3 x4 x5 k1 k2
        obtain ⟨⟨x0, x1, x2, x3, x4, x5⟩, ⟨k1, k2, _⟩, hb10⟩ := HC.out _ hb9
        have hk2 := hk0.below hb9
        cases hw2 : withinQ c d q a b p with
        | true =>
          have HR2 := Lib.hid (show kindQ a b p c d q = 3 by rw [HR.out, hw2]; rfl)
          clear hw2
          go_wp2_with fail
          go_ret2
          exact ⟨ret_pi HR2.out.symm, hb10⟩
        | false =>
          have HR2 := Lib.hid (show kindQ a b p c d q = -rootR (farQ a b c d - (p + q)) (-2) (p * q) by rw [HR.out, hw2]; rfl)
          clear hw2
          go_wp2_with fail
          rw [sQ_mtwo]
          with_reducible refine (FitPair.part' s _ hk2 f1 (KE.out _ hb10)).mono ?_
          rintro e w11 ⟨rfl, hb11⟩
          have hb12 := hb9.trans (hb11.mono hb9.size)
          clear x0 x1 x2 x3 x4 x5 k1 k2
          obtain ⟨_, ⟨k1, k2, _⟩, hb13⟩ := HC.out _ hb12
          generalize rootR (farQ a b c d - (p + q)) (-2) (p * q) = r at *
          go_wp2_with fail
          go_ret2
          exact ⟨ret_pi HR2.out.symm, hb13⟩
end Go.Proofs.YtbdckemkmocdlaaGreatDoor

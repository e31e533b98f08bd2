/- package discs: sums.keeps. -/
import Derived.Test.YtbdckemkmocdlaaGreatDoorZ25
import Derived.Deep.RegionHeld3
set_option linter.unusedVariables false
set_option linter.unusedSimpArgs false
namespace Go.Proofs.YtbdckemkmocdlaaGreatDoor
open Go.RowKit

attribute [local irreducible] sI sQ

/-- the numbers that tell whether a place is in a disc -/
def kA (d : QD) (p : Spt) : Rat := ((p.fx - d.x) * (p.fx - d.x) + (p.fy - d.y) * (p.fy - d.y)) + p.h * (p.ux * p.ux + p.uy * p.uy) - d.q
def kB (d : QD) (p : Spt) : Rat := 2 * ((p.fx - d.x) * p.ux + (p.fy - d.y) * p.uy)
def keepsQ (d : QD) (p : Spt) : Bool := decide (rootR (kA d p) (kB d p) p.h ≤ 0)

structure FitKeep (d : QD) (p : Spt) : Prop where
  s1 : FitSub p.fx d.x
  s2 : FitSub p.fy d.y
  m1 : FitMul (p.fx - d.x) (p.fx - d.x)
  m2 : FitMul (p.fy - d.y) (p.fy - d.y)
  a1 : FitAdd ((p.fx - d.x) * (p.fx - d.x)) ((p.fy - d.y) * (p.fy - d.y))
  m3 : FitMul p.ux p.ux
  m4 : FitMul p.uy p.uy
  a2 : FitAdd (p.ux * p.ux) (p.uy * p.uy)
  m5 : FitMul p.h (p.ux * p.ux + p.uy * p.uy)
  a3 : FitAdd ((p.fx - d.x) * (p.fx - d.x) + (p.fy - d.y) * (p.fy - d.y)) (p.h * (p.ux * p.ux + p.uy * p.uy))
  s3 : FitSub ((p.fx - d.x) * (p.fx - d.x) + (p.fy - d.y) * (p.fy - d.y) + p.h * (p.ux * p.ux + p.uy * p.uy)) d.q
  m6 : FitMul (p.fx - d.x) p.ux
  m7 : FitMul (p.fy - d.y) p.uy
  a4 : FitAdd ((p.fx - d.x) * p.ux) ((p.fy - d.y) * p.uy)
  m8 : FitMul 2 ((p.fx - d.x) * p.ux + (p.fy - d.y) * p.uy)
  r : RootFit (kA d p) (kB d p) p.h
  h : 0 ≤ p.h.num


set_option maxRecDepth 100000 in
set_option maxHeartbeats 4000000 in
theorem keeps_any (s : Nat) (d : QD) (p : Spt) (w : World) (h0 : OK0 w s) (hf : FitKeep d p) (he : Env w) :
    Calls Tryz.prog 85 #[.pointer (some ⟨s, 0, none⟩), .agg d.cs, p.v] w fun e w' => e = .returned (.bool (keepsQ d p)) ∧ Below w.heap.size w w' := by
  have KE := Lib.hid (show ∀ W, Below w.heap.size w W → Env W from fun W hW => he.below hW)
  have KO := Lib.hid (show ∀ W, Below w.heap.size w W → OK0 W s from fun W hW => h0.below hW)
  have a1 := (CB.new w #[.string (sQ d.x), .string (sQ d.y), .string (sQ d.q)] 26).alloc (.cells #[.string (sQ p.fx), .string (sQ p.fy), .string (sQ p.ux), .string (sQ p.uy), .string (sQ p.h)] 112 (0, 0))
  have b1 := (Below.refl w.heap.size w).alloc (Nat.le_refl _) (.cells #[.string (sQ d.x), .string (sQ d.y), .string (sQ d.q)] 26 (0, 0))
  have a2 := CB.new (w.alloc (.cells #[.string (sQ d.x), .string (sQ d.y), .string (sQ d.q)] 26 (0, 0))) #[.string (sQ p.fx), .string (sQ p.fy), .string (sQ p.ux), .string (sQ p.uy), .string (sQ p.h)] 112
  have b2 := b1.alloc b1.size (.cells #[.string (sQ p.fx), .string (sQ p.fy), .string (sQ p.ux), .string (sQ p.uy), .string (sQ p.h)] 112 (0, 0))
  simp only [size_alloc] at a2
  have HB := Lib.hid b2
  have H1 := Lib.hid a1
  have H2 := Lib.hid a2
  have HV := Lib.hid (show keepsQ d p = decide (rootR ((p.fx - d.x) * (p.fx - d.x) + (p.fy - d.y) * (p.fy - d.y) + p.h * (p.ux * p.ux + p.uy * p.uy) - d.q) (2 * ((p.fx - d.x) * p.ux + (p.fy - d.y) * p.uy)) p.h ≤ 0) from rfl)
  have M1 := Lib.hid (fun W hW => dless_any s p.fx p.fy d.x d.y W (KO.out W hW) hf.s1 hf.s2 (KE.out W hW))
  have M2 := Lib.hid (fun W hW => ddot_any s (p.fx - d.x) (p.fy - d.y) (p.fx - d.x) (p.fy - d.y) W (KO.out W hW) hf.m1 hf.m2 hf.a1 (KE.out W hW))
  have M3 := Lib.hid (fun W hW => ddot_any s p.ux p.uy p.ux p.uy W (KO.out W hW) hf.m3 hf.m4 hf.a2 (KE.out W hW))
  have M4 := Lib.hid (fun W hW => dmul_any s p.h (p.ux * p.ux + p.uy * p.uy) W (KO.out W hW) hf.m5 (KE.out W hW))
  have M5 := Lib.hid (fun W hW => dadd_any s _ _ W (KO.out W hW) hf.a3 (KE.out W hW))
  have M6 := Lib.hid (fun W hW => dsub_any s _ _ W (KO.out W hW) hf.s3 (KE.out W hW))
  have M7 := Lib.hid (fun W hW => ddot_any s (p.fx - d.x) (p.fy - d.y) p.ux p.uy W (KO.out W hW) hf.m6 hf.m7 hf.a4 (KE.out W hW))
  have M8 := Lib.hid (fun W hW => dmul_any s _ _ W (KO.out W hW) hf.m8 (KE.out W hW))
  have M9 := Lib.hid (fun W hW => droot_any s (kA d p) (kB d p) p.h W (KO.out W hW) hf.r hf.h (KE.out W hW))
  rw [← sQ_two] at M8
  unfold kA kB at M9
  clear a1 a2 b1 b2 he h0 hf
  go_enter Tryz.func85, Tryz.ntmps85
  go_wp2_with fail
  generalize (w.alloc (.cells #[.string (sQ d.x), .string (sQ d.y), .string (sQ d.q)] 26 (0, 0))).alloc (.cells #[.string (sQ p.fx), .string (sQ p.fy), .string (sQ p.ux), .string (sQ p.uy), .string (sQ p.h)] 112 (0, 0)) = W2 at *
  have v0 := H1.out.c 0
  have v1 := H1.out.c 1
  have x0 := H2.out.c 0
  have x1 := H2.out.c 1
  simp at v0 v1 x0 x1
  go_wp2_with fail
  with_reducible refine (M1.out _ HB.out).mono ?_
  rintro e w3 ⟨rfl, hb3⟩
  have hb4 := HB.out.trans (hb3.mono HB.out.size)
  have G4 := Lib.hid (CB.new w3 #[.string (sQ (p.fx - d.x)), .string (sQ (p.fy - d.y))] 24)
  have hb5 := hb4.alloc hb4.size (.cells #[.string (sQ (p.fx - d.x)), .string (sQ (p.fy - d.y))] 24 (0, 0))
  have hbx5 := hb3.alloc hb3.size (.cells #[.string (sQ (p.fx - d.x)), .string (sQ (p.fy - d.y))] 24 (0, 0))
  clear v0 v1 x0 x1
  go_wp2_with fail
  generalize w3.alloc (.cells #[.string (sQ (p.fx - d.x)), .string (sQ (p.fy - d.y))] 24 (0, 0)) = w4 at *
  generalize hgg : w3.heap.size = g at *
  have H1' := Lib.hid (H1.out.below hbx5 H1.out.lt)
  have H2' := Lib.hid (H2.out.below hbx5 H2.out.lt)
  have HB5 := Lib.hid hb5
  clear hb3 hb4 hgg hbx5 H1 H2 HB
  have KS := Lib.hid (show ∀ W, Below w4.heap.size w4 W → (W.cell? ⟨w.heap.size, 2, none⟩ = some (.string (sQ d.q)) ∧ W.cell? ⟨w.heap.size + 1, 2, none⟩ = some (.string (sQ p.ux)) ∧ W.cell? ⟨w.heap.size + 1, 3, none⟩ = some (.string (sQ p.uy)) ∧ W.cell? ⟨w.heap.size + 1, 4, none⟩ = some (.string (sQ p.h)) ∧ W.cell? ⟨g, 0, none⟩ = some (.string (sQ (p.fx - d.x))) ∧ W.cell? ⟨g, 1, none⟩ = some (.string (sQ (p.fy - d.y)))) ∧ (Below w4.heap.size w4 W ∧ Below w.heap.size w W) from fun W hW => by
    have e1 := H1'.out.below hW H1'.out.lt
    have e2 := H2'.out.below hW H2'.out.lt
    have e3 := G4.out.below hW G4.out.lt
    exact ⟨⟨e1.c 2, e2.c 2, e2.c 3, e2.c 4, e3.c 0, e3.c 1⟩, hW, HB5.out.trans (hW.mono HB5.out.size)⟩)
  clear hb5
  go_region_held3 (fun W => (W.cell? ⟨w.heap.size, 2, none⟩ = some (.string (sQ d.q)) ∧ W.cell? ⟨w.heap.size + 1, 2, none⟩ = some (.string (sQ p.ux)) ∧ W.cell? ⟨w.heap.size + 1, 3, none⟩ = some (.string (sQ p.uy)) ∧ W.cell? ⟨w.heap.size + 1, 4, none⟩ = some (.string (sQ p.h)) ∧ W.cell? ⟨g, 0, none⟩ = some (.string (sQ (p.fx - d.x))) ∧ W.cell? ⟨g, 1, none⟩ = some (.string (sQ (p.fy - d.y)))) ∧ (Below w4.heap.size w4 W ∧ Below w.heap.size w W))
    ((refine KS.out _ ?_; first | exact (Below.refl _ _).drew | assumption))
    (first | (go_at_call 80; have hh := ‹(_ ∧ _) ∧ (_ ∧ Below w.heap.size w _)›; with_reducible refine (M2.out _ hh.2.2).mono ?_; rintro e w1 ⟨rfl, hb1⟩; have hb2 := hh.2.1.trans (hb1.mono hh.2.1.size)) | (go_at_call 80; have hh := ‹(_ ∧ _) ∧ (_ ∧ Below w.heap.size w _)›; with_reducible refine (M3.out _ hh.2.2).mono ?_; rintro e w1 ⟨rfl, hb1⟩; have hb2 := hh.2.1.trans (hb1.mono hh.2.1.size)) | (go_at_call 66; have hh := ‹(_ ∧ _) ∧ (_ ∧ Below w.heap.size w _)›; with_reducible refine (M4.out _ hh.2.2).mono ?_; rintro e w1 ⟨rfl, hb1⟩; have hb2 := hh.2.1.trans (hb1.mono hh.2.1.size)) | (go_at_call 64; have hh := ‹(_ ∧ _) ∧ (_ ∧ Below w.heap.size w _)›; with_reducible refine (M5.out _ hh.2.2).mono ?_; rintro e w1 ⟨rfl, hb1⟩; have hb2 := hh.2.1.trans (hb1.mono hh.2.1.size)))
  have hq := hb2
  clear hb1
  go_wp2_with fail
  go_region_held3 (fun W => (W.cell? ⟨w.heap.size, 2, none⟩ = some (.string (sQ d.q)) ∧ W.cell? ⟨w.heap.size + 1, 2, none⟩ = some (.string (sQ p.ux)) ∧ W.cell? ⟨w.heap.size + 1, 3, none⟩ = some (.string (sQ p.uy)) ∧ W.cell? ⟨w.heap.size + 1, 4, none⟩ = some (.string (sQ p.h)) ∧ W.cell? ⟨g, 0, none⟩ = some (.string (sQ (p.fx - d.x))) ∧ W.cell? ⟨g, 1, none⟩ = some (.string (sQ (p.fy - d.y)))) ∧ (Below w4.heap.size w4 W ∧ Below w.heap.size w W))
    ((refine KS.out _ ?_; first | exact hq.drew | assumption))
    (first | (go_at_call 63; have hh := ‹(_ ∧ _) ∧ (_ ∧ Below w.heap.size w _)›; with_reducible refine (M6.out _ hh.2.2).mono ?_; rintro e w1 ⟨rfl, hb1⟩; have hb2 := hh.2.1.trans (hb1.mono hh.2.1.size)) | (go_at_call 80; have hh := ‹(_ ∧ _) ∧ (_ ∧ Below w.heap.size w _)›; with_reducible refine (M7.out _ hh.2.2).mono ?_; rintro e w1 ⟨rfl, hb1⟩; have hb2 := hh.2.1.trans (hb1.mono hh.2.1.size)) | (go_at_call 66; have hh := ‹(_ ∧ _) ∧ (_ ∧ Below w.heap.size w _)›; with_reducible refine (M8.out _ hh.2.2).mono ?_; rintro e w1 ⟨rfl, hb1⟩; have hb2 := hh.2.1.trans (hb1.mono hh.2.1.size)) | (go_at_call 65; have hh := ‹(_ ∧ _) ∧ (_ ∧ Below w.heap.size w _)›; with_reducible refine (M9.out _ hh.2.2).mono ?_; rintro e w1 ⟨rfl, hb1⟩; have hb2 := hh.2.1.trans (hb1.mono hh.2.1.size)))
  go_wp2_with fail
  go_ret
  exact ⟨ret_bool HV.out.symm, HB5.out.trans (hb2.mono HB5.out.size)⟩
end Go.Proofs.YtbdckemkmocdlaaGreatDoor

/- package discs: the closures of sums.proves; slices.ContainsFunc over them. -/
namespace Go.Proofs.YtbdckemkmocdlaaGreatDoor
open Go.RowKit

attribute [local irreducible] sI sQ

/-- what the closures have captured: the box of s, the place, the first closure -/
structure Capt (w : World) (s sb pb ib : Nat) (p : Spt) : Prop where
  s : w.cell? ⟨sb, 0, none⟩ = some (.pointer (some ⟨s, 0, none⟩))
  p : CB w pb #[.string (sQ p.fx), .string (sQ p.fy), .string (sQ p.ux), .string (sQ p.uy), .string (sQ p.h)] 112
  i : w.cell? ⟨ib, 0, none⟩ = some (.func (.func 84) #[] #[.pointer (some ⟨sb, 0, none⟩), .pointer (some ⟨pb, 0, none⟩)])
  ls : sb < w.heap.size
  li : ib < w.heap.size
theorem Capt.below {w w' : World} {s sb pb ib : Nat} {p : Spt} (h : Capt w s sb pb ib p) (hb : Below w.heap.size w w') : Capt w' s sb pb ib p :=
  ⟨(hb.cell (p := ⟨sb, 0, none⟩) h.ls).trans h.s, h.p.below hb h.p.lt, (hb.cell (p := ⟨ib, 0, none⟩) h.li).trans h.i, Nat.lt_of_lt_of_le h.ls hb.size, Nat.lt_of_lt_of_le h.li hb.size⟩


set_option maxRecDepth 100000 in
set_option maxHeartbeats 2000000 in
theorem proves1_any (s sb pb ib : Nat) (d : QD) (p : Spt) (w : World) (h0 : OK0 w s) (hc : Capt w s sb pb ib p) (hf : FitKeep d p) (he : Env w) :
    Calls Tryz.prog 84 #[.agg d.cs, .pointer (some ⟨sb, 0, none⟩), .pointer (some ⟨pb, 0, none⟩)] w fun e w' => e = .returned (.bool (keepsQ d p)) ∧ Below w.heap.size w w' := by
  have b1 := (Below.refl w.heap.size w).alloc (Nat.le_refl _) (.cells #[.string (sQ d.x), .string (sQ d.y), .string (sQ d.q)] 26 (0, 0))
  have c1 := hc.below b1
  have d1 := CB.new w #[.string (sQ d.x), .string (sQ d.y), .string (sQ d.q)] 26
  have M := Lib.hid (keeps_any s d p _ (h0.below b1) hf (he.below b1))
  have HB := Lib.hid b1
  obtain ⟨z0, z1, z2, _, _⟩ := c1
  have y0 := z1.c 0
  have y1 := z1.c 1
  have y2 := z1.c 2
  have y3 := z1.c 3
  have y4 := z1.c 4
  have x0 := d1.c 0
  have x1 := d1.c 1
  have x2 := d1.c 2
  simp at y0 y1 y2 y3 y4 x0 x1 x2
  clear b1 hf he h0 hc d1
  go_enter Tryz.func84, Tryz.ntmps84
  go_wp2_with fail
  with_reducible refine M.out.mono ?_
  rintro e w3 ⟨rfl, hb3⟩
  go_wp2_with fail
  go_ret
  exact ⟨rfl, HB.out.trans (hb3.mono HB.out.size)⟩

set_option maxRecDepth 100000 in
set_option maxHeartbeats 2000000 in
theorem proves2_any (s sb pb ib : Nat) (d : QD) (p : Spt) (w : World) (h0 : OK0 w s) (hc : Capt w s sb pb ib p) (hf : FitKeep d p) (he : Env w) :
    Calls Tryz.prog 87 #[.agg d.cs, .pointer (some ⟨ib, 0, none⟩)] w fun e w' => e = .returned (.bool (!keepsQ d p)) ∧ Below w.heap.size w w' := by
  have b1 := (Below.refl w.heap.size w).alloc (Nat.le_refl _) (.cells #[.string (sQ d.x), .string (sQ d.y), .string (sQ d.q)] 26 (0, 0))
  have c1 := hc.below b1
  have d1 := CB.new w #[.string (sQ d.x), .string (sQ d.y), .string (sQ d.q)] 26
  have M := Lib.hid (proves1_any s sb pb ib d p _ (h0.below b1) c1 hf (he.below b1))
  have HB := Lib.hid b1
  have z2 := c1.i
  have x0 := d1.c 0
  have x1 := d1.c 1
  have x2 := d1.c 2
  simp at x0 x1 x2
  clear b1 hf he h0 hc d1 c1
  generalize keepsQ d p = r at *
  go_enter Tryz.func87, Tryz.ntmps87
  go_wp2_with fail
  with_reducible refine M.out.mono ?_
  rintro e w3 ⟨rfl, hb3⟩
  go_wp2_with fail
  go_ret
  exact ⟨rfl, HB.out.trans (hb3.mono HB.out.size)⟩

set_option maxRecDepth 100000 in
set_option maxHeartbeats 2000000 in
theorem indexf_any (s sb pb ib b o cap : Nat) (l : List QD) (p : Spt) (w : World) (h0 : OK0 w s) (hc : Capt w s sb pb ib p) (hl : l.length ≤ 1000000) (hr : QRow w b o l) (hb : b < w.heap.size) (hf : ∀ d ∈ l, FitKeep d p) (he : Env w) :
    Calls Tryz.prog 123 #[.slice (some ⟨b, o, none⟩) l.length cap, .func (.func 87) #[] #[.pointer (some ⟨ib, 0, none⟩)]] w fun e w' =>
      ∃ v : Int, e = .returned (.int .i64 v) ∧ (0 ≤ v ↔ l.all (fun d => keepsQ d p) = false) ∧ Below w.heap.size w w' := by
  have KE := Lib.hid (show ∀ W, Below w.heap.size w W → Env W from fun W hW => he.below hW)
  have KO := Lib.hid (show ∀ W, Below w.heap.size w W → OK0 W s from fun W hW => h0.below hW)
  have KC := Lib.hid (show ∀ W, Below w.heap.size w W → Capt W s sb pb ib p from fun W hW => hc.below hW)
  have HR := Lib.hid hr
  have HF := Lib.hid hf
  clear he h0 hc hr hf
  go_enter Tryz.func123, Tryz.ntmps123
  go_wp2_with fail
  go_loopw [8] (fun i wr => ∃ k : Nat, i = .int .i64 k ∧ k ≤ l.length ∧ Hid (∀ j, ∀ h : j < l.length, j < k → keepsQ l[j] p = true) ∧ Below w.heap.size w wr) (fun i _ => l.length - (intOf i).toNat)
  case atStart => exact ⟨0, rfl, Nat.zero_le _, Lib.hid (fun j _ h => by omega), Below.refl _ _⟩
  case round =>
    obtain ⟨k, rfl, hk, ha, hb1⟩ := hrel
    by_cases hlt : k < l.length
    · obtain ⟨c1, c2, c3⟩ := (HR.out.below hb1 hb).at k hlt
      have M := Lib.hid (proves2_any s sb pb ib l[k] p _ (KO.out _ hb1) (KC.out _ hb1) (HF.out _ (List.getElem_mem hlt)) (KE.out _ hb1))
      have HT := Lib.hid (show keepsQ l[k] p = true → ∀ j, ∀ h : j < l.length, j < k + 1 → keepsQ l[j] p = true from fun h0 j hj hjk => by
        by_cases e : j = k
        · subst e; exact h0
        · exact ha.out j hj (by omega))
      have HN := Lib.hid (show keepsQ l[k] p = false → l.all (fun d => keepsQ d p) = false from fun h0 => by
        rw [List.all_eq_false]
        exact ⟨l[k], List.getElem_mem hlt, by rw [h0]; simp⟩)
      generalize keepsQ l[k] p = r at *
      generalize l[k] = d at *
      go_wp2_with fail
      with_reducible refine M.out.mono ?_
      rintro e w3 ⟨rfl, hb3⟩
      replace hb3 := hb1.trans (hb3.mono hb1.size)
      cases r
      · have HX := Lib.hid (HN.out rfl)
        go_wp2_with fail
        go_ret
        exact ⟨k, rfl, ⟨fun _ => HX.out, fun _ => by omega⟩, hb3⟩
      · have HX := Lib.hid (HT.out rfl)
        go_wp2_with fail
        exact ⟨⟨k + 1, by simp, by omega, HX, hb3⟩, by simp [intOf]; omega⟩
    · have HA := Lib.hid (show l.all (fun d => keepsQ d p) = true by
        rw [List.all_eq_true]
        intro d hd
        obtain ⟨j, hj, rfl⟩ := List.getElem_of_mem hd
        exact ha.out j hj (by omega))
      go_wp2_with fail
      go_ret
      exact ⟨-1, rfl, ⟨fun h => absurd h (by decide), fun h => by rw [HA.out] at h; exact absurd h (by decide)⟩, hb1⟩

set_option maxRecDepth 100000 in
set_option maxHeartbeats 2000000 in
theorem containsf_any (s sb pb ib b o cap : Nat) (l : List QD) (p : Spt) (w : World) (h0 : OK0 w s) (hc : Capt w s sb pb ib p) (hl : l.length ≤ 1000000) (hr : QRow w b o l) (hb : b < w.heap.size) (hf : ∀ d ∈ l, FitKeep d p) (he : Env w) :
    Calls Tryz.prog 86 #[.slice (some ⟨b, o, none⟩) l.length cap, .func (.func 87) #[] #[.pointer (some ⟨ib, 0, none⟩)]] w fun e w' =>
      e = .returned (.bool (!l.all (fun d => keepsQ d p))) ∧ Below w.heap.size w w' := by
  have M := Lib.hid (indexf_any s sb pb ib b o cap l p w h0 hc hl hr hb hf he)
  clear h0 hc hr hf he
  generalize l.all (fun d => keepsQ d p) = r at *
  go_enter Tryz.func86, Tryz.ntmps86
  go_wp2_with fail
  with_reducible refine M.out.mono ?_
  rintro e w3 ⟨v, rfl, hv, hb3⟩
  cases r
  · have h1 : 0 ≤ v := hv.2 rfl
    go_wp2_with fail
    go_ret
    exact ⟨rfl, hb3⟩
  · have h1 : ¬ 0 ≤ v := fun h => absurd (hv.1 h) (by decide)
    go_wp2_with fail
    go_ret
    exact ⟨rfl, hb3⟩
end Go.Proofs.YtbdckemkmocdlaaGreatDoor

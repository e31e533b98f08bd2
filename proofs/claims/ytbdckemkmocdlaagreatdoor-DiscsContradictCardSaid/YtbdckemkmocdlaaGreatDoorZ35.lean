/- metrolabref12: Crossing. -/
import Derived.Test.YtbdckemkmocdlaaGreatDoorZ23
import Derived.Test.YtbdckemkmocdlaaGreatDoorZ33
import Derived.Test.YtbdckemkmocdlaaGreatDoorZ26
set_option linter.all false
set_option exponentiation.threshold 2000000
namespace Go.Proofs.YtbdckemkmocdlaaGreatDoor
open Go.RowKit

attribute [local irreducible] sI sQ

/-- crude bounds: enough for the reference -/
theorem bg_t0 {a c : QD} (ha : Bg a) (hc : Bg c) (h0 : farQ c.x c.y a.x a.y ≠ 0) : Sz 200 200 (tQ a c) := by
  have hf := bg_far ha hc
  have h2 := sz_mul sz_two hf
  have h3 := sz_sub (sz_add hf ha.q) hc.q
  have hn : 2 * farQ c.x c.y a.x a.y ≠ 0 := by
    intro h
    rcases Rat.mul_eq_zero.1 h with h | h
    · exact absurd h (by decide)
    · exact h0 h
  exact (sz_div hn h3 h2).mono (by omega) (by omega)

/-- what the reference's Crossing returns -/
noncomputable def crossR (a c : QD) : Value :=
  if farQ c.x c.y a.x a.y = 0 then .tuple #[.agg #[.string ⟨#[]⟩, .string ⟨#[]⟩, .string ⟨#[]⟩, .string ⟨#[]⟩, .string ⟨#[]⟩], .bool false]
  else .tuple #[(spotQ a c 0).v, .bool (decide (0 ≤ sgn (spotQ a c 0).h.num))]


/-- two blocks of a call's own stand -/
def CX (W : World) (p g : Nat) (cs ds : Array Value) : Prop := CB W p cs 24 ∧ CB W g ds 24
theorem CX.mk {W : World} {p g : Nat} {cs ds : Array Value} (h1 : CB W p cs 24) (h2 : CB W g ds 24) : CX W p g cs ds := ⟨h1, h2⟩
theorem CX.below {W W' : World} {p g : Nat} {cs ds : Array Value} (h : CX W p g cs ds) (hb : Below W.heap.size W W') : CX W' p g cs ds := ⟨h.1.below hb h.1.lt, h.2.below hb h.2.lt⟩
theorem CX.drew {W : World} {p g : Nat} {cs ds : Array Value} (h : CX W p g cs ds) : CX W.drew p g cs ds := h
theorem CX.set5 {W : World} {p g q : Nat} {cs ds : Array Value} (h : CX W p g cs ds) (hp : q ≠ p) (hg : q ≠ g) (v0 v1 v2 v3 v4 : Value) :
    CX (((((W.setCell ⟨q, 0, none⟩ v0).setCell ⟨q, 1, none⟩ v1).setCell ⟨q, 2, none⟩ v2).setCell ⟨q, 3, none⟩ v3).setCell ⟨q, 4, none⟩ v4) p g cs ds :=
  ⟨h.1.set5_other (Ne.symm hp) v0 v1 v2 v3 v4, h.2.set5_other (Ne.symm hg) v0 v1 v2 v3 v4⟩

theorem blocks3 (w : World) (cs ds es : Array Value) (t u v : TypeId) : Below w.heap.size w (((w.alloc (.cells cs t (0, 0))).alloc (.cells ds u (0, 0))).alloc (.cells es v (0, 0))) ∧
    CB (((w.alloc (.cells cs t (0, 0))).alloc (.cells ds u (0, 0))).alloc (.cells es v (0, 0))) w.heap.size cs t ∧ CB (((w.alloc (.cells cs t (0, 0))).alloc (.cells ds u (0, 0))).alloc (.cells es v (0, 0))) (w.heap.size + 1) ds u ∧
    CB (((w.alloc (.cells cs t (0, 0))).alloc (.cells ds u (0, 0))).alloc (.cells es v (0, 0))) (w.heap.size + 1 + 1) es v := by
  obtain ⟨b2, a1, a2⟩ := blocks2 w cs ds t u
  have a3 := CB.new ((w.alloc (.cells cs t (0, 0))).alloc (.cells ds u (0, 0))) es v
  have b3 := b2.alloc b2.size (.cells es v (0, 0))
  simp only [size_alloc] at a3
  exact ⟨b3, a1.alloc _, a2.alloc _, a3⟩

theorem below_set2 {B p : Nat} {w0 w : World} (h : Below B w0 w) (hp : B ≤ p) (v0 v1 : Value) : Below B w0 ((w.setCell ⟨p, 0, none⟩ v0).setCell ⟨p, 1, none⟩ v1) :=
  (h.setCell (p := ⟨p, 0, none⟩) hp v0).setCell (p := ⟨p, 1, none⟩) hp v1
theorem CB.set2 {w : World} {p : Nat} {t : TypeId} {u0 u1 : Value} (h : CB w p #[u0, u1] t) (v0 v1 : Value) : CB ((w.setCell ⟨p, 0, none⟩ v0).setCell ⟨p, 1, none⟩ v1) p #[v0, v1] t := by
  have := (h.set 0 v0).set 1 v1
  simpa using this
theorem CB.cells2 {w : World} {b : Nat} {u v : Value} {t : TypeId} (h : CB w b #[u, v] t) : w.cell? ⟨b, 0, none⟩ = some u ∧ w.cell? ⟨b, 1, none⟩ = some v := ⟨h.c 0, h.c 1⟩
theorem CB.cells5 {w : World} {b : Nat} {u0 u1 u2 u3 u4 : Value} {t : TypeId} (h : CB w b #[u0, u1, u2, u3, u4] t) : w.cell? ⟨b, 0, none⟩ = some u0 ∧ w.cell? ⟨b, 1, none⟩ = some u1 ∧ w.cell? ⟨b, 2, none⟩ = some u2 ∧ w.cell? ⟨b, 3, none⟩ = some u3 ∧ w.cell? ⟨b, 4, none⟩ = some u4 :=
  ⟨h.c 0, h.c 1, h.c 2, h.c 3, h.c 4⟩

set_option maxRecDepth 100000 in
set_option maxHeartbeats 4000000 in
theorem rcrossing_any (a c : QD) (w : World) (ha : Bg a) (hc : Bg c) :
    Calls Tryz.prog 124 #[.agg a.cs, .agg c.cs] w fun e w' => e = .returned (crossR a c) ∧ Below w.heap.size w w' := by
  obtain ⟨b0, a1, a2, a3⟩ := blocks3 w a.cs c.cs (#[.string ⟨#[]⟩, .string ⟨#[]⟩, .string ⟨#[]⟩, .string ⟨#[]⟩, .string ⟨#[]⟩]) 26 26 118
  have hF := bg_far ha hc
  have hx := sz_sub hc.x ha.x
  have hy := sz_sub hc.y ha.y
  have hs1 := sz_add hF ha.q
  have hs2 := sz_sub hs1 hc.q
  have hs3 := sz_mul sz_two hF
  have ht := bg_t0 ha hc
  have M1 := Lib.hid (fun W => rfminus_any c.x c.y a.x a.y W hc.x.md hc.y.md ha.x.md ha.y.md)
  have M2 := Lib.hid (fun W => rfdot_any (c.x - a.x) (c.y - a.y) (c.x - a.x) (c.y - a.y) W hx.md hy.md hx.md hy.md (sz_mul hx hx).md (sz_mul hy hy).md)
  have hFF : (c.x - a.x) * (c.x - a.x) + (c.y - a.y) * (c.y - a.y) = farQ c.x c.y a.x a.y := rfl
  rw [hFF] at M2
  have hv : crossR a c = if farQ c.x c.y a.x a.y = 0 then .tuple #[.agg #[.string ⟨#[]⟩, .string ⟨#[]⟩, .string ⟨#[]⟩, .string ⟨#[]⟩, .string ⟨#[]⟩], .bool false] else .tuple #[(spotQ a c 0).v, .bool (decide (0 ≤ sgn (spotQ a c 0).h.num))] := rfl
  have hTT : tQ a c = (farQ c.x c.y a.x a.y + a.q - c.q) / (2 * farQ c.x c.y a.x a.y) := rfl
  have hsp : (spotQ a c 0).cs = #[.string (sQ (a.x + tQ a c * (c.x - a.x))), .string (sQ (a.y + tQ a c * (c.y - a.y))), .string (sQ (0 - (c.y - a.y))), .string (sQ (c.x - a.x)), .string (sQ (a.q / farQ c.x c.y a.x a.y - tQ a c * tQ a c))] := rfl
  have hsph : (spotQ a c 0).h = a.q / farQ c.x c.y a.x a.y - tQ a c * tQ a c := rfl
  generalize farQ c.x c.y a.x a.y = F at *
  generalize tQ a c = T at *
  have HV0 := Lib.hid hv
  clear hv
  have HB := Lib.hid b0
  have H1 := Lib.hid a1
  have H2 := Lib.hid a2
  have H3 := Lib.hid a3
  obtain ⟨k1, k2, k3⟩ := a1.cells3
  obtain ⟨k4, k5, k6⟩ := a2.cells3
  have hz := sQ_eq_zero F
  have HTT := Lib.hid hTT
  have HSP := Lib.hid hsp
  have HSPH := Lib.hid hsph
  clear a1 a2 a3 b0 hTT hsp hsph hFF
  have hsz : (((w.alloc (.cells #[.string (sQ a.x), .string (sQ a.y), .string (sQ a.q)] 26 (0, 0))).alloc (.cells #[.string (sQ c.x), .string (sQ c.y), .string (sQ c.q)] 26 (0, 0))).alloc (.cells (#[.string ⟨#[]⟩, .string ⟨#[]⟩, .string ⟨#[]⟩, .string ⟨#[]⟩, .string ⟨#[]⟩]) 118 (0, 0))).heap.size = w.heap.size + 1 + 1 + 1 := by simp
  go_enter Tryz.func124, Tryz.ntmps124
  go_wp2_with fail
  generalize ((w.alloc (.cells #[.string (sQ a.x), .string (sQ a.y), .string (sQ a.q)] 26 (0, 0))).alloc (.cells #[.string (sQ c.x), .string (sQ c.y), .string (sQ c.q)] 26 (0, 0))).alloc (.cells (#[.string ⟨#[]⟩, .string ⟨#[]⟩, .string ⟨#[]⟩, .string ⟨#[]⟩, .string ⟨#[]⟩]) 118 (0, 0)) = W0 at *
  go_wp2_with fail
  with_reducible refine (M1.out _).mono ?_
  rintro e w3 ⟨rfl, hb3⟩
  have hb4 := HB.out.trans (hb3.mono HB.out.size)
  have G4 := Lib.hid (CB.new w3 #[.string (sQ (c.x - a.x)), .string (sQ (c.y - a.y))] 24)
  have hb5 := hb4.alloc hb4.size (.cells #[.string (sQ (c.x - a.x)), .string (sQ (c.y - a.y))] 24 (0, 0))
  have hbx5 := hb3.alloc hb3.size (.cells #[.string (sQ (c.x - a.x)), .string (sQ (c.y - a.y))] 24 (0, 0))
  clear k1 k2 k3 k4 k5 k6
  go_wp2_with fail
  generalize w3.alloc (.cells #[.string (sQ (c.x - a.x)), .string (sQ (c.y - a.y))] 24 (0, 0)) = w4 at *
  generalize hgg : w3.heap.size = g at *
  clear hgg hb3 hb4
  with_reducible refine (M2.out _).mono ?_
  rintro e w5 ⟨rfl, hb6⟩
  have CA5 := Lib.hid ((H1.out.below hbx5 H1.out.lt).below hb6 (Nat.lt_of_lt_of_le H1.out.lt hbx5.size))
  have CC5 := Lib.hid ((H2.out.below hbx5 H2.out.lt).below hb6 (Nat.lt_of_lt_of_le H2.out.lt hbx5.size))
  have CP5 := Lib.hid ((H3.out.below hbx5 H3.out.lt).below hb6 (Nat.lt_of_lt_of_le H3.out.lt hbx5.size))
  have CG5 := Lib.hid (G4.out.below hb6 G4.out.lt)
  have HB7 := Lib.hid (hb5.trans (hb6.mono hb5.size))
  clear H1 H2 H3 G4 hbx5 hb6 hb5 HB M1 M2 hsz
  by_cases hF0 : F = 0
  · rw [decide_eq_true hF0] at hz
    have HV := Lib.hid (HV0.out.trans (if_pos hF0))
    clear HV0
    obtain ⟨z0, z1, z2, z3, z4⟩ := CP5.out.cells5
    have y0 := CP5.out.fr 0
    have y1 := CP5.out.fr 1
    have y2 := CP5.out.fr 2
    have y3 := CP5.out.fr 3
    have y4 := CP5.out.fr 4
    clear hF0 ht hs1 hs2 hs3 hx hy hF
    go_wp2_with fail
    have h5 := CP5.out.set5 (.string ⟨#[]⟩) (.string ⟨#[]⟩) (.string ⟨#[]⟩) (.string ⟨#[]⟩) (.string ⟨#[]⟩)
    have hb8 := below_set5 (p := w.heap.size + 1 + 1) HB7.out (by omega) (.string ⟨#[]⟩) (.string ⟨#[]⟩) (.string ⟨#[]⟩) (.string ⟨#[]⟩) (.string ⟨#[]⟩)
    clear z0 z1 z2 z3 z4
    obtain ⟨z0, z1, z2, z3, z4⟩ := h5.cells5
    generalize ((((w5.setCell ⟨w.heap.size + 1 + 1, 0, none⟩ (.string ⟨#[]⟩)).setCell ⟨w.heap.size + 1 + 1, 1, none⟩ (.string ⟨#[]⟩)).setCell ⟨w.heap.size + 1 + 1, 2, none⟩ (.string ⟨#[]⟩)).setCell ⟨w.heap.size + 1 + 1, 3, none⟩ (.string ⟨#[]⟩)).setCell ⟨w.heap.size + 1 + 1, 4, none⟩ (.string ⟨#[]⟩) = w9 at *
    refine bodyPost_ret (v := .tuple #[.agg #[.string ⟨#[]⟩, .string ⟨#[]⟩, .string ⟨#[]⟩, .string ⟨#[]⟩, .string ⟨#[]⟩], .bool false]) (by simp [results, Tryz.results124, go_sem, z0, z1, z2, z3, z4, Result.andThen]) rfl ⟨ret_v HV.out.symm, hb8⟩
  · rw [decide_eq_false hF0] at hz
    have HV := Lib.hid (HV0.out.trans (if_neg hF0))
    clear HV0
    replace ht := ht hF0
    have M1 := Lib.hid (fun W => rqplus_any F a.q W hF.md ha.q.md)
    have M2 := Lib.hid (fun W => rqminus_any (F + a.q) c.q W hs1.md hc.q.md)
    have M3 := Lib.hid (fun W => rqtimes_any 2 F W sz_two.md hF.md)
    have hn : 2 * F ≠ 0 := by
      intro h
      rcases Rat.mul_eq_zero.1 h with h | h
      · exact absurd h (by decide)
      · exact hF0 h
    have M4 := Lib.hid (fun W => rqby_any (F + a.q - c.q) (2 * F) W hs2.md hs3.md hn)
    rw [← HTT.out] at M4
    rw [← sQ_two] at M3
    have M5 := Lib.hid (fun W => rqtimes_any T (c.x - a.x) W ht.md hx.md)
    have M6 := Lib.hid (fun W => rqplus_any a.x (T * (c.x - a.x)) W ha.x.md (sz_mul ht hx).md)
    have M7 := Lib.hid (fun W => rqtimes_any T (c.y - a.y) W ht.md hy.md)
    have M8 := Lib.hid (fun W => rqplus_any a.y (T * (c.y - a.y)) W ha.y.md (sz_mul ht hy).md)
    have M9 := Lib.hid (fun W => rqturned_any (c.y - a.y) W hy.md)
    have M10 := Lib.hid (fun W => rqby_any a.q F W ha.q.md hF.md hF0)
    have M11 := Lib.hid (fun W => rqtimes_any T T W ht.md ht.md)
    have M12 := Lib.hid (fun W => rqminus_any (a.q / F) (T * T) W (sz_div hF0 ha.q hF).md (sz_mul ht ht).md)
    have M13 := Lib.hid (fun W => rsignum_any (a.q / F - T * T) W (sz_sub (sz_div hF0 ha.q hF) (sz_mul ht ht)).md)
    clear hF0 ht hs1 hs2 hs3 hx hy hF hn ha hc
    have KS := Lib.hid (show ∀ W, Below w5.heap.size w5 W → (W.cell? ⟨w.heap.size, 0, none⟩ = some (.string (sQ a.x)) ∧ W.cell? ⟨w.heap.size, 1, none⟩ = some (.string (sQ a.y)) ∧ W.cell? ⟨w.heap.size, 2, none⟩ = some (.string (sQ a.q)) ∧ W.cell? ⟨w.heap.size + 1, 2, none⟩ = some (.string (sQ c.q)) ∧ W.cell? ⟨g, 0, none⟩ = some (.string (sQ (c.x - a.x))) ∧ W.cell? ⟨g, 1, none⟩ = some (.string (sQ (c.y - a.y)))) ∧ (Below w5.heap.size w5 W ∧ Below w.heap.size w W) from fun W hW => by
      have e1 := CA5.out.below hW CA5.out.lt
      have e2 := CC5.out.below hW CC5.out.lt
      have e3 := CG5.out.below hW CG5.out.lt
      exact ⟨⟨e1.c 0, e1.c 1, e1.c 2, e2.c 2, e3.c 0, e3.c 1⟩, hW, HB7.out.trans (hW.mono HB7.out.size)⟩)
    go_wp2_with fail
    go_region_held3 (fun W => (W.cell? ⟨w.heap.size, 0, none⟩ = some (.string (sQ a.x)) ∧ W.cell? ⟨w.heap.size, 1, none⟩ = some (.string (sQ a.y)) ∧ W.cell? ⟨w.heap.size, 2, none⟩ = some (.string (sQ a.q)) ∧ W.cell? ⟨w.heap.size + 1, 2, none⟩ = some (.string (sQ c.q)) ∧ W.cell? ⟨g, 0, none⟩ = some (.string (sQ (c.x - a.x))) ∧ W.cell? ⟨g, 1, none⟩ = some (.string (sQ (c.y - a.y)))) ∧ (Below w5.heap.size w5 W ∧ Below w.heap.size w W))
      ((refine KS.out _ ?_; first | exact (Below.refl _ _).drew | assumption))
      (first | (go_at_call 33; have hh := ‹(_ ∧ _) ∧ (_ ∧ Below w.heap.size w _)›; with_reducible refine (M1.out _).mono ?_; rintro e w1 ⟨rfl, hb1⟩; have hb2 := hh.2.1.trans (hb1.mono hh.2.1.size)) | (go_at_call 105; have hh := ‹(_ ∧ _) ∧ (_ ∧ Below w.heap.size w _)›; with_reducible refine (M2.out _).mono ?_; rintro e w1 ⟨rfl, hb1⟩; have hb2 := hh.2.1.trans (hb1.mono hh.2.1.size)) | (go_at_call 107; have hh := ‹(_ ∧ _) ∧ (_ ∧ Below w.heap.size w _)›; with_reducible refine (M3.out _).mono ?_; rintro e w1 ⟨rfl, hb1⟩; have hb2 := hh.2.1.trans (hb1.mono hh.2.1.size)) | (go_at_call 161; have hh := ‹(_ ∧ _) ∧ (_ ∧ Below w.heap.size w _)›; with_reducible refine (M4.out _).mono ?_; rintro e w1 ⟨rfl, hb1⟩; have hb2 := hh.2.1.trans (hb1.mono hh.2.1.size)))
    have hq := hb2
    clear hb1
    obtain ⟨⟨q1, q2, q3, q4, q5, q6⟩, _, hbw⟩ := KS.out _ hq
    go_wp2_with fail
    with_reducible refine (M10.out _).mono ?_
    rintro e w6 ⟨rfl, hb6⟩
    have hq6 := hq.trans (hb6.mono hq.size)
    go_wp2_with fail
    with_reducible refine (M11.out _).mono ?_
    rintro e w7 ⟨rfl, hb7⟩
    have hq7 := hq6.trans (hb7.mono hq6.size)
    go_wp2_with fail
    with_reducible refine (M12.out _).mono ?_
    rintro e w8 ⟨rfl, hb8⟩
    have hq8 := hq7.trans (hb8.mono hq7.size)
    clear q1 q2 q3 q4 q5 q6 hbw hb6 hq6 hb7 hq7 hb8 hq
    have hq := hq8
    clear hq8
    have HSX := Lib.hid (show ∀ (W : World), Below w5.heap.size w5 W → ∃ p : Nat, Value.pointer (some ⟨W.heap.size, 0, none⟩) = .pointer (some ⟨p, 0, none⟩) ∧ Hid (CB (W.alloc (.cells (#[.string (sQ (a.x + T * (c.x - a.x))), .string (sQ (a.y + T * (c.y - a.y)))]) 24 (0, 0))) p (#[.string (sQ (a.x + T * (c.x - a.x))), .string (sQ (a.y + T * (c.y - a.y)))]) 24) ∧ Below w5.heap.size w5 (W.alloc (.cells (#[.string (sQ (a.x + T * (c.x - a.x))), .string (sQ (a.y + T * (c.y - a.y)))]) 24 (0, 0))) ∧ w5.heap.size ≤ p from fun W hW =>
      ⟨_, rfl, Lib.hid (CB.new W _ _), hW.alloc hW.size _, hW.size⟩)
    go_upto_region 7 with fail
    go_cut [10] (fun s10 wx => ∃ p : Nat, s10 = .pointer (some ⟨p, 0, none⟩) ∧ Hid (CB wx p (#[.string (sQ (a.x + T * (c.x - a.x))), .string (sQ (a.y + T * (c.y - a.y)))]) 24) ∧ Below w5.heap.size w5 wx ∧ w5.heap.size ≤ p)
    case first =>
      have hb2 := hq
      clear M1 M2 M3 M4 M9 M10 M11 M12 M13 HTT HSP HSPH HV CA5 CC5 CP5 CG5 HB7 hz
      go_region_held3 (fun W => (W.cell? ⟨w.heap.size, 0, none⟩ = some (.string (sQ a.x)) ∧ W.cell? ⟨w.heap.size, 1, none⟩ = some (.string (sQ a.y)) ∧ W.cell? ⟨w.heap.size, 2, none⟩ = some (.string (sQ a.q)) ∧ W.cell? ⟨w.heap.size + 1, 2, none⟩ = some (.string (sQ c.q)) ∧ W.cell? ⟨g, 0, none⟩ = some (.string (sQ (c.x - a.x))) ∧ W.cell? ⟨g, 1, none⟩ = some (.string (sQ (c.y - a.y)))) ∧ (Below w5.heap.size w5 W ∧ Below w.heap.size w W))
        ((refine KS.out _ ?_; first | with_reducible exact hq.drew | with_reducible assumption | with_reducible exact hb2.alloc hb2.size _ | with_reducible exact below_set2 hb2 hP _ _ | with_reducible exact (hq.alloc hq.size _).drew | exact hb2.alloc hb2.size _))
        (first | (go_at_call 107; have hPx := hb2.size; have hh := ‹(_ ∧ _) ∧ (_ ∧ Below w.heap.size w _)›; with_reducible refine (M5.out _).mono ?_; rintro e w1 ⟨rfl, hb1⟩; have hb2 := hh.2.1.trans (hb1.mono hh.2.1.size); first | (have GN := GN.below hb1 GN.lt; have r0 := GN.c 0; have r1 := GN.c 1; have t0 := GN.fr 0; have t1 := GN.fr 1; simp at r0 r1) | (with_reducible (have GN := CB.new_below hb1); have hP := hPx; have r0 := GN.c 0; have r1 := GN.c 1; have t0 := GN.fr 0; have t1 := GN.fr 1; simp at r0 r1) | (with_reducible (have GN := CB.new_belowD hb1); have hP := hPx; have r0 := GN.c 0; have r1 := GN.c 1; have t0 := GN.fr 0; have t1 := GN.fr 1; simp at r0 r1) | skip) | (go_at_call 33; have hPx := hb2.size; have hh := ‹(_ ∧ _) ∧ (_ ∧ Below w.heap.size w _)›; with_reducible refine (M6.out _).mono ?_; rintro e w1 ⟨rfl, hb1⟩; have hb2 := hh.2.1.trans (hb1.mono hh.2.1.size); first | (have GN := GN.below hb1 GN.lt; have r0 := GN.c 0; have r1 := GN.c 1; have t0 := GN.fr 0; have t1 := GN.fr 1; simp at r0 r1) | (with_reducible (have GN := CB.new_below hb1); have hP := hPx; have r0 := GN.c 0; have r1 := GN.c 1; have t0 := GN.fr 0; have t1 := GN.fr 1; simp at r0 r1) | (with_reducible (have GN := CB.new_belowD hb1); have hP := hPx; have r0 := GN.c 0; have r1 := GN.c 1; have t0 := GN.fr 0; have t1 := GN.fr 1; simp at r0 r1) | skip) | (go_at_call 107; have hPx := hb2.size; have hh := ‹(_ ∧ _) ∧ (_ ∧ Below w.heap.size w _)›; with_reducible refine (M7.out _).mono ?_; rintro e w1 ⟨rfl, hb1⟩; have hb2 := hh.2.1.trans (hb1.mono hh.2.1.size); first | (have GN := GN.below hb1 GN.lt; have r0 := GN.c 0; have r1 := GN.c 1; have t0 := GN.fr 0; have t1 := GN.fr 1; simp at r0 r1) | (with_reducible (have GN := CB.new_below hb1); have hP := hPx; have r0 := GN.c 0; have r1 := GN.c 1; have t0 := GN.fr 0; have t1 := GN.fr 1; simp at r0 r1) | (with_reducible (have GN := CB.new_belowD hb1); have hP := hPx; have r0 := GN.c 0; have r1 := GN.c 1; have t0 := GN.fr 0; have t1 := GN.fr 1; simp at r0 r1) | skip) | (go_at_call 33; have hPx := hb2.size; have hh := ‹(_ ∧ _) ∧ (_ ∧ Below w.heap.size w _)›; with_reducible refine (M8.out _).mono ?_; rintro e w1 ⟨rfl, hb1⟩; have hb2 := hh.2.1.trans (hb1.mono hh.2.1.size); first | (have GN := GN.below hb1 GN.lt; have r0 := GN.c 0; have r1 := GN.c 1; have t0 := GN.fr 0; have t1 := GN.fr 1; simp at r0 r1) | (with_reducible (have GN := CB.new_below hb1); have hP := hPx; have r0 := GN.c 0; have r1 := GN.c 1; have t0 := GN.fr 0; have t1 := GN.fr 1; simp at r0 r1) | (with_reducible (have GN := CB.new_belowD hb1); have hP := hPx; have r0 := GN.c 0; have r1 := GN.c 1; have t0 := GN.fr 0; have t1 := GN.fr 1; simp at r0 r1) | skip))
      all_goals
        go_wp2_with fail
        go_meet
        first
          | with_reducible exact HSX.out _ hb2
          | exact ⟨_, rfl, Lib.hid (GN.set2 _ _), below_set2 hb2 hP _ _, hP⟩
    case rest =>
      clear HSX hq
      obtain ⟨p, rfl, hp, hbp, hp5⟩ := hcut
      have GN := (CP5.out.below hbp CP5.out.lt).drew1
      have cx := (CX.mk hp.out (CG5.out.below hbp CG5.out.lt)).drew
      have hbw := (HB7.out.trans (hbp.mono HB7.out.size)).drew
      have hwp : w.heap.size + 1 + 1 < w5.heap.size := CP5.out.lt
      have hgl : w.heap.size + 1 + 1 ≠ g := by
        intro e
        have h1 := CP5.out; have h2 := CG5.out
        unfold CB at h1 h2
        rw [e] at h1; rw [h1] at h2; simp at h2
      have hpl : w.heap.size + 1 + 1 ≠ p := by omega
      have hle : w.heap.size ≤ w.heap.size + 1 + 1 := by omega
      have HVV := Lib.hid (show crossR a c = .tuple #[.agg (#[.string (sQ (a.x + T * (c.x - a.x))), .string (sQ (a.y + T * (c.y - a.y))), .string (sQ (0 - (c.y - a.y))), .string (sQ (c.x - a.x)), .string (sQ (a.q / F - T * T))]), .bool (decide (0 ≤ sgn (a.q / F - T * T).num))] by
        rw [HV.out, HSPH.out]; show Value.tuple #[.agg (spotQ a c 0).cs, _] = _; rw [HSP.out])
      obtain ⟨r0, r1, r2, r3, r4⟩ := GN.cells5
      have t0 := GN.fr 0
      have t1 := GN.fr 1
      have t2 := GN.fr 2
      have t3 := GN.fr 3
      have t4 := GN.fr 4
      have KX := Lib.hid (show ∀ W, CX W p g (#[.string (sQ (a.x + T * (c.x - a.x))), .string (sQ (a.y + T * (c.y - a.y)))]) (#[.string (sQ (c.x - a.x)), .string (sQ (c.y - a.y))]) → Below w.heap.size w W → (W.cell? ⟨p, 0, none⟩ = some (.string (sQ (a.x + T * (c.x - a.x)))) ∧ W.cell? ⟨p, 1, none⟩ = some (.string (sQ (a.y + T * (c.y - a.y)))) ∧ W.cell? ⟨g, 0, none⟩ = some (.string (sQ (c.x - a.x))) ∧ W.cell? ⟨g, 1, none⟩ = some (.string (sQ (c.y - a.y)))) ∧ (CX W p g (#[.string (sQ (a.x + T * (c.x - a.x))), .string (sQ (a.y + T * (c.y - a.y)))]) (#[.string (sQ (c.x - a.x)), .string (sQ (c.y - a.y))]) ∧ Below w.heap.size w W) from fun W h hb => ⟨⟨h.1.c 0, h.1.c 1, h.2.c 0, h.2.c 1⟩, h, hb⟩)
      clear hp hbp hp5 KS M1 M2 M3 M4 M5 M6 M7 M8 M10 M11 M12 HV HSP HSPH HTT CA5 CC5 CP5 CG5 HB7 hz
      generalize sgn (a.q / F - T * T).num = sn at *
      go_wp2_with fail
      go_region_held3 (fun W => (W.cell? ⟨p, 0, none⟩ = some (.string (sQ (a.x + T * (c.x - a.x)))) ∧ W.cell? ⟨p, 1, none⟩ = some (.string (sQ (a.y + T * (c.y - a.y)))) ∧ W.cell? ⟨g, 0, none⟩ = some (.string (sQ (c.x - a.x))) ∧ W.cell? ⟨g, 1, none⟩ = some (.string (sQ (c.y - a.y)))) ∧ (CX W p g (#[.string (sQ (a.x + T * (c.x - a.x))), .string (sQ (a.y + T * (c.y - a.y)))]) (#[.string (sQ (c.x - a.x)), .string (sQ (c.y - a.y))]) ∧ Below w.heap.size w W))
        (exact KX.out _ (by first | with_reducible assumption | with_reducible exact cx.set5 hpl hgl _ _ _ _ _) (by first | with_reducible assumption | with_reducible exact below_set5 hbw hle _ _ _ _ _))
        (first | (go_at_call 125; have hh := ‹(_ ∧ _) ∧ (CX _ _ _ _ _ ∧ Below w.heap.size w _)›; with_reducible refine (M9.out _).mono ?_; rintro e w1 ⟨rfl, hb1⟩; have cx := hh.2.1.below hb1; have hbw := hh.2.2.trans (hb1.mono hh.2.2.size); with_reducible (have GN := GN.below hb1 GN.lt); clear r0 r1 r2 r3 r4 t0 t1 t2 t3 t4; obtain ⟨r0, r1, r2, r3, r4⟩ := GN.cells5; have t0 := GN.fr 0; have t1 := GN.fr 1; have t2 := GN.fr 2; have t3 := GN.fr 3; have t4 := GN.fr 4) | (go_at_call 45; have hh := ‹(_ ∧ _) ∧ (CX _ _ _ _ _ ∧ Below w.heap.size w _)›; with_reducible refine (M13.out _).mono ?_; rintro e w1 ⟨rfl, hb1⟩; have cx := hh.2.1.below hb1; have hbw := hh.2.2.trans (hb1.mono hh.2.2.size); with_reducible (have GN := GN.below hb1 GN.lt); clear r0 r1 r2 r3 r4 t0 t1 t2 t3 t4; obtain ⟨r0, r1, r2, r3, r4⟩ := GN.cells5; have t0 := GN.fr 0; have t1 := GN.fr 1; have t2 := GN.fr 2; have t3 := GN.fr 3; have t4 := GN.fr 4))
      all_goals
        go_wp2_with fail
        have h5 := GN.set5 (.string (sQ (a.x + T * (c.x - a.x)))) (.string (sQ (a.y + T * (c.y - a.y)))) (.string (sQ (0 - (c.y - a.y)))) (.string (sQ (c.x - a.x))) (.string (sQ (a.q / F - T * T)))
        have hb8 := below_set5 hbw hle (.string (sQ (a.x + T * (c.x - a.x)))) (.string (sQ (a.y + T * (c.y - a.y)))) (.string (sQ (0 - (c.y - a.y)))) (.string (sQ (c.x - a.x))) (.string (sQ (a.q / F - T * T)))
        obtain ⟨z0, z1, z2, z3, z4⟩ := h5.cells5
        generalize ((((w1.setCell ⟨w.heap.size + 1 + 1, 0, none⟩ (.string (sQ (a.x + T * (c.x - a.x))))).setCell ⟨w.heap.size + 1 + 1, 1, none⟩ (.string (sQ (a.y + T * (c.y - a.y))))).setCell ⟨w.heap.size + 1 + 1, 2, none⟩ (.string (sQ (0 - (c.y - a.y))))).setCell ⟨w.heap.size + 1 + 1, 3, none⟩ (.string (sQ (c.x - a.x)))).setCell ⟨w.heap.size + 1 + 1, 4, none⟩ (.string (sQ (a.q / F - T * T))) = w9 at *
        refine bodyPost_ret (v := .tuple #[.agg (#[.string (sQ (a.x + T * (c.x - a.x))), .string (sQ (a.y + T * (c.y - a.y))), .string (sQ (0 - (c.y - a.y))), .string (sQ (c.x - a.x)), .string (sQ (a.q / F - T * T))]), .bool (decide (0 ≤ sn))]) (by simp [results, Tryz.results124, go_sem, z0, z1, z2, z3, z4, Result.andThen]) rfl ⟨ret_v HVV.out.symm, hb8⟩
end Go.Proofs.YtbdckemkmocdlaaGreatDoor

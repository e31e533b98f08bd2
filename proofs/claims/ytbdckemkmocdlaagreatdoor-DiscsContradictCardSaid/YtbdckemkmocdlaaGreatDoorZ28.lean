/- package discs: sums.proves. -/
import Derived.Test.YtbdckemkmocdlaaGreatDoorZ26
import Derived.Test.YtbdckemkmocdlaaGreatDoorZ27
import Derived.Laws.EntriesVeiled
set_option linter.unusedVariables false
set_option linter.unusedSimpArgs false
namespace Go.Proofs.YtbdckemkmocdlaaGreatDoor
open Go.RowKit

attribute [local irreducible] sI sQ

/-- the place that a witness names, if it names one -/
noncomputable def reachQ (l : List QD) (i j : Nat) (side : Int) : Option Spt :=
  match l[i]?, l[j]? with
  | some a, some c =>
    if i = j then (if side = 0 then some ⟨a.x, a.y, 0, 0, 0⟩ else none)
    else if farQ c.x c.y a.x a.y ≠ 0 ∧ 0 ≤ (spotQ a c side).h.num ∧ ((spotQ a c side).h = 0 ↔ side = 0) then some (spotQ a c side) else none
  | _, _ => none
noncomputable def provesQ (l : List QD) (i j : Nat) (side : Int) : Bool :=
  match reachQ l i j side with
  | some p => l.all (fun d => keepsQ d p)
  | none => false

structure FitProve (l : List QD) (i j : Nat) (side : Int) : Prop where
  spot : i ≠ j → ∀ a c, l[i]? = some a → l[j]? = some c → FitSpot a c
  keep : ∀ p, reachQ l i j side = some p → ∀ d ∈ l, FitKeep d p

theorem named_any (s b o cap i j : Nat) (side : Int) (l : List QD) (w : World) (h0 : OK0 w s) (hi : i < l.length) (hj : j < l.length) (hl : l.length ≤ 1000000) (hr : QRow w b o l) (hb : b < w.heap.size) (hf : FitProve l i j side) (he : Env w) :
    Calls Tryz.prog 83 #[.pointer (some ⟨s, 0, none⟩), .slice (some ⟨b, o, none⟩) l.length cap, .agg #[.int .i64 i, .int .i64 j, .int .i64 side]] w fun e w' =>
      ∃ (x0 x1 x2 x3 x4 : ByteArray) (ok : Bool), e = .returned (.tuple #[.agg #[.string x0, .string x1, .string x2, .string x3, .string x4], .bool ok]) ∧
        (ok = true → ∃ p, reachQ l i j side = some p ∧ x0 = sQ p.fx ∧ x1 = sQ p.fy ∧ x2 = sQ p.ux ∧ x3 = sQ p.uy ∧ x4 = sQ p.h) ∧ (ok = false → reachQ l i j side = none) ∧ Below w.heap.size w w' := by
  by_cases hij : i = j
  · subst hij
    refine (named_same s b o cap i side l w h0 hi hl hr hb he).mono ?_
    rintro e w' ⟨rfl, hb'⟩
    have hq : reachQ l i i side = if side = 0 then some ⟨(l[i]).x, (l[i]).y, 0, 0, 0⟩ else none := by
      unfold reachQ; rw [List.getElem?_eq_getElem hi]; simp
    refine ⟨_, _, _, _, _, side == 0, rfl, fun h => ?_, fun h => ?_, hb'⟩
    · have h2 : side = 0 := by simpa using h
      rw [hq, if_pos h2]; exact ⟨_, rfl, rfl, rfl, rfl, rfl, rfl⟩
    · have h2 : ¬ side = 0 := by simpa using h
      rw [hq, if_neg h2]
  · refine (named_pair s b o cap i j side l w h0 hij hi hj hl hr hb (hf.spot hij _ _ (List.getElem?_eq_getElem hi) (List.getElem?_eq_getElem hj)) he).mono ?_
    rintro e w' ⟨rfl, hb'⟩
    have hq : reachQ l i j side = if farQ (l[j]).x (l[j]).y (l[i]).x (l[i]).y ≠ 0 ∧ 0 ≤ (spotQ l[i] l[j] side).h.num ∧ ((spotQ l[i] l[j] side).h = 0 ↔ side = 0) then some (spotQ l[i] l[j] side) else none := by
      unfold reachQ; rw [List.getElem?_eq_getElem hi, List.getElem?_eq_getElem hj]; simp only [if_neg hij]
    unfold namedR
    by_cases hF : farQ (l[j]).x (l[j]).y (l[i]).x (l[i]).y = 0
    · rw [if_pos hF]
      refine ⟨_, _, _, _, _, false, rfl, fun h => absurd h (by decide), fun _ => ?_, hb'⟩
      rw [hq, if_neg (fun h => h.1 hF)]
    · rw [if_neg hF]
      refine ⟨_, _, _, _, _, _, rfl, fun h => ?_, fun h => ?_, hb'⟩
      · have h2 : 0 ≤ (spotQ l[i] l[j] side).h.num ∧ ((spotQ l[i] l[j] side).h = 0 ↔ side = 0) := by
          rw [Bool.and_eq_true, decide_eq_true_eq, beq_iff_eq, decide_eq_decide] at h; exact h
        rw [hq, if_pos ⟨hF, h2⟩]; exact ⟨_, rfl, rfl, rfl, rfl, rfl, rfl⟩
      · rw [hq, if_neg]
        rintro ⟨_, h2, h3⟩
        rw [Bool.and_eq_false_iff] at h
        rcases h with h | h
        · exact absurd h2 (by simpa using h)
        · rw [beq_eq_false_iff_ne] at h
          exact h (by rw [decide_eq_decide]; exact h3)


set_option maxRecDepth 100000 in
set_option maxHeartbeats 4000000 in
theorem proves_any (s b o cap i j : Nat) (side : Int) (l : List QD) (w : World) (h0 : OK0 w s) (hi : i < l.length) (hj : j < l.length) (hl : l.length ≤ 1000000) (hr : QRow w b o l) (hb : b < w.heap.size) (hf : FitProve l i j side) (he : Env w) :
    Calls Tryz.prog 53 #[.pointer (some ⟨s, 0, none⟩), .slice (some ⟨b, o, none⟩) l.length cap, .agg #[.int .i64 i, .int .i64 j, .int .i64 side]] w fun e w' =>
      e = .returned (.bool (provesQ l i j side)) ∧ Below w.heap.size w w' := by
  have KE := Lib.hid (show ∀ W, Below w.heap.size w W → Env W from fun W hW => he.below hW)
  have KO := Lib.hid (show ∀ W, Below w.heap.size w W → OK0 W s from fun W hW => h0.below hW)
  have a1 := (CB.new w #[.pointer (some ⟨s, 0, none⟩)] 71).alloc (.cells #[.int .i64 i, .int .i64 j, .int .i64 side] 40 (0, 0))
  have b1 := ((Below.refl w.heap.size w).alloc (Nat.le_refl _) (.cells #[.pointer (some ⟨s, 0, none⟩)] 71 (0, 0))).alloc (by rw [size_alloc]; omega) (.cells #[.int .i64 i, .int .i64 j, .int .i64 side] 40 (0, 0))
  have a2 := CB.new (w.alloc (.cells #[.pointer (some ⟨s, 0, none⟩)] 71 (0, 0))) #[.int .i64 i, .int .i64 j, .int .i64 side] 40
  simp only [size_alloc] at a2
  have HR := Lib.hid hr
  have HB := Lib.hid b1
  have H1 := Lib.hid a1
  have H2 := Lib.hid a2
  have HF := Lib.hid hf
  have M := Lib.hid (named_any s b o cap i j side l _ (h0.below b1) hi hj hl (hr.below b1 hb) (Nat.lt_of_lt_of_le hb b1.size) hf (he.below b1))
  have HV := Lib.hid (show provesQ l i j side = match reachQ l i j side with | some p => l.all (fun d => keepsQ d p) | none => false from rfl)
  clear a1 a2 b1 hr he h0 hf
  go_enter Tryz.func53, Tryz.ntmps53
  go_wp2_with fail
  generalize (w.alloc (.cells #[.pointer (some ⟨s, 0, none⟩)] 71 (0, 0))).alloc (.cells #[.int .i64 i, .int .i64 j, .int .i64 side] 40 (0, 0)) = W2 at *
  have c0 := H1.out.c 0
  obtain ⟨k1, k2, k3⟩ := H2.out.cells3
  simp at c0
  go_wp2_with fail
  with_reducible refine M.out.mono ?_
  rintro e w3 ⟨x0, x1, x2, x3, x4, ok, rfl, hok, hno, hb3⟩
  have hb4 := HB.out.trans (hb3.mono HB.out.size)
  have s1 : w.heap.size < W2.heap.size := H1.out.lt
  clear M c0 k1 k2 k3
  have d1 := H1.out.below hb3 H1.out.lt
  cases ok
  · have HN := Lib.hid (show provesQ l i j side = false by rw [HV.out, hno rfl])
    have hb5 := hb4.alloc hb4.size (.cells #[.string x0, .string x1, .string x2, .string x3, .string x4] 112 (0, 0))
    have HB6 := Lib.hid (fun c => hb5.alloc hb5.size c)
    clear hok hno hb5
    go_wp2_with fail
    go_ret
    exact ⟨ret_bool HN.out.symm, HB6.out _⟩
  · obtain ⟨p, hp, rfl, rfl, rfl, rfl, rfl⟩ := hok rfl
    have HN := Lib.hid (show provesQ l i j side = l.all (fun d => keepsQ d p) by rw [HV.out, hp])
    have hk := HF.out.keep p hp
    have g1 := (CB.new w3 #[.string (sQ p.fx), .string (sQ p.fy), .string (sQ p.ux), .string (sQ p.uy), .string (sQ p.h)] 112).alloc (.cells #[.func (.func 84) #[] #[.pointer (some ⟨w.heap.size, 0, none⟩), .pointer (some ⟨w3.heap.size, 0, none⟩)]] 27 (0, 0))
    have hx5 := (Below.refl w3.heap.size w3).alloc (Nat.le_refl _) (.cells #[.string (sQ p.fx), .string (sQ p.fy), .string (sQ p.ux), .string (sQ p.uy), .string (sQ p.h)] 112 (0, 0))
    have hx6 := hx5.alloc hx5.size (.cells #[.func (.func 84) #[] #[.pointer (some ⟨w.heap.size, 0, none⟩), .pointer (some ⟨w3.heap.size, 0, none⟩)]] 27 (0, 0))
    have hb6 := hb4.trans (hx6.mono hb4.size)
    have g2 := CB.new (w3.alloc (.cells #[.string (sQ p.fx), .string (sQ p.fy), .string (sQ p.ux), .string (sQ p.uy), .string (sQ p.h)] 112 (0, 0))) #[.func (.func 84) #[] #[.pointer (some ⟨w.heap.size, 0, none⟩), .pointer (some ⟨w3.heap.size, 0, none⟩)]] 27
    rw [size_alloc] at g2
    have d2 := d1.below hx6 d1.lt
    have hcp : Capt ((w3.alloc (.cells #[.string (sQ p.fx), .string (sQ p.fy), .string (sQ p.ux), .string (sQ p.uy), .string (sQ p.h)] 112 (0, 0))).alloc (.cells #[.func (.func 84) #[] #[.pointer (some ⟨w.heap.size, 0, none⟩), .pointer (some ⟨w3.heap.size, 0, none⟩)]] 27 (0, 0))) s w.heap.size w3.heap.size (w3.heap.size + 1) p := by
      refine ⟨d2.c 0, g1, g2.c 0, d2.lt, g2.lt⟩
    have M2 := Lib.hid (containsf_any s w.heap.size w3.heap.size (w3.heap.size + 1) b o cap l p _ (KO.out _ hb6) hcp hl (HR.out.below hb6 hb) (Nat.lt_of_lt_of_le hb hb6.size) hk (KE.out _ hb6))
    have HB6 := Lib.hid hb6
    have D2 := Lib.hid d2
    clear hok hno hcp hx5 hx6 g1 g2 hk d1 d2 hb6 hp
    go_wp2_with fail
    generalize (w3.alloc (.cells #[.string (sQ p.fx), .string (sQ p.fy), .string (sQ p.ux), .string (sQ p.uy), .string (sQ p.h)] 112 (0, 0))).alloc (.cells #[.func (.func 84) #[] #[.pointer (some ⟨w.heap.size, 0, none⟩), .pointer (some ⟨w3.heap.size, 0, none⟩)]] 27 (0, 0)) = w5 at *
    with_reducible refine M2.out.mono ?_
    rintro e w7 ⟨rfl, hb7⟩
    have c0 := (D2.out.below hb7 D2.out.lt).c 0
    have hb8 := HB6.out.trans (hb7.mono HB6.out.size)
    have c1 := (KO.out _ hb8).1
    simp at c0
    generalize l.all (fun d => keepsQ d p) = r at *
    cases r
    · go_wp2_with fail
      go_ret
      exact ⟨ret_bool HN.out.symm, hb8⟩
    · go_wp2_with fail
      go_ret
      exact ⟨ret_bool HN.out.symm, hb8⟩
end Go.Proofs.YtbdckemkmocdlaaGreatDoor

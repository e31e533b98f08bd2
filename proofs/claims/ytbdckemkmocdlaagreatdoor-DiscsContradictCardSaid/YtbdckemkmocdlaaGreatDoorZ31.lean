/- the law DiscsContain. -/
import Derived.Test.YtbdckemkmocdlaaGreatDoorZ30
import Derived.Test.YtbdckemkmocdlaaGreatDoorZ23
set_option linter.all false
set_option exponentiation.threshold 2000000
namespace Go.Proofs.YtbdckemkmocdlaaGreatDoor
open Go.RowKit

attribute [local irreducible] sI sQ

/-- an error of a disc, or a right disc of short numbers -/
theorem short_cases {x y q : ByteArray} (h : short12 x y q = true) : (chkD x.data.toList y.data.toList q.data.toList ≠ 0) ∨ ∃ a b p : Rat, x = sQ a ∧ y = sQ b ∧ q = sQ p ∧ 0 ≤ p.num ∧ Sh a b p := by
  have h3 := (short12_nth x y q).1 h
  have hx : x.size ≤ 12 := h3 0 (by omega)
  have hy : y.size ≤ 12 := h3 1 (by omega)
  have hq : q.size ≤ 12 := h3 2 (by omega)
  by_cases h0 : chkD x.data.toList y.data.toList q.data.toList = 0
  · right
    unfold chkD at h0
    split at h0
    · rename_i hc; exact absurd h0 hc
    split at h0
    · rename_i hc; exact absurd h0 hc
    split at h0
    · rename_i hc; exact absurd h0 hc
    rename_i c1 c2 c3
    have hz : ∀ z : ByteArray, ¬ chkR z.data.toList ≠ 0 → ∃ r, z = sQ r := fun z hz => by
      rcases chkR_cases z.data.toList with ⟨⟨r, hr⟩, _⟩ | ⟨_, h⟩
      · exact ⟨r, sQ_of hr⟩
      · exact absurd (by rw [h]; decide) hz
    obtain ⟨a, rfl⟩ := hz x c1
    obtain ⟨b, rfl⟩ := hz y c2
    obtain ⟨p, rfl⟩ := hz q c3
    refine ⟨a, b, p, rfl, rfl, rfl, ?_, ⟨sz_short hx, sz_short hy, sz_short hq⟩⟩
    split at h0
    · cases h0
    · rename_i hn
      have e1 := head_ba (sQ p) (sQ_pos p) 45
      have e2 := sQ_head p
      apply Classical.byContradiction
      intro hneg
      exact hn (e1.2 (e2.2 (by omega)))
  · exact .inl h0
theorem place_cases {u v : ByteArray} (hu : u.size ≤ 12) (hv : v.size ≤ 12) : (chkR u.data.toList = 3 ∨ (chkR u.data.toList = 0 ∧ chkR v.data.toList = 3)) ∨ ∃ c d : Rat, u = sQ c ∧ v = sQ d ∧ Sz 12 10 c ∧ Sz 12 10 d := by
  rcases chkR_cases u.data.toList with ⟨⟨r, hr⟩, h1⟩ | ⟨_, h1⟩
  · rcases chkR_cases v.data.toList with ⟨⟨s, hs⟩, h2⟩ | ⟨_, h2⟩
    · obtain rfl := sQ_of hr
      obtain rfl := sQ_of hs
      exact .inr ⟨r, s, rfl, rfl, sz_short hu, sz_short hv⟩
    · exact .inl (.inr ⟨h1, h2⟩)
  · exact .inl (.inl h1)

/-- both sides answer alike -/
theorem contain_both (x y q u v : ByteArray) (h : short12 x y q = true) (hu : u.size ≤ 12) (hv : v.size ≤ 12) : ∃ (r : Bool) (n : Int),
    (∀ w, Env w → Calls Tryz.prog 20 #[dtV x y q, ptV u v] w fun e w' => e = .returned (.tuple #[.bool r, .int .i64 n]) ∧ Below w.heap.size w w') ∧
    (∀ w, Calls Tryz.prog 21 #[dtV x y q, ptV u v] w fun e w' => e = .returned (.tuple #[.bool r, .int .i64 n]) ∧ Below w.heap.size w w') := by
  have h3 := (short12_nth x y q).1 h
  have hx : x.size ≤ 1000 := Nat.le_trans (h3 0 (by omega)) (by omega)
  have hy : y.size ≤ 1000 := Nat.le_trans (h3 1 (by omega)) (by omega)
  have hq : q.size ≤ 1000 := Nat.le_trans (h3 2 (by omega)) (by omega)
  have hu' : u.size ≤ 1000 := by omega
  have hv' : v.size ≤ 1000 := by omega
  rcases short_cases h with hn | ⟨a, b, p, rfl, rfl, rfl, hp, hs⟩
  · exact ⟨false, _, fun w he => dcontains_bad x y q u v w hx hy hq hn he, fun w => rcontains_bad x y q u v w hx hy hq hn⟩
  · have h0 : chkD (sQ a).data.toList (sQ b).data.toList (sQ p).data.toList = 0 := chkD_ok hp
    rcases place_cases hu hv with hn | ⟨c, d, rfl, rfl, hc, hd⟩
    · exact ⟨false, 3, fun w he => dcontains_bad2 _ _ _ u v w hx hy hq hu' hv' h0 hn he, fun w => rcontains_bad2 _ _ _ u v w hx hy hq hu' hv' h0 hn⟩
    · exact ⟨hasQ a b p c d, 0, fun w he => dcontains_ok a b p c d w ⟨hx, hy, hq, hu', hv'⟩ hp (fitHas hs.x hs.y hs.s hc hd) he,
        fun w => rcontains_ok a b p c d w ⟨hx, hy, hq, hu', hv'⟩ hp hs hc hd⟩


set_option maxRecDepth 100000 in
set_option maxHeartbeats 2000000 in
theorem lawContain_any (x y q u v : ByteArray) (w : World) (he : Env w) :
    Calls Tryz.prog 5 #[dtV x y q, ptV u v] w fun e w' => e = .returned (.bool true) ∧ Below w.heap.size w w' := by
  have KE := Lib.hid (show ∀ W, Below w.heap.size w W → Env W from fun W hW => he.below hW)
  obtain ⟨b0, a1, a2⟩ := disc_place w x y q u v
  have HB := Lib.hid b0
  have H1 := Lib.hid a1
  have H2 := Lib.hid a2
  obtain ⟨c0, c1, c2⟩ := a1.cells3
  have M1 := Lib.hid (fun W => rshort_any x y q W)
  have MB := Lib.hid (fun (h : short12 x y q = true) (hu : u.size ≤ 12) (hv : v.size ≤ 12) => contain_both x y q u v h hu hv)
  clear a1 a2 b0 he
  go_enter Tryz.func5, Tryz.ntmps5
  go_wp2_with fail
  generalize (w.alloc (.cells #[.string x, .string y, .string q] 26 (0, 0))).alloc (.cells #[.string u, .string v] 24 (0, 0)) = W0 at *
  go_wp2_with fail
  with_reducible refine (M1.out _).mono ?_
  rintro e w1 ⟨rfl, hb1⟩
  have hb2 := HB.out.trans (hb1.mono HB.out.size)
  have e1 := H1.out.below hb1 H1.out.lt
  have e2 := H2.out.below hb1 H2.out.lt
  have r0 := e2.c 0
  have r1 := e2.c 1
  simp at r0 r1
  clear c0 c1 c2
  by_cases hs : short12 x y q = true
  · by_cases hu : u.size ≤ 12
    · by_cases hv : v.size ≤ 12
      · obtain ⟨r, n, hA, hB⟩ := MB.out hs hu hv
        have MA := Lib.hid hA
        have MR := Lib.hid hB
        rw [hs]
        obtain ⟨c0, c1, c2⟩ := e1.cells3
        have t1 : ¬ 12 < u.size := by omega
        have t2 : ¬ 12 < v.size := by omega
        clear MB M1 hA hB hs
        go_wp2_with fail
        refine (MA.out _ (KE.out _ hb2)).mono ?_
        rintro e w3 ⟨rfl, hb3⟩
        have hb4 := hb2.trans (hb3.mono hb2.size)
        have e3 := e1.below hb3 e1.lt
        have e4 := e2.below hb3 e2.lt
        clear c0 c1 c2 r0 r1
        obtain ⟨c0, c1, c2⟩ := e3.cells3
        have r0 := e4.c 0
        have r1 := e4.c 1
        simp at r0 r1
        go_wp2_with fail
        refine (MR.out _).mono ?_
        rintro e w5 ⟨rfl, hb5⟩
        have hb6 := hb4.trans (hb5.mono hb4.size)
        clear c0 c1 c2 r0 r1 e3 e4 e1 e2
        go_wp2_with fail
        refine (awake_any _ (KE.out _ hb6)).mono ?_
        rintro e w7 ⟨rfl, hb7⟩
        go_wp2_with fail
        go_ret
        exact ⟨rfl, hb6.trans (hb7.mono hb6.size)⟩
      · have t1 : ¬ 12 < u.size := by omega
        have t2 : 12 < v.size := by omega
        rw [hs]
        clear MB M1 hs
        go_wp2_with fail
        refine (awake_any _ (KE.out _ hb2)).mono ?_
        rintro e w7 ⟨rfl, hb7⟩
        go_wp2_with fail
        go_ret
        exact ⟨rfl, hb2.trans (hb7.mono hb2.size)⟩
    · have t1 : 12 < u.size := by omega
      rw [hs]
      clear MB M1 hs
      go_wp2_with fail
      refine (awake_any _ (KE.out _ hb2)).mono ?_
      rintro e w7 ⟨rfl, hb7⟩
      go_wp2_with fail
      go_ret
      exact ⟨rfl, hb2.trans (hb7.mono hb2.size)⟩
  · rw [Bool.not_eq_true] at hs
    rw [hs]
    clear MB M1 hs
    go_wp2_with fail
    refine (awake_any _ (KE.out _ hb2)).mono ?_
    rintro e w7 ⟨rfl, hb7⟩
    go_wp2_with fail
    go_ret
    exact ⟨rfl, hb2.trans (hb7.mono hb2.size)⟩
end Go.Proofs.YtbdckemkmocdlaaGreatDoor

/- the law DiscsRelate. -/
namespace Go.Proofs.YtbdckemkmocdlaaGreatDoor
open Go.RowKit

attribute [local irreducible] sI sQ

/-- both sides answer alike -/
theorem relate_both (x y q x' y' q' : ByteArray) (h : short12 x y q = true) (h' : short12 x' y' q' = true) : ∃ (r n : Int),
    (∀ w, Env w → Calls Tryz.prog 12 #[dtV x y q, dtV x' y' q'] w fun e w' => e = .returned (.tuple #[.int .i64 r, .int .i64 n]) ∧ Below w.heap.size w w') ∧
    (∀ w, Calls Tryz.prog 13 #[dtV x y q, dtV x' y' q'] w fun e w' => e = .returned (.tuple #[.int .i64 r, .int .i64 n]) ∧ Below w.heap.size w w') := by
  have h3 := (short12_nth x y q).1 h
  have hx : x.size ≤ 1000 := Nat.le_trans (h3 0 (by omega)) (by omega)
  have hy : y.size ≤ 1000 := Nat.le_trans (h3 1 (by omega)) (by omega)
  have hq : q.size ≤ 1000 := Nat.le_trans (h3 2 (by omega)) (by omega)
  have g3 := (short12_nth x' y' q').1 h'
  have hx' : x'.size ≤ 1000 := Nat.le_trans (g3 0 (by omega)) (by omega)
  have hy' : y'.size ≤ 1000 := Nat.le_trans (g3 1 (by omega)) (by omega)
  have hq' : q'.size ≤ 1000 := Nat.le_trans (g3 2 (by omega)) (by omega)
  rcases short_cases h with hn | ⟨a, b, p, rfl, rfl, rfl, hp, hs⟩
  · exact ⟨0, _, fun w he => drelate_err x y q x' y' q' w hx hy hq hx' hy' hq' he _ hn (.inl rfl), fun w => rfrelate_err x y q x' y' q' w hx hy hq hx' hy' hq' _ hn (.inl rfl)⟩
  · have h0 : chkD (sQ a).data.toList (sQ b).data.toList (sQ p).data.toList = 0 := chkD_ok hp
    rcases short_cases h' with hn | ⟨c, d, r, rfl, rfl, rfl, hr, ht⟩
    · exact ⟨0, _, fun w he => drelate_err _ _ _ x' y' q' w hx hy hq hx' hy' hq' he _ hn (.inr ⟨h0, rfl⟩), fun w => rfrelate_err _ _ _ x' y' q' w hx hy hq hx' hy' hq' _ hn (.inr ⟨h0, rfl⟩)⟩
    · exact ⟨kindQ a b p c d r, 0, fun w he => drelate_ok a b p c d r w ⟨hx, hy, hq, hx', hy', hq'⟩ hp hr (fitPair hs.x hs.y hs.s ht.x ht.y ht.s hp hr) (fitPair ht.x ht.y ht.s hs.x hs.y hs.s hr hp) he,
        fun w => rfrelate_ok a b p c d r w ⟨hx, hy, hq, hx', hy', hq'⟩ hp hr hs ht⟩


set_option maxRecDepth 100000 in
set_option maxHeartbeats 2000000 in
theorem lawRelate_any (x y q x' y' q' : ByteArray) (w : World) (he : Env w) :
    Calls Tryz.prog 3 #[dtV x y q, dtV x' y' q'] w fun e w' => e = .returned (.bool true) ∧ Below w.heap.size w w' := by
  have KE := Lib.hid (show ∀ W, Below w.heap.size w W → Env W from fun W hW => he.below hW)
  obtain ⟨b0, a1, a2⟩ := two_blocks w x y q x' y' q'
  have HB := Lib.hid b0
  have H1 := Lib.hid a1
  have H2 := Lib.hid a2
  obtain ⟨c0, c1, c2⟩ := a1.cells3
  have M1 := Lib.hid (fun W => rshort_any x y q W)
  have M2 := Lib.hid (fun W => rshort_any x' y' q' W)
  have MB := Lib.hid (fun (h : short12 x y q = true) (h' : short12 x' y' q' = true) => relate_both x y q x' y' q' h h')
  have MC := Lib.hid (fun (h : short12 x y q = true) => show x.size ≤ 1000 ∧ y.size ≤ 1000 ∧ q.size ≤ 1000 from by
    have h3 := (short12_nth x y q).1 h
    exact ⟨Nat.le_trans (h3 0 (by omega)) (by omega), Nat.le_trans (h3 1 (by omega)) (by omega), Nat.le_trans (h3 2 (by omega)) (by omega)⟩)
  clear a1 a2 b0 he
  go_enter Tryz.func3, Tryz.ntmps3
  go_wp2_with fail
  generalize (w.alloc (.cells #[.string x, .string y, .string q] 26 (0, 0))).alloc (.cells #[.string x', .string y', .string q'] 26 (0, 0)) = W0 at *
  go_wp2_with fail
  with_reducible refine (M1.out _).mono ?_
  rintro e w1 ⟨rfl, hb1⟩
  have hb2 := HB.out.trans (hb1.mono HB.out.size)
  have e1 := H1.out.below hb1 H1.out.lt
  have e2 := H2.out.below hb1 H2.out.lt
  clear c0 c1 c2
  by_cases hs : short12 x y q = true
  · rw [hs]
    obtain ⟨r0, r1, r2⟩ := e2.cells3
    go_wp2_with fail
    with_reducible refine (M2.out _).mono ?_
    rintro e w3 ⟨rfl, hb3⟩
    have hb4 := hb2.trans (hb3.mono hb2.size)
    have e3 := e1.below hb3 e1.lt
    have e4 := e2.below hb3 e2.lt
    clear r0 r1 r2
    by_cases hs' : short12 x' y' q' = true
    · obtain ⟨r, n, hA, hB⟩ := MB.out hs hs'
      obtain ⟨l1, l2, l3⟩ := MC.out hs
      have MA := Lib.hid hA
      have MR := Lib.hid hB
      rw [hs']
      obtain ⟨c0, c1, c2⟩ := e3.cells3
      obtain ⟨r0, r1, r2⟩ := e4.cells3
      clear MB M1 M2 MC hA hB hs hs'
      go_wp2_with fail
      refine (MA.out _ (KE.out _ hb4)).mono ?_
      rintro e w4 ⟨rfl, hb5⟩
      have hb6 := hb4.trans (hb5.mono hb4.size)
      have e5 := e3.below hb5 e3.lt
      have e6 := e4.below hb5 e4.lt
      clear c0 c1 c2 r0 r1 r2
      obtain ⟨c0, c1, c2⟩ := e5.cells3
      obtain ⟨r0, r1, r2⟩ := e6.cells3
      go_wp2_with fail
      refine (MR.out _).mono ?_
      rintro e w5 ⟨rfl, hb7⟩
      have E7 := Lib.hid (e5.below hb7 e5.lt)
      have HB8 := Lib.hid (hb6.trans (hb7.mono hb6.size))
      clear c0 c1 c2 r0 r1 r2 e1 e2 e3 e4 e5 e6 hb1 hb2 hb3 hb4 hb5 hb6 hb7 MA MR HB H1 H2
      have KS := Lib.hid (show ∀ W, Below w5.heap.size w5 W → (W.cell? ⟨w.heap.size, 0, none⟩ = some (.string x) ∧ W.cell? ⟨w.heap.size, 1, none⟩ = some (.string y) ∧ W.cell? ⟨w.heap.size, 2, none⟩ = some (.string q)) ∧ (Below w5.heap.size w5 W ∧ Below w.heap.size w W) from fun W hW => by
        have e := E7.out.below hW E7.out.lt
        exact ⟨⟨e.c 0, e.c 1, e.c 2⟩, hW, HB8.out.trans (hW.mono HB8.out.size)⟩)
      have MD := Lib.hid (fun W hW => dcheck_any x y q W l1 l2 l3 (KE.out W hW))
      have MF := Lib.hid (fun W => rfcheck_any x y q W l1 l2 l3)
      have MW := Lib.hid (fun W hW => awake_any W (KE.out W hW))
      generalize chkD x.data.toList y.data.toList q.data.toList = m at *
      have t1 : (m == m) = true := by simp
      have t2 : (r == r) = true := by simp
      have t3 : (n == n) = true := by simp
      go_wp2_with fail
      go_region_held3 (fun W => (W.cell? ⟨w.heap.size, 0, none⟩ = some (.string x) ∧ W.cell? ⟨w.heap.size, 1, none⟩ = some (.string y) ∧ W.cell? ⟨w.heap.size, 2, none⟩ = some (.string q)) ∧ (Below w5.heap.size w5 W ∧ Below w.heap.size w W))
        ((refine KS.out _ ?_; first | exact (Below.refl _ _).drew | assumption))
        (first | (go_at_call 11; have hh := ‹(_ ∧ _) ∧ (_ ∧ Below w.heap.size w _)›; with_reducible refine (MW.out _ hh.2.2).mono ?_; rintro e w1 ⟨rfl, hb1⟩; have hb2 := hh.2.1.trans (hb1.mono hh.2.1.size)) | (go_at_call 14; have hh := ‹(_ ∧ _) ∧ (_ ∧ Below w.heap.size w _)›; with_reducible refine (MD.out _ hh.2.2).mono ?_; rintro e w1 ⟨rfl, hb1⟩; have hb2 := hh.2.1.trans (hb1.mono hh.2.1.size)) | (go_at_call 15; have hh := ‹(_ ∧ _) ∧ (_ ∧ Below w.heap.size w _)›; with_reducible refine (MF.out _).mono ?_; rintro e w1 ⟨rfl, hb1⟩; have hb2 := hh.2.1.trans (hb1.mono hh.2.1.size)))
      obtain ⟨_, _, hb3⟩ := KS.out _ hb2
      go_wp2_with fail
      go_ret
      exact ⟨rfl, hb3⟩
    · rw [Bool.not_eq_true] at hs'
      rw [hs']
      clear MB M1 M2 MC hs hs'
      go_wp2_with fail
      refine (awake_any _ (KE.out _ hb4)).mono ?_
      rintro e w7 ⟨rfl, hb7⟩
      go_wp2_with fail
      go_ret
      exact ⟨rfl, hb4.trans (hb7.mono hb4.size)⟩
  · rw [Bool.not_eq_true] at hs
    rw [hs]
    clear MB M1 M2 MC hs
    go_wp2_with fail
    refine (awake_any _ (KE.out _ hb2)).mono ?_
    rintro e w7 ⟨rfl, hb7⟩
    go_wp2_with fail
    go_ret
    exact ⟨rfl, hb2.trans (hb7.mono hb2.size)⟩
end Go.Proofs.YtbdckemkmocdlaaGreatDoor

/- metrolabref02: Check, on short texts. -/
import Derived.Test.YtbdckemkmocdlaaGreatDoorZ21
import Derived.Test.YtbdckemkmocdlaaGreatDoorZ16
import Derived.Test.YtbdckemkmocdlaaGreatDoorZ15
import Derived.Test.YtbdckemkmocdlaaGreatDoorZ17
set_option linter.all false
set_option exponentiation.threshold 2000000
namespace Go.Proofs.YtbdckemkmocdlaaGreatDoor
open Go.RowKit

attribute [local irreducible] sI sQ

theorem cutQ_sizes {s a b : ByteArray} {t : Bool} (h : cutQ s.data.toList = (a.data.toList, b.data.toList, t)) : a.size ≤ s.size + 1 ∧ b.size ≤ s.size + 1 := by
  rcases cutQ_cases h with ⟨_, _, h1, h2⟩ | ⟨_, h1, _⟩
  · rw [h1, h2]; exact ⟨by omega, by show 1 ≤ _; omega⟩
  · have : s.size = a.size + 1 + b.size := by rw [ba_size s, h1, ba_size, ba_size]; simp; omega
    omega


set_option maxRecDepth 100000 in
set_option maxHeartbeats 2000000 in
theorem rq_bad1 (s a b : ByteArray) (t : Bool) (w : World) (hs : s.size ≤ 1000) (hc : cutQ s.data.toList = (a.data.toList, b.data.toList, t)) (h : chkW a.data.toList = 3) :
    Calls Tryz.prog 44 #[.string s] w fun e w' => e = .returned (.int .i64 3) ∧ Below w.heap.size w w' := by
  have HZ := cutQ_sizes hc
  have HC := Lib.hid hc
  have H := Lib.hid h
  clear hc h
  go_enter Tryz.func44, Tryz.ntmps44
  go_wp2_with fail
  refine (split_any s a b t _ (by omega) HC.out).mono ?_
  rintro e w1 ⟨rfl, hb1⟩
  go_wp2_with fail
  refine (rcheck_any a _ (by omega)).mono ?_
  rintro e w2 ⟨rfl, rfl⟩
  rw [H.out]
  go_wp2_with fail
  go_ret
  exact ⟨rfl, hb1⟩

set_option maxRecDepth 100000 in
set_option maxHeartbeats 2000000 in
theorem rq_bad2 (s a b : ByteArray) (t : Bool) (w : World) (hs : s.size ≤ 1000) (hc : cutQ s.data.toList = (a.data.toList, b.data.toList, t)) (h : chkW a.data.toList = 0) (h2 : chkW b.data.toList = 3) :
    Calls Tryz.prog 44 #[.string s] w fun e w' => e = .returned (.int .i64 3) ∧ Below w.heap.size w w' := by
  have HZ := cutQ_sizes hc
  have HC := Lib.hid hc
  have H := Lib.hid h
  have H2 := Lib.hid h2
  clear hc h h2
  go_enter Tryz.func44, Tryz.ntmps44
  go_wp2_with fail
  refine (split_any s a b t _ (by omega) HC.out).mono ?_
  rintro e w1 ⟨rfl, hb1⟩
  go_wp2_with fail
  refine (rcheck_any a _ (by omega)).mono ?_
  rintro e w2 ⟨rfl, rfl⟩
  rw [H.out]
  go_wp2_with fail
  refine (rcheck_any b _ (by omega)).mono ?_
  rintro e w2 ⟨rfl, rfl⟩
  rw [H2.out]
  go_wp2_with fail
  go_ret
  exact ⟨rfl, hb1⟩


set_option maxRecDepth 100000 in
set_option maxHeartbeats 2000000 in
theorem rq_whole (s : ByteArray) (w : World) (hs : s.size ≤ 1000) (hn : (47 : UInt8) ∉ s.data.toList) (h : chkW s.data.toList = 0) :
    Calls Tryz.prog 44 #[.string s] w fun e w' => e = .returned (.int .i64 0) ∧ Below w.heap.size w w' := by
  have HC := Lib.hid (show cutQ s.data.toList = (s.data.toList, (⟨#[49]⟩ : ByteArray).data.toList, false) by unfold cutQ; rw [cut_none hn]; rfl)
  have HN := Lib.hid hn
  have H := Lib.hid h
  have H2 := Lib.hid (show chkW (⟨#[49]⟩ : ByteArray).data.toList = 0 by
    rw [sI_one, sI_list, chkW_itoa, if_pos (show (Lib.decDigits (Int.natAbs 1)).length ≤ 1024 from fit_one)])
  clear hn h
  go_enter Tryz.func44, Tryz.ntmps44
  go_wp2_with fail
  refine (split_any s s ⟨#[49]⟩ false _ (by omega) HC.out).mono ?_
  rintro e w1 ⟨rfl, hb1⟩
  go_wp2_with fail
  refine (rcheck_any s _ (by omega)).mono ?_
  rintro e w2 ⟨rfl, rfl⟩
  rw [H.out]
  go_wp2_with fail
  refine (rcheck_any ⟨#[49]⟩ _ (by decide)).mono ?_
  rintro e w2 ⟨rfl, rfl⟩
  rw [H2.out]
  go_wp2_with fail
  refine (rcheck_any s _ (by omega)).mono ?_
  rintro e w2 ⟨rfl, rfl⟩
  rw [H.out]
  go_wp2_with fail
  refine (rcheck_any ⟨#[49]⟩ _ (by decide)).mono ?_
  rintro e w2 ⟨rfl, rfl⟩
  rw [H2.out]
  go_wp2_with fail
  refine (slash_none s _ (by omega) HN.out).mono ?_
  rintro e w2 ⟨rfl, rfl⟩
  go_wp2_with fail
  go_ret
  exact ⟨rfl, hb1⟩

set_option maxRecDepth 100000 in
set_option maxHeartbeats 2000000 in
theorem rq_pair (s : ByteArray) (n d V : Int) (w : World) (hV : V = if 1 < d ∧ Int.gcd n d = 1 then 0 else 3) (hs : s.size ≤ 1000) (hl : s.data.toList = Lib.itoa n ++ 47 :: Lib.itoa d) :
    Calls Tryz.prog 44 #[.string s] w fun e w' => e = .returned (.int .i64 V) ∧ Below w.heap.size w w' := by
  have HVV := Lib.hid hV
  clear hV
  have hll := congrArg List.length hl
  rw [← ba_size] at hll; simp at hll
  have l1 : Lg 1000 n := short_len (by omega)
  have l2 : Lg 1000 d := short_len (by omega)
  have HC := Lib.hid (show cutQ s.data.toList = ((sI n).data.toList, (sI d).data.toList, true) by rw [hl, sI_list, sI_list]; unfold cutQ; rw [cut_some (not47_itoa n)]; rfl)
  have H := Lib.hid (show chkW (sI n).data.toList = 0 by rw [sI_list, chkW_itoa, if_pos (Nat.le_trans l1 (by omega))])
  have H2 := Lib.hid (show chkW (sI d).data.toList = 0 by rw [sI_list, chkW_itoa, if_pos (Nat.le_trans l2 (by omega))])
  have HL := Lib.hid hl
  have hz1 := l1.sI
  have hz2 := l2.sI
  have HO := Lib.hid (fun W => rorder_any d 1 W (l2.mono (by omega)) (((lg_iff (a := 1) (by omega)).2 (by decide)).mono (by omega)))
  have HG := Lib.hid (fun W => rshared_any n d W (l1.mono (by omega)) (l2.mono (by omega)))
  have hg := sI_eq_one (Int.gcd n d)
  have hh : (sgn (d - 1) ≤ 0 ∧ ¬ 1 < d) ∨ (0 < sgn (d - 1) ∧ 1 < d) := by
    rcases sgn_cases (d - 1) with ⟨a, b⟩ | ⟨a, b⟩ | ⟨a, b⟩
    · left; omega
    · left; omega
    · right; omega
  clear hl hll l1 l2
  go_enter Tryz.func44, Tryz.ntmps44
  go_wp2_with fail
  refine (split_any s (sI n) (sI d) true _ (by omega) HC.out).mono ?_
  rintro e w1 ⟨rfl, hb1⟩
  go_wp2_with fail
  refine (rcheck_any (sI n) _ (by omega)).mono ?_
  rintro e w2 ⟨rfl, rfl⟩
  rw [H.out]
  go_wp2_with fail
  refine (rcheck_any (sI d) _ (by omega)).mono ?_
  rintro e w2 ⟨rfl, rfl⟩
  rw [H2.out]
  go_wp2_with fail
  refine (rcheck_any (sI n) _ (by omega)).mono ?_
  rintro e w2 ⟨rfl, rfl⟩
  rw [H.out]
  go_wp2_with fail
  refine (rcheck_any (sI d) _ (by omega)).mono ?_
  rintro e w2 ⟨rfl, rfl⟩
  rw [H2.out]
  go_wp2_with fail
  refine (slash_some s _ _ _ (by omega) HL.out (not47_itoa n)).mono ?_
  rintro e w2 ⟨rfl, rfl⟩
  generalize (Lib.itoa n).length = k at *
  go_wp2_with fail
  rw [sI_one]
  refine (HO.out _).mono ?_
  rintro e w3 ⟨rfl, hb3⟩
  have hb4 := hb1.trans (hb3.mono hb1.size)
  rcases hh with ⟨h1, h2⟩ | ⟨h1, h2⟩
  · have HV := Lib.hid (show V = 3 by rw [HVV.out, if_neg (fun h => absurd h.1 (by omega))])
    generalize sgn (d - 1) = o at *
    clear hg h2
    go_wp2_with fail
    go_ret
    exact ⟨ret_int HV.out.symm, hb4⟩
  · by_cases h3 : Int.gcd n d = 1
    · have HV := Lib.hid (show V = 0 by rw [HVV.out, if_pos ⟨h2, h3⟩])
      rw [decide_eq_true (by omega)] at hg
      generalize sgn (d - 1) = o at *
      clear h2 h3
      go_wp2_with fail
      refine (HG.out _).mono ?_
      rintro e w5 ⟨rfl, hb5⟩
      go_wp2_with fail
      go_ret
      exact ⟨ret_int HV.out.symm, hb4.trans (hb5.mono hb4.size)⟩
    · have HV := Lib.hid (show V = 3 by rw [HVV.out, if_neg (fun h => h3 h.2)])
      rw [decide_eq_false (by omega)] at hg
      generalize sgn (d - 1) = o at *
      clear h2 h3
      go_wp2_with fail
      refine (HG.out _).mono ?_
      rintro e w5 ⟨rfl, hb5⟩
      go_wp2_with fail
      go_ret
      exact ⟨ret_int HV.out.symm, hb4.trans (hb5.mono hb4.size)⟩

theorem rqcheck_short (s : ByteArray) (w : World) (hs : s.size ≤ 1000) :
    Calls Tryz.prog 44 #[.string s] w fun e w' => e = .returned (.int .i64 (chkR s.data.toList)) ∧ Below w.heap.size w w' := by
  have hl : s.data.toList.length ≤ 1000 := by rw [← ba_size]; exact hs
  rcases slash_cases s.data.toList with h | ⟨a, r, h1, h2⟩
  · have hcut : cutQ s.data.toList = (s.data.toList, (⟨#[49]⟩ : ByteArray).data.toList, false) := by unfold cutQ; rw [cut_none h]; rfl
    rcases chkW_cases s.data.toList with ⟨h4, h3⟩ | ⟨n, hn, h3⟩
    · have : chkR s.data.toList = 3 := by
        unfold chkR; rw [if_neg]
        rintro ⟨x, hx⟩
        by_cases hd : x.den = 1
        · rw [ratT_one hd] at hx; exact h4 ⟨_, hx⟩
        · rw [ratT_ne hd] at hx; exact h (by rw [hx]; simp)
      rw [this]; exact rq_bad1 s s _ false w hs hcut h3
    · have f : (Lib.decDigits n.natAbs).length ≤ 1024 := by have := short_len (n := n) (k := 1000) (by rw [← hn]; exact hl); omega
      rw [if_pos f] at h3
      have : chkR s.data.toList = 0 := by unfold chkR; rw [if_pos ⟨n, by rw [hn, rat_int]⟩]
      rw [this]; exact rq_whole s w hs h h3
  · obtain ⟨a, rfl⟩ := ba_ex a
    obtain ⟨r, rfl⟩ := ba_ex r
    have hcut : cutQ s.data.toList = (a.data.toList, r.data.toList, true) := by unfold cutQ; rw [h1, cut_some h2]; rfl
    have hlen : a.size + r.size + 1 ≤ 1000 := by
      rw [h1] at hl; rw [ba_size, ba_size]; simp at hl ⊢; omega
    have hbad : (¬ canI a.data.toList ∨ ¬ canI r.data.toList) → chkR s.data.toList = 3 := by
      intro hh
      unfold chkR; rw [if_neg]
      rintro ⟨x, hx⟩
      have hcr := cutQ_rat x
      rw [← hx, hcut] at hcr
      simp only [Prod.mk.injEq] at hcr
      rcases hh with hh | hh
      · exact hh ⟨_, hcr.1⟩
      · exact hh ⟨x.den, by rw [itoa_nat]; exact hcr.2.1⟩
    rcases chkW_cases a.data.toList with ⟨h5, h3⟩ | ⟨n, hn, h3⟩
    · rw [hbad (Or.inl h5)]; exact rq_bad1 s a r true w hs hcut h3
    · have f1 : (Lib.decDigits n.natAbs).length ≤ 1024 := by have := short_len (n := n) (k := 1000) (by rw [← hn, ← ba_size]; omega); omega
      rw [if_pos f1] at h3
      rcases chkW_cases r.data.toList with ⟨h5, h4⟩ | ⟨d, hd, h4⟩
      · rw [hbad (Or.inr h5)]; exact rq_bad2 s a r true w hs hcut h3 h4
      · have hsl : s.data.toList = Lib.itoa n ++ 47 :: Lib.itoa d := by rw [h1, hn, hd]
        have hv : chkR s.data.toList = if 1 < d ∧ Int.gcd n d = 1 then 0 else 3 := by
          by_cases hg : 1 < d ∧ Int.gcd n d = 1
          · rw [if_pos hg]; unfold chkR; rw [if_pos (by rw [hsl]; exact rat_of n d hg.1 hg.2)]
          · rw [if_neg hg]; unfold chkR; rw [if_neg]
            rintro ⟨x, hx⟩
            have hcr := cutQ_rat x
            rw [← hx, hcut] at hcr
            simp only [Prod.mk.injEq] at hcr
            obtain ⟨c1, c2, c3⟩ := hcr
            rw [hn] at c1
            rw [hd, ← itoa_nat] at c2
            have e1 := itoa_inj c1
            have e2 := itoa_inj c2
            have hxd := x.den_pos
            simp at c3
            apply hg
            rw [e1, e2]
            exact ⟨by omega, rat_gcd x⟩
        exact rq_pair s n d _ w hv hs hsl
end Go.Proofs.YtbdckemkmocdlaaGreatDoor

/- metrolabref12: Minus, Dot, Far. -/
namespace Go.Proofs.YtbdckemkmocdlaaGreatDoor
open Go.RowKit

attribute [local irreducible] sI sQ


theorem Md.of_sz {n d : Nat} {x : Rat} (h : Sz n d x) (hn : 0 < n) (hd : 0 < d) (h1 : n ≤ 4000) (h2 : d ≤ 4000) : Md x :=
  ⟨((lg_iff hn).2 h.1).mono h1, ((lg_iff (n := (x.den : Int)) hd).2 (by simpa using h.2)).mono h2⟩

set_option maxRecDepth 100000 in
set_option maxHeartbeats 2000000 in
theorem rfdot_any (a b c d : Rat) (w : World) (ha : Md a) (hb : Md b) (hc : Md c) (hd : Md d) (h1 : Md (a * c)) (h2 : Md (b * d)) :
    Calls Tryz.prog 120 #[plV a b, plV c d] w fun e w' => e = .returned (.string (sQ (a * c + b * d))) ∧ Below w.heap.size w w' := by
  have a1 := (CB.new w #[.string (sQ a), .string (sQ b)] 24).alloc (.cells #[.string (sQ c), .string (sQ d)] 24 (0, 0))
  have b1 := (Below.refl w.heap.size w).alloc (Nat.le_refl _) (.cells #[.string (sQ a), .string (sQ b)] 24 (0, 0))
  have a2 := CB.new (w.alloc (.cells #[.string (sQ a), .string (sQ b)] 24 (0, 0))) #[.string (sQ c), .string (sQ d)] 24
  have b2 := b1.alloc b1.size (.cells #[.string (sQ c), .string (sQ d)] 24 (0, 0))
  simp only [size_alloc] at a2
  have HB := Lib.hid b2
  have H1 := Lib.hid a1
  have H2 := Lib.hid a2
  have M1 := Lib.hid (fun W => rqtimes_any a c W ha hc)
  have M2 := Lib.hid (fun W => rqtimes_any b d W hb hd)
  have M3 := Lib.hid (fun W => rqplus_any (a * c) (b * d) W h1 h2)
  clear a1 a2 b1 b2 ha hb hc hd h1 h2
  go_enter Tryz.func120, Tryz.ntmps120
  go_wp2_with fail
  generalize (w.alloc (.cells #[.string (sQ a), .string (sQ b)] 24 (0, 0))).alloc (.cells #[.string (sQ c), .string (sQ d)] 24 (0, 0)) = W0 at *
  have KS := Lib.hid (show ∀ W, Below W0.heap.size W0 W → (W.cell? ⟨w.heap.size, 0, none⟩ = some (.string (sQ a)) ∧ W.cell? ⟨w.heap.size, 1, none⟩ = some (.string (sQ b)) ∧ W.cell? ⟨w.heap.size + 1, 0, none⟩ = some (.string (sQ c)) ∧ W.cell? ⟨w.heap.size + 1, 1, none⟩ = some (.string (sQ d))) ∧ (Below W0.heap.size W0 W ∧ Below w.heap.size w W) from fun W hW => by
    have e1 := H1.out.below hW H1.out.lt
    have e2 := H2.out.below hW H2.out.lt
    exact ⟨⟨e1.c 0, e1.c 1, e2.c 0, e2.c 1⟩, hW, HB.out.trans (hW.mono HB.out.size)⟩)
  go_region_held3 (fun W => (W.cell? ⟨w.heap.size, 0, none⟩ = some (.string (sQ a)) ∧ W.cell? ⟨w.heap.size, 1, none⟩ = some (.string (sQ b)) ∧ W.cell? ⟨w.heap.size + 1, 0, none⟩ = some (.string (sQ c)) ∧ W.cell? ⟨w.heap.size + 1, 1, none⟩ = some (.string (sQ d))) ∧ (Below W0.heap.size W0 W ∧ Below w.heap.size w W))
    ((refine KS.out _ ?_; first | exact (Below.refl _ _).drew | assumption))
    (first | (go_at_call 107; have hh := ‹(_ ∧ _) ∧ (_ ∧ Below w.heap.size w _)›; with_reducible refine (M1.out _).mono ?_; rintro e w1 ⟨rfl, hb1⟩; have hb2 := hh.2.1.trans (hb1.mono hh.2.1.size)) | (go_at_call 107; have hh := ‹(_ ∧ _) ∧ (_ ∧ Below w.heap.size w _)›; with_reducible refine (M2.out _).mono ?_; rintro e w1 ⟨rfl, hb1⟩; have hb2 := hh.2.1.trans (hb1.mono hh.2.1.size)) | (go_at_call 33; have hh := ‹(_ ∧ _) ∧ (_ ∧ Below w.heap.size w _)›; with_reducible refine (M3.out _).mono ?_; rintro e w1 ⟨rfl, hb1⟩; have hb2 := hh.2.1.trans (hb1.mono hh.2.1.size)))
  go_wp2_with fail
  go_ret
  exact ⟨rfl, HB.out.trans (hb2.mono HB.out.size)⟩

set_option maxRecDepth 100000 in
set_option maxHeartbeats 2000000 in
theorem rfminus_any (a b c d : Rat) (w : World) (ha : Md a) (hb : Md b) (hc : Md c) (hd : Md d) :
    Calls Tryz.prog 121 #[plV a b, plV c d] w fun e w' => e = .returned (plV (a - c) (b - d)) ∧ Below w.heap.size w w' := by
  have a1 := CB.new w #[.string (sQ a), .string (sQ b)] 24
  have b1 := (Below.refl w.heap.size w).alloc (Nat.le_refl _) (.cells #[.string (sQ a), .string (sQ b)] 24 (0, 0))
  have a2 := CB.new (w.alloc (.cells #[.string (sQ a), .string (sQ b)] 24 (0, 0))) #[.string (sQ c), .string (sQ d)] 24
  have b2 := b1.alloc b1.size (.cells #[.string (sQ c), .string (sQ d)] 24 (0, 0))
  have a3 := CB.new ((w.alloc (.cells #[.string (sQ a), .string (sQ b)] 24 (0, 0))).alloc (.cells #[.string (sQ c), .string (sQ d)] 24 (0, 0))) #[.string ⟨#[]⟩, .string ⟨#[]⟩] 24
  have b3 := b2.alloc b2.size (.cells #[.string ⟨#[]⟩, .string ⟨#[]⟩] 24 (0, 0))
  replace a1 := (a1.alloc (.cells #[.string (sQ c), .string (sQ d)] 24 (0, 0))).alloc (.cells #[.string ⟨#[]⟩, .string ⟨#[]⟩] 24 (0, 0))
  replace a2 := a2.alloc (.cells #[.string ⟨#[]⟩, .string ⟨#[]⟩] 24 (0, 0))
  simp only [size_alloc] at a2 a3
  have HB := Lib.hid b3
  have H1 := Lib.hid a1
  have H2 := Lib.hid a2
  have H3 := Lib.hid a3
  have M1 := Lib.hid (fun W => rqminus_any a c W ha hc)
  have M2 := Lib.hid (fun W => rqminus_any b d W hb hd)
  clear a1 a2 a3 b1 b2 b3 ha hb hc hd
  go_enter Tryz.func121, Tryz.ntmps121
  go_wp2_with fail
  generalize ((w.alloc (.cells #[.string (sQ a), .string (sQ b)] 24 (0, 0))).alloc (.cells #[.string (sQ c), .string (sQ d)] 24 (0, 0))).alloc (.cells #[.string ⟨#[]⟩, .string ⟨#[]⟩] 24 (0, 0)) = W0 at *
  have hsz := H3.out.lt
  have D3 := Lib.hid (show CB W0.drew (w.heap.size + 1 + 1) #[.string ⟨#[]⟩, .string ⟨#[]⟩] 24 from H3.out)
  have KS := Lib.hid (show ∀ W, Below (w.heap.size + 1 + 1) W0 W → (W.cell? ⟨w.heap.size, 0, none⟩ = some (.string (sQ a)) ∧ W.cell? ⟨w.heap.size, 1, none⟩ = some (.string (sQ b)) ∧ W.cell? ⟨w.heap.size + 1, 0, none⟩ = some (.string (sQ c)) ∧ W.cell? ⟨w.heap.size + 1, 1, none⟩ = some (.string (sQ d))) ∧ (Below (w.heap.size + 1 + 1) W0 W ∧ Below w.heap.size w W) from fun W hW => by
    have e1 := H1.out.below hW (by omega)
    have e2 := H2.out.below hW (by omega)
    exact ⟨⟨e1.c 0, e1.c 1, e2.c 0, e2.c 1⟩, hW, HB.out.trans (hW.mono (by omega))⟩)
  go_region_held3 (fun W => (W.cell? ⟨w.heap.size, 0, none⟩ = some (.string (sQ a)) ∧ W.cell? ⟨w.heap.size, 1, none⟩ = some (.string (sQ b)) ∧ W.cell? ⟨w.heap.size + 1, 0, none⟩ = some (.string (sQ c)) ∧ W.cell? ⟨w.heap.size + 1, 1, none⟩ = some (.string (sQ d))) ∧ (Below (w.heap.size + 1 + 1) W0 W ∧ Below w.heap.size w W))
    ((refine KS.out _ ?_; first | exact (Below.refl _ _).drew | assumption | exact (hb2.setCell (p := ⟨w.heap.size + 1 + 1, 0, none⟩) (Nat.le_refl _) _).setCell (p := ⟨w.heap.size + 1 + 1, 1, none⟩) (Nat.le_refl _) _))
    (first | (go_at_call 105; have hh := ‹(_ ∧ _) ∧ (_ ∧ Below w.heap.size w _)›; with_reducible refine (M1.out _).mono ?_; rintro e w1 ⟨rfl, hb1⟩; have hb2 := hh.2.1.trans (hb1.mono (Nat.le_trans (Nat.le_of_lt hsz) hh.2.1.size)); have c3 := D3.out.below hb1 D3.out.lt) | (go_at_call 105; have hh := ‹(_ ∧ _) ∧ (_ ∧ Below w.heap.size w _)›; with_reducible refine (M2.out _).mono ?_; rintro e w1 ⟨rfl, hb1⟩; have hb2 := hh.2.1.trans (hb1.mono (Nat.le_trans (Nat.le_of_lt hsz) hh.2.1.size)); have c4 := c3.below hb1 c3.lt; have r1 := c4.c 0; have r2 := c4.c 1; have r3 := c4.fr 0; have r4 := c4.fr 1; simp at r1 r2))
  have c5 := (c4.set 0 (.string (sQ (a - c)))).set 1 (.string (sQ (b - d)))
  have z0 := c5.c 0
  have z1 := c5.c 1
  have hb5 : Below w.heap.size w ((w1.setCell ⟨w.heap.size + 1 + 1, 0, none⟩ (.string (sQ (a - c)))).setCell ⟨w.heap.size + 1 + 1, 1, none⟩ (.string (sQ (b - d)))) :=
    ((HB.out.trans (hb2.mono (by omega))).setCell (p := ⟨w.heap.size + 1 + 1, 0, none⟩) (by show w.heap.size ≤ w.heap.size + 1 + 1; omega) _).setCell (p := ⟨w.heap.size + 1 + 1, 1, none⟩) (by show w.heap.size ≤ w.heap.size + 1 + 1; omega) _
  simp at z0 z1
  generalize (w1.setCell ⟨w.heap.size + 1 + 1, 0, none⟩ (.string (sQ (a - c)))).setCell ⟨w.heap.size + 1 + 1, 1, none⟩ (.string (sQ (b - d))) = w5 at *
  go_wp2_with fail
  refine bodyPost_ret (v := plV (a - c) (b - d)) (by simp [results, Tryz.results121, go_sem, z0, z1, Result.andThen]) rfl ⟨rfl, hb5⟩

structure MdFar (a b c d : Rat) : Prop where
  ma : Md a
  mb : Md b
  mc : Md c
  md : Md d
  x : Md (a - c)
  y : Md (b - d)
  xx : Md ((a - c) * (a - c))
  yy : Md ((b - d) * (b - d))

set_option maxRecDepth 100000 in
set_option maxHeartbeats 2000000 in
theorem rffar_any (a b c d : Rat) (w : World) (h : MdFar a b c d) :
    Calls Tryz.prog 82 #[plV a b, plV c d] w fun e w' => e = .returned (.string (sQ (farQ a b c d))) ∧ Below w.heap.size w w' := by
  have a1 := (CB.new w #[.string (sQ a), .string (sQ b)] 24).alloc (.cells #[.string (sQ c), .string (sQ d)] 24 (0, 0))
  have b1 := (Below.refl w.heap.size w).alloc (Nat.le_refl _) (.cells #[.string (sQ a), .string (sQ b)] 24 (0, 0))
  have a2 := CB.new (w.alloc (.cells #[.string (sQ a), .string (sQ b)] 24 (0, 0))) #[.string (sQ c), .string (sQ d)] 24
  have b2 := b1.alloc b1.size (.cells #[.string (sQ c), .string (sQ d)] 24 (0, 0))
  simp only [size_alloc] at a2
  have HB := Lib.hid b2
  have H1 := Lib.hid a1
  have H2 := Lib.hid a2
  have M1 := Lib.hid (fun W => rfminus_any a b c d W h.ma h.mb h.mc h.md)
  have M2 := Lib.hid (fun W => rfdot_any (a - c) (b - d) (a - c) (b - d) W h.x h.y h.x h.y h.xx h.yy)
  have HV := Lib.hid (show farQ a b c d = (a - c) * (a - c) + (b - d) * (b - d) from rfl)
  clear a1 a2 b1 b2 h
  go_enter Tryz.func82, Tryz.ntmps82
  go_wp2_with fail
  generalize (w.alloc (.cells #[.string (sQ a), .string (sQ b)] 24 (0, 0))).alloc (.cells #[.string (sQ c), .string (sQ d)] 24 (0, 0)) = W0 at *
  have KS := Lib.hid (show ∀ W, Below W0.heap.size W0 W → (W.cell? ⟨w.heap.size, 0, none⟩ = some (.string (sQ a)) ∧ W.cell? ⟨w.heap.size, 1, none⟩ = some (.string (sQ b)) ∧ W.cell? ⟨w.heap.size + 1, 0, none⟩ = some (.string (sQ c)) ∧ W.cell? ⟨w.heap.size + 1, 1, none⟩ = some (.string (sQ d))) ∧ (Below W0.heap.size W0 W ∧ Below w.heap.size w W) from fun W hW => by
    have e1 := H1.out.below hW H1.out.lt
    have e2 := H2.out.below hW H2.out.lt
    exact ⟨⟨e1.c 0, e1.c 1, e2.c 0, e2.c 1⟩, hW, HB.out.trans (hW.mono HB.out.size)⟩)
  go_region_held3 (fun W => (W.cell? ⟨w.heap.size, 0, none⟩ = some (.string (sQ a)) ∧ W.cell? ⟨w.heap.size, 1, none⟩ = some (.string (sQ b)) ∧ W.cell? ⟨w.heap.size + 1, 0, none⟩ = some (.string (sQ c)) ∧ W.cell? ⟨w.heap.size + 1, 1, none⟩ = some (.string (sQ d))) ∧ (Below W0.heap.size W0 W ∧ Below w.heap.size w W))
    ((refine KS.out _ ?_; first | exact (Below.refl _ _).drew | assumption))
    (first | (go_at_call 121; have hh := ‹(_ ∧ _) ∧ (_ ∧ Below w.heap.size w _)›; with_reducible refine (M1.out _).mono ?_; rintro e w1 ⟨rfl, hb1⟩; have hb2 := hh.2.1.trans (hb1.mono hh.2.1.size)) | (go_at_call 120; have hh := ‹(_ ∧ _) ∧ (_ ∧ Below w.heap.size w _)›; with_reducible refine (M2.out _).mono ?_; rintro e w1 ⟨rfl, hb1⟩; have hb2 := hh.2.1.trans (hb1.mono hh.2.1.size)))
  go_wp2_with fail
  go_ret
  exact ⟨rfl, HB.out.trans (hb2.mono HB.out.size)⟩
end Go.Proofs.YtbdckemkmocdlaaGreatDoor

/- metrolabref12: gap, reach, Within, Kind, Has. -/
namespace Go.Proofs.YtbdckemkmocdlaaGreatDoor
open Go.RowKit

attribute [local irreducible] sI sQ


theorem Sz.md {n d : Nat} {x : Rat} (h : Sz (n + 1) (d + 1) x) (h1 : n < 4000 := by omega) (h2 : d < 4000 := by omega) : Md x := Md.of_sz h (by omega) (by omega) h1 h2

/-- a disc of short numbers -/
structure Sh (a b p : Rat) : Prop where
  x : Sz 12 10 a
  y : Sz 12 10 b
  s : Sz 12 10 p

theorem mdFar {a b c d : Rat} (ha : Sz 12 10 a) (hb : Sz 12 10 b) (hc : Sz 12 10 c) (hd : Sz 12 10 d) : MdFar a b c d := by
  have h1 := sz_sub ha hc
  have h2 := sz_sub hb hd
  exact ⟨ha.md, hb.md, hc.md, hd.md, h1.md, h2.md, (sz_mul h1 h1).md, (sz_mul h2 h2).md⟩

theorem rFit {n d m f u v : Nat} {a b c : Rat} (ha : Sz n d a) (hb : Sz m f b) (hc : Sz u v c) (h : 0 < n ∧ 0 < d ∧ 0 < m ∧ 0 < f ∧ 0 < u ∧ 0 < v) (h1 : n ≤ 1000) (h2 : d ≤ 1000) (h3 : m ≤ 1000) (h4 : f ≤ 1000) (h5 : u ≤ 1000) (h6 : v ≤ 1000) : RFit a b c := by
  obtain ⟨g1, g2, g3, g4, g5, g6⟩ := h
  exact ⟨Md.of_sz ha g1 g2 (by omega) (by omega), Md.of_sz hb g3 g4 (by omega) (by omega), Md.of_sz hc g5 g6 (by omega) (by omega),
    Md.of_sz (sz_mul ha ha) (by omega) (by omega) (by omega) (by omega), Md.of_sz (sz_mul hb hb) (by omega) (by omega) (by omega) (by omega),
    Md.of_sz (sz_mul (sz_mul hb hb) hc) (by omega) (by omega) (by omega) (by omega)⟩

set_option maxRecDepth 100000 in
set_option maxHeartbeats 2000000 in
theorem rgap_any (a b p c d q : Rat) (w : World) (h1 : Sh a b p) (h2 : Sh c d q) :
    Calls Tryz.prog 68 #[dcV a b p, dcV c d q] w fun e w' => e = .returned (.int .i64 (rootR (farQ a b c d - (p + q)) (-2) (p * q))) ∧ Below w.heap.size w w' := by
  have hd2 := two_discs w a b p c d q _ rfl
  have HB := Lib.hid hd2.1
  have KS := Lib.hid hd2.2
  have sf := sz_far h1.x h1.y h2.x h2.y
  have sa := sz_add h1.s h2.s
  have ss := sz_sub sf sa
  have sm := sz_mul h1.s h2.s
  have M1 := Lib.hid (fun W => rffar_any a b c d W (mdFar h1.x h1.y h2.x h2.y))
  have M2 := Lib.hid (fun W => rqplus_any p q W h1.s.md h2.s.md)
  have M3 := Lib.hid (fun W => rqminus_any (farQ a b c d) (p + q) W sf.md sa.md)
  have M4 := Lib.hid (fun W => rqtimes_any p q W h1.s.md h2.s.md)
  have M5 := Lib.hid (fun W => rroot_any (farQ a b c d - (p + q)) (-2) (p * q) W (rFit ss sz_mtwo sm (by omega) (by omega) (by omega) (by omega) (by omega) (by omega) (by omega)))
  clear hd2 sf sa ss sm h1 h2
  go_enter Tryz.func68, Tryz.ntmps68
  go_wp2_with fail
  generalize (w.alloc (.cells #[.string (sQ a), .string (sQ b), .string (sQ p)] 26 (0, 0))).alloc (.cells #[.string (sQ c), .string (sQ d), .string (sQ q)] 26 (0, 0)) = W0 at *
  go_region_held3 (fun W => (W.cell? ⟨w.heap.size, 0, none⟩ = some (.string (sQ a)) ∧ W.cell? ⟨w.heap.size, 1, none⟩ = some (.string (sQ b)) ∧ W.cell? ⟨w.heap.size, 2, none⟩ = some (.string (sQ p)) ∧ W.cell? ⟨w.heap.size + 1, 0, none⟩ = some (.string (sQ c)) ∧ W.cell? ⟨w.heap.size + 1, 1, none⟩ = some (.string (sQ d)) ∧ W.cell? ⟨w.heap.size + 1, 2, none⟩ = some (.string (sQ q))) ∧ (Below W0.heap.size W0 W ∧ Below w.heap.size w W))
    ((refine KS.out _ ?_; first | exact (Below.refl _ _).drew | assumption))
    (first | (go_at_call 82; have hh := ‹(_ ∧ _) ∧ (_ ∧ Below w.heap.size w _)›; with_reducible refine (M1.out _).mono ?_; rintro e w1 ⟨rfl, hb1⟩; have hb2 := hh.2.1.trans (hb1.mono hh.2.1.size)) | (go_at_call 33; have hh := ‹(_ ∧ _) ∧ (_ ∧ Below w.heap.size w _)›; with_reducible refine (M2.out _).mono ?_; rintro e w1 ⟨rfl, hb1⟩; have hb2 := hh.2.1.trans (hb1.mono hh.2.1.size)) | (go_at_call 105; have hh := ‹(_ ∧ _) ∧ (_ ∧ Below w.heap.size w _)›; with_reducible refine (M3.out _).mono ?_; rintro e w1 ⟨rfl, hb1⟩; have hb2 := hh.2.1.trans (hb1.mono hh.2.1.size)))
  have hh := KS.out _ hb2
  obtain ⟨⟨q1, q2, q3, q4, q5, q6⟩, _, hb3⟩ := hh
  go_wp2_with fail
  with_reducible refine (M4.out _).mono ?_
  rintro e w5 ⟨rfl, hb5⟩
  have hb6 := hb3.trans (hb5.mono hb3.size)
  go_wp2_with fail
  rw [sQ_mtwo]
  with_reducible refine (M5.out _).mono ?_
  rintro e w7 ⟨rfl, hb7⟩
  go_wp2_with fail
  go_ret
  exact ⟨rfl, hb6.trans (hb7.mono hb6.size)⟩
set_option maxRecDepth 100000 in
set_option maxHeartbeats 2000000 in
theorem rreach_any (a b p c d q : Rat) (w : World) (h1 : Sh a b p) (h2 : Sh c d q) :
    Calls Tryz.prog 104 #[dcV a b p, dcV c d q] w fun e w' => e = .returned (.int .i64 (rootR (farQ a b c d - (p + q)) 2 (p * q))) ∧ Below w.heap.size w w' := by
  have hd2 := two_discs w a b p c d q _ rfl
  have HB := Lib.hid hd2.1
  have KS := Lib.hid hd2.2
  have sf := sz_far h1.x h1.y h2.x h2.y
  have sa := sz_add h1.s h2.s
  have ss := sz_sub sf sa
  have sm := sz_mul h1.s h2.s
  have M1 := Lib.hid (fun W => rffar_any a b c d W (mdFar h1.x h1.y h2.x h2.y))
  have M2 := Lib.hid (fun W => rqplus_any p q W h1.s.md h2.s.md)
  have M3 := Lib.hid (fun W => rqminus_any (farQ a b c d) (p + q) W sf.md sa.md)
  have M4 := Lib.hid (fun W => rqtimes_any p q W h1.s.md h2.s.md)
  have M5 := Lib.hid (fun W => rroot_any (farQ a b c d - (p + q)) 2 (p * q) W (rFit ss sz_two sm (by omega) (by omega) (by omega) (by omega) (by omega) (by omega) (by omega)))
  clear hd2 sf sa ss sm h1 h2
  go_enter Tryz.func104, Tryz.ntmps104
  go_wp2_with fail
  generalize (w.alloc (.cells #[.string (sQ a), .string (sQ b), .string (sQ p)] 26 (0, 0))).alloc (.cells #[.string (sQ c), .string (sQ d), .string (sQ q)] 26 (0, 0)) = W0 at *
  go_region_held3 (fun W => (W.cell? ⟨w.heap.size, 0, none⟩ = some (.string (sQ a)) ∧ W.cell? ⟨w.heap.size, 1, none⟩ = some (.string (sQ b)) ∧ W.cell? ⟨w.heap.size, 2, none⟩ = some (.string (sQ p)) ∧ W.cell? ⟨w.heap.size + 1, 0, none⟩ = some (.string (sQ c)) ∧ W.cell? ⟨w.heap.size + 1, 1, none⟩ = some (.string (sQ d)) ∧ W.cell? ⟨w.heap.size + 1, 2, none⟩ = some (.string (sQ q))) ∧ (Below W0.heap.size W0 W ∧ Below w.heap.size w W))
    ((refine KS.out _ ?_; first | exact (Below.refl _ _).drew | assumption))
    (first | (go_at_call 82; have hh := ‹(_ ∧ _) ∧ (_ ∧ Below w.heap.size w _)›; with_reducible refine (M1.out _).mono ?_; rintro e w1 ⟨rfl, hb1⟩; have hb2 := hh.2.1.trans (hb1.mono hh.2.1.size)) | (go_at_call 33; have hh := ‹(_ ∧ _) ∧ (_ ∧ Below w.heap.size w _)›; with_reducible refine (M2.out _).mono ?_; rintro e w1 ⟨rfl, hb1⟩; have hb2 := hh.2.1.trans (hb1.mono hh.2.1.size)) | (go_at_call 105; have hh := ‹(_ ∧ _) ∧ (_ ∧ Below w.heap.size w _)›; with_reducible refine (M3.out _).mono ?_; rintro e w1 ⟨rfl, hb1⟩; have hb2 := hh.2.1.trans (hb1.mono hh.2.1.size)))
  have hh := KS.out _ hb2
  obtain ⟨⟨q1, q2, q3, q4, q5, q6⟩, _, hb3⟩ := hh
  go_wp2_with fail
  with_reducible refine (M4.out _).mono ?_
  rintro e w5 ⟨rfl, hb5⟩
  have hb6 := hb3.trans (hb5.mono hb3.size)
  go_wp2_with fail
  rw [sQ_two]
  with_reducible refine (M5.out _).mono ?_
  rintro e w7 ⟨rfl, hb7⟩
  go_wp2_with fail
  go_ret
  exact ⟨rfl, hb6.trans (hb7.mono hb6.size)⟩

theorem within_and (a b p c d q : Rat) : withinQ a b p c d q = (decide (rootR (farQ a b c d - (p + q)) 2 (p * q) ≤ 0) && decide (sgn (p - q).num ≤ 0)) := by
  unfold withinQ sgnQ; rw [Bool.and_comm]

set_option maxRecDepth 100000 in
set_option maxHeartbeats 2000000 in
theorem rwithin_any (a b p c d q : Rat) (w : World) (h1 : Sh a b p) (h2 : Sh c d q) :
    Calls Tryz.prog 67 #[dcV a b p, dcV c d q] w fun e w' => e = .returned (.bool (withinQ a b p c d q)) ∧ Below w.heap.size w w' := by
  have hd2 := two_discs w a b p c d q _ rfl
  have HB := Lib.hid hd2.1
  have KS := Lib.hid hd2.2
  have M1 := Lib.hid (fun W => rreach_any a b p c d q W h1 h2)
  have M2 := Lib.hid (fun W => rqorder_any p q W h1.s.md h2.s.md)
  have HV := Lib.hid (within_and a b p c d q)
  generalize withinQ a b p c d q = R at *
  generalize rootR (farQ a b c d - (p + q)) 2 (p * q) = r at *
  generalize sgn (p - q).num = o at *
  clear hd2 h1 h2
  go_enter Tryz.func67, Tryz.ntmps67
  go_wp2_with fail
  generalize (w.alloc (.cells #[.string (sQ a), .string (sQ b), .string (sQ p)] 26 (0, 0))).alloc (.cells #[.string (sQ c), .string (sQ d), .string (sQ q)] 26 (0, 0)) = W0 at *
  obtain ⟨⟨q1, q2, q3, q4, q5, q6⟩, _, hb3⟩ := KS.out _ (Below.refl _ _)
  go_wp2_with fail
  with_reducible refine (M1.out _).mono ?_
  rintro e w1 ⟨rfl, hb1⟩
  obtain ⟨⟨q1, q2, q3, q4, q5, q6⟩, _, hb4⟩ := KS.out _ hb1
  by_cases hr : r ≤ 0
  · have HR := Lib.hid (show decide (o ≤ 0) = R by rw [HV.out, decide_eq_true hr]; rfl)
    go_wp2_with fail
    with_reducible refine (M2.out _).mono ?_
    rintro e w5 ⟨rfl, hb5⟩
    go_wp2_with fail
    go_ret
    exact ⟨ret_bool HR.out, hb4.trans (hb5.mono hb4.size)⟩
  · have HR := Lib.hid (show false = R by rw [HV.out, decide_eq_false hr]; rfl)
    go_wp2_with fail
    go_ret
    exact ⟨ret_bool HR.out, hb4⟩

set_option maxRecDepth 100000 in
set_option maxHeartbeats 2000000 in
theorem rkind_any (a b p c d q : Rat) (w : World) (h1 : Sh a b p) (h2 : Sh c d q) :
    Calls Tryz.prog 42 #[dcV a b p, dcV c d q] w fun e w' => e = .returned (.int .i64 (kindQ a b p c d q)) ∧ Below w.heap.size w w' := by
  have hd2 := two_discs w a b p c d q _ rfl
  have HB := Lib.hid hd2.1
  have KS := Lib.hid hd2.2
  have M1 := Lib.hid (fun W => rwithin_any a b p c d q W h1 h2)
  have M2 := Lib.hid (fun W => rwithin_any c d q a b p W h2 h1)
  have M3 := Lib.hid (fun W => rgap_any a b p c d q W h1 h2)
  have HV := Lib.hid (show kindQ a b p c d q = if withinQ a b p c d q then 2 else if withinQ c d q a b p then 3 else -rootR (farQ a b c d - (p + q)) (-2) (p * q) from rfl)
  have hrl := rootR_le (farQ a b c d - (p + q)) (-2) (p * q)
  generalize kindQ a b p c d q = R at *
  generalize rootR (farQ a b c d - (p + q)) (-2) (p * q) = r at *
  generalize withinQ a b p c d q = u at *
  generalize withinQ c d q a b p = v at *
  clear hd2 h1 h2
  go_enter Tryz.func42, Tryz.ntmps42
  go_wp2_with fail
  generalize (w.alloc (.cells #[.string (sQ a), .string (sQ b), .string (sQ p)] 26 (0, 0))).alloc (.cells #[.string (sQ c), .string (sQ d), .string (sQ q)] 26 (0, 0)) = W0 at *
  obtain ⟨⟨q1, q2, q3, q4, q5, q6⟩, _, hb3⟩ := KS.out _ (Below.refl _ _)
  go_wp2_with fail
  with_reducible refine (M1.out _).mono ?_
  rintro e w1 ⟨rfl, hb1⟩
  obtain ⟨⟨q1, q2, q3, q4, q5, q6⟩, _, hb4⟩ := KS.out _ hb1
  cases u
  · go_wp2_with fail
    with_reducible refine (M2.out _).mono ?_
    rintro e w2 ⟨rfl, hb2⟩
    replace hb2 := hb1.trans (hb2.mono hb1.size)
    obtain ⟨⟨q1, q2, q3, q4, q5, q6⟩, _, hb5⟩ := KS.out _ hb2
    cases v
    · have HR := Lib.hid (show -r = R by rw [HV.out]; rfl)
      go_wp2_with fail
      with_reducible refine (M3.out _).mono ?_
      rintro e w6 ⟨rfl, hb6⟩
      go_wp2_with fail
      go_ret
      exact ⟨ret_int HR.out, hb5.trans (hb6.mono hb5.size)⟩
    · have HR := Lib.hid (show 3 = R by rw [HV.out]; rfl)
      go_wp2_with fail
      go_ret
      exact ⟨ret_int HR.out, hb5⟩
  · have HR := Lib.hid (show 2 = R by rw [HV.out]; rfl)
    go_wp2_with fail
    go_ret
    exact ⟨ret_int HR.out, hb4⟩
end Go.Proofs.YtbdckemkmocdlaaGreatDoor

/- metrolabref12: Check, Relate, Has, Contains. -/
namespace Go.Proofs.YtbdckemkmocdlaaGreatDoor
open Go.RowKit

attribute [local irreducible] sI sQ

set_option maxRecDepth 100000 in
set_option maxHeartbeats 2000000 in
theorem rfcheck_any (x y q : ByteArray) (w : World) (hx : x.size ≤ 1000) (hy : y.size ≤ 1000) (hq : q.size ≤ 1000) :
    Calls Tryz.prog 15 #[.agg #[.string x, .string y, .string q]] w fun e w' => e = .returned (.int .i64 (chkD x.data.toList y.data.toList q.data.toList)) ∧ Below w.heap.size w w' := by
  have a1 := (CB.new w #[.string x, .string y, .string q] 26).alloc (.cells #[.string x, .string y, .string q] 22 (0, 0))
  have b1 := (Below.refl w.heap.size w).alloc (Nat.le_refl _) (.cells #[.string x, .string y, .string q] 26 (0, 0))
  have a2 := CB.new (w.alloc (.cells #[.string x, .string y, .string q] 26 (0, 0))) #[.string x, .string y, .string q] 22
  have b2 := b1.alloc b1.size (.cells #[.string x, .string y, .string q] 22 (0, 0))
  simp only [size_alloc] at a2
  have HB := Lib.hid b2
  have H1 := Lib.hid a1
  have H2 := Lib.hid a2
  clear a1 a2 b1 b2
  go_enter Tryz.func15, Tryz.ntmps15
  go_wp2_with fail
  generalize (w.alloc (.cells #[.string x, .string y, .string q] 26 (0, 0))).alloc (.cells #[.string x, .string y, .string q] 22 (0, 0)) = W0 at *
  go_loopw [16] (fun i wr => ∃ k : Nat, i = .int .i64 k ∧ k ≤ 3 ∧ (∀ j, j < k → chkR (nth3 x y q j).data.toList = 0) ∧ Below W0.heap.size W0 wr) (fun i _ => 3 - (intOf i).toNat)
  case atStart => exact ⟨0, rfl, by omega, fun j h => by omega, Below.refl _ _⟩
  case round =>
    obtain ⟨k, rfl, hk, hall, hb⟩ := hrel
    have HA := Lib.hid hall
    clear hall
    by_cases hlt : k < 3
    · have e2 := H2.out.below hb H2.out.lt
      have hc : wr.cell? ⟨w.heap.size + 1, k, none⟩ = some (.string (nth3 x y q k)) := by
        rw [e2.c]
        rcases (show k = 0 ∨ k = 1 ∨ k = 2 by omega) with rfl | rfl | rfl <;> rfl
      have hs : (nth3 x y q k).size ≤ 1000 := by unfold nth3; split; exact hx; split; exact hy; exact hq
      have HN := Lib.hid (show chkR (nth3 x y q k).data.toList ≠ 0 → chkD x.data.toList y.data.toList q.data.toList = chkR (nth3 x y q k).data.toList from by
        intro hne
        have ha := HA.out
        unfold chkD
        rcases (show k = 0 ∨ k = 1 ∨ k = 2 by omega) with rfl | rfl | rfl
        · exact if_pos hne
        · have h0 := ha 0 (by omega)
          rw [if_neg (by rw [show x = nth3 x y q 0 from rfl, h0]; simp)]; exact if_pos hne
        · have h0 := ha 0 (by omega)
          have h1 := ha 1 (by omega)
          rw [if_neg (by rw [show x = nth3 x y q 0 from rfl, h0]; simp), if_neg (by rw [show y = nth3 x y q 1 from rfl, h1]; simp)]; exact if_pos hne)
      have hb2 := HB.out.trans (hb.mono HB.out.size)
      have HM := Lib.hid (show chkR (nth3 x y q k).data.toList = 0 → ∀ j, j < k + 1 → chkR (nth3 x y q j).data.toList = 0 from by
        intro h j hj
        by_cases e : j = k
        · subst e; exact h
        · exact HA.out j (by omega))
      generalize hu : nth3 x y q k = u at hc hs HN HM
      clear hu
      go_wp2_with fail
      with_reducible refine (rqcheck_short u _ hs).mono ?_
      rintro e w1 ⟨rfl, hb1⟩
      rcases chkR_cases u.data.toList with ⟨_, h0⟩ | ⟨_, h0⟩
      · rw [h0]
        have HZ := Lib.hid h0
        clear h0
        go_wp2_with fail
        exact ⟨⟨k + 1, by simp, by omega, HM.out HZ.out, hb.trans (hb1.mono hb.size)⟩, by simp [intOf]; omega⟩
      · rw [h0]
        have HZ := Lib.hid h0
        clear h0
        go_wp2_with fail
        go_ret
        exact ⟨ret_int (by rw [HN.out (by rw [HZ.out]; omega), HZ.out]), hb2.trans (hb1.mono hb2.size)⟩
    · have h0 := HA.out 0 (by omega)
      have h1 := HA.out 1 (by omega)
      have h2 := HA.out 2 (by omega)
      rw [show nth3 x y q 0 = x from rfl] at h0
      rw [show nth3 x y q 1 = y from rfl] at h1
      rw [show nth3 x y q 2 = q from rfl] at h2
      obtain ⟨z, hz⟩ : canR q.data.toList := by
        rcases chkR_cases q.data.toList with ⟨h, _⟩ | ⟨_, h⟩
        · exact h
        · rw [h2] at h; omega
      have hq' := sQ_of hz
      have hh := sQ_head z
      have hh2 := head_ba (sQ z) (sQ_pos z) 45
      have mz : Md z := by
        rw [hq', ba_size, sQ_list] at hq
        unfold ratT at hq
        have p1 := itoa_ne_nil z.num
        have p2 : 0 < (Lib.itoa z.num).length := List.length_pos_iff.2 p1
        constructor
        · have : (Lib.itoa z.num).length ≤ 1000 := by
            split at hq
            · omega
            · simp at hq; omega
          exact Lg.mono (short_len this) (by omega)
        · by_cases hd : z.den = 1
          · rw [hd]; exact ((lg_iff (a := 1) (by omega)).2 (by decide)).mono (by omega)
          · rw [if_neg hd] at hq; simp at hq; unfold Lg; simp; omega
      have HV := Lib.hid (show chkD x.data.toList y.data.toList q.data.toList = if z.num < 0 then 2 else 0 by
        unfold chkD; rw [h0, h1, h2, hq']; simp only [ne_eq, not_true_eq_false, if_false]
        by_cases hz0 : z.num < 0
        · rw [if_pos hz0, if_pos (hh2.2 (hh.2 hz0))]
        · rw [if_neg hz0, if_neg (fun e => hz0 (hh.1 (hh2.1 e)))])
      have HS := Lib.hid (fun W => rsignum_any z W mz)
      rw [← hq'] at HS
      have e1 := (H1.out.below hb H1.out.lt).c 2
      have hb2 := HB.out.trans (hb.mono HB.out.size)
      simp at e1
      have hcs := sgn_cases z.num
      clear h0 h1 h2 hz hq' HA hh hh2 mz
      go_wp2_with fail
      refine (HS.out _).mono ?_
      rintro e w3 ⟨rfl, hb3⟩
      generalize sgn z.num = o at *
      by_cases hm : z.num < 0
      · have HR := Lib.hid (show chkD x.data.toList y.data.toList q.data.toList = 2 by rw [HV.out, if_pos hm])
        have ho : o < 0 := by omega
        clear hm hcs
        go_wp2_with fail
        go_ret
        exact ⟨ret_int HR.out.symm, hb2.trans (hb3.mono hb2.size)⟩
      · have HR := Lib.hid (show chkD x.data.toList y.data.toList q.data.toList = 0 by rw [HV.out, if_neg hm])
        have ho : ¬ o < 0 := by omega
        clear hm hcs
        go_wp2_with fail
        go_ret
        exact ⟨ret_int HR.out.symm, hb2.trans (hb3.mono hb2.size)⟩

theorem two_blocks (w : World) (x y q x' y' q' : ByteArray) : Below w.heap.size w ((w.alloc (.cells #[.string x, .string y, .string q] 26 (0, 0))).alloc (.cells #[.string x', .string y', .string q'] 26 (0, 0))) ∧ CB ((w.alloc (.cells #[.string x, .string y, .string q] 26 (0, 0))).alloc (.cells #[.string x', .string y', .string q'] 26 (0, 0))) w.heap.size #[.string x, .string y, .string q] 26 ∧
    CB ((w.alloc (.cells #[.string x, .string y, .string q] 26 (0, 0))).alloc (.cells #[.string x', .string y', .string q'] 26 (0, 0))) (w.heap.size + 1) #[.string x', .string y', .string q'] 26 := by
  have a1 := (CB.new w #[.string x, .string y, .string q] 26).alloc (.cells #[.string x', .string y', .string q'] 26 (0, 0))
  have b1 := (Below.refl w.heap.size w).alloc (Nat.le_refl _) (.cells #[.string x, .string y, .string q] 26 (0, 0))
  have a2 := CB.new (w.alloc (.cells #[.string x, .string y, .string q] 26 (0, 0))) #[.string x', .string y', .string q'] 26
  have b2 := b1.alloc b1.size (.cells #[.string x', .string y', .string q'] 26 (0, 0))
  simp only [size_alloc] at a2
  exact ⟨b2, a1, a2⟩

set_option maxRecDepth 100000 in
set_option maxHeartbeats 2000000 in
theorem rfrelate_err (x y q x' y' q' : ByteArray) (w : World) (hx : x.size ≤ 1000) (hy : y.size ≤ 1000) (hq : q.size ≤ 1000) (hx' : x'.size ≤ 1000) (hy' : y'.size ≤ 1000) (hq' : q'.size ≤ 1000)
    (n : Int) (hn0 : n ≠ 0) (hn : chkD x.data.toList y.data.toList q.data.toList = n ∨ (chkD x.data.toList y.data.toList q.data.toList = 0 ∧ chkD x'.data.toList y'.data.toList q'.data.toList = n)) :
    Calls Tryz.prog 13 #[dtV x y q, dtV x' y' q'] w fun e w' => e = .returned (.tuple #[.int .i64 0, .int .i64 n]) ∧ Below w.heap.size w w' := by
  obtain ⟨b, a1, a2⟩ := two_blocks w x y q x' y' q'
  have HB := Lib.hid b
  have H1 := Lib.hid a1
  have H2 := Lib.hid a2
  have M1 := Lib.hid (fun W => rfcheck_any x y q W hx hy hq)
  have M2 := Lib.hid (fun W => rfcheck_any x' y' q' W hx' hy' hq')
  have t0 : (n == 0) = false := by simpa using hn0
  generalize chkD x.data.toList y.data.toList q.data.toList = u at *
  generalize chkD x'.data.toList y'.data.toList q'.data.toList = v at *
  clear a1 a2 b hn0
  go_enter Tryz.func13, Tryz.ntmps13
  go_wp2_with fail
  generalize (w.alloc (.cells #[.string x, .string y, .string q] 26 (0, 0))).alloc (.cells #[.string x', .string y', .string q'] 26 (0, 0)) = W0 at *
  have c0 := H1.out.c 0
  have c1 := H1.out.c 1
  have c2 := H1.out.c 2
  simp at c0 c1 c2
  go_wp2_with fail
  with_reducible refine (M1.out _).mono ?_
  rintro e w1 ⟨rfl, hb1⟩
  rcases hn with rfl | ⟨rfl, rfl⟩
  · go_wp2_with fail
    go_ret2
    exact ⟨rfl, HB.out.trans (hb1.mono HB.out.size)⟩
  · have d2 := H2.out.below hb1 H2.out.lt
    have f0 := d2.c 0
    have f1 := d2.c 1
    have f2 := d2.c 2
    simp at f0 f1 f2
    have hb2 := HB.out.trans (hb1.mono HB.out.size)
    go_wp2_with fail
    with_reducible refine (M2.out _).mono ?_
    rintro e w3 ⟨rfl, hb3⟩
    go_wp2_with fail
    go_ret2
    exact ⟨rfl, hb2.trans (hb3.mono hb2.size)⟩

set_option maxRecDepth 100000 in
set_option maxHeartbeats 2000000 in
theorem rfrelate_ok (a b p c d q : Rat) (w : World) (hs : (sQ a).size ≤ 1000 ∧ (sQ b).size ≤ 1000 ∧ (sQ p).size ≤ 1000 ∧ (sQ c).size ≤ 1000 ∧ (sQ d).size ≤ 1000 ∧ (sQ q).size ≤ 1000) (hp : 0 ≤ p.num) (hq : 0 ≤ q.num)
    (h1 : Sh a b p) (h2 : Sh c d q) :
    Calls Tryz.prog 13 #[dcV a b p, dcV c d q] w fun e w' => e = .returned (.tuple #[.int .i64 (kindQ a b p c d q), .int .i64 0]) ∧ Below w.heap.size w w' := by
  obtain ⟨s1, s2, s3, s4, s5, s6⟩ := hs
  obtain ⟨b0, a1, a2⟩ := two_blocks w (sQ a) (sQ b) (sQ p) (sQ c) (sQ d) (sQ q)
  have HB := Lib.hid b0
  have H1 := Lib.hid a1
  have H2 := Lib.hid a2
  have M1 := Lib.hid (fun W => rfcheck_any (sQ a) (sQ b) (sQ p) W s1 s2 s3)
  have M2 := Lib.hid (fun W => rfcheck_any (sQ c) (sQ d) (sQ q) W s4 s5 s6)
  rw [chkD_ok hp] at M1
  rw [chkD_ok hq] at M2
  have M3 := Lib.hid (fun W => rkind_any a b p c d q W h1 h2)
  clear a1 a2 b0 s1 s2 s3 s4 s5 s6 hp hq h1 h2
  generalize kindQ a b p c d q = R at *
  go_enter Tryz.func13, Tryz.ntmps13
  go_wp2_with fail
  generalize (w.alloc (.cells #[.string (sQ a), .string (sQ b), .string (sQ p)] 26 (0, 0))).alloc (.cells #[.string (sQ c), .string (sQ d), .string (sQ q)] 26 (0, 0)) = W0 at *
  have c0 := H1.out.c 0
  have c1 := H1.out.c 1
  have c2 := H1.out.c 2
  simp at c0 c1 c2
  go_wp2_with fail
  with_reducible refine (M1.out _).mono ?_
  rintro e w1 ⟨rfl, hb1⟩
  have d1 := H1.out.below hb1 H1.out.lt
  have d2 := H2.out.below hb1 H2.out.lt
  have f0 := d2.c 0
  have f1 := d2.c 1
  have f2 := d2.c 2
  simp at f0 f1 f2
  have hb2 := HB.out.trans (hb1.mono HB.out.size)
  clear c0 c1 c2
  go_wp2_with fail
  with_reducible refine (M2.out _).mono ?_
  rintro e w3 ⟨rfl, hb3⟩
  have g1 := d1.below hb3 d1.lt
  have g2 := d2.below hb3 d2.lt
  have c0 := g1.c 0
  have c1 := g1.c 1
  have c2 := g1.c 2
  clear f0 f1 f2
  have f0 := g2.c 0
  have f1 := g2.c 1
  have f2 := g2.c 2
  simp at f0 f1 f2 c0 c1 c2
  have hb4 := hb2.trans (hb3.mono hb2.size)
  go_wp2_with fail
  with_reducible refine (M3.out _).mono ?_
  rintro e w5 ⟨rfl, hb5⟩
  go_wp2_with fail
  go_ret2
  exact ⟨rfl, hb4.trans (hb5.mono hb4.size)⟩
end Go.Proofs.YtbdckemkmocdlaaGreatDoor

/- ratio.sums.sign, root, SignRoots, SignRoot. -/
import Derived.Test.YtbdckemkmocdlaaGreatDoorZ14
set_option linter.unusedVariables false
set_option linter.unusedSimpArgs false
namespace Go.Proofs.YtbdckemkmocdlaaGreatDoor
open Go.RowKit

set_option maxRecDepth 100000 in
set_option maxHeartbeats 1000000 in
theorem sums_sign (s : Nat) (a : Int) (w : World) (h0 : OK0 w s) (ha : Fit a) :
    Calls Tryz.prog 168 #[.pointer (some ⟨s, 0, none⟩), .string (sI a)] w fun e w' => e = .returned (.int .i64 (sgn a)) ∧ Below w.heap.size w w' := by
  have HK := Lib.hid h0
  obtain ⟨k1, k2, k3⟩ := h0
  go_enter Tryz.func168, Tryz.ntmps168
  go_wp2_with (go_at_call 190; refine (wsign_any a _ ha).mono ?_; rintro e w1 ⟨rfl, hb1⟩; have k4 := (HK.out.below hb1).1; have k5 := (HK.out.below hb1).2.1)
  go_ret
  exact ⟨rfl, hb1.trans (below_setSame k4 _)⟩

/-- the sign of a, and b times the root of c -/
def rootI (a b c : Int) : Int :=
  if 0 ≤ sgn a * (sgn b * sgn c) then (if sgn a = 0 then sgn b * sgn c else sgn a) else sgn a * sgn (a * a - b * b * c)

theorem sgn_mul_le (a b : Int) : -1 ≤ sgn a * sgn b ∧ sgn a * sgn b ≤ 1 := by
  rcases sgn_cases a with ⟨_, h⟩ | ⟨_, h⟩ | ⟨_, h⟩ <;> rcases sgn_cases b with ⟨_, k⟩ | ⟨_, k⟩ | ⟨_, k⟩ <;> rw [h, k] <;> omega
theorem unit_mul {x y : Int} (h1 : -1 ≤ x ∧ x ≤ 1) (h2 : -1 ≤ y ∧ y ≤ 1) : -1 ≤ x * y ∧ x * y ≤ 1 := by
  have hx : x = -1 ∨ x = 0 ∨ x = 1 := by omega
  rcases hx with rfl | rfl | rfl <;> omega

set_option maxRecDepth 100000 in
set_option maxHeartbeats 2000000 in
theorem root_any (s : Nat) (a b c : Int) (w : World) (h0 : OK0 w s) (ha : Fit a) (hb : Fit b) (hc : Fit c) (f1 : Fit (a * a)) (f2 : FitP [b, b, c]) (f3 : Fit (a * a - b * b * c)) (he : Env w) :
    Calls Tryz.prog 167 #[.pointer (some ⟨s, 0, none⟩), .string (sI a), .string (sI b), .string (sI c)] w fun e w' => e = .returned (.int .i64 (rootI a b c)) ∧ Below w.heap.size w w' := by
  have KE := Lib.hid (show ∀ W, Below w.heap.size w W → Env W from fun W hW => he.below hW)
  have KO := Lib.hid (show ∀ W, Below w.heap.size w W → OK0 W s from fun W hW => h0.below hW)
  clear he h0
  have g2 : Fit (b * b * c) := by have := f2.2 3 (by simp); simpa [prodI] using this
  have F2 := Lib.hid f2
  clear f2
  obtain ⟨l1, l2⟩ := sgn_le a
  obtain ⟨l3, l4⟩ := sgn_mul_le b c
  obtain ⟨l5, l6⟩ := unit_mul (sgn_le a) (sgn_mul_le b c)
  have HV := Lib.hid (show rootI a b c = if 0 ≤ sgn a * (sgn b * sgn c) then (if sgn a = 0 then sgn b * sgn c else sgn a) else sgn a * sgn (a * a - b * b * c) from rfl)
  have hd := sgn_le (a * a - b * b * c)
  generalize hX : sgn a = X at *
  have HX := Lib.hid hX
  clear hX
  obtain ⟨l7, l8⟩ := unit_mul ⟨l1, l2⟩ hd
  generalize hY : sgn b * sgn c = Y at *
  generalize hZ : X * Y = Z at *
  go_enter Tryz.func167, Tryz.ntmps167
  go_wp2_with fail
  refine (sums_sign s a _ (KO.out _ (Below.refl _ _)) ha).mono ?_
  rintro e w1 ⟨rfl, hb1⟩
  rw [HX.out]
  go_wp2_with fail
  refine (sums_sign s b _ (KO.out _ hb1) hb).mono ?_
  rintro e w2 ⟨rfl, hb2⟩
  have hb3 := hb1.trans (hb2.mono hb1.size)
  go_wp2_with fail
  refine (sums_sign s c _ (KO.out _ hb3) hc).mono ?_
  rintro e w4 ⟨rfl, hb4⟩
  have hb5 := hb3.trans (hb4.mono hb3.size)
  clear hb1 hb2 hb3 hb4
  by_cases hz : 0 ≤ Z
  · by_cases hx : X = 0
    · have HR := Lib.hid (show rootI a b c = Y by rw [HV.out, if_pos hz, if_pos hx])
      clear HV
      subst hx
      go_wp2_with fail
      go_ret
      exact ⟨ret_int HR.out.symm, hb5⟩
    · have HR := Lib.hid (show rootI a b c = X by rw [HV.out, if_pos hz, if_neg hx])
      clear HV
      go_wp2_with fail
      go_ret
      exact ⟨ret_int HR.out.symm, hb5⟩
  · have HR := Lib.hid (show rootI a b c = X * sgn (a * a - b * b * c) by rw [HV.out, if_neg hz])
    clear HV
    go_wp2_with fail
    refine (mul2 _ s a a (KO.out _ hb5) (fitP2 ha ha f1) (KE.out _ hb5)).mono ?_
    rintro e w6 ⟨rfl, hb6⟩
    have hb7 := hb5.trans (hb6.mono hb5.size)
    go_wp2_with fail
    refine (mul3 _ s b b c (KO.out _ hb7) F2.out (KE.out _ hb7)).mono ?_
    rintro e w8 ⟨rfl, hb8⟩
    have hb9 := hb7.trans (hb8.mono hb7.size)
    go_wp2_with fail
    refine (sums_Sub s _ _ (sI (a * a - b * b * c)) _ (KO.out _ hb9) (fun W hW => sub_any (a * a) (b * b * c) W f1 g2 f3 (KE.out _ (hb9.trans (hW.mono hb9.size))))).mono ?_
    rintro e w10 ⟨rfl, hb10⟩
    have hb11 := hb9.trans (hb10.mono hb9.size)
    go_wp2_with fail
    refine (sums_sign s _ _ (KO.out _ hb11) f3).mono ?_
    rintro e w12 ⟨rfl, hb12⟩
    generalize sgn (a * a - b * b * c) = V at *
    have HW := Lib.hid (IntWalk.wrap64_in (X * V) (by omega))
    go_wp2_with fail
    go_ret
    exact ⟨ret_int (by rw [HR.out]), hb11.trans (hb12.mono hb11.size)⟩

theorem sQ_pos (x : Rat) : 0 < (sQ x).size := by
  rw [ba_size, sQ_list]
  have := List.length_pos_iff.2 (itoa_ne_nil x.num)
  unfold ratT; split
  · exact this
  · simp; omega
theorem sQ_head (x : Rat) : (((sQ x)[0]'(sQ_pos x)).toNat : Int) = 45 ↔ x.num < 0 := by
  have h1 := head_ba (sQ x) (sQ_pos x) 45
  rw [sQ_list] at h1
  refine Iff.trans h1.symm ?_
  rw [← itoa_head_minus]
  have := itoa_ne_nil x.num
  unfold ratT; split
  · exact Iff.rfl
  · cases h : Lib.itoa x.num with
    | nil => exact absurd h this
    | cons c l => simp
theorem sQ_zero : (⟨#[48]⟩ : ByteArray) = sQ 0 := sQ_of (by rw [ratT_one (by rfl)]; exact itoa_zero.symm)
theorem fitQ_zero : FitQ 0 := ⟨fit_zero, fit_one⟩

theorem cut_zero (w : World) (he : Env w) :
    Calls Tryz.prog 69 #[.string (sQ 0)] w fun e w' => e = .returned (.tuple #[.string (sI 0), .string (sI 1), .bool false]) ∧ Below w.heap.size w w' :=
  cut_sQ 0 w (by have := fitQ_zero.size; omega) he

theorem checks_five (w : World) (a b c : Rat) (ha : FitQ a) (hb : FitQ b) (hc : FitQ c) (he : Env w) :
    Calls Tryz.prog 159 #[.slice (some ⟨w.heap.size, 0, none⟩) 5 5] (w.alloc (.cells #[.string (sQ a), .string (sQ b), .string (sQ c), .string (sQ 0), .string (sQ 0)] 22 (0, 0))) fun e w' => e = .returned (.int .i64 0) ∧ Below w.heap.size w w' := by
  have hb1 : Below w.heap.size w (w.alloc (.cells #[.string (sQ a), .string (sQ b), .string (sQ c), .string (sQ 0), .string (sQ 0)] 22 (0, 0))) := (Below.refl _ w).alloc (Nat.le_refl _) _
  refine (checks_any _ w.heap.size [a, b, c, 0, 0] (by simp) (by simp) (rat_row w [a, b, c, 0, 0]) ?_ (he.below hb1)).mono ?_
  · intro x hx
    simp only [List.mem_cons, List.not_mem_nil, or_false] at hx
    rcases hx with rfl | rfl | rfl | rfl | rfl
    · exact ha
    · exact hb
    · exact hc
    · exact fitQ_zero
    · exact fitQ_zero
  · rintro e w' ⟨h1, h2⟩
    exact ⟨h1, hb1.trans (h2.mono hb1.size)⟩

/-- the sign of a, and b times the root of c -/
def rootR (a b c : Rat) : Int := rootI (a.num * b.den * c.den) (b.num * a.den) (c.num * c.den)

structure RootFit (a b c : Rat) : Prop where
  fa : FitQ a
  fb : FitQ b
  fc : FitQ c
  x1 : Fit (a.num * b.den)
  x2 : Fit (a.num * b.den * c.den)
  y : Fit (b.num * a.den)
  r : Fit (c.num * c.den)
  xx : Fit (a.num * b.den * c.den * (a.num * b.den * c.den))
  yy : Fit (b.num * a.den * (b.num * a.den))
  yyr : Fit (b.num * a.den * (b.num * a.den) * (c.num * c.den))
  d : Fit (a.num * b.den * c.den * (a.num * b.den * c.den) - b.num * a.den * (b.num * a.den) * (c.num * c.den))

theorem fitP_of {l : List Int} (h1 : ∀ x ∈ l, Fit x) (h2 : ∀ k, k ≤ l.length → Fit (prodI (l.take k))) : FitP l := ⟨h1, h2⟩
theorem fitP3 {a b c : Int} (ha : Fit a) (hb : Fit b) (hc : Fit c) (h : Fit (a * b)) (h2 : Fit (a * b * c)) : FitP [a, b, c] := by
  refine ⟨by intro x hx; simp only [List.mem_cons, List.not_mem_nil, or_false] at hx; rcases hx with rfl | rfl | rfl <;> assumption, ?_⟩
  intro k hk
  have hk2 : k ≤ 3 := hk
  match k, hk2 with
  | 0, _ => simpa [prodI] using fit_one
  | 1, _ => simpa [prodI] using ha
  | 2, _ => simpa [prodI] using h
  | 3, _ => simpa [prodI] using h2
theorem fitP4 {a b c d : Int} (ha : Fit a) (hb : Fit b) (hc : Fit c) (hd : Fit d) (h : Fit (a * b)) (h2 : Fit (a * b * c)) (h3 : Fit (a * b * c * d)) : FitP [a, b, c, d] := by
  refine ⟨by intro x hx; simp only [List.mem_cons, List.not_mem_nil, or_false] at hx; rcases hx with rfl | rfl | rfl | rfl <;> assumption, ?_⟩
  intro k hk
  have hk2 : k ≤ 4 := hk
  match k, hk2 with
  | 0, _ => simpa [prodI] using fit_one
  | 1, _ => simpa [prodI] using ha
  | 2, _ => simpa [prodI] using h
  | 3, _ => simpa [prodI] using h2
  | 4, _ => simpa [prodI] using h3
theorem fitP5 {a b c d f : Int} (ha : Fit a) (hb : Fit b) (hc : Fit c) (hd : Fit d) (hf : Fit f) (h : Fit (a * b)) (h2 : Fit (a * b * c)) (h3 : Fit (a * b * c * d)) (h4 : Fit (a * b * c * d * f)) : FitP [a, b, c, d, f] := by
  refine ⟨by intro x hx; simp only [List.mem_cons, List.not_mem_nil, or_false] at hx; rcases hx with rfl | rfl | rfl | rfl | rfl <;> assumption, ?_⟩
  intro k hk
  have hk2 : k ≤ 5 := hk
  match k, hk2 with
  | 0, _ => simpa [prodI] using fit_one
  | 1, _ => simpa [prodI] using ha
  | 2, _ => simpa [prodI] using h
  | 3, _ => simpa [prodI] using h2
  | 4, _ => simpa [prodI] using h3
  | 5, _ => simpa [prodI] using h4
end Go.Proofs.YtbdckemkmocdlaaGreatDoor

/- ratio.SignRoots, SignRoot. -/
namespace Go.Proofs.YtbdckemkmocdlaaGreatDoor
open Go.RowKit

set_option maxRecDepth 100000 in
set_option maxHeartbeats 4000000 in
theorem signRoots_any (a b c : Rat) (w : World) (hf : RootFit a b c) (hc0 : 0 ≤ c.num) (he : Env w) :
    Calls Tryz.prog 138 #[.string (sQ a), .string (sQ b), .string (sQ c), .string (sQ 0), .string (sQ 0)] w fun e w' => e = .returned (.tuple #[.int .i64 (rootR a b c), .int .i64 0]) ∧ Below w.heap.size w w' := by
  have KE := Lib.hid (show ∀ W, Below w.heap.size w W → Env W from fun W hW => he.below hW)
  have HF := Lib.hid hf
  have hp := sQ_pos c
  have t1 : ((((sQ c)[0]'(sQ_pos c)).toNat : Int) == 45) = false := by simpa using fun e => (by have := (sQ_head c).1 e; omega : False)
  have hp0 := sQ_pos 0
  have t2 : ((((sQ 0)[0]'(sQ_pos 0)).toNat : Int) == 45) = false := by simpa using fun e => (by have := (sQ_head 0).1 e; simp at this : False)
  have hsa := hf.fa.size
  have hsb := hf.fb.size
  have hsc := hf.fc.size
  have HR := Lib.hid (show rootR a b c = rootI (a.num * b.den * c.den) (b.num * a.den) (c.num * c.den) from rfl)
  have E1 := Lib.hid (show a.num * b.den * c.den * 1 * 1 = a.num * b.den * c.den by simp)
  have E2 := Lib.hid (show b.num * a.den * 1 * 1 = b.num * a.den by simp)
  have E3 := Lib.hid (show 0 * (a.den : Int) * b.den * c.den = 0 by simp)
  have P1 := Lib.hid (show FitP [a.num, (b.den : Int), c.den, 1, 1] from fitP5 hf.fa.1 hf.fb.2 hf.fc.2 fit_one fit_one hf.x1 hf.x2 (by rw [Int.mul_one]; exact hf.x2) (by rw [Int.mul_one, Int.mul_one]; exact hf.x2))
  have P2 := Lib.hid (show FitP [b.num, (a.den : Int), 1, 1] from fitP4 hf.fb.1 hf.fa.2 fit_one fit_one hf.y (by rw [Int.mul_one]; exact hf.y) (by rw [Int.mul_one, Int.mul_one]; exact hf.y))
  have P3 := Lib.hid (show FitP [c.num, (c.den : Int)] from fitP2 hf.fc.1 hf.fc.2 hf.r)
  have P4 := Lib.hid (show FitP [0, (a.den : Int), b.den, c.den] from fitP4 fit_zero hf.fa.2 hf.fb.2 hf.fc.2 (by simpa using fit_zero) (by simpa using fit_zero) (by simpa using fit_zero))
  have P5 := Lib.hid (show FitP [0, 1] from fitP2 fit_zero fit_one (by simpa using fit_zero))
  clear hf he
  go_enter Tryz.func138, Tryz.ntmps138
  go_wp2_with fail
  refine (checks_five w a b c HF.out.fa HF.out.fb HF.out.fc (KE.out _ (Below.refl _ _))).mono ?_
  rintro e w1 ⟨rfl, hb1⟩
  go_wp2_with fail
  refine (cut_sQ a _ (by omega) (KE.out _ hb1)).mono ?_
  rintro e w2 ⟨rfl, hb2⟩
  have hb2 := hb1.trans (hb2.mono hb1.size)
  go_wp2_with fail
  refine (cut_sQ b _ (by omega) (KE.out _ hb2)).mono ?_
  rintro e w3 ⟨rfl, hb3⟩
  have hb3 := hb2.trans (hb3.mono hb2.size)
  go_wp2_with fail
  refine (cut_sQ c _ (by omega) (KE.out _ hb3)).mono ?_
  rintro e w4 ⟨rfl, hb4⟩
  have hb4 := hb3.trans (hb4.mono hb3.size)
  go_wp2_with fail
  refine (cut_zero _ (KE.out _ hb4)).mono ?_
  rintro e w5 ⟨rfl, hb5⟩
  have hb5 := hb4.trans (hb5.mono hb4.size)
  go_wp2_with fail
  refine (cut_zero _ (KE.out _ hb5)).mono ?_
  rintro e w6 ⟨rfl, hb6⟩
  have hb6 := hb5.trans (hb6.mono hb5.size)
  have hk := ok0_new w6
  have hsz : (w6.alloc (.cells #[.int .i64 0] 188 (0, 0))).heap.size = w6.heap.size + 1 := by simp
  have hb7 : Below w.heap.size w (w6.alloc (.cells #[.int .i64 0] 188 (0, 0))) := hb6.alloc hb6.size _
  clear hb1 hb2 hb3 hb4 hb5 hb6
  go_wp2_with fail
  generalize w6.alloc (.cells #[.int .i64 0] 188 (0, 0)) = w7 at *
  generalize w6.heap.size = s at *
  have KO := Lib.hid (show ∀ W, Below w7.heap.size w7 W → OK0 W s from fun W hW => hk.below hW)
  rw [← hsz]
  clear hsz
  refine (mul5 _ s _ _ _ 1 1 hk P1.out (KE.out _ hb7)).mono ?_
  rintro e w8 ⟨rfl, hb8⟩
  rw [E1.out]
  have hb9 := hb7.trans (hb8.mono hb7.size)
  go_wp2_with fail
  refine (mul4 _ s _ _ 1 1 (KO.out _ hb8) P2.out (KE.out _ hb9)).mono ?_
  rintro e w10 ⟨rfl, hb10⟩
  rw [E2.out]
  have hb11 := hb8.trans (hb10.mono hb8.size)
  have hb12 := hb7.trans (hb11.mono hb7.size)
  clear hb8 hb9 hb10
  go_wp2_with fail
  refine (mul2 _ s _ _ (KO.out _ hb11) P3.out (KE.out _ hb12)).mono ?_
  rintro e w13 ⟨rfl, hb13⟩
  have hb14 := hb11.trans (hb13.mono hb11.size)
  have hb15 := hb7.trans (hb14.mono hb7.size)
  clear hb11 hb12 hb13
  go_wp2_with fail
  refine (mul4 _ s 0 _ _ _ (KO.out _ hb14) P4.out (KE.out _ hb15)).mono ?_
  rintro e w16 ⟨rfl, hb16⟩
  rw [E3.out]
  have hb17 := hb14.trans (hb16.mono hb14.size)
  have hb18 := hb7.trans (hb17.mono hb7.size)
  clear hb14 hb15 hb16
  go_wp2_with fail
  refine (mul2 _ s 0 1 (KO.out _ hb17) P5.out (KE.out _ hb18)).mono ?_
  rintro e w19 ⟨rfl, hb19⟩
  have hb20 := hb17.trans (hb19.mono hb17.size)
  have hb21 := hb7.trans (hb20.mono hb7.size)
  clear hb17 hb18 hb19
  go_wp2_with fail
  refine (root_any s _ _ _ _ (KO.out _ hb20) HF.out.x2 HF.out.y HF.out.r HF.out.xx (fitP3 HF.out.y HF.out.y HF.out.r HF.out.yy HF.out.yyr) HF.out.d (KE.out _ hb21)).mono ?_
  rintro e w22 ⟨rfl, hb22⟩
  rw [← HR.out]
  have hb23 := hb20.trans (hb22.mono hb20.size)
  have hb24 := hb7.trans (hb23.mono hb7.size)
  clear hb20 hb21 hb22
  go_wp2_with fail
  refine (sums_sign s 0 _ (KO.out _ hb23) fit_zero).mono ?_
  rintro e w25 ⟨rfl, hb25⟩
  have hb26 := hb23.trans (hb25.mono hb23.size)
  rw [show sgn 0 = 0 from rfl]
  go_wp2_with fail
  refine (sums_sign s 0 _ (KO.out _ hb26) fit_zero).mono ?_
  rintro e w27 ⟨rfl, hb27⟩
  have hb28 := hb26.trans (hb27.mono hb26.size)
  have hb29 := hb7.trans (hb28.mono hb7.size)
  have k1 := (KO.out _ hb28).1
  have k2 := (KO.out _ hb28).2.1
  rw [show sgn 0 = 0 from rfl]
  clear hb23 hb24 hb25 hb26 hb27
  generalize hRR : rootR a b c = R at *
  have HRR := Lib.hid hRR
  clear hRR
  by_cases hR : R = 0
  · subst hR
    go_wp2_with fail
    go_quiet (fail)
    go_wp2_with fail
    go_ret2
    exact ⟨ret_pi HRR.out.symm, hb29.trans (below_same _ _ _)⟩
  · go_wp2_with fail
    go_quiet (fail)
    go_wp2_with fail
    go_ret2
    exact ⟨ret_pi HRR.out.symm, hb29.trans (below_same _ _ _)⟩

set_option maxRecDepth 100000 in
set_option maxHeartbeats 1000000 in
theorem signRoot_any (a b c : Rat) (w : World) (hf : RootFit a b c) (hc0 : 0 ≤ c.num) (he : Env w) :
    Calls Tryz.prog 102 #[.string (sQ a), .string (sQ b), .string (sQ c)] w fun e w' => e = .returned (.tuple #[.int .i64 (rootR a b c), .int .i64 0]) ∧ Below w.heap.size w w' := by
  go_enter Tryz.func102, Tryz.ntmps102
  go_wp2_with fail
  rw [sQ_zero]
  refine (signRoots_any a b c _ hf hc0 he).mono ?_
  rintro e w1 ⟨rfl, hb1⟩
  go_wp2_with fail
  go_ret2
  exact ⟨rfl, hb1⟩
end Go.Proofs.YtbdckemkmocdlaaGreatDoor

/- package discs: sums.do, add, sub, mul, root, order. -/
namespace Go.Proofs.YtbdckemkmocdlaaGreatDoor
open Go.RowKit

set_option maxRecDepth 100000 in
set_option maxHeartbeats 1000000 in
theorem ddo_Add (g : Nat) (a b r : ByteArray) (w : World) (h0 : OK0 w g)
    (hop : ∀ W, Below w.heap.size w W → Calls Tryz.prog 101 #[.string a, .string b] W fun e W' => e = .returned (.tuple #[.string r, .int .i64 0]) ∧ Below W.heap.size W W') :
    Calls Tryz.prog 99 #[.pointer (some ⟨g, 0, none⟩), .func (.func 101) #[] #[], .string a, .string b] w fun e w' => e = .returned (.string r) ∧ Below w.heap.size w w' := by
  have HO := Lib.hid hop
  have HK := Lib.hid h0
  obtain ⟨k1, k2, k3⟩ := h0
  clear hop
  go_enter Tryz.func99, Tryz.ntmps99
  go_wp2_with (go_at_call 101; refine (HO.out _ (Below.refl _ _)).mono ?_; rintro e w1 ⟨rfl, hb1⟩; have k4 := (HK.out.below hb1).1; have k5 := (HK.out.below hb1).2.1)
  go_ret
  exact ⟨rfl, hb1.trans (below_setSame k4 _)⟩
set_option maxRecDepth 100000 in
set_option maxHeartbeats 1000000 in
theorem ddo_Sub (g : Nat) (a b r : ByteArray) (w : World) (h0 : OK0 w g)
    (hop : ∀ W, Below w.heap.size w W → Calls Tryz.prog 100 #[.string a, .string b] W fun e W' => e = .returned (.tuple #[.string r, .int .i64 0]) ∧ Below W.heap.size W W') :
    Calls Tryz.prog 99 #[.pointer (some ⟨g, 0, none⟩), .func (.func 100) #[] #[], .string a, .string b] w fun e w' => e = .returned (.string r) ∧ Below w.heap.size w w' := by
  have HO := Lib.hid hop
  have HK := Lib.hid h0
  obtain ⟨k1, k2, k3⟩ := h0
  clear hop
  go_enter Tryz.func99, Tryz.ntmps99
  go_wp2_with (go_at_call 100; refine (HO.out _ (Below.refl _ _)).mono ?_; rintro e w1 ⟨rfl, hb1⟩; have k4 := (HK.out.below hb1).1; have k5 := (HK.out.below hb1).2.1)
  go_ret
  exact ⟨rfl, hb1.trans (below_setSame k4 _)⟩
set_option maxRecDepth 100000 in
set_option maxHeartbeats 1000000 in
theorem ddo_Mul (g : Nat) (a b r : ByteArray) (w : World) (h0 : OK0 w g)
    (hop : ∀ W, Below w.heap.size w W → Calls Tryz.prog 103 #[.string a, .string b] W fun e W' => e = .returned (.tuple #[.string r, .int .i64 0]) ∧ Below W.heap.size W W') :
    Calls Tryz.prog 99 #[.pointer (some ⟨g, 0, none⟩), .func (.func 103) #[] #[], .string a, .string b] w fun e w' => e = .returned (.string r) ∧ Below w.heap.size w w' := by
  have HO := Lib.hid hop
  have HK := Lib.hid h0
  obtain ⟨k1, k2, k3⟩ := h0
  clear hop
  go_enter Tryz.func99, Tryz.ntmps99
  go_wp2_with (go_at_call 103; refine (HO.out _ (Below.refl _ _)).mono ?_; rintro e w1 ⟨rfl, hb1⟩; have k4 := (HK.out.below hb1).1; have k5 := (HK.out.below hb1).2.1)
  go_ret
  exact ⟨rfl, hb1.trans (below_setSame k4 _)⟩
set_option maxRecDepth 100000 in
set_option maxHeartbeats 1000000 in
theorem ddo_Div (g : Nat) (a b r : ByteArray) (w : World) (h0 : OK0 w g)
    (hop : ∀ W, Below w.heap.size w W → Calls Tryz.prog 122 #[.string a, .string b] W fun e W' => e = .returned (.tuple #[.string r, .int .i64 0]) ∧ Below W.heap.size W W') :
    Calls Tryz.prog 99 #[.pointer (some ⟨g, 0, none⟩), .func (.func 122) #[] #[], .string a, .string b] w fun e w' => e = .returned (.string r) ∧ Below w.heap.size w w' := by
  have HO := Lib.hid hop
  have HK := Lib.hid h0
  obtain ⟨k1, k2, k3⟩ := h0
  clear hop
  go_enter Tryz.func99, Tryz.ntmps99
  go_wp2_with (go_at_call 122; refine (HO.out _ (Below.refl _ _)).mono ?_; rintro e w1 ⟨rfl, hb1⟩; have k4 := (HK.out.below hb1).1; have k5 := (HK.out.below hb1).2.1)
  go_ret
  exact ⟨rfl, hb1.trans (below_setSame k4 _)⟩

/-- what an operation asks of the lengths of its numbers -/
structure FitAdd (a b : Rat) : Prop where
  fa : FitQ a
  fb : FitQ b
  f1 : Fit (a.num * b.den)
  f2 : Fit (b.num * a.den)
  f3 : Fit (a.den * b.den)
  f4 : Fit (a.num * b.den + b.num * a.den)
structure FitSub (a b : Rat) : Prop where
  fa : FitQ a
  fb : FitQ b
  f1 : Fit (a.num * b.den)
  f2 : Fit (b.num * a.den)
  f3 : Fit (a.den * b.den)
  f4 : Fit (a.num * b.den - b.num * a.den)
structure FitMul (a b : Rat) : Prop where
  fa : FitQ a
  fb : FitQ b
  f1 : Fit (a.num * b.num)
  f3 : Fit (a.den * b.den)
structure FitDiv (a b : Rat) : Prop where
  fa : FitQ a
  fb : FitQ b
  ne : b ≠ 0
  f1 : Fit (a.num * b.den)
  f3 : Fit (a.den * b.num)

theorem FitAdd.calls {a b : Rat} (h : FitAdd a b) (w : World) (he : Env w) : Calls Tryz.prog 101 #[.string (sQ a), .string (sQ b)] w fun e w' => e = .returned (.tuple #[.string (sQ (a + b)), .int .i64 0]) ∧ Below w.heap.size w w' :=
  rat_Add a b w h.fa h.fb h.f1 h.f2 h.f3 h.f4 he
theorem FitSub.calls {a b : Rat} (h : FitSub a b) (w : World) (he : Env w) : Calls Tryz.prog 100 #[.string (sQ a), .string (sQ b)] w fun e w' => e = .returned (.tuple #[.string (sQ (a - b)), .int .i64 0]) ∧ Below w.heap.size w w' :=
  rat_Sub a b w h.fa h.fb h.f1 h.f2 h.f3 h.f4 he
theorem FitMul.calls {a b : Rat} (h : FitMul a b) (w : World) (he : Env w) : Calls Tryz.prog 103 #[.string (sQ a), .string (sQ b)] w fun e w' => e = .returned (.tuple #[.string (sQ (a * b)), .int .i64 0]) ∧ Below w.heap.size w w' :=
  rat_Mul a b w h.fa h.fb h.f1 h.f3 he
theorem FitDiv.calls {a b : Rat} (h : FitDiv a b) (w : World) (he : Env w) : Calls Tryz.prog 122 #[.string (sQ a), .string (sQ b)] w fun e w' => e = .returned (.tuple #[.string (sQ (a / b)), .int .i64 0]) ∧ Below w.heap.size w w' :=
  rat_Div a b w h.fa h.fb h.ne h.f1 h.f3 he

set_option maxRecDepth 100000 in
set_option maxHeartbeats 1000000 in
theorem dadd_any (s : Nat) (a b : Rat) (w : World) (h0 : OK0 w s) (hf : FitAdd a b) (he : Env w) :
    Calls Tryz.prog 64 #[.pointer (some ⟨s, 0, none⟩), .string (sQ a), .string (sQ b)] w fun e w' => e = .returned (.string (sQ (a + b))) ∧ Below w.heap.size w w' := by
  have KE := Lib.hid (show ∀ W, Below w.heap.size w W → Env W from fun W hW => he.below hW)
  clear he
  go_enter Tryz.func64, Tryz.ntmps64
  go_wp2_with fail
  refine (ddo_Add s _ _ (sQ (a + b)) _ h0 (fun W hW => hf.calls W (KE.out _ hW))).mono ?_
  rintro e w1 ⟨rfl, hb1⟩
  go_wp2_with fail
  go_ret
  exact ⟨rfl, hb1⟩
set_option maxRecDepth 100000 in
set_option maxHeartbeats 1000000 in
theorem dsub_any (s : Nat) (a b : Rat) (w : World) (h0 : OK0 w s) (hf : FitSub a b) (he : Env w) :
    Calls Tryz.prog 63 #[.pointer (some ⟨s, 0, none⟩), .string (sQ a), .string (sQ b)] w fun e w' => e = .returned (.string (sQ (a - b))) ∧ Below w.heap.size w w' := by
  have KE := Lib.hid (show ∀ W, Below w.heap.size w W → Env W from fun W hW => he.below hW)
  clear he
  go_enter Tryz.func63, Tryz.ntmps63
  go_wp2_with fail
  refine (ddo_Sub s _ _ (sQ (a - b)) _ h0 (fun W hW => hf.calls W (KE.out _ hW))).mono ?_
  rintro e w1 ⟨rfl, hb1⟩
  go_wp2_with fail
  go_ret
  exact ⟨rfl, hb1⟩
set_option maxRecDepth 100000 in
set_option maxHeartbeats 1000000 in
theorem dmul_any (s : Nat) (a b : Rat) (w : World) (h0 : OK0 w s) (hf : FitMul a b) (he : Env w) :
    Calls Tryz.prog 66 #[.pointer (some ⟨s, 0, none⟩), .string (sQ a), .string (sQ b)] w fun e w' => e = .returned (.string (sQ (a * b))) ∧ Below w.heap.size w w' := by
  have KE := Lib.hid (show ∀ W, Below w.heap.size w W → Env W from fun W hW => he.below hW)
  clear he
  go_enter Tryz.func66, Tryz.ntmps66
  go_wp2_with fail
  refine (ddo_Mul s _ _ (sQ (a * b)) _ h0 (fun W hW => hf.calls W (KE.out _ hW))).mono ?_
  rintro e w1 ⟨rfl, hb1⟩
  go_wp2_with fail
  go_ret
  exact ⟨rfl, hb1⟩

theorem ddiv_any (s : Nat) (a b : Rat) (w : World) (h0 : OK0 w s) (hf : FitDiv a b) (he : Env w) :
    Calls Tryz.prog 99 #[.pointer (some ⟨s, 0, none⟩), .func (.func 122) #[] #[], .string (sQ a), .string (sQ b)] w fun e w' => e = .returned (.string (sQ (a / b))) ∧ Below w.heap.size w w' :=
  ddo_Div s _ _ _ _ h0 (fun W hW => hf.calls W (he.below hW))

set_option maxRecDepth 100000 in
set_option maxHeartbeats 1000000 in
theorem droot_any (s : Nat) (a b c : Rat) (w : World) (h0 : OK0 w s) (hf : RootFit a b c) (hc0 : 0 ≤ c.num) (he : Env w) :
    Calls Tryz.prog 65 #[.pointer (some ⟨s, 0, none⟩), .string (sQ a), .string (sQ b), .string (sQ c)] w fun e w' => e = .returned (.int .i64 (rootR a b c)) ∧ Below w.heap.size w w' := by
  have HO := Lib.hid (signRoot_any a b c w hf hc0 he)
  have HK := Lib.hid h0
  obtain ⟨k1, k2, k3⟩ := h0
  clear he
  go_enter Tryz.func65, Tryz.ntmps65
  go_wp2_with (go_at_call 102; refine HO.out.mono ?_; rintro e w1 ⟨rfl, hb1⟩; have k4 := (HK.out.below hb1).1; have k5 := (HK.out.below hb1).2.1)
  go_ret
  exact ⟨rfl, hb1.trans (below_setSame k4 _)⟩

/-- the sign of a rational number -/
def sgnQ (x : Rat) : Int := sgn x.num
theorem rootR_zero (x : Rat) : rootR x 0 0 = sgnQ x := by
  unfold rootR rootI sgnQ
  simp [show sgn 0 = 0 from rfl]
  intro h; exact h.symm

set_option maxRecDepth 100000 in
set_option maxHeartbeats 1000000 in
theorem dorder_any (s : Nat) (a b : Rat) (w : World) (h0 : OK0 w s) (hf : FitSub a b) (hr : RootFit (a - b) 0 0) (he : Env w) :
    Calls Tryz.prog 50 #[.pointer (some ⟨s, 0, none⟩), .string (sQ a), .string (sQ b)] w fun e w' => e = .returned (.int .i64 (sgnQ (a - b))) ∧ Below w.heap.size w w' := by
  have KE := Lib.hid (show ∀ W, Below w.heap.size w W → Env W from fun W hW => he.below hW)
  have KO := Lib.hid (show ∀ W, Below w.heap.size w W → OK0 W s from fun W hW => h0.below hW)
  have HR := Lib.hid (rootR_zero (a - b))
  clear he h0
  go_enter Tryz.func50, Tryz.ntmps50
  go_wp2_with fail
  refine (dsub_any s a b _ (KO.out _ (Below.refl _ _)) hf (KE.out _ (Below.refl _ _))).mono ?_
  rintro e w1 ⟨rfl, hb1⟩
  go_wp2_with fail
  rw [sQ_zero]
  refine (droot_any s (a - b) 0 0 _ (KO.out _ hb1) hr (by simp) (KE.out _ hb1)).mono ?_
  rintro e w2 ⟨rfl, hb2⟩
  rw [HR.out]
  go_wp2_with fail
  go_ret
  exact ⟨rfl, hb1.trans (hb2.mono hb1.size)⟩
end Go.Proofs.YtbdckemkmocdlaaGreatDoor

/- Bounds on the lengths of numerators and denominators. -/
namespace Go.Proofs.YtbdckemkmocdlaaGreatDoor
open Go.RowKit

/-- numerator and denominator have at most so many digits -/
def Sz (n d : Nat) (x : Rat) : Prop := x.num.natAbs < 10 ^ n ∧ x.den < 10 ^ d

theorem fit_of {x : Int} {k : Nat} (h : x.natAbs < 10 ^ k) (hk : k ≤ 1024) : Fit x := by
  unfold Fit
  have h1 := (dec_len_le x.natAbs (max k 1) (by omega)).2 (Nat.lt_of_lt_of_le h (Nat.pow_le_pow_right (by omega) (by omega)))
  omega

theorem Sz.fit {n d : Nat} {x : Rat} (h : Sz n d x) (hn : n ≤ 1024) (hd : d ≤ 1024) : FitQ x :=
  ⟨fit_of h.1 hn, fit_of (by simpa using h.2) hd⟩

theorem Sz.mono {n d n' d' : Nat} {x : Rat} (h : Sz n d x) (hn : n ≤ n') (hd : d ≤ d') : Sz n' d' x :=
  ⟨Nat.lt_of_lt_of_le h.1 (Nat.pow_le_pow_right (by omega) hn), Nat.lt_of_lt_of_le h.2 (Nat.pow_le_pow_right (by omega) hd)⟩

theorem mul_lt_pow {a b n d : Nat} (ha : a < 10 ^ n) (hb : b < 10 ^ d) : a * b < 10 ^ (n + d) := by
  rw [Nat.pow_add]; exact Nat.mul_lt_mul'' ha hb

theorem nat_mul_lt {a b : Int} {n d : Nat} (ha : a.natAbs < 10 ^ n) (hb : b.natAbs < 10 ^ d) : (a * b).natAbs < 10 ^ (n + d) := by
  rw [Int.natAbs_mul]; exact mul_lt_pow ha hb

theorem nat_add_lt {a b : Int} {n m : Nat} (ha : a.natAbs < 10 ^ n) (hb : b.natAbs < 10 ^ m) : (a + b).natAbs < 10 ^ (max n m + 1) := by
  have h1 : a.natAbs < 10 ^ max n m := Nat.lt_of_lt_of_le ha (Nat.pow_le_pow_right (by omega) (by omega))
  have h2 : b.natAbs < 10 ^ max n m := Nat.lt_of_lt_of_le hb (Nat.pow_le_pow_right (by omega) (by omega))
  rw [Nat.pow_succ]
  have := Int.natAbs_add_le a b
  omega
theorem nat_sub_lt {a b : Int} {n m : Nat} (ha : a.natAbs < 10 ^ n) (hb : b.natAbs < 10 ^ m) : (a - b).natAbs < 10 ^ (max n m + 1) := by
  rw [Int.sub_eq_add_neg]; exact nat_add_lt ha (by rw [Int.natAbs_neg]; exact hb)

theorem sz_divInt {p q : Int} {n d : Nat} (hq0 : q ≠ 0) (hp : p.natAbs < 10 ^ n) (hq : q.natAbs < 10 ^ d) : Sz n d (Rat.divInt p q) := by
  constructor
  · rw [divInt_num p q hq0]
    exact Nat.lt_of_le_of_lt (Int.natAbs_ediv_le_natAbs _ _) hp
  · have h := divInt_den p q hq0
    have h2 : ((Rat.divInt p q).den : Int).natAbs ≤ q.natAbs := by rw [h]; exact Int.natAbs_ediv_le_natAbs _ _
    simp only [Int.natAbs_natCast] at h2
    exact Nat.lt_of_le_of_lt h2 hq

section
variable {n d m f : Nat} {a b : Rat}
theorem den_lt (h : Sz n d a) : ((a.den : Int)).natAbs < 10 ^ d := by simpa using h.2
theorem sz_add (ha : Sz n d a) (hb : Sz m f b) : Sz (max (n + f) (m + d) + 1) (d + f) (a + b) := by
  rw [← divInt_add' a b]
  exact sz_divInt (den_ne a b) (nat_add_lt (nat_mul_lt ha.1 (den_lt hb)) (nat_mul_lt hb.1 (den_lt ha))) (nat_mul_lt (den_lt ha) (den_lt hb))
theorem sz_sub (ha : Sz n d a) (hb : Sz m f b) : Sz (max (n + f) (m + d) + 1) (d + f) (a - b) := by
  rw [← divInt_sub' a b]
  exact sz_divInt (den_ne a b) (nat_sub_lt (nat_mul_lt ha.1 (den_lt hb)) (nat_mul_lt hb.1 (den_lt ha))) (nat_mul_lt (den_lt ha) (den_lt hb))
theorem sz_mul (ha : Sz n d a) (hb : Sz m f b) : Sz (n + m) (d + f) (a * b) := by
  rw [← divInt_mul' a b]
  exact sz_divInt (den_ne a b) (nat_mul_lt ha.1 hb.1) (nat_mul_lt (den_lt ha) (den_lt hb))
theorem num_ne (hb : b ≠ 0) : b.num ≠ 0 := by simpa using hb
theorem sz_div (hb0 : b ≠ 0) (ha : Sz n d a) (hb : Sz m f b) : Sz (n + f) (d + m) (a / b) := by
  rw [← divInt_div' a b]
  exact sz_divInt (Int.mul_ne_zero (by have := a.den_pos; omega) (num_ne hb0)) (nat_mul_lt ha.1 (den_lt hb)) (nat_mul_lt (den_lt ha) hb.1)

theorem fitAdd (ha : Sz n d a) (hb : Sz m f b) (h1 : n + f + 1 ≤ 1024) (h2 : m + d + 1 ≤ 1024) (h3 : d + f ≤ 1024) : FitAdd a b :=
  ⟨ha.fit (by omega) (by omega), hb.fit (by omega) (by omega), fit_of (nat_mul_lt ha.1 (den_lt hb)) (by omega), fit_of (nat_mul_lt hb.1 (den_lt ha)) (by omega),
    fit_of (nat_mul_lt (den_lt ha) (den_lt hb)) (by omega), fit_of (nat_add_lt (nat_mul_lt ha.1 (den_lt hb)) (nat_mul_lt hb.1 (den_lt ha))) (by omega)⟩
theorem fitSub (ha : Sz n d a) (hb : Sz m f b) (h1 : n + f + 1 ≤ 1024) (h2 : m + d + 1 ≤ 1024) (h3 : d + f ≤ 1024) : FitSub a b :=
  ⟨ha.fit (by omega) (by omega), hb.fit (by omega) (by omega), fit_of (nat_mul_lt ha.1 (den_lt hb)) (by omega), fit_of (nat_mul_lt hb.1 (den_lt ha)) (by omega),
    fit_of (nat_mul_lt (den_lt ha) (den_lt hb)) (by omega), fit_of (nat_sub_lt (nat_mul_lt ha.1 (den_lt hb)) (nat_mul_lt hb.1 (den_lt ha))) (by omega)⟩
theorem fitMul (ha : Sz n d a) (hb : Sz m f b) (h1 : n + m ≤ 1024) (h3 : d + f ≤ 1024) : FitMul a b :=
  ⟨ha.fit (by omega) (by omega), hb.fit (by omega) (by omega), fit_of (nat_mul_lt ha.1 hb.1) (by omega), fit_of (nat_mul_lt (den_lt ha) (den_lt hb)) (by omega)⟩
theorem fitDiv (hb0 : b ≠ 0) (ha : Sz n d a) (hb : Sz m f b) (h1 : n + f ≤ 1024) (h3 : d + m ≤ 1024) : FitDiv a b :=
  ⟨ha.fit (by omega) (by omega), hb.fit (by omega) (by omega), hb0, fit_of (nat_mul_lt ha.1 (den_lt hb)) (by omega), fit_of (nat_mul_lt (den_lt ha) hb.1) (by omega)⟩
end

theorem rootFit {n d m f k l : Nat} {a b c : Rat} (ha : Sz n d a) (hb : Sz m f b) (hc : Sz k l c)
    (h1 : 2 * (n + f + l) + 1 ≤ 1024) (h2 : 2 * (m + d) + (k + l) + 1 ≤ 1024) : RootFit a b c :=
  { fa := ha.fit (by omega) (by omega), fb := hb.fit (by omega) (by omega), fc := hc.fit (by omega) (by omega)
    x1 := fit_of (nat_mul_lt ha.1 (den_lt hb)) (by omega)
    x2 := fit_of (nat_mul_lt (nat_mul_lt ha.1 (den_lt hb)) (den_lt hc)) (by omega)
    y := fit_of (nat_mul_lt hb.1 (den_lt ha)) (by omega)
    r := fit_of (nat_mul_lt hc.1 (den_lt hc)) (by omega)
    xx := fit_of (nat_mul_lt (nat_mul_lt (nat_mul_lt ha.1 (den_lt hb)) (den_lt hc)) (nat_mul_lt (nat_mul_lt ha.1 (den_lt hb)) (den_lt hc))) (by omega)
    yy := fit_of (nat_mul_lt (nat_mul_lt hb.1 (den_lt ha)) (nat_mul_lt hb.1 (den_lt ha))) (by omega)
    yyr := fit_of (nat_mul_lt (nat_mul_lt (nat_mul_lt hb.1 (den_lt ha)) (nat_mul_lt hb.1 (den_lt ha))) (nat_mul_lt hc.1 (den_lt hc))) (by omega)
    d := fit_of (nat_sub_lt (nat_mul_lt (nat_mul_lt (nat_mul_lt ha.1 (den_lt hb)) (den_lt hc)) (nat_mul_lt (nat_mul_lt ha.1 (den_lt hb)) (den_lt hc))) (nat_mul_lt (nat_mul_lt (nat_mul_lt hb.1 (den_lt ha)) (nat_mul_lt hb.1 (den_lt ha))) (nat_mul_lt hc.1 (den_lt hc)))) (by omega) }

/-- a text of at most twelve bytes -/
theorem sz_short {x : Rat} (h : (sQ x).size ≤ 12) : Sz 12 10 x := by
  rw [ba_size, sQ_list] at h
  unfold ratT at h
  by_cases hd : x.den = 1
  · rw [if_pos hd] at h
    refine ⟨(dec_len_le _ _ (by omega)).1 (short_len h), ?_⟩
    rw [hd]; decide
  · rw [if_neg hd] at h
    simp only [List.length_append, List.length_cons] at h
    have h1 := List.length_pos_iff.2 (itoa_ne_nil x.num)
    refine ⟨(dec_len_le _ _ (by omega)).1 (short_len (by omega)), (dec_len_le _ _ (by omega)).1 (by omega)⟩
end Go.Proofs.YtbdckemkmocdlaaGreatDoor

set_option linter.unusedVariables false
set_option linter.unusedSimpArgs false
namespace Go.Proofs.YtbdckemkmocdlaaGreatDoor

/-- the base of words -/
def BW : Nat := 1000000000

/-- the i-th word of a number -/
def wd (v i : Nat) : Nat := v / BW ^ i % BW

/-- how many words a number has -/
def nw (v : Nat) : Nat := if h : v = 0 then 0 else nw (v / BW) + 1
termination_by v
decreasing_by unfold BW; omega

/-- what words spell -/
def wval (f : Nat → Int) : Nat → Int
  | 0 => 0
  | n + 1 => wval f n + f n * (BW : Int) ^ n

theorem BW_pos : 0 < BW := by decide
theorem wd_lt (v i : Nat) : wd v i < BW := Nat.mod_lt _ BW_pos

theorem nw_zero : nw 0 = 0 := by rw [nw]; simp
theorem nw_pos {v : Nat} (h : v ≠ 0) : nw v = nw (v / BW) + 1 := by rw [nw, dif_neg h]

theorem lt_pow_nw (v : Nat) : v < BW ^ nw v := by
  induction v using nw.induct with
  | case1 => rw [nw_zero]; simp
  | case2 v h ih =>
    rw [nw_pos h, Nat.pow_succ]
    have := Nat.div_add_mod v BW
    have h2 : v % BW < BW := Nat.mod_lt _ BW_pos
    have h3 : BW * (v / BW + 1) ≤ BW * BW ^ nw (v / BW) := Nat.mul_le_mul_left _ ih
    rw [Nat.mul_comm (BW ^ _)]
    rw [Nat.mul_add] at h3; omega

theorem pow_le_nw {v : Nat} (h : v ≠ 0) : BW ^ (nw v - 1) ≤ v := by
  induction v using nw.induct with
  | case1 => exact absurd rfl h
  | case2 v h ih =>
    rw [nw_pos h]; simp only [Nat.add_sub_cancel]
    by_cases h2 : v / BW = 0
    · rw [h2, nw_zero]; simp; omega
    · have := ih h2
      rw [show nw (v / BW) = (nw (v/BW) - 1) + 1 by rw [nw_pos h2]; simp, Nat.pow_succ]
      exact Nat.le_trans (Nat.mul_le_mul_right _ this) (Nat.div_mul_le_self _ _)

theorem nw_le {v k : Nat} : nw v ≤ k ↔ v < BW ^ k := by
  constructor
  · intro h; exact Nat.lt_of_lt_of_le (lt_pow_nw v) (Nat.pow_le_pow_right BW_pos h)
  · intro h
    by_cases hv : v = 0
    · subst hv; rw [nw_zero]; omega
    · have h1 := pow_le_nw hv
      have h2 : BW ^ (nw v - 1) < BW ^ k := Nat.lt_of_le_of_lt h1 h
      have := (Nat.pow_lt_pow_iff_right (by decide : 1 < BW)).1 h2
      omega

theorem wd_big {v i : Nat} (h : nw v ≤ i) : wd v i = 0 := by
  unfold wd; rw [Nat.div_eq_of_lt (nw_le.1 h)]; rfl

theorem wd_top {v : Nat} (h : v ≠ 0) : wd v (nw v - 1) ≠ 0 := by
  unfold wd
  have h1 := pow_le_nw h
  have h2 := lt_pow_nw v
  have h3 : 0 < BW ^ (nw v - 1) := Nat.pow_pos BW_pos
  have h4 : 0 < v / BW ^ (nw v - 1) := Nat.div_pos h1 h3
  have h5 : v / BW ^ (nw v - 1) < BW := by
    apply Nat.div_lt_of_lt_mul
    rw [← Nat.pow_succ]; rw [show (nw v - 1).succ = nw v by have := nw_pos h; omega]; exact h2
  rw [Nat.mod_eq_of_lt h5]; omega

theorem wval_mono_nonneg (f : Nat → Int) (n : Nat) (h : ∀ i, i < n → 0 ≤ f i) : 0 ≤ wval f n := by
  induction n with
  | zero => simp [wval]
  | succ n ih =>
    have := ih (fun i hi => h i (by omega))
    have h2 := h n (by omega)
    have h3 : (0 : Int) ≤ (BW : Int) ^ n := Int.pow_nonneg (by decide)
    have := Int.mul_nonneg h2 h3
    simp only [wval]; omega

theorem wval_lt (f : Nat → Int) (n : Nat) (h : ∀ i, i < n → 0 ≤ f i ∧ f i < BW) : wval f n < (BW : Int) ^ n := by
  induction n with
  | zero => simp [wval]
  | succ n ih =>
    have h1 := ih (fun i hi => h i (by omega))
    have h2 := h n (by omega)
    have h3 : (0 : Int) < (BW : Int) ^ n := Int.pow_pos (by decide)
    have h4 : f n * (BW : Int) ^ n ≤ ((BW : Int) - 1) * (BW : Int) ^ n := Int.mul_le_mul_of_nonneg_right (by omega) (Int.le_of_lt h3)
    simp only [wval, Int.pow_succ]
    rw [Int.sub_mul] at h4
    have h5 : (BW : Int) ^ n * (BW : Int) = (BW : Int) * (BW : Int) ^ n := Int.mul_comm _ _
    omega

theorem wval_congr {f g : Nat → Int} {n : Nat} (h : ∀ i, i < n → f i = g i) : wval f n = wval g n := by
  induction n with
  | zero => rfl
  | succ n ih => simp only [wval]; rw [ih (fun i hi => h i (by omega)), h n (by omega)]

theorem wval_wd (v : Nat) (n : Nat) : wval (fun i => (wd v i : Int)) n = (v % BW ^ n : Nat) := by
  induction n with
  | zero => simp [wval, Nat.mod_one]
  | succ n ih =>
    simp only [wval]; rw [ih, Nat.pow_succ, Nat.mod_mul]
    unfold wd
    push_cast
    rw [Int.mul_comm]

/-- words with their bounds are those of the number that they spell -/
theorem wd_of_wval (f : Nat → Int) : ∀ (n : Nat), (∀ i, i < n → 0 ≤ f i ∧ f i < BW) → ∀ i, i < n → f i = wd (wval f n).toNat i := by
  intro n
  induction n with
  | zero => intro _ i hi; omega
  | succ n ih =>
    intro h i hi
    have hv := wval_mono_nonneg f n (fun i hi => (h i (by omega)).1)
    have hl := wval_lt f n (fun i hi => h i (by omega))
    have hn := h n (by omega)
    obtain ⟨a, ha⟩ := Int.eq_ofNat_of_zero_le hv
    obtain ⟨c, hc⟩ := Int.eq_ofNat_of_zero_le hn.1
    have e : (wval f (n + 1)).toNat = a + c * BW ^ n := by
      simp only [wval]; rw [ha, hc]
      rw [show ((a : Int) + (c : Int) * (BW : Int) ^ n) = ((a + c * BW ^ n : Nat) : Int) by push_cast; rfl, Int.toNat_natCast]
    have hal : a < BW ^ n := by rw [ha] at hl; exact_mod_cast hl
    rw [e]
    by_cases hin : i = n
    · subst hin
      unfold wd
      rw [Nat.add_mul_div_right _ _ (Nat.pow_pos BW_pos), Nat.div_eq_of_lt hal, hc]
      have : c < BW := by rw [hc] at hn; exact_mod_cast hn.2
      simp [Nat.mod_eq_of_lt this]
    · have := ih (fun i hi => h i (by omega)) i (by omega)
      rw [this, ha, Int.toNat_natCast]
      unfold wd
      have hp : BW ^ n = BW ^ i * (BW * BW ^ (n - i - 1)) := by
        rw [show n = i + (1 + (n - i - 1)) by omega, Nat.pow_add, Nat.pow_add, Nat.pow_one]; congr 3; simp
      rw [hp, show c * (BW ^ i * (BW * BW ^ (n - i - 1))) = BW ^ i * (BW * (c * BW ^ (n - i - 1))) by grind,
        Nat.add_mul_div_left _ _ (Nat.pow_pos BW_pos), Nat.add_mul_mod_self_left]

/-- the words of a trimmed number: all words from n on are 0, and the one before is not -/
theorem nw_of (f : Nat → Int) (n m : Nat) (hm : m ≤ n) (h : ∀ i, i < n → 0 ≤ f i ∧ f i < BW) (hz : ∀ i, m ≤ i → i < n → f i = 0) (ht : m = 0 ∨ f (m - 1) ≠ 0) :
    nw (wval f n).toNat = m := by
  have e : wval f n = wval f m := by
    clear h ht
    induction n with
    | zero => rw [show m = 0 by omega]
    | succ n ih =>
      by_cases hmn : m = n + 1
      · rw [hmn]
      · simp only [wval]; rw [hz n (by omega) (by omega), ih (by omega) (fun i h1 h2 => hz i h1 (by omega))]; simp
  have hv := wval_mono_nonneg f m (fun i hi => (h i (by omega)).1)
  have hl := wval_lt f m (fun i hi => h i (by omega))
  rw [e]
  apply Nat.le_antisymm
  · rw [nw_le]
    obtain ⟨a, ha⟩ := Int.eq_ofNat_of_zero_le hv
    rw [ha] at hl ⊢; rw [Int.toNat_natCast]; exact_mod_cast hl
  · rcases ht with ht | ht
    · omega
    · apply Nat.le_of_not_lt
      intro hlt
      have h1 := wd_of_wval f m (fun i hi => h i (by omega)) (m - 1) (by omega)
      rw [wd_big (by omega)] at h1
      exact ht (by simpa using h1)

/-- words with one of them put anew -/
def upd (f : Nat → Int) (k : Nat) (v : Int) : Nat → Int := fun i => if i = k then v else f i

theorem wval_upd (f : Nat → Int) (k : Nat) (v : Int) (n : Nat) (h : k < n) : wval (upd f k v) n = wval f n + (v - f k) * (BW : Int) ^ k := by
  induction n with
  | zero => omega
  | succ n ih =>
    simp only [wval]
    by_cases e : k = n
    · subst e
      rw [show wval (upd f k v) k = wval f k from wval_congr (fun i hi => by unfold upd; rw [if_neg (by omega)])]
      have : upd f k v k = v := by unfold upd; rw [if_pos rfl]
      rw [this]; grind
    · rw [ih (by omega)]
      have : upd f k v n = f n := by unfold upd; rw [if_neg (by omega)]
      rw [this]; grind

/-- one round of a carry keeps the sum -/
theorem carry_step (g : Nat → Int) (k up y : Nat) (r factor d m : Int) (h : k + up < 232) (hs : g (k + up) + r + factor * (wd y k : Int) = d * 1000000000 + m) :
    wval (upd g (k + up) m) 232 + d * (BW : Int) ^ (k + 1 + up) + factor * ((y / BW ^ (k + 1) : Nat) : Int) * (BW : Int) ^ (k + 1 + up) =
      wval g 232 + r * (BW : Int) ^ (k + up) + factor * ((y / BW ^ k : Nat) : Int) * (BW : Int) ^ (k + up) := by
  rw [wval_upd _ _ _ _ h]
  have e1 : ((y / BW ^ k : Nat) : Int) = (1000000000 : Int) * ((y / BW ^ (k + 1) : Nat) : Int) + (wd y k : Int) := by
    unfold wd
    rw [Nat.pow_succ, ← Nat.div_div_eq_div_mul]
    have := Nat.div_add_mod (y / BW ^ k) BW
    rw [show (1000000000 : Int) = ((BW : Nat) : Int) from rfl]
    exact_mod_cast this.symm
  have e2 : (BW : Int) ^ (k + 1 + up) = 1000000000 * (BW : Int) ^ (k + up) := by
    rw [show k + 1 + up = (k + up) + 1 by omega, Int.pow_succ]; rw [show ((BW : Nat) : Int) = 1000000000 from rfl]; grind
  rw [e1, e2]
  generalize (BW : Int) ^ (k + up) = P at *
  generalize ((y / BW ^ (k + 1) : Nat) : Int) = Q at *
  generalize (wd y k : Int) = W at *
  grind

/-- at the end of a carry no rest is left at the top -/
theorem carry_end (g : Nat → Int) (k up y : Nat) (r factor T : Int) (hk : k + up = 232) (hy : nw y ≤ k) (hb : ∀ i, i < 232 → 0 ≤ g i ∧ g i < 1000000000)
    (hT : wval g 232 + r * (BW : Int) ^ (k + up) + factor * ((y / BW ^ k : Nat) : Int) * (BW : Int) ^ (k + up) = T) (h0 : 0 ≤ T) (h1 : T < (BW : Int) ^ 232) : r = 0 := by
  rw [Nat.div_eq_of_lt (nw_le.1 hy), hk] at hT
  have a := wval_mono_nonneg g 232 (fun i hi => (hb i hi).1)
  have b := wval_lt g 232 hb
  generalize (BW : Int) ^ 232 = P at *
  have hT' : wval g 232 + r * P = T := by rw [← hT]; simp
  apply Classical.byContradiction; intro hr
  by_cases hp : 0 < r
  · have : 1 * P ≤ r * P := Int.mul_le_mul_of_nonneg_right (by omega) (by omega)
    omega
  · have : r * P ≤ (-1) * P := Int.mul_le_mul_of_nonneg_right (by omega) (by omega)
    omega

theorem carry_done (g : Nat → Int) (k up y : Nat) (factor T : Int) (hy : nw y ≤ k)
    (hT : wval g 232 + 0 * (BW : Int) ^ (k + up) + factor * ((y / BW ^ k : Nat) : Int) * (BW : Int) ^ (k + up) = T) : wval g 232 = T := by
  rw [Nat.div_eq_of_lt (nw_le.1 hy)] at hT
  simpa using hT

theorem carry_start (g : Nat → Int) (up y : Nat) (factor T : Int) (h : T = wval g 232 + factor * (y : Int) * (BW : Int) ^ up) :
    wval g 232 + 0 * (BW : Int) ^ (0 + up) + factor * ((y / BW ^ 0 : Nat) : Int) * (BW : Int) ^ (0 + up) = T := by
  rw [h]; simp

/-- what a comparison of magnitudes tells -/
def Cmp (x y : Nat) (d : Int) : Prop := (d < 0 ↔ x < y) ∧ (0 < d ↔ y < x)

theorem nw_mono {x y : Nat} (h : x ≤ y) : nw x ≤ nw y := nw_le.2 (Nat.lt_of_le_of_lt h (lt_pow_nw y))

theorem cmp_nw {x y : Nat} (h : nw x ≠ nw y) : Cmp x y ((nw x : Int) - nw y) := by
  have a : x < y → nw x ≤ nw y := fun h => nw_mono (by omega)
  have b : y ≤ x → nw y ≤ nw x := fun h => nw_mono h
  unfold Cmp
  by_cases c : x < y
  · have := a c; omega
  · have := b (by omega)
    have : y ≠ x := fun e => h (by rw [e])
    omega

theorem div_step (x k : Nat) : x / BW ^ k = BW * (x / BW ^ (k + 1)) + wd x k := by
  unfold wd; rw [Nat.pow_succ, ← Nat.div_div_eq_div_mul]; exact (Nat.div_add_mod _ _).symm

theorem cmp_step {x y k : Nat} (h : x / BW ^ (k + 1) = y / BW ^ (k + 1)) (hd : wd x k ≠ wd y k) : Cmp x y ((wd x k : Int) - wd y k) := by
  have a := div_step x k
  have b := div_step y k
  rw [h] at a
  have key : ∀ u v : Nat, u ≤ v → u / BW ^ k ≤ v / BW ^ k := fun u v huv => Nat.div_le_div_right huv
  have c := key x y
  have d := key y x
  unfold Cmp
  by_cases e : x < y
  · have := c (by omega); omega
  · have := d (by omega)
    have : y ≠ x := fun e => hd (by rw [e])
    omega

theorem same_step {x y k : Nat} (h : x / BW ^ (k + 1) = y / BW ^ (k + 1)) (hd : wd x k = wd y k) : x / BW ^ k = y / BW ^ k := by
  rw [div_step x k, div_step y k, h, hd]

theorem same_start {x y : Nat} (h : nw x = nw y) : x / BW ^ nw x = y / BW ^ nw x := by
  rw [Nat.div_eq_of_lt (lt_pow_nw x), Nat.div_eq_of_lt (by rw [h]; exact lt_pow_nw y)]

theorem cmp_same {x y : Nat} (h : x / BW ^ 0 = y / BW ^ 0) : Cmp x y 0 := by
  have : x = y := by simpa using h
  unfold Cmp; omega

theorem wval_wd_lt {v n : Nat} (h : v < BW ^ n) : wval (fun i => (wd v i : Int)) n = v := by rw [wval_wd, Nat.mod_eq_of_lt h]

theorem mod_step (y k : Nat) : y % BW ^ (k + 1) = y % BW ^ k + wd y k * BW ^ k := by
  unfold wd; rw [Nat.pow_succ, Nat.mod_mul, Nat.mul_comm]

theorem times_lt {x y k : Nat} (hs : nw x + nw y ≤ 232) : x * (y % BW ^ k) < BW ^ 232 := by
  have h1 := lt_pow_nw x
  have h2 := lt_pow_nw y
  have h3 : y % BW ^ k ≤ y := Nat.mod_le _ _
  have h4 : x * (y % BW ^ k) ≤ x * y := Nat.mul_le_mul_left _ h3
  by_cases h0 : x = 0
  · subst h0; rw [Nat.zero_mul]; exact Nat.pow_pos BW_pos
  · have h5 : x * y < BW ^ nw x * BW ^ nw y := Nat.mul_lt_mul'' h1 h2
    rw [← Nat.pow_add] at h5
    exact Nat.lt_of_le_of_lt h4 (Nat.lt_of_lt_of_le h5 (Nat.pow_le_pow_right BW_pos hs))

theorem times_step (x y k : Nat) :
    ((x * (y % BW ^ (k + 1)) : Nat) : Int) = ((x * (y % BW ^ k) : Nat) : Int) + (wd y k : Int) * (x : Int) * (BW : Int) ^ k := by
  rw [mod_step]
  push_cast
  grind

theorem times_end {x y : Nat} : x * (y % BW ^ nw y) = x * y := by rw [Nat.mod_eq_of_lt (lt_pow_nw y)]
theorem times_zero {x y : Nat} : x * (y % BW ^ 0) = 0 := by rw [Nat.pow_zero, Nat.mod_one, Nat.mul_zero]

theorem wd_zero (i : Nat) : wd 0 i = 0 := by unfold wd; rw [Nat.zero_div, Nat.zero_mod]

/-- a sign with a magnitude -/
def sv (neg : Bool) (v : Nat) : Int := if neg then -(v : Int) else v

theorem top_word' {v : Nat} (h : v ≠ 0) : wd v (nw v - 1) = v / BW ^ (nw v - 1) := by
  have h2 := lt_pow_nw v
  unfold wd
  apply Nat.mod_eq_of_lt
  apply Nat.div_lt_of_lt_mul
  rw [← Nat.pow_succ]; rw [show (nw v - 1).succ = nw v by have := nw_pos h; omega]; exact h2

end Go.Proofs.YtbdckemkmocdlaaGreatDoor

/- Long division in words, in plain Lean. -/
namespace Go.Proofs.YtbdckemkmocdlaaGreatDoor

theorem wd_push_zero (r c : Nat) (hc : c < BW) : wd (r * BW + c) 0 = c := by
  unfold wd; rw [Nat.pow_zero, Nat.div_one, Nat.mul_add_mod', Nat.mod_eq_of_lt hc]
theorem wd_push_succ (r c i : Nat) (hc : c < BW) : wd (r * BW + c) (i + 1) = wd r i := by
  unfold wd
  rw [Nat.pow_succ, Nat.mul_comm (BW ^ i), ← Nat.div_div_eq_div_mul]
  congr 2
  rw [Nat.add_comm, Nat.add_mul_div_right _ _ BW_pos, Nat.div_eq_of_lt hc, Nat.zero_add]
theorem nw_push (r c : Nat) (hc : c < BW) : nw (r * BW + c) ≤ nw r + 1 := by
  rw [nw_le, Nat.pow_succ]
  have := lt_pow_nw r
  have h2 : (r + 1) * BW ≤ BW ^ nw r * BW := Nat.mul_le_mul_right _ this
  rw [Nat.add_mul] at h2; omega

/-- the rest before the word k is taken in -/
def restAt (x y k : Nat) : Nat := x / BW ^ k % y

theorem rest_step (x y j : Nat) : (restAt x y (j + 1) * BW + wd x j) % y = restAt x y j := by
  unfold restAt
  rw [div_step x j, Nat.mul_comm BW]
  rw [Nat.add_mod, Nat.mul_mod, Nat.mod_mod, ← Nat.mul_mod, ← Nat.add_mod]

theorem digit_step (x y j : Nat) (hy : 0 < y) : (restAt x y (j + 1) * BW + wd x j) / y = wd (x / y) j := by
  unfold restAt
  have e1 : x / BW ^ j = (x / BW ^ (j + 1) / y * BW) * y + (x / BW ^ (j + 1) % y * BW + wd x j) := by
    rw [div_step x j]
    have := Nat.div_add_mod (x / BW ^ (j + 1)) y
    generalize x / BW ^ (j + 1) = a at *
    generalize a / y = q at *
    generalize a % y = r at *
    rw [← this]; grind
  have hlt : (x / BW ^ (j + 1) % y * BW + wd x j) / y < BW := by
    rw [Nat.div_lt_iff_lt_mul hy]
    have h1 := Nat.mod_lt (x / BW ^ (j + 1)) hy
    have h2 := wd_lt x j
    have h3 : (x / BW ^ (j + 1) % y + 1) * BW ≤ y * BW := Nat.mul_le_mul_right _ h1
    rw [Nat.add_mul] at h3
    rw [Nat.mul_comm BW y]; omega
  have e2 : x / y / BW ^ j = x / BW ^ j / y := by rw [Nat.div_div_eq_div_mul, Nat.div_div_eq_div_mul, Nat.mul_comm]
  have e3 : wd (x / y) j = (x / BW ^ j / y) % BW := by unfold wd; rw [e2]
  rw [e3]
  rw [e1, Nat.mul_comm _ y, Nat.mul_add_div hy, Nat.mul_comm (x / BW ^ (j + 1) / y), Nat.mul_add_mod, Nat.mod_eq_of_lt hlt]

theorem rest_lt (x y k : Nat) (hy : 0 < y) : restAt x y k < y := Nat.mod_lt _ hy

/-- the rest while the divisor is taken away: T = d y + v -/
def Taken (T y d v : Nat) : Prop := T = d * y + v

theorem taken_done {T y d v : Nat} (h : Taken T y d v) (hv : v < y) : d = T / y ∧ v = T % y := by
  unfold Taken at h
  have hy : 0 < y := by omega
  constructor
  · rw [h, Nat.mul_comm, Nat.mul_add_div hy, Nat.div_eq_of_lt hv]; omega
  · rw [h, Nat.mul_comm, Nat.mul_add_mod, Nat.mod_eq_of_lt hv]

theorem taken_step {T y d v k : Nat} (h : Taken T y d v) (hk : k * y ≤ v) : Taken T y (d + k) (v - k * y) := by
  unfold Taken at *
  rw [Nat.add_mul]; omega

theorem taken_bound {T y d v : Nat} (h : Taken T y d v) (hT : T < y * BW) : d < BW := by
  unfold Taken at h
  have : d * y < y * BW := by omega
  rw [Nat.mul_comm y] at this
  exact Nat.lt_of_mul_lt_mul_right this

theorem push_bound (x y j : Nat) (hy : 0 < y) : restAt x y (j + 1) * BW + wd x j < y * BW := by
  have h1 := rest_lt x y (j + 1) hy
  have h2 := wd_lt x j
  have h3 : (restAt x y (j + 1) + 1) * BW ≤ y * BW := Nat.mul_le_mul_right _ h1
  rw [Nat.add_mul] at h3; omega

theorem rest_zero (x y : Nat) : restAt x y 0 = x % y := by unfold restAt; rw [Nat.pow_zero, Nat.div_one]
theorem rest_top (x y : Nat) : restAt x y (nw x) = 0 := by unfold restAt; rw [Nat.div_eq_of_lt (lt_pow_nw x), Nat.zero_mod]
theorem nw_div (x y : Nat) : nw (x / y) ≤ nw x := nw_mono (Nat.div_le_self _ _)
end Go.Proofs.YtbdckemkmocdlaaGreatDoor

import Derived.Lib.ItoaNum
import Derived.Lib.AtoiAll
import Derived.Lib.Bytealg
set_option linter.unusedVariables false
set_option linter.unusedSimpArgs false
namespace Go.Proofs.YtbdckemkmocdlaaGreatDoor
open Go Go.Lib

/-- the value of digits -/
def dval (l : List UInt8) : Nat := l.foldl (fun a c => 10 * a + (c.toNat - 48)) 0

def isDig (c : UInt8) : Prop := 48 ≤ c.toNat ∧ c.toNat ≤ 57
instance (c : UInt8) : Decidable (isDig c) := inferInstanceAs (Decidable (_ ∧ _))

theorem foldl_dval (l : List UInt8) : ∀ a, l.foldl (fun a c => 10 * a + (c.toNat - 48)) a = a * 10 ^ l.length + dval l := by
  unfold dval
  induction l with
  | nil => intro a; simp
  | cons c l ih =>
    intro a
    simp only [List.foldl_cons, List.length_cons]
    rw [ih, ih (10 * 0 + (c.toNat - 48))]
    rw [Nat.pow_succ]
    grind

theorem dval_append (a b : List UInt8) : dval (a ++ b) = dval a * 10 ^ b.length + dval b := by
  unfold dval; rw [List.foldl_append, foldl_dval]; rfl

theorem dval_nil : dval [] = 0 := rfl
theorem dval_single (c : UInt8) : dval [c] = c.toNat - 48 := by simp [dval]

theorem dval_cons (c : UInt8) (l : List UInt8) : dval (c :: l) = (c.toNat - 48) * 10 ^ l.length + dval l := by
  have := dval_append [c] l; rw [dval_single] at this; exact this

theorem dval_lt (l : List UInt8) (h : ∀ c ∈ l, isDig c) : dval l < 10 ^ l.length := by
  induction l with
  | nil => simp [dval]
  | cons c l ih =>
    rw [dval_cons, List.length_cons, Nat.pow_succ]
    have h1 := h c (by simp)
    have h2 := ih (fun x hx => h x (by simp [hx]))
    unfold isDig at h1
    have h3 : (c.toNat - 48) * 10 ^ l.length ≤ 9 * 10 ^ l.length := Nat.mul_le_mul_right _ (by omega)
    omega

theorem u8_ofNat (k : Nat) (h : k < 10) : (UInt8.ofNat (48 + k)).toNat = 48 + k := by
  show (48 + k) % 256 = _; omega

theorem dig_isDig (n : Nat) : ∀ c ∈ decDigits n, isDig c := by
  induction n using decDigits.induct with
  | case1 u h => rw [decDigits, dif_pos h]; intro c hc; rw [List.mem_singleton] at hc; subst hc; unfold isDig; rw [u8_ofNat _ h]; omega
  | case2 u h ih =>
    rw [decDigits, dif_neg h]; intro c hc; rw [List.mem_append, List.mem_singleton] at hc
    rcases hc with hc | hc
    · exact ih c hc
    · subst hc; unfold isDig; rw [u8_ofNat _ (by omega)]; omega

theorem dval_dec (n : Nat) : dval (decDigits n) = n := by
  induction n using decDigits.induct with
  | case1 u h => rw [decDigits, dif_pos h, dval_single, u8_ofNat _ h]; omega
  | case2 u h ih =>
    rw [decDigits, dif_neg h, dval_append, ih, dval_single, u8_ofNat _ (by omega)]; simp; omega

theorem dec_inj {a b : Nat} (h : decDigits a = decDigits b) : a = b := by
  rw [← dval_dec a, ← dval_dec b, h]

theorem dec_ne_nil (n : Nat) : decDigits n ≠ [] := by
  rw [decDigits]; split <;> simp

theorem dec_len_pos (n : Nat) : 0 < (decDigits n).length := by
  have := dec_ne_nil n
  cases h : decDigits n with
  | nil => exact absurd h this
  | cons => simp

theorem dec_zero : decDigits 0 = [48] := by rw [decDigits, dif_pos (by omega)]; rfl

/-- the first digit is 0 only for 0 -/
theorem dec_head (n : Nat) (h : 0 < n) : ∃ c l, decDigits n = c :: l ∧ 49 ≤ c.toNat ∧ c.toNat ≤ 57 := by
  induction n using decDigits.induct with
  | case1 u hu => refine ⟨_, [], by rw [decDigits, dif_pos hu], ?_⟩; rw [u8_ofNat _ hu]; omega
  | case2 u hu ih =>
    obtain ⟨c, l, h1, h2⟩ := ih (by omega)
    exact ⟨c, l ++ [_], by rw [decDigits, dif_neg hu, h1]; rfl, h2⟩


theorem dec_step (n k : Nat) (hn : 0 < n) (hk : k < 10) : decDigits (n * 10 + k) = decDigits n ++ [UInt8.ofNat (48 + k)] := by
  rw [decDigits, dif_neg (by omega), show (n * 10 + k) / 10 = n by omega, show (n * 10 + k) % 10 = k by omega]

theorem u8_back (c : UInt8) (h : isDig c) : UInt8.ofNat (48 + (c.toNat - 48)) = c := by
  unfold isDig at h
  apply UInt8.toNat_inj.1
  show (48 + (c.toNat - 48)) % 256 = _; have := c.toNat_lt; omega

/-- digits without a zero in front are what the value spells -/
theorem dec_of_pos (c : UInt8) (l : List UInt8) (hc : isDig c) (h0 : c ≠ 48) (h : ∀ x ∈ l, isDig x) : decDigits (dval (c :: l)) = c :: l := by
  have key : ∀ (r : List UInt8), (∀ x ∈ r, isDig x) → ∀ n, 0 < n → decDigits (r.foldl (fun a c => 10 * a + (c.toNat - 48)) n) = decDigits n ++ r := by
    intro r
    induction r with
    | nil => intro _ n _; simp
    | cons x r ih =>
      intro hr n hn
      have hx := hr x (by simp)
      simp only [List.foldl_cons]
      have hxd := hx; unfold isDig at hxd
      rw [ih (fun y hy => hr y (by simp [hy])) _ (by omega), show 10 * n + (x.toNat - 48) = n * 10 + (x.toNat - 48) by omega, dec_step n _ hn (by omega), u8_back x hx]
      simp
  have hcd := hc; unfold isDig at hcd
  have hc0 : c.toNat ≠ 48 := fun e => h0 (by apply UInt8.toNat_inj.1; simpa using e)
  have := key l h (c.toNat - 48) (by omega)
  rw [show dval (c :: l) = l.foldl (fun a c => 10 * a + (c.toNat - 48)) (c.toNat - 48) by simp [dval], this, decDigits, dif_pos (by omega), u8_back c hc]
  rfl

/-- what a canonical list of digits is -/
def canD (l : List UInt8) : Prop := l ≠ [] ∧ (∀ c ∈ l, isDig c) ∧ (l.head? = some 48 → l = [48])

theorem canD_iff (l : List UInt8) : canD l ↔ ∃ n, l = decDigits n := by
  constructor
  · rintro ⟨h1, h2, h3⟩
    cases l with
    | nil => exact absurd rfl h1
    | cons c l =>
      by_cases hc : c = 48
      · have := h3 (by simp [hc]); rw [this]; exact ⟨0, dec_zero.symm⟩
      · exact ⟨_, (dec_of_pos c l (h2 c (by simp)) hc (fun x hx => h2 x (by simp [hx]))).symm⟩
  · rintro ⟨n, rfl⟩
    refine ⟨dec_ne_nil n, dig_isDig n, ?_⟩
    intro h
    by_cases hn : n = 0
    · subst hn; exact dec_zero
    · obtain ⟨c, l, h1, h2, h3⟩ := dec_head n (by omega)
      rw [h1] at h; simp at h; subst h; simp at h2

theorem dec_len_le (n k : Nat) (hk : 0 < k) : (decDigits n).length ≤ k ↔ n < 10 ^ k := by
  rw [decDigits_length]
  constructor
  · intro h; exact Nat.lt_of_lt_of_le (lt_pow_nDigits n) (Nat.pow_le_pow_right (by omega) h)
  · intro h
    by_cases hn : n = 0
    · subst hn; rw [nDigits_small (by omega)]; omega
    · have h1 : 10 ^ (nDigits n - 1) ≤ n := by
        have := dval_dec n
        obtain ⟨c, l, h1, h2, h3⟩ := dec_head n (by omega)
        have hl : nDigits n = l.length + 1 := by rw [← decDigits_length, h1]; rfl
        rw [h1, dval_cons] at this
        rw [hl]; simp
        have h4 : 1 * 10 ^ l.length ≤ (c.toNat - 48) * 10 ^ l.length := Nat.mul_le_mul_right _ (by omega)
        omega
      have h2 : 10 ^ (nDigits n - 1) < 10 ^ k := by omega
      have := (Nat.pow_lt_pow_iff_right (by omega : 1 < 10)).1 h2
      omega

end Go.Proofs.YtbdckemkmocdlaaGreatDoor

/- The order in which pairs and triples are tried, in plain Lean. -/
namespace Go.Proofs.YtbdckemkmocdlaaGreatDoor

/-- pairs with first index i and second index below j; below i -/
def pr (i j : Nat) : List (List Nat) := (List.range' (i + 1) (j - (i + 1))).map (fun b => [i, b])
def prs (m i : Nat) : List (List Nat) := (List.range i).flatMap (fun a => pr a m)
/-- triples -/
def tr (i j k : Nat) : List (List Nat) := (List.range' (j + 1) (k - (j + 1))).map (fun c => [i, j, c])
def trj (m i j : Nat) : List (List Nat) := (List.range' (i + 1) (j - (i + 1))).flatMap (fun b => tr i b m)
def trs (m i : Nat) : List (List Nat) := (List.range i).flatMap (fun a => trj m a m)
/-- all that are tried, in order -/
def tries (m : Nat) : List (List Nat) := prs m m ++ trs m m

theorem range_cut (s a b : Nat) (h : a ≤ b) : List.range' s b = List.range' s a ++ List.range' (s + a) (b - a) := by
  rw [show b = a + (b - a) by omega, ← List.range'_append]; simp
theorem range0_cut (a b : Nat) (h : a ≤ b) : List.range b = List.range a ++ List.range' a (b - a) := by
  rw [List.range_eq_range', List.range_eq_range', range_cut 0 a b h]; simp

theorem pr_start (i : Nat) : pr i (i + 1) = [] := by simp [pr]
theorem pr_succ (i j : Nat) (h : i < j) : pr i (j + 1) = pr i j ++ [[i, j]] := by
  have e : j + 1 - (i + 1) = (j - (i + 1)) + 1 := by omega
  have e2 : i + 1 + (j - (i + 1)) = j := by omega
  simp [pr, e, List.range'_concat, e2]
theorem prs_zero (m : Nat) : prs m 0 = [] := rfl
theorem prs_succ (m i : Nat) : prs m (i + 1) = prs m i ++ pr i m := by simp [prs, List.range_succ]
theorem pr_pre (i j m : Nat) (h : i + 1 ≤ j) (hj : j ≤ m) : pr i j <+: pr i m := by
  unfold pr
  rw [range_cut (i + 1) (j - (i + 1)) (m - (i + 1)) (by omega), List.map_append]; exact List.prefix_append _ _
theorem prs_pre (m i : Nat) (h : i ≤ m) : prs m i <+: prs m m := by
  unfold prs
  rw [range0_cut i m h, List.flatMap_append]; exact List.prefix_append _ _
theorem tr_start (i j : Nat) : tr i j (j + 1) = [] := by simp [tr]
theorem tr_succ (i j k : Nat) (h : j < k) : tr i j (k + 1) = tr i j k ++ [[i, j, k]] := by
  have e : k + 1 - (j + 1) = (k - (j + 1)) + 1 := by omega
  have e2 : j + 1 + (k - (j + 1)) = k := by omega
  simp [tr, e, List.range'_concat, e2]
theorem trj_start (m i : Nat) : trj m i (i + 1) = [] := by simp [trj]
theorem trj_succ (m i j : Nat) (h : i < j) : trj m i (j + 1) = trj m i j ++ tr i j m := by
  have e : j + 1 - (i + 1) = (j - (i + 1)) + 1 := by omega
  have e2 : i + 1 + (j - (i + 1)) = j := by omega
  simp [trj, e, List.range'_concat, e2]
theorem trs_zero (m : Nat) : trs m 0 = [] := rfl
theorem trs_succ (m i : Nat) : trs m (i + 1) = trs m i ++ trj m i m := by simp [trs, List.range_succ]

/-- the first that is bad -/
theorem find_first {α : Type} {p : α → Bool} {pre rest : List α} {x : α} (h : ∀ y ∈ pre, p y = false) (hx : p x = true) : (pre ++ (x :: rest)).find? p = some x := by
  rw [List.find?_append]
  have hn : pre.find? p = none := by rw [List.find?_eq_none]; intro y hy; rw [h y hy]; simp
  rw [hn]; simp [hx]

/-- a pair comes behind these -/
theorem pair_split (m i j : Nat) (hi : i < j) (hj : j < m) : ∃ rest, tries m = (prs m i ++ pr i j) ++ ([i, j] :: rest) := by
  obtain ⟨r1, h1⟩ := prs_pre m (i + 1) (by omega)
  obtain ⟨r2, h2⟩ := pr_pre i (j + 1) m (by omega) hj
  rw [prs_succ, ← h2, pr_succ i j hi] at h1
  refine ⟨r2 ++ (r1 ++ trs m m), ?_⟩
  unfold tries
  rw [← h1]; simp
/-- a triple comes behind these -/
theorem triple_split (m i j k : Nat) (hi : i < j) (hj : j < k) (hk : k < m) : ∃ rest, tries m = (prs m m ++ (trs m i ++ (trj m i j ++ tr i j k))) ++ ([i, j, k] :: rest) := by
  have h1 : trs m (i + 1) <+: trs m m := by
    unfold trs
    rw [range0_cut (i + 1) m (by omega), List.flatMap_append]; exact List.prefix_append _ _
  have h2 : trj m i (j + 1) <+: trj m i m := by
    unfold trj
    rw [range_cut (i + 1) (j + 1 - (i + 1)) (m - (i + 1)) (by omega), List.flatMap_append]; exact List.prefix_append _ _
  have h3 : tr i j (k + 1) <+: tr i j m := by
    unfold tr
    rw [range_cut (j + 1) (k + 1 - (j + 1)) (m - (j + 1)) (by omega), List.map_append]; exact List.prefix_append _ _
  obtain ⟨r1, h1⟩ := h1
  obtain ⟨r2, h2⟩ := h2
  obtain ⟨r3, h3⟩ := h3
  rw [tr_succ i j k hj] at h3
  rw [trj_succ m i j hi, ← h3] at h2
  rw [trs_succ, ← h2] at h1
  refine ⟨r3 ++ (r2 ++ r1), ?_⟩
  unfold tries
  rw [← h1]; simp
end Go.Proofs.YtbdckemkmocdlaaGreatDoor

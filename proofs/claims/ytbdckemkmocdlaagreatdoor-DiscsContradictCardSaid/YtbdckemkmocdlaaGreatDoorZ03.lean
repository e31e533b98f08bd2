import Derived.Lib.ItoaNum
import Derived.Lib.AtoiAll
import Derived.Lib.Bytealg
import Derived.Lib.IndexMore
import Derived.Lib.SlTrimSet
import Derived.Test.YtbdckemkmocdlaaGreatDoorZ02
set_option linter.unusedVariables false
set_option linter.unusedSimpArgs false
namespace Go.Proofs.YtbdckemkmocdlaaGreatDoor
open Go Go.Lib

theorem compare_self (l : List UInt8) : compareBytes l l = 0 := by
  induction l with
  | nil => rfl
  | cons a l ih => simp [compareBytes, ih]

theorem u8_lt_toNat (a b : UInt8) : a < b ↔ a.toNat < b.toNat := UInt8.lt_iff_toNat_lt

def sgn (n : Int) : Int := if n < 0 then -1 else if n = 0 then 0 else 1

theorem compare_digits (a b : List UInt8) (hl : a.length = b.length) (ha : ∀ c ∈ a, isDig c) (hb : ∀ c ∈ b, isDig c) :
    compareBytes a b = sgn ((dval a : Int) - dval b) := by
  induction a generalizing b with
  | nil =>
    cases b with
    | nil => simp [compareBytes, sgn]
    | cons => simp at hl
  | cons x a ih =>
    cases b with
    | nil => simp at hl
    | cons y b =>
      have hl' : a.length = b.length := by simpa using hl
      have hx := ha x (by simp); have hy := hb y (by simp)
      have ha' := dval_lt a (fun c hc => ha c (by simp [hc]))
      have hb' := dval_lt b (fun c hc => hb c (by simp [hc]))
      have h := ih b hl' (fun c hc => ha c (by simp [hc])) (fun c hc => hb c (by simp [hc]))
      rw [dval_cons, dval_cons, hl']
      unfold compareBytes
      unfold isDig at hx hy
      rw [hl'] at ha'
      by_cases h1 : x < y
      · rw [if_pos h1]; rw [u8_lt_toNat] at h1
        have : (x.toNat - 48 + 1) * 10 ^ b.length ≤ (y.toNat - 48) * 10 ^ b.length := Nat.mul_le_mul_right _ (by omega)
        rw [Nat.add_mul] at this
        unfold sgn; rw [if_pos (by omega)]
      · rw [if_neg h1]
        by_cases h2 : y < x
        · rw [if_pos h2]; rw [u8_lt_toNat] at h2
          have : (y.toNat - 48 + 1) * 10 ^ b.length ≤ (x.toNat - 48) * 10 ^ b.length := Nat.mul_le_mul_right _ (by omega)
          rw [Nat.add_mul] at this
          unfold sgn; rw [if_neg (by omega), if_neg (by omega)]
        · rw [if_neg h2, h]
          rw [u8_lt_toNat] at h1 h2
          have : x.toNat = y.toNat := by omega
          rw [this]; congr 1; omega

/-- the order of two magnitudes: by length, then as bytes -/
theorem dec_order (m n : Nat) : (if (decDigits m).length = (decDigits n).length then compareBytes (decDigits m) (decDigits n)
    else if (decDigits m).length < (decDigits n).length then -1 else 1) = sgn ((m : Int) - n) := by
  split
  · rename_i h
    rw [compare_digits _ _ h (dig_isDig m) (dig_isDig n), dval_dec, dval_dec]
  · rename_i h
    have key : ∀ a b : Nat, (decDigits a).length < (decDigits b).length → a < b := by
      intro a b hab
      have h1 := dec_len_pos a
      have h2 := (dec_len_le a (decDigits a).length h1).1 (Nat.le_refl _)
      have h3 := mt (dec_len_le b (decDigits a).length h1).2 (by omega)
      omega
    split
    · rename_i h2
      have := key _ _ h2
      unfold sgn; rw [if_pos (by omega)]
    · rename_i h2
      have := key n m (by omega)
      unfold sgn; rw [if_neg (by omega), if_neg (by omega)]

/-! ### numerals with a sign -/

theorem itoa_nonneg {n : Int} (h : 0 ≤ n) : itoa n = decDigits n.toNat := by unfold itoa; rw [if_neg (by omega)]
theorem itoa_neg {n : Int} (h : n < 0) : itoa n = 45 :: decDigits n.natAbs := by unfold itoa; rw [if_pos h]
theorem itoa_nat (n : Nat) : itoa n = decDigits n := by rw [itoa_nonneg (by omega)]; simp
theorem itoa_zero : itoa 0 = [48] := by rw [show (0 : Int) = ((0 : Nat) : Int) from rfl, itoa_nat, dec_zero]

theorem dec_head_ne (n : Nat) (c : UInt8) (h : ¬ isDig c) : (decDigits n).head? ≠ some c := by
  intro e
  have := dig_isDig n c (List.mem_of_mem_head? e)
  exact h this

theorem not_dig_45 : ¬ isDig 45 := by decide
theorem not_dig_47 : ¬ isDig 47 := by decide

theorem itoa_ne_nil (n : Int) : itoa n ≠ [] := by
  unfold itoa; split
  · simp
  · exact dec_ne_nil _

theorem itoa_inj {a b : Int} (h : itoa a = itoa b) : a = b := by
  by_cases ha : a < 0
  · by_cases hb : b < 0
    · rw [itoa_neg ha, itoa_neg hb] at h
      have := dec_inj (List.cons.inj h).2; omega
    · rw [itoa_neg ha, itoa_nonneg (by omega)] at h
      exact absurd (by rw [← h]; rfl) (dec_head_ne b.toNat 45 not_dig_45)
  · by_cases hb : b < 0
    · rw [itoa_neg hb, itoa_nonneg (by omega)] at h
      exact absurd (by rw [h]; rfl) (dec_head_ne a.toNat 45 not_dig_45)
    · rw [itoa_nonneg (by omega), itoa_nonneg (by omega)] at h
      have := dec_inj h; omega

theorem itoa_eq_zero {n : Int} : itoa n = [48] ↔ n = 0 :=
  ⟨fun h => itoa_inj (h.trans itoa_zero.symm), fun h => by rw [h, itoa_zero]⟩

theorem itoa_head_minus {n : Int} : (itoa n).head? = some 45 ↔ n < 0 := by
  constructor
  · intro h
    apply Classical.byContradiction; intro hn
    rw [itoa_nonneg (by omega)] at h
    exact dec_head_ne _ 45 not_dig_45 h
  · intro h; rw [itoa_neg h]; rfl

/-- without the sign in front -/
theorem trimPrefix_itoa (n : Int) : trimPrefix (itoa n) [45] = decDigits n.natAbs := by
  unfold trimPrefix hasPrefix
  by_cases h : n < 0
  · rw [itoa_neg h]; simp
  · have h2 : ¬ ([45] : List UInt8).isPrefixOf (itoa n) = true := by
      intro e
      have := itoa_head_minus (n := n)
      cases hi : itoa n with
      | nil => exact itoa_ne_nil n hi
      | cons c l => rw [hi] at e this; simp at e; rw [← e] at this; simp at this; exact h this
    rw [if_neg h2, itoa_nonneg (by omega)]; congr 1; omega

def canI (l : List UInt8) : Prop := ∃ n, l = itoa n

theorem canI_of (l : List UInt8) (h : canD (trimPrefix l [45])) (h0 : (trimPrefix l [45]).head? = some 48 → l = [48]) : canI l := by
  obtain ⟨n, hn⟩ := (canD_iff _).1 h
  unfold trimPrefix hasPrefix at hn h0
  split at hn
  · rename_i hp
    rw [if_pos hp] at h0
    cases l with
    | nil => simp at hp
    | cons c l =>
      simp at hp; subst hp
      simp at hn h0
      refine ⟨-(n : Int), ?_⟩
      have : n ≠ 0 := by
        intro e; subst e; rw [dec_zero] at hn; rw [hn] at h0; simp at h0
      rw [itoa_neg (by omega), hn]; congr 2; omega
  · exact ⟨n, by rw [itoa_nat, hn]⟩

end Go.Proofs.YtbdckemkmocdlaaGreatDoor

/- Arithmetic on paper: sums, differences, products and quotients of lists of digits, in plain Lean. -/
namespace Go.Proofs.YtbdckemkmocdlaaGreatDoor
open Go.Lib

theorem bare_end (l : List UInt8) (hd : ∀ c ∈ l, isDig c) (hn : l ≠ []) (h : l.length ≤ 1 ∨ l.head? ≠ some 48) : l = decDigits (dval l) := by
  cases l with
  | nil => exact absurd rfl hn
  | cons c r =>
    by_cases hc : c = 48
    · rcases h with h | h
      · have hr : r = [] := by cases r with
          | nil => rfl
          | cons => simp at h
        subst hr; subst hc; rw [dval_single]; exact dec_zero.symm
      · simp [hc] at h
    · exact (dec_of_pos c r (hd c (by simp)) hc (fun x hx => hd x (by simp [hx]))).symm

theorem bare_step (r : List UInt8) : dval (48 :: r) = dval r := by rw [dval_cons]; simp

theorem dval_zeros' (k : Nat) (l : List UInt8) : dval (List.replicate k 48 ++ l) = dval l := by
  induction k with
  | zero => simp
  | succ k ih => rw [List.replicate_succ, List.cons_append, bare_step, ih]

/-- the value of a digit -/
def dg (c : UInt8) : Nat := c.toNat - 48
theorem dg_le {c : UInt8} (h : isDig c) : dg c ≤ 9 := by unfold isDig at h; unfold dg; omega
theorem dg_of {c : UInt8} (h : isDig c) : c.toNat = 48 + dg c := by unfold isDig at h; unfold dg; omega
/-- the digit of a value -/
def gd (k : Nat) : UInt8 := UInt8.ofNat (48 + k)
theorem gd_toNat {k : Nat} (h : k < 10) : (gd k).toNat = 48 + k := u8_ofNat k h
theorem gd_isDig {k : Nat} (h : k < 10) : isDig (gd k) := by unfold isDig; rw [gd_toNat h]; omega
theorem dg_gd {k : Nat} (h : k < 10) : dg (gd k) = k := by unfold dg; rw [gd_toNat h]; omega

theorem dval_drop (l : List UInt8) (i : Nat) (h : i < l.length) : dval (l.drop i) = dg (l[i]) * 10 ^ (l.length - 1 - i) + dval (l.drop (i + 1)) := by
  rw [List.drop_eq_getElem_cons h, dval_cons]
  unfold dg; rw [List.length_drop, show l.length - (i + 1) = l.length - 1 - i by omega]
theorem dval_take (l : List UInt8) (i : Nat) (h : i < l.length) : dval (l.take (i + 1)) = 10 * dval (l.take i) + dg (l[i]) := by
  rw [List.take_succ_eq_append_getElem h, dval_append, dval_single]; simp [dg]; omega
theorem set_drop {α : Type} (l : List α) (i : Nat) (v : α) (h : i < l.length) : (l.set i v).drop i = v :: l.drop (i + 1) := by
  rw [List.drop_eq_getElem_cons (by simpa using h)]; simp [List.drop_set]

/-- the result and the carry of a column -/
def colD (n : Int) : Nat := (n % 10).toNat
def colC (n : Int) : Int := if 9 < n ∨ n < 0 then 1 else 0
theorem colD_lt (n : Int) : colD n < 10 := by unfold colD; omega
theorem colC_or (n : Int) : colC n = 0 ∨ colC n = 1 := by unfold colC; split <;> simp

/-- after so many columns from the right -/
def Columns (s : Int) (n k : Nat) (A B L : List UInt8) (c : Int) : Prop :=
  L.length = n ∧ k ≤ n ∧ (∀ x ∈ L.drop (n - k), isDig x) ∧ (dval (L.drop (n - k)) : Int) + s * (c * 10 ^ k) = dval (A.drop (n - k)) + s * dval (B.drop (n - k)) ∧ (c = 0 ∨ c = 1)

theorem Columns.start (s : Int) (n : Nat) (A B L : List UInt8) (hL : L.length = n) (hA : A.length = n) (hB : B.length = n) : Columns s n 0 A B L 0 := by
  refine ⟨hL, Nat.zero_le _, ?_, ?_, Or.inl rfl⟩
  · rw [Nat.sub_zero, ← hL, List.drop_length]; simp
  · rw [Nat.sub_zero, List.drop_of_length_le (by omega), List.drop_of_length_le (by omega), List.drop_of_length_le (by omega)]; simp [dval]

theorem paper_ring (s x y c d e P r A B : Int) (h1 : x + s * (y + c) = d + s * (10 * e)) (h : r + s * (c * P) = A + s * B) :
    (d * P + r) + s * (e * (P * 10)) = (x * P + A) + s * (y * P + B) := by
  have h2 : (x + s * (y + c)) * P = (d + s * (10 * e)) * P := by rw [h1]
  grind

theorem Columns.step {s : Int} {n k : Nat} {A B L : List UInt8} {c : Int} (h : Columns s n k A B L c) (hk : k < n) (hA : A.length = n) (hB : B.length = n)
    (m : Int) (hs : s = 1 ∨ s = -1) (hdA : isDig (A[n - 1 - k]'(by omega))) (hdB : isDig (B[n - 1 - k]'(by omega)))
    (hm : m = (dg (A[n - 1 - k]'(by omega)) : Int) + s * ((dg (B[n - 1 - k]'(by omega)) : Int) + c)) :
    Columns s n (k + 1) A B (L.set (n - 1 - k) (gd (colD m))) (colC m) := by
  obtain ⟨h1, h2, h3, h4, h5⟩ := h
  have hi : n - 1 - k < L.length := by omega
  have e1 : n - (k + 1) = n - 1 - k := by omega
  have e2 : n - 1 - k + 1 = n - k := by omega
  refine ⟨by simpa using h1, by omega, ?_, ?_, colC_or m⟩
  · rw [e1, set_drop _ _ _ hi, e2]
    intro x hx
    rcases List.mem_cons.1 hx with hx | hx
    · rw [hx]; exact gd_isDig (colD_lt m)
    · exact h3 x hx
  · rw [e1, set_drop _ _ _ hi, e2, dval_cons, dval_drop A (n - 1 - k) (by omega), dval_drop B (n - 1 - k) (by omega), e2]
    have l1 : (L.drop (n - k)).length = k := by simp; omega
    rw [l1, show A.length - 1 - (n - 1 - k) = k by omega, show B.length - 1 - (n - 1 - k) = k by omega]
    have hg : (gd (colD m)).toNat - 48 = colD m := by rw [gd_toNat (colD_lt m)]; omega
    rw [hg, Int.pow_succ]
    have hb : (colD m : Int) + s * (10 * colC m) = m := by
      have ha := dg_le hdA
      have hb := dg_le hdB
      unfold colD colC
      rcases hs with hs | hs <;> rcases h5 with h5 | h5 <;> subst hs <;> subst h5 <;> split <;> omega
    have := paper_ring s (dg (A[n - 1 - k]'(by omega))) (dg (B[n - 1 - k]'(by omega))) c (colD m) (colC m) (10 ^ k) (dval (L.drop (n - k))) (dval (A.drop (n - k))) (dval (B.drop (n - k))) (by rw [← hm, hb]) h4
    simp only [Int.natCast_add, Int.natCast_mul, Int.natCast_pow]
    exact_mod_cast this

theorem Columns.done_add {n : Nat} {A B L : List UInt8} {c : Int} (h : Columns 1 n n A B L c) (hs : dval A + dval B < 10 ^ n) : dval L = dval A + dval B := by
  obtain ⟨h1, h2, h3, h4, h5⟩ := h
  rw [Nat.sub_self] at h3 h4
  simp only [List.drop_zero] at h3 h4
  rcases h5 with h5 | h5
  · subst h5; omega
  · subst h5
    have : ((10 ^ n : Nat) : Int) = 10 ^ n := by simp
    omega
theorem Columns.done_sub {n : Nat} {A B L : List UInt8} {c : Int} (h : Columns (-1) n n A B L c) (hs : dval B ≤ dval A) : dval L = dval A - dval B := by
  obtain ⟨h1, h2, h3, h4, h5⟩ := h
  rw [Nat.sub_self] at h3 h4
  simp only [List.drop_zero] at h3 h4
  have hl := dval_lt L h3
  rw [h1] at hl
  rcases h5 with h5 | h5
  · subst h5; omega
  · subst h5
    have : ((10 ^ n : Nat) : Int) = 10 ^ n := by simp
    omega

/-! ### columns of a product -/
def colval (l : List Nat) : Nat := l.foldl (fun a c => 10 * a + c) 0
theorem foldl_colval (l : List Nat) : ∀ a, l.foldl (fun a c => 10 * a + c) a = a * 10 ^ l.length + colval l := by
  unfold colval
  induction l with
  | nil => intro a; simp
  | cons c l ih =>
    intro a
    simp only [List.foldl_cons, List.length_cons]
    rw [ih, ih (10 * 0 + c), Nat.pow_succ]
    grind
theorem colval_append (a b : List Nat) : colval (a ++ b) = colval a * 10 ^ b.length + colval b := by
  unfold colval; rw [List.foldl_append, foldl_colval]; rfl
theorem colval_cons (c : Nat) (l : List Nat) : colval (c :: l) = c * 10 ^ l.length + colval l := by
  have := colval_append [c] l; rw [show colval [c] = c by simp [colval]] at this; exact this
theorem colval_zeros (n : Nat) : colval (List.replicate n 0) = 0 := by
  induction n with
  | zero => rfl
  | succ n ih => rw [List.replicate_succ, colval_cons, ih]; simp
theorem colval_set (l : List Nat) (j : Nat) (h : j < l.length) (y : Nat) : colval (l.set j (l[j] + y)) = colval l + y * 10 ^ (l.length - 1 - j) := by
  have e1 : l.set j (l[j] + y) = l.take j ++ (l[j] + y) :: l.drop (j + 1) := List.set_eq_take_append_cons_drop ▸ (by rw [if_pos h])
  have e2 : l = l.take j ++ l[j] :: l.drop (j + 1) := by rw [← List.drop_eq_getElem_cons h, List.take_append_drop]
  have e3 : colval l = colval (l.take j ++ l[j] :: l.drop (j + 1)) := congrArg colval e2
  rw [e1, e3, colval_append, colval_append, colval_cons, colval_cons]
  simp only [List.length_cons, List.length_drop]
  rw [show l.length - (j + 1) = l.length - 1 - j by omega, Nat.add_mul]
  omega

/-- the pairs of digits behind so many rounds -/
def Pairs (A B : List UInt8) (i k : Nat) (C : List Nat) : Prop :=
  C.length = A.length + B.length ∧ i ≤ A.length ∧ k ≤ B.length ∧ (∀ x ∈ C, x ≤ 81 * (i * B.length + k)) ∧
    colval C = dval (A.take i) * 10 ^ (A.length - i) * dval B + (if h : i < A.length then dg (A[i]) else 0) * 10 ^ (A.length - 1 - i) * (dval (B.take k) * 10 ^ (B.length - k))

theorem Pairs.start (A B : List UInt8) : Pairs A B 0 0 (List.replicate (A.length + B.length) 0) := by
  refine ⟨by simp, by omega, by omega, ?_, ?_⟩
  · intro x hx; rw [List.eq_of_mem_replicate hx]; omega
  · rw [colval_zeros]; simp [dval]

theorem Pairs.step {A B : List UInt8} {i k : Nat} {C : List Nat} (h : Pairs A B i k C) (hi : i < A.length) (hk : k < B.length) (hA : isDig A[i]) (hB : isDig B[k]) (hj : i + k + 1 < C.length) :
    Pairs A B i (k + 1) (C.set (i + k + 1) (C[i + k + 1] + dg A[i] * dg B[k])) := by
  obtain ⟨h1, h2, h3, h4, h5⟩ := h
  have hab : dg A[i] * dg B[k] ≤ 81 := Nat.mul_le_mul (dg_le hA) (dg_le hB)
  refine ⟨by simpa using h1, h2, hk, ?_, ?_⟩
  · intro x hx
    rcases List.mem_or_eq_of_mem_set hx with hx | hx
    · have := h4 x hx; omega
    · have := h4 _ (List.getElem_mem hj); omega
  · rw [colval_set _ _ hj, h5, dif_pos hi, dval_take B k hk, h1]
    have e1 : A.length + B.length - 1 - (i + k + 1) = (A.length - 1 - i) + (B.length - (k + 1)) := by omega
    have e2 : B.length - k = B.length - (k + 1) + 1 := by omega
    rw [e1, e2, Nat.pow_add, Nat.pow_succ]
    grind

theorem Pairs.next {A B : List UInt8} {i : Nat} {C : List Nat} (h : Pairs A B i B.length C) (hi : i < A.length) : Pairs A B (i + 1) 0 C := by
  obtain ⟨h1, h2, h3, h4, h5⟩ := h
  refine ⟨h1, hi, by omega, ?_, ?_⟩
  · intro x hx; have := h4 x hx; rw [Nat.add_mul]; omega
  · rw [h5, dif_pos hi, dval_take A i hi, List.take_length]
    rw [show A.length - 1 - i = A.length - (i + 1) by omega, show A.length - i = A.length - (i + 1) + 1 by omega, Nat.pow_succ]
    simp [dval]
    grind

theorem Pairs.done {A B : List UInt8} {C : List Nat} (h : Pairs A B A.length 0 C) : colval C = dval A * dval B := by
  obtain ⟨h1, h2, h3, h4, h5⟩ := h
  rw [h5]; simp [dval]

/-- the columns are carried, from the right -/
def Carried (C : List Nat) (n k : Nat) (L : List UInt8) (c : Nat) : Prop :=
  L.length = n ∧ k ≤ n ∧ (∀ x ∈ L.drop (n - k), isDig x) ∧ dval (L.drop (n - k)) + c * 10 ^ k = colval (C.drop (n - k))

theorem Carried.start (C : List Nat) (n : Nat) (L : List UInt8) (hC : C.length = n) (hL : L.length = n) : Carried C n 0 L 0 := by
  refine ⟨hL, Nat.zero_le _, ?_, ?_⟩
  · rw [Nat.sub_zero, ← hL, List.drop_length]; simp
  · rw [Nat.sub_zero, List.drop_of_length_le (by omega), List.drop_of_length_le (by omega)]; simp [dval, colval]

theorem Carried.step {C : List Nat} {n k : Nat} {L : List UInt8} {c : Nat} (h : Carried C n k L c) (hk : k < n) (hC : C.length = n) (t : Nat) (ht : t = c + C[n - 1 - k]'(by omega)) :
    Carried C n (k + 1) (L.set (n - 1 - k) (gd (t % 10))) (t / 10) := by
  obtain ⟨h1, h2, h3, h4⟩ := h
  have hi : n - 1 - k < L.length := by omega
  have e1 : n - (k + 1) = n - 1 - k := by omega
  have e2 : n - 1 - k + 1 = n - k := by omega
  refine ⟨by simpa using h1, by omega, ?_, ?_⟩
  · rw [e1, set_drop _ _ _ hi, e2]
    intro x hx
    rcases List.mem_cons.1 hx with hx | hx
    · rw [hx]; exact gd_isDig (by omega)
    · exact h3 x hx
  · rw [e1, set_drop _ _ _ hi, e2, dval_cons, List.drop_eq_getElem_cons (by omega : n - 1 - k < C.length), colval_cons, e2]
    have l1 : (L.drop (n - k)).length = k := by simp; omega
    have l2 : (C.drop (n - k)).length = k := by simp; omega
    rw [l1, l2]
    have hg : (gd (t % 10)).toNat - 48 = t % 10 := by rw [gd_toNat (by omega)]; omega
    rw [hg, Nat.pow_succ, ← h4]
    have e3 : t % 10 * 10 ^ k + t / 10 * (10 ^ k * 10) = t * 10 ^ k := by
      have := Nat.div_add_mod t 10
      rw [← Nat.mul_comm 10, ← Nat.mul_assoc, ← Nat.add_mul]
      congr 1; omega
    have e4 : t * 10 ^ k = c * 10 ^ k + C[n - 1 - k]'(by omega) * 10 ^ k := by rw [ht, Nat.add_mul]
    omega

theorem Carried.done {C : List Nat} {n : Nat} {L : List UInt8} {c : Nat} (h : Carried C n n L c) (hs : colval C < 10 ^ n) : dval L = colval C := by
  obtain ⟨h1, h2, h3, h4⟩ := h
  rw [Nat.sub_self] at h3 h4
  simp only [List.drop_zero] at h3 h4
  have hc : c = 0 := by
    apply Classical.byContradiction; intro h0
    have : 1 * 10 ^ n ≤ c * 10 ^ n := Nat.mul_le_mul_right _ (by omega)
    omega
  subst hc; omega
theorem Carried.digits {C : List Nat} {n : Nat} {L : List UInt8} {c : Nat} (h : Carried C n n L c) : ∀ x ∈ L, isDig x := by
  have := h.2.2.1; rw [Nat.sub_self] at this; simpa using this
theorem Columns.digits {s : Int} {n : Nat} {A B L : List UInt8} {c : Int} (h : Columns s n n A B L c) : ∀ x ∈ L, isDig x := by
  have := h.2.2.1; rw [Nat.sub_self] at this; simpa using this

theorem bytesLess_dig (a b : List UInt8) (hl : a.length = b.length) (ha : ∀ c ∈ a, isDig c) (hb : ∀ c ∈ b, isDig c) : Op.bytesLess a b = decide (dval a < dval b) := by
  induction a generalizing b with
  | nil =>
    cases b with
    | nil => simp [Op.bytesLess]
    | cons => simp at hl
  | cons x a ih =>
    cases b with
    | nil => simp at hl
    | cons y b =>
      have hl' : a.length = b.length := by simpa using hl
      have hx := ha x (by simp); have hy := hb y (by simp)
      have ha' := dval_lt a (fun c hc => ha c (by simp [hc]))
      have hb' := dval_lt b (fun c hc => hb c (by simp [hc]))
      have h := ih b hl' (fun c hc => ha c (by simp [hc])) (fun c hc => hb c (by simp [hc]))
      rw [dval_cons, dval_cons, hl']
      rw [hl'] at ha'
      unfold isDig at hx hy
      unfold Op.bytesLess
      rw [h, Bool.eq_iff_iff]
      simp only [Bool.or_eq_true, Bool.and_eq_true, decide_eq_true_eq, beq_iff_eq, u8_lt_toNat]
      rcases Nat.lt_trichotomy x.toNat y.toNat with h1 | h1 | h1
      · have : (x.toNat - 48 + 1) * 10 ^ b.length ≤ (y.toNat - 48) * 10 ^ b.length := Nat.mul_le_mul_right _ (by omega)
        rw [Nat.add_mul] at this
        constructor
        · intro _; omega
        · intro _; exact Or.inl h1
      · have e : x = y := UInt8.toNat_inj.1 h1
        subst e
        constructor
        · rintro (h2 | ⟨_, h2⟩) <;> omega
        · intro h2; exact Or.inr ⟨rfl, by omega⟩
      · have : (y.toNat - 48 + 1) * 10 ^ b.length ≤ (x.toNat - 48) * 10 ^ b.length := Nat.mul_le_mul_right _ (by omega)
        rw [Nat.add_mul] at this
        constructor
        · rintro (h2 | ⟨h2, _⟩)
          · omega
          · subst h2; omega
        · intro h2; omega

theorem dec_len_lt (m n : Nat) (h : (decDigits m).length < (decDigits n).length) : m < n := by
  have h1 := dec_len_pos m
  have h2 := (dec_len_le m (decDigits m).length h1).1 (Nat.le_refl _)
  have h3 := mt (dec_len_le n (decDigits m).length h1).2 (by omega)
  omega
end Go.Proofs.YtbdckemkmocdlaaGreatDoor

namespace Go.Proofs.YtbdckemkmocdlaaGreatDoor
open Go Go.Lib

/-- the text of a rational number -/
def ratT (x : Rat) : List UInt8 := if x.den = 1 then itoa x.num else itoa x.num ++ 47 :: decDigits x.den

theorem ratT_one {x : Rat} (h : x.den = 1) : ratT x = itoa x.num := by unfold ratT; rw [if_pos h]
theorem ratT_ne {x : Rat} (h : x.den ≠ 1) : ratT x = itoa x.num ++ 47 :: decDigits x.den := by unfold ratT; rw [if_neg h]

theorem not47_dec (n : Nat) : (47 : UInt8) ∉ decDigits n := fun h => not_dig_47 (dig_isDig n _ h)
theorem not47_itoa (n : Int) : (47 : UInt8) ∉ itoa n := by
  unfold itoa; split
  · intro h; rcases List.mem_cons.1 h with h | h
    · exact absurd h (by decide)
    · exact not47_dec _ h
  · exact not47_dec _

theorem index_slash_none : ∀ (l : List UInt8), (47 : UInt8) ∉ l → index l [47] = -1
  | [], _ => rfl
  | b :: l, h => by
    unfold index
    have h1 : ¬ 47 = b := fun e => h (by simp [e])
    rw [if_neg (by simp [h1]), index_slash_none l (fun e => h (by simp [e]))]; rfl

theorem index_slash : ∀ (l r : List UInt8), (47 : UInt8) ∉ l → index (l ++ 47 :: r) [47] = l.length
  | [], r, _ => by unfold index; simp
  | b :: l, r, h => by
    have ih := index_slash l r (fun e => h (by simp [e]))
    have h1 : ¬ 47 = b := fun e => h (by simp [e])
    rw [List.cons_append]
    unfold index
    rw [if_neg (by simp [h1]), ih, if_neg (by simp)]; rfl

theorem cut_none {l : List UInt8} (h : (47 : UInt8) ∉ l) : cut l [47] = (l, [], false) := by
  unfold cut; rw [index_slash_none l h, if_neg (by omega)]

theorem cut_some {l r : List UInt8} (h : (47 : UInt8) ∉ l) : cut (l ++ 47 :: r) [47] = (l, r, true) := by
  unfold cut; rw [index_slash l r h, if_pos (by omega)]
  simp only [Int.toNat_natCast, List.length_singleton]
  rw [List.take_left, show l ++ 47 :: r = (l ++ [47]) ++ r by simp, show l.length + 1 = (l ++ [47]).length by simp, List.drop_left]

/-- a list is without a slash, or cut at its first one -/
theorem slash_cases (l : List UInt8) : (47 : UInt8) ∉ l ∨ ∃ a r, l = a ++ 47 :: r ∧ (47 : UInt8) ∉ a := by
  induction l with
  | nil => left; simp
  | cons b l ih =>
    by_cases hb : 47 = b
    · right; exact ⟨[], l, by simp [hb], by simp⟩
    · rcases ih with h | ⟨a, r, h1, h2⟩
      · left; simp [hb, h]
      · right; exact ⟨b :: a, r, by rw [h1]; rfl, by simp [hb, h2]⟩

/-- a canonical rational number's text -/
def canR (l : List UInt8) : Prop := ∃ x : Rat, l = ratT x

theorem ratT_inj {x y : Rat} (h : ratT x = ratT y) : x = y := by
  have hc : cut (ratT x) [47] = cut (ratT y) [47] := by rw [h]
  by_cases hx : x.den = 1
  · by_cases hy : y.den = 1
    · rw [ratT_one hx, ratT_one hy] at h
      exact Rat.ext (itoa_inj h) (hx.trans hy.symm)
    · rw [ratT_one hx, ratT_ne hy, cut_none (not47_itoa _), cut_some (not47_itoa _)] at hc; simp at hc
  · by_cases hy : y.den = 1
    · rw [ratT_ne hx, ratT_one hy, cut_none (not47_itoa _), cut_some (not47_itoa _)] at hc; simp at hc
    · rw [ratT_ne hx, ratT_ne hy, cut_some (not47_itoa _), cut_some (not47_itoa _)] at hc
      simp at hc
      exact Rat.ext (itoa_inj hc.1) (dec_inj hc.2)

/-- numerator and denominator of a quotient -/
theorem divInt_num (a b : Int) (hb : b ≠ 0) : (Rat.divInt a b).num = a / (if b < 0 then -(Int.gcd a b : Int) else Int.gcd a b) := by
  rw [Rat.num_divInt, Int.gcd_comm b a]
  by_cases h : b < 0
  · rw [if_pos h, Int.sign_eq_neg_one_of_neg h, Int.ediv_neg]
    rw [show -1 * a = -a by omega, Int.neg_ediv_of_dvd (Int.gcd_dvd_left a b)]
  · rw [if_neg h, Int.sign_eq_one_of_pos (by omega)]; simp

theorem divInt_den (a b : Int) (hb : b ≠ 0) : ((Rat.divInt a b).den : Int) = b / (if b < 0 then -(Int.gcd a b : Int) else Int.gcd a b) := by
  rw [Rat.den_divInt, if_neg hb, Int.gcd_comm b a]
  have hd : (Int.gcd a b : Int) ∣ b := Int.gcd_dvd_right a b
  push_cast
  by_cases h : b < 0
  · rw [if_pos h, Int.ediv_neg, show (b.natAbs : Int) = -b by omega, Int.neg_ediv_of_dvd hd]
  · rw [if_neg h, show (b.natAbs : Int) = b by omega]

end Go.Proofs.YtbdckemkmocdlaaGreatDoor

/- What whole.Check tells of a text, in plain Lean. -/
namespace Go.Proofs.YtbdckemkmocdlaaGreatDoor
open Go.Lib

def digits10 : List UInt8 := [48, 49, 50, 51, 52, 53, 54, 55, 56, 57]

/-- the number of the error of a text that is read as an integer -/
def chkW (l : List UInt8) : Int :=
  if trimPrefix l [45] = [] then 3
  else if trimS (trimPrefix l [45]) digits10 ≠ [] then 3
  else if (trimPrefix l [45]).head? = some 48 ∧ l ≠ [48] then 3
  else if 1024 < (trimPrefix l [45]).length then 11 else 0

theorem digits10_iff (c : UInt8) : digits10.contains c = true ↔ isDig c := by
  unfold isDig digits10
  simp only [List.contains_iff_mem, List.mem_cons, List.not_mem_nil, or_false]
  constructor
  · rintro (h | h | h | h | h | h | h | h | h | h) <;> subst h <;> decide
  · rintro ⟨h1, h2⟩
    have e : c = UInt8.ofNat c.toNat := by simp
    have : c.toNat = 48 ∨ c.toNat = 49 ∨ c.toNat = 50 ∨ c.toNat = 51 ∨ c.toNat = 52 ∨ c.toNat = 53 ∨ c.toNat = 54 ∨ c.toNat = 55 ∨ c.toNat = 56 ∨ c.toNat = 57 := by omega
    rcases this with h | h | h | h | h | h | h | h | h | h <;> rw [h] at e <;> simp [e]

theorem dropWhile_nil {p : UInt8 → Bool} (l : List UInt8) : l.dropWhile p = [] ↔ ∀ c ∈ l, p c = true := by
  induction l with
  | nil => simp
  | cons a l ih =>
    rw [List.dropWhile_cons]
    by_cases h : p a = true
    · rw [if_pos h, ih]; simp [h]
    · rw [if_neg h]; simp [h]

theorem trimS_nil (l : List UInt8) : trimS l digits10 = [] ↔ ∀ c ∈ l, isDig c := by
  unfold trimS trimLeftS trimRightS
  rw [dropWhile_nil]
  constructor
  · intro h
    by_cases hn : (l.reverse.dropWhile (digits10.contains ·)) = []
    · rw [dropWhile_nil] at hn
      intro c hc; exact (digits10_iff c).1 (hn c (by simpa using hc))
    · exfalso
      have h1 := List.head_dropWhile_not (digits10.contains ·) hn
      have h2 := h ((l.reverse.dropWhile (digits10.contains ·)).head hn) (by simp)
      rw [h1] at h2; exact absurd h2 (by simp)
  · intro h c hc
    have hs : c ∈ l := by
      have := (List.dropWhile_sublist (digits10.contains ·) (l := l.reverse)).subset (List.mem_reverse.1 hc)
      simpa using this
    exact (digits10_iff c).2 (h c hs)

theorem head_dec (n : Nat) : (decDigits n).head? = some 48 ↔ n = 0 := by
  constructor
  · intro h
    apply Classical.byContradiction; intro hn
    obtain ⟨c, l, h1, h2, h3⟩ := dec_head n (by omega)
    rw [h1] at h; simp at h; subst h; simp at h2
  · intro h; subst h; rw [dec_zero]; rfl

/-- a right integer's text -/
theorem chkW_itoa (n : Int) : chkW (itoa n) = if (decDigits n.natAbs).length ≤ 1024 then 0 else 11 := by
  unfold chkW
  rw [trimPrefix_itoa, if_neg (dec_ne_nil _), if_neg (by rw [Decidable.not_not, trimS_nil]; exact dig_isDig _), if_neg]
  · by_cases h : (decDigits n.natAbs).length ≤ 1024
    · rw [if_pos h, if_neg (by omega)]
    · rw [if_neg h, if_pos (by omega)]
  · rintro ⟨h1, h2⟩
    rw [head_dec] at h1
    exact h2 (itoa_eq_zero.2 (by omega))

theorem chkW_not (l : List UInt8) (h : ¬ canI l) : chkW l = 3 := by
  unfold chkW
  split
  · rfl
  · split
    · rfl
    · split
      · rfl
      · rename_i h1 h2 h3
        exfalso
        rw [Decidable.not_not, trimS_nil] at h2
        apply h
        apply canI_of
        · refine ⟨h1, h2, fun e => ?_⟩
          have : l = [48] := Decidable.byContradiction fun hc => h3 ⟨e, hc⟩
          rw [this]; rfl
        · intro e; exact Decidable.byContradiction fun hc => h3 ⟨e, hc⟩

theorem chkW_cases (l : List UInt8) : (¬ canI l ∧ chkW l = 3) ∨ ∃ n, l = itoa n ∧ chkW l = if (decDigits n.natAbs).length ≤ 1024 then 0 else 11 := by
  by_cases h : canI l
  · obtain ⟨n, rfl⟩ := h
    exact .inr ⟨n, rfl, chkW_itoa n⟩
  · exact .inl ⟨h, chkW_not l h⟩
end Go.Proofs.YtbdckemkmocdlaaGreatDoor

/- Digits cut into words of nine, in plain Lean. -/
import Derived.Test.YtbdckemkmocdlaaGreatDoorZ03
import Derived.Test.YtbdckemkmocdlaaGreatDoorZ01
import Derived.Lib.Atoi
set_option linter.unusedVariables false
set_option linter.unusedSimpArgs false
namespace Go.Proofs.YtbdckemkmocdlaaGreatDoor
open Go.Lib

theorem digitVal_dig {b : UInt8} (h : isDig b) : digitVal b = some (b.toNat - 48) := by
  unfold isDig at h
  unfold digitVal
  rw [if_pos h]
theorem decFrom_dig (l : List UInt8) (h : ∀ c ∈ l, isDig c) : ∀ acc, decFrom acc l = some (acc * 10 ^ l.length + dval l) := by
  induction l with
  | nil => intro acc; simp [decFrom, dval]
  | cons c l ih =>
    intro acc
    have hc := h c (by simp)
    simp only [decFrom, digitVal_dig hc]
    rw [ih (fun x hx => h x (by simp [hx])), dval_cons, List.length_cons, Nat.pow_succ]
    congr 1; grind
theorem atoi_dig (l : List UInt8) (hn : l ≠ []) (h : ∀ c ∈ l, isDig c) : atoi l = some (dval l : Int) := by
  cases l with
  | nil => exact absurd rfl hn
  | cons c l =>
    have hc := h c (by simp)
    unfold isDig at hc
    have e1 : (c == 45) = false := by simp; intro e; subst e; simp at hc
    have e2 : (c == 43) = false := by simp; intro e; subst e; simp at hc
    simp only [atoi, e1, e2, Bool.false_eq_true, if_false]
    unfold decNat
    rw [if_neg (by simp), decFrom_dig _ h 0]
    simp

/-- the last nine digits, and those before -/
theorem chunk (l : List UInt8) (h : ∀ c ∈ l, isDig c) : dval (l.take (l.length - 9)) = dval l / BW ∧ dval (l.drop (l.length - 9)) = dval l % BW := by
  have e := dval_append (l.take (l.length - 9)) (l.drop (l.length - 9))
  rw [List.take_append_drop] at e
  have hd := dval_lt (l.drop (l.length - 9)) (fun c hc => h c (List.mem_of_mem_drop hc))
  by_cases hl : 9 ≤ l.length
  · have e9 : (l.drop (l.length - 9)).length = 9 := by simp; omega
    rw [e9] at e hd
    rw [show (10 : Nat) ^ 9 = BW from rfl] at e hd
    rw [e]
    constructor
    · rw [Nat.add_comm, Nat.add_mul_div_right _ _ BW_pos, Nat.div_eq_of_lt hd]; omega
    · rw [Nat.mul_add_mod', Nat.mod_eq_of_lt hd]
  · have e0 : l.length - 9 = 0 := by omega
    rw [e0]
    have hv : dval l < BW := by
      have := dval_lt l h
      exact Nat.lt_of_lt_of_le this (Nat.pow_le_pow_right (by omega) (by omega : l.length ≤ 9))
    simp only [List.take_zero, List.drop_zero]
    rw [Nat.div_eq_of_lt hv, Nat.mod_eq_of_lt hv]; exact ⟨rfl, rfl⟩

/-- nine digits are put behind digits -/
def pad9 (l : List UInt8) : List UInt8 := List.replicate (9 - l.length) 48 ++ l

theorem dval_zeros (k : Nat) (l : List UInt8) : dval (List.replicate k 48 ++ l) = dval l := by
  induction k with
  | zero => simp
  | succ k ih => rw [List.replicate_succ, List.cons_append, dval_cons, ih]; simp

theorem dec_pad (a c : Nat) (ha : 0 < a) (hc : c < BW) : decDigits (a * BW + c) = decDigits a ++ pad9 (decDigits c) := by
  have hl : (decDigits c).length ≤ 9 := (dec_len_le c 9 (by omega)).2 hc
  have hpl : (pad9 (decDigits c)).length = 9 := by unfold pad9; simp; omega
  have hv : dval (decDigits a ++ pad9 (decDigits c)) = a * BW + c := by
    rw [dval_append, hpl, dval_dec]
    unfold pad9; rw [dval_zeros, dval_dec]; rfl
  obtain ⟨x, l, h1, h2, h3⟩ := dec_head a ha
  rw [← hv, h1, List.cons_append]
  apply dec_of_pos
  · unfold isDig; omega
  · intro e; subst e; simp at h2
  · intro y hy
    rcases List.mem_append.1 hy with hy | hy
    · exact dig_isDig a y (by rw [h1]; simp [hy])
    · unfold pad9 at hy
      rcases List.mem_append.1 hy with hy | hy
      · have := List.eq_of_mem_replicate hy; subst this; decide
      · exact dig_isDig c y hy

theorem dec_words (v k : Nat) (h : v / BW ^ (k + 1) ≠ 0) : decDigits (v / BW ^ k) = decDigits (v / BW ^ (k + 1)) ++ pad9 (decDigits (wd v k)) := by
  rw [div_step v k, Nat.mul_comm, dec_pad _ _ (Nat.pos_of_ne_zero h) (wd_lt v k)]

theorem top_word (v : Nat) (h : v ≠ 0) : wd v (nw v - 1) = v / BW ^ (nw v - 1) ∧ v / BW ^ (nw v - 1) ≠ 0 := by
  have h1 := pow_le_nw h
  have h2 := lt_pow_nw v
  have h3 : 0 < BW ^ (nw v - 1) := Nat.pow_pos BW_pos
  have h4 : 0 < v / BW ^ (nw v - 1) := Nat.div_pos h1 h3
  refine ⟨?_, by omega⟩
  unfold wd
  apply Nat.mod_eq_of_lt
  apply Nat.div_lt_of_lt_mul
  rw [← Nat.pow_succ]; rw [show (nw v - 1).succ = nw v by have := nw_pos h; omega]; exact h2

def sign45 (neg : Bool) : List UInt8 := if neg then [45] else []

theorem itoa_sv (neg : Bool) (v : Nat) (h : v ≠ 0) : itoa (sv neg v) = sign45 neg ++ decDigits v := by
  unfold sv sign45
  cases neg
  · simp only [Bool.false_eq_true, if_false, List.nil_append]; exact itoa_nat v
  · simp only [if_true]; rw [itoa_neg (by omega)]; simp

theorem nonzero_div {v k j : Nat} (h : v / BW ^ k ≠ 0) (hj : j ≤ k) : v / BW ^ j ≠ 0 := by
  intro e
  apply h
  rw [show k = j + (k - j) by omega, Nat.pow_add, ← Nat.div_div_eq_div_mul, e, Nat.zero_div]

end Go.Proofs.YtbdckemkmocdlaaGreatDoor

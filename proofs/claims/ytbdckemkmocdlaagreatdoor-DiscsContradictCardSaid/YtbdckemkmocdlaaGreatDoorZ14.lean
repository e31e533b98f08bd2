/- ratio.checks, sums.do, add, sub, mul. -/
import Derived.Test.YtbdckemkmocdlaaGreatDoorZ13
set_option linter.unusedVariables false
set_option linter.unusedSimpArgs false
namespace Go.Proofs.YtbdckemkmocdlaaGreatDoor
open Go.RowKit

/-- a slice of texts of rational numbers in a block of its own -/
def RatRow (w : World) (g : Nat) (l : List Rat) : Prop := ∀ i, i < l.length → w.cell? ⟨g, i, none⟩ = some (.string (sQ (l[i]?.getD 0)))

set_option maxRecDepth 100000 in
set_option maxHeartbeats 1000000 in
theorem checks_any (w : World) (g : Nat) (l : List Rat) (hg : g < w.heap.size) (hl : l.length ≤ 100) (hc : RatRow w g l) (hf : ∀ x ∈ l, FitQ x) (he : Env w) :
    Calls Tryz.prog 159 #[.slice (some ⟨g, 0, none⟩) l.length l.length] w fun e w' => e = .returned (.int .i64 0) ∧ Below w.heap.size w w' := by
  have KE := Lib.hid (show ∀ W, Below w.heap.size w W → Env W from fun W hW => he.below hW)
  clear he
  go_enter Tryz.func159, Tryz.ntmps159
  go_wp2
  go_loopw [8] (fun i wr => ∃ k : Nat, i = .int .i64 k ∧ k ≤ l.length ∧ Below w.heap.size w wr) (fun i _ => l.length - (intOf i).toNat)
  case atStart => exact ⟨0, rfl, Nat.zero_le _, Below.refl _ _⟩
  case round =>
    obtain ⟨k, rfl, hk, hb⟩ := hrel
    by_cases hlt : k < l.length
    · have hx := (hb.cell (p := ⟨g, k, none⟩) hg).trans (hc k hlt)
      have hfk := Lib.hid (hf (l[k]?.getD 0) (by rw [List.getElem?_eq_getElem hlt]; simp))
      generalize l[k]?.getD 0 = x at hx hfk
      go_wp2_with (first | (go_at_call 43; refine (check_good x _ hfk.out (KE.out _ hb)).mono ?_; rintro e w1 ⟨rfl, hb1⟩))
      exact ⟨⟨k + 1, by simp, by omega, hb.trans (hb1.mono hb.size)⟩, by simp [intOf]; omega⟩
    · go_wp2
      go_ret
      exact ⟨rfl, hb⟩

/-- a block that holds an error's number, which is none -/
def OK0 (w : World) (g : Nat) : Prop := w.cell? ⟨g, 0, none⟩ = some (.int .i64 0) ∧ w.frozen? ⟨g, 0, none⟩ = false ∧ g < w.heap.size
theorem OK0.below {w w' : World} {g : Nat} (h : OK0 w g) (hb : Below w.heap.size w w') : OK0 w' g :=
  ⟨(hb.cell (p := ⟨g, 0, none⟩) h.2.2).trans h.1, (hb.frozen (p := ⟨g, 0, none⟩) h.2.2).trans h.2.1, Nat.lt_of_lt_of_le h.2.2 hb.size⟩

theorem below_setSame {w : World} {g o : Nat} {v : Value} (h : w.cell? ⟨g, o, none⟩ = some v) (B : Nat) : Below B w (w.setCell ⟨g, o, none⟩ v) := by
  refine ⟨rfl, rfl, rfl, by simp [World.setCell], fun k _ => ?_⟩
  by_cases hk : k = g
  · subst hk
    unfold World.cell? at h
    cases hh : w.heap[k]? with
    | none => rw [hh] at h; simp at h
    | some b =>
      rw [hh] at h
      cases b <;> simp [World.setCell, Array.getElem?_modify, hh] at h ⊢
      rename_i c t z
      rw [Array.ext_iff]
      refine ⟨by simp, fun i h1 h2 => ?_⟩
      rw [Array.getElem_setIfInBounds]
      split
      · rename_i e; subst e
        rw [Array.getElem?_eq_getElem h2] at h
        exact (Option.some.inj h).symm
      · rfl
  · exact Below.heap_setCell _ _ _ _ hk

set_option maxRecDepth 100000 in
set_option maxHeartbeats 1000000 in
theorem do_Add (g : Nat) (a b r : ByteArray) (w : World) (h0 : OK0 w g)
    (hop : ∀ W, Below w.heap.size w W → Calls Tryz.prog 166 #[.string a, .string b] W fun e W' => e = .returned (.tuple #[.string r, .int .i64 0]) ∧ Below W.heap.size W W') :
    Calls Tryz.prog 163 #[.pointer (some ⟨g, 0, none⟩), .func (.func 166) #[] #[], .string a, .string b] w fun e w' => e = .returned (.string r) ∧ Below w.heap.size w w' := by
  have HO := Lib.hid hop
  have HK := Lib.hid h0
  obtain ⟨k1, k2, k3⟩ := h0
  clear hop
  go_enter Tryz.func163, Tryz.ntmps163
  go_wp2_with (go_at_call 166; refine (HO.out _ (Below.refl _ _)).mono ?_; rintro e w1 ⟨rfl, hb1⟩; have k4 := (HK.out.below hb1).1; have k5 := (HK.out.below hb1).2.1)
  go_ret
  exact ⟨rfl, hb1.trans (below_setSame k4 _)⟩
set_option maxRecDepth 100000 in
set_option maxHeartbeats 1000000 in
theorem do_Sub (g : Nat) (a b r : ByteArray) (w : World) (h0 : OK0 w g)
    (hop : ∀ W, Below w.heap.size w W → Calls Tryz.prog 164 #[.string a, .string b] W fun e W' => e = .returned (.tuple #[.string r, .int .i64 0]) ∧ Below W.heap.size W W') :
    Calls Tryz.prog 163 #[.pointer (some ⟨g, 0, none⟩), .func (.func 164) #[] #[], .string a, .string b] w fun e w' => e = .returned (.string r) ∧ Below w.heap.size w w' := by
  have HO := Lib.hid hop
  have HK := Lib.hid h0
  obtain ⟨k1, k2, k3⟩ := h0
  clear hop
  go_enter Tryz.func163, Tryz.ntmps163
  go_wp2_with (go_at_call 164; refine (HO.out _ (Below.refl _ _)).mono ?_; rintro e w1 ⟨rfl, hb1⟩; have k4 := (HK.out.below hb1).1; have k5 := (HK.out.below hb1).2.1)
  go_ret
  exact ⟨rfl, hb1.trans (below_setSame k4 _)⟩
set_option maxRecDepth 100000 in
set_option maxHeartbeats 1000000 in
theorem do_Mul (g : Nat) (a b r : ByteArray) (w : World) (h0 : OK0 w g)
    (hop : ∀ W, Below w.heap.size w W → Calls Tryz.prog 165 #[.string a, .string b] W fun e W' => e = .returned (.tuple #[.string r, .int .i64 0]) ∧ Below W.heap.size W W') :
    Calls Tryz.prog 163 #[.pointer (some ⟨g, 0, none⟩), .func (.func 165) #[] #[], .string a, .string b] w fun e w' => e = .returned (.string r) ∧ Below w.heap.size w w' := by
  have HO := Lib.hid hop
  have HK := Lib.hid h0
  obtain ⟨k1, k2, k3⟩ := h0
  clear hop
  go_enter Tryz.func163, Tryz.ntmps163
  go_wp2_with (go_at_call 165; refine (HO.out _ (Below.refl _ _)).mono ?_; rintro e w1 ⟨rfl, hb1⟩; have k4 := (HK.out.below hb1).1; have k5 := (HK.out.below hb1).2.1)
  go_ret
  exact ⟨rfl, hb1.trans (below_setSame k4 _)⟩
set_option maxRecDepth 100000 in
set_option maxHeartbeats 1000000 in
theorem do_Gcd (g : Nat) (a b r : ByteArray) (w : World) (h0 : OK0 w g)
    (hop : ∀ W, Below w.heap.size w W → Calls Tryz.prog 72 #[.string a, .string b] W fun e W' => e = .returned (.tuple #[.string r, .int .i64 0]) ∧ Below W.heap.size W W') :
    Calls Tryz.prog 163 #[.pointer (some ⟨g, 0, none⟩), .func (.func 72) #[] #[], .string a, .string b] w fun e w' => e = .returned (.string r) ∧ Below w.heap.size w w' := by
  have HO := Lib.hid hop
  have HK := Lib.hid h0
  obtain ⟨k1, k2, k3⟩ := h0
  clear hop
  go_enter Tryz.func163, Tryz.ntmps163
  go_wp2_with (go_at_call 72; refine (HO.out _ (Below.refl _ _)).mono ?_; rintro e w1 ⟨rfl, hb1⟩; have k4 := (HK.out.below hb1).1; have k5 := (HK.out.below hb1).2.1)
  go_ret
  exact ⟨rfl, hb1.trans (below_setSame k4 _)⟩
set_option maxRecDepth 100000 in
set_option maxHeartbeats 1000000 in
theorem do_Quo (g : Nat) (a b r : ByteArray) (w : World) (h0 : OK0 w g)
    (hop : ∀ W, Below w.heap.size w W → Calls Tryz.prog 183 #[.string a, .string b] W fun e W' => e = .returned (.tuple #[.string r, .int .i64 0]) ∧ Below W.heap.size W W') :
    Calls Tryz.prog 163 #[.pointer (some ⟨g, 0, none⟩), .func (.func 183) #[] #[], .string a, .string b] w fun e w' => e = .returned (.string r) ∧ Below w.heap.size w w' := by
  have HO := Lib.hid hop
  have HK := Lib.hid h0
  obtain ⟨k1, k2, k3⟩ := h0
  clear hop
  go_enter Tryz.func163, Tryz.ntmps163
  go_wp2_with (go_at_call 183; refine (HO.out _ (Below.refl _ _)).mono ?_; rintro e w1 ⟨rfl, hb1⟩; have k4 := (HK.out.below hb1).1; have k5 := (HK.out.below hb1).2.1)
  go_ret
  exact ⟨rfl, hb1.trans (below_setSame k4 _)⟩
end Go.Proofs.YtbdckemkmocdlaaGreatDoor

/- ratio.sums.add, sub, mul. -/
namespace Go.Proofs.YtbdckemkmocdlaaGreatDoor
open Go.RowKit

set_option maxRecDepth 100000 in
set_option maxHeartbeats 1000000 in
theorem sums_Add (g : Nat) (a b r : ByteArray) (w : World) (h0 : OK0 w g)
    (hop : ∀ W, Below w.heap.size w W → Calls Tryz.prog 166 #[.string a, .string b] W fun e W' => e = .returned (.tuple #[.string r, .int .i64 0]) ∧ Below W.heap.size W W') :
    Calls Tryz.prog 137 #[.pointer (some ⟨g, 0, none⟩), .string a, .string b] w fun e w' => e = .returned (.string r) ∧ Below w.heap.size w w' := by
  go_enter Tryz.func137, Tryz.ntmps137
  go_wp2_with fail
  refine (do_Add g a b r _ h0 hop).mono ?_
  clear hop
  rintro e w1 ⟨rfl, hb1⟩
  go_wp2_with fail
  go_ret
  exact ⟨rfl, hb1⟩
set_option maxRecDepth 100000 in
set_option maxHeartbeats 1000000 in
theorem sums_Sub (g : Nat) (a b r : ByteArray) (w : World) (h0 : OK0 w g)
    (hop : ∀ W, Below w.heap.size w W → Calls Tryz.prog 164 #[.string a, .string b] W fun e W' => e = .returned (.tuple #[.string r, .int .i64 0]) ∧ Below W.heap.size W W') :
    Calls Tryz.prog 134 #[.pointer (some ⟨g, 0, none⟩), .string a, .string b] w fun e w' => e = .returned (.string r) ∧ Below w.heap.size w w' := by
  go_enter Tryz.func134, Tryz.ntmps134
  go_wp2_with fail
  refine (do_Sub g a b r _ h0 hop).mono ?_
  clear hop
  rintro e w1 ⟨rfl, hb1⟩
  go_wp2_with fail
  go_ret
  exact ⟨rfl, hb1⟩

/-- the product of integers, from the left -/
def prodI (l : List Int) : Int := l.foldl (· * ·) 1
theorem prodI_take (l : List Int) (k : Nat) (h : k < l.length) : prodI (l.take (k + 1)) = prodI (l.take k) * l[k]?.getD 0 := by
  unfold prodI; rw [List.take_add_one, List.foldl_append, List.getElem?_eq_getElem h]; simp

set_option maxRecDepth 100000 in
set_option maxHeartbeats 1000000 in
theorem mul_list (w : World) (s g : Nat) (l : List Int) (h0 : OK0 w s) (hg : g < w.heap.size) (hl : l.length ≤ 100) (hc : StrRow w g l) (hf : ∀ x ∈ l, Fit x) (hp : ∀ k, k ≤ l.length → Fit (prodI (l.take k))) (he : Env w) :
    Calls Tryz.prog 135 #[.pointer (some ⟨s, 0, none⟩), .slice (some ⟨g, 0, none⟩) l.length l.length] w fun e w' => e = .returned (.string (sI (prodI l))) ∧ Below w.heap.size w w' := by
  have KE := Lib.hid (show ∀ W, Below w.heap.size w W → Env W from fun W hW => he.below hW)
  have HK := Lib.hid h0
  have HP := Lib.hid hp
  clear he h0 hp
  go_enter Tryz.func135, Tryz.ntmps135
  go_wp2
  go_loopw [5, 13] (fun o i wr => ∃ k : Nat, i = .int .i64 k ∧ k ≤ l.length ∧ o = .string (sI (prodI (l.take k))) ∧ Below w.heap.size w wr) (fun _ i _ => l.length - (intOf i).toNat)
  case atStart => exact ⟨0, rfl, Nat.zero_le _, by rw [sI_one]; rfl, Below.refl _ _⟩
  case round =>
    obtain ⟨k, rfl, hk, rfl, hb⟩ := hrel
    by_cases hlt : k < l.length
    · have hx := (hb.cell (p := ⟨g, k, none⟩) hg).trans (hc k hlt)
      have hfk := Lib.hid (hf (l[k]?.getD 0) (by rw [List.getElem?_eq_getElem hlt]; simp))
      have HT := Lib.hid (prodI_take l k hlt)
      have H1 := Lib.hid (HP.out k hk)
      have H2 := Lib.hid (HP.out (k + 1) hlt)
      generalize l[k]?.getD 0 = x at hx hfk HT
      go_wp2_with (first | (go_at_call 163; refine (do_Mul s _ _ (sI (prodI (l.take k) * x)) _ (HK.out.below hb) (fun W hW => mul_any _ x W H1.out hfk.out (by rw [← HT.out]; exact H2.out) (KE.out _ (hb.trans (hW.mono hb.size))))).mono ?_; rintro e w1 ⟨rfl, hb1⟩))
      exact ⟨⟨k + 1, by simp, by omega, by rw [HT.out], hb.trans (hb1.mono hb.size)⟩, by simp [intOf]; omega⟩
    · have HT := Lib.hid (show l.take k = l from List.take_of_length_le (by omega))
      go_wp2
      go_ret
      exact ⟨by rw [← HT.out]; simp [HT.out], hb⟩

theorem list_row (w : World) (l : List Int) : StrRow (w.alloc (.cells (l.map fun m => Value.string (sI m)).toArray 93 (0, 0))) w.heap.size l := by
  intro i hi
  have h := heap_alloc_new w (.cells (l.map fun m => Value.string (sI m)).toArray 93 (0, 0))
  rw [cell_of_row _ _ _ _ _ _ h]
  simp [hi]

/-- fits, and so do the products from the left -/
def FitP (l : List Int) : Prop := (∀ x ∈ l, Fit x) ∧ ∀ k, k ≤ l.length → Fit (prodI (l.take k))

theorem mul_new (w : World) (s : Nat) (l : List Int) (h0 : OK0 w s) (hl : l.length ≤ 100) (hp : FitP l) (he : Env w) :
    Calls Tryz.prog 135 #[.pointer (some ⟨s, 0, none⟩), .slice (some ⟨w.heap.size, 0, none⟩) l.length l.length] (w.alloc (.cells (l.map fun m => Value.string (sI m)).toArray 93 (0, 0))) fun e w' => e = .returned (.string (sI (prodI l))) ∧ Below w.heap.size w w' := by
  have hb : Below w.heap.size w (w.alloc (.cells (l.map fun m => Value.string (sI m)).toArray 93 (0, 0))) := (Below.refl _ w).alloc (Nat.le_refl _) _
  refine (mul_list _ s w.heap.size l (h0.below hb) (by simp) hl (list_row w l) hp.1 hp.2 (he.below hb)).mono ?_
  rintro e w' ⟨h1, h2⟩
  exact ⟨h1, hb.trans (h2.mono hb.size)⟩

theorem mul2 (w : World) (s : Nat) (a b : Int) (h0 : OK0 w s) (hp : FitP [a, b]) (he : Env w) :
    Calls Tryz.prog 135 #[.pointer (some ⟨s, 0, none⟩), .slice (some ⟨w.heap.size, 0, none⟩) 2 2] (w.alloc (.cells #[.string (sI a), .string (sI b)] 93 (0, 0))) fun e w' => e = .returned (.string (sI (a * b))) ∧ Below w.heap.size w w' := by
  have h := mul_new w s [a, b] h0 (by simp) hp he
  have e : prodI [a, b] = a * b := by simp [prodI]
  rw [e] at h
  exact h
theorem mul3 (w : World) (s : Nat) (a b c : Int) (h0 : OK0 w s) (hp : FitP [a, b, c]) (he : Env w) :
    Calls Tryz.prog 135 #[.pointer (some ⟨s, 0, none⟩), .slice (some ⟨w.heap.size, 0, none⟩) 3 3] (w.alloc (.cells #[.string (sI a), .string (sI b), .string (sI c)] 93 (0, 0))) fun e w' => e = .returned (.string (sI (a * b * c))) ∧ Below w.heap.size w w' := by
  have h := mul_new w s [a, b, c] h0 (by simp) hp he
  have e : prodI [a, b, c] = a * b * c := by simp [prodI]
  rw [e] at h
  exact h
theorem mul4 (w : World) (s : Nat) (a b c d : Int) (h0 : OK0 w s) (hp : FitP [a, b, c, d]) (he : Env w) :
    Calls Tryz.prog 135 #[.pointer (some ⟨s, 0, none⟩), .slice (some ⟨w.heap.size, 0, none⟩) 4 4] (w.alloc (.cells #[.string (sI a), .string (sI b), .string (sI c), .string (sI d)] 93 (0, 0))) fun e w' => e = .returned (.string (sI (a * b * c * d))) ∧ Below w.heap.size w w' := by
  have h := mul_new w s [a, b, c, d] h0 (by simp) hp he
  have e : prodI [a, b, c, d] = a * b * c * d := by simp [prodI]
  rw [e] at h
  exact h
theorem mul5 (w : World) (s : Nat) (a b c d f : Int) (h0 : OK0 w s) (hp : FitP [a, b, c, d, f]) (he : Env w) :
    Calls Tryz.prog 135 #[.pointer (some ⟨s, 0, none⟩), .slice (some ⟨w.heap.size, 0, none⟩) 5 5] (w.alloc (.cells #[.string (sI a), .string (sI b), .string (sI c), .string (sI d), .string (sI f)] 93 (0, 0))) fun e w' => e = .returned (.string (sI (a * b * c * d * f))) ∧ Below w.heap.size w w' := by
  have h := mul_new w s [a, b, c, d, f] h0 (by simp) hp he
  have e : prodI [a, b, c, d, f] = a * b * c * d * f := by simp [prodI]
  rw [e] at h
  exact h
end Go.Proofs.YtbdckemkmocdlaaGreatDoor

/- ratio.joined, sums.lowest. -/
namespace Go.Proofs.YtbdckemkmocdlaaGreatDoor
open Go.RowKit

theorem ret_strQ {d : ByteArray} {x : Rat} (h : d = sQ x) : Ending.returned (.string d) = .returned (.string (sQ x)) := by rw [h]

set_option maxRecDepth 100000 in
set_option maxHeartbeats 1000000 in
theorem joined_any (x : Rat) (w : World) (hx : FitQ x) : Calls Tryz.prog 182 #[.string (sI x.num), .string (sI x.den)] w fun e w' => e = .returned (.string (sQ x)) ∧ w = w' := by
  have hd := sI_eq_one x.den
  have hs1 := hx.1.size
  have hs2 := hx.2.size
  by_cases h : (x.den : Int) = 1
  · rw [decide_eq_true h] at hd
    have HX := Lib.hid (show sI x.num = sQ x from sQ_of (by rw [sI_list, ratT_one (by omega)]))
    clear h
    go_enter Tryz.func182, Tryz.ntmps182
    go_wp2_with fail
    go_ret
    exact ⟨ret_strQ HX.out, rfl⟩
  · rw [decide_eq_false h] at hd
    have HX := Lib.hid (show sI x.num ++ ⟨#[47]⟩ ++ sI x.den = sQ x from sQ_of (by
      rw [ratT_ne (by omega), ByteArray.data_append, ByteArray.data_append, Array.toList_append, Array.toList_append, sI_list, sI_list, itoa_nat]; simp))
    clear h
    go_enter Tryz.func182, Tryz.ntmps182
    go_wp2_with fail
    go_ret
    exact ⟨ret_strQ HX.out, rfl⟩

theorem prefix_sI (n : Int) (w : World) : Calls Tryz.prog 181 #[.string (sI n), .string ⟨#[45]⟩] w fun e w' => e = .returned (.bool (decide (n < 0))) ∧ w = w' := by
  refine (Tryz.strings_HasPrefix (sI n) ⟨#[45]⟩ w).mono ?_
  rintro e w' ⟨h1, h2⟩
  refine ⟨?_, h2.symm⟩
  rw [h1, sI_list]
  congr 2
  rw [Bool.eq_iff_iff, decide_eq_true_eq, ← itoa_head_minus]
  show Lib.hasPrefix (Lib.itoa n) [45] = true ↔ _
  cases h : Lib.itoa n with
  | nil => simp [Lib.hasPrefix]
  | cons c l => simp [Lib.hasPrefix]; exact eq_comm

theorem fit_gcd {a b : Int} (hb : Fit b) (h0 : b ≠ 0) : Fit (Int.gcd a b : Nat) := by
  unfold Fit at *
  rw [dec_len_le _ _ (by omega)] at *
  refine Nat.lt_of_le_of_lt ?_ hb
  exact Nat.gcd_le_right _ (by omega)

/-- the divisor that makes a quotient canonical -/
def low (a b : Int) : Int := if b < 0 then -(Int.gcd a b : Int) else Int.gcd a b

theorem low_facts {a b : Int} (h0 : b ≠ 0) (hb : Fit b) : low a b ≠ 0 ∧ low a b ∣ a ∧ low a b ∣ b ∧ Fit (low a b) := by
  have hg : (Int.gcd a b : Int) ≠ 0 := by
    intro h; have := Int.gcd_eq_zero_iff.1 (Int.natCast_eq_zero.1 h); exact h0 this.2
  unfold low
  split
  · exact ⟨by omega, Int.neg_dvd.2 (Int.gcd_dvd_left a b), Int.neg_dvd.2 (Int.gcd_dvd_right a b), fit_neg (fit_gcd hb h0)⟩
  · exact ⟨hg, Int.gcd_dvd_left a b, Int.gcd_dvd_right a b, fit_gcd hb h0⟩

set_option maxRecDepth 100000 in
set_option maxHeartbeats 2000000 in
theorem lowest_any (s : Nat) (a b : Int) (w : World) (h0 : OK0 w s) (ha : Fit a) (hb : Fit b) (hb0 : b ≠ 0) (he : Env w) :
    Calls Tryz.prog 162 #[.pointer (some ⟨s, 0, none⟩), .string (sI a), .string (sI b)] w fun e w' => e = .returned (.string (sQ (Rat.divInt a b))) ∧ Below w.heap.size w w' := by
  have KE := Lib.hid (show ∀ W, Below w.heap.size w W → Env W from fun W hW => he.below hW)
  have KO := Lib.hid (show ∀ W, Below w.heap.size w W → OK0 W s from fun W hW => h0.below hW)
  have hlow := low_facts (a := a) hb0 hb
  have HL := Lib.hid hlow
  have HN := Lib.hid (show sI (a / low a b) = sI (Rat.divInt a b).num by rw [divInt_num a b hb0]; rfl)
  have HD := Lib.hid (show sI (b / low a b) = sI (Rat.divInt a b).den by rw [divInt_den a b hb0]; rfl)
  have HG := Lib.hid (fit_gcd (a := a) hb hb0)
  have HF := Lib.hid (show FitQ (Rat.divInt a b) from ⟨by rw [divInt_num a b hb0]; exact fit_div ha, by rw [divInt_den a b hb0]; exact fit_div hb⟩)
  clear he h0 hlow
  go_enter Tryz.func162, Tryz.ntmps162
  go_wp2_with fail
  refine (do_Gcd s _ _ (sI (Int.gcd a b : Nat)) _ (KO.out _ (Below.refl _ _)) (fun W hW => gcd_any a b W ha hb (KE.out _ hW))).mono ?_
  rintro e w1 ⟨rfl, hb1⟩
  go_wp2_with fail
  refine (prefix_sI b _).mono ?_
  rintro e w2 ⟨rfl, rfl⟩
  by_cases hneg : b < 0
  · have HW := Lib.hid (show low a b = 0 - ((Int.gcd a b : Nat) : Int) by unfold low; rw [if_pos hneg]; omega)
    have t1 : decide (b < 0) = true := decide_eq_true hneg
    clear hneg
    go_wp2_with fail
    rw [sI_zero]
    refine (sums_Sub s _ _ (sI (low a b)) _ (KO.out _ hb1) (fun W hW => by rw [HW.out]; exact sub_any 0 (Int.gcd a b : Nat) W fit_zero HG.out (by rw [← HW.out]; exact HL.out.2.2.2) (KE.out _ (hb1.trans (hW.mono hb1.size))))).mono ?_
    rintro e w2 ⟨rfl, hb2⟩
    have hb3 := hb1.trans (hb2.mono hb1.size)
    have k1 := (KO.out _ hb3).1
    have k2 := (KO.out _ hb3).2.1
    go_wp2_with fail
    refine (do_Quo s _ _ (sI (a / low a b)) _ (KO.out _ hb3) (fun W hW => quo_any a (low a b) W ha HL.out.2.2.2 HL.out.1 HL.out.2.1 (KE.out _ (hb3.trans (hW.mono hb3.size))))).mono ?_
    rintro e w3 ⟨rfl, hb4⟩
    have hb5 := hb3.trans (hb4.mono hb3.size)
    go_wp2_with fail
    refine (do_Quo s _ _ (sI (b / low a b)) _ (KO.out _ hb5) (fun W hW => quo_any b (low a b) W hb HL.out.2.2.2 HL.out.1 HL.out.2.2.1 (KE.out _ (hb5.trans (hW.mono hb5.size))))).mono ?_
    rintro e w4 ⟨rfl, hb6⟩
    have hb7 := hb5.trans (hb6.mono hb5.size)
    go_wp2_with fail
    rw [HN.out, HD.out]
    refine (joined_any _ _ HF.out).mono ?_
    rintro e w5 ⟨rfl, rfl⟩
    go_wp2_with fail
    go_ret
    exact ⟨rfl, hb7⟩
  · have HW := Lib.hid (show low a b = ((Int.gcd a b : Nat) : Int) by unfold low; rw [if_neg hneg])
    have t1 : decide (b < 0) = false := decide_eq_false hneg
    have k1 := (KO.out _ hb1).1
    have k2 := (KO.out _ hb1).2.1
    clear hneg
    go_wp2_with fail
    rw [← HW.out]
    refine (do_Quo s _ _ (sI (a / low a b)) _ (KO.out _ hb1) (fun W hW => quo_any a (low a b) W ha HL.out.2.2.2 HL.out.1 HL.out.2.1 (KE.out _ (hb1.trans (hW.mono hb1.size))))).mono ?_
    rintro e w3 ⟨rfl, hb4⟩
    have hb5 := hb1.trans (hb4.mono hb1.size)
    go_wp2_with fail
    refine (do_Quo s _ _ (sI (b / low a b)) _ (KO.out _ hb5) (fun W hW => quo_any b (low a b) W hb HL.out.2.2.2 HL.out.1 HL.out.2.2.1 (KE.out _ (hb5.trans (hW.mono hb5.size))))).mono ?_
    rintro e w4 ⟨rfl, hb6⟩
    have hb7 := hb5.trans (hb6.mono hb5.size)
    go_wp2_with fail
    rw [HN.out, HD.out]
    refine (joined_any _ _ HF.out).mono ?_
    rintro e w5 ⟨rfl, rfl⟩
    go_wp2_with fail
    go_ret
    exact ⟨rfl, hb7⟩
end Go.Proofs.YtbdckemkmocdlaaGreatDoor

/- ratio.Add, Sub, Mul, Div: the closures and ratio.made. -/
namespace Go.Proofs.YtbdckemkmocdlaaGreatDoor
open Go.RowKit

theorem ret_ss {a b c d : ByteArray} (h1 : a = b) (h2 : c = d) : Ending.returned (.tuple #[.string a, .string c]) = .returned (.tuple #[.string b, .string d]) := by rw [h1, h2]

set_option maxRecDepth 100000 in
set_option maxHeartbeats 2000000 in
theorem clo_Add (s : Nat) (n p m q r : Int) (w : World) (h0 : OK0 w s) (f1 : FitP [n, q]) (f2 : FitP [m, p]) (f3 : FitP [p, q]) (f4 : Fit r) (hr : r = n * q + m * p) (he : Env w) :
    Calls Tryz.prog 136 #[.pointer (some ⟨s, 0, none⟩), .string (sI n), .string (sI p), .string (sI m), .string (sI q)] w fun e w' => e = .returned (.tuple #[.string (sI r), .string (sI (p * q))]) ∧ Below w.heap.size w w' := by
  have KE := Lib.hid (show ∀ W, Below w.heap.size w W → Env W from fun W hW => he.below hW)
  have KO := Lib.hid (show ∀ W, Below w.heap.size w W → OK0 W s from fun W hW => h0.below hW)
  have g1 : Fit (n * q) := by have := f1.2 2 (by simp); simpa [prodI] using this
  have g2 : Fit (m * p) := by have := f2.2 2 (by simp); simpa [prodI] using this
  have HR := Lib.hid hr
  clear he h0 hr
  go_enter Tryz.func136, Tryz.ntmps136
  go_wp2_with fail
  refine (mul2 _ s n q (KO.out _ (Below.refl _ _)) f1 (KE.out _ (Below.refl _ _))).mono ?_
  rintro e w1 ⟨rfl, hb1⟩
  go_wp2_with fail
  refine (mul2 _ s m p (KO.out _ hb1) f2 (KE.out _ hb1)).mono ?_
  rintro e w2 ⟨rfl, hb2⟩
  have hb3 := hb1.trans (hb2.mono hb1.size)
  go_wp2_with fail
  refine (sums_Add s _ _ (sI r) _ (KO.out _ hb3) (fun W hW => by rw [HR.out]; exact add_any (n * q) (m * p) W g1 g2 (by rw [← HR.out]; exact f4) (KE.out _ (hb3.trans (hW.mono hb3.size))))).mono ?_
  rintro e w4 ⟨rfl, hb4⟩
  have hb5 := hb3.trans (hb4.mono hb3.size)
  go_wp2_with fail
  refine (mul2 _ s p q (KO.out _ hb5) f3 (KE.out _ hb5)).mono ?_
  rintro e w6 ⟨rfl, hb6⟩
  go_wp2_with fail
  go_ret2
  exact ⟨rfl, hb5.trans (hb6.mono hb5.size)⟩
set_option maxRecDepth 100000 in
set_option maxHeartbeats 2000000 in
theorem clo_Sub (s : Nat) (n p m q r : Int) (w : World) (h0 : OK0 w s) (f1 : FitP [n, q]) (f2 : FitP [m, p]) (f3 : FitP [p, q]) (f4 : Fit r) (hr : r = n * q - m * p) (he : Env w) :
    Calls Tryz.prog 133 #[.pointer (some ⟨s, 0, none⟩), .string (sI n), .string (sI p), .string (sI m), .string (sI q)] w fun e w' => e = .returned (.tuple #[.string (sI r), .string (sI (p * q))]) ∧ Below w.heap.size w w' := by
  have KE := Lib.hid (show ∀ W, Below w.heap.size w W → Env W from fun W hW => he.below hW)
  have KO := Lib.hid (show ∀ W, Below w.heap.size w W → OK0 W s from fun W hW => h0.below hW)
  have g1 : Fit (n * q) := by have := f1.2 2 (by simp); simpa [prodI] using this
  have g2 : Fit (m * p) := by have := f2.2 2 (by simp); simpa [prodI] using this
  have HR := Lib.hid hr
  clear he h0 hr
  go_enter Tryz.func133, Tryz.ntmps133
  go_wp2_with fail
  refine (mul2 _ s n q (KO.out _ (Below.refl _ _)) f1 (KE.out _ (Below.refl _ _))).mono ?_
  rintro e w1 ⟨rfl, hb1⟩
  go_wp2_with fail
  refine (mul2 _ s m p (KO.out _ hb1) f2 (KE.out _ hb1)).mono ?_
  rintro e w2 ⟨rfl, hb2⟩
  have hb3 := hb1.trans (hb2.mono hb1.size)
  go_wp2_with fail
  refine (sums_Sub s _ _ (sI r) _ (KO.out _ hb3) (fun W hW => by rw [HR.out]; exact sub_any (n * q) (m * p) W g1 g2 (by rw [← HR.out]; exact f4) (KE.out _ (hb3.trans (hW.mono hb3.size))))).mono ?_
  rintro e w4 ⟨rfl, hb4⟩
  have hb5 := hb3.trans (hb4.mono hb3.size)
  go_wp2_with fail
  refine (mul2 _ s p q (KO.out _ hb5) f3 (KE.out _ hb5)).mono ?_
  rintro e w6 ⟨rfl, hb6⟩
  go_wp2_with fail
  go_ret2
  exact ⟨rfl, hb5.trans (hb6.mono hb5.size)⟩

set_option maxRecDepth 100000 in
set_option maxHeartbeats 2000000 in
theorem clo_Mul (s : Nat) (n p m q : Int) (w : World) (h0 : OK0 w s) (f1 : FitP [n, m]) (f3 : FitP [p, q]) (he : Env w) :
    Calls Tryz.prog 139 #[.pointer (some ⟨s, 0, none⟩), .string (sI n), .string (sI p), .string (sI m), .string (sI q)] w fun e w' => e = .returned (.tuple #[.string (sI (n * m)), .string (sI (p * q))]) ∧ Below w.heap.size w w' := by
  have KE := Lib.hid (show ∀ W, Below w.heap.size w W → Env W from fun W hW => he.below hW)
  have KO := Lib.hid (show ∀ W, Below w.heap.size w W → OK0 W s from fun W hW => h0.below hW)
  clear he h0
  go_enter Tryz.func139, Tryz.ntmps139
  go_wp2_with fail
  refine (mul2 _ s n m (KO.out _ (Below.refl _ _)) f1 (KE.out _ (Below.refl _ _))).mono ?_
  rintro e w1 ⟨rfl, hb1⟩
  go_wp2_with fail
  refine (mul2 _ s p q (KO.out _ hb1) f3 (KE.out _ hb1)).mono ?_
  rintro e w2 ⟨rfl, hb2⟩
  go_wp2_with fail
  go_ret2
  exact ⟨rfl, hb1.trans (hb2.mono hb1.size)⟩

set_option maxRecDepth 100000 in
set_option maxHeartbeats 2000000 in
theorem clo_Div (s : Nat) (n p m q : Int) (w : World) (h0 : OK0 w s) (f1 : FitP [n, q]) (f3 : FitP [p, m]) (he : Env w) :
    Calls Tryz.prog 160 #[.pointer (some ⟨s, 0, none⟩), .string (sI n), .string (sI p), .string (sI m), .string (sI q)] w fun e w' => e = .returned (.tuple #[.string (sI (n * q)), .string (sI (p * m))]) ∧ Below w.heap.size w w' := by
  have KE := Lib.hid (show ∀ W, Below w.heap.size w W → Env W from fun W hW => he.below hW)
  have KO := Lib.hid (show ∀ W, Below w.heap.size w W → OK0 W s from fun W hW => h0.below hW)
  clear he h0
  go_enter Tryz.func160, Tryz.ntmps160
  go_wp2_with fail
  refine (mul2 _ s n q (KO.out _ (Below.refl _ _)) f1 (KE.out _ (Below.refl _ _))).mono ?_
  rintro e w1 ⟨rfl, hb1⟩
  go_wp2_with fail
  refine (mul2 _ s p m (KO.out _ hb1) f3 (KE.out _ hb1)).mono ?_
  rintro e w2 ⟨rfl, hb2⟩
  go_wp2_with fail
  go_ret2
  exact ⟨rfl, hb1.trans (hb2.mono hb1.size)⟩

theorem rat_row (w : World) (l : List Rat) : RatRow (w.alloc (.cells (l.map fun m => Value.string (sQ m)).toArray 22 (0, 0))) w.heap.size l := by
  intro i hi
  have h := heap_alloc_new w (.cells (l.map fun m => Value.string (sQ m)).toArray 22 (0, 0))
  rw [cell_of_row _ _ _ _ _ _ h]
  simp [hi]

theorem checks_two (w : World) (a b : Rat) (ha : FitQ a) (hb : FitQ b) (he : Env w) :
    Calls Tryz.prog 159 #[.slice (some ⟨w.heap.size, 0, none⟩) 2 2] (w.alloc (.cells #[.string (sQ a), .string (sQ b)] 22 (0, 0))) fun e w' => e = .returned (.int .i64 0) ∧ Below w.heap.size w w' := by
  have hb1 : Below w.heap.size w (w.alloc (.cells #[.string (sQ a), .string (sQ b)] 22 (0, 0))) := (Below.refl _ w).alloc (Nat.le_refl _) _
  refine (checks_any _ w.heap.size [a, b] (by simp) (by simp) (rat_row w [a, b]) ?_ (he.below hb1)).mono ?_
  · intro x hx
    simp only [List.mem_cons, List.not_mem_nil, or_false] at hx
    rcases hx with rfl | rfl
    · exact ha
    · exact hb
  · rintro e w' ⟨h1, h2⟩
    exact ⟨h1, hb1.trans (h2.mono hb1.size)⟩

theorem ok0_new (w : World) : OK0 (w.alloc (.cells #[.int .i64 0] 188 (0, 0))) w.heap.size := by
  have h := heap_alloc_new w (.cells #[.int .i64 0] 188 (0, 0))
  refine ⟨?_, ?_, by simp⟩
  · rw [cell_of_row _ _ _ _ _ _ h]; rfl
  · simp only [World.frozen?]; rw [h]; rfl

theorem ret_qi {x y : Rat} (h : x = y) : Ending.returned (.tuple #[.string (sQ x), .int .i64 0]) = .returned (.tuple #[.string (sQ y), .int .i64 0]) := by rw [h]

set_option maxRecDepth 100000 in
set_option maxHeartbeats 2000000 in
theorem made_Add (a b : Rat) (u v : Int) (w : World) (ha : FitQ a) (hb : FitQ b) (hu : Fit u) (hv : Fit v) (hv0 : v ≠ 0) (he : Env w)
    (hop : ∀ W s, Below w.heap.size w W → OK0 W s → Calls Tryz.prog 136 #[.pointer (some ⟨s, 0, none⟩), .string (sI a.num), .string (sI a.den), .string (sI b.num), .string (sI b.den)] W fun e W' => e = .returned (.tuple #[.string (sI u), .string (sI v)]) ∧ Below W.heap.size W W') :
    Calls Tryz.prog 132 #[.string (sQ a), .string (sQ b), .func (.func 136) #[] #[]] w fun e w' => e = .returned (.tuple #[.string (sQ (Rat.divInt u v)), .int .i64 0]) ∧ Below w.heap.size w w' := by
  have KE := Lib.hid (show ∀ W, Below w.heap.size w W → Env W from fun W hW => he.below hW)
  have HO := Lib.hid hop
  have hz := sI_eq_zero v
  rw [decide_eq_false hv0] at hz
  clear hop
  go_enter Tryz.func132, Tryz.ntmps132
  go_wp2_with fail
  refine (checks_two w a b ha hb he).mono ?_
  clear he
  rintro e w1 ⟨rfl, hb1⟩
  go_wp2_with fail
  refine (cut_sQ a _ (by have := ha.size; omega) (KE.out _ hb1)).mono ?_
  rintro e w2 ⟨rfl, hb2⟩
  have hb3 := hb1.trans (hb2.mono hb1.size)
  go_wp2_with fail
  refine (cut_sQ b _ (by have := hb.size; omega) (KE.out _ hb3)).mono ?_
  rintro e w4 ⟨rfl, hb4⟩
  have hb5 := hb3.trans (hb4.mono hb3.size)
  have hk := ok0_new w4
  have hb6 : Below w.heap.size w (w4.alloc (.cells #[.int .i64 0] 188 (0, 0))) := hb5.alloc hb5.size _
  clear hb1 hb2 hb3 hb4
  go_wp2_with fail
  generalize w4.alloc (.cells #[.int .i64 0] 188 (0, 0)) = w7 at *
  generalize w4.heap.size = s at *
  refine (HO.out _ s hb6 hk).mono ?_
  rintro e w8 ⟨rfl, hb8⟩
  have hk8 := hk.below hb8
  have k1 := hk8.1
  have k2 := hk8.2.1
  have hb9 := hb6.trans (hb8.mono hb6.size)
  go_wp2_with fail
  refine (lowest_any s u v _ hk8 hu hv hv0 (KE.out _ hb9)).mono ?_
  rintro e w10 ⟨rfl, hb10⟩
  have k3 := (hk8.below hb10).1
  clear k1 k2
  go_wp2_with fail
  go_quiet (fail)
  go_wp2_with fail
  go_ret2
  exact ⟨rfl, (hb9.trans (hb10.mono hb9.size)).trans (below_same _ _ _)⟩
set_option maxRecDepth 100000 in
set_option maxHeartbeats 2000000 in
theorem made_Sub (a b : Rat) (u v : Int) (w : World) (ha : FitQ a) (hb : FitQ b) (hu : Fit u) (hv : Fit v) (hv0 : v ≠ 0) (he : Env w)
    (hop : ∀ W s, Below w.heap.size w W → OK0 W s → Calls Tryz.prog 133 #[.pointer (some ⟨s, 0, none⟩), .string (sI a.num), .string (sI a.den), .string (sI b.num), .string (sI b.den)] W fun e W' => e = .returned (.tuple #[.string (sI u), .string (sI v)]) ∧ Below W.heap.size W W') :
    Calls Tryz.prog 132 #[.string (sQ a), .string (sQ b), .func (.func 133) #[] #[]] w fun e w' => e = .returned (.tuple #[.string (sQ (Rat.divInt u v)), .int .i64 0]) ∧ Below w.heap.size w w' := by
  have KE := Lib.hid (show ∀ W, Below w.heap.size w W → Env W from fun W hW => he.below hW)
  have HO := Lib.hid hop
  have hz := sI_eq_zero v
  rw [decide_eq_false hv0] at hz
  clear hop
  go_enter Tryz.func132, Tryz.ntmps132
  go_wp2_with fail
  refine (checks_two w a b ha hb he).mono ?_
  clear he
  rintro e w1 ⟨rfl, hb1⟩
  go_wp2_with fail
  refine (cut_sQ a _ (by have := ha.size; omega) (KE.out _ hb1)).mono ?_
  rintro e w2 ⟨rfl, hb2⟩
  have hb3 := hb1.trans (hb2.mono hb1.size)
  go_wp2_with fail
  refine (cut_sQ b _ (by have := hb.size; omega) (KE.out _ hb3)).mono ?_
  rintro e w4 ⟨rfl, hb4⟩
  have hb5 := hb3.trans (hb4.mono hb3.size)
  have hk := ok0_new w4
  have hb6 : Below w.heap.size w (w4.alloc (.cells #[.int .i64 0] 188 (0, 0))) := hb5.alloc hb5.size _
  clear hb1 hb2 hb3 hb4
  go_wp2_with fail
  generalize w4.alloc (.cells #[.int .i64 0] 188 (0, 0)) = w7 at *
  generalize w4.heap.size = s at *
  refine (HO.out _ s hb6 hk).mono ?_
  rintro e w8 ⟨rfl, hb8⟩
  have hk8 := hk.below hb8
  have k1 := hk8.1
  have k2 := hk8.2.1
  have hb9 := hb6.trans (hb8.mono hb6.size)
  go_wp2_with fail
  refine (lowest_any s u v _ hk8 hu hv hv0 (KE.out _ hb9)).mono ?_
  rintro e w10 ⟨rfl, hb10⟩
  have k3 := (hk8.below hb10).1
  clear k1 k2
  go_wp2_with fail
  go_quiet (fail)
  go_wp2_with fail
  go_ret2
  exact ⟨rfl, (hb9.trans (hb10.mono hb9.size)).trans (below_same _ _ _)⟩
set_option maxRecDepth 100000 in
set_option maxHeartbeats 2000000 in
theorem made_Mul (a b : Rat) (u v : Int) (w : World) (ha : FitQ a) (hb : FitQ b) (hu : Fit u) (hv : Fit v) (hv0 : v ≠ 0) (he : Env w)
    (hop : ∀ W s, Below w.heap.size w W → OK0 W s → Calls Tryz.prog 139 #[.pointer (some ⟨s, 0, none⟩), .string (sI a.num), .string (sI a.den), .string (sI b.num), .string (sI b.den)] W fun e W' => e = .returned (.tuple #[.string (sI u), .string (sI v)]) ∧ Below W.heap.size W W') :
    Calls Tryz.prog 132 #[.string (sQ a), .string (sQ b), .func (.func 139) #[] #[]] w fun e w' => e = .returned (.tuple #[.string (sQ (Rat.divInt u v)), .int .i64 0]) ∧ Below w.heap.size w w' := by
  have KE := Lib.hid (show ∀ W, Below w.heap.size w W → Env W from fun W hW => he.below hW)
  have HO := Lib.hid hop
  have hz := sI_eq_zero v
  rw [decide_eq_false hv0] at hz
  clear hop
  go_enter Tryz.func132, Tryz.ntmps132
  go_wp2_with fail
  refine (checks_two w a b ha hb he).mono ?_
  clear he
  rintro e w1 ⟨rfl, hb1⟩
  go_wp2_with fail
  refine (cut_sQ a _ (by have := ha.size; omega) (KE.out _ hb1)).mono ?_
  rintro e w2 ⟨rfl, hb2⟩
  have hb3 := hb1.trans (hb2.mono hb1.size)
  go_wp2_with fail
  refine (cut_sQ b _ (by have := hb.size; omega) (KE.out _ hb3)).mono ?_
  rintro e w4 ⟨rfl, hb4⟩
  have hb5 := hb3.trans (hb4.mono hb3.size)
  have hk := ok0_new w4
  have hb6 : Below w.heap.size w (w4.alloc (.cells #[.int .i64 0] 188 (0, 0))) := hb5.alloc hb5.size _
  clear hb1 hb2 hb3 hb4
  go_wp2_with fail
  generalize w4.alloc (.cells #[.int .i64 0] 188 (0, 0)) = w7 at *
  generalize w4.heap.size = s at *
  refine (HO.out _ s hb6 hk).mono ?_
  rintro e w8 ⟨rfl, hb8⟩
  have hk8 := hk.below hb8
  have k1 := hk8.1
  have k2 := hk8.2.1
  have hb9 := hb6.trans (hb8.mono hb6.size)
  go_wp2_with fail
  refine (lowest_any s u v _ hk8 hu hv hv0 (KE.out _ hb9)).mono ?_
  rintro e w10 ⟨rfl, hb10⟩
  have k3 := (hk8.below hb10).1
  clear k1 k2
  go_wp2_with fail
  go_quiet (fail)
  go_wp2_with fail
  go_ret2
  exact ⟨rfl, (hb9.trans (hb10.mono hb9.size)).trans (below_same _ _ _)⟩
set_option maxRecDepth 100000 in
set_option maxHeartbeats 2000000 in
theorem made_Div (a b : Rat) (u v : Int) (w : World) (ha : FitQ a) (hb : FitQ b) (hu : Fit u) (hv : Fit v) (hv0 : v ≠ 0) (he : Env w)
    (hop : ∀ W s, Below w.heap.size w W → OK0 W s → Calls Tryz.prog 160 #[.pointer (some ⟨s, 0, none⟩), .string (sI a.num), .string (sI a.den), .string (sI b.num), .string (sI b.den)] W fun e W' => e = .returned (.tuple #[.string (sI u), .string (sI v)]) ∧ Below W.heap.size W W') :
    Calls Tryz.prog 132 #[.string (sQ a), .string (sQ b), .func (.func 160) #[] #[]] w fun e w' => e = .returned (.tuple #[.string (sQ (Rat.divInt u v)), .int .i64 0]) ∧ Below w.heap.size w w' := by
  have KE := Lib.hid (show ∀ W, Below w.heap.size w W → Env W from fun W hW => he.below hW)
  have HO := Lib.hid hop
  have hz := sI_eq_zero v
  rw [decide_eq_false hv0] at hz
  clear hop
  go_enter Tryz.func132, Tryz.ntmps132
  go_wp2_with fail
  refine (checks_two w a b ha hb he).mono ?_
  clear he
  rintro e w1 ⟨rfl, hb1⟩
  go_wp2_with fail
  refine (cut_sQ a _ (by have := ha.size; omega) (KE.out _ hb1)).mono ?_
  rintro e w2 ⟨rfl, hb2⟩
  have hb3 := hb1.trans (hb2.mono hb1.size)
  go_wp2_with fail
  refine (cut_sQ b _ (by have := hb.size; omega) (KE.out _ hb3)).mono ?_
  rintro e w4 ⟨rfl, hb4⟩
  have hb5 := hb3.trans (hb4.mono hb3.size)
  have hk := ok0_new w4
  have hb6 : Below w.heap.size w (w4.alloc (.cells #[.int .i64 0] 188 (0, 0))) := hb5.alloc hb5.size _
  clear hb1 hb2 hb3 hb4
  go_wp2_with fail
  generalize w4.alloc (.cells #[.int .i64 0] 188 (0, 0)) = w7 at *
  generalize w4.heap.size = s at *
  refine (HO.out _ s hb6 hk).mono ?_
  rintro e w8 ⟨rfl, hb8⟩
  have hk8 := hk.below hb8
  have k1 := hk8.1
  have k2 := hk8.2.1
  have hb9 := hb6.trans (hb8.mono hb6.size)
  go_wp2_with fail
  refine (lowest_any s u v _ hk8 hu hv hv0 (KE.out _ hb9)).mono ?_
  rintro e w10 ⟨rfl, hb10⟩
  have k3 := (hk8.below hb10).1
  clear k1 k2
  go_wp2_with fail
  go_quiet (fail)
  go_wp2_with fail
  go_ret2
  exact ⟨rfl, (hb9.trans (hb10.mono hb9.size)).trans (below_same _ _ _)⟩

theorem divInt_add' (a b : Rat) : Rat.divInt (a.num * b.den + b.num * a.den) (a.den * b.den) = a + b := by
  conv => rhs; rw [← Rat.num_divInt_den a, ← Rat.num_divInt_den b]
  rw [Rat.divInt_add_divInt _ _ (by have := a.den_pos; omega) (by have := b.den_pos; omega)]
theorem divInt_sub' (a b : Rat) : Rat.divInt (a.num * b.den - b.num * a.den) (a.den * b.den) = a - b := by
  conv => rhs; rw [← Rat.num_divInt_den a, ← Rat.num_divInt_den b]
  rw [Rat.divInt_sub_divInt _ _ (by have := a.den_pos; omega) (by have := b.den_pos; omega)]
theorem divInt_mul' (a b : Rat) : Rat.divInt (a.num * b.num) (a.den * b.den) = a * b := by
  conv => rhs; rw [← Rat.num_divInt_den a, ← Rat.num_divInt_den b]
  rw [Rat.divInt_mul_divInt]
theorem divInt_div' (a b : Rat) : Rat.divInt (a.num * b.den) (a.den * b.num) = a / b := by
  conv => rhs; rw [← Rat.num_divInt_den a, ← Rat.num_divInt_den b]
  rw [Rat.div_def, Rat.inv_divInt, Rat.divInt_mul_divInt]

theorem fitP2 {a b : Int} (ha : Fit a) (hb : Fit b) (h : Fit (a * b)) : FitP [a, b] := by
  refine ⟨?_, ?_⟩
  · intro x hx
    simp only [List.mem_cons, List.not_mem_nil, or_false] at hx
    rcases hx with rfl | rfl
    · exact ha
    · exact hb
  · intro k hk
    have hk2 : k ≤ 2 := hk
    match k, hk2 with
    | 0, _ => simpa [prodI] using fit_one
    | 1, _ => simpa [prodI] using ha
    | 2, _ => simpa [prodI] using h

theorem den_ne (a b : Rat) : (a.den : Int) * b.den ≠ 0 := by
  have h1 := a.den_pos
  have h2 := b.den_pos
  exact Int.mul_ne_zero (by omega) (by omega)

set_option maxRecDepth 100000 in
set_option maxHeartbeats 1000000 in
theorem rat_Add (a b : Rat) (w : World) (ha : FitQ a) (hb : FitQ b) (h1 : Fit (a.num * b.den)) (h2 : Fit (b.num * a.den)) (h3 : Fit (a.den * b.den)) (h4 : Fit (a.num * b.den + b.num * a.den)) (he : Env w) :
    Calls Tryz.prog 101 #[.string (sQ a), .string (sQ b)] w fun e w' => e = .returned (.tuple #[.string (sQ (a + b)), .int .i64 0]) ∧ Below w.heap.size w w' := by
  have HV := Lib.hid (divInt_add' a b)
  have H := Lib.hid (made_Add a b _ _ w ha hb h4 h3 (den_ne a b) he (fun W s hW hs => clo_Add s a.num a.den b.num b.den _ W hs (fitP2 ha.1 hb.2 h1) (fitP2 hb.1 ha.2 h2) (fitP2 ha.2 hb.2 h3) h4 rfl (he.below hW)))
  clear he
  go_enter Tryz.func101, Tryz.ntmps101
  go_wp2_with fail
  refine H.out.mono ?_
  rintro e w1 ⟨rfl, hb1⟩
  go_wp2_with fail
  go_ret2
  exact ⟨ret_qi HV.out, hb1⟩
set_option maxRecDepth 100000 in
set_option maxHeartbeats 1000000 in
theorem rat_Sub (a b : Rat) (w : World) (ha : FitQ a) (hb : FitQ b) (h1 : Fit (a.num * b.den)) (h2 : Fit (b.num * a.den)) (h3 : Fit (a.den * b.den)) (h4 : Fit (a.num * b.den - b.num * a.den)) (he : Env w) :
    Calls Tryz.prog 100 #[.string (sQ a), .string (sQ b)] w fun e w' => e = .returned (.tuple #[.string (sQ (a - b)), .int .i64 0]) ∧ Below w.heap.size w w' := by
  have HV := Lib.hid (divInt_sub' a b)
  have H := Lib.hid (made_Sub a b _ _ w ha hb h4 h3 (den_ne a b) he (fun W s hW hs => clo_Sub s a.num a.den b.num b.den _ W hs (fitP2 ha.1 hb.2 h1) (fitP2 hb.1 ha.2 h2) (fitP2 ha.2 hb.2 h3) h4 rfl (he.below hW)))
  clear he
  go_enter Tryz.func100, Tryz.ntmps100
  go_wp2_with fail
  refine H.out.mono ?_
  rintro e w1 ⟨rfl, hb1⟩
  go_wp2_with fail
  go_ret2
  exact ⟨ret_qi HV.out, hb1⟩

set_option maxRecDepth 100000 in
set_option maxHeartbeats 1000000 in
theorem rat_Mul (a b : Rat) (w : World) (ha : FitQ a) (hb : FitQ b) (h1 : Fit (a.num * b.num)) (h3 : Fit (a.den * b.den)) (he : Env w) :
    Calls Tryz.prog 103 #[.string (sQ a), .string (sQ b)] w fun e w' => e = .returned (.tuple #[.string (sQ (a * b)), .int .i64 0]) ∧ Below w.heap.size w w' := by
  have HV := Lib.hid (divInt_mul' a b)
  have H := Lib.hid (made_Mul a b _ _ w ha hb h1 h3 (den_ne a b) he (fun W s hW hs => clo_Mul s a.num a.den b.num b.den W hs (fitP2 ha.1 hb.1 h1) (fitP2 ha.2 hb.2 h3) (he.below hW)))
  clear he
  go_enter Tryz.func103, Tryz.ntmps103
  go_wp2_with fail
  refine H.out.mono ?_
  rintro e w1 ⟨rfl, hb1⟩
  go_wp2_with fail
  go_ret2
  exact ⟨ret_qi HV.out, hb1⟩

theorem sQ_eq_zero (x : Rat) : ((sQ x).toList == [48]) = decide (x = 0) := by
  rw [ByteArray.toList_eq, sQ_list, Bool.eq_iff_iff, beq_iff_eq, decide_eq_true_eq]
  constructor
  · intro h; exact ratT_inj (h.trans (by rw [ratT_one (by rfl)]; exact itoa_zero.symm))
  · rintro rfl; rw [ratT_one (by rfl)]; exact itoa_zero

set_option maxRecDepth 100000 in
set_option maxHeartbeats 1000000 in
theorem rat_Div (a b : Rat) (w : World) (ha : FitQ a) (hb : FitQ b) (hb0 : b ≠ 0) (h1 : Fit (a.num * b.den)) (h3 : Fit (a.den * b.num)) (he : Env w) :
    Calls Tryz.prog 122 #[.string (sQ a), .string (sQ b)] w fun e w' => e = .returned (.tuple #[.string (sQ (a / b)), .int .i64 0]) ∧ Below w.heap.size w w' := by
  have HV := Lib.hid (divInt_div' a b)
  have hn0 : (a.den : Int) * b.num ≠ 0 := by
    have h1 := a.den_pos
    have h2 : b.num ≠ 0 := by simpa using hb0
    exact Int.mul_ne_zero (by omega) h2
  have H := Lib.hid (fun W (hW : Below w.heap.size w W) => made_Div a b _ _ W ha hb h1 h3 hn0 (he.below hW) (fun W' s hW' hs => clo_Div s a.num a.den b.num b.den W' hs (fitP2 ha.1 hb.2 h1) (fitP2 ha.2 hb.1 h3) (he.below (hW.trans (hW'.mono hW.size)))))
  have hz := sQ_eq_zero b
  rw [decide_eq_false hb0] at hz
  go_enter Tryz.func122, Tryz.ntmps122
  go_wp2_with fail
  refine (checks_two w a b ha hb he).mono ?_
  clear he
  rintro e w1 ⟨rfl, hb1⟩
  go_wp2_with fail
  refine (H.out _ hb1).mono ?_
  rintro e w2 ⟨rfl, hb2⟩
  go_wp2_with fail
  go_ret2
  exact ⟨ret_qi HV.out, hb1.trans (hb2.mono hb1.size)⟩
end Go.Proofs.YtbdckemkmocdlaaGreatDoor

/- metrolabref01: divided. -/
import Derived.Test.YtbdckemkmocdlaaGreatDoorZ18
set_option linter.all false
set_option exponentiation.threshold 2000000
namespace Go.Proofs.YtbdckemkmocdlaaGreatDoor
open Go.RowKit

attribute [local irreducible] sI

theorem dI_le {m n : Nat} (h : m ≤ n) : (dI m).size ≤ (dI n).size := by
  rw [dI_size, dI_size]
  have h1 := dec_len_pos n
  have := (dec_len_le n (Lib.decDigits n).length h1).1 (Nat.le_refl _)
  exact (dec_len_le m _ h1).2 (by omega)

theorem ext_at (x : ByteArray) (k : Nat) (h : k < x.size) : (x.extract k (k + 1)).data.toList = [x.data.toList[k]'(by rw [← ba_size]; exact h)] := by
  rw [Lib.extract_data, show k + 1 - k = 1 by omega]
  rw [List.drop_eq_getElem_cons (by rw [← ba_size]; exact h)]; rfl

/-- a digit as a text -/
theorem one_digit (w : World) (e : Nat) (he : e < 10) : (convert 131 9 (.slice (some ⟨w.heap.size, 0, none⟩) 1 1)).run Tryz.prog (w.alloc (.cells #[.int .u8 (48 + (e : Int))] 5 (0, 0))) = .ok (.string ⟨#[gd e]⟩) (w.alloc (.cells #[.int .u8 (48 + (e : Int))] 5 (0, 0))) := by
  have h := (BB.new w [gd e]).str 1
  have hb : bcs [gd e] = #[.int .u8 (48 + (e : Int))] := by
    show #[Value.int .u8 ((gd e).toNat : Int)] = _
    rw [gd_toNat he]; simp
  rw [hb] at h; exact h

theorem rdiv_step (Q n r d e s V : Nat) (h : Q * n + r = V) (h2 : s + e * n = 10 * r + d) : (10 * Q + e) * n + s = 10 * V + d := by
  subst h; grind
theorem rdiv_lt (n r d e s : Nat) (h : r < n) (hd : d ≤ 9) (h2 : s + e * n = 10 * r + d) (h3 : n ≤ s) : e < 9 := by
  apply Classical.byContradiction; intro hc
  have : 9 * n ≤ e * n := Nat.mul_le_mul_right _ (by omega)
  omega
theorem rdiv_sub (n r d e s : Nat) (h2 : s + e * n = 10 * r + d) (h3 : n ≤ s) : (s - n) + (e + 1) * n = 10 * r + d := by
  rw [Nat.add_mul]; omega

set_option maxRecDepth 100000 in
set_option maxHeartbeats 4000000 in
theorem rdivided_any (m n : Nat) (w : World) (hn : n ≠ 0) (h1 : (dI m).size ≤ 100000) (h2 : (dI n).size ≤ 100000) :
    Calls Tryz.prog 127 #[.string (dI m), .string (dI n)] w fun e w' => e = .returned (.tuple #[.string (dI (m / n)), .string (dI (m % n))]) ∧ Below w.heap.size w w' := by
  have hD := dig_dI m
  have hx : dval (Lib.decDigits m) = m := dval_dec m
  have hl : (dI m).size = (Lib.decDigits m).length := dI_size m
  have hl0 := dec_len_pos m
  generalize Lib.decDigits m = A at *
  generalize dI m = x at *
  have HD := Lib.hid hD
  have HX := Lib.hid hx
  have HN := Lib.hid hn
  have hz : (⟨#[48]⟩ : ByteArray) = dI 0 := by rw [sI_zero]; rfl
  have HZ := Lib.hid hz
  have hln : ∀ r, r < n → (dI r).size ≤ 100000 := fun r hr => Nat.le_trans (dI_le (Nat.le_of_lt hr)) h2
  have HLN := Lib.hid hln
  clear hD hx hn hz hln
  go_enter Tryz.func127, Tryz.ntmps127
  go_wp2_with fail
  go_loopw [6, 7, 8] (fun qv rv i wr => ∃ (k : Nat) (q : ByteArray) (r : Nat), qv = .string q ∧ rv = .string (dI r) ∧ i = .int .i64 k ∧ k ≤ A.length ∧ q.size = k ∧ Hid (∀ c ∈ q.data.toList, isDig c) ∧
      Hid (dval q.data.toList * n + r = dval (A.take k)) ∧ r < n ∧ Below w.heap.size w wr) (fun _ _ i _ => A.length - (intOf i).toNat)
  case atStart => exact ⟨0, ⟨#[]⟩, 0, rfl, by rw [HZ.out], rfl, Nat.zero_le _, rfl, Lib.hid (by intro c hc; simp at hc), Lib.hid (by simp [dval]), by have := HN.out; omega, Below.refl _ _⟩
  case round =>
    obtain ⟨k, q, r, rfl, rfl, rfl, hk, hq, hqd, hqv, hr, hb⟩ := hrel
    by_cases hlt : k < A.length
    · have hkx : k < x.size := by omega
      have hr1 := HLN.out r hr
      obtain ⟨d, hd⟩ : ∃ d, d = dg (A[k]) := ⟨_, rfl⟩
      have hd9 : d ≤ 9 := by rw [hd]; exact dg_le (HD.out.2 _ (List.getElem_mem hlt))
      have hxe := ext_at x k hkx
      have hxe2 : (x.extract k (k + 1)).size = 1 := by rw [ba_size, hxe]; rfl
      obtain ⟨y, hy⟩ : ∃ y, y = dI r ++ x.extract k (k + 1) := ⟨_, rfl⟩
      have hyl : y.data.toList = Lib.decDigits r ++ [A[k]] := by
        rw [hy, Joins.data_append, dI_list, hxe]
        congr 2; simp only [HD.out.1]
      have HY1 := Lib.hid (show y.size ≤ 1000000 by rw [ba_size, hyl, List.length_append, ← dI_size]; simp; omega)
      have HY2 := Lib.hid (show y.data.toList ≠ [] by rw [hyl]; simp)
      have HY3 := Lib.hid (show ∀ c ∈ y.data.toList, isDig c by
        rw [hyl]; intro c hc
        rcases List.mem_append.1 hc with hc | hc
        · exact dig_isDig r c hc
        · rw [List.mem_singleton.1 hc]; exact HD.out.2 _ (List.getElem_mem hlt))
      have HY4 := Lib.hid (show dval y.data.toList = 10 * r + d by
        rw [hyl, dval_append, dval_dec, dval_single, hd]; simp [dg]; omega)
      have HT := Lib.hid (show dval (A.take (k + 1)) = 10 * dval (A.take k) + d by rw [hd]; exact dval_take A k hlt)
      have hyy : dI r ++ x.extract k (k + 1) = y := hy.symm
      clear hd hxe hyl hy
      go_wp2_with fail
      refine (bare_any y _ HY1.out HY2.out HY3.out).mono ?_
      rintro e w4 ⟨rfl, rfl⟩
      rw [HY4.out]
      go_wp2_with fail
      go_loopw [7, 9] (fun rv dv wr => ∃ (e s : Nat), rv = .string (dI s) ∧ dv = .int .u8 (48 + (e : Int)) ∧ e ≤ 9 ∧ Hid (s + e * n = 10 * r + d) ∧ (dI s).size ≤ 100002 ∧ Below w.heap.size w wr)
        (fun _ dv _ => (58 - intOf dv).toNat)
      case atStart =>
        have hd1 := (dec_len_le d 1 (by omega)).2 (by omega)
        refine ⟨0, _, rfl, rfl, by omega, Lib.hid (by omega), ?_, hb⟩
        rw [← HY4.out]
        have h5 := HY1.out
        by_cases h0 : dval y.data.toList = 0
        · rw [h0, dI_size, dec_zero]; simp
        · have h6 := (dec_len_le (dval y.data.toList) 100002 (by omega)).2
          rw [dI_size]
          apply h6
          have h7 := dval_lt y.data.toList HY3.out
          refine Nat.lt_of_lt_of_le h7 (Nat.pow_le_pow_right (by omega) ?_)
          rw [← ba_size, ← hyy]
          show (dI r ++ x.extract k (k + 1)).size ≤ _
          rw [ByteArray.size_append]; omega
      case round =>
        obtain ⟨e, s, rfl, rfl, he, hes, hss, hb2⟩ := hrel
        by_cases hsn : s < n
        · have HTT := Lib.hid (decide_eq_true hsn)
          have HP := Lib.hid (rdiv_step _ _ _ _ _ _ _ hqv.out hes.out)
          go_wp2_with fail
          refine (rless_any s n _).mono ?_
          rintro e w5 ⟨rfl, rfl⟩
          rw [HTT.out]
          have hcv := fun W => one_digit W e (by omega)
          have HQ := Lib.hid (show ∃ (k' : Nat) (q' : ByteArray) (r' : Nat), Value.string (q ++ ⟨#[gd e]⟩) = .string q' ∧ Value.string (dI s) = .string (dI r') ∧ Value.int .i64 ((k : Int) + 1) = .int .i64 k' ∧ k' ≤ A.length ∧ q'.size = k' ∧
              Hid (∀ c ∈ q'.data.toList, isDig c) ∧ Hid (dval q'.data.toList * n + r' = dval (A.take k')) ∧ r' < n by
            refine ⟨k + 1, _, s, rfl, rfl, by simp, by omega, ?_, Lib.hid ?_, Lib.hid ?_, hsn⟩
            · rw [ByteArray.size_append, hq]; rfl
            · rw [Joins.data_append]; intro c hc
              rcases List.mem_append.1 hc with hc | hc
              · exact hqd.out c hc
              · rw [List.mem_singleton.1 hc]; exact gd_isDig (by omega)
            · rw [Joins.data_append, HT.out, dval_append, show (ByteArray.mk #[gd e]).data.toList = [gd e] from rfl, dval_single, gd_toNat (by omega)]
              have := HP.out
              rw [show dval q.data.toList * 10 ^ [gd e].length + (48 + e - 48) = 10 * dval q.data.toList + e by simp; omega]; exact this)
          have HBW := Lib.hid (fun c => hb2.alloc hb2.size c)
          go_wp2_with fail
          obtain ⟨k', q', r', e1, e2, e3, e4, e5, e6, e7, e8⟩ := HQ.out
          exact ⟨⟨k', q', r', e1, e2, e3, e4, e5, e6, e7, e8, HBW.out _⟩, by simp [intOf]; omega⟩
        · have HTT := Lib.hid (decide_eq_false hsn)
          have he9 := rdiv_lt n r d e s hr hd9 hes.out (by omega)
          have HP := Lib.hid (rdiv_sub n r d e s hes.out (by omega))
          have HL := Lib.hid (Nat.le_trans (dI_le (Nat.sub_le s n)) hss)
          have HG : n ≤ s := by omega
          go_wp2_with fail
          refine (rless_any s n _).mono ?_
          rintro e w5 ⟨rfl, rfl⟩
          rw [HTT.out]
          go_wp2_with fail
          refine (paper_any s n (s - n) false _ (Or.inr ⟨rfl, HG, rfl⟩) (by omega) (by omega)).mono ?_
          rintro e w6 ⟨rfl, hb6⟩
          go_wp2_with fail
          exact ⟨⟨e + 1, s - n, rfl, by simp; omega, by omega, HP, HL.out, hb2.trans (hb6.mono hb2.size)⟩, by simp [intOf]; omega⟩
    · have hkl : k = A.length := by omega
      have HV := Lib.hid (show dval q.data.toList = m / n ∧ r = m % n by
        have h5 := hqv.out
        rw [hkl, List.take_length, HX.out] at h5
        rw [← h5, Nat.mul_comm]
        constructor
        · rw [Nat.mul_add_div (by omega), Nat.div_eq_of_lt hr]; rfl
        · rw [Nat.mul_add_mod, Nat.mod_eq_of_lt hr])
      go_wp2_with fail
      refine (bare_any q _ (by omega) (by intro h; rw [ba_size, h] at hq; simp at hq; omega) hqd.out).mono ?_
      rintro e w4 ⟨rfl, rfl⟩
      go_wp2_with fail
      go_ret2
      exact ⟨by rw [HV.out.1, HV.out.2]; rfl, hb⟩
end Go.Proofs.YtbdckemkmocdlaaGreatDoor

/- metrolabref01: Of, number, brief, Turned. -/
namespace Go.Proofs.YtbdckemkmocdlaaGreatDoor
open Go.RowKit

attribute [local irreducible] sI

/-- at most so many digits -/
def Lg (k : Nat) (n : Int) : Prop := (Lib.decDigits n.natAbs).length ≤ k
theorem Lg.dI {k : Nat} {n : Int} (h : Lg k n) : (dI n.natAbs).size ≤ k := by rw [dI_size]; exact h
theorem Lg.sI {k : Nat} {n : Int} (h : Lg k n) : (sI n).size ≤ k + 1 := by
  unfold Lg at h
  rw [ba_size, sI_list]
  by_cases hn : n < 0
  · rw [itoa_neg hn]; simp; exact h
  · rw [itoa_nonneg (by omega), show n.toNat = n.natAbs by omega]; omega
theorem Lg.mono {a b : Nat} {n : Int} (h : Lg a n) (hab : a ≤ b) : Lg b n := Nat.le_trans h hab
theorem Lg.neg {a : Nat} {n : Int} (h : Lg a n) : Lg a (-n) := by unfold Lg; rw [Int.natAbs_neg]; exact h
theorem Lg.le {a : Nat} {m n : Int} (h : Lg a n) (hmn : m.natAbs ≤ n.natAbs) : Lg a m := by
  have := dI_le hmn
  rw [dI_size, dI_size] at this
  exact Nat.le_trans this h
theorem Lg.pos {a : Nat} {n : Int} (h : Lg a n) : 0 < a := Nat.lt_of_lt_of_le (dec_len_pos n.natAbs) h
theorem lg_iff {a : Nat} {n : Int} (ha : 0 < a) : Lg a n ↔ n.natAbs < 10 ^ a := dec_len_le n.natAbs a ha
theorem Lg.mul {a b : Nat} {m n : Int} (hm : Lg a m) (hn : Lg b n) : Lg (a + b) (m * n) := by
  have h1 := (lg_iff hm.pos).1 hm
  have h2 := (lg_iff hn.pos).1 hn
  rw [lg_iff (by have := hm.pos; omega), Int.natAbs_mul, Nat.pow_add]
  exact Nat.mul_lt_mul'' h1 h2
theorem Lg.add {a : Nat} {m n : Int} (hm : Lg a m) (hn : Lg a n) : Lg (a + 1) (m + n) := by
  have h1 := (lg_iff hm.pos).1 hm
  have h2 := (lg_iff hn.pos).1 hn
  rw [lg_iff (by omega), Nat.pow_succ]
  have := Int.natAbs_add_le m n
  omega
theorem Lg.sub {a : Nat} {m n : Int} (hm : Lg a m) (hn : Lg a n) : Lg (a + 1) (m - n) := by rw [Int.sub_eq_add_neg]; exact hm.add hn.neg

theorem dec_split (v : Nat) (h : ¬ v < 10) : Lib.decDigits v = Lib.decDigits (v / 10) ++ [gd (v % 10)] := by
  conv => lhs; rw [Lib.decDigits, dif_neg h]
  rfl
theorem dec_one (v : Nat) (h : v < 10) : Lib.decDigits v = [gd v] := by rw [Lib.decDigits, dif_pos h]; rfl

set_option maxRecDepth 100000 in
set_option maxHeartbeats 2000000 in
theorem rof_nat (n : Nat) (w : World) (h : n ≤ 4611686018427387904) : Calls Tryz.prog 62 #[.int .i64 n] w fun e w' => e = .returned (.string (sI n)) ∧ Below w.heap.size w w' := by
  have hne : 0 < n → ((n : Int) == -(n : Int)) = false := by intro h; simp; omega
  by_cases h0 : 0 < n
  · have t := hne h0
    clear hne
    go_enter Tryz.func62, Tryz.ntmps62
    go_wp2_with fail
    go_loopw [0, 3] (fun nv sv wr => ∃ (v : Nat) (s : ByteArray), nv = .int .i64 v ∧ sv = .string s ∧ v ≤ 4611686018427387904 ∧ s.size ≤ 20 ∧ Hid (Lib.decDigits n = Lib.decDigits v ++ s.data.toList) ∧ Below w.heap.size w wr) (fun nv _ _ => (intOf nv).toNat)
    case atStart => exact ⟨n, ⟨#[]⟩, rfl, rfl, h, by decide, Lib.hid (by simp), Below.refl _ _⟩
    case round =>
      obtain ⟨v, s, rfl, rfl, hv, hs, hd, hb⟩ := hrel
      have hlen := congrArg List.length hd.out
      rw [List.length_append, ← ba_size] at hlen
      have hl19 := (dec_len_le n 19 (by omega)).2 (by omega)
      have hlv := dec_len_pos v
      by_cases h9 : v < 10
      · have HE := Lib.hid (show (⟨#[gd v]⟩ : ByteArray) ++ s = sI n from sI_of (by rw [Joins.data_append, itoa_nat, hd.out, dec_one v h9]))
        have hcv := fun W => one_digit W v h9
        have HB := Lib.hid (fun c => hb.alloc hb.size c)
        clear hlen hl19 hlv
        go_wp2_with fail
        go_ret
        exact ⟨ret_ba HE.out, HB.out _⟩
      · have er : ((v : Nat) : Int).tmod 10 = ((v % 10 : Nat) : Int) := by rw [Int.tmod_eq_emod_of_nonneg (by omega)]; rfl
        have eq : ((v : Nat) : Int).tdiv 10 = ((v / 10 : Nat) : Int) := rfl
        have hd10 : v % 10 < 10 := by omega
        have hqv : v / 10 < v := by omega
        have HS := Lib.hid (show Lib.decDigits n = Lib.decDigits (v / 10) ++ ((⟨#[gd (v % 10)]⟩ : ByteArray) ++ s).data.toList by rw [Joins.data_append, hd.out, dec_split v h9, List.append_assoc])
        have HL := Lib.hid (show ((⟨#[gd (v % 10)]⟩ : ByteArray) ++ s).size ≤ 20 by rw [ByteArray.size_append, show (ByteArray.mk #[gd (v % 10)]).size = 1 from rfl]; omega)
        generalize v % 10 = d at *
        generalize v / 10 = q at *
        have hcv := fun W => one_digit W d hd10
        have HB := Lib.hid (fun c => hb.alloc hb.size c)
        clear hlen hl19 hlv
        go_wp2_with fail
        exact ⟨⟨q, _, rfl, rfl, by omega, HL.out, HS, HB.out _⟩, by simp [intOf]; omega⟩
  · have h00 : n = 0 := by omega
    subst h00
    clear hne
    go_enter Tryz.func62, Tryz.ntmps62
    go_wp2_with fail
    go_loopw [0, 3] (fun nv sv wr => nv = .int .i64 0 ∧ sv = .string ⟨#[]⟩ ∧ w = wr) (fun nv _ _ => (intOf nv).toNat)
    case atStart => exact ⟨rfl, rfl, rfl⟩
    case round =>
      obtain ⟨rfl, rfl, rfl⟩ := hrel
      have hcv : ∀ W : World, (convert 131 9 (.slice (some ⟨W.heap.size, 0, none⟩) 1 1)).run Tryz.prog (W.alloc (.cells #[.int .u8 48] 5 (0, 0))) = .ok (.string ⟨#[gd 0]⟩) (W.alloc (.cells #[.int .u8 48] 5 (0, 0))) := fun W => one_digit W 0 (by omega)
      have HE := Lib.hid (show (⟨#[gd 0]⟩ : ByteArray) ++ ⟨#[]⟩ = sI (0 : Nat) from sI_of (by rw [Joins.data_append, itoa_nat, dec_one 0 (by omega)]; rfl))
      have HB := Lib.hid (fun c => (Below.refl w.heap.size w).alloc (Nat.le_refl _) c)
      go_wp2_with fail
      go_ret
      exact ⟨ret_ba HE.out, HB.out _⟩

/-- a number is read -/
theorem take_acc (A : List UInt8) (k : Nat) (h : k < A.length) (hd : ∀ c ∈ A, isDig c) : dval (A.take k) < 10 ^ k ∧ dval (A.take (k + 1)) = 10 * dval (A.take k) + dg A[k] := by
  refine ⟨?_, dval_take A k h⟩
  have := dval_lt (A.take k) (fun c hc => hd c (List.mem_of_mem_take hc))
  rwa [List.length_take, Nat.min_eq_left (Nat.le_of_lt h)] at this

set_option maxRecDepth 100000 in
set_option maxHeartbeats 2000000 in
theorem rnumber_any (n : Int) (w : World) (h : Lg 18 n) : Calls Tryz.prog 128 #[.string (sI n)] w fun e w' => e = .returned (.int .i64 n) ∧ w = w' := by
  have hsz : (sI n).size ≤ 1000000 := by have := h.sI; omega
  have hD := dig_dI n.natAbs
  have hx : dval (Lib.decDigits n.natAbs) = n.natAbs := dval_dec _
  have hl : (dI n.natAbs).size = (Lib.decDigits n.natAbs).length := dI_size _
  have hl18 : (Lib.decDigits n.natAbs).length ≤ 18 := h
  have HSZ := Lib.hid (fun W => rsize_sI n W hsz)
  have hn18 := (lg_iff (by omega)).1 h
  generalize Lib.decDigits n.natAbs = A at *
  generalize dI n.natAbs = x at *
  have HD := Lib.hid hD
  have HX := Lib.hid hx
  clear hD hx h
  go_enter Tryz.func128, Tryz.ntmps128
  go_wp2_with fail
  refine (HSZ.out _).mono ?_
  rintro e w1 ⟨rfl, rfl⟩
  go_wp2_with fail
  go_loopw [3, 5] (fun av iv wr => ∃ (k a : Nat), av = .int .i64 a ∧ iv = .int .i64 k ∧ k ≤ A.length ∧ Hid (a = dval (A.take k)) ∧ wr = w) (fun _ i _ => A.length - (intOf i).toNat)
  case atStart => exact ⟨0, 0, rfl, rfl, Nat.zero_le _, Lib.hid (by simp [dval]), rfl⟩
  case round =>
    obtain ⟨k, a, rfl, rfl, hk, ha, rfl⟩ := hrel
    by_cases hlt : k < A.length
    · have hkx : k < x.size := by omega
      obtain ⟨al, a1, a2, a3⟩ := HD.out.at hkx
      obtain ⟨t1, t2⟩ := take_acc A k hlt HD.out.2
      rw [← ha.out] at t1 t2
      have t3 : 10 ^ k ≤ 10 ^ 17 := Nat.pow_le_pow_right (by omega) (by omega)
      have ha17 : a ≤ 100000000000000000 := by omega
      have HA := Lib.hid (show (10 * (a : Int) + (((x[k].toNat : Nat) : Int) - 48)) = ((dval (A.take (k + 1)) : Nat) : Int) by rw [t2, a1]; simp)
      clear t1 t2 t3 a1 hn18
      go_wp2_with fail
      exact ⟨⟨k + 1, _, by rw [HA.out], by simp, by omega, Lib.hid rfl, trivial⟩, by simp [intOf]; omega⟩
    · have HA := Lib.hid (show a = n.natAbs by
        have e : k = A.length := by omega
        rw [ha.out, e, List.take_length, HX.out])
      by_cases hn : n < 0
      · have HT := Lib.hid (decide_eq_true hn)
        have HV := Lib.hid (show -(a : Int) = n by rw [HA.out]; omega)
        have ha18 : a < 1000000000000000000 := by rw [HA.out]; exact hn18
        clear hn18
        go_wp2_with fail
        refine (rbelow_sI n _).mono ?_
        rintro e w1 ⟨rfl, rfl⟩
        rw [HT.out]
        go_wp2_with fail
        go_ret
        exact ⟨ret_int HV.out, rfl⟩
      · have HT := Lib.hid (decide_eq_false hn)
        have HV := Lib.hid (show (a : Int) = n by rw [HA.out]; omega)
        clear hn18
        go_wp2_with fail
        refine (rbelow_sI n _).mono ?_
        rintro e w1 ⟨rfl, rfl⟩
        rw [HT.out]
        go_wp2_with fail
        go_ret
        exact ⟨ret_int HV.out, rfl⟩

set_option maxRecDepth 100000 in
set_option maxHeartbeats 2000000 in
theorem rturned_any (n : Int) (w : World) (h : Lg 900000 n) : Calls Tryz.prog 92 #[.string (sI n)] w fun e w' => e = .returned (.string (sI (-n))) ∧ w = w' := by
  have hsz : (sI n).size ≤ 1000000 := by have := h.sI; omega
  have HV := Lib.hid (show sI (sv (!decide (n < 0)) n.natAbs) = sI (-n) by
    congr 1; unfold sv; by_cases hn : n < 0
    · simp [hn]; omega
    · simp [hn]; omega)
  have HL := Lib.hid (show (dI n.natAbs).size ≤ 1000000 by have := h.dI; omega)
  have HD := Lib.hid (show ∀ b, (!decide (n < 0)) = b → sI (sv b n.natAbs) = sI (-n) by rintro b rfl; exact HV.out)
  go_enter Tryz.func92, Tryz.ntmps92
  go_wp2_with fail
  refine (rsize_sI n _ hsz).mono ?_
  rintro e w1 ⟨rfl, rfl⟩
  go_wp2_with fail
  refine (rbelow_sI n _).mono ?_
  rintro e w1 ⟨rfl, rfl⟩
  generalize decide (n < 0) = b at *
  go_wp2_with fail
  refine (signed_any _ (!b) _ HL.out).mono ?_
  rintro e w1 ⟨rfl, rfl⟩
  go_wp2_with fail
  go_ret
  exact ⟨ret_ba HV.out, rfl⟩

set_option maxRecDepth 100000 in
set_option maxHeartbeats 2000000 in
theorem rof_any (n : Int) (w : World) (h1 : -4611686018427387904 ≤ n) (h2 : n ≤ 4611686018427387904) : Calls Tryz.prog 62 #[.int .i64 n] w fun e w' => e = .returned (.string (sI n)) ∧ Below w.heap.size w w' := by
  by_cases hn : 0 ≤ n
  · obtain ⟨k, rfl⟩ : ∃ k : Nat, n = k := ⟨n.toNat, by omega⟩
    exact rof_nat k w (by omega)
  · obtain ⟨k, hk⟩ : ∃ k : Nat, -n = k := ⟨(-n).toNat, by omega⟩
    have t : (n == -n) = false := by simp; omega
    have HK := Lib.hid (rof_nat k)
    have HV := Lib.hid (show sI (-(k : Int)) = sI n by congr 1; omega)
    have HL := Lib.hid (show Lg 900000 (k : Int) from (show Lg 19 (k : Int) from (lg_iff (by omega)).2 (by omega)).mono (by omega))
    go_enter Tryz.func62, Tryz.ntmps62
    go_wp2_with fail
    refine (HK.out _ (by omega)).mono ?_
    rintro e w1 ⟨rfl, hb1⟩
    go_wp2_with fail
    refine (rturned_any _ _ HL.out).mono ?_
    rintro e w1 ⟨rfl, rfl⟩
    go_wp2_with fail
    go_ret
    exact ⟨ret_ba HV.out, hb1⟩

set_option maxRecDepth 100000 in
set_option maxHeartbeats 2000000 in
theorem rbrief_yes (m n : Int) (w : World) (hm : Lg 18 m) (hn : Lg 18 n) : Calls Tryz.prog 94 #[.string (sI m), .string (sI n)] w fun e w' => e = .returned (.tuple #[.int .i64 m, .int .i64 n, .bool true]) ∧ w = w' := by
  have m1 := hm.dI
  have n1 := hn.dI
  have hm2 := hm.sI
  have hn2 := hn.sI
  go_enter Tryz.func94, Tryz.ntmps94
  go_wp2_with fail
  refine (rsize_sI m _ (by omega)).mono ?_
  rintro e w1 ⟨rfl, rfl⟩
  go_wp2_with fail
  refine (rsize_sI n _ (by omega)).mono ?_
  rintro e w1 ⟨rfl, rfl⟩
  go_wp2_with fail
  refine (rnumber_any m _ hm).mono ?_
  rintro e w1 ⟨rfl, rfl⟩
  go_wp2_with fail
  refine (rnumber_any n _ hn).mono ?_
  rintro e w1 ⟨rfl, rfl⟩
  go_wp2_with fail
  go_ret3
  exact ⟨rfl, rfl⟩

set_option maxRecDepth 100000 in
set_option maxHeartbeats 2000000 in
theorem rbrief_no (m n : Int) (w : World) (hm : Lg 900000 m) (hn : Lg 900000 n) (h : ¬ (Lg 18 m ∧ Lg 18 n)) : Calls Tryz.prog 94 #[.string (sI m), .string (sI n)] w fun e w' => e = .returned (.tuple #[.int .i64 0, .int .i64 0, .bool false]) ∧ w = w' := by
  have hm2 := hm.sI
  have hn2 := hn.sI
  by_cases h1 : Lg 18 m
  · have m1 := h1.dI
    have n1 : 18 < (dI n.natAbs).size := by
      rw [dI_size]; apply Classical.byContradiction; intro hc; exact h ⟨h1, Nat.le_of_not_lt hc⟩
    clear h h1 hm hn
    go_enter Tryz.func94, Tryz.ntmps94
    go_wp2_with fail
    refine (rsize_sI m _ (by omega)).mono ?_
    rintro e w1 ⟨rfl, rfl⟩
    go_wp2_with fail
    refine (rsize_sI n _ (by omega)).mono ?_
    rintro e w1 ⟨rfl, rfl⟩
    go_wp2_with fail
    go_ret3
    exact ⟨rfl, rfl⟩
  · have m1 : 18 < (dI m.natAbs).size := by
      rw [dI_size]; apply Classical.byContradiction; intro hc; exact h1 (Nat.le_of_not_lt hc)
    clear h h1 hm hn
    go_enter Tryz.func94, Tryz.ntmps94
    go_wp2_with fail
    refine (rsize_sI m _ (by omega)).mono ?_
    rintro e w1 ⟨rfl, rfl⟩
    go_wp2_with fail
    go_ret3
    exact ⟨rfl, rfl⟩
end Go.Proofs.YtbdckemkmocdlaaGreatDoor

/- metrolabref01: Plus, Minus, Times, Order. -/
namespace Go.Proofs.YtbdckemkmocdlaaGreatDoor
open Go.RowKit

attribute [local irreducible] sI

theorem sv_same {m n : Int} (h : decide (m < 0) = decide (n < 0)) : sv (decide (m < 0)) (m.natAbs + n.natAbs) = m + n := by
  rw [decide_eq_decide] at h
  unfold sv; by_cases hm : m < 0
  · have := h.1 hm; simp [hm]; omega
  · have := mt h.2 hm; simp [hm]; omega
theorem sv_left {m n : Int} (h : ¬ decide (m < 0) = decide (n < 0)) (hl : ¬ m.natAbs < n.natAbs) : sv (decide (m < 0)) (m.natAbs - n.natAbs) = m + n := by
  rw [decide_eq_decide] at h
  unfold sv; by_cases hm : m < 0
  · have : ¬ n < 0 := fun hn => h ⟨fun _ => hn, fun _ => hm⟩
    simp [hm]; omega
  · have : n < 0 := Classical.byContradiction fun hn => h ⟨fun x => absurd x hm, fun x => absurd x hn⟩
    simp [hm]; omega
theorem sv_right {m n : Int} (h : ¬ decide (m < 0) = decide (n < 0)) (hl : m.natAbs < n.natAbs) : sv (decide (n < 0)) (n.natAbs - m.natAbs) = m + n := by
  rw [Int.add_comm]; exact sv_left (fun e => h e.symm) (by omega)

set_option maxRecDepth 100000 in
set_option maxHeartbeats 4000000 in
theorem rplus_big (m n : Int) (w : World) (hm : Lg 40000 m) (hn : Lg 40000 n) (hb : ¬ (Lg 18 m ∧ Lg 18 n)) :
    Calls Tryz.prog 61 #[.string (sI m), .string (sI n)] w fun e w' => e = .returned (.string (sI (m + n))) ∧ Below w.heap.size w w' := by
  have m1 := hm.dI
  have n1 := hn.dI
  have m2 := hm.sI
  have n2 := hn.sI
  have HB := Lib.hid hb
  have HM := Lib.hid hm
  have HN := Lib.hid hn
  have VS := Lib.hid (@sv_same m n)
  have VL := Lib.hid (@sv_left m n)
  have VR := Lib.hid (@sv_right m n)
  have hs1 : (dI (m.natAbs + n.natAbs)).size ≤ 40001 := by
    have := (hm.add hn).dI
    have h2 : Lg 40001 ((m.natAbs + n.natAbs : Nat) : Int) := by
      have h3 := (show Lg 40000 (m.natAbs : Int) from hm).add (show Lg 40000 (n.natAbs : Int) from hn)
      exact h3
    exact h2.dI
  have hs2 : (dI (m.natAbs - n.natAbs)).size ≤ 40001 := Nat.le_trans (dI_le (Nat.sub_le _ _)) (by omega)
  have hs3 : (dI (n.natAbs - m.natAbs)).size ≤ 40001 := Nat.le_trans (dI_le (Nat.sub_le _ _)) (by omega)
  have HB1 := Lib.hid (fun W => rbelow_sI m W)
  have HB2 := Lib.hid (fun W => rbelow_sI n W)
  have HS1 := Lib.hid (fun W => rsize_sI m W (by omega))
  have HS2 := Lib.hid (fun W => rsize_sI n W (by omega))
  clear hm hn hb
  go_enter Tryz.func61, Tryz.ntmps61
  go_wp2_with fail
  refine (rbrief_no m n _ (HM.out.mono (by omega)) (HN.out.mono (by omega)) HB.out).mono ?_
  rintro e w1 ⟨rfl, rfl⟩
  clear HM HN HB
  generalize decide (m < 0) = a at *
  generalize decide (n < 0) = b at *
  generalize m.natAbs = p at *
  generalize n.natAbs = q at *
  go_wp2_with fail
  refine (HS1.out _).mono ?_
  rintro e w1 ⟨rfl, rfl⟩
  go_wp2_with fail
  refine (HS2.out _).mono ?_
  rintro e w1 ⟨rfl, rfl⟩
  go_wp2_with fail
  refine (HB1.out _).mono ?_
  rintro e w1 ⟨rfl, rfl⟩
  go_wp2_with fail
  refine (HB2.out _).mono ?_
  rintro e w1 ⟨rfl, rfl⟩
  by_cases hab : a = b
  · have HV := Lib.hid (VS.out hab)
    subst hab
    go_wp2_with fail
    refine (paper_any p q (p + q) true _ (Or.inl ⟨rfl, rfl⟩) (by omega) (by omega)).mono ?_
    rintro e w2 ⟨rfl, hb2⟩
    go_wp2_with fail
    refine (HB1.out _).mono ?_
    rintro e w3 ⟨rfl, rfl⟩
    go_wp2_with fail
    refine (signed_any _ _ _ (by omega)).mono ?_
    rintro e w3 ⟨rfl, rfl⟩
    go_wp2_with fail
    go_ret
    exact ⟨by rw [← HV.out]; rfl, hb2⟩
  · have hab2 : (a == b) = false := by simpa using hab
    by_cases hpq : p < q
    · have HV := Lib.hid (VR.out hab hpq)
      have HT := Lib.hid (decide_eq_true hpq)
      clear hab
      go_wp2_with fail
      refine (rless_any p q _).mono ?_
      rintro e w2 ⟨rfl, rfl⟩
      rw [HT.out]
      go_wp2_with fail
      refine (paper_any q p (q - p) false _ (Or.inr ⟨rfl, by omega, rfl⟩) (by omega) (by omega)).mono ?_
      rintro e w2 ⟨rfl, hb2⟩
      go_wp2_with fail
      refine (HB2.out _).mono ?_
      rintro e w3 ⟨rfl, rfl⟩
      go_wp2_with fail
      refine (signed_any _ _ _ (by omega)).mono ?_
      rintro e w3 ⟨rfl, rfl⟩
      go_wp2_with fail
      go_ret
      exact ⟨by rw [← HV.out]; rfl, hb2⟩
    · have HV := Lib.hid (VL.out hab hpq)
      have HT := Lib.hid (decide_eq_false hpq)
      clear hab
      go_wp2_with fail
      refine (rless_any p q _).mono ?_
      rintro e w2 ⟨rfl, rfl⟩
      rw [HT.out]
      go_wp2_with fail
      refine (paper_any p q (p - q) false _ (Or.inr ⟨rfl, by omega, rfl⟩) (by omega) (by omega)).mono ?_
      rintro e w2 ⟨rfl, hb2⟩
      go_wp2_with fail
      refine (HB1.out _).mono ?_
      rintro e w3 ⟨rfl, rfl⟩
      go_wp2_with fail
      refine (signed_any _ _ _ (by omega)).mono ?_
      rintro e w3 ⟨rfl, rfl⟩
      go_wp2_with fail
      go_ret
      exact ⟨by rw [← HV.out]; rfl, hb2⟩

theorem lg18 {n : Int} (h : Lg 18 n) : -1000000000000000000 < n ∧ n < 1000000000000000000 := by
  have := (lg_iff (by omega)).1 h; omega

set_option maxRecDepth 100000 in
set_option maxHeartbeats 4000000 in
theorem rplus_small (m n : Int) (w : World) (hm : Lg 18 m) (hn : Lg 18 n) :
    Calls Tryz.prog 61 #[.string (sI m), .string (sI n)] w fun e w' => e = .returned (.string (sI (m + n))) ∧ Below w.heap.size w w' := by
  obtain ⟨m1, m2⟩ := lg18 hm
  obtain ⟨n1, n2⟩ := lg18 hn
  have HM := Lib.hid hm
  have HN := Lib.hid hn
  clear hm hn
  go_enter Tryz.func61, Tryz.ntmps61
  go_wp2_with fail
  refine (rbrief_yes m n _ HM.out HN.out).mono ?_
  rintro e w1 ⟨rfl, rfl⟩
  go_wp2_with fail
  refine (rof_any (m + n) _ (by omega) (by omega)).mono ?_
  rintro e w1 ⟨rfl, hb1⟩
  go_wp2_with fail
  go_ret
  exact ⟨rfl, hb1⟩

theorem rplus_any (m n : Int) (w : World) (hm : Lg 40000 m) (hn : Lg 40000 n) :
    Calls Tryz.prog 61 #[.string (sI m), .string (sI n)] w fun e w' => e = .returned (.string (sI (m + n))) ∧ Below w.heap.size w w' := by
  by_cases h : Lg 18 m ∧ Lg 18 n
  · exact rplus_small m n w h.1 h.2
  · exact rplus_big m n w hm hn h

set_option maxRecDepth 100000 in
set_option maxHeartbeats 4000000 in
theorem rminus_any (m n : Int) (w : World) (hm : Lg 40000 m) (hn : Lg 40000 n) :
    Calls Tryz.prog 118 #[.string (sI m), .string (sI n)] w fun e w' => e = .returned (.string (sI (m - n))) ∧ Below w.heap.size w w' := by
  have HV := Lib.hid (show sI (m + -n) = sI (m - n) by rw [Int.sub_eq_add_neg])
  go_enter Tryz.func118, Tryz.ntmps118
  go_wp2_with fail
  refine (rturned_any n _ (hn.mono (by omega))).mono ?_
  rintro e w1 ⟨rfl, rfl⟩
  go_wp2_with fail
  refine (rplus_any m (-n) _ hm hn.neg).mono ?_
  rintro e w1 ⟨rfl, hb1⟩
  go_wp2_with fail
  go_ret
  exact ⟨ret_ba HV.out, hb1⟩

set_option maxRecDepth 100000 in
set_option maxHeartbeats 4000000 in
theorem rorder_any (m n : Int) (w : World) (hm : Lg 40000 m) (hn : Lg 40000 n) :
    Calls Tryz.prog 76 #[.string (sI m), .string (sI n)] w fun e w' => e = .returned (.int .i64 (sgn (m - n))) ∧ Below w.heap.size w w' := by
  have hz := sI_eq_zero (m - n)
  have HC := Lib.hid (sgn_cases (m - n))
  by_cases h0 : m - n = 0
  · rw [decide_eq_true h0] at hz
    have HV := Lib.hid (show sgn (m - n) = 0 by have := HC.out; omega)
    clear h0
    go_enter Tryz.func76, Tryz.ntmps76
    go_wp2_with fail
    refine (rminus_any m n _ hm hn).mono ?_
    rintro e w1 ⟨rfl, hb1⟩
    go_wp2_with fail
    go_ret
    exact ⟨ret_int HV.out.symm, hb1⟩
  · rw [decide_eq_false h0] at hz
    by_cases hn0 : m - n < 0
    · have HT := Lib.hid (decide_eq_true hn0)
      have HV := Lib.hid (show sgn (m - n) = -1 by have := HC.out; omega)
      clear h0 hn0
      go_enter Tryz.func76, Tryz.ntmps76
      go_wp2_with fail
      refine (rminus_any m n _ hm hn).mono ?_
      rintro e w1 ⟨rfl, hb1⟩
      go_wp2_with fail
      refine (rbelow_sI _ _).mono ?_
      rintro e w2 ⟨rfl, rfl⟩
      rw [HT.out]
      go_wp2_with fail
      go_ret
      exact ⟨ret_int HV.out.symm, hb1⟩
    · have HT := Lib.hid (decide_eq_false hn0)
      have HV := Lib.hid (show sgn (m - n) = 1 by have := HC.out; omega)
      clear h0 hn0
      go_enter Tryz.func76, Tryz.ntmps76
      go_wp2_with fail
      refine (rminus_any m n _ hm hn).mono ?_
      rintro e w1 ⟨rfl, hb1⟩
      go_wp2_with fail
      refine (rbelow_sI _ _).mono ?_
      rintro e w2 ⟨rfl, rfl⟩
      rw [HT.out]
      go_wp2_with fail
      go_ret
      exact ⟨ret_int HV.out.symm, hb1⟩

theorem sv_mul (m n : Int) : sv (decide (m < 0) != decide (n < 0)) (m.natAbs * n.natAbs) = m * n := by
  unfold sv
  rw [← Int.natAbs_mul]
  rcases Int.lt_trichotomy m 0 with h1 | h1 | h1 <;> rcases Int.lt_trichotomy n 0 with h2 | h2 | h2
  · have := Int.mul_pos_of_neg_of_neg h1 h2
    simp [h1, h2]; omega
  · subst h2; simp
  · have := Int.mul_neg_of_neg_of_pos h1 h2
    have h3 : ¬ n < 0 := by omega
    simp [h1, h3]; omega
  · subst h1; simp
  · subst h1; simp
  · subst h1; simp
  · have := Int.mul_neg_of_pos_of_neg h1 h2
    have h3 : ¬ m < 0 := by omega
    simp [h2, h3]; omega
  · subst h2; simp
  · have := Int.mul_pos h1 h2
    have h3 : ¬ m < 0 := by omega
    have h4 : ¬ n < 0 := by omega
    simp [h3, h4]; omega
end Go.Proofs.YtbdckemkmocdlaaGreatDoor

/- metrolabref01: Times, Parted, Shared. -/
namespace Go.Proofs.YtbdckemkmocdlaaGreatDoor
open Go.RowKit

attribute [local irreducible] sI

theorem sI_len (n : Int) : (Lib.decDigits n.natAbs).length ≤ (sI n).size := by
  rw [ba_size, sI_list]
  by_cases hn : n < 0
  · rw [itoa_neg hn]; simp
  · rw [itoa_nonneg (by omega), show n.toNat = n.natAbs by omega]; omega

theorem mul_short {m n : Int} (h : (sI m).size + (sI n).size ≤ 18) : -1000000000000000000 < m * n ∧ m * n < 1000000000000000000 := by
  have h1 : Lg (Lib.decDigits m.natAbs).length m := Nat.le_refl _
  have h2 : Lg (Lib.decDigits n.natAbs).length n := Nat.le_refl _
  have h3 := (h1.mul h2).mono (show _ ≤ 18 by have := sI_len m; have := sI_len n; omega)
  exact lg18 h3

set_option maxRecDepth 100000 in
set_option maxHeartbeats 4000000 in
theorem rtimes_small (m n : Int) (w : World) (hm : Lg 18 m) (hn : Lg 18 n) (hs : (sI m).size + (sI n).size ≤ 18) :
    Calls Tryz.prog 90 #[.string (sI m), .string (sI n)] w fun e w' => e = .returned (.string (sI (m * n))) ∧ Below w.heap.size w w' := by
  obtain ⟨p1, p2⟩ := mul_short hs
  have HM := Lib.hid hm
  have HN := Lib.hid hn
  clear hm hn
  go_enter Tryz.func90, Tryz.ntmps90
  go_wp2_with fail
  refine (rbrief_yes m n _ HM.out HN.out).mono ?_
  rintro e w1 ⟨rfl, rfl⟩
  go_wp2_with fail
  refine (rof_any (m * n) _ (by omega) (by omega)).mono ?_
  rintro e w1 ⟨rfl, hb1⟩
  go_wp2_with fail
  go_ret
  exact ⟨rfl, hb1⟩

set_option maxRecDepth 100000 in
set_option maxHeartbeats 4000000 in
theorem rtimes_big (m n : Int) (w : World) (hm : Lg 10000 m) (hn : Lg 10000 n) (hb : ¬ ((Lg 18 m ∧ Lg 18 n) ∧ (sI m).size + (sI n).size ≤ 18)) :
    Calls Tryz.prog 90 #[.string (sI m), .string (sI n)] w fun e w' => e = .returned (.string (sI (m * n))) ∧ Below w.heap.size w w' := by
  have m1 := hm.dI
  have n1 := hn.dI
  have m2 := hm.sI
  have n2 := hn.sI
  have HM := Lib.hid hm
  have HN := Lib.hid hn
  have HV := Lib.hid (sv_mul m n)
  have HP : Hid ((dI (m.natAbs * n.natAbs)).size ≤ 20000) := Lib.hid (by
    have h2 : Lg 20000 ((m.natAbs * n.natAbs : Nat) : Int) := (show Lg 10000 (m.natAbs : Int) from hm).mul (show Lg 10000 (n.natAbs : Int) from hn)
    exact h2.dI)
  have HB1 := Lib.hid (fun W => rbelow_sI m W)
  have HB2 := Lib.hid (fun W => rbelow_sI n W)
  have HS1 := Lib.hid (fun W => rsize_sI m W (by omega))
  have HS2 := Lib.hid (fun W => rsize_sI n W (by omega))
  clear hm hn
  by_cases h18 : Lg 18 m ∧ Lg 18 n
  · have hs : ¬ (sI m).size + (sI n).size ≤ 18 := fun h => hb ⟨h18, h⟩
    have H18 := Lib.hid h18
    clear hb h18
    go_enter Tryz.func90, Tryz.ntmps90
    go_wp2_with fail
    refine (rbrief_yes m n _ H18.out.1 H18.out.2).mono ?_
    rintro e w1 ⟨rfl, rfl⟩
    go_wp2_with fail
    refine (HS1.out _).mono ?_
    rintro e w1 ⟨rfl, rfl⟩
    go_wp2_with fail
    refine (HS2.out _).mono ?_
    rintro e w1 ⟨rfl, rfl⟩
    go_wp2_with fail
    refine (product_any _ _ _ (by omega) (by omega)).mono ?_
    rintro e w2 ⟨rfl, hb2⟩
    go_wp2_with fail
    refine (HB1.out _).mono ?_
    rintro e w3 ⟨rfl, rfl⟩
    go_wp2_with fail
    refine (HB2.out _).mono ?_
    rintro e w3 ⟨rfl, rfl⟩
    generalize decide (m < 0) = a at *
    generalize decide (n < 0) = b at *
    go_wp2_with fail
    refine (signed_any _ _ _ (by have := HP.out; omega)).mono ?_
    rintro e w3 ⟨rfl, rfl⟩
    go_wp2_with fail
    go_ret
    exact ⟨by rw [← HV.out]; rfl, hb2⟩
  · have H18 := Lib.hid h18
    clear hb h18
    go_enter Tryz.func90, Tryz.ntmps90
    go_wp2_with fail
    refine (rbrief_no m n _ (HM.out.mono (by omega)) (HN.out.mono (by omega)) H18.out).mono ?_
    rintro e w1 ⟨rfl, rfl⟩
    go_wp2_with fail
    refine (HS1.out _).mono ?_
    rintro e w1 ⟨rfl, rfl⟩
    go_wp2_with fail
    refine (HS2.out _).mono ?_
    rintro e w1 ⟨rfl, rfl⟩
    go_wp2_with fail
    refine (product_any _ _ _ (by omega) (by omega)).mono ?_
    rintro e w2 ⟨rfl, hb2⟩
    go_wp2_with fail
    refine (HB1.out _).mono ?_
    rintro e w3 ⟨rfl, rfl⟩
    go_wp2_with fail
    refine (HB2.out _).mono ?_
    rintro e w3 ⟨rfl, rfl⟩
    generalize decide (m < 0) = a at *
    generalize decide (n < 0) = b at *
    go_wp2_with fail
    refine (signed_any _ _ _ (by have := HP.out; omega)).mono ?_
    rintro e w3 ⟨rfl, rfl⟩
    go_wp2_with fail
    go_ret
    exact ⟨by rw [← HV.out]; rfl, hb2⟩

theorem rtimes_any (m n : Int) (w : World) (hm : Lg 10000 m) (hn : Lg 10000 n) :
    Calls Tryz.prog 90 #[.string (sI m), .string (sI n)] w fun e w' => e = .returned (.string (sI (m * n))) ∧ Below w.heap.size w w' := by
  by_cases h : (Lg 18 m ∧ Lg 18 n) ∧ (sI m).size + (sI n).size ≤ 18
  · exact rtimes_small m n w h.1.1 h.1.2 h.2
  · exact rtimes_big m n w hm hn h

/-- the floored quotient is what leaves such a rest -/
theorem floor_unique {m n q r : Int} (h : m = n * q + r) (hr : (0 ≤ r ∧ r < n) ∨ (n < r ∧ r ≤ 0)) : m.fdiv n = q ∧ m.fmod n = r := by
  have key : m.fdiv n = q := by
    rcases hr with ⟨h1, h2⟩ | ⟨h1, h2⟩
    · rw [Int.fdiv_eq_ediv_of_nonneg _ (by omega), h, Int.add_comm, Int.add_mul_ediv_left _ _ (by omega), Int.ediv_eq_zero_of_lt h1 h2]; omega
    · rw [← Int.neg_fdiv_neg, Int.fdiv_eq_ediv_of_nonneg _ (by omega), h, show -(n * q + r) = -r + (-n) * q by rw [Int.neg_mul]; omega, Int.add_mul_ediv_left _ _ (by omega), Int.ediv_eq_zero_of_lt (by omega) (by omega)]; omega
  refine ⟨key, ?_⟩
  have h3 := Int.fmod_add_mul_fdiv m n
  rw [key] at h3
  omega
theorem floor_eq (m n : Int) : m = n * m.fdiv n + m.fmod n := by have := Int.fmod_add_mul_fdiv m n; omega
theorem fmod_range (m : Int) {n : Int} (hn : n ≠ 0) : (0 ≤ m.fmod n ∧ m.fmod n < n) ∨ (n < m.fmod n ∧ m.fmod n ≤ 0) := by
  by_cases h : 0 < n
  · exact Or.inl ⟨Int.fmod_nonneg_of_pos m h, Int.fmod_lt_of_pos m h⟩
  · right
    have h1 := Int.fmod_nonneg_of_pos (-m) (show 0 < -n by omega)
    have h2 := Int.fmod_lt_of_pos (-m) (show 0 < -n by omega)
    rw [Int.neg_fmod_neg] at h1 h2
    omega
end Go.Proofs.YtbdckemkmocdlaaGreatDoor

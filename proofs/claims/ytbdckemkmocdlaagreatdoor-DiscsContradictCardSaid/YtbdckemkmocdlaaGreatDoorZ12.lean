/- (*whole.wide).text: the text of an integer. -/
import Derived.Test.YtbdckemkmocdlaaGreatDoorZ11
import Derived.IntWalk
import Derived.Lib.SmallJoins
import Derived.Test.YtbdckemkmocdlaaGreatDoorZ07
set_option linter.unusedVariables false
set_option linter.unusedSimpArgs false
namespace Go.Proofs.YtbdckemkmocdlaaGreatDoor
open Go.RowKit

/-- a strings.Builder of the call's own (block b, from B on) that holds bytes -/
abbrev IsB (B b : Nat) (l : List UInt8) (w : World) : Prop := Lib.IsBuilder 182 5 B b (Lib.byteCells l) w

theorem BuilderAt_below {T e : TypeId} {B b : Nat} {p : Value} {bs : List Value} {w w' : World} (h : Lib.BuilderAt T e B b p bs w) (hb : Below w.heap.size w w') : Lib.BuilderAt T e B b p bs w' := by
  have hlt := h.lt
  obtain ⟨h1, v, h2, h3, h4⟩ := h
  exact ⟨h1, v, (hb.block b hlt).trans h2, h3.kept (grownBy_of_below hb none) (by cases hv : v.ownBlock <;> simp), h4⟩
theorem IsB.below {B b : Nat} {l : List UInt8} {w w' : World} (h : IsB B b l w) (hb : Below w.heap.size w w') : IsB B b l w' :=
  h.imp (fun k => BuilderAt_below k hb) (fun k => BuilderAt_below k hb)

theorem byteCells_app (a b : List UInt8) : Lib.byteCells a ++ Lib.byteCells b = Lib.byteCells (a ++ b) := by unfold Lib.byteCells; simp
theorem strCells_is (s : ByteArray) : Lib.strCells s = Lib.byteCells s.data.toList := rfl

theorem writeByte_any (B b : Nat) (l : List UInt8) (w : World) (h : IsB B b l w) (hl : l.length ≤ 100000) (hB : B ≤ w.heap.size) :
    Calls Tryz.prog 156 #[.pointer (some ⟨b, 0, none⟩), .int .u8 45] w fun e w' => e = .returned .nilIface ∧ IsB B b (l ++ [45]) w' ∧ Below B w w' :=
  (Tryz.Builder_WriteByte B b _ 45 w h (by rw [Lib.byteCells_length]; omega) hB).mono fun e w' ⟨h1, h2, h3⟩ => ⟨h1, .inr (by rw [← byteCells_app]; exact h2), h3⟩

theorem writeString_any (B b : Nat) (l : List UInt8) (s : ByteArray) (w : World) (h : IsB B b l w) (hl : l.length ≤ 100000) (hs : s.size ≤ 100000) (hB : B ≤ w.heap.size) :
    Calls Tryz.prog 157 #[.pointer (some ⟨b, 0, none⟩), .string s] w fun e w' => e = .returned (.tuple #[.int .i64 s.size, .nilIface]) ∧ IsB B b (l ++ s.data.toList) w' ∧ Below B w w' :=
  (Tryz.Builder_WriteString B b _ s w h (by rw [Lib.byteCells_length]; omega) hB).mono fun e w' ⟨h1, h2, h3⟩ => ⟨h1, .inr (by rw [← byteCells_app]; exact h2), h3⟩

theorem below_grow (w : World) (k : Nat) (os : Array Obj) : Below w.heap.size w («Sort».grow (w.drewN k) os) := by
  refine ⟨rfl, rfl, rfl, ?_, fun i hi => ?_⟩
  · show w.heap.size ≤ (w.heap ++ os).size
    simp
  · show (w.heap ++ os)[i]? = _
    rw [Array.getElem?_append_left hi]

theorem itoa_any (n : Int) (d : ByteArray) (w : World) (h0 : -9223372036854775808 ≤ n) (h1 : n ≤ 9223372036854775807) (he : Env w) (hd : d.data.toList = Lib.itoa n) :
    Calls Tryz.prog 152 #[.int .i64 n] w fun e w' => e = .returned (.string d) ∧ Below w.heap.size w w' := by
  refine (Tryz.strconv_Itoa n h0 h1 w he.2).mono ?_
  rintro e w' ⟨h1, k, os, h2⟩
  exact ⟨by rw [h1, ← ba_eq hd], by rw [h2]; exact below_grow _ _ _⟩

/-- one word's digits -/
theorem itoa_word (c : Nat) (hc : c < BW) (d : ByteArray) (w : World) (he : Env w) (hd : d.data.toList = Lib.decDigits c) :
    Calls Tryz.prog 152 #[.int .i64 (c : Int)] w fun e w' => e = .returned (.string d) ∧ Below w.heap.size w w' := by
  rw [show BW = 1000000000 from rfl] at hc
  exact itoa_any (c : Int) d w (by omega) (by omega) he (by rw [hd, itoa_nat])

set_option maxRecDepth 100000 in
set_option maxHeartbeats 2000000 in
theorem text_zero (w : World) (b : Nat) (neg : Bool) (hw : WB w b neg (nw 0) (fun i => wd 0 i)) :
    Calls Tryz.prog 117 #[.pointer (some ⟨b, 0, none⟩)] w fun e w' => e = .returned (.string ⟨#[48]⟩) ∧ w = w' := by
  have k1 := hw.c1
  rw [nw_zero] at k1
  go_enter Tryz.func117, Tryz.ntmps117
  go_wp2
  go_ret
  exact ⟨rfl, rfl⟩

theorem pad_cat (d1 : ByteArray) (h : d1.size ≤ 9) : ((ByteArray.mk #[48, 48, 48, 48, 48, 48, 48, 48, 48]).extract d1.size 9 ++ d1).data.toList = pad9 d1.data.toList := by
  rw [Joins.data_append, Lib.extract_data]
  unfold pad9
  rw [← ba_size]
  congr 1
  have : ∀ k, k ≤ 9 → ((List.replicate 9 (48 : UInt8)).drop k).take (9 - k) = List.replicate (9 - k) 48 := by
    intro k hk; rw [List.drop_replicate, List.take_of_length_le (by simp)]
  exact this _ h

theorem pad_size (d1 : ByteArray) (h : d1.size ≤ 9) : ((ByteArray.mk #[48, 48, 48, 48, 48, 48, 48, 48, 48]).extract d1.size 9 ++ d1).size ≤ 100000 := by
  rw [ba_size, pad_cat d1 h]; unfold pad9; rw [ba_size] at h; simp at h ⊢; omega

theorem ret_str {l : List UInt8} {d : ByteArray} (h : d.data.toList = l) : Ending.returned (.string ⟨l.toArray⟩) = .returned (.string d) := by rw [ba_eq h]

set_option maxRecDepth 100000 in
set_option maxHeartbeats 4000000 in
theorem text_pos (w : World) (b v : Nat) (neg : Bool) (d : ByteArray) (hw : WB w b neg (nw v) (fun i => wd v i)) (hv : v ≠ 0) (hn : nw v ≤ 232) (he : Env w) (hd : d.data.toList = Lib.itoa (sv neg v)) :
    Calls Tryz.prog 117 #[.pointer (some ⟨b, 0, none⟩)] w fun e w' => e = .returned (.string d) ∧ Below w.heap.size w w' := by
  obtain ⟨q, hq⟩ : ∃ q, nw v = q + 1 := ⟨nw v - 1, by rw [nw_pos hv]; omega⟩
  obtain ⟨sg, hsg⟩ : ∃ sg, sg = sign45 neg := ⟨_, rfl⟩
  have HD := Lib.hid (show d.data.toList = sg ++ Lib.decDigits v by rw [hd, itoa_sv _ _ hv, hsg])
  obtain ⟨d0, hd0⟩ := ba_ex (Lib.decDigits (wd v q))
  have hds : d0.size ≤ 9 := by rw [ba_size, hd0]; exact (dec_len_le _ 9 (by omega)).2 (wd_lt _ _)
  have HD0 := Lib.hid hd0
  have HSL : sg.length ≤ 1 := by rw [hsg]; cases neg <;> decide
  have HTOP := Lib.hid (show wd v q = v / BW ^ q ∧ v / BW ^ q ≠ 0 by have := top_word v hv; rw [hq] at this; exact this)
  have k0 := hw.c0
  have k1 := hw.c1
  rw [hq] at k1 hn
  have hbl := hw.lt
  have K1 := Lib.hid (show ∀ W, Below w.heap.size w W → W.cell? ⟨b, 1, none⟩ = some (.int .i64 ((q : Int) + 1)) by
    intro W hW; rw [(hW.cell (p := ⟨b, 1, none⟩) hbl), k1]; simp)
  have K3 := Lib.hid (show ∀ W, Below w.heap.size w W → ∀ i, i < 232 → W.cell? ⟨b, 2 + i, none⟩ = some (.int .i64 (wd v i)) from fun W hW i hi => (hw.below hW hbl).cw i hi)
  have KE := Lib.hid (show ∀ W, Below w.heap.size w W → Env W from fun W hW => he.below hW)
  have t0 : (((q + 1 : Nat) : Int) == 0) = false := by simp; omega
  have HB0 : IsB w.heap.size w.heap.size [] (w.alloc (.cells #[.pointer none, .slice none 0 0] 182)) := Lib.fresh_isBuilder 182 5 w
  have hb2 : Below w.heap.size w (w.alloc (.cells #[.pointer none, .slice none 0 0] 182 (0, 0))) := (Below.refl _ w).alloc (Nat.le_refl _) _
  have e1 : IntKind.i64.wrap ((q : Int) + 1 - 1) = (q : Int) := by rw [IntWalk.i64_in _ (by omega)]; omega
  have e1' : IntKind.i64.wrap (q : Int) = (q : Int) := IntWalk.i64_in _ (by omega)
  have e3 : (0 : Int) ≤ (q : Int) := by omega
  have e4 : (q : Int) < 232 := by omega
  have e5 : ((q : Int)).toNat = q := by omega
  have HLEN := Lib.hid (show ∀ k, (Lib.decDigits (v / BW ^ k)).length ≤ 9 * 232 by
    intro k
    rw [dec_len_le _ (9 * 232) (Nat.succ_pos _)]
    exact Nat.lt_of_le_of_lt (Nat.div_le_self _ _) (by rw [show (10 : Nat) ^ (9 * 232) = BW ^ 232 from Nat.pow_mul 10 9 232]; exact nw_le.1 (by omega)))
  clear hd hd0 hv hq hw he
  go_enter Tryz.func117, Tryz.ntmps117
  cases neg
  case' false =>
    go_wp2_with fail
    have HB1 : IsB w.heap.size w.heap.size sg (w.alloc (.cells #[.pointer none, .slice none 0 0] 182)) := by rw [hsg]; exact HB0
    clear HB0 hsg k0 k1 t0
    generalize w.alloc (.cells #[.pointer none, .slice none 0 0] 182 (0, 0)) = w2 at *
  case' true =>
    go_wp2_with (first | (go_at_call 156; refine (writeByte_any w.heap.size w.heap.size [] _ HB0 (by simp) hb2.size).mono ?_; rintro e w2 ⟨rfl, hB2, hb22⟩))
    have HB1 : IsB w.heap.size w.heap.size sg w2 := by rw [hsg]; exact hB2
    have hb2 := hb2.trans hb22
    clear HB0 hsg k0 k1 t0
  all_goals
    have j1 := K1.out w2 hb2
    have j3 := K3.out w2 hb2 q (by omega)
    go_region_with (first | (go_at_call 152; refine (itoa_word _ (wd_lt _ _) d0 _ (KE.out _ hb2.drew) HD0.out).mono ?_; rintro e w3 ⟨rfl, hb3⟩) | (go_at_call 157; refine (writeString_any w.heap.size w.heap.size sg d0 _ (IsB.below (show IsB _ _ _ w2.drew from HB1) hb3) (by omega) (by omega) (Nat.le_trans hb2.size hb3.size)).mono ?_; rintro e w4 ⟨rfl, hB4, hb4⟩))
    have hb5 : Below w.heap.size w w4 := (hb2.drew.trans (hb3.mono hb2.size)).trans hb4
    have i1 := K1.out w4 hb5
    clear j1 j3 hb3 hb4
    go_wp2
    have eq0 : ((q : Int) + 1 - 2) = (q : Int) - 1 := by omega
    rw [eq0]
    clear eq0 i1
    go_loopw [4] (fun i wr => ∃ (k : Nat) (l : List UInt8), i = .int .i64 ((k : Int) - 1) ∧ k ≤ q ∧ IsB w.heap.size w.heap.size l wr ∧ l = sg ++ Lib.decDigits (v / BW ^ k) ∧ Below w.heap.size w wr)
      (fun i _ => (intOf i + 1).toNat)
    case atStart => exact ⟨q, _, rfl, Nat.le_refl _, hB4, by rw [HD0.out, HTOP.out.1], hb5⟩
    case round =>
      clear hB4 hb5
      obtain ⟨k, l, rfl, hk, hBk, hlk, hbk⟩ := hrel
      have HLK := Lib.hid hlk
      clear hlk
      by_cases hk0 : 0 < k
      · obtain ⟨j, rfl⟩ : ∃ j, k = j + 1 := ⟨k - 1, by omega⟩
        obtain ⟨d1, hd1⟩ := ba_ex (Lib.decDigits (wd v j))
        have hds1 : d1.size ≤ 9 := by rw [ba_size, hd1]; exact (dec_len_le _ 9 (by omega)).2 (wd_lt _ _)
        have HD1 := Lib.hid hd1
        clear hd1
        have j3 := K3.out wr hbk j (by omega)
        have ej : ((j + 1 : Nat) : Int) - 1 = (j : Int) := by omega
        rw [ej]
        have hl1 : l.length ≤ 100000 := by rw [HLK.out]; have := HLEN.out (j + 1); simp; omega
        clear ej
        go_wp2_with (first | (go_at_call 152; refine (itoa_word _ (wd_lt _ _) d1 _ (KE.out _ hbk) HD1.out).mono ?_; rintro e w6 ⟨rfl, hb6⟩) | (go_at_call 157; refine (writeString_any w.heap.size w.heap.size l _ _ (IsB.below hBk hb6) hl1 (pad_size d1 hds1) (Nat.le_trans hbk.size hb6.size)).mono ?_; rintro e w7 ⟨rfl, hB7, hb7⟩))
        rw [pad_cat d1 hds1] at hB7
        refine ⟨⟨j, _, rfl, by omega, hB7, ?_, (hbk.trans (hb6.mono hbk.size)).trans hb7⟩, by simp [intOf]⟩
        rw [HLK.out, HD1.out, List.append_assoc, dec_words v j (nonzero_div HTOP.out.2 hk)]
      · obtain rfl : k = 0 := by omega
        go_wp2_with (first | (go_at_call 158; refine (Tryz.Builder_String_any w.heap.size w.heap.size l _ hBk hbk.size).mono ?_; rintro e w8 ⟨rfl, hb8⟩))
        go_ret
        exact ⟨ret_str (by rw [HLK.out, HD.out]; simp), hbk.trans hb8⟩
end Go.Proofs.YtbdckemkmocdlaaGreatDoor

/- The small functions of package whole, on texts of integers. -/
namespace Go.Proofs.YtbdckemkmocdlaaGreatDoor
open Go.RowKit

/-- the text of an integer -/
noncomputable def sI (n : Int) : ByteArray := ⟨(Lib.itoa n).toArray⟩
theorem sI_list (n : Int) : (sI n).data.toList = Lib.itoa n := by simp [sI]
theorem sI_of {d : ByteArray} {n : Int} (h : d.data.toList = Lib.itoa n) : d = sI n := by unfold sI; rw [ba_eq h]
theorem sI_inj {m n : Int} (h : sI m = sI n) : m = n := by
  have : (sI m).data.toList = (sI n).data.toList := by rw [h]
  rw [sI_list, sI_list] at this; exact itoa_inj this
theorem sI_zero : (⟨#[48]⟩ : ByteArray) = sI 0 := sI_of (by rw [itoa_zero])
theorem sI_dig (k : Nat) (h : k < 10) : (⟨#[UInt8.ofNat (48 + k)]⟩ : ByteArray) = sI k := sI_of (by rw [itoa_nat, Lib.decDigits_one h])
theorem sI_one : (⟨#[49]⟩ : ByteArray) = sI 1 := sI_dig 1 (by omega)
theorem sI_two : (⟨#[50]⟩ : ByteArray) = sI 2 := sI_dig 2 (by omega)

/-- not too long -/
def Fit (n : Int) : Prop := (Lib.decDigits n.natAbs).length ≤ 1024

theorem Fit.size {n : Int} (h : Fit n) : (sI n).size ≤ 1025 := by
  rw [ba_size, sI_list]
  unfold Fit at h
  by_cases hn : n < 0
  · rw [itoa_neg hn]; simp; exact h
  · rw [itoa_nonneg (by omega), show n.toNat = n.natAbs by omega]; omega
theorem sI_pos (n : Int) : 0 < (sI n).size := by rw [ba_size, sI_list]; exact List.length_pos_iff.2 (itoa_ne_nil n)
theorem sI_eq_zero (n : Int) : ((sI n).toList == [48]) = decide (n = 0) := by
  rw [ByteArray.toList_eq, sI_list, Bool.eq_iff_iff, beq_iff_eq, decide_eq_true_eq]; exact itoa_eq_zero
theorem sI_head (n : Int) : (((sI n)[0]'(sI_pos n)).toNat : Int) = 45 ↔ n < 0 := by
  have h1 := head_ba (sI n) (sI_pos n) 45
  rw [sI_list, itoa_head_minus] at h1
  exact h1.symm

theorem check_sI (n : Int) (w : World) (h : Fit n) : Calls Tryz.prog 70 #[.string (sI n)] w fun e w' => e = .returned (.int .i64 0) ∧ Below w.heap.size w w' := by
  refine (check_any (sI n) w (by have := h.size; omega)).mono ?_
  rintro e w' ⟨h1, h2⟩
  rw [sI_list, chkW_itoa, if_pos (show (Lib.decDigits n.natAbs).length ≤ 1024 from h)] at h1
  exact ⟨h1, h2⟩

/-- a slice of texts in a block of its own -/
def StrRow (w : World) (g : Nat) (l : List Int) : Prop := ∀ i, i < l.length → w.cell? ⟨g, i, none⟩ = some (.string (sI (l[i]?.getD 0)))

set_option maxRecDepth 100000 in
set_option maxHeartbeats 1000000 in
theorem all_any (w : World) (g : Nat) (l : List Int) (hg : g < w.heap.size) (hl : l.length ≤ 100) (hc : StrRow w g l) (hf : ∀ x ∈ l, Fit x) :
    Calls Tryz.prog 111 #[.slice (some ⟨g, 0, none⟩) l.length l.length] w fun e w' => e = .returned (.int .i64 0) ∧ Below w.heap.size w w' := by
  go_enter Tryz.func111, Tryz.ntmps111
  go_wp2
  go_loopw [8] (fun i wr => ∃ k : Nat, i = .int .i64 k ∧ k ≤ l.length ∧ Below w.heap.size w wr) (fun i _ => l.length - (intOf i).toNat)
  case atStart => exact ⟨0, rfl, Nat.zero_le _, Below.refl _ _⟩
  case round =>
    obtain ⟨k, rfl, hk, hb⟩ := hrel
    by_cases hlt : k < l.length
    · have hx := (hb.cell (p := ⟨g, k, none⟩) hg).trans (hc k hlt)
      have hfk := Lib.hid (hf (l[k]?.getD 0) (by rw [List.getElem?_eq_getElem hlt]; simp))
      generalize l[k]?.getD 0 = x at hx hfk
      go_wp2_with (first | (go_at_call 70; refine (check_sI x _ hfk.out).mono ?_; rintro e w1 ⟨rfl, hb1⟩))
      exact ⟨⟨k + 1, by simp, by omega, hb.trans (hb1.mono hb.size)⟩, by simp [intOf]; omega⟩
    · go_wp2
      go_ret
      exact ⟨rfl, hb⟩

set_option maxRecDepth 100000 in
set_option maxHeartbeats 1000000 in
theorem sign_sI (n : Int) (w : World) : Calls Tryz.prog 112 #[.string (sI n)] w fun e w' => e = .returned (.int .i64 (sgn n)) ∧ w = w' := by
  have hp := sI_pos n
  have hz := sI_eq_zero n
  have hh := sI_head n
  by_cases h0 : n = 0
  · rw [decide_eq_true h0] at hz
    have HV := Lib.hid (show sgn n = 0 by unfold sgn; rw [if_neg (by omega), if_pos h0])
    clear hh h0
    go_enter Tryz.func112, Tryz.ntmps112
    go_wp2
    go_ret
    exact ⟨ret_int HV.out.symm, rfl⟩
  · rw [decide_eq_false h0] at hz
    by_cases hn : n < 0
    · have t := hh.2 hn
      have HV := Lib.hid (show sgn n = -1 by unfold sgn; rw [if_pos hn])
      clear hh h0 hn
      go_enter Tryz.func112, Tryz.ntmps112
      go_wp2
      go_ret
      exact ⟨ret_int HV.out.symm, rfl⟩
    · have t : ((((sI n)[0]'(sI_pos n)).toNat : Int) == 45) = false := by simpa using fun e => hn (hh.1 e)
      have HV := Lib.hid (show sgn n = 1 by unfold sgn; rw [if_neg hn, if_neg h0])
      clear hh h0 hn
      go_enter Tryz.func112, Tryz.ntmps112
      go_wp2
      go_ret
      exact ⟨ret_int HV.out.symm, rfl⟩

theorem of_any (n : Int) (w : World) (h0 : -9223372036854775808 ≤ n) (h1 : n ≤ 9223372036854775807) (he : Env w) :
    Calls Tryz.prog 115 #[.int .i64 n] w fun e w' => e = .returned (.string (sI n)) ∧ Below w.heap.size w w' := by
  go_enter Tryz.func115, Tryz.ntmps115
  go_wp2_with (first | (go_at_call 152; refine (itoa_any n (sI n) _ h0 h1 he (sI_list n)).mono ?_; rintro e w1 ⟨rfl, hb1⟩))
  go_ret
  exact ⟨rfl, hb1⟩

theorem result_any (n : Int) (w : World) (h0 : -9223372036854775808 ≤ n) (h1 : n ≤ 9223372036854775807) (he : Env w) :
    Calls Tryz.prog 186 #[.int .i64 n] w fun e w' => e = .returned (.tuple #[.string (sI n), .int .i64 0]) ∧ Below w.heap.size w w' := by
  go_enter Tryz.func186, Tryz.ntmps186
  go_wp2_with (first | (go_at_call 115; refine (of_any n _ h0 h1 he).mono ?_; rintro e w1 ⟨rfl, hb1⟩))
  go_ret2
  exact ⟨rfl, hb1⟩
end Go.Proofs.YtbdckemkmocdlaaGreatDoor

/- Sums and products of texts of integers. -/
namespace Go.Proofs.YtbdckemkmocdlaaGreatDoor
open Go.RowKit

theorem sgn_cases (n : Int) : (n < 0 ∧ sgn n = -1) ∨ (n = 0 ∧ sgn n = 0) ∨ (0 < n ∧ sgn n = 1) := by
  unfold sgn
  by_cases h : n < 0
  · exact .inl ⟨h, if_pos h⟩
  · by_cases h0 : n = 0
    · exact .inr (.inl ⟨h0, by rw [if_neg h, if_pos h0]⟩)
    · exact .inr (.inr ⟨by omega, by rw [if_neg h, if_neg h0]⟩)

theorem opp_pos {n : Int} (h : 0 < n) : (ByteArray.mk #[45]) ++ sI n = sI (-n) := by
  apply sI_of
  rw [Joins.data_append, sI_list, itoa_neg (show -n < 0 by omega), itoa_nonneg (show 0 ≤ n by omega), show (-n).natAbs = n.toNat by omega]; rfl
theorem opp_neg {n : Int} (h : n < 0) : (sI n).extract 1 (sI n).size = sI (-n) := by
  apply sI_of
  rw [Lib.extract_data, sI_list, itoa_neg h, itoa_nonneg (by omega), show (-n).toNat = n.natAbs by omega]
  rw [List.take_of_length_le (by rw [ba_size, sI_list, itoa_neg h]; simp)]; rfl

theorem ret_strI {d : ByteArray} {n : Int} (h : d = sI n) : Ending.returned (.string d) = .returned (.string (sI n)) := by rw [h]

set_option maxRecDepth 100000 in
set_option maxHeartbeats 1000000 in
theorem opposite_any (n : Int) (w : World) (hsz : (sI n).size ≤ 100000) : Calls Tryz.prog 184 #[.string (sI n)] w fun e w' => e = .returned (.string (sI (-n))) ∧ w = w' := by
  have hp := sI_pos n
  rcases sgn_cases n with ⟨h, hs⟩ | ⟨h, hs⟩ | ⟨h, hs⟩
  · have HS := Lib.hid hs
    have HV := Lib.hid (opp_neg h)
    clear hs h
    go_enter Tryz.func184, Tryz.ntmps184
    go_wp2_with (first | (go_at_call 112; refine (sign_sI n _).mono ?_; rintro e w1 ⟨rfl, rfl⟩; rw [HS.out]))
    go_ret
    exact ⟨ret_strI HV.out, rfl⟩
  · have HS := Lib.hid hs
    have HV := Lib.hid (show sI n = sI (-n) by rw [h]; rfl)
    clear hs h
    go_enter Tryz.func184, Tryz.ntmps184
    go_wp2_with (first | (go_at_call 112; refine (sign_sI n _).mono ?_; rintro e w1 ⟨rfl, rfl⟩; rw [HS.out]))
    go_ret
    exact ⟨ret_strI HV.out, rfl⟩
  · have HS := Lib.hid hs
    have HV := Lib.hid (opp_pos h)
    clear hs h
    go_enter Tryz.func184, Tryz.ntmps184
    go_wp2_with (first | (go_at_call 112; refine (sign_sI n _).mono ?_; rintro e w1 ⟨rfl, rfl⟩; rw [HS.out]))
    go_ret
    exact ⟨ret_strI HV.out, rfl⟩

/-- a text of nine bytes at most is read as a number -/
theorem atoi_itoa (n : Int) : Lib.atoi (Lib.itoa n) = some n := by
  by_cases h : n < 0
  · rw [itoa_neg h]
    unfold Lib.atoi
    simp only [beq_self_eq_true, if_true]
    unfold Lib.decNat
    rw [if_neg (by simpa using dec_ne_nil n.natAbs), decFrom_dig _ (dig_isDig _) 0, dval_dec]
    simp; omega
  · rw [itoa_nonneg (by omega), atoi_dig _ (dec_ne_nil _) (dig_isDig _), dval_dec]; simp; omega

theorem atoi_sI (n : Int) (w : World) (h : (sI n).size ≤ 9) :
    Calls Tryz.prog 150 #[.string (sI n)] w fun e w' => e = .returned (.tuple #[.int .i64 n, .nilIface]) ∧ Below w.heap.size w w' :=
  (Tryz.strconv_Atoi (sI n) n (by omega) (by rw [sI_list]; exact atoi_itoa n) w).mono fun e w' ⟨h1, t, h2⟩ => ⟨h1, by rw [h2]; exact below_bytesWorld _ _ _⟩

/-- a short text is a small number -/
theorem sI_short {n : Int} (h : (sI n).size ≤ 9) : -999999999 ≤ n ∧ n ≤ 999999999 := by
  rw [ba_size, sI_list] at h
  by_cases hn : n < 0
  · rw [itoa_neg hn] at h; simp at h
    have := (dec_len_le n.natAbs 8 (by omega)).1 h; omega
  · rw [itoa_nonneg (by omega)] at h
    have := (dec_len_le n.toNat 9 (by omega)).1 h; omega

set_option maxRecDepth 100000 in
set_option maxHeartbeats 1000000 in
theorem small_yes (m n : Int) (w : World) (hm : (sI m).size ≤ 9) (hn : (sI n).size ≤ 9) :
    Calls Tryz.prog 185 #[.string (sI m), .string (sI n)] w fun e w' => e = .returned (.tuple #[.int .i64 m, .int .i64 n, .bool true]) ∧ Below w.heap.size w w' := by
  go_enter Tryz.func185, Tryz.ntmps185
  go_wp2_with fail
  refine (atoi_sI m _ hm).mono ?_
  rintro e w1 ⟨rfl, hb1⟩
  go_wp2_with fail
  refine (atoi_sI n _ hn).mono ?_
  rintro e w2 ⟨rfl, hb2⟩
  go_wp2
  go_ret3
  exact ⟨rfl, hb1.trans (hb2.mono hb1.size)⟩

set_option maxRecDepth 100000 in
set_option maxHeartbeats 1000000 in
theorem small_no (m n : Int) (w : World) (h : 9 < (sI m).size ∨ 9 < (sI n).size) :
    Calls Tryz.prog 185 #[.string (sI m), .string (sI n)] w fun e w' => e = .returned (.tuple #[.int .i64 0, .int .i64 0, .bool false]) ∧ w = w' := by
  by_cases hm : 9 < (sI m).size
  · clear h
    go_enter Tryz.func185, Tryz.ntmps185
    go_wp2
    go_ret3
    exact ⟨rfl, rfl⟩
  · have hn : 9 < (sI n).size := h.resolve_left hm
    clear h
    go_enter Tryz.func185, Tryz.ntmps185
    go_wp2
    go_ret3
    exact ⟨rfl, rfl⟩

theorem sv_natAbs (ng : Bool) (v : Nat) : (sv ng v).natAbs = v := by unfold sv; split <;> omega

theorem text_any (w : World) (b v : Nat) (ng : Bool) (hw : WB w b ng (nw v) (fun i => wd v i)) (hn : nw v ≤ 232) (he : Env w) :
    Calls Tryz.prog 117 #[.pointer (some ⟨b, 0, none⟩)] w fun e w' => e = .returned (.string (sI (sv ng v))) ∧ Below w.heap.size w w' := by
  by_cases hv : v = 0
  · subst hv
    refine (text_zero w b ng hw).mono ?_
    rintro e w' ⟨h1, h2⟩
    refine ⟨?_, by rw [h2]; exact Below.refl _ _⟩
    rw [h1, sI_zero]; congr 3; unfold sv; split <;> rfl
  · exact text_pos w b v ng (sI (sv ng v)) hw hv hn he (sI_list _)

set_option maxRecDepth 100000 in
set_option maxHeartbeats 1000000 in
theorem limited_any (w : World) (b v : Nat) (ng : Bool) (hw : WB w b ng (nw v) (fun i => wd v i)) (hn : nw v ≤ 232) (he : Env w) (hf : Fit (sv ng v)) :
    Calls Tryz.prog 188 #[.pointer (some ⟨b, 0, none⟩)] w fun e w' => e = .returned (.tuple #[.string (sI (sv ng v)), .int .i64 0]) ∧ Below w.heap.size w w' := by
  go_enter Tryz.func188, Tryz.ntmps188
  go_wp2_with (first | (go_at_call 117; refine (text_any _ b v ng hw hn he).mono ?_; rintro e w1 ⟨rfl, hb1⟩) | (go_at_call 70; refine (check_sI (sv ng v) _ hf).mono ?_; rintro e w2 ⟨rfl, hb2⟩))
  go_ret2
  exact ⟨rfl, hb1.trans (hb2.mono hb1.size)⟩
end Go.Proofs.YtbdckemkmocdlaaGreatDoor

/- whole.sum, Add, Sub, Mul. -/
namespace Go.Proofs.YtbdckemkmocdlaaGreatDoor
open Go.RowKit

/-- so many digits make so many words -/
theorem nw_len {v k : Nat} (hk : 0 < k) (h : (Lib.decDigits v).length ≤ 9 * k) : nw v ≤ k := by
  rw [nw_le, show BW ^ k = 10 ^ (9 * k) from (Nat.pow_mul 10 9 k).symm]
  exact (dec_len_le v (9 * k) (by omega)).1 h
theorem fit_nw {n : Int} (h : Fit n) : nw n.natAbs ≤ 114 := nw_len (by omega) (by unfold Fit at h; omega)
theorem fit_lt {n : Int} (h : Fit n) : n.natAbs < BW ^ 114 := nw_le.1 (fit_nw h)
theorem pow_two (k : Nat) : 2 * BW ^ k ≤ BW ^ (k + 1) := by rw [Nat.pow_succ, Nat.mul_comm]; exact Nat.mul_le_mul_left _ (by decide)
theorem words_lt {a : Nat} (h : a < BW ^ 115) : a < BW ^ 232 := Nat.lt_of_lt_of_le h (Nat.pow_le_pow_right BW_pos (by omega))
theorem add_lt {a b : Nat} (ha : a < BW ^ 114) (hb : b < BW ^ 114) : a + b < BW ^ 115 := by
  have := pow_two 114
  generalize BW ^ 114 = P at *
  generalize BW ^ (114 + 1) = Q at *
  omega
theorem sv_of (n : Int) : sv (decide (n < 0)) n.natAbs = n := by
  unfold sv
  by_cases h : n < 0
  · rw [decide_eq_true h, if_pos rfl]; omega
  · rw [decide_eq_false h, if_neg (by simp)]; omega

theorem read_sI (n : Int) (w : World) (h : Fit n) :
    Calls Tryz.prog 114 #[.string (sI n)] w fun e w' => ∃ g, e = .returned (.pointer (some ⟨g, 0, none⟩)) ∧ w.heap.size ≤ g ∧ WB w' g (decide (n < 0)) (nw n.natAbs) (fun i => wd n.natAbs i) ∧ Below w.heap.size w w' :=
  read_any (sI n) n w (sI_list n) (by unfold Fit at h; omega)

theorem ret_pairI {a b : Int} (h : a = b) : Ending.returned (.tuple #[.string (sI a), .int .i64 0]) = .returned (.tuple #[.string (sI b), .int .i64 0]) := by rw [h]

/-- how far a sum of two has come -/
def SumAt (m n : Int) (k : Nat) (ng : Bool) (v : Nat) : Prop :=
  (k = 0 ∧ sv ng v = 0 ∧ v = 0) ∨ (k = 1 ∧ sv ng v = m ∧ v < BW ^ 114) ∨ (k = 2 ∧ sv ng v = m + n)

set_option maxRecDepth 100000 in
set_option maxHeartbeats 2000000 in
theorem sum_two (m n : Int) (w : World) (g : Nat) (hg : g < w.heap.size) (hm : Fit m) (hn : Fit n) (hmn : Fit (m + n)) (he : Env w)
    (h0 : w.cell? ⟨g, 0, none⟩ = some (.string (sI m))) (h1 : w.cell? ⟨g, 1, none⟩ = some (.string (sI n))) :
    Calls Tryz.prog 189 #[.slice (some ⟨g, 0, none⟩) 2 2] w fun e w' => e = .returned (.tuple #[.string (sI (m + n)), .int .i64 0]) ∧ Below w.heap.size w w' := by
  have hw0 : WB (w.alloc (.cells Tryz.zeroCells145 145 (0, 0))) w.heap.size false (nw 0) (fun i => wd 0 i) := by
    rw [nw_zero]
    obtain ⟨h1, h2, h3⟩ := wz_facts
    exact ⟨_, heap_alloc_new _ _, h1, by rw [wz_is]; simp, h2, fun i hi => by show _ = some (Value.int IntKind.i64 ((wd 0 i : Nat) : Int)); rw [wd_zero]; exact h3 i hi⟩
  have hb0 : Below w.heap.size w (w.alloc (.cells Tryz.zeroCells145 145 (0, 0))) := (Below.refl _ w).alloc (Nat.le_refl _) _
  have C0 := Lib.hid (show ∀ W, Below w.heap.size w W → W.cell? ⟨g, 0, none⟩ = some (.string (sI m)) from fun W hW => (hW.cell (p := ⟨g, 0, none⟩) hg).trans h0)
  have C1 := Lib.hid (show ∀ W, Below w.heap.size w W → W.cell? ⟨g, 1, none⟩ = some (.string (sI n)) from fun W hW => (hW.cell (p := ⟨g, 1, none⟩) hg).trans h1)
  have KE := Lib.hid (show ∀ W, Below w.heap.size w W → Env W from fun W hW => he.below hW)
  clear h0 h1 he
  go_enter Tryz.func189, Tryz.ntmps189
  go_wp2
  go_loopw [11] (fun i wr => ∃ (k : Nat) (ng : Bool) (v : Nat), i = .int .i64 k ∧ k ≤ 2 ∧ WB wr w.heap.size ng (nw v) (fun i => wd v i) ∧ Below w.heap.size w wr ∧ v < BW ^ 232 ∧ SumAt m n k ng v)
    (fun i _ => 2 - (intOf i).toNat)
  case atStart => exact ⟨0, false, 0, rfl, by omega, hw0, hb0, Nat.pow_pos BW_pos, .inl ⟨rfl, rfl, rfl⟩⟩
  case round =>
    clear hw0 hb0
    obtain ⟨k, ng, v, rfl, hk, hwv, hb, hv1, hcase⟩ := hrel
    have HV := Lib.hid hv1
    clear hv1
    rcases hcase with ⟨rfl, hs, rfl⟩ | ⟨rfl, hs, hv2⟩ | ⟨rfl, hs⟩
    · have c0 := C0.out wr hb
      have HS := Lib.hid hs
      clear hs
      go_wp2_with (first | (go_at_call 114; refine (read_sI m _ hm).mono ?_; rintro e w1 ⟨g1, rfl, hg1, hr1, hb1⟩))
      have hwl := hwv.lt
      refine (plus_any _ w.heap.size g1 0 m.natAbs ng _ (hwv.below hb1 hwl) hr1 (by omega) (words_lt (add_lt (Nat.pow_pos BW_pos) (fit_lt hm)))).mono ?_
      rintro e w2 ⟨rfl, hg2, nr, r, hr2, hsv, hrle⟩
      have HSV := Lib.hid hsv
      have hb2 : Below w.heap.size w w2 := (hb.trans (hb1.mono hb.size)).trans (below_of_grownBy hg2 (Nat.le_refl _) (Nat.le_trans hb.size hb1.size))
      clear hsv hwv hr1 hg2
      go_wp2
      refine ⟨⟨1, nr, r, rfl, by omega, hr2, hb2, ?_, .inr (.inl ⟨rfl, by rw [HSV.out, HS.out, sv_of]; omega, ?_⟩)⟩, by simp [intOf]⟩
      · exact Nat.lt_of_le_of_lt hrle (words_lt (add_lt (Nat.pow_pos BW_pos) (fit_lt hm)))
      · exact Nat.lt_of_le_of_lt hrle (by rw [Nat.zero_add]; exact fit_lt hm)
    · have c1 := C1.out wr hb
      have HS := Lib.hid hs
      have HV2 := Lib.hid hv2
      clear hs hv2
      go_wp2_with (first | (go_at_call 114; refine (read_sI n _ hn).mono ?_; rintro e w1 ⟨g1, rfl, hg1, hr1, hb1⟩))
      have hwl := hwv.lt
      refine (plus_any _ w.heap.size g1 v n.natAbs ng _ (hwv.below hb1 hwl) hr1 (by omega) (words_lt (add_lt HV2.out (fit_lt hn)))).mono ?_
      rintro e w2 ⟨rfl, hg2, nr, r, hr2, hsv, hrle⟩
      have HSV := Lib.hid hsv
      have hb2 : Below w.heap.size w w2 := (hb.trans (hb1.mono hb.size)).trans (below_of_grownBy hg2 (Nat.le_refl _) (Nat.le_trans hb.size hb1.size))
      clear hsv hwv hr1 hg2
      go_wp2
      refine ⟨⟨2, nr, r, rfl, by omega, hr2, hb2, ?_, .inr (.inr ⟨rfl, by rw [HSV.out, HS.out, sv_of]⟩)⟩, by simp [intOf]⟩
      exact Nat.lt_of_le_of_lt hrle (words_lt (add_lt HV2.out (fit_lt hn)))
    · have HS := Lib.hid hs
      have hf : Fit (sv ng v) := by rw [hs]; exact hmn
      have hnv := nw_le.2 HV.out
      clear hs
      go_wp2_with (first | (go_at_call 188; refine (limited_any _ w.heap.size v ng hwv hnv (KE.out wr hb) hf).mono ?_; rintro e w1 ⟨rfl, hb1⟩))
      go_ret2
      exact ⟨ret_pairI HS.out, hb.trans (hb1.mono hb.size)⟩

/-- two texts in a new block -/
theorem two_row (w : World) (m n : Int) : StrRow (w.alloc (.cells #[.string (sI m), .string (sI n)] 93 (0, 0))) w.heap.size [m, n] := by
  intro i hi
  have hi2 : i < 2 := hi
  have h := heap_alloc_new w (.cells #[.string (sI m), .string (sI n)] 93 (0, 0))
  rw [cell_of_row _ _ _ _ _ _ h]
  match i, hi2 with
  | 0, _ => rfl
  | 1, _ => rfl

/-- the slice of two texts in a new block -/
noncomputable abbrev two (w : World) (m n : Int) : World := w.alloc (.cells #[.string (sI m), .string (sI n)] 93 (0, 0))

theorem two_below (w : World) (m n : Int) : Below w.heap.size w (two w m n) := (Below.refl _ w).alloc (Nat.le_refl _) _

theorem all_two (w : World) (m n : Int) (hm : Fit m) (hn : Fit n) :
    Calls Tryz.prog 111 #[.slice (some ⟨w.heap.size, 0, none⟩) 2 2] (two w m n) fun e w' => e = .returned (.int .i64 0) ∧ Below w.heap.size w w' := by
  refine (all_any (two w m n) w.heap.size [m, n] (by simp) (by simp) (two_row w m n) ?_).mono ?_
  · intro x hx
    simp only [List.mem_cons, List.not_mem_nil, or_false] at hx
    rcases hx with rfl | rfl
    · exact hm
    · exact hn
  · rintro e w' ⟨h1, h2⟩
    exact ⟨h1, (two_below w m n).trans (h2.mono (two_below w m n).size)⟩

theorem sum_two' (w : World) (m n : Int) (hm : Fit m) (hn : Fit n) (hmn : Fit (m + n)) (he : Env w) :
    Calls Tryz.prog 189 #[.slice (some ⟨w.heap.size, 0, none⟩) 2 2] (two w m n) fun e w' => e = .returned (.tuple #[.string (sI (m + n)), .int .i64 0]) ∧ Below w.heap.size w w' := by
  have h := two_row w m n
  refine (sum_two m n (two w m n) w.heap.size (by simp) hm hn hmn (he.below (two_below w m n)) (h 0 (by simp)) (h 1 (by simp))).mono ?_
  rintro e w' ⟨h1, h2⟩
  exact ⟨h1, (two_below w m n).trans (h2.mono (two_below w m n).size)⟩

set_option maxRecDepth 100000 in
set_option maxHeartbeats 2000000 in
theorem add_any (m n : Int) (w : World) (hm : Fit m) (hn : Fit n) (hmn : Fit (m + n)) (he : Env w) :
    Calls Tryz.prog 166 #[.string (sI m), .string (sI n)] w fun e w' => e = .returned (.tuple #[.string (sI (m + n)), .int .i64 0]) ∧ Below w.heap.size w w' := by
  have KE := Lib.hid (show ∀ W, Below w.heap.size w W → Env W from fun W hW => he.below hW)
  clear he
  by_cases hs : (sI m).size ≤ 9 ∧ (sI n).size ≤ 9
  · obtain ⟨hs1, hs2⟩ := hs
    obtain ⟨m1, m2⟩ := sI_short hs1
    obtain ⟨n1, n2⟩ := sI_short hs2
    go_enter Tryz.func166, Tryz.ntmps166
    go_wp2_with fail
    refine (all_two w m n hm hn).mono ?_
    rintro e w1 ⟨rfl, hb1⟩
    go_wp2_with fail
    refine (small_yes m n _ hs1 hs2).mono ?_
    rintro e w2 ⟨rfl, hb2⟩
    have hb3 := hb1.trans (hb2.mono hb1.size)
    go_wp2_with fail
    refine (result_any (m + n) _ (by omega) (by omega) (KE.out _ hb3)).mono ?_
    rintro e w4 ⟨rfl, hb4⟩
    go_wp2
    go_ret2
    exact ⟨rfl, hb3.trans (hb4.mono hb3.size)⟩
  · have hs' : 9 < (sI m).size ∨ 9 < (sI n).size := by omega
    clear hs
    go_enter Tryz.func166, Tryz.ntmps166
    go_wp2_with fail
    refine (all_two w m n hm hn).mono ?_
    rintro e w1 ⟨rfl, hb1⟩
    go_wp2_with fail
    refine (small_no m n _ hs').mono ?_
    rintro e w2 ⟨rfl, rfl⟩
    go_wp2_with fail
    refine (sum_two' _ m n hm hn hmn (KE.out _ hb1)).mono ?_
    rintro e w4 ⟨rfl, hb4⟩
    go_wp2
    go_ret2
    exact ⟨rfl, hb1.trans (hb4.mono hb1.size)⟩

theorem fit_neg {n : Int} (h : Fit n) : Fit (-n) := by unfold Fit at *; rw [Int.natAbs_neg]; exact h

set_option maxRecDepth 100000 in
set_option maxHeartbeats 2000000 in
theorem sub_any (m n : Int) (w : World) (hm : Fit m) (hn : Fit n) (hmn : Fit (m - n)) (he : Env w) :
    Calls Tryz.prog 164 #[.string (sI m), .string (sI n)] w fun e w' => e = .returned (.tuple #[.string (sI (m - n)), .int .i64 0]) ∧ Below w.heap.size w w' := by
  have KE := Lib.hid (show ∀ W, Below w.heap.size w W → Env W from fun W hW => he.below hW)
  have HE := Lib.hid (show m - n = m + -n from Int.sub_eq_add_neg)
  clear he
  go_enter Tryz.func164, Tryz.ntmps164
  go_wp2_with fail
  refine (all_two w m n hm hn).mono ?_
  rintro e w1 ⟨rfl, hb1⟩
  go_wp2_with fail
  refine (opposite_any n _ (by have := hn.size; omega)).mono ?_
  rintro e w2 ⟨rfl, rfl⟩
  go_wp2_with fail
  refine (add_any m (-n) _ hm (fit_neg hn) (by rw [← HE.out]; exact hmn) (KE.out _ hb1)).mono ?_
  rintro e w4 ⟨rfl, hb4⟩
  go_wp2
  go_ret2
  exact ⟨ret_pairI HE.out.symm, hb1.trans (hb4.mono hb1.size)⟩

theorem mul_sv (m n : Int) : sv (decide (m < 0) != decide (n < 0)) (m.natAbs * n.natAbs) = m * n := by
  have e1 := sv_of m
  have e2 := sv_of n
  generalize decide (m < 0) = a at *
  generalize decide (n < 0) = b at *
  generalize m.natAbs = x at *
  generalize n.natAbs = y at *
  subst e1; subst e2
  unfold sv
  cases a <;> cases b <;> simp <;> grind

set_option maxRecDepth 100000 in
set_option maxHeartbeats 2000000 in
theorem mul_any (m n : Int) (w : World) (hm : Fit m) (hn : Fit n) (hmn : Fit (m * n)) (he : Env w) :
    Calls Tryz.prog 165 #[.string (sI m), .string (sI n)] w fun e w' => e = .returned (.tuple #[.string (sI (m * n)), .int .i64 0]) ∧ Below w.heap.size w w' := by
  have KE := Lib.hid (show ∀ W, Below w.heap.size w W → Env W from fun W hW => he.below hW)
  clear he
  by_cases hs : (sI m).size ≤ 9 ∧ (sI n).size ≤ 9
  · obtain ⟨hs1, hs2⟩ := hs
    obtain ⟨m1, m2⟩ := sI_short hs1
    obtain ⟨n1, n2⟩ := sI_short hs2
    have hp : -1000000000000000000 ≤ m * n ∧ m * n ≤ 1000000000000000000 := by
      have h1 : (m * n).natAbs = m.natAbs * n.natAbs := Int.natAbs_mul m n
      have h2 : m.natAbs * n.natAbs ≤ 999999999 * 999999999 := Nat.mul_le_mul (by omega) (by omega)
      omega
    obtain ⟨p1, p2⟩ := hp
    go_enter Tryz.func165, Tryz.ntmps165
    go_wp2_with fail
    refine (all_two w m n hm hn).mono ?_
    rintro e w1 ⟨rfl, hb1⟩
    go_wp2_with fail
    refine (small_yes m n _ hs1 hs2).mono ?_
    rintro e w2 ⟨rfl, hb2⟩
    have hb3 := hb1.trans (hb2.mono hb1.size)
    go_wp2_with fail
    refine (result_any (m * n) _ (by omega) (by omega) (KE.out _ hb3)).mono ?_
    rintro e w4 ⟨rfl, hb4⟩
    go_wp2
    go_ret2
    exact ⟨rfl, hb3.trans (hb4.mono hb3.size)⟩
  · have hs' : 9 < (sI m).size ∨ 9 < (sI n).size := by omega
    have HM := Lib.hid (mul_sv m n)
    have hf : Fit (sv (decide (m < 0) != decide (n < 0)) (m.natAbs * n.natAbs)) := by rw [HM.out]; exact hmn
    have hnn := Lib.hid (show nw (m.natAbs * n.natAbs) ≤ 232 by
      rw [nw_le]
      have h1 := fit_lt hm
      have h2 := fit_lt hn
      have h3 : m.natAbs * n.natAbs < BW ^ 114 * BW ^ 114 := Nat.mul_lt_mul'' h1 h2
      rw [← Nat.pow_add] at h3
      exact Nat.lt_of_lt_of_le h3 (Nat.pow_le_pow_right BW_pos (by omega)))
    have hww := Lib.hid (show nw m.natAbs + nw n.natAbs ≤ 232 by have := fit_nw hm; have := fit_nw hn; omega)
    clear hs
    go_enter Tryz.func165, Tryz.ntmps165
    go_wp2_with fail
    refine (all_two w m n hm hn).mono ?_
    rintro e w1 ⟨rfl, hb1⟩
    go_wp2_with fail
    refine (small_no m n _ hs').mono ?_
    rintro e w2 ⟨rfl, rfl⟩
    go_wp2_with fail
    refine (read_sI m _ hm).mono ?_
    rintro e w3 ⟨g3, rfl, hg3, hr3, hb3⟩
    go_wp2_with fail
    refine (read_sI n _ hn).mono ?_
    rintro e w4 ⟨g4, rfl, hg4, hr4, hb4⟩
    go_wp2_with fail
    refine (times_any _ g3 g4 _ _ _ _ (hr3.below hb4 hr3.lt) hr4 hww.out).mono ?_
    rintro e w5 ⟨g5, rfl, hg5, hr5, hb5⟩
    have hb6 := hb1.trans (((hb3.trans (hb4.mono hb3.size)).trans (hb5.mono (Nat.le_trans hb3.size hb4.size))).mono hb1.size)
    go_wp2_with fail
    refine (limited_any _ g5 _ _ hr5 hnn.out (KE.out _ hb6) hf).mono ?_
    rintro e w7 ⟨rfl, hb7⟩
    go_wp2
    go_ret2
    exact ⟨ret_pairI HM.out, hb6.trans (hb7.mono hb6.size)⟩
end Go.Proofs.YtbdckemkmocdlaaGreatDoor

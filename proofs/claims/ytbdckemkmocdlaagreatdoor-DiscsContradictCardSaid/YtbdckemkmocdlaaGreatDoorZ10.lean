/- What the calls of Go's library ask of the world; whole.Check. -/
import Derived.Test.YtbdckemkmocdlaaGreatDoorZ03
import Derived.Test.YtbdckemkmocdlaaGreatDoorZ09
import Derived.Test.YtbdckemkmocdlaaGreatDoorZ05
set_option linter.unusedVariables false
set_option linter.unusedSimpArgs false
namespace Go.Proofs.YtbdckemkmocdlaaGreatDoor
open Go.RowKit

/-- what Go's library asks of the world: its variables are there, its table of powers of ten is laid -/
def Env (w : World) : Prop := w.ShapedOpen Tryz.prog ∧ Lib.TabIs Tryz.prog w "internal/strconv.uint64pow10" .u64 Lib.pow10Tab

theorem globalPow0 : (Tryz.prog.globalNamed "internal/strconv.uint64pow10").isSome = true := by kernel_rfl
theorem globalPow : ∃ g, Tryz.prog.globalNamed "internal/strconv.uint64pow10" = some g := Option.isSome_iff_exists.1 globalPow0

theorem Env.below {w w' : World} (h : Env w) (hb : Below w.heap.size w w') : Env w' := by
  obtain ⟨g, hg⟩ := globalPow
  refine ⟨h.1.keptBut (hb.frame (fun _ => False)) (fun _ h => h.elim), ?_⟩
  have h2 := h.2
  simp only [Lib.TabIs, World.var?, hg, Option.bind_some] at h2 ⊢
  have hlt : g < w.heap.size := by
    apply Classical.byContradiction; intro hc
    rw [Array.getElem?_eq_none (by omega)] at h2; simp at h2
  rw [hb.block g hlt]; exact h2

theorem below_same (w : World) (k : Nat) (B : Nat) : Below B w (w.drewN k) := below_drewN (Below.refl B w) k

theorem h116 : (Tryz.prog.info? (Tryz.lays160_ren.t 116)).map (fun i => (i.zero, i.size)) = some (some (.agg (Array.replicate 256 (.bool false))), 256) := by kernel_rfl

theorem trim_digits (s : ByteArray) (w : World) (hs : s.size < 4294967281) :
    Calls Tryz.prog 110 #[.string s, .string ⟨#[48, 49, 50, 51, 52, 53, 54, 55, 56, 57]⟩] w fun e w' => e = .returned (.string ⟨(Lib.trimS s.data.toList digits10).toArray⟩) ∧ Below w.heap.size w w' :=
  Any.strings_Trim_laid Tryz.lays160 h116 s ⟨#[48, 49, 50, 51, 52, 53, 54, 55, 56, 57]⟩ w (by omega) (by decide) (ascii_of_all (by decide))

theorem trimPrefix_len (l p : List UInt8) : (Lib.trimPrefix l p).length ≤ l.length := by
  unfold Lib.trimPrefix; split
  · simp
  · exact Nat.le_refl _

theorem ba_eq {d : ByteArray} {l : List UInt8} (h : d.data.toList = l) : (⟨l.toArray⟩ : ByteArray) = d := by
  subst h; rfl
theorem ba_ex (l : List UInt8) : ∃ d : ByteArray, d.data.toList = l := ⟨⟨l.toArray⟩, by simp⟩
theorem ba_size (d : ByteArray) : d.size = d.data.toList.length := by rw [Array.length_toList]; rfl

theorem trimPrefix_d (s d : ByteArray) (w : World) (hd : d.data.toList = Lib.trimPrefix s.data.toList [45]) :
    Calls Tryz.prog 109 #[.string s, .string ⟨#[45]⟩] w fun e w' => e = .returned (.string d) ∧ w = w' :=
  (Tryz.strings_TrimPrefix s ⟨#[45]⟩ w).mono fun e w' ⟨h1, h2⟩ => ⟨by rw [h1, ← ba_eq hd], h2.symm⟩

theorem trim_d (s d : ByteArray) (w : World) (hs : s.size < 4294967281) (hd : d.data.toList = Lib.trimS s.data.toList digits10) :
    Calls Tryz.prog 110 #[.string s, .string ⟨#[48, 49, 50, 51, 52, 53, 54, 55, 56, 57]⟩] w fun e w' => e = .returned (.string d) ∧ Below w.heap.size w w' :=
  (trim_digits s w hs).mono fun e w' ⟨h1, h2⟩ => ⟨by rw [h1, ← ba_eq hd], h2⟩

theorem ret_int {k : IntKind} {a b : Int} (h : a = b) : Ending.returned (.int k a) = .returned (.int k b) := by rw [h]
theorem str_t {d : ByteArray} (h : d.data.toList = []) : d.toList.isEmpty = true := by rw [ByteArray.toList_eq, h]; rfl
theorem str_f {d : ByteArray} (h : ¬ d.data.toList = []) : d.toList.isEmpty = false := by rw [ByteArray.toList_eq]; simpa using h
theorem head_ba (d : ByteArray) (h : 0 < d.size) (c : UInt8) : d.data.toList.head? = some c ↔ (d[0].toNat : Int) = (c.toNat : Int) := by
  obtain ⟨⟨l⟩⟩ := d
  cases l with
  | nil => exact absurd h (by decide)
  | cons a l =>
    simp only [List.head?_cons, Option.some.injEq]
    constructor
    · intro e; subst e; rfl
    · intro e; apply UInt8.toNat_inj.1; exact_mod_cast e

set_option maxRecDepth 100000 in
set_option maxHeartbeats 1000000 in
theorem check_any (s : ByteArray) (w : World) (hs : s.size < 4294967281) :
    Calls Tryz.prog 70 #[.string s] w fun e w' => e = .returned (.int .i64 (chkW s.data.toList)) ∧ Below w.heap.size w w' := by
  obtain ⟨d, hd⟩ := ba_ex (Lib.trimPrefix s.data.toList [45])
  obtain ⟨t, ht⟩ := ba_ex (Lib.trimS d.data.toList digits10)
  have hds : d.size ≤ s.size := by rw [ba_size, ba_size, hd]; exact trimPrefix_len _ _
  have HC := Lib.hid (show chkW s.data.toList = if d.data.toList = [] then 3 else if t.data.toList ≠ [] then 3 else if d.data.toList.head? = some 48 ∧ s.data.toList ≠ [48] then 3 else if 1024 < d.size then 11 else 0 by
    rw [ba_size, ht, hd]; rfl)
  have HD := Lib.hid hd
  have HT := Lib.hid ht
  clear hd ht
  by_cases h1 : d.data.toList = []
  · have t1 := str_t h1
    have HV := Lib.hid (show chkW s.data.toList = 3 by rw [HC.out, if_pos h1])
    clear h1
    go_enter Tryz.func70, Tryz.ntmps70
    go_wp2_with (first | (go_at_call 109; refine (trimPrefix_d s d _ HD.out).mono ?_; rintro e w1 ⟨rfl, rfl⟩))
    go_ret
    exact ⟨ret_int HV.out.symm, Below.refl _ _⟩
  · have t1 := str_f h1
    have hdp : 0 < d.size := by rw [ba_size]; exact List.length_pos_iff.2 h1
    by_cases h2 : t.data.toList = []
    · have t2 := str_t h2
      have hh := head_ba d hdp 48
      by_cases h3 : d.data.toList.head? = some 48
      · have t3 : (d[0].toNat : Int) = 48 := hh.1 h3
        by_cases h4 : s.data.toList = [48]
        · have t4 : (s.toList == [48]) = true := by rw [ByteArray.toList_eq, h4]; rfl
          have hl : ¬ 1024 < d.size := by
            have := hds; rw [ba_size s, h4] at this; simp at this; omega
          have HV := Lib.hid (show chkW s.data.toList = 0 by rw [HC.out, if_neg h1, if_neg (by simpa using h2), if_neg (by simp [h4]), if_neg hl])
          clear h1 h2 h3 h4 hh
          go_enter Tryz.func70, Tryz.ntmps70
          go_wp2_with (first | (go_at_call 109; refine (trimPrefix_d s d _ HD.out).mono ?_; rintro e w1 ⟨rfl, rfl⟩) | (go_at_call 110; refine (trim_d d t _ (by omega) HT.out).mono ?_; rintro e w1 ⟨rfl, hb1⟩))
          go_ret
          exact ⟨ret_int HV.out.symm, hb1⟩
        · have t4 : (s.toList == [48]) = false := by rw [ByteArray.toList_eq]; simpa using h4
          have HV := Lib.hid (show chkW s.data.toList = 3 by rw [HC.out, if_neg h1, if_neg (by simpa using h2), if_pos ⟨h3, h4⟩])
          clear h1 h2 h3 h4 hh
          go_enter Tryz.func70, Tryz.ntmps70
          go_wp2_with (first | (go_at_call 109; refine (trimPrefix_d s d _ HD.out).mono ?_; rintro e w1 ⟨rfl, rfl⟩) | (go_at_call 110; refine (trim_d d t _ (by omega) HT.out).mono ?_; rintro e w1 ⟨rfl, hb1⟩))
          go_ret
          exact ⟨ret_int HV.out.symm, hb1⟩
      · have t3 : ((d[0].toNat : Int) == 48) = false := by simpa using fun e => h3 (hh.2 e)
        by_cases hl : 1024 < d.size
        · have HV := Lib.hid (show chkW s.data.toList = 11 by rw [HC.out, if_neg h1, if_neg (by simpa using h2), if_neg (fun h => h3 h.1), if_pos hl])
          clear h1 h2 h3 hh
          go_enter Tryz.func70, Tryz.ntmps70
          go_wp2_with (first | (go_at_call 109; refine (trimPrefix_d s d _ HD.out).mono ?_; rintro e w1 ⟨rfl, rfl⟩) | (go_at_call 110; refine (trim_d d t _ (by omega) HT.out).mono ?_; rintro e w1 ⟨rfl, hb1⟩))
          go_ret
          exact ⟨ret_int HV.out.symm, hb1⟩
        · have HV := Lib.hid (show chkW s.data.toList = 0 by rw [HC.out, if_neg h1, if_neg (by simpa using h2), if_neg (fun h => h3 h.1), if_neg hl])
          clear h1 h2 h3 hh
          go_enter Tryz.func70, Tryz.ntmps70
          go_wp2_with (first | (go_at_call 109; refine (trimPrefix_d s d _ HD.out).mono ?_; rintro e w1 ⟨rfl, rfl⟩) | (go_at_call 110; refine (trim_d d t _ (by omega) HT.out).mono ?_; rintro e w1 ⟨rfl, hb1⟩))
          go_ret
          exact ⟨ret_int HV.out.symm, hb1⟩
    · have t2 := str_f h2
      have HV := Lib.hid (show chkW s.data.toList = 3 by rw [HC.out, if_neg h1, if_pos h2])
      clear h1 h2
      go_enter Tryz.func70, Tryz.ntmps70
      go_wp2_with (first | (go_at_call 109; refine (trimPrefix_d s d _ HD.out).mono ?_; rintro e w1 ⟨rfl, rfl⟩) | (go_at_call 110; refine (trim_d d t _ (by omega) HT.out).mono ?_; rintro e w1 ⟨rfl, hb1⟩))
      go_ret
      exact ⟨ret_int HV.out.symm, hb1⟩
end Go.Proofs.YtbdckemkmocdlaaGreatDoor

/- the law DiscsContradict. -/
import Derived.Test.YtbdckemkmocdlaaGreatDoorZ41
import Derived.Test.YtbdckemkmocdlaaGreatDoorZ37
set_option linter.all false
set_option exponentiation.threshold 2000000
namespace Go.Proofs.YtbdckemkmocdlaaGreatDoor
open Go.RowKit

attribute [local irreducible] sI sQ

theorem tries_len {m : Nat} {y : List Nat} (h : y ∈ tries m) : y.length ≤ 3 := by
  unfold tries at h
  rcases List.mem_append.1 h with h | h
  · unfold prs pr at h
    simp only [List.mem_flatMap, List.mem_map] at h
    obtain ⟨_, _, _, _, rfl⟩ := h
    simp
  · unfold trs trj tr at h
    simp only [List.mem_flatMap, List.mem_map] at h
    obtain ⟨_, _, _, _, _, _, rfl⟩ := h
    simp
theorem apartQ_len (l : List QD) : (apartQ l).length ≤ 3 := by
  unfold apartQ
  cases hf : (tries l.length).find? (badQ l) with
  | none => simp
  | some y => exact tries_len (List.mem_of_find?_eq_some hf)
theorem spQ_len (l : List QD) (n : Nat) : (spQ l n).length ≤ n := by unfold spQ; exact Nat.le_trans (List.length_filter_le _ _) (by simp)

/-- short texts: short numbers -/
theorem bs_of {L : List QD} (h12 : ∀ d ∈ L.map QD.t, short12 d.x d.y d.q = true) (hbg : ∀ d ∈ L, Bg d) : ∀ d ∈ L, Bs d := by
  intro d hd
  have h3 := (short12_nth _ _ _).1 (h12 d.t (List.mem_map_of_mem hd))
  exact ⟨⟨sz_short (h3 0 (by omega)), sz_short (h3 1 (by omega)), sz_short (h3 2 (by omega))⟩, (hbg d hd).q0⟩
theorem bg_apart {L : List QD} (hbg : ∀ d ∈ L, Bg d) : FitApart L := ⟨fun _ ho _ _ _ => bg_prove (fun d hd => hbg d (ho d hd)) _ _ _⟩

/-- both sides answer alike -/
theorem contra_both (w : World) (v : Value) (l : List TD) (hS : SL w v l) (hf : fewT l = true) : ∃ (A B : List Nat) (n : Int), A.length ≤ 1000000 ∧ B.length ≤ 1000000 ∧
    (∀ W, Below w.heap.size w W → Env W → Calls Tryz.prog 25 #[v] W fun e w' => ∃ u, e = .returned (.tuple #[u, .int .i64 n]) ∧ IRow w' u A ∧ Below W.heap.size W w') ∧
    (∀ W, Below w.heap.size w W → Calls Tryz.prog 26 #[v] W fun e w' => ∃ u, e = .returned (.tuple #[u, .int .i64 n]) ∧ IRow w' u A ∧ Below W.heap.size W w') ∧
    (∀ W, Below w.heap.size w W → Env W → Calls Tryz.prog 27 #[v] W fun e w' => ∃ u, e = .returned (.tuple #[u, .int .i64 n]) ∧ IRow w' u B ∧ Below W.heap.size W w') ∧
    (∀ W, Below w.heap.size w W → Calls Tryz.prog 28 #[v] W fun e w' => ∃ u, e = .returned (.tuple #[u, .int .i64 n]) ∧ IRow w' u B ∧ Below W.heap.size W w') := by
  obtain ⟨hl, hfew⟩ := few_cases hf
  have HD : ∀ W, Below w.heap.size w W → Env W → ∀ W', Below W.heap.size W W' → Calls Tryz.prog 46 #[v] W' fun e w' => e = .returned (.int .i64 (chkL l)) ∧ Below W'.heap.size W' w' :=
    fun W hW he W' hW' => dlistS v l W' (hS.below (hW.trans (hW'.mono hW.size))) hl (fun h => (hfew h).2.2) (he.below hW')
  have HR : ∀ W, Below w.heap.size w W → ∀ W', Below W.heap.size W W' → Calls Tryz.prog 48 #[v] W' fun e w' => e = .returned (.int .i64 (chkL l)) ∧ Below W'.heap.size W' w' :=
    fun W hW W' hW' => rlistS v l W' (hS.below (hW.trans (hW'.mono hW.size))) hl (fun h => (hfew h).2.2)
  have hsl : ∃ a m c, v = .slice a m c := by
    rcases hS with ⟨a, c, h, _⟩ | ⟨_, _, c, h, _⟩
    · exact ⟨_, _, _, h⟩
    · exact ⟨_, _, _, h⟩
  by_cases hc : chkL l = 0
  · have h64 : l.length ≤ 64 := by
      apply Classical.byContradiction
      intro h
      rw [chkL_many (by omega)] at hc; cases hc
    obtain ⟨h12, h5, hsh⟩ := hfew h64
    obtain ⟨L, rfl, hbg, hne⟩ := good_list h12 hc
    rw [hc] at HD HR
    have hbs := bs_of h12 hbg
    rcases hS with ⟨_, _, _, h⟩ | ⟨b, o, cap, rfl, hb, hr⟩
    · exact absurd (List.map_eq_nil_iff.1 h) hne
    · rw [List.length_map] at hl HD HR ⊢
      refine ⟨apartQ L, spQ L L.length, 0, Nat.le_trans (apartQ_len L) (by omega), Nat.le_trans (spQ_len L _) hl, fun W hW he => ?_, fun W hW => ?_, fun W hW he => ?_, fun W hW => ?_⟩
      · exact dcontra_ok b o cap L W hl hsh (DRow.below hr hW hb) (Nat.lt_of_lt_of_le hb hW.size) hc (bg_apart hbg) he
      · exact rcontra_ok b o cap L W hl (DRow.below hr hW hb) (Nat.lt_of_lt_of_le hb hW.size) hbg (HR W hW)
      · exact dredundant_ok b o cap L W hl hsh (DRow.below hr hW hb) (Nat.lt_of_lt_of_le hb hW.size) hc hbs he
      · exact rredundant_ok b o cap L W hl (DRow.below hr hW hb) (Nat.lt_of_lt_of_le hb hW.size) hbs (HR W hW)
  · refine ⟨[], [], chkL l, by simp, by simp, fun W hW he => ?_, fun W hW => ?_, fun W hW he => ?_, fun W hW => ?_⟩
    · exact (dcontradiction_err v (chkL l) hc W hsl (HD W hW he)).mono fun e w' ⟨h1, h2⟩ => ⟨_, h1, .inl ⟨rfl, rfl⟩, h2⟩
    · exact (rcontradiction_err v (chkL l) hc W (HR W hW)).mono fun e w' ⟨h1, h2⟩ => ⟨_, h1, .inl ⟨rfl, rfl⟩, h2⟩
    · exact (dredundant_err v (chkL l) hc W hsl (HD W hW he)).mono fun e w' ⟨h1, h2⟩ => ⟨_, h1, .inl ⟨rfl, rfl⟩, h2⟩
    · exact (rredundant_err v (chkL l) hc W (HR W hW)).mono fun e w' ⟨h1, h2⟩ => ⟨_, h1, .inl ⟨rfl, rfl⟩, h2⟩

set_option maxRecDepth 100000 in
set_option maxHeartbeats 2000000 in
theorem lawContradict_any (v : Value) (l : List TD) (w : World) (hS : SL w v l) (hl : l.length ≤ 9223372036854775807) (he : Env w) :
    Calls Tryz.prog 7 #[v] w fun e w' => e = .returned (.bool true) ∧ Below w.heap.size w w' := by
  have KE := Lib.hid (show ∀ W, Below w.heap.size w W → Env W from fun W hW => he.below hW)
  have M1 := Lib.hid (rfewS v l w hS hl)
  have MB := Lib.hid (fun (h : fewT l = true) => contra_both w v l hS h)
  have MW := Lib.hid (fun W hW => awake_any W (KE.out W hW))
  clear he hS
  go_enter Tryz.func7, Tryz.ntmps7
  go_wp2_with fail
  refine M1.out.mono ?_
  rintro e w1 ⟨rfl, hb1⟩
  by_cases hs : fewT l = true
  · obtain ⟨A, B, n, hA, hB, h1, h2, h3, h4⟩ := MB.out hs
    have MA := Lib.hid h1
    have MR := Lib.hid h2
    have MC := Lib.hid h3
    have MD := Lib.hid h4
    have t0 : (n == n) = true := by simp
    rw [hs]
    clear MB M1 h1 h2 h3 h4 hs
    go_wp2_with fail
    refine (MA.out _ hb1 (KE.out _ hb1)).mono ?_
    rintro e w2 ⟨u1, rfl, i1, hb2⟩
    have hb3 := hb1.trans (hb2.mono hb1.size)
    have I1 := Lib.hid i1
    clear i1 hb1 hb2
    go_wp2_with fail
    refine (MR.out _ hb3).mono ?_
    rintro e w3 ⟨u2, rfl, i2, hb4⟩
    have hb5 := hb3.trans (hb4.mono hb3.size)
    have J1 := Lib.hid (I1.out.below hb4)
    have I2 := Lib.hid i2
    clear i2 hb3 hb4 I1
    go_wp2_with fail
    refine (MC.out _ hb5 (KE.out _ hb5)).mono ?_
    rintro e w4 ⟨u3, rfl, i3, hb6⟩
    have hb7 := hb5.trans (hb6.mono hb5.size)
    have K1 := Lib.hid (J1.out.below hb6)
    have K2 := Lib.hid (I2.out.below hb6)
    have I3 := Lib.hid i3
    clear i3 hb5 hb6 J1 I2
    go_wp2_with fail
    refine (MD.out _ hb7).mono ?_
    rintro e w5 ⟨u4, rfl, i4, hb8⟩
    have hb9 := hb7.trans (hb8.mono hb7.size)
    have L1 := Lib.hid (K1.out.below hb8)
    have L2 := Lib.hid (K2.out.below hb8)
    have L3 := Lib.hid (I3.out.below hb8)
    have I4 := Lib.hid i4
    clear i4 hb7 hb8 K1 K2 I3
    go_wp2_with fail
    refine (MW.out _ hb9).mono ?_
    rintro e w6 ⟨rfl, hb10⟩
    have hb11 := hb9.trans (hb10.mono hb9.size)
    have MS := Lib.hid (same_any u1 u2 A w6 (L1.out.below hb10) (L2.out.below hb10) hA)
    have MT := Lib.hid (show ∀ W, Below w6.heap.size w6 W → _ from fun W hW => same_any u3 u4 B W ((L3.out.below hb10).below hW) ((I4.out.below hb10).below hW) hB)
    clear L1 L2 L3 I4 hb10 hb9
    go_wp2_with fail
    refine MS.out.mono ?_
    rintro e w7 ⟨rfl, hb12⟩
    have hb13 := hb11.trans (hb12.mono hb11.size)
    go_wp2_with fail
    refine (MT.out _ hb12).mono ?_
    rintro e w8 ⟨rfl, hb14⟩
    go_wp2_with fail
    go_ret
    exact ⟨rfl, hb13.trans (hb14.mono hb13.size)⟩
  · rw [Bool.not_eq_true] at hs
    rw [hs]
    clear MB M1 hs
    go_wp2_with fail
    refine (MW.out _ hb1).mono ?_
    rintro e w7 ⟨rfl, hb7⟩
    go_wp2_with fail
    go_ret
    exact ⟨rfl, hb1.trans (hb7.mono hb1.size)⟩
end Go.Proofs.YtbdckemkmocdlaaGreatDoor

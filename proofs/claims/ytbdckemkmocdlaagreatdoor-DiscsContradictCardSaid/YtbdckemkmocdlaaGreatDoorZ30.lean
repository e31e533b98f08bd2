/- package discs: Contradiction. -/
import Derived.Test.YtbdckemkmocdlaaGreatDoorZ29
import Derived.Test.YtbdckemkmocdlaaGreatDoorZ02
import Derived.Laws.EntriesVeiled
import Derived.Test.YtbdckemkmocdlaaGreatDoorZ17
import Derived.Test.YtbdckemkmocdlaaGreatDoorZ09
import Derived.Test.YtbdckemkmocdlaaGreatDoorZ16
set_option linter.all false
set_option exponentiation.threshold 2000000
namespace Go.Proofs.YtbdckemkmocdlaaGreatDoor
open Go.RowKit

attribute [local irreducible] sI sQ

/-- discs of a list at some places -/
def atQ (l : List QD) (ix : List Nat) : List QD := ix.filterMap (fun i => l[i]?)
noncomputable def badQ (l : List QD) (ix : List Nat) : Bool := (firstQ (atQ l ix)).isNone
/-- two or three discs without a common place -/
noncomputable def apartQ (l : List QD) : List Nat := ((tries l.length).find? (badQ l)).getD []

/-- a slice of whole numbers -/
def IRow (w : World) (v : Value) (l : List Nat) : Prop :=
  (l = [] ∧ v = .slice none 0 0) ∨ ∃ g cp, v = .slice (some ⟨g, 0, none⟩) l.length cp ∧ g < w.heap.size ∧ ∀ k, ∀ h : k < l.length, w.cell? ⟨g, k, none⟩ = some (.int .i64 (l[k] : Int))

structure FitApart (l : List QD) : Prop where
  fit : ∀ own : List QD, (∀ d ∈ own, d ∈ l) → own.length ≤ 3 → ∀ x ∈ wits own.length, FitProve own x.1 x.2.1 x.2.2


set_option maxRecDepth 100000 in
set_option maxHeartbeats 4000000 in
theorem dcontra_ok (b o cap : Nat) (l : List QD) (w : World) (hl : l.length ≤ 1000000) (hs : ∀ d ∈ l.map QD.t, d.short) (hr : QRow w b o l) (hb : b < w.heap.size) (hc : chkL (l.map QD.t) = 0)
    (hf : FitApart l) (he : Env w) :
    Calls Tryz.prog 25 #[.slice (some ⟨b, o, none⟩) l.length cap] w fun e w' =>
      ∃ v, e = .returned (.tuple #[v, .int .i64 0]) ∧ IRow w' v (apartQ l) ∧ Below w.heap.size w w' := by
  have b1 := (Below.refl w.heap.size w).alloc (Nat.le_refl _) (.cells #[.slice (some ⟨b, o, none⟩) l.length cap] 37 (0, 0))
  have a1 := CB.new w #[.slice (some ⟨b, o, none⟩) l.length cap] 37
  have HL := Lib.hid (dlist_any b o cap (l.map QD.t) _ (by simpa using hl) hs (hr.below b1 hb) (Nat.lt_of_lt_of_le hb b1.size) (he.below b1))
  rw [List.length_map, hc] at HL
  have KE := Lib.hid (show ∀ W, Below w.heap.size w W → Env W from fun W hW => he.below hW)
  have HR := Lib.hid hr
  have HF := Lib.hid hf
  have HA := Lib.hid a1
  have HB := Lib.hid b1
  clear b1 a1 hr he hf hs hc
  go_enter Tryz.func25, Tryz.ntmps25
  go_wp2_with fail
  generalize w.alloc (.cells #[.slice (some ⟨b, o, none⟩) l.length cap] 37 (0, 0)) = W1 at *
  refine HL.out.mono ?_
  rintro e w2 ⟨rfl, hb2⟩
  have hb3 := HB.out.trans (hb2.mono HB.out.size)
  have c2 : w2.cell? ⟨w.heap.size, 0, none⟩ = some (.slice (some ⟨b, o, none⟩) l.length cap) := (hb2.cell (p := ⟨w.heap.size, 0, none⟩) HA.out.lt).trans (HA.out.c 0)
  have o3 := (ok0_newd w2).below ((Below.refl _ _).alloc (Nat.le_refl _) (.cells #[.pointer (some ⟨w2.heap.size, 0, none⟩)] 71 (0, 0)))
  have p3 := CB.new (w2.alloc (.cells #[.int .i64 0] 73 (0, 0))) #[.pointer (some ⟨w2.heap.size, 0, none⟩)] 71
  have x4 := (Below.refl w2.heap.size w2).alloc (Nat.le_refl _) (.cells #[.int .i64 0] 73 (0, 0))
  have x5 := x4.alloc x4.size (.cells #[.pointer (some ⟨w2.heap.size, 0, none⟩)] 71 (0, 0))
  have hlt2 := Nat.lt_of_lt_of_le HA.out.lt hb2.size
  have c3 := (x5.cell (p := ⟨w.heap.size, 0, none⟩) hlt2).trans c2
  have hb5 := hb3.trans (x5.mono hb3.size)
  have hsz : ((w2.alloc (.cells #[.int .i64 0] 73 (0, 0))).alloc (.cells #[.pointer (some ⟨w2.heap.size, 0, none⟩)] 71 (0, 0))).heap.size = w2.heap.size + 1 + 1 := by simp
  simp only [size_alloc] at p3
  have h5 := x5.size
  go_wp2_with fail
  generalize (w2.alloc (.cells #[.int .i64 0] 73 (0, 0))).alloc (.cells #[.pointer (some ⟨w2.heap.size, 0, none⟩)] 71 (0, 0)) = W3 at *
  have s3 := p3.c 0
  have lsb := p3.lt
  have lls := Nat.lt_of_lt_of_le hlt2 h5
  simp at s3
  generalize w2.heap.size + 1 = sb at *
  generalize w2.heap.size = s at *
  have H5 := Lib.hid hb5
  have C3 := Lib.hid c3
  have AP := Lib.hid (show ∀ (W : World) (ab ac : Nat) (ix : List Nat), Below W3.heap.size W3 W → 1 ≤ ix.length → ix.length ≤ 3 → (∀ k, ∀ h : k < ix.length, ix[k] < l.length) →
      (∀ k, ∀ h : k < ix.length, W.cell? ⟨ab, k, none⟩ = some (.int .i64 (ix[k] : Int))) → ab < W.heap.size →
      Calls Tryz.prog 55 #[.slice (some ⟨ab, 0, none⟩) ix.length ac, .pointer (some ⟨w.heap.size, 0, none⟩), .pointer (some ⟨sb, 0, none⟩)] W fun e w' => e = .returned (.bool (badQ l ix)) ∧ Below W.heap.size W w' from by
    intro W ab ac ix hW h1 h3 hi ha hab
    have hlen : ∀ ix : List Nat, (∀ k, ∀ h : k < ix.length, ix[k] < l.length) → (atQ l ix).length = ix.length ∧ ∀ k, ∀ h : k < ix.length, l[ix[k]]? = (atQ l ix)[k]? := by
      intro ix
      induction ix with
      | nil => intro _; exact ⟨rfl, fun k h => absurd h (by simp)⟩
      | cons x ix ih =>
        intro h
        have hx := h 0 (by simp)
        simp at hx
        obtain ⟨e1, e2⟩ := ih (fun k hk => by have := h (k + 1) (by simpa using hk); simpa using this)
        have e3 : atQ l (x :: ix) = l[x] :: atQ l ix := by simp [atQ, List.getElem?_eq_getElem hx]
        rw [e3]
        refine ⟨by simp [e1], fun k hk => ?_⟩
        cases k with
        | zero => simp [List.getElem?_eq_getElem hx]
        | succ k => simpa using e2 k (by simpa using hk)
    obtain ⟨e1, e2⟩ := hlen ix hi
    have hW2 := H5.out.trans (hW.mono H5.out.size)
    exact apart_any s b o cap ab ac w.heap.size sb l (atQ l ix) ix W (o3.below hW) hl (HR.out.below hW2 hb) (Nat.lt_of_lt_of_le hb hW2.size) h3 h1 e1 (fun k h => ⟨hi k h, e2 k h⟩) ha hab
      ((hW.cell (p := ⟨w.heap.size, 0, none⟩) lls).trans c3) (Nat.lt_of_lt_of_le lls hW.size) ((hW.cell (p := ⟨sb, 0, none⟩) lsb).trans s3) (Nat.lt_of_lt_of_le lsb hW.size)
      (by rw [e1]; rw [← e1]; exact HF.out.fit _ (fun d hd => by
        obtain ⟨i, _, h⟩ := List.mem_filterMap.1 hd
        exact List.mem_of_getElem? h) (by rw [e1]; exact h3)) (KE.out _ hW2))
  clear hb2 hb3 hb5 c2 x4 x5 c3 HL KE HR HF HA HB
  go_loopw [22] (fun iv wr => ∃ i : Nat, i ≤ l.length ∧ iv = .int .i64 i ∧ Hid (∀ y ∈ prs l.length i, badQ l y = false) ∧ Below W3.heap.size W3 wr) (fun iv _ => l.length - (intOf iv).toNat)
  case atStart => exact ⟨0, Nat.zero_le _, rfl, Lib.hid (by simp [prs_zero]), Below.refl _ _⟩
  case round =>
    obtain ⟨i, hi, rfl, hB1, hn1⟩ := hrel
    by_cases hlt : i < l.length
    · go_wp2_with fail
      go_loopw [8] (fun jv wr => ∃ j : Nat, i + 1 ≤ j ∧ j ≤ l.length ∧ jv = .int .i64 j ∧ Hid (∀ y ∈ prs l.length i ++ pr i j, badQ l y = false) ∧ Below W3.heap.size W3 wr) (fun jv _ => l.length - (intOf jv).toNat)
      case atStart => exact ⟨i + 1, Nat.le_refl _, by omega, by simp, Lib.hid (by rw [pr_start, List.append_nil]; exact hB1.out), hn1⟩
      case round =>
        clear hB1 hn1
        obtain ⟨j, hij, hj, rfl, hB1, hn1⟩ := hrel
        have c4 := (hn1.cell (p := ⟨w.heap.size, 0, none⟩) lls).trans C3.out
        by_cases hlt2 : j < l.length
        · have hn2 := hn1.alloc hn1.size (.cells #[.int .i64 i, .int .i64 j] 3 (0, 0))
          have hcb := CB.new wr #[.int .i64 i, .int .i64 j] 3
          have M := Lib.hid (AP.out _ wr.heap.size 2 [i, j] hn2 (by simp) (by simp) (by
            intro k hk; rcases (show k = 0 ∨ k = 1 by simp at hk; omega) with rfl | rfl <;> assumption) (by
            intro k hk; rcases (show k = 0 ∨ k = 1 by simp at hk; omega) with rfl | rfl
            · exact hcb.c 0
            · exact hcb.c 1) hcb.lt)
          have HT := Lib.hid (show badQ l [i, j] = false → ∀ y ∈ prs l.length i ++ pr i (j + 1), badQ l y = false from fun h0 y hy => by
            rw [pr_succ i j (by omega), ← List.append_assoc] at hy
            rcases List.mem_append.1 hy with h | h
            · exact hB1.out y h
            · simp at h; rw [h]; exact h0)
          have HN := Lib.hid (show badQ l [i, j] = true → apartQ l = [i, j] from fun h0 => by
            obtain ⟨rest, e⟩ := pair_split l.length i j (by omega) hlt2
            unfold apartQ
            rw [e, find_first hB1.out h0]; rfl)
          have HN2 := Lib.hid hn2
          generalize badQ l [i, j] = r at *
          clear hcb hn2 hB1
          go_wp2_with fail
          refine M.out.mono ?_
          rintro e w5 ⟨rfl, hb5⟩
          have hb6 := HN2.out.trans (hb5.mono HN2.out.size)
          clear M
          cases r
          · have HX := Lib.hid (HT.out rfl)
            go_wp2_with fail
            exact ⟨⟨j + 1, by omega, by omega, by simp, HX, hb6⟩, by simp [intOf]; omega⟩
          · have HX := Lib.hid (HN.out rfl)
            have hb7 := H5.out.trans ((hb6.alloc hb6.size (.cells #[.int .i64 i, .int .i64 j] 3 (0, 0))).mono H5.out.size)
            have hcb := CB.new w5 #[.int .i64 i, .int .i64 j] 3
            have HR := Lib.hid (show IRow (w5.alloc (.cells #[.int .i64 i, .int .i64 j] 3 (0, 0))) (.slice (some ⟨w5.heap.size, 0, none⟩) 2 2) (apartQ l) from by
              rw [HX.out]
              refine .inr ⟨_, _, rfl, hcb.lt, ?_⟩
              intro k hk; rcases (show k = 0 ∨ k = 1 by simp at hk; omega) with rfl | rfl
              · exact hcb.c 0
              · exact hcb.c 1)
            clear hcb hn1
            go_wp2_with fail
            go_ret2
            exact ⟨_, rfl, HR.out, hb7⟩
        · obtain rfl : j = l.length := by omega
          have HT := Lib.hid (show ∀ y ∈ prs l.length (i + 1), badQ l y = false from by rw [prs_succ]; exact hB1.out)
          clear hB1
          go_wp2_with fail
          exact ⟨⟨i + 1, by omega, by simp, HT, hn1⟩, by simp [intOf]; omega⟩
    · obtain rfl : i = l.length := by omega
      have c4 := (hn1.cell (p := ⟨w.heap.size, 0, none⟩) lls).trans C3.out
      have HPR := hB1
      clear hB1
      go_wp2_with fail
      go_loopw [44] (fun iv wr => ∃ i : Nat, i ≤ l.length ∧ iv = .int .i64 i ∧ Hid (∀ y ∈ prs l.length l.length ++ trs l.length i, badQ l y = false) ∧ Below W3.heap.size W3 wr) (fun iv _ => l.length - (intOf iv).toNat)
      case atStart => exact ⟨0, Nat.zero_le _, rfl, Lib.hid (by rw [trs_zero, List.append_nil]; exact HPR.out), hn1⟩
      case round =>
        clear hn1 c4 HPR
        obtain ⟨i, hi, rfl, hB1, hn1⟩ := hrel
        by_cases hlt : i < l.length
        · go_wp2_with fail
          go_loopw [10] (fun jv wr => ∃ j : Nat, i + 1 ≤ j ∧ j ≤ l.length ∧ jv = .int .i64 j ∧ Hid (∀ y ∈ prs l.length l.length ++ (trs l.length i ++ trj l.length i j), badQ l y = false) ∧ Below W3.heap.size W3 wr) (fun jv _ => l.length - (intOf jv).toNat)
          case atStart => exact ⟨i + 1, Nat.le_refl _, by omega, by simp, Lib.hid (by rw [trj_start, List.append_nil]; exact hB1.out), hn1⟩
          case round =>
            clear hB1 hn1
            obtain ⟨j, hij, hj, rfl, hB1, hn1⟩ := hrel
            have c4 := (hn1.cell (p := ⟨w.heap.size, 0, none⟩) lls).trans C3.out
            by_cases hlt2 : j < l.length
            · go_wp2_with fail
              go_loopw [11] (fun kv wr => ∃ k : Nat, j + 1 ≤ k ∧ k ≤ l.length ∧ kv = .int .i64 k ∧ Hid (∀ y ∈ prs l.length l.length ++ (trs l.length i ++ (trj l.length i j ++ tr i j k)), badQ l y = false) ∧ Below W3.heap.size W3 wr) (fun kv _ => l.length - (intOf kv).toNat)
              case atStart => exact ⟨j + 1, Nat.le_refl _, by omega, by simp, Lib.hid (by rw [tr_start, List.append_nil]; exact hB1.out), hn1⟩
              case round =>
                clear hB1 hn1 c4
                obtain ⟨k, hjk, hk, rfl, hB1, hn1⟩ := hrel
                have c4 := (hn1.cell (p := ⟨w.heap.size, 0, none⟩) lls).trans C3.out
                by_cases hlt3 : k < l.length
                · have hn2 := hn1.alloc hn1.size (.cells #[.int .i64 i, .int .i64 j, .int .i64 k] 3 (0, 0))
                  have hcb := CB.new wr #[.int .i64 i, .int .i64 j, .int .i64 k] 3
                  have M := Lib.hid (AP.out _ wr.heap.size 3 [i, j, k] hn2 (by simp) (by simp) (by
                    intro q hq; rcases (show q = 0 ∨ q = 1 ∨ q = 2 by simp at hq; omega) with rfl | rfl | rfl <;> assumption) (by
                    intro q hq; rcases (show q = 0 ∨ q = 1 ∨ q = 2 by simp at hq; omega) with rfl | rfl | rfl
                    · exact hcb.c 0
                    · exact hcb.c 1
                    · exact hcb.c 2) hcb.lt)
                  have HT := Lib.hid (show badQ l [i, j, k] = false → ∀ y ∈ prs l.length l.length ++ (trs l.length i ++ (trj l.length i j ++ tr i j (k + 1))), badQ l y = false from fun h0 y hy => by
                    rw [tr_succ i j k (by omega), ← List.append_assoc, ← List.append_assoc, ← List.append_assoc] at hy
                    rcases List.mem_append.1 hy with h | h
                    · exact hB1.out y (by simpa using h)
                    · simp at h; rw [h]; exact h0)
                  have HN := Lib.hid (show badQ l [i, j, k] = true → apartQ l = [i, j, k] from fun h0 => by
                    obtain ⟨rest, e⟩ := triple_split l.length i j k (by omega) (by omega) hlt3
                    unfold apartQ
                    rw [e, find_first hB1.out h0]; rfl)
                  have HN2 := Lib.hid hn2
                  generalize badQ l [i, j, k] = r at *
                  clear hcb hn2 hB1
                  go_wp2_with fail
                  refine M.out.mono ?_
                  rintro e w5 ⟨rfl, hb5⟩
                  have hb6 := HN2.out.trans (hb5.mono HN2.out.size)
                  clear M
                  cases r
                  · have HX := Lib.hid (HT.out rfl)
                    go_wp2_with fail
                    exact ⟨⟨k + 1, by omega, by omega, by simp, HX, hb6⟩, by simp [intOf]; omega⟩
                  · have HX := Lib.hid (HN.out rfl)
                    have hb7 := H5.out.trans ((hb6.alloc hb6.size (.cells #[.int .i64 i, .int .i64 j, .int .i64 k] 3 (0, 0))).mono H5.out.size)
                    have hcb := CB.new w5 #[.int .i64 i, .int .i64 j, .int .i64 k] 3
                    have HR := Lib.hid (show IRow (w5.alloc (.cells #[.int .i64 i, .int .i64 j, .int .i64 k] 3 (0, 0))) (.slice (some ⟨w5.heap.size, 0, none⟩) 3 3) (apartQ l) from by
                      rw [HX.out]
                      refine .inr ⟨_, _, rfl, hcb.lt, ?_⟩
                      intro q hq; rcases (show q = 0 ∨ q = 1 ∨ q = 2 by simp at hq; omega) with rfl | rfl | rfl
                      · exact hcb.c 0
                      · exact hcb.c 1
                      · exact hcb.c 2)
                    clear hcb hn1
                    go_wp2_with fail
                    go_ret2
                    exact ⟨_, rfl, HR.out, hb7⟩
                · obtain rfl : k = l.length := by omega
                  have HT := Lib.hid (show ∀ y ∈ prs l.length l.length ++ (trs l.length i ++ trj l.length i (j + 1)), badQ l y = false from by rw [trj_succ _ _ _ (by omega)]; exact hB1.out)
                  clear hB1
                  go_wp2_with fail
                  exact ⟨⟨j + 1, by omega, by omega, by simp, HT, hn1⟩, by simp [intOf]; omega⟩
            · obtain rfl : j = l.length := by omega
              have HT := Lib.hid (show ∀ y ∈ prs l.length l.length ++ trs l.length (i + 1), badQ l y = false from by rw [trs_succ]; exact hB1.out)
              clear hB1
              go_wp2_with fail
              exact ⟨⟨i + 1, by omega, by simp, HT, hn1⟩, by simp [intOf]; omega⟩
        · obtain rfl : i = l.length := by omega
          have HX := Lib.hid (show apartQ l = [] from by
            unfold apartQ
            have : (tries l.length).find? (badQ l) = none := by
              rw [List.find?_eq_none]; intro y hy; rw [hB1.out y hy]; simp
            rw [this]; rfl)
          have s4 := (hn1.cell (p := ⟨sb, 0, none⟩) lsb).trans s3
          have k0 := (o3.below hn1).1
          have HN1 := Lib.hid (H5.out.trans (hn1.mono H5.out.size))
          clear hB1 hn1
          go_wp2_with fail
          go_quiet (fail)
          go_wp2_with fail
          go_ret2
          exact ⟨_, rfl, .inl ⟨HX.out, rfl⟩, below_drewN HN1.out _⟩
end Go.Proofs.YtbdckemkmocdlaaGreatDoor

/- Small numbers fit. -/
namespace Go.Proofs.YtbdckemkmocdlaaGreatDoor
open Go.RowKit

/-- a disc of small numbers -/
structure Sm (d : QD) : Prop where
  x : Sz 1 1 d.x
  y : Sz 1 1 d.y
  q : Sz 1 1 d.q
  q0 : 0 ≤ d.q.num

theorem sm_far {a c : QD} (ha : Sm a) (hc : Sm c) : Sz 11 8 (farQ c.x c.y a.x a.y) ∧ FitFar c.x c.y a.x a.y := by
  have h1 := sz_sub hc.x ha.x
  have h2 := sz_sub hc.y ha.y
  exact ⟨(sz_add (sz_mul h1 h1) (sz_mul h2 h2)).mono (by omega) (by omega), ⟨fitSub hc.x ha.x (by omega) (by omega) (by omega), fitSub hc.y ha.y (by omega) (by omega) (by omega), fitMul h1 h1 (by omega) (by omega), fitMul h2 h2 (by omega) (by omega),
    fitAdd (sz_mul h1 h1) (sz_mul h2 h2) (by omega) (by omega) (by omega)⟩⟩

/-- a quotient, also by 0 -/
theorem sz_div' {n d m f : Nat} {a b : Rat} (ha : Sz n d a) (hb : Sz m f b) (h1 : 1 ≤ n + f) (h2 : 1 ≤ d + m) : Sz (n + f) (d + m) (a / b) := by
  by_cases h : b = 0
  · rw [h, Rat.div_def, Rat.inv_zero, Rat.mul_zero]; exact sz_zero.mono h1 h2
  · exact sz_div h ha hb

theorem sm_t {a c : QD} (ha : Sm a) (hc : Sm c) : Sz 24 22 (tQ a c) := by
  have hf := (sm_far ha hc).1
  have h2 := sz_mul sz_two hf
  have h3 := sz_sub (sz_add hf ha.q) hc.q
  exact (sz_div' h3 h2 (by omega) (by omega)).mono (by omega) (by omega)

theorem sm_spot {a c : QD} (ha : Sm a) (hc : Sm c) : FitSpot a c := by
  obtain ⟨hf, hff⟩ := sm_far ha hc
  have h2 := sz_mul sz_two hf
  have h3 := sz_add hf ha.q
  have h4 := sz_sub h3 hc.q
  have ht := sm_t ha hc
  have hx := sz_sub hc.x ha.x
  have hy := sz_sub hc.y ha.y
  have hn : farQ c.x c.y a.x a.y ≠ 0 → 2 * farQ c.x c.y a.x a.y ≠ 0 := by
    intro h0 h
    rcases Rat.mul_eq_zero.1 h with h | h
    · exact absurd h (by decide)
    · exact h0 h
  exact { far := hff, s1 := fitAdd hf ha.q (by omega) (by omega) (by omega), s2 := fitSub h3 hc.q (by omega) (by omega) (by omega), s3 := fitMul sz_two hf (by omega) (by omega),
          s4 := fun h => fitDiv (hn h) h4 h2 (by omega) (by omega), s5 := fitMul ht hx (by omega) (by omega), s6 := fitAdd ha.x (sz_mul ht hx) (by omega) (by omega) (by omega),
          s7 := fitMul ht hy (by omega) (by omega), s8 := fitAdd ha.y (sz_mul ht hy) (by omega) (by omega) (by omega), s9 := fitSub sz_zero hy (by omega) (by omega) (by omega),
          s10 := fun h => fitDiv h ha.q hf (by omega) (by omega), s11 := fitMul ht ht (by omega) (by omega), s12 := fitSub (sz_div' ha.q hf (by omega) (by omega)) (sz_mul ht ht) (by omega) (by omega) (by omega),
          s13 := fitSub sz_zero hx (by omega) (by omega) (by omega) }

/-- what a place of small discs keeps to -/
structure SmP (p : Spt) : Prop where
  fx : Sz 29 25 p.fx
  fy : Sz 29 25 p.fy
  ux : Sz 5 3 p.ux
  uy : Sz 5 3 p.uy
  h : Sz 61 56 p.h
  h0 : 0 ≤ p.h.num

theorem sm_keep {d : QD} {p : Spt} (hd : Sm d) (hp : SmP p) : FitKeep d p := by
  have m1 := sz_sub hp.fx hd.x
  have m2 := sz_sub hp.fy hd.y
  have mm := sz_add (sz_mul m1 m1) (sz_mul m2 m2)
  have uu := sz_add (sz_mul hp.ux hp.ux) (sz_mul hp.uy hp.uy)
  have hu := sz_mul hp.h uu
  have hs := sz_add mm hu
  have ha := sz_sub hs hd.q
  have mu := sz_add (sz_mul m1 hp.ux) (sz_mul m2 hp.uy)
  have hb := sz_mul sz_two mu
  exact { s1 := fitSub hp.fx hd.x (by omega) (by omega) (by omega), s2 := fitSub hp.fy hd.y (by omega) (by omega) (by omega), m1 := fitMul m1 m1 (by omega) (by omega), m2 := fitMul m2 m2 (by omega) (by omega),
          a1 := fitAdd (sz_mul m1 m1) (sz_mul m2 m2) (by omega) (by omega) (by omega), m3 := fitMul hp.ux hp.ux (by omega) (by omega), m4 := fitMul hp.uy hp.uy (by omega) (by omega),
          a2 := fitAdd (sz_mul hp.ux hp.ux) (sz_mul hp.uy hp.uy) (by omega) (by omega) (by omega), m5 := fitMul hp.h uu (by omega) (by omega), a3 := fitAdd mm hu (by omega) (by omega) (by omega),
          s3 := fitSub hs hd.q (by omega) (by omega) (by omega), m6 := fitMul m1 hp.ux (by omega) (by omega), m7 := fitMul m2 hp.uy (by omega) (by omega),
          a4 := fitAdd (sz_mul m1 hp.ux) (sz_mul m2 hp.uy) (by omega) (by omega) (by omega), m8 := fitMul sz_two mu (by omega) (by omega), r := rootFit ha hb hp.h (by omega) (by omega), h := hp.h0 }

theorem sm_reach {l : List QD} (hl : ∀ d ∈ l, Sm d) {i j : Nat} {side : Int} {p : Spt} (h : reachQ l i j side = some p) : SmP p := by
  unfold reachQ at h
  split at h
  · rename_i a c ea ec
    have ha := hl a (List.mem_of_getElem? ea)
    have hc := hl c (List.mem_of_getElem? ec)
    by_cases hij : i = j
    · rw [if_pos hij] at h
      by_cases hs : side = 0
      · rw [if_pos hs] at h
        obtain rfl := Option.some.inj h
        exact ⟨ha.x.mono (by omega) (by omega), ha.y.mono (by omega) (by omega), sz_zero.mono (by omega) (by omega), sz_zero.mono (by omega) (by omega), sz_zero.mono (by omega) (by omega), by show (0 : Int) ≤ (0 : Rat).num; decide⟩
      · rw [if_neg hs] at h; cases h
    · rw [if_neg hij] at h
      split at h
      · rename_i hc3
        obtain ⟨h0, h1, _⟩ := hc3
        obtain rfl := Option.some.inj h
        have hf := (sm_far ha hc).1
        have ht := sm_t ha hc
        have hx := sz_sub hc.x ha.x
        have hy := sz_sub hc.y ha.y
        have e1 := sz_add ha.x (sz_mul ht hx)
        have e2 := sz_add ha.y (sz_mul ht hy)
        have e3 := sz_sub (sz_div h0 ha.q hf) (sz_mul ht ht)
        have e4 := sz_sub sz_zero hx
        have e5 := sz_sub sz_zero hy
        have f1 : Sz 5 3 (c.x - a.x) := hx.mono (by omega) (by omega)
        have f2 : Sz 5 3 (c.y - a.y) := hy.mono (by omega) (by omega)
        have f3 : Sz 5 3 (0 - (c.x - a.x)) := e4.mono (by omega) (by omega)
        have f4 : Sz 5 3 (0 - (c.y - a.y)) := e5.mono (by omega) (by omega)
        refine ⟨e1.mono (by omega) (by omega), e2.mono (by omega) (by omega), ?_, ?_, e3.mono (by omega) (by omega), h1⟩
        · show Sz 5 3 (if side < 0 then c.y - a.y else 0 - (c.y - a.y))
          split <;> assumption
        · show Sz 5 3 (if side < 0 then 0 - (c.x - a.x) else c.x - a.x)
          split <;> assumption
      · cases h
  · cases h

theorem sm_prove {l : List QD} (hl : ∀ d ∈ l, Sm d) (i j : Nat) (side : Int) : FitProve l i j side :=
  ⟨fun _ a c ha hc => sm_spot (hl a (List.mem_of_getElem? ha)) (hl c (List.mem_of_getElem? hc)), fun p hp d hd => sm_keep (hl d hd) (sm_reach hl hp)⟩
theorem sm_apart {l : List QD} (hl : ∀ d ∈ l, Sm d) : FitApart l := ⟨fun _ ho _ _ _ => sm_prove (fun d hd => hl d (ho d hd)) _ _ _⟩
def exA : List QD := [⟨0, 0, 4⟩, ⟨4, 0, 4⟩]
def exB : List QD := [⟨0, 0, 5⟩, ⟨4, 0, 5⟩]
def exC : List QD := [⟨0, 0, 1⟩, ⟨4, 0, 1⟩]
def exD : List QD := [⟨0, 0, 1⟩, ⟨2, 0, 1⟩, ⟨1, 5 / 3, 1⟩]

theorem exA_first : firstQ exA = some (0, 1, 0) := by decide +kernel
theorem exB_first : firstQ exB = some (0, 1, 1) := by decide +kernel
theorem exC_apart : apartQ exC = [0, 1] := by decide +kernel
theorem exD_apart : apartQ exD = [0, 1, 2] := by decide +kernel
end Go.Proofs.YtbdckemkmocdlaaGreatDoor

/- the examples that each statement checks: parts. -/
namespace Go.Proofs.YtbdckemkmocdlaaGreatDoor
open Go.RowKit

attribute [local irreducible] sI sQ

set_option maxRecDepth 100000 in
set_option maxHeartbeats 2000000 in
theorem disc_any (x y q : ByteArray) (w : World) :
    Calls Tryz.prog 32 #[.string x, .string y, .string q] w fun e w' => e = .returned (.agg #[.string x, .string y, .string q]) ∧ Below w.heap.size w w' := by
  have b1 := (Below.refl w.heap.size w).alloc (Nat.le_refl _) (.cells #[.string x, .string y, .string q] 26 (0, 0))
  go_enter Tryz.func32, Tryz.ntmps32
  have n1 := CB.new w #[.string x, .string y, .string q] 26
  obtain ⟨z0, z1, z2⟩ := n1.cells3
  go_wp2_with fail
  refine bodyPost_ret (v := .agg #[.string x, .string y, .string q]) (by simp [results, Tryz.results32, go_sem, z0, z1, z2, Result.andThen]) rfl ⟨rfl, b1⟩

theorem qrow2 {w : World} {b : Nat} {d0 d1 : QD} {t : TypeId} {x0 y0 q0 x1 y1 q1 : ByteArray} (h : CB w b #[.string x0, .string y0, .string q0, .string x1, .string y1, .string q1] t)
    (e0 : sQ d0.x = x0) (e1 : sQ d0.y = y0) (e2 : sQ d0.q = q0) (e3 : sQ d1.x = x1) (e4 : sQ d1.y = y1) (e5 : sQ d1.q = q1) : QRow w b 0 [d0, d1] := by
  subst e0 e1 e2 e3 e4 e5
  intro i hi
  rcases (show i = 0 ∨ i = 1 by simp at hi; omega) with rfl | rfl
  · exact ⟨h.c 0, h.c 1, h.c 2⟩
  · exact ⟨h.c 3, h.c 4, h.c 5⟩
theorem qrow3 {w : World} {b : Nat} {d0 d1 d2 : QD} {t : TypeId} {x0 y0 q0 x1 y1 q1 x2 y2 q2 : ByteArray} (h : CB w b #[.string x0, .string y0, .string q0, .string x1, .string y1, .string q1, .string x2, .string y2, .string q2] t)
    (e0 : sQ d0.x = x0) (e1 : sQ d0.y = y0) (e2 : sQ d0.q = q0) (e3 : sQ d1.x = x1) (e4 : sQ d1.y = y1) (e5 : sQ d1.q = q1) (e6 : sQ d2.x = x2) (e7 : sQ d2.y = y2) (e8 : sQ d2.q = q2) : QRow w b 0 [d0, d1, d2] := by
  subst e0 e1 e2 e3 e4 e5 e6 e7 e8
  intro i hi
  rcases (show i = 0 ∨ i = 1 ∨ i = 2 by simp at hi; omega) with rfl | rfl | rfl
  · exact ⟨h.c 0, h.c 1, h.c 2⟩
  · exact ⟨h.c 3, h.c 4, h.c 5⟩
  · exact ⟨h.c 6, h.c 7, h.c 8⟩

section
attribute [local semireducible] sI sQ
theorem s0 : sQ 0 = ⟨#[48]⟩ := by decide +kernel
theorem s1 : sQ 1 = ⟨#[49]⟩ := by decide +kernel
theorem s2 : sQ 2 = ⟨#[50]⟩ := by decide +kernel
theorem s4 : sQ 4 = ⟨#[52]⟩ := by decide +kernel
theorem s5 : sQ 5 = ⟨#[53]⟩ := by decide +kernel
theorem s53 : sQ (5 / 3) = ⟨#[53, 47, 51]⟩ := by decide +kernel
end

theorem sz_small {x : Rat} (h1 : x.num.natAbs < 10) (h2 : x.den < 10) : Sz 1 1 x := ⟨by simpa using h1, by simpa using h2⟩
theorem sz_one : Sz 1 1 1 := sz_small (by decide) (by decide)
theorem sz_four : Sz 1 1 4 := sz_small (by decide) (by decide)
theorem sz_five : Sz 1 1 5 := sz_small (by decide) (by decide)
theorem sz_53 : Sz 1 1 (5 / 3) := sz_small (by decide +kernel) (by decide +kernel)
theorem sm_of {x y q : Rat} (hx : Sz 1 1 x) (hy : Sz 1 1 y) (hq : Sz 1 1 q) (h0 : 0 ≤ q.num) : Sm ⟨x, y, q⟩ := ⟨hx, hy, hq, h0⟩
theorem exA_sm : ∀ d ∈ exA, Sm d := by
  intro d hd
  simp only [exA, List.mem_cons, List.not_mem_nil, or_false] at hd
  rcases hd with rfl | rfl
  · exact sm_of sz_zero sz_zero sz_four (by decide)
  · exact sm_of sz_four sz_zero sz_four (by decide)
theorem exB_sm : ∀ d ∈ exB, Sm d := by
  intro d hd
  simp only [exB, List.mem_cons, List.not_mem_nil, or_false] at hd
  rcases hd with rfl | rfl
  · exact sm_of sz_zero sz_zero sz_five (by decide)
  · exact sm_of sz_four sz_zero sz_five (by decide)
theorem exC_sm : ∀ d ∈ exC, Sm d := by
  intro d hd
  simp only [exC, List.mem_cons, List.not_mem_nil, or_false] at hd
  rcases hd with rfl | rfl
  · exact sm_of sz_zero sz_zero sz_one (by decide)
  · exact sm_of sz_four sz_zero sz_one (by decide)
theorem exD_sm : ∀ d ∈ exD, Sm d := by
  intro d hd
  simp only [exD, List.mem_cons, List.not_mem_nil, or_false] at hd
  rcases hd with rfl | rfl | rfl
  · exact sm_of sz_zero sz_zero sz_one (by decide)
  · exact sm_of sz_two sz_zero sz_one (by decide)
  · exact sm_of sz_one sz_53 sz_one (by decide)

theorem exA_row : exA.map QD.t = [⟨⟨#[48]⟩, ⟨#[48]⟩, ⟨#[52]⟩⟩, ⟨⟨#[52]⟩, ⟨#[48]⟩, ⟨#[52]⟩⟩] := by simp [exA, QD.t, s0, s4]
theorem exB_row : exB.map QD.t = [⟨⟨#[48]⟩, ⟨#[48]⟩, ⟨#[53]⟩⟩, ⟨⟨#[52]⟩, ⟨#[48]⟩, ⟨#[53]⟩⟩] := by simp [exB, QD.t, s0, s4, s5]
theorem exC_row : exC.map QD.t = [⟨⟨#[48]⟩, ⟨#[48]⟩, ⟨#[49]⟩⟩, ⟨⟨#[52]⟩, ⟨#[48]⟩, ⟨#[49]⟩⟩] := by simp [exC, QD.t, s0, s4, s1]
theorem exD_row : exD.map QD.t = [⟨⟨#[48]⟩, ⟨#[48]⟩, ⟨#[49]⟩⟩, ⟨⟨#[50]⟩, ⟨#[48]⟩, ⟨#[49]⟩⟩, ⟨⟨#[49]⟩, ⟨#[53, 47, 51]⟩, ⟨#[49]⟩⟩] := by simp [exD, QD.t, s0, s1, s2, s53]
theorem sm_chk {l : List QD} (h : ∀ d ∈ l, Sm d) (h1 : l ≠ []) (h2 : l.length ≤ 64) : chkL (l.map QD.t) = 0 := by
  unfold chkL
  have hn : (l.map QD.t).find? (fun d => decide (chkT d ≠ 0)) = none := by
    rw [List.find?_eq_none]
    intro d hd
    obtain ⟨e, he, rfl⟩ := List.mem_map.1 hd
    have : chkT e.t = 0 := chkD_ok (h e he).q0
    rw [this]; simp
  rw [if_neg (by simpa using h2), hn, if_neg (by simpa using h1)]
theorem exA_short : ∀ d ∈ exA.map QD.t, d.short := by
  rw [exA_row]
  intro d hd
  simp only [List.mem_cons, List.not_mem_nil, or_false] at hd
  rcases hd with rfl | rfl <;> exact ⟨by decide, by decide, by decide⟩
theorem exB_short : ∀ d ∈ exB.map QD.t, d.short := by
  rw [exB_row]
  intro d hd
  simp only [List.mem_cons, List.not_mem_nil, or_false] at hd
  rcases hd with rfl | rfl <;> exact ⟨by decide, by decide, by decide⟩
theorem exC_short : ∀ d ∈ exC.map QD.t, d.short := by
  rw [exC_row]
  intro d hd
  simp only [List.mem_cons, List.not_mem_nil, or_false] at hd
  rcases hd with rfl | rfl <;> exact ⟨by decide, by decide, by decide⟩
theorem exD_short : ∀ d ∈ exD.map QD.t, d.short := by
  rw [exD_row]
  intro d hd
  simp only [List.mem_cons, List.not_mem_nil, or_false] at hd
  rcases hd with rfl | rfl | rfl <;> exact ⟨by decide, by decide, by decide⟩
theorem ex_kind : kindQ 0 0 1 1 0 4 = 2 := by decide +kernel
end Go.Proofs.YtbdckemkmocdlaaGreatDoor

/- the examples that each statement checks. -/
namespace Go.Proofs.YtbdckemkmocdlaaGreatDoor
open Go.RowKit

attribute [local irreducible] sI sQ

theorem IRow.below {w w' : World} {v : Value} {l : List Nat} (h : IRow w v l) (hb : Below w.heap.size w w') : IRow w' v l := by
  rcases h with ⟨h1, h2⟩ | ⟨g, cp, h1, h2, h3⟩
  · exact .inl ⟨h1, h2⟩
  · exact .inr ⟨g, cp, h1, Nat.lt_of_lt_of_le h2 hb.size, fun k hk => (hb.cell (p := ⟨g, k, none⟩) h2).trans (h3 k hk)⟩
theorem IRow.alloc {w : World} {v : Value} {l : List Nat} (h : IRow w v l) (x : Obj) : IRow (w.alloc x) v l := h.below ((Below.refl w.heap.size w).alloc (Nat.le_refl _) x)
theorem fitPair_sm {a c : QD} (ha : Sm a) (hc : Sm c) : FitPair a.x a.y a.q c.x c.y c.q :=
  fitPair (ha.x.mono (by omega) (by omega)) (ha.y.mono (by omega) (by omega)) (ha.q.mono (by omega) (by omega)) (hc.x.mono (by omega) (by omega)) (hc.y.mono (by omega) (by omega)) (hc.q.mono (by omega) (by omega)) ha.q0 hc.q0
theorem irow_two {w : World} {v : Value} (h : IRow w v [0, 1]) : ∃ g cp, v = .slice (some ⟨g, 0, none⟩) 2 cp ∧ g < w.heap.size ∧ w.cell? ⟨g, 0, none⟩ = some (.int .i64 0) ∧ w.cell? ⟨g, 1, none⟩ = some (.int .i64 1) := by
  rcases h with ⟨h1, _⟩ | ⟨g, cp, h1, h2, h3⟩
  · cases h1
  · exact ⟨g, cp, h1, h2, h3 0 (by simp), h3 1 (by simp)⟩
theorem irow_three {w : World} {v : Value} (h : IRow w v [0, 1, 2]) : ∃ g cp, v = .slice (some ⟨g, 0, none⟩) 3 cp ∧ g < w.heap.size ∧ w.cell? ⟨g, 0, none⟩ = some (.int .i64 0) ∧ w.cell? ⟨g, 1, none⟩ = some (.int .i64 1) ∧ w.cell? ⟨g, 2, none⟩ = some (.int .i64 2) := by
  rcases h with ⟨h1, _⟩ | ⟨g, cp, h1, h2, h3⟩
  · cases h1
  · exact ⟨g, cp, h1, h2, h3 0 (by simp), h3 1 (by simp), h3 2 (by simp)⟩
theorem below_drewN' {B : Nat} {w w' : World} (h : Below B w w') (q : Nat) : Below B w (w'.drewN q) := below_drewN h q

set_option maxRecDepth 100000 in
set_option maxHeartbeats 4000000 in
theorem awake_any (w : World) (he : Env w) :
    Calls Tryz.prog 11 #[] w fun e w' => e = .returned (.bool true) ∧ Below w.heap.size w w' := by
  have KE := Lib.hid (show ∀ W, Below w.heap.size w W → Env W from fun W hW => he.below hW)
  have hb := Below.refl w.heap.size w
  have ME1 := Lib.hid (fun (W : World) (h : Env W) => drelate_ok 0 0 1 1 0 4 W (by rw [s0, s1, s4]; decide) (by decide) (by decide) (fitPair_sm (sm_of sz_zero sz_zero sz_one (by decide)) (sm_of sz_one sz_zero sz_four (by decide))) (fitPair_sm (sm_of sz_one sz_zero sz_four (by decide)) (sm_of sz_zero sz_zero sz_one (by decide))) h)
  rw [ex_kind] at ME1
  simp only [dcV, s0, s1, s4] at ME1
  clear he
  go_enter Tryz.func11, Tryz.ntmps11

  go_wp2_with fail
  refine (disc_any _ _ _ w).mono ?_
  rintro e u0_ ⟨rfl, hy⟩
  replace hb := hb.trans (hy.mono hb.size)
  clear hy
  go_wp2_with fail
  refine (disc_any _ _ _ u0_).mono ?_
  rintro e u1_ ⟨rfl, hy⟩
  replace hb := hb.trans (hy.mono hb.size)
  clear hy
  have HC := Lib.hid (CB.new u1_ #[.string ⟨#[48]⟩, .string ⟨#[48]⟩, .string ⟨#[52]⟩, .string ⟨#[52]⟩, .string ⟨#[48]⟩, .string ⟨#[52]⟩] 26)
  replace hb := hb.alloc hb.size (.cells #[.string ⟨#[48]⟩, .string ⟨#[48]⟩, .string ⟨#[52]⟩, .string ⟨#[52]⟩, .string ⟨#[48]⟩, .string ⟨#[52]⟩] 26 (0, 0))
  go_wp2_with fail
  generalize u1_.alloc (.cells #[.string ⟨#[48]⟩, .string ⟨#[48]⟩, .string ⟨#[52]⟩, .string ⟨#[52]⟩, .string ⟨#[48]⟩, .string ⟨#[52]⟩] 26 (0, 0)) = X0_ at *
  generalize u1_.heap.size = gX0_ at *
  have M := Lib.hid (dcommon_ok gX0_ 0 2 exA X0_ (by decide) exA_short (qrow2 HC.out s0 s0 s4 s4 s0 s4) HC.out.lt (sm_chk exA_sm (by decide) (by decide)) (fun x _ => sm_prove exA_sm _ _ _) (KE.out _ hb))
  rw [show exA.length = 2 from rfl, show firstW exA = (0, 1, 0) by unfold firstW; rw [exA_first]; rfl, exA_first] at M
  clear HC
  go_wp2_with fail
  refine (M.out).mono ?_
  rintro e y0_ ⟨rfl, hy⟩
  replace hb := hb.trans (hy.mono hb.size)
  clear hy
  clear M
  have HC := Lib.hid (CB.new y0_ #[.int .i64 0, .int .i64 1, .int .i64 0] 40)
  replace hb := hb.alloc hb.size (.cells #[.int .i64 0, .int .i64 1, .int .i64 0] 40 (0, 0))
  go_wp2_with fail
  generalize y0_.alloc (.cells #[.int .i64 0, .int .i64 1, .int .i64 0] 40 (0, 0)) = V0_ at *
  generalize y0_.heap.size = gV0_ at *
  have F0 := HC
  clear HC
  go_wp2_with fail
  refine (disc_any _ _ _ V0_).mono ?_
  rintro e u2_ ⟨rfl, hy⟩
  replace F0 := Lib.hid (F0.out.below hy F0.out.lt)
  replace hb := hb.trans (hy.mono hb.size)
  clear hy
  go_wp2_with fail
  refine (disc_any _ _ _ u2_).mono ?_
  rintro e u3_ ⟨rfl, hy⟩
  replace F0 := Lib.hid (F0.out.below hy F0.out.lt)
  replace hb := hb.trans (hy.mono hb.size)
  clear hy
  have HC := Lib.hid (CB.new u3_ #[.string ⟨#[48]⟩, .string ⟨#[48]⟩, .string ⟨#[53]⟩, .string ⟨#[52]⟩, .string ⟨#[48]⟩, .string ⟨#[53]⟩] 26)
  replace F0 := Lib.hid (F0.out.alloc (.cells #[.string ⟨#[48]⟩, .string ⟨#[48]⟩, .string ⟨#[53]⟩, .string ⟨#[52]⟩, .string ⟨#[48]⟩, .string ⟨#[53]⟩] 26 (0, 0)))
  replace hb := hb.alloc hb.size (.cells #[.string ⟨#[48]⟩, .string ⟨#[48]⟩, .string ⟨#[53]⟩, .string ⟨#[52]⟩, .string ⟨#[48]⟩, .string ⟨#[53]⟩] 26 (0, 0))
  go_wp2_with fail
  generalize u3_.alloc (.cells #[.string ⟨#[48]⟩, .string ⟨#[48]⟩, .string ⟨#[53]⟩, .string ⟨#[52]⟩, .string ⟨#[48]⟩, .string ⟨#[53]⟩] 26 (0, 0)) = X1_ at *
  generalize u3_.heap.size = gX1_ at *
  have M := Lib.hid (dcommon_ok gX1_ 0 2 exB X1_ (by decide) exB_short (qrow2 HC.out s0 s0 s5 s4 s0 s5) HC.out.lt (sm_chk exB_sm (by decide) (by decide)) (fun x _ => sm_prove exB_sm _ _ _) (KE.out _ hb))
  rw [show exB.length = 2 from rfl, show firstW exB = (0, 1, 1) by unfold firstW; rw [exB_first]; rfl, exB_first] at M
  clear HC
  go_wp2_with fail
  refine (M.out).mono ?_
  rintro e y1_ ⟨rfl, hy⟩
  replace F0 := Lib.hid (F0.out.below hy F0.out.lt)
  replace hb := hb.trans (hy.mono hb.size)
  clear hy
  clear M
  have HC := Lib.hid (CB.new y1_ #[.int .i64 0, .int .i64 1, .int .i64 1] 40)
  replace F0 := Lib.hid (F0.out.alloc (.cells #[.int .i64 0, .int .i64 1, .int .i64 1] 40 (0, 0)))
  replace hb := hb.alloc hb.size (.cells #[.int .i64 0, .int .i64 1, .int .i64 1] 40 (0, 0))
  go_wp2_with fail
  generalize y1_.alloc (.cells #[.int .i64 0, .int .i64 1, .int .i64 1] 40 (0, 0)) = V1_ at *
  generalize y1_.heap.size = gV1_ at *
  have F1 := HC
  clear HC
  go_wp2_with fail
  refine (disc_any _ _ _ V1_).mono ?_
  rintro e u4_ ⟨rfl, hy⟩
  replace F0 := Lib.hid (F0.out.below hy F0.out.lt)
  replace F1 := Lib.hid (F1.out.below hy F1.out.lt)
  replace hb := hb.trans (hy.mono hb.size)
  clear hy
  go_wp2_with fail
  refine (disc_any _ _ _ u4_).mono ?_
  rintro e u5_ ⟨rfl, hy⟩
  replace F0 := Lib.hid (F0.out.below hy F0.out.lt)
  replace F1 := Lib.hid (F1.out.below hy F1.out.lt)
  replace hb := hb.trans (hy.mono hb.size)
  clear hy
  have HC := Lib.hid (CB.new u5_ #[.string ⟨#[48]⟩, .string ⟨#[48]⟩, .string ⟨#[49]⟩, .string ⟨#[52]⟩, .string ⟨#[48]⟩, .string ⟨#[49]⟩] 26)
  replace F0 := Lib.hid (F0.out.alloc (.cells #[.string ⟨#[48]⟩, .string ⟨#[48]⟩, .string ⟨#[49]⟩, .string ⟨#[52]⟩, .string ⟨#[48]⟩, .string ⟨#[49]⟩] 26 (0, 0)))
  replace F1 := Lib.hid (F1.out.alloc (.cells #[.string ⟨#[48]⟩, .string ⟨#[48]⟩, .string ⟨#[49]⟩, .string ⟨#[52]⟩, .string ⟨#[48]⟩, .string ⟨#[49]⟩] 26 (0, 0)))
  replace hb := hb.alloc hb.size (.cells #[.string ⟨#[48]⟩, .string ⟨#[48]⟩, .string ⟨#[49]⟩, .string ⟨#[52]⟩, .string ⟨#[48]⟩, .string ⟨#[49]⟩] 26 (0, 0))
  go_wp2_with fail
  generalize u5_.alloc (.cells #[.string ⟨#[48]⟩, .string ⟨#[48]⟩, .string ⟨#[49]⟩, .string ⟨#[52]⟩, .string ⟨#[48]⟩, .string ⟨#[49]⟩] 26 (0, 0)) = Z0_ at *
  generalize u5_.heap.size = gZ0_ at *
  have M := Lib.hid (dcontra_ok gZ0_ 0 2 exC Z0_ (by decide) exC_short (qrow2 HC.out s0 s0 s1 s4 s0 s1) HC.out.lt (sm_chk exC_sm (by decide) (by decide)) (sm_apart exC_sm) (KE.out _ hb))
  rw [show exC.length = 2 from rfl, exC_apart] at M
  clear HC
  refine M.out.mono ?_
  rintro e T0_ ⟨v0, rfl, hi, hy⟩
  replace F0 := Lib.hid (F0.out.below hy F0.out.lt)
  replace F1 := Lib.hid (F1.out.below hy F1.out.lt)
  replace hb := hb.trans (hy.mono hb.size)
  have I0 := Lib.hid hi
  clear hy hi M
  go_wp2_with fail
  refine (disc_any _ _ _ T0_).mono ?_
  rintro e u6_ ⟨rfl, hy⟩
  replace F0 := Lib.hid (F0.out.below hy F0.out.lt)
  replace F1 := Lib.hid (F1.out.below hy F1.out.lt)
  replace I0 := Lib.hid (I0.out.below hy)
  replace hb := hb.trans (hy.mono hb.size)
  clear hy
  go_wp2_with fail
  refine (disc_any _ _ _ u6_).mono ?_
  rintro e u7_ ⟨rfl, hy⟩
  replace F0 := Lib.hid (F0.out.below hy F0.out.lt)
  replace F1 := Lib.hid (F1.out.below hy F1.out.lt)
  replace I0 := Lib.hid (I0.out.below hy)
  replace hb := hb.trans (hy.mono hb.size)
  clear hy
  go_wp2_with fail
  refine (disc_any _ _ _ u7_).mono ?_
  rintro e u8_ ⟨rfl, hy⟩
  replace F0 := Lib.hid (F0.out.below hy F0.out.lt)
  replace F1 := Lib.hid (F1.out.below hy F1.out.lt)
  replace I0 := Lib.hid (I0.out.below hy)
  replace hb := hb.trans (hy.mono hb.size)
  clear hy
  have HC := Lib.hid (CB.new u8_ #[.string ⟨#[48]⟩, .string ⟨#[48]⟩, .string ⟨#[49]⟩, .string ⟨#[50]⟩, .string ⟨#[48]⟩, .string ⟨#[49]⟩, .string ⟨#[49]⟩, .string ⟨#[53, 47, 51]⟩, .string ⟨#[49]⟩] 26)
  replace F0 := Lib.hid (F0.out.alloc (.cells #[.string ⟨#[48]⟩, .string ⟨#[48]⟩, .string ⟨#[49]⟩, .string ⟨#[50]⟩, .string ⟨#[48]⟩, .string ⟨#[49]⟩, .string ⟨#[49]⟩, .string ⟨#[53, 47, 51]⟩, .string ⟨#[49]⟩] 26 (0, 0)))
  replace F1 := Lib.hid (F1.out.alloc (.cells #[.string ⟨#[48]⟩, .string ⟨#[48]⟩, .string ⟨#[49]⟩, .string ⟨#[50]⟩, .string ⟨#[48]⟩, .string ⟨#[49]⟩, .string ⟨#[49]⟩, .string ⟨#[53, 47, 51]⟩, .string ⟨#[49]⟩] 26 (0, 0)))
  replace I0 := Lib.hid (I0.out.alloc (.cells #[.string ⟨#[48]⟩, .string ⟨#[48]⟩, .string ⟨#[49]⟩, .string ⟨#[50]⟩, .string ⟨#[48]⟩, .string ⟨#[49]⟩, .string ⟨#[49]⟩, .string ⟨#[53, 47, 51]⟩, .string ⟨#[49]⟩] 26 (0, 0)))
  replace hb := hb.alloc hb.size (.cells #[.string ⟨#[48]⟩, .string ⟨#[48]⟩, .string ⟨#[49]⟩, .string ⟨#[50]⟩, .string ⟨#[48]⟩, .string ⟨#[49]⟩, .string ⟨#[49]⟩, .string ⟨#[53, 47, 51]⟩, .string ⟨#[49]⟩] 26 (0, 0))
  go_wp2_with fail
  generalize u8_.alloc (.cells #[.string ⟨#[48]⟩, .string ⟨#[48]⟩, .string ⟨#[49]⟩, .string ⟨#[50]⟩, .string ⟨#[48]⟩, .string ⟨#[49]⟩, .string ⟨#[49]⟩, .string ⟨#[53, 47, 51]⟩, .string ⟨#[49]⟩] 26 (0, 0)) = Z1_ at *
  generalize u8_.heap.size = gZ1_ at *
  have M := Lib.hid (dcontra_ok gZ1_ 0 3 exD Z1_ (by decide) exD_short (qrow3 HC.out s0 s0 s1 s2 s0 s1 s1 s53 s1) HC.out.lt (sm_chk exD_sm (by decide) (by decide)) (sm_apart exD_sm) (KE.out _ hb))
  rw [show exD.length = 3 from rfl, exD_apart] at M
  clear HC
  refine M.out.mono ?_
  rintro e T1_ ⟨v1, rfl, hi, hy⟩
  replace F0 := Lib.hid (F0.out.below hy F0.out.lt)
  replace F1 := Lib.hid (F1.out.below hy F1.out.lt)
  replace I0 := Lib.hid (I0.out.below hy)
  replace hb := hb.trans (hy.mono hb.size)
  have I1 := Lib.hid hi
  clear hy hi M
  go_wp2_with fail
  refine (disc_any _ _ _ T1_).mono ?_
  rintro e u9_ ⟨rfl, hy⟩
  replace F0 := Lib.hid (F0.out.below hy F0.out.lt)
  replace F1 := Lib.hid (F1.out.below hy F1.out.lt)
  replace I0 := Lib.hid (I0.out.below hy)
  replace I1 := Lib.hid (I1.out.below hy)
  replace hb := hb.trans (hy.mono hb.size)
  clear hy
  go_wp2_with fail
  refine (disc_any _ _ _ u9_).mono ?_
  rintro e u10_ ⟨rfl, hy⟩
  replace F0 := Lib.hid (F0.out.below hy F0.out.lt)
  replace F1 := Lib.hid (F1.out.below hy F1.out.lt)
  replace I0 := Lib.hid (I0.out.below hy)
  replace I1 := Lib.hid (I1.out.below hy)
  replace hb := hb.trans (hy.mono hb.size)
  clear hy
  go_wp2_with fail
  refine (ME1.out _ (KE.out _ hb)).mono ?_
  rintro e R_ ⟨rfl, hy⟩
  replace F0 := Lib.hid (F0.out.below hy F0.out.lt)
  replace F1 := Lib.hid (F1.out.below hy F1.out.lt)
  replace I0 := Lib.hid (I0.out.below hy)
  replace I1 := Lib.hid (I1.out.below hy)
  replace hb := hb.trans (hy.mono hb.size)
  clear hy
  obtain ⟨i1, i2, i3⟩ := F0.out.cells3
  obtain ⟨j1, j2, j3⟩ := F1.out.cells3
  obtain ⟨p0, cp0, rfl, l0, a0, a1⟩ := irow_two I0.out
  obtain ⟨p1, cp1, rfl, l1, b0, b1, b2⟩ := irow_three I1.out
  go_wp2_with fail
  have n1 := CB.new R_ #[.int .i64 0, .int .i64 1] 3
  have x1 := (Below.refl R_.heap.size R_).alloc (Nat.le_refl _) (.cells #[.int .i64 0, .int .i64 1] 3 (0, 0))
  refine (Tryz.slices_Equal_int p0 0 2 cp0 R_.heap.size 0 2 2 [0, 1] [0, 1] _ (by simp) (by simp) (by decide) (by decide) ?_ ?_).mono ?_
  · intro j hj
    rcases (show j = 0 ∨ j = 1 by simp at hj; omega) with rfl | rfl
    · exact (x1.cell (p := ⟨p0, 0, none⟩) l0).trans a0
    · exact (x1.cell (p := ⟨p0, 1, none⟩) l0).trans a1
  · intro j hj
    rcases (show j = 0 ∨ j = 1 by simp at hj; omega) with rfl | rfl
    · exact n1.c 0
    · exact n1.c 1
  rintro e wE ⟨rfl, q, rfl⟩
  have x2 := below_drewN' x1 q
  replace hb := hb.trans (x2.mono hb.size)
  replace b0 := (x2.cell (p := ⟨p1, 0, none⟩) l1).trans b0
  replace b1 := (x2.cell (p := ⟨p1, 1, none⟩) l1).trans b1
  replace b2 := (x2.cell (p := ⟨p1, 2, none⟩) l1).trans b2
  have l2 := Nat.lt_of_lt_of_le l1 x2.size
  clear x1 n1 x2 a0 a1 i1 i2 i3 j1 j2 j3 F0 F1 I0 I1 l0 l1
  generalize (R_.alloc (.cells #[.int .i64 0, .int .i64 1] 3 (0, 0))).drewN q = R2 at *
  rw [show (([0, 1] : List Int).take 2 == ([0, 1] : List Int).take 2) = true by decide]
  go_wp2_with fail
  have n1 := CB.new R2 #[.int .i64 0, .int .i64 1, .int .i64 2] 3
  have x1 := (Below.refl R2.heap.size R2).alloc (Nat.le_refl _) (.cells #[.int .i64 0, .int .i64 1, .int .i64 2] 3 (0, 0))
  refine (Tryz.slices_Equal_int p1 0 3 cp1 R2.heap.size 0 3 3 [0, 1, 2] [0, 1, 2] _ (by simp) (by simp) (by decide) (by decide) ?_ ?_).mono ?_
  · intro j hj
    rcases (show j = 0 ∨ j = 1 ∨ j = 2 by simp at hj; omega) with rfl | rfl | rfl
    · exact (x1.cell (p := ⟨p1, 0, none⟩) l2).trans b0
    · exact (x1.cell (p := ⟨p1, 1, none⟩) l2).trans b1
    · exact (x1.cell (p := ⟨p1, 2, none⟩) l2).trans b2
  · intro j hj
    rcases (show j = 0 ∨ j = 1 ∨ j = 2 by simp at hj; omega) with rfl | rfl | rfl
    · exact n1.c 0
    · exact n1.c 1
    · exact n1.c 2
  rintro e wE ⟨rfl, q2, rfl⟩
  have x2 := below_drewN' x1 q2
  replace hb := hb.trans (x2.mono hb.size)
  clear x1 n1 x2 b0 b1 b2 l2
  generalize (R2.alloc (.cells #[.int .i64 0, .int .i64 1, .int .i64 2] 3 (0, 0))).drewN q2 = R3 at *
  rw [show (([0, 1, 2] : List Int).take 3 == ([0, 1, 2] : List Int).take 3) = true by decide]
  go_wp2_with fail
  go_ret
  exact ⟨rfl, hb⟩
end Go.Proofs.YtbdckemkmocdlaaGreatDoor

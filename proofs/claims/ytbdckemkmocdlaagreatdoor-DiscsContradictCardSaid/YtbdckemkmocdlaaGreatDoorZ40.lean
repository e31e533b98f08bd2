/- metrolabref12: Apart. -/
import Derived.Test.YtbdckemkmocdlaaGreatDoorZ37
import Derived.Test.YtbdckemkmocdlaaGreatDoorZ30
import Derived.Test.YtbdckemkmocdlaaGreatDoorZ34
set_option linter.all false
set_option exponentiation.threshold 2000000
namespace Go.Proofs.YtbdckemkmocdlaaGreatDoor
open Go.RowKit

attribute [local irreducible] sI sQ


/-- the two new blocks, in whatever order they come: the discs' (cs) and a witness's -/
theorem apart_blocks (wr : World) (cs : Array Value) :
    (CB (wr.alloc (.cells cs 26 (0, 0))).drew wr.heap.size cs 26 ∧ CB ((wr.alloc (.cells (#[.int .i64 0, .int .i64 0, .int .i64 0]) 43 (0, 0))).alloc (.cells cs 26 (0, 0))).drew (wr.heap.size + 1) cs 26 ∧ CB ((wr.alloc (.cells cs 26 (0, 0))).alloc (.cells (#[.int .i64 0, .int .i64 0, .int .i64 0]) 43 (0, 0))).drew wr.heap.size cs 26) ∧
    (CB ((wr.alloc (.cells (#[.int .i64 0, .int .i64 0, .int .i64 0]) 43 (0, 0))).alloc (.cells cs 26 (0, 0))).drew wr.heap.size (#[.int .i64 0, .int .i64 0, .int .i64 0]) 43 ∧ CB ((wr.alloc (.cells cs 26 (0, 0))).alloc (.cells (#[.int .i64 0, .int .i64 0, .int .i64 0]) 43 (0, 0))).drew (wr.heap.size + 1) (#[.int .i64 0, .int .i64 0, .int .i64 0]) 43) ∧
    (Below wr.heap.size wr (wr.alloc (.cells cs 26 (0, 0))).drew ∧ Below wr.heap.size wr ((wr.alloc (.cells (#[.int .i64 0, .int .i64 0, .int .i64 0]) 43 (0, 0))).alloc (.cells cs 26 (0, 0))).drew ∧ Below wr.heap.size wr ((wr.alloc (.cells cs 26 (0, 0))).alloc (.cells (#[.int .i64 0, .int .i64 0, .int .i64 0]) 43 (0, 0))).drew ∧ Below wr.heap.size wr (wr.alloc (.cells (#[.int .i64 0, .int .i64 0, .int .i64 0]) 43 (0, 0))).drew) := by
  obtain ⟨b1, x1, x2⟩ := blocks2 wr (#[.int .i64 0, .int .i64 0, .int .i64 0]) cs 43 26
  obtain ⟨b2, y1, y2⟩ := blocks2 wr cs (#[.int .i64 0, .int .i64 0, .int .i64 0]) 26 43
  exact ⟨⟨CB.new wr cs _, x2, y1⟩, ⟨x1, y2⟩, ((Below.refl _ wr).alloc (Nat.le_refl _) _).drew, b1.drew, b2.drew, ((Below.refl _ wr).alloc (Nat.le_refl _) _).drew⟩

theorem atQ_two {l : List QD} {i j : Nat} (hi : i < l.length) (hj : j < l.length) : atQ l [i, j] = [l[i], l[j]] := by simp [atQ, List.getElem?_eq_getElem hi, List.getElem?_eq_getElem hj]
theorem atQ_three {l : List QD} {i j k : Nat} (hi : i < l.length) (hj : j < l.length) (hk : k < l.length) : atQ l [i, j, k] = [l[i], l[j], l[k]] := by
  simp [atQ, List.getElem?_eq_getElem hi, List.getElem?_eq_getElem hj, List.getElem?_eq_getElem hk]
theorem cb_row2 {w : World} {g : Nat} {a c : QD} {t : TypeId} (h : CB w g #[.string (sQ a.x), .string (sQ a.y), .string (sQ a.q), .string (sQ c.x), .string (sQ c.y), .string (sQ c.q)] t) : QRow w g 0 [a, c] := by
  intro i hi
  rcases (show i = 0 ∨ i = 1 by simp at hi; omega) with rfl | rfl
  · exact ⟨h.c 0, h.c 1, h.c 2⟩
  · exact ⟨h.c 3, h.c 4, h.c 5⟩
theorem cb_row3 {w : World} {g : Nat} {a c d : QD} {t : TypeId} (h : CB w g #[.string (sQ a.x), .string (sQ a.y), .string (sQ a.q), .string (sQ c.x), .string (sQ c.y), .string (sQ c.q), .string (sQ d.x), .string (sQ d.y), .string (sQ d.q)] t) : QRow w g 0 [a, c, d] := by
  intro i hi
  rcases (show i = 0 ∨ i = 1 ∨ i = 2 by simp at hi; omega) with rfl | rfl | rfl
  · exact ⟨h.c 0, h.c 1, h.c 2⟩
  · exact ⟨h.c 3, h.c 4, h.c 5⟩
  · exact ⟨h.c 6, h.c 7, h.c 8⟩
theorem some_not_bad (l : List QD) (ix : List Nat) : (firstQ (atQ l ix)).isSome = !badQ l ix := by unfold badQ; cases firstQ (atQ l ix) <;> rfl


set_option maxRecDepth 100000 in
set_option maxHeartbeats 8000000 in
theorem rapart_any (b o cap : Nat) (l : List QD) (w : World) (hl : l.length ≤ 1000000) (hr : QRow w b o l) (hb : b < w.heap.size) (hbg : ∀ d ∈ l, Bg d) :
    Calls Tryz.prog 56 #[.slice (some ⟨b, o, none⟩) l.length cap] w fun e w' => ∃ v, e = .returned v ∧ IRow w' v (apartQ l) ∧ Below w.heap.size w w' := by
  have HR := Lib.hid hr
  have HBG := Lib.hid hbg
  clear hr hbg
  go_enter Tryz.func56, Tryz.ntmps56
  go_wp2_with fail
  go_loopw [3] (fun iv wr => ∃ i : Nat, i ≤ l.length ∧ iv = .int .i64 i ∧ Hid (∀ y ∈ prs l.length i, badQ l y = false) ∧ Below w.heap.size w wr) (fun iv _ => l.length - (intOf iv).toNat)
  case atStart => exact ⟨0, Nat.zero_le _, rfl, Lib.hid (by simp [prs_zero]), Below.refl _ _⟩
  case round =>
    obtain ⟨i, hi, rfl, hB1, hn1⟩ := hrel
    by_cases hlt : i < l.length
    · go_wp2_with fail
      go_loopw [4] (fun jv wr => ∃ j : Nat, i + 1 ≤ j ∧ j ≤ l.length ∧ jv = .int .i64 j ∧ Hid (∀ y ∈ prs l.length i ++ pr i j, badQ l y = false) ∧ Below w.heap.size w wr) (fun jv _ => l.length - (intOf jv).toNat)
      case atStart => exact ⟨i + 1, Nat.le_refl _, by omega, by simp, Lib.hid (by rw [pr_start, List.append_nil]; exact hB1.out), hn1⟩
      case round =>
        clear hB1 hn1
        obtain ⟨j, hij, hj, rfl, hB1, hn1⟩ := hrel
        by_cases hlt2 : j < l.length
        · have HT := Lib.hid (show badQ l [i, j] = false → ∀ y ∈ prs l.length i ++ pr i (j + 1), badQ l y = false from fun h0 y hy => by
            rw [pr_succ i j (by omega), ← List.append_assoc] at hy
            rcases List.mem_append.1 hy with h | h
            · exact hB1.out y h
            · simp at h; rw [h]; exact h0)
          have HN := Lib.hid (show badQ l [i, j] = true → apartQ l = [i, j] from fun h0 => by
            obtain ⟨rest, e⟩ := pair_split l.length i j (by omega) hlt2
            unfold apartQ
            rw [e, find_first hB1.out h0]; rfl)
          have HAT := Lib.hid (show ∀ W, Below w.heap.size w W → _ from fun W hW => And.intro ((HR.out.below hW hb).at i hlt) ((HR.out.below hW hb).at j hlt2))
          have hva := HBG.out _ (List.getElem_mem hlt)
          have hvc := HBG.out _ (List.getElem_mem hlt2)
          have hsb := some_not_bad l [i, j]
          rw [atQ_two hlt hlt2] at hsb
          generalize l[i] = a at *
          generalize l[j] = c at *
          have HN1 := Lib.hid hn1
          have MF := Lib.hid (show ∀ (W : World) (g : Nat), CB W g (#[.string (sQ a.x), .string (sQ a.y), .string (sQ a.q), .string (sQ c.x), .string (sQ c.y), .string (sQ c.q)]) 26 → Below wr.heap.size wr W → Calls Tryz.prog 49 #[.slice (some ⟨g, 0, none⟩) 2 2] W fun e w' => e = .returned (firstV [a, c]) ∧ Below W.heap.size W w' from fun W g h _ =>
            rfirst_any g 0 2 [a, c] W (by simp) (cb_row2 h) h.lt (fun d hd => by
              simp only [List.mem_cons, List.not_mem_nil, or_false] at hd
              rcases hd with rfl | rfl <;> assumption))
          rw [firstV_eq, hsb] at MF
          generalize firstW [a, c] = fw at *
          obtain ⟨⟨n1, n2, n3⟩, ⟨z2, z3⟩, b1, b2, b3, b4⟩ := apart_blocks wr (#[.string (sQ a.x), .string (sQ a.y), .string (sQ a.q), .string (sQ c.x), .string (sQ c.y), .string (sQ c.q)])
          have N1 := Lib.hid n1
          have N2 := Lib.hid n2
          have N3 := Lib.hid n3
          have Z2 := Lib.hid z2
          have Z3 := Lib.hid z3
          have B1 := Lib.hid b1
          have B2 := Lib.hid b2
          have B3 := Lib.hid b3
          have B4 := Lib.hid b4
          have KS := Lib.hid (show ∀ W, Below wr.heap.size wr W → (W.cell? ⟨b, o + i * 3, none⟩ = some (.string (sQ a.x)) ∧ W.cell? ⟨b, o + i * 3 + 1, none⟩ = some (.string (sQ a.y)) ∧ W.cell? ⟨b, o + i * 3 + 2, none⟩ = some (.string (sQ a.q)) ∧ W.cell? ⟨b, o + j * 3, none⟩ = some (.string (sQ c.x)) ∧ W.cell? ⟨b, o + j * 3 + 1, none⟩ = some (.string (sQ c.y)) ∧ W.cell? ⟨b, o + j * 3 + 2, none⟩ = some (.string (sQ c.q))) ∧ (Below wr.heap.size wr W ∧ Below w.heap.size w W) from fun W hW => by
            have hw2 := HN1.out.trans (hW.mono HN1.out.size)
            obtain ⟨⟨f1, f2, f3⟩, f4, f5, f6⟩ := HAT.out W hw2
            exact ⟨⟨f1, f2, f3, f4, f5, f6⟩, hW, hw2⟩)
          have hq := Below.refl wr.heap.size wr
          generalize badQ l [i, j] = r at *
          clear n1 n2 n3 z2 z3 b1 b2 b3 b4 hn1 hB1 hva hvc hsb
          go_upto_region 7 with fail
          go_cut [6] (fun s6 wx => s6 = .bool (!r) ∧ Below wr.heap.size wr wx)
          case first =>
            have hb2 := hq
            go_region_held3 (fun W => (W.cell? ⟨b, o + i * 3, none⟩ = some (.string (sQ a.x)) ∧ W.cell? ⟨b, o + i * 3 + 1, none⟩ = some (.string (sQ a.y)) ∧ W.cell? ⟨b, o + i * 3 + 2, none⟩ = some (.string (sQ a.q)) ∧ W.cell? ⟨b, o + j * 3, none⟩ = some (.string (sQ c.x)) ∧ W.cell? ⟨b, o + j * 3 + 1, none⟩ = some (.string (sQ c.y)) ∧ W.cell? ⟨b, o + j * 3 + 2, none⟩ = some (.string (sQ c.q))) ∧ (Below wr.heap.size wr W ∧ Below w.heap.size w W))
              ((refine KS.out _ ?_; first | with_reducible exact hq.drew | with_reducible assumption | with_reducible exact B1.out | with_reducible exact B2.out | with_reducible exact B3.out | with_reducible exact B4.out | with_reducible exact hb2.alloc hb2.size _ | with_reducible exact below_set3 hb2 hP _ _ _))
              (first | (go_at_call 49; have hh := ‹(_ ∧ _) ∧ (_ ∧ Below w.heap.size w _)›; with_reducible refine (MF.out _ _ (by first | with_reducible exact N1.out | with_reducible exact N2.out | with_reducible exact N3.out) hh.2.1).mono ?_; rintro e w1 ⟨rfl, hb1⟩; have hb2 := hh.2.1.trans (hb1.mono hh.2.1.size); first | (with_reducible (have GN := Z2.out.below hb1 Z2.out.lt); have hP := Nat.le_refl wr.heap.size; obtain ⟨r0, r1, r2⟩ := GN.cells3; have t0 := GN.fr 0; have t1 := GN.fr 1; have t2 := GN.fr 2) | (with_reducible (have GN := Z3.out.below hb1 Z3.out.lt); have hP := Nat.le_succ wr.heap.size; obtain ⟨r0, r1, r2⟩ := GN.cells3; have t0 := GN.fr 0; have t1 := GN.fr 1; have t2 := GN.fr 2) | skip))
            all_goals
              go_wp2_with fail
              go_meet
              first
                | with_reducible exact ⟨rfl, hb2.alloc hb2.size _⟩
                | with_reducible exact ⟨rfl, below_set3 hb2 hP _ _ _⟩
          case rest =>
            obtain ⟨rfl, hbc⟩ := hcut
            have hb6 := HN1.out.trans (hbc.mono HN1.out.size)
            clear N1 N2 N3 Z2 Z3 B1 B2 B3 B4 KS HAT MF hq
            cases r
            · have HX := Lib.hid (HT.out rfl)
              go_wp2_with fail
              exact ⟨⟨j + 1, by omega, by omega, by simp, HX, hb6⟩, by simp [intOf]; omega⟩
            · have HX := Lib.hid (HN.out rfl)
              have hb7 := hb6.alloc hb6.size (.cells #[.int .i64 i, .int .i64 j] 3 (0, 0))
              have hcb := CB.new wc #[.int .i64 i, .int .i64 j] 3
              have HRR := Lib.hid (show IRow (wc.alloc (.cells #[.int .i64 i, .int .i64 j] 3 (0, 0))) (.slice (some ⟨wc.heap.size, 0, none⟩) 2 2) (apartQ l) from by
                rw [HX.out]
                refine .inr ⟨_, _, rfl, hcb.lt, ?_⟩
                intro k hk; rcases (show k = 0 ∨ k = 1 by simp at hk; omega) with rfl | rfl
                · exact hcb.c 0
                · exact hcb.c 1)
              clear hcb
              go_wp2_with fail
              go_ret
              exact ⟨_, rfl, HRR.out, hb7⟩
        · obtain rfl : j = l.length := by omega
          have HT := Lib.hid (show ∀ y ∈ prs l.length (i + 1), badQ l y = false from by rw [prs_succ]; exact hB1.out)
          clear hB1
          go_wp2_with fail
          exact ⟨⟨i + 1, by omega, by simp, HT, hn1⟩, by simp [intOf]; omega⟩
    · obtain rfl : i = l.length := by omega
      have HPR := hB1
      clear hB1
      go_wp2_with fail
      go_loopw [7] (fun iv wr => ∃ i : Nat, i ≤ l.length ∧ iv = .int .i64 i ∧ Hid (∀ y ∈ prs l.length l.length ++ trs l.length i, badQ l y = false) ∧ Below w.heap.size w wr) (fun iv _ => l.length - (intOf iv).toNat)
      case atStart => exact ⟨0, Nat.zero_le _, rfl, Lib.hid (by rw [trs_zero, List.append_nil]; exact HPR.out), hn1⟩
      case round =>
        clear hn1 HPR
        obtain ⟨i, hi, rfl, hB1, hn1⟩ := hrel
        by_cases hlt : i < l.length
        · go_wp2_with fail
          go_loopw [8] (fun jv wr => ∃ j : Nat, i + 1 ≤ j ∧ j ≤ l.length ∧ jv = .int .i64 j ∧ Hid (∀ y ∈ prs l.length l.length ++ (trs l.length i ++ trj l.length i j), badQ l y = false) ∧ Below w.heap.size w wr) (fun jv _ => l.length - (intOf jv).toNat)
          case atStart => exact ⟨i + 1, Nat.le_refl _, by omega, by simp, Lib.hid (by rw [trj_start, List.append_nil]; exact hB1.out), hn1⟩
          case round =>
            clear hB1 hn1
            obtain ⟨j, hij, hj, rfl, hB1, hn1⟩ := hrel
            by_cases hlt2 : j < l.length
            · go_wp2_with fail
              go_loopw [9] (fun kv wr => ∃ k : Nat, j + 1 ≤ k ∧ k ≤ l.length ∧ kv = .int .i64 k ∧ Hid (∀ y ∈ prs l.length l.length ++ (trs l.length i ++ (trj l.length i j ++ tr i j k)), badQ l y = false) ∧ Below w.heap.size w wr) (fun kv _ => l.length - (intOf kv).toNat)
              case atStart => exact ⟨j + 1, Nat.le_refl _, by omega, by simp, Lib.hid (by rw [tr_start, List.append_nil]; exact hB1.out), hn1⟩
              case round =>
                clear hB1 hn1
                obtain ⟨k, hjk, hk, rfl, hB1, hn1⟩ := hrel
                by_cases hlt3 : k < l.length
                · have HT := Lib.hid (show badQ l [i, j, k] = false → ∀ y ∈ prs l.length l.length ++ (trs l.length i ++ (trj l.length i j ++ tr i j (k + 1))), badQ l y = false from fun h0 y hy => by
                    rw [tr_succ i j k (by omega), ← List.append_assoc, ← List.append_assoc, ← List.append_assoc] at hy
                    rcases List.mem_append.1 hy with h | h
                    · exact hB1.out y (by simpa using h)
                    · simp at h; rw [h]; exact h0)
                  have HN := Lib.hid (show badQ l [i, j, k] = true → apartQ l = [i, j, k] from fun h0 => by
                    obtain ⟨rest, e⟩ := triple_split l.length i j k (by omega) (by omega) hlt3
                    unfold apartQ
                    rw [e, find_first hB1.out h0]; rfl)
                  have HAT := Lib.hid (show ∀ W, Below w.heap.size w W → _ from fun W hW => And.intro ((HR.out.below hW hb).at i hlt) (And.intro ((HR.out.below hW hb).at j hlt2) ((HR.out.below hW hb).at k hlt3)))
                  have hva := HBG.out _ (List.getElem_mem hlt)
                  have hvc := HBG.out _ (List.getElem_mem hlt2)
                  have hvd := HBG.out _ (List.getElem_mem hlt3)
                  have hsb := some_not_bad l [i, j, k]
                  rw [atQ_three hlt hlt2 hlt3] at hsb
                  generalize l[i] = a at *
                  generalize l[j] = c at *
                  generalize l[k] = d at *
                  have HN1 := Lib.hid hn1
                  have MF := Lib.hid (show ∀ (W : World) (g : Nat), CB W g (#[.string (sQ a.x), .string (sQ a.y), .string (sQ a.q), .string (sQ c.x), .string (sQ c.y), .string (sQ c.q), .string (sQ d.x), .string (sQ d.y), .string (sQ d.q)]) 26 → Below wr.heap.size wr W → Calls Tryz.prog 49 #[.slice (some ⟨g, 0, none⟩) 3 3] W fun e w' => e = .returned (firstV [a, c, d]) ∧ Below W.heap.size W w' from fun W g h _ =>
                    rfirst_any g 0 3 [a, c, d] W (by simp) (cb_row3 h) h.lt (fun x hx => by
                      simp only [List.mem_cons, List.not_mem_nil, or_false] at hx
                      rcases hx with rfl | rfl | rfl <;> assumption))
                  rw [firstV_eq, hsb] at MF
                  generalize firstW [a, c, d] = fw at *
                  obtain ⟨⟨n1, n2, n3⟩, ⟨z2, z3⟩, b1, b2, b3, b4⟩ := apart_blocks wr (#[.string (sQ a.x), .string (sQ a.y), .string (sQ a.q), .string (sQ c.x), .string (sQ c.y), .string (sQ c.q), .string (sQ d.x), .string (sQ d.y), .string (sQ d.q)])
                  have N1 := Lib.hid n1
                  have N2 := Lib.hid n2
                  have N3 := Lib.hid n3
                  have Z2 := Lib.hid z2
                  have Z3 := Lib.hid z3
                  have B1 := Lib.hid b1
                  have B2 := Lib.hid b2
                  have B3 := Lib.hid b3
                  have B4 := Lib.hid b4
                  have KS := Lib.hid (show ∀ W, Below wr.heap.size wr W → (W.cell? ⟨b, o + i * 3, none⟩ = some (.string (sQ a.x)) ∧ W.cell? ⟨b, o + i * 3 + 1, none⟩ = some (.string (sQ a.y)) ∧ W.cell? ⟨b, o + i * 3 + 2, none⟩ = some (.string (sQ a.q)) ∧ W.cell? ⟨b, o + j * 3, none⟩ = some (.string (sQ c.x)) ∧ W.cell? ⟨b, o + j * 3 + 1, none⟩ = some (.string (sQ c.y)) ∧ W.cell? ⟨b, o + j * 3 + 2, none⟩ = some (.string (sQ c.q)) ∧ W.cell? ⟨b, o + k * 3, none⟩ = some (.string (sQ d.x)) ∧ W.cell? ⟨b, o + k * 3 + 1, none⟩ = some (.string (sQ d.y)) ∧ W.cell? ⟨b, o + k * 3 + 2, none⟩ = some (.string (sQ d.q))) ∧ (Below wr.heap.size wr W ∧ Below w.heap.size w W) from fun W hW => by
                    have hw2 := HN1.out.trans (hW.mono HN1.out.size)
                    obtain ⟨⟨f1, f2, f3⟩, ⟨f4, f5, f6⟩, f7, f8, f9⟩ := HAT.out W hw2
                    exact ⟨⟨f1, f2, f3, f4, f5, f6, f7, f8, f9⟩, hW, hw2⟩)
                  have hq := Below.refl wr.heap.size wr
                  generalize badQ l [i, j, k] = r at *
                  clear n1 n2 n3 z2 z3 b1 b2 b3 b4 hn1 hB1 hva hvc hvd hsb
                  go_upto_region 19 with fail
                  go_cut [11] (fun s6 wx => s6 = .bool (!r) ∧ Below wr.heap.size wr wx)
                  case first =>
                    have hb2 := hq
                    go_region_held3 (fun W => (W.cell? ⟨b, o + i * 3, none⟩ = some (.string (sQ a.x)) ∧ W.cell? ⟨b, o + i * 3 + 1, none⟩ = some (.string (sQ a.y)) ∧ W.cell? ⟨b, o + i * 3 + 2, none⟩ = some (.string (sQ a.q)) ∧ W.cell? ⟨b, o + j * 3, none⟩ = some (.string (sQ c.x)) ∧ W.cell? ⟨b, o + j * 3 + 1, none⟩ = some (.string (sQ c.y)) ∧ W.cell? ⟨b, o + j * 3 + 2, none⟩ = some (.string (sQ c.q)) ∧ W.cell? ⟨b, o + k * 3, none⟩ = some (.string (sQ d.x)) ∧ W.cell? ⟨b, o + k * 3 + 1, none⟩ = some (.string (sQ d.y)) ∧ W.cell? ⟨b, o + k * 3 + 2, none⟩ = some (.string (sQ d.q))) ∧ (Below wr.heap.size wr W ∧ Below w.heap.size w W))
                      ((refine KS.out _ ?_; first | with_reducible exact hq.drew | with_reducible assumption | with_reducible exact B1.out | with_reducible exact B2.out | with_reducible exact B3.out | with_reducible exact B4.out | with_reducible exact hb2.alloc hb2.size _ | with_reducible exact below_set3 hb2 hP _ _ _))
                      (first | (go_at_call 49; have hh := ‹(_ ∧ _) ∧ (_ ∧ Below w.heap.size w _)›; with_reducible refine (MF.out _ _ (by first | with_reducible exact N1.out | with_reducible exact N2.out | with_reducible exact N3.out) hh.2.1).mono ?_; rintro e w1 ⟨rfl, hb1⟩; have hb2 := hh.2.1.trans (hb1.mono hh.2.1.size); first | (with_reducible (have GN := Z2.out.below hb1 Z2.out.lt); have hP := Nat.le_refl wr.heap.size; obtain ⟨r0, r1, r2⟩ := GN.cells3; have t0 := GN.fr 0; have t1 := GN.fr 1; have t2 := GN.fr 2) | (with_reducible (have GN := Z3.out.below hb1 Z3.out.lt); have hP := Nat.le_succ wr.heap.size; obtain ⟨r0, r1, r2⟩ := GN.cells3; have t0 := GN.fr 0; have t1 := GN.fr 1; have t2 := GN.fr 2) | skip))
                    all_goals
                      go_wp2_with fail
                      go_meet
                      first
                        | with_reducible exact ⟨rfl, hb2.alloc hb2.size _⟩
                        | with_reducible exact ⟨rfl, below_set3 hb2 hP _ _ _⟩
                  case rest =>
                    obtain ⟨rfl, hbc⟩ := hcut
                    have hb6 := HN1.out.trans (hbc.mono HN1.out.size)
                    clear N1 N2 N3 Z2 Z3 B1 B2 B3 B4 KS HAT MF hq
                    cases r
                    · have HX := Lib.hid (HT.out rfl)
                      go_wp2_with fail
                      exact ⟨⟨k + 1, by omega, by omega, by simp, HX, hb6⟩, by simp [intOf]; omega⟩
                    · have HX := Lib.hid (HN.out rfl)
                      have hb7 := hb6.alloc hb6.size (.cells #[.int .i64 i, .int .i64 j, .int .i64 k] 3 (0, 0))
                      have hcb := CB.new wc #[.int .i64 i, .int .i64 j, .int .i64 k] 3
                      have HRR := Lib.hid (show IRow (wc.alloc (.cells #[.int .i64 i, .int .i64 j, .int .i64 k] 3 (0, 0))) (.slice (some ⟨wc.heap.size, 0, none⟩) 3 3) (apartQ l) from by
                        rw [HX.out]
                        refine .inr ⟨_, _, rfl, hcb.lt, ?_⟩
                        intro q hk; rcases (show q = 0 ∨ q = 1 ∨ q = 2 by simp at hk; omega) with rfl | rfl | rfl
                        · exact hcb.c 0
                        · exact hcb.c 1
                        · exact hcb.c 2)
                      clear hcb
                      go_wp2_with fail
                      go_ret
                      exact ⟨_, rfl, HRR.out, hb7⟩
                · obtain rfl : k = l.length := by omega
                  have HT := Lib.hid (show ∀ y ∈ prs l.length l.length ++ (trs l.length i ++ trj l.length i (j + 1)), badQ l y = false from by rw [trj_succ _ _ _ hij]; exact hB1.out)
                  clear hB1
                  go_wp2_with fail
                  exact ⟨⟨j + 1, by omega, by omega, by simp, HT, hn1⟩, by simp [intOf]; omega⟩
            · obtain rfl : j = l.length := by omega
              have HT := Lib.hid (show ∀ y ∈ prs l.length l.length ++ trs l.length (i + 1), badQ l y = false from by rw [trs_succ]; exact hB1.out)
              clear hB1
              go_wp2_with fail
              exact ⟨⟨i + 1, by omega, by simp, HT, hn1⟩, by simp [intOf]; omega⟩
        · obtain rfl : i = l.length := by omega
          have HX := Lib.hid (show apartQ l = [] from by
            unfold apartQ
            rw [show (tries l.length).find? (badQ l) = none by rw [List.find?_eq_none]; intro y hy; rw [hB1.out y hy]; simp]; rfl)
          have HRR := Lib.hid (show IRow wr (.slice none 0 0) (apartQ l) from by rw [HX.out]; exact .inl ⟨rfl, rfl⟩)
          clear hB1
          go_wp2_with fail
          go_ret
          exact ⟨_, rfl, HRR.out, hn1⟩
end Go.Proofs.YtbdckemkmocdlaaGreatDoor

/- Redundant of both. -/
namespace Go.Proofs.YtbdckemkmocdlaaGreatDoor
open Go.RowKit

attribute [local irreducible] sI sQ

/-- whether a disc contains another one -/
def wiQ (a c : QD) : Bool := withinQ a.x a.y a.q c.x c.y c.q
/-- whether the k-th disc makes the i-th one redundant -/
def redQ (l : List QD) (i k : Nat) : Bool :=
  match l[i]?, l[k]? with
  | some d, some x => !decide (k = i) && wiQ x d && (decide (k < i) || !wiQ d x)
  | _, _ => false
def redA (l : List QD) (i : Nat) : Bool := (List.range l.length).any (redQ l i)
def spQ (l : List QD) (n : Nat) : List Nat := (List.range n).filter (redA l)
theorem redQ_at {l : List QD} {i k : Nat} (hi : i < l.length) (hk : k < l.length) : redQ l i k = (!decide (k = i) && wiQ l[k] l[i] && (decide (k < i) || !wiQ l[i] l[k])) := by
  unfold redQ; rw [List.getElem?_eq_getElem hi, List.getElem?_eq_getElem hk]
theorem spQ_succ (l : List QD) (n : Nat) : spQ l (n + 1) = spQ l n ++ (if redA l n then [n] else []) := by
  unfold spQ; rw [List.range_succ, List.filter_append]; simp [List.filter_cons]
theorem redA_true {l : List QD} {i k : Nat} (hk : k < l.length) (h : redQ l i k = true) : redA l i = true := by
  unfold redA; rw [List.any_eq_true]; exact ⟨k, List.mem_range.2 hk, h⟩
theorem redA_false {l : List QD} {i : Nat} (h : ∀ m, m < l.length → redQ l i m = false) : redA l i = false := by
  unfold redA; rw [List.any_eq_false]; intro m hm; rw [h m (List.mem_range.1 hm)]; simp

/-- a right disc of short numbers -/
structure Bs (d : QD) : Prop where
  s : Sh d.x d.y d.q
  q0 : 0 ≤ d.q.num
theorem Bs.pair {a c : QD} (ha : Bs a) (hc : Bs c) : FitPair a.x a.y a.q c.x c.y c.q := fitPair ha.s.x ha.s.y ha.s.s hc.s.x hc.s.y hc.s.s ha.q0 hc.q0

def intsN (L : List Nat) : List Value := L.map (fun (n : Nat) => Value.int .i64 (n : Int))
theorem owns_below {w w' : World} {base : Nat} {e : TypeId} {size : Nat} {v : Value} {n : Nat} {xs : List Value} (h : w.ownsRow base e size v n xs) (hb : Below w.heap.size w w') : w'.ownsRow base e size v n xs :=
  h.kept (row := none) ⟨hb.os, hb.tape, hb.output, hb.size, fun k hk _ => hb.block k hk⟩ (by cases hv : v.ownBlock <;> simp)
theorem irow_owns {w : World} {B : Nat} {v : Value} {L : List Nat} (h : w.ownsRow B 3 1 v L.length (intsN L)) : IRow w v L := by
  rcases h.2 with ⟨h1, h2⟩ | ⟨g, cp, cur, h1, h2, h3, h4, h5, h6, h7⟩
  · exact .inl ⟨List.length_eq_zero_iff.1 h2, h1⟩
  · refine .inr ⟨g, cp, h1, (Array.getElem?_eq_some_iff.1 h3).1, fun k hk => ?_⟩
    rw [cell_of_row _ _ _ _ _ _ h3]
    have : (cur.toList.take (L.length * 1))[k]? = (intsN L)[k]? := by rw [h7]
    rw [List.getElem?_take, if_pos (by omega)] at this
    rw [← Array.getElem?_toList, this]
    simp [intsN, hk]
theorem cells_new1 {w : World} {g : Nat} {u : Value} {t : TypeId} (h : CB w g #[u] t) : ∀ (j : Nat) (x : Value), [u][j]? = some x → w.cell? ((⟨g, 0, none⟩ : Addr).add j) = some x := by
  intro j x hj
  cases j with
  | zero => simp at hj; subst hj; simpa [Addr.add] using h.c 0
  | succ j => simp at hj


set_option maxRecDepth 100000 in
set_option maxHeartbeats 8000000 in
theorem dredundant_ok (b o cap : Nat) (l : List QD) (w : World) (hl : l.length ≤ 1000000) (hs : ∀ d ∈ l.map QD.t, d.short) (hr : QRow w b o l) (hb : b < w.heap.size) (hc : chkL (l.map QD.t) = 0) (hbs : ∀ d ∈ l, Bs d) (he : Env w) :
    Calls Tryz.prog 27 #[.slice (some ⟨b, o, none⟩) l.length cap] w fun e w' => ∃ v, e = .returned (.tuple #[v, .int .i64 0]) ∧ IRow w' v (spQ l l.length) ∧ Below w.heap.size w w' := by
  obtain ⟨i0, hi0, hz0, hz1, hz2⟩ := info_parts infoI
  have HL := Lib.hid (dlist_any b o cap (l.map QD.t) _ (by simpa using hl) hs hr hb he)
  rw [List.length_map, hc] at HL
  have KE := Lib.hid (show ∀ W, Below w.heap.size w W → Env W from fun W hW => he.below hW)
  have HR := Lib.hid hr
  have HBS := Lib.hid hbs
  clear he hr hs hc hbs
  go_enter Tryz.func27, Tryz.ntmps27
  go_wp2_with fail
  refine HL.out.mono ?_
  rintro e w2 ⟨rfl, hb2⟩
  have hb4 := hb2.alloc hb2.size (.cells #[.int .i64 0] 73 (0, 0))
  have H0 := Lib.hid (ok0_newd w2)
  clear HL
  go_wp2_with fail
  generalize w2.alloc (.cells #[.int .i64 0] 73 (0, 0)) = W1 at *
  generalize w2.heap.size = s at *
  have HB := Lib.hid hb4
  have M := Lib.hid (show ∀ (W : World) (i k : Nat) (hi : i < l.length) (hk : k < l.length), Below W1.heap.size W1 W → Calls Tryz.prog 40 #[.pointer (some ⟨s, 0, none⟩), dcV l[k].x l[k].y l[k].q, dcV l[i].x l[i].y l[i].q] W fun e w' => e = .returned (.bool (wiQ l[k] l[i])) ∧ Below W.heap.size W w' from fun W i k hi hk hW =>
    dwithin_any s _ _ _ _ _ _ W (H0.out.below hW) ((HBS.out _ (List.getElem_mem hk)).pair (HBS.out _ (List.getElem_mem hi))) (KE.out _ (HB.out.trans (hW.mono HB.out.size))))
  clear hb2 hb4
  go_loopw [6, 20] (fun v iv wr => ∃ i : Nat, iv = .int .i64 i ∧ i ≤ l.length ∧ wr.ownsRow W1.heap.size 3 1 v (spQ l i).length (intsN (spQ l i)) ∧ Below W1.heap.size W1 wr) (fun _ iv _ => l.length - (intOf iv).toNat)
  case atStart => exact ⟨0, rfl, Nat.zero_le _, by simpa [spQ, intsN] using World.ownsRow_nil W1 W1.heap.size 3 1, Below.refl _ _⟩
  case round =>
    obtain ⟨i, rfl, hi, hown, hn1⟩ := hrel
    by_cases hlt : i < l.length
    · have hbx := HB.out.trans (hn1.mono HB.out.size)
      obtain ⟨c1, c2, c3⟩ := (HR.out.below hbx hb).at i hlt
      have HS1 := Lib.hid (show redA l i = false → spQ l (i + 1) = spQ l i from fun h => by rw [spQ_succ, h]; simp)
      have HS2 := Lib.hid (show redA l i = true → spQ l (i + 1) = spQ l i ++ [i] from fun h => by rw [spQ_succ, h]; simp)
      have hn2 := hn1.alloc hn1.size (.cells #[.string (sQ l[i].x), .string (sQ l[i].y), .string (sQ l[i].q)] 26 (0, 0))
      have HD := Lib.hid (CB.new wr #[.string (sQ l[i].x), .string (sQ l[i].y), .string (sQ l[i].q)] 26)
      have hown2 := hown.alloc (.cells #[.string (sQ l[i].x), .string (sQ l[i].y), .string (sQ l[i].q)] 26 (0, 0))
      have hlen : (spQ l i).length ≤ i := by unfold spQ; exact Nat.le_trans (List.length_filter_le _ _) (by simp)
      clear hown
      go_wp2_with fail
      generalize wr.alloc (.cells #[.string (sQ l[i].x), .string (sQ l[i].y), .string (sQ l[i].q)] 26 (0, 0)) = w3 at *
      generalize wr.heap.size = g at *
      have HN2 := Lib.hid hn2
      clear c1 c2 c3 hn1 hbx hn2
      go_loopw [6, 27] (fun v kv wr => ∃ k : Nat, kv = .int .i64 k ∧ k ≤ l.length ∧ Hid (∀ m, m < k → redQ l i m = false) ∧ wr.ownsRow W1.heap.size 3 1 v (spQ l i).length (intsN (spQ l i)) ∧ Below w3.heap.size w3 wr) (fun _ kv _ => l.length - (intOf kv).toNat)
      case atStart => exact ⟨0, rfl, Nat.zero_le _, Lib.hid (fun m h => by omega), hown2, Below.refl _ _⟩
      case round =>
        clear hown2
        obtain ⟨k, rfl, hk, ha, hown, hn1⟩ := hrel
        by_cases hlt2 : k < l.length
        · have hn4 := HN2.out.trans (hn1.mono HN2.out.size)
          have hbx := HB.out.trans (hn4.mono HB.out.size)
          obtain ⟨c1, c2, c3⟩ := (HR.out.below hbx hb).at k hlt2
          have HX := Lib.hid (show redQ l i k = false → ∀ m, m < k + 1 → redQ l i m = false from fun h m hm => by
            by_cases e : m = k
            · subst e; exact h
            · exact ha.out m (by omega))
          have HY := Lib.hid (show redQ l i k = true → redA l i = true from fun h => redA_true hlt2 h)
          have HQ := Lib.hid (redQ_at hlt hlt2)
          have MA := Lib.hid (fun W hW => M.out W i k hlt hlt2 hW)
          have MB := Lib.hid (fun W hW => M.out W k i hlt2 hlt hW)
          have HN4 := Lib.hid (hn4.alloc hn4.size (.cells #[.string (sQ l[k].x), .string (sQ l[k].y), .string (sQ l[k].q)] 26 (0, 0)))
          have hn5 := hn1.alloc hn1.size (.cells #[.string (sQ l[k].x), .string (sQ l[k].y), .string (sQ l[k].q)] 26 (0, 0))
          have HE := Lib.hid (CB.new wr #[.string (sQ l[k].x), .string (sQ l[k].y), .string (sQ l[k].q)] 26)
          have HD2 := Lib.hid (HD.out.below hn5 HD.out.lt)
          have hown3 := hown.alloc (.cells #[.string (sQ l[k].x), .string (sQ l[k].y), .string (sQ l[k].q)] 26 (0, 0))
          generalize wiQ l[k] l[i] = r1 at *
          generalize wiQ l[i] l[k] = r2 at *
          generalize l[i] = d at *
          generalize l[k] = x at *
          clear hown hn4 hbx ha
          by_cases hki : k = i
          · have HF := Lib.hid (HX.out (by rw [HQ.out, decide_eq_true hki]; rfl))
            subst hki
            have t1 : ((k : Int) == (k : Int)) = true := by simp
            clear HQ HX HY MA MB
            go_wp2_with fail
            exact ⟨⟨k + 1, by simp, by omega, HF, hown3, hn5⟩, by simp [intOf]; omega⟩
          · have t1 : ((k : Int) == (i : Int)) = false := by simp; omega
            rw [decide_eq_false hki] at HQ
            obtain ⟨p1, p2, p3⟩ := HD2.out.cells3
            go_wp2_with fail
            generalize wr.alloc (.cells #[.string (sQ x.x), .string (sQ x.y), .string (sQ x.q)] 26 (0, 0)) = w4 at *
            generalize wr.heap.size = gg at *
            refine (MA.out _ HN4.out).mono ?_
            rintro e w5 ⟨rfl, hb5⟩
            have hn6 := hn5.trans (hb5.mono hn5.size)
            have hn7 := HN4.out.trans (hb5.mono HN4.out.size)
            have hown4 := owns_below hown3 hb5
            have HE5 := Lib.hid (HE.out.below hb5 HE.out.lt)
            have HD5 := Lib.hid (HD2.out.below hb5 HD2.out.lt)
            obtain ⟨x1, x2, x3⟩ := HE5.out.cells3
            obtain ⟨y1, y2, y3⟩ := HD5.out.cells3
            clear c1 c2 c3 p1 p2 p3 hown3 hb5 HE HD2 hn5 HN4 MA
            have HN7 := Lib.hid hn7
            have HN6 := Lib.hid hn6
            cases r1
            · have HF := Lib.hid (HX.out (by rw [HQ.out]; rfl))
              clear HQ HX HY MB hn7 hn6
              go_wp2_with fail
              exact ⟨⟨k + 1, by simp, by omega, HF, hown4, HN6.out⟩, by simp [intOf]; omega⟩
            · by_cases hlk : k < i
              · have HF := Lib.hid (HS2.out (HY.out (by rw [HQ.out, decide_eq_true hlk]; rfl)))
                have t2 : decide ((k : Int) < (i : Int)) = true := by simp; omega
                have hcb := CB.new w5 #[.int .i64 i] 3
                have HCE := Lib.hid (cells_new1 hcb)
                have hsz := HB.out.size
                have hsz2 := hn7.size
                clear HQ HX HY MB hcb hn7 hn6
                generalize hwz : w5 = wz at *
                have hown := hown4
                go_wp2_with (first | (at_builtin; refine wpList_append_own _ rfl (.tmp 53) (.tmp 55) 56 rfl W1.heap.size 3 i0 (.int .i64 0) 1 8 undI hi0 hz0 hz1 hz2 rfl (by decide) _ _ _ rfl (hown.alloc (.cells #[.int .i64 i] 3 (0, 0))) ⟨wz.heap.size, 0, none⟩ 1 1 [.int .i64 i] rfl rfl HCE.out (by intro u hu; simp at hu; rcases hu with rfl; rfl) (by unfold maxLen; omega) (by omega) (by simp; omega) ?_; intro v1 w1 hown1 hgrow1 hnil1) | fail)
                refine ⟨⟨i + 1, by simp, by omega, ?_, ?_⟩, by simp [intOf]; omega⟩
                · rw [HF.out]
                  simpa [intsN] using hown1
                · exact (HN7.out.alloc HN7.out.size _).grown hgrow1 (by simp; omega) (fun j hj => (hown4.lt j hj).1)
              · have t2 : decide ((k : Int) < (i : Int)) = false := by simp; omega
                rw [decide_eq_false hlk] at HQ
                go_wp2_with fail
                refine (MB.out _ hn7).mono ?_
                rintro e w6 ⟨rfl, hb6⟩
                have hown5 := owns_below hown4 hb6
                have HN8 := Lib.hid (HN6.out.trans (hb6.mono HN6.out.size))
                have HN9 := Lib.hid (HN7.out.trans (hb6.mono HN7.out.size))
                clear hown4 hb6 hn7 hn6 HN6 HN7 x1 x2 x3 y1 y2 y3
                cases r2
                · have HF := Lib.hid (HS2.out (HY.out (by rw [HQ.out]; rfl)))
                  have hcb := CB.new w6 #[.int .i64 i] 3
                  have HCE := Lib.hid (cells_new1 hcb)
                  have hsz := HB.out.size
                  have hsz2 := HN9.out.size
                  clear HQ HX HY MB hcb
                  generalize hwz : w6 = wz at *
                  have hown := hown5
                  go_wp2_with (first | (at_builtin; refine wpList_append_own _ rfl (.tmp 53) (.tmp 55) 56 rfl W1.heap.size 3 i0 (.int .i64 0) 1 8 undI hi0 hz0 hz1 hz2 rfl (by decide) _ _ _ rfl (hown.alloc (.cells #[.int .i64 i] 3 (0, 0))) ⟨wz.heap.size, 0, none⟩ 1 1 [.int .i64 i] rfl rfl HCE.out (by intro u hu; simp at hu; rcases hu with rfl; rfl) (by unfold maxLen; omega) (by omega) (by simp; omega) ?_; intro v1 w1 hown1 hgrow1 hnil1) | fail)
                  refine ⟨⟨i + 1, by simp, by omega, ?_, ?_⟩, by simp [intOf]; omega⟩
                  · rw [HF.out]
                    simpa [intsN] using hown1
                  · exact (HN9.out.alloc HN9.out.size _).grown hgrow1 (by simp; omega) (fun j hj => (hown5.lt j hj).1)
                · have HF := Lib.hid (HX.out (by rw [HQ.out]; rfl))
                  clear HQ HX HY MB
                  go_wp2_with fail
                  exact ⟨⟨k + 1, by simp, by omega, HF, hown5, HN8.out⟩, by simp [intOf]; omega⟩
        · have hkl : k = l.length := by omega
          subst hkl
          have HF := Lib.hid (HS1.out (redA_false (fun m hm => ha.out m hm)))
          have hn4 := HN2.out.trans (hn1.mono HN2.out.size)
          clear ha HS1 HS2
          go_wp2_with fail
          exact ⟨⟨i + 1, by simp, by omega, by rw [HF.out]; exact hown, hn4⟩, by simp [intOf]; omega⟩
    · have hil : i = l.length := by omega
      subst hil
      have HI := Lib.hid (irow_owns hown)
      have hbx := HB.out.trans (hn1.mono HB.out.size)
      obtain ⟨k0, k1, k2⟩ := H0.out.below hn1
      clear hown
      go_wp2_with fail
      go_ret2
      exact ⟨_, rfl, HI.out, hbx⟩
end Go.Proofs.YtbdckemkmocdlaaGreatDoor

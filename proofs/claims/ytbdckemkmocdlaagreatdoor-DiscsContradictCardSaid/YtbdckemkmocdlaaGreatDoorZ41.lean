/- metrolabref12: Spare, Redundant, Contradiction; errors; metrolabref07.SameInts. -/
import Derived.Test.YtbdckemkmocdlaaGreatDoorZ40
set_option linter.all false
set_option exponentiation.threshold 2000000
namespace Go.Proofs.YtbdckemkmocdlaaGreatDoor
open Go.RowKit

attribute [local irreducible] sI sQ

set_option maxRecDepth 100000 in
set_option maxHeartbeats 2000000 in
theorem dcontradiction_err (v : Value) (n : Int) (hn : n ≠ 0) (w : World) (hsl : ∃ a m c, v = .slice a m c) (HL : ∀ W, Below w.heap.size w W → Calls Tryz.prog 46 #[v] W fun e w' => e = .returned (.int .i64 n) ∧ Below W.heap.size W w') :
    Calls Tryz.prog 25 #[v] w fun e w' => e = .returned (.tuple #[.slice none 0 0, .int .i64 n]) ∧ Below w.heap.size w w' := by
  obtain ⟨a, m, c, rfl⟩ := hsl
  have t0 : (n == 0) = false := by simpa using hn
  have ML := Lib.hid (show ∀ W, Below w.heap.size w W → _ from HL)
  have HA := Lib.hid (show ∀ o : Obj, Below w.heap.size w (w.alloc o) from fun o => (Below.refl _ _).alloc (Nat.le_refl _) o)
  clear HL hn
  go_enter Tryz.func25, Tryz.ntmps25
  go_wp2_with fail
  first
    | (refine (ML.out _ (Below.refl _ _)).mono ?_
       rintro e w2 ⟨rfl, hb2⟩
       go_wp2_with fail
       go_ret2
       exact ⟨rfl, hb2⟩)
    | (refine (ML.out _ (HA.out _)).mono ?_
       rintro e w2 ⟨rfl, hb2⟩
       have hb3 := (HA.out _).trans (hb2.mono (HA.out _).size)
       go_wp2_with fail
       go_ret2
       exact ⟨rfl, hb3⟩)
set_option maxRecDepth 100000 in
set_option maxHeartbeats 2000000 in
theorem rcontradiction_err (v : Value) (n : Int) (hn : n ≠ 0) (w : World) (HL : ∀ W, Below w.heap.size w W → Calls Tryz.prog 48 #[v] W fun e w' => e = .returned (.int .i64 n) ∧ Below W.heap.size W w') :
    Calls Tryz.prog 26 #[v] w fun e w' => e = .returned (.tuple #[.slice none 0 0, .int .i64 n]) ∧ Below w.heap.size w w' := by
  have t0 : (n == 0) = false := by simpa using hn
  have ML := Lib.hid (HL _ (Below.refl _ _))
  clear HL hn
  go_enter Tryz.func26, Tryz.ntmps26
  go_wp2_with fail
  refine ML.out.mono ?_
  rintro e w2 ⟨rfl, hb2⟩
  go_wp2_with fail
  go_ret2
  exact ⟨rfl, hb2⟩
set_option maxRecDepth 100000 in
set_option maxHeartbeats 2000000 in
theorem dredundant_err (v : Value) (n : Int) (hn : n ≠ 0) (w : World) (hsl : ∃ a m c, v = .slice a m c) (HL : ∀ W, Below w.heap.size w W → Calls Tryz.prog 46 #[v] W fun e w' => e = .returned (.int .i64 n) ∧ Below W.heap.size W w') :
    Calls Tryz.prog 27 #[v] w fun e w' => e = .returned (.tuple #[.slice none 0 0, .int .i64 n]) ∧ Below w.heap.size w w' := by
  obtain ⟨a, m, c, rfl⟩ := hsl
  have t0 : (n == 0) = false := by simpa using hn
  have ML := Lib.hid (show ∀ W, Below w.heap.size w W → _ from HL)
  have HA := Lib.hid (show ∀ o : Obj, Below w.heap.size w (w.alloc o) from fun o => (Below.refl _ _).alloc (Nat.le_refl _) o)
  clear HL hn
  go_enter Tryz.func27, Tryz.ntmps27
  go_wp2_with fail
  first
    | (refine (ML.out _ (Below.refl _ _)).mono ?_
       rintro e w2 ⟨rfl, hb2⟩
       go_wp2_with fail
       go_ret2
       exact ⟨rfl, hb2⟩)
    | (refine (ML.out _ (HA.out _)).mono ?_
       rintro e w2 ⟨rfl, hb2⟩
       have hb3 := (HA.out _).trans (hb2.mono (HA.out _).size)
       go_wp2_with fail
       go_ret2
       exact ⟨rfl, hb3⟩)
set_option maxRecDepth 100000 in
set_option maxHeartbeats 2000000 in
theorem rredundant_err (v : Value) (n : Int) (hn : n ≠ 0) (w : World) (HL : ∀ W, Below w.heap.size w W → Calls Tryz.prog 48 #[v] W fun e w' => e = .returned (.int .i64 n) ∧ Below W.heap.size W w') :
    Calls Tryz.prog 28 #[v] w fun e w' => e = .returned (.tuple #[.slice none 0 0, .int .i64 n]) ∧ Below w.heap.size w w' := by
  have t0 : (n == 0) = false := by simpa using hn
  have ML := Lib.hid (HL _ (Below.refl _ _))
  clear HL hn
  go_enter Tryz.func28, Tryz.ntmps28
  go_wp2_with fail
  refine ML.out.mono ?_
  rintro e w2 ⟨rfl, hb2⟩
  go_wp2_with fail
  go_ret2
  exact ⟨rfl, hb2⟩

set_option maxRecDepth 100000 in
set_option maxHeartbeats 2000000 in
theorem rcontra_ok (b o cap : Nat) (l : List QD) (w : World) (hl : l.length ≤ 1000000) (hr : QRow w b o l) (hb : b < w.heap.size) (hbg : ∀ d ∈ l, Bg d)
    (HL : ∀ W, Below w.heap.size w W → Calls Tryz.prog 48 #[.slice (some ⟨b, o, none⟩) l.length cap] W fun e w' => e = .returned (.int .i64 0) ∧ Below W.heap.size W w') :
    Calls Tryz.prog 26 #[.slice (some ⟨b, o, none⟩) l.length cap] w fun e w' => ∃ v, e = .returned (.tuple #[v, .int .i64 0]) ∧ IRow w' v (apartQ l) ∧ Below w.heap.size w w' := by
  have ML := Lib.hid (HL _ (Below.refl _ _))
  have MA := Lib.hid (show ∀ W, Below w.heap.size w W → _ from fun W hW => rapart_any b o cap l W hl (hr.below hW hb) (Nat.lt_of_lt_of_le hb hW.size) hbg)
  clear HL hr hbg
  go_enter Tryz.func26, Tryz.ntmps26
  go_wp2_with fail
  refine ML.out.mono ?_
  rintro e w2 ⟨rfl, hb2⟩
  go_wp2_with fail
  refine (MA.out _ hb2).mono ?_
  rintro e w3 ⟨v, rfl, hi, hb3⟩
  have HI := Lib.hid hi
  clear hi
  go_wp2_with fail
  go_ret2
  exact ⟨_, rfl, HI.out, hb2.trans (hb3.mono hb2.size)⟩


theorem any_succ (l : List QD) (i k : Nat) : (List.range (k + 1)).any (redQ l i) = ((List.range k).any (redQ l i) || redQ l i k) := by simp [List.range_succ]

set_option maxRecDepth 100000 in
set_option maxHeartbeats 8000000 in
theorem rspare_any (b o cap : Nat) (l : List QD) (w : World) (hl : l.length ≤ 1000000) (hr : QRow w b o l) (hb : b < w.heap.size) (hbs : ∀ d ∈ l, Bs d) :
    Calls Tryz.prog 57 #[.slice (some ⟨b, o, none⟩) l.length cap] w fun e w' => ∃ v, e = .returned v ∧ IRow w' v (spQ l l.length) ∧ Below w.heap.size w w' := by
  obtain ⟨i0, hi0, hz0, hz1, hz2⟩ := info_parts infoI
  have HR := Lib.hid hr
  have HBS := Lib.hid hbs
  clear hr hbs
  go_enter Tryz.func57, Tryz.ntmps57
  go_wp2_with fail
  go_loopw [3, 4] (fun v iv wr => ∃ i : Nat, iv = .int .i64 i ∧ i ≤ l.length ∧ wr.ownsRow w.heap.size 3 1 v (spQ l i).length (intsN (spQ l i)) ∧ Below w.heap.size w wr) (fun _ iv _ => l.length - (intOf iv).toNat)
  case atStart => exact ⟨0, rfl, Nat.zero_le _, by simpa [spQ, intsN] using World.ownsRow_nil w w.heap.size 3 1, Below.refl _ _⟩
  case round =>
    obtain ⟨i, rfl, hi, hown, hn1⟩ := hrel
    by_cases hlt : i < l.length
    · have HS1 := Lib.hid (show redA l i = false → spQ l (i + 1) = spQ l i from fun h => by rw [spQ_succ, h]; simp)
      have HS2 := Lib.hid (show redA l i = true → spQ l (i + 1) = spQ l i ++ [i] from fun h => by rw [spQ_succ, h]; simp)
      have hlen : (spQ l i).length ≤ i := by unfold spQ; exact Nat.le_trans (List.length_filter_le _ _) (by simp)
      go_wp2_with fail
      go_loopw [5, 6] (fun fv kv wr => ∃ (k : Nat) (f : Bool), kv = .int .i64 k ∧ fv = .bool f ∧ k ≤ l.length ∧ Hid (f = (List.range k).any (redQ l i)) ∧ wr.ownsRow w.heap.size 3 1 u3 (spQ l i).length (intsN (spQ l i)) ∧ Below w.heap.size w wr) (fun _ kv _ => l.length - (intOf kv).toNat)
      case atStart => exact ⟨0, false, rfl, rfl, Nat.zero_le _, Lib.hid (by simp), hown, hn1⟩
      case round =>
        clear hown hn1
        obtain ⟨k, f, rfl, rfl, hk, hf, hown, hn1⟩ := hrel
        by_cases hlt2 : k < l.length
        · have HV := Lib.hid (any_succ l i k)
          have HQ := Lib.hid (redQ_at hlt hlt2)
          have HN1 := Lib.hid hn1
          have HAT := Lib.hid (show ∀ W, Below w.heap.size w W → _ from fun W hW => And.intro ((HR.out.below hW hb).at k hlt2) ((HR.out.below hW hb).at i hlt))
          have s1 := (HBS.out _ (List.getElem_mem hlt)).s
          have s2 := (HBS.out _ (List.getElem_mem hlt2)).s
          have MA := Lib.hid (fun W => rwithin_any l[k].x l[k].y l[k].q l[i].x l[i].y l[i].q W s2 s1)
          have MB := Lib.hid (fun W => rwithin_any l[i].x l[i].y l[i].q l[k].x l[k].y l[k].q W s1 s2)
          rw [show withinQ l[k].x l[k].y l[k].q l[i].x l[i].y l[i].q = wiQ l[k] l[i] from rfl] at MA
          rw [show withinQ l[i].x l[i].y l[i].q l[k].x l[k].y l[k].q = wiQ l[i] l[k] from rfl] at MB
          generalize wiQ l[k] l[i] = r1 at *
          generalize wiQ l[i] l[k] = r2 at *
          generalize l[i] = d at *
          generalize l[k] = x at *
          have KS := Lib.hid (show ∀ W, Below wr.heap.size wr W → (W.cell? ⟨b, o + k * 3, none⟩ = some (.string (sQ x.x)) ∧ W.cell? ⟨b, o + k * 3 + 1, none⟩ = some (.string (sQ x.y)) ∧ W.cell? ⟨b, o + k * 3 + 2, none⟩ = some (.string (sQ x.q)) ∧ W.cell? ⟨b, o + i * 3, none⟩ = some (.string (sQ d.x)) ∧ W.cell? ⟨b, o + i * 3 + 1, none⟩ = some (.string (sQ d.y)) ∧ W.cell? ⟨b, o + i * 3 + 2, none⟩ = some (.string (sQ d.q))) ∧ (Below wr.heap.size wr W ∧ Below w.heap.size w W) from fun W hW => by
            have hw2 := HN1.out.trans (hW.mono HN1.out.size)
            obtain ⟨⟨f1, f2, f3⟩, f4, f5, f6⟩ := HAT.out W hw2
            exact ⟨⟨f1, f2, f3, f4, f5, f6⟩, hW, hw2⟩)
          have hq := Below.refl wr.heap.size wr
          clear s1 s2 HAT
          rw [HQ.out, ← hf.out] at HV
          clear hf HQ
          cases f
          · by_cases hki : k = i
            · rw [decide_eq_true hki] at HV
              have HF := Lib.hid (show false = (List.range (k + 1)).any (redQ l i) by rw [HV.out]; rfl)
              subst hki
              have t1 : ((k : Int) == (k : Int)) = true := by simp
              clear HV
              go_wp2_with fail
              go_quiet (fail)
              go_wp2_with fail
              exact ⟨⟨k + 1, _, by simp, rfl, by omega, HF, owns_below hown (below_drewN' hq _), hn1.trans ((below_drewN' hq _).mono hn1.size)⟩, by simp [intOf]; omega⟩
            · rw [decide_eq_false hki] at HV
              have t1 : ((k : Int) != (i : Int)) = true := by simp; omega
              cases r1
              · have HF := Lib.hid (show false = (List.range (k + 1)).any (redQ l i) by rw [HV.out]; rfl)
                clear HV
                go_wp2_with fail
                refine wp_region_held_drew (S := fun W => (W.cell? ⟨b, o + k * 3, none⟩ = some (.string (sQ x.x)) ∧ W.cell? ⟨b, o + k * 3 + 1, none⟩ = some (.string (sQ x.y)) ∧ W.cell? ⟨b, o + k * 3 + 2, none⟩ = some (.string (sQ x.q)) ∧ W.cell? ⟨b, o + i * 3, none⟩ = some (.string (sQ d.x)) ∧ W.cell? ⟨b, o + i * 3 + 1, none⟩ = some (.string (sQ d.y)) ∧ W.cell? ⟨b, o + i * 3 + 2, none⟩ = some (.string (sQ d.q))) ∧ (Below wr.heap.size wr W ∧ Below w.heap.size w W)) (by kernel_rfl) (KS.out _ hq.drew) (fun hHeld => ?_)
                refine wpAnyH_take (i := 0) (oi := { dst := some 19, op := Op.move (Operand.tmp 5), type := 4, pos := "ref.go:243", after := #[], guard := none }) (v := ?_) rfl (by kernel_rfl) (by kernel_rfl) (by kernel_rfl) (fun _ _ _ h => h) (Or.inl ⟨by rfl, ?_⟩) (by assumption) ?_
                rotate_left
                · intro w hSw
                  (try dsimp only at hSw)
                  go_simp
                  try with_reducible rfl
                try simp only [Act.put, List.setIfInBounds_toArray, List.set_cons_zero, List.set_cons_succ]
                refine wpAnyH_take (i := 1) (oi := { dst := some 20, op := Op.move (Operand.tmp 19), type := 4, pos := "ref.go:243", after := #[{ on := 0, ground := Ground.data }], guard := none }) (v := ?_) rfl (by kernel_rfl) (by kernel_rfl) (by kernel_rfl) (fun _ _ _ h => h) (Or.inl ⟨by rfl, ?_⟩) (by assumption) ?_
                rotate_left
                · intro w hSw
                  (try dsimp only at hSw)
                  go_simp
                  try with_reducible rfl
                try simp only [Act.put, List.setIfInBounds_toArray, List.set_cons_zero, List.set_cons_succ]
                refine wpAnyH_take (i := 2) (oi := { dst := some 21, op := Op.move (Operand.tmp 6), type := 3, pos := "ref.go:243", after := #[{ on := 1, ground := Ground.guard }], guard := some (1, false) }) (v := ?_) rfl (by kernel_rfl) (by kernel_rfl) (by kernel_rfl) (fun _ _ _ h => h) (Or.inl ⟨by rfl, ?_⟩) (by assumption) ?_
                rotate_left
                · intro w hSw
                  (try dsimp only at hSw)
                  go_simp
                  try with_reducible rfl
                try simp only [Act.put, List.setIfInBounds_toArray, List.set_cons_zero, List.set_cons_succ]
                refine wpAnyH_take (i := 3) (oi := { dst := some 22, op := Op.move (Operand.tmp 4), type := 3, pos := "ref.go:243", after := #[{ on := 1, ground := Ground.guard }], guard := some (1, false) }) (v := ?_) rfl (by kernel_rfl) (by kernel_rfl) (by kernel_rfl) (fun _ _ _ h => h) (Or.inl ⟨by rfl, ?_⟩) (by assumption) ?_
                rotate_left
                · intro w hSw
                  (try dsimp only at hSw)
                  go_simp
                  try with_reducible rfl
                try simp only [Act.put, List.setIfInBounds_toArray, List.set_cons_zero, List.set_cons_succ]
                refine wpAnyH_take (i := 4) (oi := { dst := some 23, op := Op.binOp BinOp.neq 3 (Operand.tmp 21) (Operand.tmp 22) 3, type := 4, pos := "ref.go:243", after := #[{ on := 2, ground := Ground.data }, { on := 3, ground := Ground.data }, { on := 1, ground := Ground.guard }], guard := some (1, false) }) (v := ?_) rfl (by kernel_rfl) (by kernel_rfl) (by kernel_rfl) (fun _ _ _ h => h) (Or.inl ⟨by rfl, ?_⟩) (by assumption) ?_
                rotate_left
                · intro w hSw
                  (try dsimp only at hSw)
                  go_simp
                  try with_reducible rfl
                try simp only [Act.put, List.setIfInBounds_toArray, List.set_cons_zero, List.set_cons_succ]
                refine wpAnyH_take (i := 5) (oi := { dst := some 24, op := Op.move (Operand.tmp 23), type := 4, pos := "ref.go:243", after := #[{ on := 4, ground := Ground.data }, { on := 1, ground := Ground.chain }, { on := 1, ground := Ground.guard }], guard := some (1, false) }) (v := ?_) rfl (by kernel_rfl) (by kernel_rfl) (by kernel_rfl) (fun _ _ _ h => h) (Or.inl ⟨by rfl, ?_⟩) (by assumption) ?_
                rotate_left
                · intro w hSw
                  (try dsimp only at hSw)
                  go_simp
                  try with_reducible rfl
                try simp only [Act.put, List.setIfInBounds_toArray, List.set_cons_zero, List.set_cons_succ]
                refine wpAnyH_take (i := 6) (oi := { dst := some 25, op := Op.move (Operand.tmp 0), type := 37, pos := "ref.go:243", after := #[{ on := 5, ground := Ground.guard }], guard := some (5, true) }) (v := ?_) rfl (by kernel_rfl) (by kernel_rfl) (by kernel_rfl) (fun _ _ _ h => h) (Or.inl ⟨by rfl, ?_⟩) (by assumption) ?_
                rotate_left
                · intro w hSw
                  (try dsimp only at hSw)
                  go_simp
                  try with_reducible rfl
                try simp only [Act.put, List.setIfInBounds_toArray, List.set_cons_zero, List.set_cons_succ]
                refine wpAnyH_take (i := 7) (oi := { dst := some 26, op := Op.move (Operand.tmp 6), type := 3, pos := "ref.go:243", after := #[{ on := 5, ground := Ground.guard }], guard := some (5, true) }) (v := ?_) rfl (by kernel_rfl) (by kernel_rfl) (by kernel_rfl) (fun _ _ _ h => h) (Or.inl ⟨by rfl, ?_⟩) (by assumption) ?_
                rotate_left
                · intro w hSw
                  (try dsimp only at hSw)
                  go_simp
                  try with_reducible rfl
                try simp only [Act.put, List.setIfInBounds_toArray, List.set_cons_zero, List.set_cons_succ]
                refine wpAnyH_take (i := 8) (oi := { dst := some 27, op := Op.indexAddr 37 (Operand.tmp 25) (Operand.tmp 26), type := 0, pos := "ref.go:243", after := #[{ on := 6, ground := Ground.data }, { on := 7, ground := Ground.data }, { on := 5, ground := Ground.guard }], guard := some (5, true) }) (v := ?_) rfl (by kernel_rfl) (by kernel_rfl) (by kernel_rfl) (fun _ _ _ h => h) (Or.inl ⟨by rfl, ?_⟩) (by assumption) ?_
                rotate_left
                · intro w hSw
                  (try dsimp only at hSw)
                  go_simp
                  try with_reducible rfl
                try simp only [Act.put, List.setIfInBounds_toArray, List.set_cons_zero, List.set_cons_succ]
                refine wpAnyH_take (i := 9) (oi := { dst := some 28, op := Op.load 26 (Operand.tmp 27), type := 26, pos := "ref.go:243", after := #[{ on := 8, ground := Ground.data }, { on := 5, ground := Ground.guard }], guard := some (5, true) }) (v := ?_) rfl (by kernel_rfl) (by kernel_rfl) (by kernel_rfl) (fun _ _ _ h => h) (Or.inl ⟨by rfl, ?_⟩) (by assumption) ?_
                rotate_left
                · intro w hSw
                  (try dsimp only at hSw)
                  go_simp
                  try with_reducible rfl
                try simp only [Act.put, List.setIfInBounds_toArray, List.set_cons_zero, List.set_cons_succ]
                refine wpAnyH_take (i := 10) (oi := { dst := some 29, op := Op.move (Operand.tmp 0), type := 37, pos := "ref.go:243", after := #[{ on := 5, ground := Ground.guard }], guard := some (5, true) }) (v := ?_) rfl (by kernel_rfl) (by kernel_rfl) (by kernel_rfl) (fun _ _ _ h => h) (Or.inl ⟨by rfl, ?_⟩) (by assumption) ?_
                rotate_left
                · intro w hSw
                  (try dsimp only at hSw)
                  go_simp
                  try with_reducible rfl
                try simp only [Act.put, List.setIfInBounds_toArray, List.set_cons_zero, List.set_cons_succ]
                refine wpAnyH_take (i := 11) (oi := { dst := some 30, op := Op.move (Operand.tmp 4), type := 3, pos := "ref.go:243", after := #[{ on := 5, ground := Ground.guard }], guard := some (5, true) }) (v := ?_) rfl (by kernel_rfl) (by kernel_rfl) (by kernel_rfl) (fun _ _ _ h => h) (Or.inl ⟨by rfl, ?_⟩) (by assumption) ?_
                rotate_left
                · intro w hSw
                  (try dsimp only at hSw)
                  go_simp
                  try with_reducible rfl
                try simp only [Act.put, List.setIfInBounds_toArray, List.set_cons_zero, List.set_cons_succ]
                refine wpAnyH_take (i := 12) (oi := { dst := some 31, op := Op.indexAddr 37 (Operand.tmp 29) (Operand.tmp 30), type := 0, pos := "ref.go:243", after := #[{ on := 10, ground := Ground.data }, { on := 11, ground := Ground.data }, { on := 5, ground := Ground.guard }], guard := some (5, true) }) (v := ?_) rfl (by kernel_rfl) (by kernel_rfl) (by kernel_rfl) (fun _ _ _ h => h) (Or.inl ⟨by rfl, ?_⟩) (by assumption) ?_
                rotate_left
                · intro w hSw
                  (try dsimp only at hSw)
                  go_simp
                  try with_reducible rfl
                try simp only [Act.put, List.setIfInBounds_toArray, List.set_cons_zero, List.set_cons_succ]
                refine wpAnyH_take (i := 13) (oi := { dst := some 32, op := Op.load 26 (Operand.tmp 31), type := 26, pos := "ref.go:243", after := #[{ on := 12, ground := Ground.data }, { on := 5, ground := Ground.guard }], guard := some (5, true) }) (v := ?_) rfl (by kernel_rfl) (by kernel_rfl) (by kernel_rfl) (fun _ _ _ h => h) (Or.inl ⟨by rfl, ?_⟩) (by assumption) ?_
                rotate_left
                · intro w hSw
                  (try dsimp only at hSw)
                  go_simp
                  try with_reducible rfl
                try simp only [Act.put, List.setIfInBounds_toArray, List.set_cons_zero, List.set_cons_succ]
                refine wpAnyH_ready (rs := [14]) (by kernel_rfl) (by simp) ?_
                refine AllReadyH.cons (o := { dst := some 33, op := Op.call { callee := Callee.value (Operand.func 67), args := #[Operand.tmp 28, Operand.tmp 32], argTypes := #[26, 26] }, type := 4, pos := "ref.go:243", after := #[{ on := 9, ground := Ground.data }, { on := 13, ground := Ground.data }, { on := 5, ground := Ground.chain }, { on := 5, ground := Ground.guard }], guard := some (5, true) }) rfl (fun K hK => ?_) AllReadyH.nil
                rw [if_pos (by rfl)]
                go_simp
                refine (MA.out _).mono ?_
                rintro e w1 ⟨rfl, hb1⟩
                have hb2 := hq.drew.trans (hb1.mono hq.drew.size)
                refine hK.out _ _ (KS.out _ hb2) (fun hHeld => ?_)
                try simp only [Act.put, List.setIfInBounds_toArray, List.set_cons_zero, List.set_cons_succ]
                refine wpAnyH_take (i := 15) (oi := { dst := some 34, op := Op.pick (Operand.tmp 24) (Operand.tmp 33) (Operand.const (Value.bool false)), type := 4, pos := "ref.go:243", after := #[{ on := 5, ground := Ground.data }, { on := 14, ground := Ground.data }, { on := 1, ground := Ground.guard }], guard := some (1, false) }) (v := ?_) rfl (by kernel_rfl) (by kernel_rfl) (by kernel_rfl) (fun _ _ _ h => h) (Or.inl ⟨by rfl, ?_⟩) (by assumption) ?_
                rotate_left
                · intro w hSw
                  (try dsimp only at hSw)
                  go_simp
                  try with_reducible rfl
                try simp only [Act.put, List.setIfInBounds_toArray, List.set_cons_zero, List.set_cons_succ]
                refine wpAnyH_take (i := 16) (oi := { dst := some 35, op := Op.move (Operand.tmp 34), type := 4, pos := "ref.go:243", after := #[{ on := 15, ground := Ground.data }, { on := 14, ground := Ground.chain }, { on := 1, ground := Ground.guard }], guard := some (1, false) }) (v := ?_) rfl (by kernel_rfl) (by kernel_rfl) (by kernel_rfl) (fun _ _ _ h => h) (Or.inl ⟨by rfl, ?_⟩) (by assumption) ?_
                rotate_left
                · intro w hSw
                  (try dsimp only at hSw)
                  go_simp
                  try with_reducible rfl
                try simp only [Act.put, List.setIfInBounds_toArray, List.set_cons_zero, List.set_cons_succ]
                refine wpAnyH_take (i := 17) (oi := { dst := some 36, op := Op.move (Operand.tmp 6), type := 3, pos := "ref.go:243", after := #[{ on := 16, ground := Ground.guard }], guard := some (16, true) }) (v := undef) rfl (by kernel_rfl) (by kernel_rfl) (by kernel_rfl) (fun _ _ _ h => h) (Or.inr ⟨by rfl, rfl⟩) (by assumption) ?_
                try simp only [Act.put, List.setIfInBounds_toArray, List.set_cons_zero, List.set_cons_succ]
                refine wpAnyH_take (i := 18) (oi := { dst := some 37, op := Op.move (Operand.tmp 4), type := 3, pos := "ref.go:243", after := #[{ on := 16, ground := Ground.guard }], guard := some (16, true) }) (v := undef) rfl (by kernel_rfl) (by kernel_rfl) (by kernel_rfl) (fun _ _ _ h => h) (Or.inr ⟨by rfl, rfl⟩) (by assumption) ?_
                try simp only [Act.put, List.setIfInBounds_toArray, List.set_cons_zero, List.set_cons_succ]
                refine wpAnyH_take (i := 19) (oi := { dst := some 38, op := Op.binOp BinOp.lss 3 (Operand.tmp 36) (Operand.tmp 37) 3, type := 4, pos := "ref.go:243", after := #[{ on := 17, ground := Ground.data }, { on := 18, ground := Ground.data }, { on := 16, ground := Ground.guard }], guard := some (16, true) }) (v := undef) rfl (by kernel_rfl) (by kernel_rfl) (by kernel_rfl) (fun _ _ _ h => h) (Or.inr ⟨by rfl, rfl⟩) (by assumption) ?_
                try simp only [Act.put, List.setIfInBounds_toArray, List.set_cons_zero, List.set_cons_succ]
                refine wpAnyH_take (i := 20) (oi := { dst := some 39, op := Op.move (Operand.tmp 38), type := 4, pos := "ref.go:243", after := #[{ on := 19, ground := Ground.data }, { on := 16, ground := Ground.chain }, { on := 16, ground := Ground.guard }], guard := some (16, true) }) (v := undef) rfl (by kernel_rfl) (by kernel_rfl) (by kernel_rfl) (fun _ _ _ h => h) (Or.inr ⟨by rfl, rfl⟩) (by assumption) ?_
                try simp only [Act.put, List.setIfInBounds_toArray, List.set_cons_zero, List.set_cons_succ]
                refine wpAnyH_take (i := 21) (oi := { dst := some 40, op := Op.move (Operand.tmp 0), type := 37, pos := "ref.go:243", after := #[{ on := 20, ground := Ground.guard }], guard := some (20, false) }) (v := undef) rfl (by kernel_rfl) (by kernel_rfl) (by kernel_rfl) (fun _ _ _ h => h) (Or.inr ⟨by rfl, rfl⟩) (by assumption) ?_
                try simp only [Act.put, List.setIfInBounds_toArray, List.set_cons_zero, List.set_cons_succ]
                refine wpAnyH_take (i := 22) (oi := { dst := some 41, op := Op.move (Operand.tmp 4), type := 3, pos := "ref.go:243", after := #[{ on := 20, ground := Ground.guard }], guard := some (20, false) }) (v := undef) rfl (by kernel_rfl) (by kernel_rfl) (by kernel_rfl) (fun _ _ _ h => h) (Or.inr ⟨by rfl, rfl⟩) (by assumption) ?_
                try simp only [Act.put, List.setIfInBounds_toArray, List.set_cons_zero, List.set_cons_succ]
                refine wpAnyH_take (i := 23) (oi := { dst := some 42, op := Op.indexAddr 37 (Operand.tmp 40) (Operand.tmp 41), type := 0, pos := "ref.go:243", after := #[{ on := 21, ground := Ground.data }, { on := 22, ground := Ground.data }, { on := 20, ground := Ground.guard }], guard := some (20, false) }) (v := undef) rfl (by kernel_rfl) (by kernel_rfl) (by kernel_rfl) (fun _ _ _ h => h) (Or.inr ⟨by rfl, rfl⟩) (by assumption) ?_
                try simp only [Act.put, List.setIfInBounds_toArray, List.set_cons_zero, List.set_cons_succ]
                refine wpAnyH_take (i := 24) (oi := { dst := some 43, op := Op.load 26 (Operand.tmp 42), type := 26, pos := "ref.go:243", after := #[{ on := 23, ground := Ground.data }, { on := 20, ground := Ground.guard }], guard := some (20, false) }) (v := undef) rfl (by kernel_rfl) (by kernel_rfl) (by kernel_rfl) (fun _ _ _ h => h) (Or.inr ⟨by rfl, rfl⟩) (by assumption) ?_
                try simp only [Act.put, List.setIfInBounds_toArray, List.set_cons_zero, List.set_cons_succ]
                refine wpAnyH_take (i := 25) (oi := { dst := some 44, op := Op.move (Operand.tmp 0), type := 37, pos := "ref.go:243", after := #[{ on := 20, ground := Ground.guard }], guard := some (20, false) }) (v := undef) rfl (by kernel_rfl) (by kernel_rfl) (by kernel_rfl) (fun _ _ _ h => h) (Or.inr ⟨by rfl, rfl⟩) (by assumption) ?_
                try simp only [Act.put, List.setIfInBounds_toArray, List.set_cons_zero, List.set_cons_succ]
                refine wpAnyH_take (i := 26) (oi := { dst := some 45, op := Op.move (Operand.tmp 6), type := 3, pos := "ref.go:243", after := #[{ on := 20, ground := Ground.guard }], guard := some (20, false) }) (v := undef) rfl (by kernel_rfl) (by kernel_rfl) (by kernel_rfl) (fun _ _ _ h => h) (Or.inr ⟨by rfl, rfl⟩) (by assumption) ?_
                try simp only [Act.put, List.setIfInBounds_toArray, List.set_cons_zero, List.set_cons_succ]
                refine wpAnyH_take (i := 27) (oi := { dst := some 46, op := Op.indexAddr 37 (Operand.tmp 44) (Operand.tmp 45), type := 0, pos := "ref.go:243", after := #[{ on := 25, ground := Ground.data }, { on := 26, ground := Ground.data }, { on := 20, ground := Ground.guard }], guard := some (20, false) }) (v := undef) rfl (by kernel_rfl) (by kernel_rfl) (by kernel_rfl) (fun _ _ _ h => h) (Or.inr ⟨by rfl, rfl⟩) (by assumption) ?_
                try simp only [Act.put, List.setIfInBounds_toArray, List.set_cons_zero, List.set_cons_succ]
                refine wpAnyH_take (i := 28) (oi := { dst := some 47, op := Op.load 26 (Operand.tmp 46), type := 26, pos := "ref.go:243", after := #[{ on := 27, ground := Ground.data }, { on := 20, ground := Ground.guard }], guard := some (20, false) }) (v := undef) rfl (by kernel_rfl) (by kernel_rfl) (by kernel_rfl) (fun _ _ _ h => h) (Or.inr ⟨by rfl, rfl⟩) (by assumption) ?_
                try simp only [Act.put, List.setIfInBounds_toArray, List.set_cons_zero, List.set_cons_succ]
                refine wpAnyH_take (i := 29) (oi := { dst := some 48, op := Op.call { callee := Callee.value (Operand.func 67), args := #[Operand.tmp 43, Operand.tmp 47], argTypes := #[26, 26] }, type := 4, pos := "ref.go:243", after := #[{ on := 24, ground := Ground.data }, { on := 28, ground := Ground.data }, { on := 20, ground := Ground.chain }, { on := 20, ground := Ground.guard }], guard := some (20, false) }) (v := undef) rfl (by kernel_rfl) (by kernel_rfl) (by kernel_rfl) (fun _ _ _ h => h) (Or.inr ⟨by rfl, rfl⟩) (by assumption) ?_
                try simp only [Act.put, List.setIfInBounds_toArray, List.set_cons_zero, List.set_cons_succ]
                refine wpAnyH_take (i := 30) (oi := { dst := some 49, op := Op.unOp UnOp.not 4 (Operand.tmp 48), type := 4, pos := "ref.go:243", after := #[{ on := 29, ground := Ground.data }, { on := 20, ground := Ground.guard }], guard := some (20, false) }) (v := undef) rfl (by kernel_rfl) (by kernel_rfl) (by kernel_rfl) (fun _ _ _ h => h) (Or.inr ⟨by rfl, rfl⟩) (by assumption) ?_
                try simp only [Act.put, List.setIfInBounds_toArray, List.set_cons_zero, List.set_cons_succ]
                refine wpAnyH_take (i := 31) (oi := { dst := some 50, op := Op.pick (Operand.tmp 39) (Operand.const (Value.bool true)) (Operand.tmp 49), type := 4, pos := "ref.go:243", after := #[{ on := 20, ground := Ground.data }, { on := 30, ground := Ground.data }, { on := 16, ground := Ground.guard }], guard := some (16, true) }) (v := undef) rfl (by kernel_rfl) (by kernel_rfl) (by kernel_rfl) (fun _ _ _ h => h) (Or.inr ⟨by rfl, rfl⟩) (by assumption) ?_
                try simp only [Act.put, List.setIfInBounds_toArray, List.set_cons_zero, List.set_cons_succ]
                refine wpAnyH_take (i := 32) (oi := { dst := some 51, op := Op.pick (Operand.tmp 35) (Operand.tmp 50) (Operand.const (Value.bool false)), type := 4, pos := "ref.go:243", after := #[{ on := 16, ground := Ground.data }, { on := 31, ground := Ground.data }, { on := 1, ground := Ground.guard }], guard := some (1, false) }) (v := ?_) rfl (by kernel_rfl) (by kernel_rfl) (by kernel_rfl) (fun _ _ _ h => h) (Or.inl ⟨by rfl, ?_⟩) (by assumption) ?_
                rotate_left
                · intro w hSw
                  (try dsimp only at hSw)
                  go_simp
                  try with_reducible rfl
                try simp only [Act.put, List.setIfInBounds_toArray, List.set_cons_zero, List.set_cons_succ]
                refine wpAnyH_take (i := 33) (oi := { dst := some 52, op := Op.pick (Operand.tmp 20) (Operand.const (Value.bool true)) (Operand.tmp 51), type := 4, pos := "ref.go:243", after := #[{ on := 1, ground := Ground.data }, { on := 32, ground := Ground.data }], guard := none }) (v := ?_) rfl (by kernel_rfl) (by kernel_rfl) (by kernel_rfl) (fun _ _ _ h => h) (Or.inl ⟨by rfl, ?_⟩) (by assumption) ?_
                rotate_left
                · intro w hSw
                  (try dsimp only at hSw)
                  go_simp
                  try with_reducible rfl
                try simp only [Act.put, List.setIfInBounds_toArray, List.set_cons_zero, List.set_cons_succ]
                refine wpAnyH_take (i := 34) (oi := { dst := some 5, op := Op.assign (Operand.tmp 52), type := 4, pos := "ref.go:243", after := #[{ on := 33, ground := Ground.data }, { on := 29, ground := Ground.chain }, { on := 0, ground := Ground.phase }, { on := 1, ground := Ground.phase }, { on := 2, ground := Ground.phase }, { on := 3, ground := Ground.phase }, { on := 4, ground := Ground.phase }, { on := 5, ground := Ground.phase }, { on := 6, ground := Ground.phase }, { on := 7, ground := Ground.phase }, { on := 8, ground := Ground.phase }, { on := 9, ground := Ground.phase }, { on := 10, ground := Ground.phase }, { on := 11, ground := Ground.phase }, { on := 12, ground := Ground.phase }, { on := 13, ground := Ground.phase }, { on := 14, ground := Ground.phase }, { on := 15, ground := Ground.phase }, { on := 16, ground := Ground.phase }, { on := 17, ground := Ground.phase }, { on := 18, ground := Ground.phase }, { on := 19, ground := Ground.phase }, { on := 20, ground := Ground.phase }, { on := 21, ground := Ground.phase }, { on := 22, ground := Ground.phase }, { on := 23, ground := Ground.phase }, { on := 24, ground := Ground.phase }, { on := 25, ground := Ground.phase }, { on := 26, ground := Ground.phase }, { on := 27, ground := Ground.phase }, { on := 28, ground := Ground.phase }, { on := 29, ground := Ground.phase }, { on := 30, ground := Ground.phase }, { on := 31, ground := Ground.phase }, { on := 32, ground := Ground.phase }, { on := 33, ground := Ground.phase }], guard := none }) (v := ?_) rfl (by kernel_rfl) (by kernel_rfl) (by kernel_rfl) (fun _ _ _ h => h) (Or.inl ⟨by rfl, ?_⟩) (by assumption) ?_
                rotate_left
                · intro w hSw
                  (try dsimp only at hSw)
                  go_simp
                  try with_reducible rfl
                try simp only [Act.put, List.setIfInBounds_toArray, List.set_cons_zero, List.set_cons_succ]
                refine wpAnyH_done (by kernel_rfl) ?_ _
                go_wp2_with fail
                exact ⟨⟨k + 1, _, by simp, rfl, by omega, HF, owns_below hown hb2, hn1.trans (hb2.mono hn1.size)⟩, by simp [intOf]; omega⟩
              · by_cases hlk : k < i
                · rw [decide_eq_true hlk] at HV
                  have t2 : decide ((k : Int) < (i : Int)) = true := by simp; omega
                  have HF := Lib.hid (show true = (List.range (k + 1)).any (redQ l i) by rw [HV.out]; rfl)
                  clear HV
                  go_wp2_with fail
                  refine wp_region_held_drew (S := fun W => (W.cell? ⟨b, o + k * 3, none⟩ = some (.string (sQ x.x)) ∧ W.cell? ⟨b, o + k * 3 + 1, none⟩ = some (.string (sQ x.y)) ∧ W.cell? ⟨b, o + k * 3 + 2, none⟩ = some (.string (sQ x.q)) ∧ W.cell? ⟨b, o + i * 3, none⟩ = some (.string (sQ d.x)) ∧ W.cell? ⟨b, o + i * 3 + 1, none⟩ = some (.string (sQ d.y)) ∧ W.cell? ⟨b, o + i * 3 + 2, none⟩ = some (.string (sQ d.q))) ∧ (Below wr.heap.size wr W ∧ Below w.heap.size w W)) (by kernel_rfl) (KS.out _ hq.drew) (fun hHeld => ?_)
                  refine wpAnyH_take (i := 0) (oi := { dst := some 19, op := Op.move (Operand.tmp 5), type := 4, pos := "ref.go:243", after := #[], guard := none }) (v := ?_) rfl (by kernel_rfl) (by kernel_rfl) (by kernel_rfl) (fun _ _ _ h => h) (Or.inl ⟨by rfl, ?_⟩) (by assumption) ?_
                  rotate_left
                  · intro w hSw
                    (try dsimp only at hSw)
                    go_simp
                    try with_reducible rfl
                  try simp only [Act.put, List.setIfInBounds_toArray, List.set_cons_zero, List.set_cons_succ]
                  refine wpAnyH_take (i := 1) (oi := { dst := some 20, op := Op.move (Operand.tmp 19), type := 4, pos := "ref.go:243", after := #[{ on := 0, ground := Ground.data }], guard := none }) (v := ?_) rfl (by kernel_rfl) (by kernel_rfl) (by kernel_rfl) (fun _ _ _ h => h) (Or.inl ⟨by rfl, ?_⟩) (by assumption) ?_
                  rotate_left
                  · intro w hSw
                    (try dsimp only at hSw)
                    go_simp
                    try with_reducible rfl
                  try simp only [Act.put, List.setIfInBounds_toArray, List.set_cons_zero, List.set_cons_succ]
                  refine wpAnyH_take (i := 2) (oi := { dst := some 21, op := Op.move (Operand.tmp 6), type := 3, pos := "ref.go:243", after := #[{ on := 1, ground := Ground.guard }], guard := some (1, false) }) (v := ?_) rfl (by kernel_rfl) (by kernel_rfl) (by kernel_rfl) (fun _ _ _ h => h) (Or.inl ⟨by rfl, ?_⟩) (by assumption) ?_
                  rotate_left
                  · intro w hSw
                    (try dsimp only at hSw)
                    go_simp
                    try with_reducible rfl
                  try simp only [Act.put, List.setIfInBounds_toArray, List.set_cons_zero, List.set_cons_succ]
                  refine wpAnyH_take (i := 3) (oi := { dst := some 22, op := Op.move (Operand.tmp 4), type := 3, pos := "ref.go:243", after := #[{ on := 1, ground := Ground.guard }], guard := some (1, false) }) (v := ?_) rfl (by kernel_rfl) (by kernel_rfl) (by kernel_rfl) (fun _ _ _ h => h) (Or.inl ⟨by rfl, ?_⟩) (by assumption) ?_
                  rotate_left
                  · intro w hSw
                    (try dsimp only at hSw)
                    go_simp
                    try with_reducible rfl
                  try simp only [Act.put, List.setIfInBounds_toArray, List.set_cons_zero, List.set_cons_succ]
                  refine wpAnyH_take (i := 4) (oi := { dst := some 23, op := Op.binOp BinOp.neq 3 (Operand.tmp 21) (Operand.tmp 22) 3, type := 4, pos := "ref.go:243", after := #[{ on := 2, ground := Ground.data }, { on := 3, ground := Ground.data }, { on := 1, ground := Ground.guard }], guard := some (1, false) }) (v := ?_) rfl (by kernel_rfl) (by kernel_rfl) (by kernel_rfl) (fun _ _ _ h => h) (Or.inl ⟨by rfl, ?_⟩) (by assumption) ?_
                  rotate_left
                  · intro w hSw
                    (try dsimp only at hSw)
                    go_simp
                    try with_reducible rfl
                  try simp only [Act.put, List.setIfInBounds_toArray, List.set_cons_zero, List.set_cons_succ]
                  refine wpAnyH_take (i := 5) (oi := { dst := some 24, op := Op.move (Operand.tmp 23), type := 4, pos := "ref.go:243", after := #[{ on := 4, ground := Ground.data }, { on := 1, ground := Ground.chain }, { on := 1, ground := Ground.guard }], guard := some (1, false) }) (v := ?_) rfl (by kernel_rfl) (by kernel_rfl) (by kernel_rfl) (fun _ _ _ h => h) (Or.inl ⟨by rfl, ?_⟩) (by assumption) ?_
                  rotate_left
                  · intro w hSw
                    (try dsimp only at hSw)
                    go_simp
                    try with_reducible rfl
                  try simp only [Act.put, List.setIfInBounds_toArray, List.set_cons_zero, List.set_cons_succ]
                  refine wpAnyH_take (i := 6) (oi := { dst := some 25, op := Op.move (Operand.tmp 0), type := 37, pos := "ref.go:243", after := #[{ on := 5, ground := Ground.guard }], guard := some (5, true) }) (v := ?_) rfl (by kernel_rfl) (by kernel_rfl) (by kernel_rfl) (fun _ _ _ h => h) (Or.inl ⟨by rfl, ?_⟩) (by assumption) ?_
                  rotate_left
                  · intro w hSw
                    (try dsimp only at hSw)
                    go_simp
                    try with_reducible rfl
                  try simp only [Act.put, List.setIfInBounds_toArray, List.set_cons_zero, List.set_cons_succ]
                  refine wpAnyH_take (i := 7) (oi := { dst := some 26, op := Op.move (Operand.tmp 6), type := 3, pos := "ref.go:243", after := #[{ on := 5, ground := Ground.guard }], guard := some (5, true) }) (v := ?_) rfl (by kernel_rfl) (by kernel_rfl) (by kernel_rfl) (fun _ _ _ h => h) (Or.inl ⟨by rfl, ?_⟩) (by assumption) ?_
                  rotate_left
                  · intro w hSw
                    (try dsimp only at hSw)
                    go_simp
                    try with_reducible rfl
                  try simp only [Act.put, List.setIfInBounds_toArray, List.set_cons_zero, List.set_cons_succ]
                  refine wpAnyH_take (i := 8) (oi := { dst := some 27, op := Op.indexAddr 37 (Operand.tmp 25) (Operand.tmp 26), type := 0, pos := "ref.go:243", after := #[{ on := 6, ground := Ground.data }, { on := 7, ground := Ground.data }, { on := 5, ground := Ground.guard }], guard := some (5, true) }) (v := ?_) rfl (by kernel_rfl) (by kernel_rfl) (by kernel_rfl) (fun _ _ _ h => h) (Or.inl ⟨by rfl, ?_⟩) (by assumption) ?_
                  rotate_left
                  · intro w hSw
                    (try dsimp only at hSw)
                    go_simp
                    try with_reducible rfl
                  try simp only [Act.put, List.setIfInBounds_toArray, List.set_cons_zero, List.set_cons_succ]
                  refine wpAnyH_take (i := 9) (oi := { dst := some 28, op := Op.load 26 (Operand.tmp 27), type := 26, pos := "ref.go:243", after := #[{ on := 8, ground := Ground.data }, { on := 5, ground := Ground.guard }], guard := some (5, true) }) (v := ?_) rfl (by kernel_rfl) (by kernel_rfl) (by kernel_rfl) (fun _ _ _ h => h) (Or.inl ⟨by rfl, ?_⟩) (by assumption) ?_
                  rotate_left
                  · intro w hSw
                    (try dsimp only at hSw)
                    go_simp
                    try with_reducible rfl
                  try simp only [Act.put, List.setIfInBounds_toArray, List.set_cons_zero, List.set_cons_succ]
                  refine wpAnyH_take (i := 10) (oi := { dst := some 29, op := Op.move (Operand.tmp 0), type := 37, pos := "ref.go:243", after := #[{ on := 5, ground := Ground.guard }], guard := some (5, true) }) (v := ?_) rfl (by kernel_rfl) (by kernel_rfl) (by kernel_rfl) (fun _ _ _ h => h) (Or.inl ⟨by rfl, ?_⟩) (by assumption) ?_
                  rotate_left
                  · intro w hSw
                    (try dsimp only at hSw)
                    go_simp
                    try with_reducible rfl
                  try simp only [Act.put, List.setIfInBounds_toArray, List.set_cons_zero, List.set_cons_succ]
                  refine wpAnyH_take (i := 11) (oi := { dst := some 30, op := Op.move (Operand.tmp 4), type := 3, pos := "ref.go:243", after := #[{ on := 5, ground := Ground.guard }], guard := some (5, true) }) (v := ?_) rfl (by kernel_rfl) (by kernel_rfl) (by kernel_rfl) (fun _ _ _ h => h) (Or.inl ⟨by rfl, ?_⟩) (by assumption) ?_
                  rotate_left
                  · intro w hSw
                    (try dsimp only at hSw)
                    go_simp
                    try with_reducible rfl
                  try simp only [Act.put, List.setIfInBounds_toArray, List.set_cons_zero, List.set_cons_succ]
                  refine wpAnyH_take (i := 12) (oi := { dst := some 31, op := Op.indexAddr 37 (Operand.tmp 29) (Operand.tmp 30), type := 0, pos := "ref.go:243", after := #[{ on := 10, ground := Ground.data }, { on := 11, ground := Ground.data }, { on := 5, ground := Ground.guard }], guard := some (5, true) }) (v := ?_) rfl (by kernel_rfl) (by kernel_rfl) (by kernel_rfl) (fun _ _ _ h => h) (Or.inl ⟨by rfl, ?_⟩) (by assumption) ?_
                  rotate_left
                  · intro w hSw
                    (try dsimp only at hSw)
                    go_simp
                    try with_reducible rfl
                  try simp only [Act.put, List.setIfInBounds_toArray, List.set_cons_zero, List.set_cons_succ]
                  refine wpAnyH_take (i := 13) (oi := { dst := some 32, op := Op.load 26 (Operand.tmp 31), type := 26, pos := "ref.go:243", after := #[{ on := 12, ground := Ground.data }, { on := 5, ground := Ground.guard }], guard := some (5, true) }) (v := ?_) rfl (by kernel_rfl) (by kernel_rfl) (by kernel_rfl) (fun _ _ _ h => h) (Or.inl ⟨by rfl, ?_⟩) (by assumption) ?_
                  rotate_left
                  · intro w hSw
                    (try dsimp only at hSw)
                    go_simp
                    try with_reducible rfl
                  try simp only [Act.put, List.setIfInBounds_toArray, List.set_cons_zero, List.set_cons_succ]
                  refine wpAnyH_ready (rs := [14]) (by kernel_rfl) (by simp) ?_
                  refine AllReadyH.cons (o := { dst := some 33, op := Op.call { callee := Callee.value (Operand.func 67), args := #[Operand.tmp 28, Operand.tmp 32], argTypes := #[26, 26] }, type := 4, pos := "ref.go:243", after := #[{ on := 9, ground := Ground.data }, { on := 13, ground := Ground.data }, { on := 5, ground := Ground.chain }, { on := 5, ground := Ground.guard }], guard := some (5, true) }) rfl (fun K hK => ?_) AllReadyH.nil
                  rw [if_pos (by rfl)]
                  go_simp
                  refine (MA.out _).mono ?_
                  rintro e w1 ⟨rfl, hb1⟩
                  have hb2 := hq.drew.trans (hb1.mono hq.drew.size)
                  refine hK.out _ _ (KS.out _ hb2) (fun hHeld => ?_)
                  try simp only [Act.put, List.setIfInBounds_toArray, List.set_cons_zero, List.set_cons_succ]
                  refine wpAnyH_take (i := 15) (oi := { dst := some 34, op := Op.pick (Operand.tmp 24) (Operand.tmp 33) (Operand.const (Value.bool false)), type := 4, pos := "ref.go:243", after := #[{ on := 5, ground := Ground.data }, { on := 14, ground := Ground.data }, { on := 1, ground := Ground.guard }], guard := some (1, false) }) (v := ?_) rfl (by kernel_rfl) (by kernel_rfl) (by kernel_rfl) (fun _ _ _ h => h) (Or.inl ⟨by rfl, ?_⟩) (by assumption) ?_
                  rotate_left
                  · intro w hSw
                    (try dsimp only at hSw)
                    go_simp
                    try with_reducible rfl
                  try simp only [Act.put, List.setIfInBounds_toArray, List.set_cons_zero, List.set_cons_succ]
                  refine wpAnyH_take (i := 16) (oi := { dst := some 35, op := Op.move (Operand.tmp 34), type := 4, pos := "ref.go:243", after := #[{ on := 15, ground := Ground.data }, { on := 14, ground := Ground.chain }, { on := 1, ground := Ground.guard }], guard := some (1, false) }) (v := ?_) rfl (by kernel_rfl) (by kernel_rfl) (by kernel_rfl) (fun _ _ _ h => h) (Or.inl ⟨by rfl, ?_⟩) (by assumption) ?_
                  rotate_left
                  · intro w hSw
                    (try dsimp only at hSw)
                    go_simp
                    try with_reducible rfl
                  try simp only [Act.put, List.setIfInBounds_toArray, List.set_cons_zero, List.set_cons_succ]
                  refine wpAnyH_take (i := 17) (oi := { dst := some 36, op := Op.move (Operand.tmp 6), type := 3, pos := "ref.go:243", after := #[{ on := 16, ground := Ground.guard }], guard := some (16, true) }) (v := ?_) rfl (by kernel_rfl) (by kernel_rfl) (by kernel_rfl) (fun _ _ _ h => h) (Or.inl ⟨by rfl, ?_⟩) (by assumption) ?_
                  rotate_left
                  · intro w hSw
                    (try dsimp only at hSw)
                    go_simp
                    try with_reducible rfl
                  try simp only [Act.put, List.setIfInBounds_toArray, List.set_cons_zero, List.set_cons_succ]
                  refine wpAnyH_take (i := 18) (oi := { dst := some 37, op := Op.move (Operand.tmp 4), type := 3, pos := "ref.go:243", after := #[{ on := 16, ground := Ground.guard }], guard := some (16, true) }) (v := ?_) rfl (by kernel_rfl) (by kernel_rfl) (by kernel_rfl) (fun _ _ _ h => h) (Or.inl ⟨by rfl, ?_⟩) (by assumption) ?_
                  rotate_left
                  · intro w hSw
                    (try dsimp only at hSw)
                    go_simp
                    try with_reducible rfl
                  try simp only [Act.put, List.setIfInBounds_toArray, List.set_cons_zero, List.set_cons_succ]
                  refine wpAnyH_take (i := 19) (oi := { dst := some 38, op := Op.binOp BinOp.lss 3 (Operand.tmp 36) (Operand.tmp 37) 3, type := 4, pos := "ref.go:243", after := #[{ on := 17, ground := Ground.data }, { on := 18, ground := Ground.data }, { on := 16, ground := Ground.guard }], guard := some (16, true) }) (v := ?_) rfl (by kernel_rfl) (by kernel_rfl) (by kernel_rfl) (fun _ _ _ h => h) (Or.inl ⟨by rfl, ?_⟩) (by assumption) ?_
                  rotate_left
                  · intro w hSw
                    (try dsimp only at hSw)
                    go_simp
                    try with_reducible rfl
                  try simp only [Act.put, List.setIfInBounds_toArray, List.set_cons_zero, List.set_cons_succ]
                  refine wpAnyH_take (i := 20) (oi := { dst := some 39, op := Op.move (Operand.tmp 38), type := 4, pos := "ref.go:243", after := #[{ on := 19, ground := Ground.data }, { on := 16, ground := Ground.chain }, { on := 16, ground := Ground.guard }], guard := some (16, true) }) (v := ?_) rfl (by kernel_rfl) (by kernel_rfl) (by kernel_rfl) (fun _ _ _ h => h) (Or.inl ⟨by rfl, ?_⟩) (by assumption) ?_
                  rotate_left
                  · intro w hSw
                    (try dsimp only at hSw)
                    go_simp
                    try with_reducible rfl
                  try simp only [Act.put, List.setIfInBounds_toArray, List.set_cons_zero, List.set_cons_succ]
                  refine wpAnyH_take (i := 21) (oi := { dst := some 40, op := Op.move (Operand.tmp 0), type := 37, pos := "ref.go:243", after := #[{ on := 20, ground := Ground.guard }], guard := some (20, false) }) (v := undef) rfl (by kernel_rfl) (by kernel_rfl) (by kernel_rfl) (fun _ _ _ h => h) (Or.inr ⟨by rfl, rfl⟩) (by assumption) ?_
                  try simp only [Act.put, List.setIfInBounds_toArray, List.set_cons_zero, List.set_cons_succ]
                  refine wpAnyH_take (i := 22) (oi := { dst := some 41, op := Op.move (Operand.tmp 4), type := 3, pos := "ref.go:243", after := #[{ on := 20, ground := Ground.guard }], guard := some (20, false) }) (v := undef) rfl (by kernel_rfl) (by kernel_rfl) (by kernel_rfl) (fun _ _ _ h => h) (Or.inr ⟨by rfl, rfl⟩) (by assumption) ?_
                  try simp only [Act.put, List.setIfInBounds_toArray, List.set_cons_zero, List.set_cons_succ]
                  refine wpAnyH_take (i := 23) (oi := { dst := some 42, op := Op.indexAddr 37 (Operand.tmp 40) (Operand.tmp 41), type := 0, pos := "ref.go:243", after := #[{ on := 21, ground := Ground.data }, { on := 22, ground := Ground.data }, { on := 20, ground := Ground.guard }], guard := some (20, false) }) (v := undef) rfl (by kernel_rfl) (by kernel_rfl) (by kernel_rfl) (fun _ _ _ h => h) (Or.inr ⟨by rfl, rfl⟩) (by assumption) ?_
                  try simp only [Act.put, List.setIfInBounds_toArray, List.set_cons_zero, List.set_cons_succ]
                  refine wpAnyH_take (i := 24) (oi := { dst := some 43, op := Op.load 26 (Operand.tmp 42), type := 26, pos := "ref.go:243", after := #[{ on := 23, ground := Ground.data }, { on := 20, ground := Ground.guard }], guard := some (20, false) }) (v := undef) rfl (by kernel_rfl) (by kernel_rfl) (by kernel_rfl) (fun _ _ _ h => h) (Or.inr ⟨by rfl, rfl⟩) (by assumption) ?_
                  try simp only [Act.put, List.setIfInBounds_toArray, List.set_cons_zero, List.set_cons_succ]
                  refine wpAnyH_take (i := 25) (oi := { dst := some 44, op := Op.move (Operand.tmp 0), type := 37, pos := "ref.go:243", after := #[{ on := 20, ground := Ground.guard }], guard := some (20, false) }) (v := undef) rfl (by kernel_rfl) (by kernel_rfl) (by kernel_rfl) (fun _ _ _ h => h) (Or.inr ⟨by rfl, rfl⟩) (by assumption) ?_
                  try simp only [Act.put, List.setIfInBounds_toArray, List.set_cons_zero, List.set_cons_succ]
                  refine wpAnyH_take (i := 26) (oi := { dst := some 45, op := Op.move (Operand.tmp 6), type := 3, pos := "ref.go:243", after := #[{ on := 20, ground := Ground.guard }], guard := some (20, false) }) (v := undef) rfl (by kernel_rfl) (by kernel_rfl) (by kernel_rfl) (fun _ _ _ h => h) (Or.inr ⟨by rfl, rfl⟩) (by assumption) ?_
                  try simp only [Act.put, List.setIfInBounds_toArray, List.set_cons_zero, List.set_cons_succ]
                  refine wpAnyH_take (i := 27) (oi := { dst := some 46, op := Op.indexAddr 37 (Operand.tmp 44) (Operand.tmp 45), type := 0, pos := "ref.go:243", after := #[{ on := 25, ground := Ground.data }, { on := 26, ground := Ground.data }, { on := 20, ground := Ground.guard }], guard := some (20, false) }) (v := undef) rfl (by kernel_rfl) (by kernel_rfl) (by kernel_rfl) (fun _ _ _ h => h) (Or.inr ⟨by rfl, rfl⟩) (by assumption) ?_
                  try simp only [Act.put, List.setIfInBounds_toArray, List.set_cons_zero, List.set_cons_succ]
                  refine wpAnyH_take (i := 28) (oi := { dst := some 47, op := Op.load 26 (Operand.tmp 46), type := 26, pos := "ref.go:243", after := #[{ on := 27, ground := Ground.data }, { on := 20, ground := Ground.guard }], guard := some (20, false) }) (v := undef) rfl (by kernel_rfl) (by kernel_rfl) (by kernel_rfl) (fun _ _ _ h => h) (Or.inr ⟨by rfl, rfl⟩) (by assumption) ?_
                  try simp only [Act.put, List.setIfInBounds_toArray, List.set_cons_zero, List.set_cons_succ]
                  refine wpAnyH_take (i := 29) (oi := { dst := some 48, op := Op.call { callee := Callee.value (Operand.func 67), args := #[Operand.tmp 43, Operand.tmp 47], argTypes := #[26, 26] }, type := 4, pos := "ref.go:243", after := #[{ on := 24, ground := Ground.data }, { on := 28, ground := Ground.data }, { on := 20, ground := Ground.chain }, { on := 20, ground := Ground.guard }], guard := some (20, false) }) (v := undef) rfl (by kernel_rfl) (by kernel_rfl) (by kernel_rfl) (fun _ _ _ h => h) (Or.inr ⟨by rfl, rfl⟩) (by assumption) ?_
                  try simp only [Act.put, List.setIfInBounds_toArray, List.set_cons_zero, List.set_cons_succ]
                  refine wpAnyH_take (i := 30) (oi := { dst := some 49, op := Op.unOp UnOp.not 4 (Operand.tmp 48), type := 4, pos := "ref.go:243", after := #[{ on := 29, ground := Ground.data }, { on := 20, ground := Ground.guard }], guard := some (20, false) }) (v := undef) rfl (by kernel_rfl) (by kernel_rfl) (by kernel_rfl) (fun _ _ _ h => h) (Or.inr ⟨by rfl, rfl⟩) (by assumption) ?_
                  try simp only [Act.put, List.setIfInBounds_toArray, List.set_cons_zero, List.set_cons_succ]
                  refine wpAnyH_take (i := 31) (oi := { dst := some 50, op := Op.pick (Operand.tmp 39) (Operand.const (Value.bool true)) (Operand.tmp 49), type := 4, pos := "ref.go:243", after := #[{ on := 20, ground := Ground.data }, { on := 30, ground := Ground.data }, { on := 16, ground := Ground.guard }], guard := some (16, true) }) (v := ?_) rfl (by kernel_rfl) (by kernel_rfl) (by kernel_rfl) (fun _ _ _ h => h) (Or.inl ⟨by rfl, ?_⟩) (by assumption) ?_
                  rotate_left
                  · intro w hSw
                    (try dsimp only at hSw)
                    go_simp
                    try with_reducible rfl
                  try simp only [Act.put, List.setIfInBounds_toArray, List.set_cons_zero, List.set_cons_succ]
                  refine wpAnyH_take (i := 32) (oi := { dst := some 51, op := Op.pick (Operand.tmp 35) (Operand.tmp 50) (Operand.const (Value.bool false)), type := 4, pos := "ref.go:243", after := #[{ on := 16, ground := Ground.data }, { on := 31, ground := Ground.data }, { on := 1, ground := Ground.guard }], guard := some (1, false) }) (v := ?_) rfl (by kernel_rfl) (by kernel_rfl) (by kernel_rfl) (fun _ _ _ h => h) (Or.inl ⟨by rfl, ?_⟩) (by assumption) ?_
                  rotate_left
                  · intro w hSw
                    (try dsimp only at hSw)
                    go_simp
                    try with_reducible rfl
                  try simp only [Act.put, List.setIfInBounds_toArray, List.set_cons_zero, List.set_cons_succ]
                  refine wpAnyH_take (i := 33) (oi := { dst := some 52, op := Op.pick (Operand.tmp 20) (Operand.const (Value.bool true)) (Operand.tmp 51), type := 4, pos := "ref.go:243", after := #[{ on := 1, ground := Ground.data }, { on := 32, ground := Ground.data }], guard := none }) (v := ?_) rfl (by kernel_rfl) (by kernel_rfl) (by kernel_rfl) (fun _ _ _ h => h) (Or.inl ⟨by rfl, ?_⟩) (by assumption) ?_
                  rotate_left
                  · intro w hSw
                    (try dsimp only at hSw)
                    go_simp
                    try with_reducible rfl
                  try simp only [Act.put, List.setIfInBounds_toArray, List.set_cons_zero, List.set_cons_succ]
                  refine wpAnyH_take (i := 34) (oi := { dst := some 5, op := Op.assign (Operand.tmp 52), type := 4, pos := "ref.go:243", after := #[{ on := 33, ground := Ground.data }, { on := 29, ground := Ground.chain }, { on := 0, ground := Ground.phase }, { on := 1, ground := Ground.phase }, { on := 2, ground := Ground.phase }, { on := 3, ground := Ground.phase }, { on := 4, ground := Ground.phase }, { on := 5, ground := Ground.phase }, { on := 6, ground := Ground.phase }, { on := 7, ground := Ground.phase }, { on := 8, ground := Ground.phase }, { on := 9, ground := Ground.phase }, { on := 10, ground := Ground.phase }, { on := 11, ground := Ground.phase }, { on := 12, ground := Ground.phase }, { on := 13, ground := Ground.phase }, { on := 14, ground := Ground.phase }, { on := 15, ground := Ground.phase }, { on := 16, ground := Ground.phase }, { on := 17, ground := Ground.phase }, { on := 18, ground := Ground.phase }, { on := 19, ground := Ground.phase }, { on := 20, ground := Ground.phase }, { on := 21, ground := Ground.phase }, { on := 22, ground := Ground.phase }, { on := 23, ground := Ground.phase }, { on := 24, ground := Ground.phase }, { on := 25, ground := Ground.phase }, { on := 26, ground := Ground.phase }, { on := 27, ground := Ground.phase }, { on := 28, ground := Ground.phase }, { on := 29, ground := Ground.phase }, { on := 30, ground := Ground.phase }, { on := 31, ground := Ground.phase }, { on := 32, ground := Ground.phase }, { on := 33, ground := Ground.phase }], guard := none }) (v := ?_) rfl (by kernel_rfl) (by kernel_rfl) (by kernel_rfl) (fun _ _ _ h => h) (Or.inl ⟨by rfl, ?_⟩) (by assumption) ?_
                  rotate_left
                  · intro w hSw
                    (try dsimp only at hSw)
                    go_simp
                    try with_reducible rfl
                  try simp only [Act.put, List.setIfInBounds_toArray, List.set_cons_zero, List.set_cons_succ]
                  refine wpAnyH_done (by kernel_rfl) ?_ _
                  go_wp2_with fail
                  exact ⟨⟨k + 1, _, by simp, rfl, by omega, HF, owns_below hown hb2, hn1.trans (hb2.mono hn1.size)⟩, by simp [intOf]; omega⟩
                · rw [decide_eq_false hlk] at HV
                  have t2 : decide ((k : Int) < (i : Int)) = false := by simp; omega
                  have HF := Lib.hid (show (!r2) = (List.range (k + 1)).any (redQ l i) by rw [HV.out]; cases r2 <;> rfl)
                  clear HV
                  cases r2
                  all_goals
                    go_wp2_with fail
                    go_region_held3 (fun W => (W.cell? ⟨b, o + k * 3, none⟩ = some (.string (sQ x.x)) ∧ W.cell? ⟨b, o + k * 3 + 1, none⟩ = some (.string (sQ x.y)) ∧ W.cell? ⟨b, o + k * 3 + 2, none⟩ = some (.string (sQ x.q)) ∧ W.cell? ⟨b, o + i * 3, none⟩ = some (.string (sQ d.x)) ∧ W.cell? ⟨b, o + i * 3 + 1, none⟩ = some (.string (sQ d.y)) ∧ W.cell? ⟨b, o + i * 3 + 2, none⟩ = some (.string (sQ d.q))) ∧ (Below wr.heap.size wr W ∧ Below w.heap.size w W)) ((refine KS.out _ ?_; first | with_reducible exact hq.drew | with_reducible assumption)) (first | (go_at_call 67; have hh := ‹(_ ∧ _) ∧ (_ ∧ Below w.heap.size w _)›; with_reducible refine (MA.out _).mono ?_; rintro e w1 ⟨rfl, hb1⟩; have hb2 := hh.2.1.trans (hb1.mono hh.2.1.size)) | (go_at_call 67; have hh := ‹(_ ∧ _) ∧ (_ ∧ Below w.heap.size w _)›; with_reducible refine (MB.out _).mono ?_; rintro e w1 ⟨rfl, hb1⟩; have hb2 := hh.2.1.trans (hb1.mono hh.2.1.size)))
                    go_wp2_with fail
                    first
                      | exact ⟨⟨k + 1, _, by simp, rfl, by omega, HF, owns_below hown hb2, hn1.trans (hb2.mono hn1.size)⟩, by simp [intOf]; omega⟩
                      | exact ⟨⟨k + 1, _, by simp, rfl, by omega, HF, owns_below hown hq.drew, hn1.trans (hq.drew.mono hn1.size)⟩, by simp [intOf]; omega⟩
          · have HF := Lib.hid (show true = (List.range (k + 1)).any (redQ l i) by rw [HV.out]; rfl)
            clear HV
            go_wp2_with fail
            go_quiet (fail)
            go_wp2_with fail
            exact ⟨⟨k + 1, _, by simp, rfl, by omega, HF, owns_below hown (below_drewN' hq _), hn1.trans ((below_drewN' hq _).mono hn1.size)⟩, by simp [intOf]; omega⟩
        · have hkl : k = l.length := by omega
          subst hkl
          have HF : redA l i = f := hf.out.symm
          cases f
          · have HG := Lib.hid (HS1.out HF)
            clear HF hf HS1 HS2
            go_wp2_with fail
            exact ⟨⟨i + 1, by simp, by omega, by rw [HG.out]; exact hown, hn1⟩, by simp [intOf]; omega⟩
          · have HG := Lib.hid (HS2.out HF)
            have hcb := CB.new wr #[.int .i64 i] 3
            have HCE := Lib.hid (cells_new1 hcb)
            have hsz := hn1.size
            have hown4 := hown
            clear HF hf HS1 HS2 hcb
            generalize hwz : wr = wz at *
            go_wp2_with (first | (at_builtin; refine wpList_append_own _ rfl (.tmp 54) (.tmp 56) 56 rfl w.heap.size 3 i0 (.int .i64 0) 1 8 undI hi0 hz0 hz1 hz2 rfl (by decide) _ _ _ rfl (hown.alloc (.cells #[.int .i64 i] 3 (0, 0))) ⟨wz.heap.size, 0, none⟩ 1 1 [.int .i64 i] rfl rfl HCE.out (by intro u hu; simp at hu; rcases hu with rfl; rfl) (by unfold maxLen; omega) (by omega) (by simp; omega) ?_; intro v1 w1 hown1 hgrow1 hnil1) | fail)
            refine ⟨⟨i + 1, by simp, by omega, ?_, ?_⟩, by simp [intOf]; omega⟩
            · rw [HG.out]
              simpa [intsN] using hown1
            · exact (hn1.alloc hn1.size _).grown hgrow1 (by simp; omega) (fun j hj => (hown4.lt j hj).1)
    · have hil : i = l.length := by omega
      subst hil
      have HI := Lib.hid (irow_owns hown)
      clear hown
      go_wp2_with fail
      go_ret
      exact ⟨_, rfl, HI.out, hn1⟩

set_option maxRecDepth 100000 in
set_option maxHeartbeats 2000000 in
theorem rredundant_ok (b o cap : Nat) (l : List QD) (w : World) (hl : l.length ≤ 1000000) (hr : QRow w b o l) (hb : b < w.heap.size) (hbs : ∀ d ∈ l, Bs d)
    (HL : ∀ W, Below w.heap.size w W → Calls Tryz.prog 48 #[.slice (some ⟨b, o, none⟩) l.length cap] W fun e w' => e = .returned (.int .i64 0) ∧ Below W.heap.size W w') :
    Calls Tryz.prog 28 #[.slice (some ⟨b, o, none⟩) l.length cap] w fun e w' => ∃ v, e = .returned (.tuple #[v, .int .i64 0]) ∧ IRow w' v (spQ l l.length) ∧ Below w.heap.size w w' := by
  have ML := Lib.hid (HL _ (Below.refl _ _))
  have MA := Lib.hid (show ∀ W, Below w.heap.size w W → _ from fun W hW => rspare_any b o cap l W hl (hr.below hW hb) (Nat.lt_of_lt_of_le hb hW.size) hbs)
  clear HL hr hbs
  go_enter Tryz.func28, Tryz.ntmps28
  go_wp2_with fail
  refine ML.out.mono ?_
  rintro e w2 ⟨rfl, hb2⟩
  go_wp2_with fail
  refine (MA.out _ hb2).mono ?_
  rintro e w3 ⟨v, rfl, hi, hb3⟩
  have HI := Lib.hid hi
  clear hi
  go_wp2_with fail
  go_ret2
  exact ⟨_, rfl, HI.out, hb2.trans (hb3.mono hb2.size)⟩

set_option maxRecDepth 100000 in
set_option maxHeartbeats 2000000 in
theorem same_any (v u : Value) (l : List Nat) (w : World) (hv : IRow w v l) (hu : IRow w u l) (hl : l.length ≤ 1000000) :
    Calls Tryz.prog 29 #[v, u] w fun e w' => e = .returned (.bool true) ∧ Below w.heap.size w w' := by
  rcases hv with ⟨rfl, rfl⟩ | ⟨g, cp, rfl, hg, hgc⟩
  · rcases hu with ⟨_, rfl⟩ | ⟨g', cp', rfl, hg', hgc'⟩
    all_goals
      go_enter Tryz.func29, Tryz.ntmps29
      go_wp2_with fail
      go_loopw [5] (fun iv wr => ∃ k : Nat, iv = .int .i64 k ∧ k ≤ 0 ∧ Below w.heap.size w wr) (fun _ _ => 0)
      case atStart => exact ⟨0, rfl, Nat.le_refl _, Below.refl _ _⟩
      case round =>
        obtain ⟨k, rfl, hk, hn⟩ := hrel
        obtain rfl : k = 0 := by omega
        go_wp2_with fail
        go_ret
        exact ⟨rfl, hn⟩
  · obtain ⟨g', cp', hu1, hu2, hu3⟩ : ∃ (a : Option Addr) (c : Nat), u = .slice a l.length c ∧ (∀ k, ∀ h : k < l.length, ∃ g', a = some ⟨g', 0, none⟩ ∧ g' < w.heap.size ∧ w.cell? ⟨g', k, none⟩ = some (.int .i64 (l[k] : Int))) ∧ True := by
      rcases hu with ⟨rfl, rfl⟩ | ⟨g', cp', rfl, hg', hgc'⟩
      · exact ⟨none, 0, rfl, fun k h => absurd h (by simp), trivial⟩
      · exact ⟨_, _, rfl, fun k h => ⟨g', rfl, hg', hgc' k h⟩, trivial⟩
    subst hu1
    have HU := Lib.hid hu2
    have HG := Lib.hid hgc
    clear hu2 hgc hu3
    go_enter Tryz.func29, Tryz.ntmps29
    go_wp2_with fail
    go_loopw [5] (fun iv wr => ∃ k : Nat, iv = .int .i64 k ∧ k ≤ l.length ∧ Below w.heap.size w wr) (fun iv _ => l.length - (intOf iv).toNat)
    case atStart => exact ⟨0, rfl, Nat.zero_le _, Below.refl _ _⟩
    case round =>
      obtain ⟨k, rfl, hk, hn⟩ := hrel
      by_cases hlt : k < l.length
      · obtain ⟨g2, rfl, h2, h3⟩ := HU.out k hlt
        have c1 := (hn.cell (p := ⟨g, k, none⟩) hg).trans (HG.out k hlt)
        have c2 := (hn.cell (p := ⟨g2, k, none⟩) h2).trans h3
        generalize l[k] = z at *
        have hlt' : (k : Int) < (l.length : Int) := by omega
        have t0 : ((z : Int) == (z : Int)) = true := by simp
        go_wp2_with fail
        go_quiet (fail)
        go_wp2_with fail
        exact ⟨⟨k + 1, by simp, by omega, below_drewN' hn _⟩, by simp [intOf]; omega⟩
      · go_wp2_with fail
        go_ret
        exact ⟨rfl, hn⟩
end Go.Proofs.YtbdckemkmocdlaaGreatDoor

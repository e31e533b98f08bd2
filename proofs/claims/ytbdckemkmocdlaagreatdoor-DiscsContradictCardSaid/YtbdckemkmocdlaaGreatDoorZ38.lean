/- How a slice of discs, and a witness, are opened. -/
import Derived.Test.YtbdckemkmocdlaaGreatDoorZ32
import Derived.Test.YtbdckemkmocdlaaGreatDoorZ34
import Derived.Deep.Slices
set_option linter.all false
set_option exponentiation.threshold 2000000
namespace Go.Proofs.YtbdckemkmocdlaaGreatDoor
open Go.ChangeShapes Go.WideShapes Go.ChangeAt Go.RowKit Go.Joins

theorem add_none (b o k : Nat) : (⟨b, o, none⟩ : Addr).add k = ⟨b, o + k, none⟩ := by
  unfold Addr.add; split
  · rename_i h; simp_all
  · rfl

instance : Inhabited TD := ⟨⟨ByteArray.empty, ByteArray.empty, ByteArray.empty⟩⟩

set_option maxRecDepth 100000 in
/-- a slice of discs -/
theorem open_discs {H : Type} {enc : TypeId × Value → H} {W : World} {v : Value} {d : DataW H} {p : List MemPlace} {r : Reach} {b0 : Nat}
    (hv : Value.okWide Tryz.prog W r b0 37 v) (h : DataW.Trod enc Tryz.prog W 0 (fun _ => true) true 37 v d p) : ∃ l : List TD, SL W v l ∧ l.length ≤ 9223372036854775807 := by
  obtain ⟨a0, len0, cap0, rfl⟩ := okWide_slice Tryz.underlying37 hv
  obtain ⟨fuel, hf⟩ := h
  rcases Go.Deep.open_slice Tryz.underlying37 hf with ⟨hcs, _⟩ | ⟨a, len, cap, m, n, D, Pl, hcs, _, hl, hm, hmm, _, hx⟩
  · simp [Value.cells] at hcs
    obtain ⟨rfl, rfl, rfl⟩ := hcs
    exact ⟨[], .inl ⟨none, 0, rfl, rfl⟩, by simp⟩
  · simp [Value.cells] at hcs
    obtain ⟨rfl, rfl, rfl⟩ := hcs
    by_cases h0 : len0 = 0
    · subst h0
      exact ⟨[], .inl ⟨_, _, rfl, rfl⟩, by simp⟩
    · have e24 : Tryz.prog.cellsOf 24 = 2 := by kernel_rfl
      have e22 : Tryz.prog.cellsOf 22 = 1 := by kernel_rfl
      have e26 : Tryz.prog.cellsOf 26 = 3 := by kernel_rfl
      have hlm : len0 ≤ m := by rw [hmm]; split <;> omega
      obtain ⟨V, hV⟩ := Go.Deep.choose_lt (α := TD) (p := fun i t => W.cell? (a.add (i * 3)) = some (.string t.x) ∧ W.cell? ((a.add (i * 3)).add 1) = some (.string t.y) ∧ W.cell? ((a.add (i * 3)).add 2) = some (.string t.q)) (n := len0) (fun i hi => by
        obtain ⟨cs', h1, h2⟩ := hx i (by omega)
        rw [e26] at h1
        obtain ⟨_, hlen, hc⟩ := World.cells?_some h1
        obtain ⟨y0, y1, n', _, _, g0, g1⟩ := trod_struct2 Tryz.underlying26 h2
        simp only [e24, e22] at g0 g1
        obtain ⟨z0, z1, n'', _, _, k0, k1⟩ := trod_struct2 Tryz.underlying24 g0
        simp only [e22] at k0 k1
        obtain ⟨x, e0, _, _⟩ := DataW.trod_string (t := 22) Tryz.underlying22 k0
        obtain ⟨y, e1, _, _⟩ := DataW.trod_string (t := 22) Tryz.underlying22 k1
        obtain ⟨q, e2, _, _⟩ := DataW.trod_string (t := 22) Tryz.underlying22 g1
        match cs', hlen with
        | [c0, c1, c2], _ =>
          simp at e0 e1 e2
          subst e0 e1 e2
          exact ⟨⟨x, y, q⟩, by have := hc 0 (by omega); simpa [Addr.add] using this, by have := hc 1 (by omega); simpa using this, by have := hc 2 (by omega); simpa using this⟩)
      obtain ⟨b, o, sp⟩ := a
      have hc0 := (hV 0 (by omega)).1
      have hsp : sp = none := by simpa [Addr.add] using World.cell?_spot hc0
      subst hsp
      have hb : b < W.heap.size := by
        apply Classical.byContradiction
        intro hn
        have hnone : W.heap[b]? = none := by rw [Array.getElem?_eq_none_iff]; omega
        unfold World.cell? at hc0
        simp [Addr.add, hnone] at hc0
      refine ⟨(List.range len0).map V, .inr ⟨b, o, cap0, by simp, hb, fun i hi => ?_⟩, ?_⟩
      · have hi' : i < len0 := by simpa using hi
        obtain ⟨h1, h2, h3⟩ := hV i hi'
        simp only [List.getElem_map, List.getElem_range]
        rw [add_none] at h1 h2 h3
        rw [add_none] at h2 h3
        exact ⟨h1, h2, h3⟩
      · have : maxLen = 9223372036854775807 := by decide
        simp; omega

set_option maxRecDepth 100000 in
/-- a witness by value -/
theorem open_wit {H : Type} {enc : TypeId × Value → H} {W : World} {base : Nat} {v : Value} {d : DataW H} {p : List MemPlace} {r : Reach} {b0 : Nat} {sp : Nat → Bool} {held : Bool}
    (hv : Value.okWide Tryz.prog W r b0 43 v) (h : DataW.Trod enc Tryz.prog W base sp held 43 v d p) : ∃ i j s : Int, v = .agg #[.int .i64 i, .int .i64 j, .int .i64 s] := by
  obtain ⟨c0, c1, c2, y0, y1, y2, m, rfl, _, _, h0, h1, h2⟩ := open_agg3 Tryz.underlying43 (by kernel_rfl) (by kernel_rfl) hv h
  obtain ⟨x, e0, _, _⟩ := DataW.trod_int (t := 3) Tryz.underlying3 h0
  obtain ⟨y, e1, _, _⟩ := DataW.trod_int (t := 3) Tryz.underlying3 h1
  obtain ⟨z, e2, _, _⟩ := DataW.trod_int (t := 3) Tryz.underlying3 h2
  simp at e0 e1 e2
  subst e0 e1 e2
  exact ⟨x, y, z, rfl⟩
end Go.Proofs.YtbdckemkmocdlaaGreatDoor

/- package discs: sums.first. -/
import Derived.Test.YtbdckemkmocdlaaGreatDoorZ28
import Derived.Test.YtbdckemkmocdlaaGreatDoorZ24
import Derived.Laws.AppendOwn
import Derived.OwnWalk
set_option linter.all false
set_option exponentiation.threshold 2000000
namespace Go.Proofs.YtbdckemkmocdlaaGreatDoor
open Go.RowKit Go.Shelf

attribute [local irreducible] sI sQ
attribute [local go_sem] Oper.semAt_some

/-- a witness among so many discs -/
abbrev Wm (m : Nat) := { x : Wt // x ∈ wits m }

theorem wit_stops (F : Fence) (n : Nat) (hf : F.fn 119) (hro : F.round = none) (hn : 1 ≤ n) (Bn m n₀ : Nat) (hm : m ≤ 1000000) (w : World) (hBn : Bn < w.heap.size) (hn₀ : n₀ ≤ w.heap.size) (hB : Bn < n₀)
    (hc : w.cell? ⟨Bn, 0, none⟩ = some (.int .i64 m)) :
    SeqStopsK F n Tryz.prog 119 #[.pointer (some ⟨Bn, 0, none⟩)] (fun x : Wm m => #[encW x.1]) (KeepC n₀) (fun ys => ys.map Subtype.val = wits m) (fun pre => pre.map Subtype.val <+: wits m) (wits m).length w := fun l J Jx W hW hJ _ hY h0 => by
  have hc' := (hW.cell (p := ⟨Bn, 0, none⟩) hBn).trans hc
  refine (wit_in F n hf hro hn l Bn m n₀ hm hB (fun p W => ∃ q : List (Wm m), q.map Subtype.val = p ∧ J q W) (fun p W => ∃ q : List (Wm m), q.map Subtype.val = p ∧ Jx q W) W ?_ ?_ hc' (Nat.le_trans hn₀ hW.size) ⟨[], rfl, h0⟩).mono ?_
  · rintro p A B row ⟨q, e, hs⟩ hg hr
    exact ⟨q, e, hJ q A B row hs hg hr⟩
  · rintro pre x W1 ⟨q, rfl, hs⟩ hp
    have hx : x ∈ wits m := hp.subset (by simp)
    have hl : q.length < (wits m).length := by have := hp.length_le; simp at this; omega
    refine (hY q ⟨x, hx⟩ W1 hs hl).mono ?_
    rintro e W' (⟨h1, h2, h3⟩ | ⟨h1, h2⟩)
    · exact .inl ⟨h1, ⟨_, by simp, h2⟩, h3⟩
    · exact .inr ⟨h1, ⟨_, by simp, h2⟩⟩
  · rintro e W' ⟨he, ⟨ys, rfl, q, e1, h1⟩ | ⟨pre, hp, q, rfl, h1⟩⟩
    · exact ⟨he, .inl ⟨q, e1, h1⟩⟩
    · exact ⟨he, .inr ⟨q, hp, h1⟩⟩

theorem witnesses_in (F : Fence) (n : Nat) (hf : F.fn 78) (hro : F.round = none) (m : Nat) (w : World) :
    CallsIn F n Tryz.prog 78 #[.int .i64 m] w fun e w' => e = .returned (.func (.func 119) #[] #[.pointer (some ⟨w.heap.size, 0, none⟩)]) ∧ w' = w.alloc (.cells #[.int .i64 m] 3 (0, 0)) := by
  refine callsIn_of_wp Tryz.func78 rfl hf ?_ hro
  simp only [Tryz.ntmps78, List.size_toArray, List.length_cons, List.length_nil, Nat.reduceAdd, Nat.reduceSub, Array.replicate_succ, Array.replicate_zero, List.push_toArray, List.append_toArray, List.nil_append, List.cons_append]
  gi_wp2
  go_ret
  exact ⟨rfl, rfl⟩

noncomputable def provesW (l : List QD) (x : Wt) : Bool := provesQ l x.1 x.2.1 x.2.2

/-- the first witness -/
noncomputable def firstQ (l : List QD) : Option Wt := (wits l.length).find? (provesW l)

noncomputable def firstV (l : List QD) : Value := .tuple #[(match firstQ l with | some x => encW x | none => .agg #[.int .i64 0, .int .i64 0, .int .i64 0]), .bool (firstQ l).isSome]

theorem KeepC.putObj {n₀ : Nat} (W : World) (l : Nat) (o o' : Obj) (hl : n₀ ≤ l) (h : W.heap[l]? = some o) (hc : o.isCells = false) : KeepC n₀ W (W.putObj l o') := by
  have hg := grownBy_putObj' W l o'
  refine ⟨⟨hg.os, hg.tape, hg.output, hg.size, fun k hk => ?_⟩, fun b cs t fr e => ?_⟩
  · by_cases hkl : k < W.heap.size
    · exact hg.block k hkl (by simp; omega)
    · have := (Array.getElem?_eq_some_iff.1 h).1; omega
  · have hb := (Array.getElem?_eq_some_iff.1 e).1
    rw [hg.block b hb (by
      intro e2
      have e3 : b = l := by simpa using e2
      subst e3; rw [h] at e; cases e; exact absurd hc (by simp [Obj.isCells]))]
    exact e

theorem cb_own {W W' : World} {b : Nat} {cs : Array Value} {t : TypeId} {row : Option Nat} {B : Nat} (h : CB W b cs t) (hg : W.grownBy W' row) (hr : ∀ r, row = some r → B ≤ r ∧ ∃ o : Obj, W.heap[r]? = some o ∧ o.isCells = false) : CB W' b cs t := by
  unfold CB at *
  rw [hg.block b (Array.getElem?_eq_some_iff.1 h).1 (by
    intro e
    obtain ⟨_, o, h1, h2⟩ := hr b e.symm
    rw [h] at h1; cases h1; exact absurd h2 (by simp [Obj.isCells]))]
  exact h
theorem below_own {w W W' : World} {row : Option Nat} {B : Nat} (h : Below w.heap.size w W) (hg : W.grownBy W' row) (hr : ∀ r, row = some r → B ≤ r ∧ ∃ o : Obj, W.heap[r]? = some o ∧ o.isCells = false) (hn : w.heap.size ≤ B) : Below w.heap.size w W' := by
  refine h.trans ⟨hg.os, hg.tape, hg.output, hg.size, fun k hk => hg.block k (Nat.lt_of_lt_of_le hk h.size) ?_⟩
  intro e
  have := (hr k e.symm).1; omega

theorem wits_range {m : Nat} {x : Wt} (h : x ∈ wits m) : x.1 < m ∧ x.2.1 < m := by
  unfold wits p2 p1 at h
  rcases List.mem_append.1 h with h | h
  · obtain ⟨i, hi, rfl⟩ := List.mem_map.1 h
    have := List.mem_range.1 hi
    exact ⟨this, this⟩
  · obtain ⟨i, hi, h⟩ := List.mem_flatMap.1 h
    have := List.mem_range.1 hi
    unfold wrow at h
    obtain ⟨j, hj, h⟩ := List.mem_flatMap.1 h
    have hj2 := List.mem_range'_1.1 hj
    unfold wit3 at h
    simp only [List.mem_cons, List.not_mem_nil, or_false] at h
    rcases h with rfl | rfl | rfl <;> exact ⟨this, by show j < m; omega⟩

theorem keeps_below {W W' : World} (h : Below W.heap.size W W') : KeepsOthers W W' := ⟨h.size, fun k o hk _ => (h.block k (Array.getElem?_eq_some_iff.1 hk).1).trans hk⟩

theorem CB.setO {w : World} {b : Nat} {cs : Array Value} {t : TypeId} (h : CB w b cs t) {p : Addr} (hne : b ≠ p.block) (v : Value) : CB (w.setCell p v) b cs t := by
  unfold CB
  rw [Below.heap_setCell _ _ _ b hne]; exact h

/-- what a round reads -/
def FirstI (w W : World) (s b o cap : Nat) (l : List QD) : Prop :=
  CB W w.heap.size #[.pointer (some ⟨s, 0, none⟩)] 71 ∧ CB W (w.heap.size + 1) #[.slice (some ⟨b, o, none⟩) l.length cap] 37


set_option maxRecDepth 100000 in
set_option maxHeartbeats 4000000 in
theorem first_any (s b o cap : Nat) (l : List QD) (w : World) (h0 : OK0 w s) (hl : l.length ≤ 1000000) (hr : QRow w b o l) (hb : b < w.heap.size) (hf : ∀ x ∈ wits l.length, FitProve l x.1 x.2.1 x.2.2) (he : Env w) :
    Calls Tryz.prog 47 #[.pointer (some ⟨s, 0, none⟩), .slice (some ⟨b, o, none⟩) l.length cap] w fun e w' =>
      e = .returned (firstV l) ∧ Below w.heap.size w w' := by
  refine (callsIn_wide (n := 5)).1 ?_
  refine callsIn_of_wp_marks Tryz.func47 rfl trivial ?_ rfl
  simp only [Tryz.ntmps47, List.size_toArray, List.length_cons, List.length_nil, Nat.reduceAdd, Nat.reduceSub, Array.replicate_succ, Array.replicate_zero, List.push_toArray, List.append_toArray, List.nil_append, List.cons_append]
  gi_wp2_with (refine ⟨trivial, ?_⟩; gi_at_call 78; refine (witnesses_in Fence.wide 4 trivial rfl l.length _).mono ?_; rintro e w' ⟨rfl, rfl⟩)
  have a0 := ((((CB.new w #[.pointer (some ⟨s, 0, none⟩)] 71).alloc (.cells #[.slice (some ⟨b, o, none⟩) l.length cap] 37 (0, 0))).alloc (.cells #[.int .i64 0, .int .i64 0, .int .i64 0] 40 (0, 0))).alloc (.cells #[.bool false] 4 (0, 0))).alloc (.cells #[.int .i64 l.length] 3 (0, 0))
  have a1 := (((CB.new (w.alloc (.cells #[.pointer (some ⟨s, 0, none⟩)] 71 (0, 0))) #[.slice (some ⟨b, o, none⟩) l.length cap] 37).alloc (.cells #[.int .i64 0, .int .i64 0, .int .i64 0] 40 (0, 0))).alloc (.cells #[.bool false] 4 (0, 0))).alloc (.cells #[.int .i64 l.length] 3 (0, 0))
  have a2 := ((CB.new ((w.alloc (.cells #[.pointer (some ⟨s, 0, none⟩)] 71 (0, 0))).alloc (.cells #[.slice (some ⟨b, o, none⟩) l.length cap] 37 (0, 0))) #[.int .i64 0, .int .i64 0, .int .i64 0] 40).alloc (.cells #[.bool false] 4 (0, 0))).alloc (.cells #[.int .i64 l.length] 3 (0, 0))
  have a3 := (CB.new (((w.alloc (.cells #[.pointer (some ⟨s, 0, none⟩)] 71 (0, 0))).alloc (.cells #[.slice (some ⟨b, o, none⟩) l.length cap] 37 (0, 0))).alloc (.cells #[.int .i64 0, .int .i64 0, .int .i64 0] 40 (0, 0))) #[.bool false] 4).alloc (.cells #[.int .i64 l.length] 3 (0, 0))
  have a4 := CB.new ((((w.alloc (.cells #[.pointer (some ⟨s, 0, none⟩)] 71 (0, 0))).alloc (.cells #[.slice (some ⟨b, o, none⟩) l.length cap] 37 (0, 0))).alloc (.cells #[.int .i64 0, .int .i64 0, .int .i64 0] 40 (0, 0))).alloc (.cells #[.bool false] 4 (0, 0))) #[.int .i64 l.length] 3
  have b0 := (((((Below.refl w.heap.size w).alloc (Nat.le_refl _) (.cells #[.pointer (some ⟨s, 0, none⟩)] 71 (0, 0))).alloc (by simp) (.cells #[.slice (some ⟨b, o, none⟩) l.length cap] 37 (0, 0))).alloc (by simp; omega) (.cells #[.int .i64 0, .int .i64 0, .int .i64 0] 40 (0, 0))).alloc (by simp; omega) (.cells #[.bool false] 4 (0, 0))).alloc (by simp; omega) (.cells #[.int .i64 l.length] 3 (0, 0))
  have hsz : (((((w.alloc (.cells #[.pointer (some ⟨s, 0, none⟩)] 71 (0, 0))).alloc (.cells #[.slice (some ⟨b, o, none⟩) l.length cap] 37 (0, 0))).alloc (.cells #[.int .i64 0, .int .i64 0, .int .i64 0] 40 (0, 0))).alloc (.cells #[.bool false] 4 (0, 0))).alloc (.cells #[.int .i64 l.length] 3 (0, 0))).heap.size = w.heap.size + 1 + 1 + 1 + 1 + 1 := by simp
  simp only [size_alloc] at a1 a2 a3 a4
  generalize ((((w.alloc (.cells #[.pointer (some ⟨s, 0, none⟩)] 71 (0, 0))).alloc (.cells #[.slice (some ⟨b, o, none⟩) l.length cap] 37 (0, 0))).alloc (.cells #[.int .i64 0, .int .i64 0, .int .i64 0] 40 (0, 0))).alloc (.cells #[.bool false] 4 (0, 0))).alloc (.cells #[.int .i64 l.length] 3 (0, 0)) = W0 at *
  have KE := Lib.hid (show ∀ W, Below w.heap.size w W → Env W from fun W hW => he.below hW)
  have KO := Lib.hid (show ∀ W, Below w.heap.size w W → OK0 W s from fun W hW => h0.below hW)
  have HR := Lib.hid hr
  have HF := Lib.hid hf
  have hcn : W0.cell? ⟨w.heap.size + 1 + 1 + 1 + 1, 0, none⟩ = some (.int .i64 l.length) := a4.c 0
  refine wpIn_rangeFunc_ownH rfl (by omega) (gf := 119) (lb := #[.pointer (some ⟨w.heap.size + 1 + 1 + 1 + 1, 0, none⟩)]) rfl trivial (enters_of Tryz.func119 (by kernel_rfl) rfl)
    (wit_stops Fence.wide 4 trivial rfl (by omega) (w.heap.size + 1 + 1 + 1 + 1) l.length W0.heap.size hl W0 (by omega) (Nat.le_refl _) (by omega) hcn) KeepC.trans (fun W l o o' h1 h2 h3 _ => KeepC.putObj W l o o' h1 h2 h3) (Below.refl _ _) (fun _ => rfl)
    (fun pre W => FirstI w W s b o cap l ∧ CB W (w.heap.size + 1 + 1) #[.int .i64 0, .int .i64 0, .int .i64 0] 40 ∧ CB W (w.heap.size + 1 + 1 + 1) #[.bool false] 4 ∧ (∀ y ∈ pre, provesW l y.1 = false) ∧ Below w.heap.size w W ∧ W0.heap.size ≤ W.heap.size)
    (fun c pre W => c = .ret ∧ ∃ (ini : List (Wm l.length)) (last : Wm l.length), pre = ini ++ [last] ∧ (∀ y ∈ ini, provesW l y.1 = false) ∧ provesW l last.1 = true ∧
      CB W (w.heap.size + 1 + 1) #[.int .i64 (last.1.1 : Int), .int .i64 (last.1.2.1 : Int), .int .i64 last.1.2.2] 40 ∧ CB W (w.heap.size + 1 + 1 + 1) #[.bool true] 4 ∧ Below w.heap.size w W)
    ?hI ?hIx ⟨⟨a0, a1⟩, a2, a3, by simp, b0, Nat.le_refl _⟩
    (fun x a' W => ∃ Bx : Nat, CB W Bx #[.int .i64 (x.1.1 : Int), .int .i64 (x.1.2.1 : Int), .int .i64 x.1.2.2] 40 ∧ a' = { tmps := #[.pointer (some ⟨s, 0, none⟩), .slice (some ⟨b, o, none⟩) l.length cap, .pointer (some ⟨w.heap.size, 0, none⟩), .pointer (some ⟨w.heap.size + 1, 0, none⟩), .pointer (some ⟨w.heap.size + 1 + 1, 0, none⟩), .pointer (some ⟨w.heap.size + 1 + 1 + 1, 0, none⟩), .pointer (some ⟨Bx, 0, none⟩), .slice (some ⟨b, o, none⟩) l.length cap, .int .i64 l.length, .func (.func 119) #[] #[.pointer (some ⟨w.heap.size + 1 + 1 + 1 + 1, 0, none⟩)], encW x.1, undef, undef, undef, undef, undef, undef], defers := [] })
    ?hAx ?assign ?body ?done ?stop
  case hI =>
    rintro pre A B row ⟨⟨h1, h2⟩, h3, h4, h5, h6, h7⟩ hg hr
    exact ⟨⟨cb_own h1 hg hr, cb_own h2 hg hr⟩, cb_own h3 hg hr, cb_own h4 hg hr, h5, below_own h6 hg hr (by omega), Nat.le_trans h7 hg.size⟩
  case hIx =>
    rintro c pre A B row ⟨e, ini, last, h1, h2, h3, h4, h5, h6⟩ hg hr
    exact ⟨e, ini, last, h1, h2, h3, cb_own h4 hg hr, cb_own h5 hg hr, below_own h6 hg hr (by omega)⟩
  case hAx =>
    rintro x a' u A B row ⟨Bx, h1, h2⟩ hg hr
    exact ⟨Bx, cb_own h1 hg hr, h2⟩
  case assign =>
    rintro l0 pre x W K ⟨⟨h1, h2⟩, h3, h4, h5, h6, h7⟩ hK
    gi_wp2
    exact hK _ _ ((KeepsOthers.alloc _ _).from _) (KeepC.below ((Below.refl _ W).alloc (Nat.le_refl _) _) h7) ⟨⟨h1.alloc _, h2.alloc _⟩, h3.alloc _, h4.alloc _, h5, h6.alloc h6.size _, by rw [size_alloc]; omega⟩ ⟨W.heap.size, CB.new W _ _, rfl⟩
  case body =>
    rintro l0 pre x a' W hl0 hrr ⟨⟨h1, h2⟩, h3, h4, h5, h6, h7⟩ ⟨Bx, hx, rfl⟩ hlen
    have xi := wits_range x.2
    have M := Lib.hid (proves_any s b o cap x.1.1 x.1.2.1 x.1.2.2 l W (KO.out _ h6) xi.1 xi.2 hl (HR.out.below h6 hb) (Nat.lt_of_lt_of_le hb h6.size) (HF.out _ x.2) (KE.out _ h6))
    have HP := Lib.hid (show provesQ l x.1.1 x.1.2.1 x.1.2.2 = provesW l x.1 from rfl)
    have c0 := h1.c 0
    have c1 := h2.c 0
    obtain ⟨e0, e1, e2⟩ := hx.cells3
    simp at c0 c1
    rw [HP.out] at M
    generalize hrv : provesW l x.1 = r at *
    have HRV := Lib.hid hrv
    have H1 := Lib.hid h1
    have H2 := Lib.hid h2
    have H3 := Lib.hid h3
    have H4 := Lib.hid h4
    have HX := Lib.hid hx
    have H5 := Lib.hid h5
    have H6 := Lib.hid h6
    have H7 := Lib.hid h7
    clear hrv h1 h2 h3 h4 hx h5
    cases r
    · gi_wp2_with (refine ⟨trivial, ?_⟩; gi_at_call 53; refine (CallsIn.inRound l0 (callsIn_wide.2 M.out)).mono ?_; rintro e w' ⟨rfl, hb'⟩; have HB' := Lib.hid hb')
      refine ⟨(keeps_below HB'.out).from _, KeepC.below HB'.out H7.out, ⟨H1.out.below HB'.out H1.out.lt, H2.out.below HB'.out H2.out.lt⟩, H3.out.below HB'.out H3.out.lt, H4.out.below HB'.out H4.out.lt, ?_, H6.out.trans (HB'.out.mono H6.out.size), Nat.le_trans H7.out HB'.out.size⟩
      intro y hy
      rcases List.mem_append.1 hy with hy | hy
      · exact H5.out y hy
      · rw [List.mem_singleton.1 hy]; exact HRV.out
    · gi_wp2_with (refine ⟨trivial, ?_⟩; gi_at_call 53; refine (CallsIn.inRound l0 (callsIn_wide.2 M.out)).mono ?_; rintro e w' ⟨rfl, hb'⟩; have HB' := Lib.hid hb'; obtain ⟨k0, k1, k2⟩ := (HX.out.below hb' HX.out.lt).cells3; obtain ⟨z0, z1, z2⟩ := (H3.out.below hb' H3.out.lt).cells3; have y0 := (H3.out.below hb' H3.out.lt).fr 0; have y1 := (H3.out.below hb' H3.out.lt).fr 1; have y2 := (H3.out.below hb' H3.out.lt).fr 2; have v0 := (H4.out.below hb' H4.out.lt).c 0; have v1 := (H4.out.below hb' H4.out.lt).fr 0; simp at v0)
      have g3 := H3.out.below HB'.out H3.out.lt
      have g4 := H4.out.below HB'.out H4.out.lt
      have q3 := (((g3.set 0 (.int .i64 (x.1.1 : Int))).set 1 (.int .i64 (x.1.2.1 : Int))).set 2 (.int .i64 x.1.2.2)).setO (p := ⟨w.heap.size + 1 + 1 + 1, 0, none⟩) (by show w.heap.size + 1 + 1 ≠ w.heap.size + 1 + 1 + 1; omega) (.bool true)
      have q4 := (((g4.setO (p := ⟨w.heap.size + 1 + 1, 0, none⟩) (by show w.heap.size + 1 + 1 + 1 ≠ w.heap.size + 1 + 1; omega) (.int .i64 (x.1.1 : Int))).setO (p := ⟨w.heap.size + 1 + 1, 1, none⟩) (by show w.heap.size + 1 + 1 + 1 ≠ w.heap.size + 1 + 1; omega) (.int .i64 (x.1.2.1 : Int))).setO (p := ⟨w.heap.size + 1 + 1, 2, none⟩) (by show w.heap.size + 1 + 1 + 1 ≠ w.heap.size + 1 + 1; omega) (.int .i64 x.1.2.2)).set 0 (.bool true)
      have hbb := ((((H6.out.trans (HB'.out.mono H6.out.size)).setCell (p := ⟨w.heap.size + 1 + 1, 0, none⟩) (by show w.heap.size ≤ w.heap.size + 1 + 1; omega) (.int .i64 (x.1.1 : Int))).setCell (p := ⟨w.heap.size + 1 + 1, 1, none⟩) (by show w.heap.size ≤ w.heap.size + 1 + 1; omega) (.int .i64 (x.1.2.1 : Int))).setCell (p := ⟨w.heap.size + 1 + 1, 2, none⟩) (by show w.heap.size ≤ w.heap.size + 1 + 1; omega) (.int .i64 x.1.2.2)).setCell (p := ⟨w.heap.size + 1 + 1 + 1, 0, none⟩) (by show w.heap.size ≤ w.heap.size + 1 + 1 + 1; omega) (.bool true)
      exact ⟨(((((keeps_below HB'.out).trans (KeepsOthers.setCell _ _ _)).trans (KeepsOthers.setCell _ _ _)).trans (KeepsOthers.setCell _ _ _)).trans (KeepsOthers.setCell _ _ _)).from _, rfl, pre, x, rfl, H5.out, HRV.out, by simpa using q3, by simpa using q4, hbb⟩
  case done =>
    rintro D xs W hD hs ⟨⟨h1, h2⟩, h3, h4, h5, h6, h7⟩ hK
    have HQ := Lib.hid (show firstQ l = none by
      unfold firstQ
      rw [List.find?_eq_none]
      intro y hy
      rw [← hs] at hy
      obtain ⟨z, hz, rfl⟩ := List.mem_map.1 hy
      rw [h5 z hz]; simp)
    obtain ⟨z0, z1, z2⟩ := h3.cells3
    have y0 := h3.fr 0
    have y1 := h3.fr 1
    have y2 := h3.fr 2
    have v0 := h4.c 0
    have v1 := h4.fr 0
    simp at v0
    have HV := Lib.hid (show firstV l = .tuple #[.agg #[.int .i64 0, .int .i64 0, .int .i64 0], .bool false] by unfold firstV; rw [HQ.out]; rfl)
    have g2 := (((h3.set 0 (.int .i64 0)).set 1 (.int .i64 0)).set 2 (.int .i64 0)).setO (p := ⟨w.heap.size + 1 + 1 + 1, 0, none⟩) (by show w.heap.size + 1 + 1 ≠ w.heap.size + 1 + 1 + 1; omega) (.bool false)
    have g3 := (((h4.setO (p := ⟨w.heap.size + 1 + 1, 0, none⟩) (by show w.heap.size + 1 + 1 + 1 ≠ w.heap.size + 1 + 1; omega) (.int .i64 0)).setO (p := ⟨w.heap.size + 1 + 1, 1, none⟩) (by show w.heap.size + 1 + 1 + 1 ≠ w.heap.size + 1 + 1; omega) (.int .i64 0)).setO (p := ⟨w.heap.size + 1 + 1, 2, none⟩) (by show w.heap.size + 1 + 1 + 1 ≠ w.heap.size + 1 + 1; omega) (.int .i64 0)).set 0 (.bool false)
    have hbb := (((h6.setCell (p := ⟨w.heap.size + 1 + 1, 0, none⟩) (by show w.heap.size ≤ w.heap.size + 1 + 1; omega) (.int .i64 0)).setCell (p := ⟨w.heap.size + 1 + 1, 1, none⟩) (by show w.heap.size ≤ w.heap.size + 1 + 1; omega) (.int .i64 0)).setCell (p := ⟨w.heap.size + 1 + 1, 2, none⟩) (by show w.heap.size ≤ w.heap.size + 1 + 1; omega) (.int .i64 0)).setCell (p := ⟨w.heap.size + 1 + 1 + 1, 0, none⟩) (by show w.heap.size ≤ w.heap.size + 1 + 1 + 1; omega) (.bool false)
    have hK5 := ((((KeepsOthers.setCell W ⟨w.heap.size + 1 + 1, 0, none⟩ (.int .i64 0)).trans (KeepsOthers.setCell _ ⟨w.heap.size + 1 + 1, 1, none⟩ (.int .i64 0))).trans (KeepsOthers.setCell _ ⟨w.heap.size + 1 + 1, 2, none⟩ (.int .i64 0))).trans (KeepsOthers.setCell _ ⟨w.heap.size + 1 + 1 + 1, 0, none⟩ (.bool false))).same D _ hK rfl
    gi_wp2
    generalize ((((W.setCell ⟨w.heap.size + 1 + 1, 0, none⟩ (.int .i64 0)).setCell ⟨w.heap.size + 1 + 1, 1, none⟩ (.int .i64 0)).setCell ⟨w.heap.size + 1 + 1, 2, none⟩ (.int .i64 0)).setCell ⟨w.heap.size + 1 + 1 + 1, 0, none⟩ (.bool false)) = W5 at *
    refine ⟨by simp, .inl ⟨_, _, rfl, run_takeDeferred hK5, ?_⟩⟩
    have hrD : ∀ r, some D = some r → w.heap.size ≤ r ∧ ∃ o : Obj, W5.heap[r]? = some o ∧ o.isCells = false := fun r e => by cases e; exact ⟨by omega, _, hK5, rfl⟩
    have q2 := cb_own g2 (grownBy_putObj' _ D (.deferred none)) hrD
    have q3 := cb_own g3 (grownBy_putObj' _ D (.deferred none)) hrD
    obtain ⟨c0, c1, c2⟩ := (show CB _ _ #[.int .i64 0, .int .i64 0, .int .i64 0] _ by simpa using q2).cells3
    have c3 := q3.c 0
    simp at c3
    refine ⟨_, ?_, ret_v HV.out.symm, below_own hbb (grownBy_putObj' _ D (.deferred none)) hrD (Nat.le_refl _)⟩
    simp [results, Tryz.results47, go_sem, c0, c1, c2, c3, Result.andThen]
  case stop =>
    rintro D c pre W hD hp ⟨rfl, ini, last, h1, h2, h3, h4, h5, h6⟩ hK
    have HQ := Lib.hid (show firstQ l = some last.1 by
      obtain ⟨rest, hr⟩ := hp
      have e : wits l.length = ini.map Subtype.val ++ ([last.1] ++ rest) := by rw [h1] at hr; simpa using hr.symm
      have key : ∀ (L : List Wt) (z : Wt), L = ini.map Subtype.val ++ ([z] ++ rest) → provesW l z = true → L.find? (provesW l) = some z := by
        rintro L z rfl hz
        rw [List.find?_append]
        have hn : (ini.map Subtype.val).find? (provesW l) = none := by
          rw [List.find?_eq_none]; intro y hy
          obtain ⟨z, hz, rfl⟩ := List.mem_map.1 hy
          rw [h2 z hz]; simp
        rw [hn]; simp [hz]
      exact key _ _ e h3)
    have HV := Lib.hid (show firstV l = .tuple #[encW last.1, .bool true] by unfold firstV; rw [HQ.out]; rfl)
    gi_wp2
    refine ⟨by simp, .inl ⟨_, _, rfl, run_takeDeferred hK, ?_⟩⟩
    have hrD : ∀ r, some D = some r → w.heap.size ≤ r ∧ ∃ o : Obj, W.heap[r]? = some o ∧ o.isCells = false := fun r e => by cases e; exact ⟨by omega, _, hK, rfl⟩
    obtain ⟨c0, c1, c2⟩ := (cb_own h4 (grownBy_putObj' _ D (.deferred none)) hrD).cells3
    have c3 := (cb_own h5 (grownBy_putObj' _ D (.deferred none)) hrD).c 0
    simp at c3
    refine ⟨_, ?_, ret_v HV.out.symm, below_own h6 (grownBy_putObj' _ D (.deferred none)) hrD (Nat.le_refl _)⟩
    simp [results, Tryz.results47, go_sem, c0, c1, c2, c3, Result.andThen]
end Go.Proofs.YtbdckemkmocdlaaGreatDoor

/- package discs: Common. -/
namespace Go.Proofs.YtbdckemkmocdlaaGreatDoor
open Go.RowKit

attribute [local irreducible] sI sQ

abbrev wZ : Value := .agg #[.int .i64 0, .int .i64 0, .int .i64 0]
abbrev wZc : Array Value := #[.int .i64 0, .int .i64 0, .int .i64 0]

/-- the witness of three numbers -/
noncomputable def firstW (l : List QD) : Int × Int × Int := match firstQ l with | some x => (x.1, x.2.1, x.2.2) | none => (0, 0, 0)
theorem firstV_eq (l : List QD) : firstV l = .tuple #[.agg #[.int .i64 (firstW l).1, .int .i64 (firstW l).2.1, .int .i64 (firstW l).2.2], .bool (firstQ l).isSome] := by
  unfold firstV firstW; cases firstQ l <;> rfl

theorem CB.set3 {w : World} {p : Nat} {t : TypeId} {u0 u1 u2 : Value} (h : CB w p #[u0, u1, u2] t) (v0 v1 v2 : Value) :
    CB (((w.setCell ⟨p, 0, none⟩ v0).setCell ⟨p, 1, none⟩ v1).setCell ⟨p, 2, none⟩ v2) p #[v0, v1, v2] t := by
  have := ((h.set 0 v0).set 1 v1).set 2 v2
  simpa using this
theorem below_set3 {B p : Nat} {w0 w : World} (h : Below B w0 w) (hp : B ≤ p) (v0 v1 v2 : Value) :
    Below B w0 (((w.setCell ⟨p, 0, none⟩ v0).setCell ⟨p, 1, none⟩ v1).setCell ⟨p, 2, none⟩ v2) :=
  ((h.setCell (p := ⟨p, 0, none⟩) hp v0).setCell (p := ⟨p, 1, none⟩) hp v1).setCell (p := ⟨p, 2, none⟩) hp v2

set_option maxRecDepth 100000 in
set_option maxHeartbeats 2000000 in
theorem dcommon_ok (b o cap : Nat) (l : List QD) (w : World) (hl : l.length ≤ 1000000) (hs : ∀ d ∈ l.map QD.t, d.short) (hr : QRow w b o l) (hb : b < w.heap.size) (hc : chkL (l.map QD.t) = 0)
    (hf : ∀ x ∈ wits l.length, FitProve l x.1 x.2.1 x.2.2) (he : Env w) :
    Calls Tryz.prog 17 #[.slice (some ⟨b, o, none⟩) l.length cap] w fun e w' =>
      e = .returned (.tuple #[.bool (firstQ l).isSome, .agg #[.int .i64 (firstW l).1, .int .i64 (firstW l).2.1, .int .i64 (firstW l).2.2], .int .i64 0]) ∧ Below w.heap.size w w' := by
  have b1 := (Below.refl w.heap.size w).alloc (Nat.le_refl _) (.cells wZc 40 (0, 0))
  have a1 := CB.new w wZc 40
  have HL := Lib.hid (dlist_any b o cap (l.map QD.t) _ (by simpa using hl) hs (hr.below b1 hb) (Nat.lt_of_lt_of_le hb b1.size) (he.below b1))
  rw [List.length_map, hc] at HL
  have KE := Lib.hid (show ∀ W, Below w.heap.size w W → Env W from fun W hW => he.below hW)
  have HR := Lib.hid hr
  have HF := Lib.hid hf
  have HV := Lib.hid (firstV_eq l)
  have HA := Lib.hid a1
  have HB := Lib.hid b1
  clear b1 a1 hr he hf hs hc
  go_enter Tryz.func17, Tryz.ntmps17
  go_wp2_with fail
  generalize w.alloc (.cells wZc 40 (0, 0)) = W1 at *
  refine HL.out.mono ?_
  rintro e w2 ⟨rfl, hb2⟩
  have hb3 := HB.out.trans (hb2.mono HB.out.size)
  have h0 := ok0_newd w2
  have hb4 := hb3.alloc hb3.size (.cells #[.int .i64 0] 73 (0, 0))
  have hx4 := hb2.alloc hb2.size (.cells #[.int .i64 0] 73 (0, 0))
  have M := Lib.hid (first_any w2.heap.size b o cap l _ h0 hl (HR.out.below hb4 hb) (Nat.lt_of_lt_of_le hb hb4.size) HF.out (KE.out _ hb4))
  rw [HV.out] at M
  have H0 := Lib.hid h0
  have HX4 := Lib.hid hx4
  have HB4 := Lib.hid hb4
  generalize hfw : firstW l = fw at *
  generalize hfq : (firstQ l).isSome = fq at *
  have HFW := Lib.hid hfw
  have HFQ := Lib.hid hfq
  clear h0 hb3 hb2 hx4 hb4 hfw hfq HL HV
  go_wp2_with fail
  generalize w2.alloc (.cells #[.int .i64 0] 73 (0, 0)) = w4 at *
  refine M.out.mono ?_
  rintro e w5 ⟨rfl, hb5⟩
  have k0 := ((H0.out.below hb5).below ((Below.refl w5.heap.size w5).alloc (Nat.le_refl _) (.cells #[.int .i64 fw.1, .int .i64 fw.2.1, .int .i64 fw.2.2] 40 (0, 0)))).1
  have g5 := (HA.out.below HX4.out HA.out.lt).below hb5 (Nat.lt_of_lt_of_le HA.out.lt HX4.out.size)
  have q5 := g5.alloc (.cells #[.int .i64 fw.1, .int .i64 fw.2.1, .int .i64 fw.2.2] 40 (0, 0))
  have hb6 := HB4.out.trans (hb5.mono HB4.out.size)
  have hb7 := hb6.alloc hb6.size (.cells #[.int .i64 fw.1, .int .i64 fw.2.1, .int .i64 fw.2.2] 40 (0, 0))
  have n5 := CB.new w5 #[.int .i64 fw.1, .int .i64 fw.2.1, .int .i64 fw.2.2] 40
  obtain ⟨z0, z1, z2⟩ := q5.cells3
  have y0 := q5.fr 0
  have y1 := q5.fr 1
  have y2 := q5.fr 2
  obtain ⟨x0, x1, x2⟩ := n5.cells3
  have Q5 := Lib.hid q5
  have HB7 := Lib.hid hb7
  clear g5 q5 hb6 hb7 n5
  have hgx : w.heap.size < w5.heap.size := by
    have e1 := HA.out.lt
    have e2 := HX4.out.size
    have e3 := hb5.size
    omega
  go_wp2_with fail
  generalize w5.alloc (.cells #[.int .i64 fw.1, .int .i64 fw.2.1, .int .i64 fw.2.2] 40 (0, 0)) = w6 at *
  go_region
  have h5 := Q5.out.set3 (.int .i64 fw.1) (.int .i64 fw.2.1) (.int .i64 fw.2.2)
  have hb8 := below_set3 (p := w.heap.size) HB7.out (Nat.le_refl _) (.int .i64 fw.1) (.int .i64 fw.2.1) (.int .i64 fw.2.2)
  clear z0 z1 z2
  obtain ⟨z0, z1, z2⟩ := h5.cells3
  generalize ((w6.setCell ⟨w.heap.size, 0, none⟩ (.int .i64 fw.1)).setCell ⟨w.heap.size, 1, none⟩ (.int .i64 fw.2.1)).setCell ⟨w.heap.size, 2, none⟩ (.int .i64 fw.2.2) = w9 at *
  go_wp2_with fail
  refine bodyPost_ret (v := .tuple #[.bool fq, .agg #[.int .i64 fw.1, .int .i64 fw.2.1, .int .i64 fw.2.2], .int .i64 0]) (by simp [results, Tryz.results17, go_sem, z0, z1, z2, Result.andThen]) rfl ⟨by rw [HFW.out, HFQ.out], hb8.drew⟩
end Go.Proofs.YtbdckemkmocdlaaGreatDoor

/- package discs: the closure of Contradiction. -/
namespace Go.Proofs.YtbdckemkmocdlaaGreatDoor
open Go.RowKit

attribute [local irreducible] sI sQ

/-- the cells of discs in a row -/
noncomputable def rowC (L : List QD) : List Value := L.flatMap (fun d => [.string (sQ d.x), .string (sQ d.y), .string (sQ d.q)])
theorem rowC_append (A B : List QD) : rowC (A ++ B) = rowC A ++ rowC B := by simp [rowC]
theorem rowC_length (L : List QD) : (rowC L).length = L.length * 3 := by
  induction L with
  | nil => rfl
  | cons d L ih => rw [show d :: L = [d] ++ L from rfl, rowC_append, List.length_append, ih]; simp [rowC]; omega
theorem rowC_get (L : List QD) (i : Nat) (h : i < L.length) : (rowC L)[0 + i * 3]? = some (.string (sQ (L[i]).x)) ∧ (rowC L)[0 + i * 3 + 1]? = some (.string (sQ (L[i]).y)) ∧ (rowC L)[0 + i * 3 + 2]? = some (.string (sQ (L[i]).q)) := by
  have e : L = L.take i ++ ([L[i]] ++ L.drop (i + 1)) := by
    have := List.take_append_drop i L
    rw [List.drop_eq_getElem_cons h] at this; simpa using this.symm
  have hl : (rowC (L.take i)).length = i * 3 := by rw [rowC_length, List.length_take]; congr 1; omega
  have key : rowC L = rowC (L.take i) ++ ([.string (sQ (L[i]).x), .string (sQ (L[i]).y), .string (sQ (L[i]).q)] ++ rowC (L.drop (i + 1))) := by
    conv => lhs; rw [e]
    rw [rowC_append, rowC_append]; rfl
  rw [key]
  refine ⟨?_, ?_, ?_⟩
  · rw [List.getElem?_append_right (by omega), hl]; simp
  · rw [List.getElem?_append_right (by omega), hl, show 0 + i * 3 + 1 - i * 3 = 1 by omega]; simp
  · rw [List.getElem?_append_right (by omega), hl, show 0 + i * 3 + 2 - i * 3 = 2 by omega]; simp

theorem infoD : (Tryz.prog.info? 26).map (fun i => (i.zero, i.size, i.bytes)) = some (some (.agg #[.string ⟨#[]⟩, .string ⟨#[]⟩, .string ⟨#[]⟩]), 3, 48) := by kernel_rfl
theorem undD : Tryz.prog.underlying 37 = some (.slice 26) := by kernel_rfl

theorem cells_new3 {w : World} {g : Nat} {u0 u1 u2 : Value} {t : TypeId} (h : CB w g #[u0, u1, u2] t) : ∀ (j : Nat) (u : Value), [u0, u1, u2][j]? = some u → w.cell? ((⟨g, 0, none⟩ : Addr).add j) = some u := by
  intro j u hj
  have e : (⟨g, 0, none⟩ : Addr).add j = ⟨g, j, none⟩ := by cases j <;> simp [Addr.add]
  rw [e, h.c j, ← hj]; simp


set_option maxRecDepth 100000 in
set_option maxHeartbeats 4000000 in
theorem apart_any (s b o cap ab ac lb sb : Nat) (l own : List QD) (ix : List Nat) (w : World) (h0 : OK0 w s) (hl : l.length ≤ 1000000) (hr : QRow w b o l) (hb : b < w.heap.size)
    (hn : ix.length ≤ 3) (hn1 : 1 ≤ ix.length) (ho : own.length = ix.length) (hix : ∀ k, ∀ h : k < ix.length, ix[k] < l.length ∧ l[ix[k]]? = own[k]?)
    (ha : ∀ k, ∀ h : k < ix.length, w.cell? ⟨ab, k, none⟩ = some (.int .i64 (ix[k] : Int))) (hab : ab < w.heap.size)
    (hlb : w.cell? ⟨lb, 0, none⟩ = some (.slice (some ⟨b, o, none⟩) l.length cap)) (hlbl : lb < w.heap.size) (hsb : w.cell? ⟨sb, 0, none⟩ = some (.pointer (some ⟨s, 0, none⟩))) (hsbl : sb < w.heap.size)
    (hf : ∀ x ∈ wits own.length, FitProve own x.1 x.2.1 x.2.2) (he : Env w) :
    Calls Tryz.prog 55 #[.slice (some ⟨ab, 0, none⟩) ix.length ac, .pointer (some ⟨lb, 0, none⟩), .pointer (some ⟨sb, 0, none⟩)] w fun e w' =>
      e = .returned (.bool (firstQ own).isNone) ∧ Below w.heap.size w w' := by
  obtain ⟨i0, hi, hz0, hz1, hz2⟩ := info_parts infoD
  have KE := Lib.hid (show ∀ W, Below w.heap.size w W → Env W from fun W hW => he.below hW)
  have KO := Lib.hid (show ∀ W, Below w.heap.size w W → OK0 W s from fun W hW => h0.below hW)
  have HR := Lib.hid hr
  have HIX := Lib.hid hix
  have HA := Lib.hid ha
  have HF := Lib.hid hf
  have HLB := Lib.hid hlb
  have HSB := Lib.hid hsb
  clear he h0 hr hix ha hf hlb hsb
  go_enter Tryz.func55, Tryz.ntmps55
  go_wp2_with fail
  go_loopw [5, 12] (fun v i wr => ∃ k : Nat, i = .int .i64 k ∧ k ≤ ix.length ∧ wr.ownsRow w.heap.size 26 3 v k (rowC (own.take k)) ∧ Below w.heap.size w wr) (fun _ i _ => ix.length - (intOf i).toNat)
  case atStart => exact ⟨0, rfl, Nat.zero_le _, by simpa [rowC] using World.ownsRow_nil w w.heap.size 26 3, Below.refl _ _⟩
  case round =>
    obtain ⟨k, rfl, hk, hown, hnx⟩ := hrel
    by_cases hlt : k < ix.length
    · have hak := (hnx.cell (p := ⟨ab, k, none⟩) hab).trans (HA.out k hlt)
      obtain ⟨hil, hie⟩ := HIX.out k hlt
      have hko : k < own.length := by omega
      have hlo : l[ix[k]] = own[k] := by
        rw [List.getElem?_eq_getElem hil, List.getElem?_eq_getElem hko] at hie
        exact Option.some.inj hie
      have hlbw := (hnx.cell (p := ⟨lb, 0, none⟩) hlbl).trans HLB.out
      obtain ⟨c1, c2, c3⟩ := (HR.out.below hnx hb).at ix[k] hil
      rw [hlo] at c1 c2 c3
      have htk : rowC (own.take (k + 1)) = rowC (own.take k) ++ [.string (sQ (own[k]).x), .string (sQ (own[k]).y), .string (sQ (own[k]).q)] := by
        rw [List.take_succ_eq_append_getElem hko, rowC_append]; rfl
      have HTK := Lib.hid htk
      generalize own[k] = d at *
      generalize ix[k] = q at *
      have hcd := CB.new wr #[.string (sQ d.x), .string (sQ d.y), .string (sQ d.q)] 26
      have hsz := hnx.size
      have HCE := Lib.hid (cells_new3 hcd)
      clear hie hlo htk
      go_wp2_with (first
        | (at_builtin; refine wpList_append_own _ rfl (.tmp 16) (.tmp 21) 37 rfl w.heap.size 26 i0 (.agg #[.string ⟨#[]⟩, .string ⟨#[]⟩, .string ⟨#[]⟩]) 3 48 undD hi hz0 hz1 hz2 rfl (by decide) _ _ _ rfl (hown.alloc (.cells #[.string (sQ d.x), .string (sQ d.y), .string (sQ d.q)] 26 (0, 0))) ⟨wr.heap.size, 0, none⟩ 1 1 [.string (sQ d.x), .string (sQ d.y), .string (sQ d.q)] rfl rfl HCE.out (by intro u hu; simp at hu; rcases hu with rfl | rfl | rfl <;> rfl) (by unfold maxLen; omega) (by omega) (by simp; omega) ?_; intro v1 w1 hown1 hgrow1 hnil1)
        | fail)
      refine ⟨⟨k + 1, by simp, by omega, ?_, ?_⟩, by simp [intOf]; omega⟩
      · rw [HTK.out]; exact hown1
      · exact (hnx.alloc (by omega) _).grown hgrow1 (by simp; omega) (fun j hj => (hown.lt j hj).1)
    · obtain rfl : k = ix.length := by omega
      obtain ⟨g, cp, rfl⟩ : ∃ g cp, _ = Value.slice (some ⟨g, 0, none⟩) ix.length cp := by
        rcases hown.2 with ⟨_, h⟩ | ⟨g, cp, _, h, _⟩
        · omega
        · exact ⟨g, cp, h⟩
      have hq : QRow wr g 0 own := by
        rcases hown.2 with ⟨h, _⟩ | ⟨g', cp', cur, h, hbg, hc, hnc, _, hcs, htake⟩
        · exact absurd h (by simp)
        · obtain ⟨rfl, rfl⟩ : g = g' ∧ cp = cp' := by simpa using h
          rw [← ho, List.take_length] at htake
          intro i hi
          have hi' : i < own.length := by simpa using hi
          obtain ⟨e1, e2, e3⟩ := rowC_get own i hi'
          have cc : ∀ m, m < own.length * 3 → wr.cell? ⟨g, m, none⟩ = (rowC own)[m]? := fun m hm => by
            rw [cell_of_row _ _ _ _ _ _ hc, ← htake, List.getElem?_take, if_pos hm]; simp
          have hi3 : i * 3 + 2 < own.length * 3 := by omega
          refine ⟨?_, ?_, ?_⟩
          · rw [cc _ (by omega), e1]; simp [QD.t]
          · rw [cc _ (by omega), e2]; simp [QD.t]
          · rw [cc _ (by omega), e3]; simp [QD.t]
      have hgl := (hown.lt g rfl).2
      have hsw := (hnx.cell (p := ⟨sb, 0, none⟩) hsbl).trans HSB.out
      have M := Lib.hid (first_any s g 0 cp own wr (KO.out _ hnx) (by omega) hq hgl HF.out (KE.out _ hnx))
      rw [ho, firstV_eq] at M
      have HI := Lib.hid (show (!(firstQ own).isSome) = (firstQ own).isNone by cases firstQ own <;> rfl)
      generalize firstW own = fw at *
      generalize (firstQ own).isSome = fq at *
      have HNX := Lib.hid hnx
      clear hq hown hnx
      go_wp2_with fail
      refine M.out.mono ?_
      rintro e w5 ⟨rfl, hb5⟩
      have hb6 := HNX.out.trans (hb5.mono HNX.out.size)
      have hb7 := hb6.alloc hb6.size (.cells #[.int .i64 fw.1, .int .i64 fw.2.1, .int .i64 fw.2.2] 40 (0, 0))
      have s1 := (hb7.cell (p := ⟨sb, 0, none⟩) hsbl).trans HSB.out
      have k0 := (KO.out _ hb7).1
      have HB7 := Lib.hid hb7
      clear hb5 hb6 hb7
      cases fq
      · go_wp2_with fail
        go_ret
        exact ⟨ret_bool HI.out, HB7.out⟩
      · go_wp2_with fail
        go_ret
        exact ⟨ret_bool HI.out, HB7.out⟩
end Go.Proofs.YtbdckemkmocdlaaGreatDoor

/- metrolabref01: size, Below, bare, wide, less, column, signed. -/
import Derived.Test.YtbdckemkmocdlaaGreatDoorZ03
import Derived.Test.YtbdckemkmocdlaaGreatDoorZ13
import Derived.Laws.IdiomStrings
import Derived.Lib.LazyBuf
import Derived.OwnWalk
import Derived.Laws.OwnMore
import Derived.BigRegion
set_option linter.unusedVariables false
set_option linter.unusedSimpArgs false
namespace Go.Proofs.YtbdckemkmocdlaaGreatDoor
open Go.RowKit

theorem ext_one (s : ByteArray) : (s.extract 1 s.size).data.toList = s.data.toList.drop 1 := by
  rw [Lib.extract_data, ba_size s, List.take_of_length_le (by simp)]

theorem ret_ba {d e : ByteArray} (h : d = e) : Ending.returned (.string d) = .returned (.string e) := by rw [h]
/-- a text without a minus sign in front -/
noncomputable def szT (s : ByteArray) : ByteArray := ⟨(Lib.trimPrefix s.data.toList [45]).toArray⟩
theorem szT_list (s : ByteArray) : (szT s).data.toList = Lib.trimPrefix s.data.toList [45] := by simp [szT]
theorem szT_sI (n : Int) : szT (sI n) = dI n.natAbs := by
  refine ba_eq ?_; rw [dI_list, sI_list, trimPrefix_itoa]
theorem szT_of {s d : ByteArray} (h : d.data.toList = Lib.trimPrefix s.data.toList [45]) : d = szT s := (ba_eq h).symm
theorem trimPre_minus {l : List UInt8} (h : l.head? = some 45) : Lib.trimPrefix l [45] = l.drop 1 := by
  cases l with
  | nil => simp at h
  | cons c l => simp at h; subst h; simp [Lib.trimPrefix, Lib.hasPrefix]
theorem trimPre_other {l : List UInt8} (h : ¬ l.head? = some 45) : Lib.trimPrefix l [45] = l := by
  cases l with
  | nil => simp [Lib.trimPrefix, Lib.hasPrefix]
  | cons c l => simp at h; simp [Lib.trimPrefix, Lib.hasPrefix]; intro e; exact absurd e.symm h

set_option maxRecDepth 100000 in
set_option maxHeartbeats 1000000 in
theorem rsize_any (s : ByteArray) (w : World) (hs : s.size ≤ 1000000) : Calls Tryz.prog 95 #[.string s] w fun e w' => e = .returned (.string (szT s)) ∧ w = w' := by
  by_cases hp : 0 < s.size
  · have he : s.toList.isEmpty = false := str_f (by intro e; rw [ba_size, e] at hp; simp at hp)
    have hh := head_ba s hp 45
    by_cases h45 : s.data.toList.head? = some 45
    · have t := hh.1 h45
      have HV := Lib.hid (szT_of (s := s) (d := s.extract 1 s.size) (by rw [ext_one, trimPre_minus h45]))
      clear hh h45
      have t' : ((s[0]'hp).toNat : Int) = 45 := t
      clear t
      go_enter Tryz.func95, Tryz.ntmps95
      go_wp2
      go_ret
      exact ⟨ret_ba HV.out, rfl⟩
    · have t : ((((s[0]'hp).toNat : Int)) == 45) = false := by simpa using fun e => h45 (hh.2 e)
      have HV := Lib.hid (szT_of (s := s) (d := s) (by rw [trimPre_other h45]))
      clear hh h45
      go_enter Tryz.func95, Tryz.ntmps95
      go_wp2
      go_ret
      exact ⟨ret_ba HV.out, rfl⟩
  · have hn : s.data.toList = [] := by
      have h1 := ba_size s
      cases h : s.data.toList with
      | nil => rfl
      | cons => rw [h] at h1; simp at h1; omega
    have he : s.toList.isEmpty = true := str_t hn
    have HV := Lib.hid (szT_of (s := s) (d := s) (by rw [trimPre_other (by rw [hn]; simp)]))
    go_enter Tryz.func95, Tryz.ntmps95
    go_wp2
    go_ret
    exact ⟨ret_ba HV.out, rfl⟩

theorem rsize_sI (n : Int) (w : World) (hs : (sI n).size ≤ 1000000) : Calls Tryz.prog 95 #[.string (sI n)] w fun e w' => e = .returned (.string (dI n.natAbs)) ∧ w = w' := by
  rw [← szT_sI]; exact rsize_any _ w hs

set_option maxRecDepth 100000 in
set_option maxHeartbeats 1000000 in
theorem rbelow_sI (n : Int) (w : World) : Calls Tryz.prog 91 #[.string (sI n)] w fun e w' => e = .returned (.bool (decide (n < 0))) ∧ w = w' := by
  have hp := sI_pos n
  have hh := sI_head n
  by_cases hn : n < 0
  · have t := hh.2 hn
    rw [decide_eq_true hn]
    clear hh hn
    go_enter Tryz.func91, Tryz.ntmps91
    go_wp2
    go_ret
    exact ⟨rfl, rfl⟩
  · have t : ((((sI n)[0]'hp).toNat : Int) == 45) = false := by simpa using fun e => hn (hh.1 e)
    rw [decide_eq_false hn]
    clear hh hn
    go_enter Tryz.func91, Tryz.ntmps91
    go_wp2
    go_ret
    exact ⟨rfl, rfl⟩

theorem dI_of {d : ByteArray} {n : Nat} (h : d.data.toList = Lib.decDigits n) : d = dI n := sI_of (by rw [h, itoa_nat])

set_option maxRecDepth 100000 in
set_option maxHeartbeats 1000000 in
theorem bare_any (s : ByteArray) (w : World) (hs : s.size ≤ 1000000) (hn : s.data.toList ≠ []) (hd : ∀ c ∈ s.data.toList, isDig c) :
    Calls Tryz.prog 131 #[.string s] w fun e w' => e = .returned (.string (dI (dval s.data.toList))) ∧ w = w' := by
  generalize hv : dval s.data.toList = v
  go_enter Tryz.func131, Tryz.ntmps131
  go_wp2
  go_loopw [0] (fun i wr => ∃ r : ByteArray, i = .string r ∧ r.size ≤ s.size ∧ r.data.toList ≠ [] ∧ (∀ c ∈ r.data.toList, isDig c) ∧ dval r.data.toList = v ∧ w = wr)
    (fun i _ => match i with | .string r => r.size | _ => 0)
  case atStart => exact ⟨s, rfl, Nat.le_refl _, hn, hd, hv, rfl⟩
  case round =>
    obtain ⟨r, rfl, h1, h2, h3, h4, rfl⟩ := hrel
    have hp : 0 < r.size := by rw [ba_size]; exact List.length_pos_iff.2 h2
    have hh := head_ba r hp 48
    by_cases hl : 1 < r.size
    · by_cases h48 : r.data.toList.head? = some 48
      · have t' : ((r[0]'hp).toNat : Int) = 48 := hh.1 h48
        clear hh
        have HR := Lib.hid (show ∃ q : ByteArray, Value.string (r.extract 1 r.size) = .string q ∧ q.size ≤ s.size ∧ q.data.toList ≠ [] ∧ (∀ c ∈ q.data.toList, isDig c) ∧ dval q.data.toList = v ∧ True by
          refine ⟨_, rfl, ?_, ?_, ?_, ?_, trivial⟩
          · rw [ba_size, ext_one, List.length_drop, ← ba_size]; omega
          · rw [ext_one]; intro e
            have := congrArg List.length e; rw [List.length_drop, ← ba_size] at this; simp at this; omega
          · rw [ext_one]; intro c hc; exact h3 c (List.mem_of_mem_drop hc)
          · rw [ext_one, ← h4]
            cases hr : r.data.toList with
            | nil => exact absurd hr h2
            | cons c q => rw [hr] at h48; simp at h48; subst h48; rw [bare_step]; rfl)
        have HM := Lib.hid (show (r.extract 1 r.size).size < r.size by rw [ba_size, ext_one, List.length_drop, ← ba_size]; omega)
        clear h2 h3 h4 h48
        go_wp2
        exact ⟨HR.out, HM.out⟩
      · have t : ((((r[0]'hp).toNat : Int)) == 48) = false := by simpa using fun e => h48 (hh.2 e)
        have HV := Lib.hid (show r = dI v from dI_of (by rw [bare_end _ h3 h2 (Or.inr h48), h4]))
        clear hh h2 h3 h4 h48
        go_wp2
        go_ret
        exact ⟨ret_ba HV.out, rfl⟩
    · have HV := Lib.hid (show r = dI v from dI_of (by rw [bare_end _ h3 h2 (Or.inl (by rw [← ba_size]; omega)), h4]))
      clear hh h2 h3 h4
      go_wp2
      go_ret
      exact ⟨ret_ba HV.out, rfl⟩

theorem dI_size (n : Nat) : (dI n).size = (Lib.decDigits n).length := by rw [ba_size, dI_list]
theorem dI_toList (n : Nat) : (dI n).toList = Lib.decDigits n := by rw [ByteArray.toList_eq, dI_list]

set_option maxRecDepth 100000 in
set_option maxHeartbeats 1000000 in
theorem rless_any (m n : Nat) (w : World) : Calls Tryz.prog 98 #[.string (dI m), .string (dI n)] w fun e w' => e = .returned (.bool (decide (m < n))) ∧ w = w' := by
  have e1 := dI_size m
  have e2 := dI_size n
  have hb : (dI m).size = (dI n).size → Op.bytesLess (dI m).toList (dI n).toList = decide (m < n) := by
    intro h
    rw [dI_toList, dI_toList, bytesLess_dig _ _ (by rw [← e1, ← e2, h]) (dig_isDig m) (dig_isDig n), dval_dec, dval_dec]
  by_cases h1 : (dI m).size < (dI n).size
  · have HV := Lib.hid (show m < n from dec_len_lt m n (by rw [← e1, ← e2]; exact h1))
    rw [decide_eq_true HV.out]
    clear e1 e2 hb
    go_enter Tryz.func98, Tryz.ntmps98
    go_wp2
    go_ret
    exact ⟨rfl, rfl⟩
  · by_cases h2 : (dI m).size = (dI n).size
    · have hbl := hb h2
      generalize decide (m < n) = b at *
      clear e1 e2 hb
      go_enter Tryz.func98, Tryz.ntmps98
      go_wp2
      go_ret
      exact ⟨rfl, rfl⟩
    · have HV := Lib.hid (show ¬ m < n from by have := dec_len_lt n m (by rw [← e1, ← e2]; omega); omega)
      rw [decide_eq_false HV.out]
      clear e1 e2 hb
      go_enter Tryz.func98, Tryz.ntmps98
      go_wp2
      go_ret
      exact ⟨rfl, rfl⟩
theorem ret_ui {a b c d : Int} (h : a = b) (h2 : c = d) : Ending.returned (.tuple #[.int .u8 a, .int .i64 c]) = .returned (.tuple #[.int .u8 b, .int .i64 d]) := by rw [h, h2]

set_option maxRecDepth 100000 in
set_option maxHeartbeats 1000000 in
theorem column_add (p q c m : Int) (w : World) (hp : 48 ≤ p ∧ p ≤ 57) (hq : 48 ≤ q ∧ q ≤ 57) (hc : 0 ≤ c ∧ c ≤ 1) (hm : m = (p - 48) + 1 * ((q - 48) + c)) :
    Calls Tryz.prog 130 #[.int .u8 p, .int .u8 q, .int .i64 c, .bool true] w fun e w' =>
      e = .returned (.tuple #[.int .u8 ((gd (colD m)).toNat : Int), .int .i64 (colC m)]) ∧ w = w' := by
  by_cases h : 9 < p - 48 + (q - 48) + c
  · have HD := Lib.hid (show 48 + (p - 48 + (q - 48) + c) - 10 = ((gd (colD m)).toNat : Int) by rw [gd_toNat (colD_lt _)]; unfold colD; omega)
    have HC := Lib.hid (show (1 : Int) = colC m by unfold colC; rw [if_pos (by omega)])
    clear hm
    go_enter Tryz.func130, Tryz.ntmps130
    go_wp2
    go_ret2
    exact ⟨ret_ui HD.out HC.out, rfl⟩
  · have HD := Lib.hid (show 48 + (p - 48 + (q - 48) + c) = ((gd (colD m)).toNat : Int) by rw [gd_toNat (colD_lt _)]; unfold colD; omega)
    have HC := Lib.hid (show (0 : Int) = colC m by unfold colC; rw [if_neg (by omega)])
    clear hm
    go_enter Tryz.func130, Tryz.ntmps130
    go_wp2
    go_ret2
    exact ⟨ret_ui HD.out HC.out, rfl⟩

set_option maxRecDepth 100000 in
set_option maxHeartbeats 1000000 in
theorem column_sub (p q c m : Int) (w : World) (hp : 48 ≤ p ∧ p ≤ 57) (hq : 48 ≤ q ∧ q ≤ 57) (hc : 0 ≤ c ∧ c ≤ 1) (hm : m = (p - 48) + (-1) * ((q - 48) + c)) :
    Calls Tryz.prog 130 #[.int .u8 p, .int .u8 q, .int .i64 c, .bool false] w fun e w' =>
      e = .returned (.tuple #[.int .u8 ((gd (colD m)).toNat : Int), .int .i64 (colC m)]) ∧ w = w' := by
  by_cases h : p - 48 - (q - 48) - c < 0
  · have HD := Lib.hid (show 48 + (p - 48 - (q - 48) - c) + 10 = ((gd (colD m)).toNat : Int) by rw [gd_toNat (colD_lt _)]; unfold colD; omega)
    have HC := Lib.hid (show (1 : Int) = colC m by unfold colC; rw [if_pos (by omega)])
    clear hm
    go_enter Tryz.func130, Tryz.ntmps130
    go_wp2
    go_ret2
    exact ⟨ret_ui HD.out HC.out, rfl⟩
  · have HD := Lib.hid (show 48 + (p - 48 - (q - 48) - c) = ((gd (colD m)).toNat : Int) by rw [gd_toNat (colD_lt _)]; unfold colD; omega)
    have HC := Lib.hid (show (0 : Int) = colC m by unfold colC; rw [if_neg (by omega)])
    clear hm
    go_enter Tryz.func130, Tryz.ntmps130
    go_wp2
    go_ret2
    exact ⟨ret_ui HD.out HC.out, rfl⟩

def sgA (add : Bool) : Int := if add then 1 else -1
theorem column_any (add : Bool) (p q c m : Int) (w : World) (hp : 48 ≤ p ∧ p ≤ 57) (hq : 48 ≤ q ∧ q ≤ 57) (hc : 0 ≤ c ∧ c ≤ 1) (hm : m = (p - 48) + sgA add * ((q - 48) + c)) :
    Calls Tryz.prog 130 #[.int .u8 p, .int .u8 q, .int .i64 c, .bool add] w fun e w' =>
      e = .returned (.tuple #[.int .u8 ((gd (colD m)).toNat : Int), .int .i64 (colC m)]) ∧ w = w' := by
  cases add
  · exact column_sub p q c m w hp hq hc hm
  · exact column_add p q c m w hp hq hc hm

theorem cat_minus {n : Nat} (h : n ≠ 0) : (ByteArray.mk #[45]) ++ dI n = sI (sv true n) := by
  have := opp_pos (n := (n : Int)) (by omega)
  unfold sv; simp only [if_true]; exact this

set_option maxRecDepth 100000 in
set_option maxHeartbeats 1000000 in
theorem signed_any (n : Nat) (b : Bool) (w : World) (hs : (dI n).size ≤ 1000000) : Calls Tryz.prog 96 #[.string (dI n), .bool b] w fun e w' => e = .returned (.string (sI (sv b n))) ∧ w = w' := by
  have hz : ((dI n).toList == [48]) = decide (n = 0) := by
    have := sI_eq_zero (n : Int)
    rw [show dI n = sI n from rfl, this]; congr 1; exact propext (by omega)
  by_cases h0 : n = 0
  · rw [decide_eq_true h0] at hz
    have HV := Lib.hid (show dI n = sI (sv b n) by subst h0; unfold sv; cases b <;> rfl)
    clear h0
    go_enter Tryz.func96, Tryz.ntmps96
    cases b
    · go_wp2
      go_ret
      exact ⟨ret_ba HV.out, rfl⟩
    · go_wp2
      go_ret
      exact ⟨ret_ba HV.out, rfl⟩
  · rw [decide_eq_false h0] at hz
    have HV := Lib.hid (cat_minus h0)
    clear h0
    go_enter Tryz.func96, Tryz.ntmps96
    cases b
    · go_wp2
      go_ret
      exact ⟨rfl, rfl⟩
    · go_wp2
      go_ret
      exact ⟨ret_ba HV.out, rfl⟩
end Go.Proofs.YtbdckemkmocdlaaGreatDoor

/- metrolabref01: blocks of bytes, wide, paper. -/
namespace Go.Proofs.YtbdckemkmocdlaaGreatDoor
open Go.RowKit

attribute [local irreducible] sI

/-- the cells of bytes -/
def bcs (L : List UInt8) : Array Value := (L.map fun b => Value.int .u8 (b.toNat : Int)).toArray
theorem bcs_size (L : List UInt8) : (bcs L).size = L.length := by simp [bcs]
theorem bcs_get (L : List UInt8) (i : Nat) (h : i < L.length) : (bcs L)[i]? = some (.int .u8 (L[i].toNat : Int)) := by simp [bcs, h]
theorem bcs_set (L : List UInt8) (i : Nat) (v : UInt8) : (bcs L).setIfInBounds i (.int .u8 (v.toNat : Int)) = bcs (L.set i v) := by
  simp [bcs, List.map_set]

/-- block g holds bytes -/
def BB (w : World) (g : Nat) (L : List UInt8) : Prop := w.heap[g]? = some (.cells (bcs L) 5 (0, 0))
section
variable {w w' : World} {g : Nat} {L : List UInt8}
theorem BB.lt (h : BB w g L) : g < w.heap.size := (Array.getElem?_eq_some_iff.1 h).1
theorem BB.below {B : Nat} (h : BB w g L) (hb : Below B w w') (hB : g < B) : BB w' g L := (hb.block g hB).trans h
theorem BB.c (h : BB w g L) (i : Nat) (hi : i < L.length) : w.cell? ⟨g, i, none⟩ = some (.int .u8 (L[i].toNat : Int)) := (cell_of_row _ _ _ _ _ _ h).trans (bcs_get L i hi)
theorem BB.fr (h : BB w g L) (i : Nat) : w.frozen? ⟨g, i, none⟩ = false := by
  simp only [World.frozen?]; rw [show w.heap[g]? = _ from h]; rfl
theorem BB.set (h : BB w g L) (i : Nat) (v : UInt8) : BB (w.setCell ⟨g, i, none⟩ (.int .u8 (v.toNat : Int))) g (L.set i v) := by
  unfold BB; rw [← bcs_set]; exact heap_setCell_at h i _
theorem BB.drewN (h : BB w g L) (k : Nat) : BB (w.drewN k) g L := h
theorem BB.setCells (V : List UInt8) : ∀ (o : Nat) (w : World) (L : List UInt8), BB w g L → o + V.length ≤ L.length →
    BB (w.setCells g o (V.map fun x => Value.int .u8 (x.toNat : Int))) g (L.take o ++ V ++ L.drop (o + V.length)) := by
  induction V with
  | nil => intro o w L h _; simp; exact h
  | cons v V ih =>
    intro o w L h hl
    simp only [List.length_cons] at hl
    have := ih (o + 1) _ _ (h.set o v) (by simp; omega)
    have e : (L.set o v).take (o + 1) ++ V ++ (L.set o v).drop (o + 1 + V.length) = L.take o ++ (v :: V) ++ L.drop (o + (v :: V).length) := by
      have e1 : (L.set o v).take (o + 1) = L.take o ++ [v] := by
        rw [List.take_succ_eq_append_getElem (by simp; omega)]; simp [List.take_set]; rw [List.set_eq_of_length_le (by simp; omega)]
      rw [e1, List.drop_set_of_lt (by omega)]
      simp [Nat.add_assoc, Nat.add_comm 1]
    rw [e] at this; exact this
end

theorem madeB (n : Nat) : madeCells (Value.int .u8 0).cells n = bcs (List.replicate n 0) := by
  apply Array.toList_inj.1
  show (madeCells #[Value.int .u8 0] n).toList = _
  rw [toList_madeCells_one]; simp [bcs]

theorem info5 : (Tryz.prog.info? 5).map (fun i => (i.zero, i.size, i.bytes)) = some (some (.int .u8 0), 1, 1) := by kernel_rfl
theorem und131 : Tryz.prog.underlying 131 = some (.slice 5) := by kernel_rfl
theorem und5 : Tryz.prog.underlying 5 = some (.int .u8) := by kernel_rfl
theorem und9 : Tryz.prog.underlying 9 = some .string := by kernel_rfl

theorem run_makeB (w : World) (n : Nat) (h : n ≤ 4000000) :
    (Instr.makeSlice 131 (.int .i64 n) (.int .i64 n)).run Tryz.prog w = .ok (.slice (some ⟨w.heap.size, 0, none⟩) n n) (w.alloc (.cells (bcs (List.replicate n 0)) 5 (0, 0))) := by
  cases hi : Tryz.prog.info? 5 with
  | none => have := info5; rw [hi] at this; simp at this
  | some i =>
    have h3 := info5
    rw [hi] at h3; simp at h3
    obtain ⟨z1, z2, z3⟩ := h3
    have := run_make (P := Tryz.prog) w 131 5 i (.int .u8 0) und131 hi z1 .i64 .i64 n n (by omega) (by omega) (by rw [z3]; omega) (by omega)
    rw [this, z2]
    simp [madeB]

theorem BB.new (w : World) (L : List UInt8) : BB (w.alloc (.cells (bcs L) 5 (0, 0))) w.heap.size L := heap_alloc_new w _

theorem BB.str {w : World} {g : Nat} {L : List UInt8} (h : BB w g L) (c : Nat) : (convert 131 9 (.slice (some ⟨g, 0, none⟩) L.length c)).run Tryz.prog w = .ok (.string ⟨L.toArray⟩) w :=
  run_convert_bytes_back w 131 9 5 ⟨g, 0, none⟩ c L und131 und5 und9 (fun j hj => by
    have := h.c j hj
    cases j <;> simpa [Addr.add] using this)

/-- copy from a text, as a step -/
theorem wpList_copy_string {P : Program} {w : World} {ops : Array Oper} {rest : List Oper} {o : Oper} {a : Act} {Q : Exit → Act → World → Prop}
    (hgd : o.guard = none) (d x : Operand) (dT sT : TypeId) (hop : o.op = .call { callee := .builtin .copy, args := #[d, x], argTypes := #[dT, sT] })
    (elem : TypeId) (hu : P.underlying dT = some (.slice elem)) (hz : ∀ w, (Go.sizeOf elem).run P w = .ok 1 w)
    (b off dLen dCap : Nat) (hd : a.eval d = .slice (some ⟨b, off, none⟩) dLen dCap) (t : ByteArray) (hx : a.eval x = .string t) (hle : t.size ≤ dLen)
    (hc : ∀ j, j < t.size → (w.cell? ⟨b, off + j, none⟩).isSome = true) (hf : ∀ j, j < t.size → w.frozen? ⟨b, off + j, none⟩ = false)
    (hK : wpList P ops Q rest (a.put o.dst (goInt t.size)) (w.setCells b off (t.data.toList.map fun x => Value.int .u8 (x.toNat : Int)))) :
    wpList P ops Q (o :: rest) a w := by
  refine wpList_plain hgd fun K hK' => ?_
  have hrun := run_copy_string (P := P) w dT sT o.type elem b off dLen dCap t hu hz hle hc hf
  unfold Oper.wp
  simp [execOp, hop, resolve, invoke, builtin, hd, hx, hrun, Result.andThen]
  exact hK' _ _ hK

theorem size5 (w : World) : (Go.sizeOf 5).run Tryz.prog w = .ok 1 w := by
  cases hi : Tryz.prog.info? 5 with
  | none => have := info5; rw [hi] at this; simp at this
  | some i =>
    have h3 := info5
    rw [hi] at h3; simp at h3
    simp [Go.sizeOf, Go.typeInfo, hi, h3.2.1]

set_option maxRecDepth 100000 in
set_option maxHeartbeats 2000000 in
theorem wide_any (s : ByteArray) (n : Nat) (w : World) (h0 : 0 < s.size) (hn : s.size ≤ n) (hN : n ≤ 1000001) :
    Calls Tryz.prog 129 #[.string s, .int .i64 n] w fun e w' => e = .returned (.string ⟨(List.replicate (n - s.size) 48 ++ s.data.toList).toArray⟩) ∧ Below w.heap.size w w' := by
  have hmk := run_makeB w n (by omega)
  go_enter Tryz.func129, Tryz.ntmps129
  go_wp2
  have hB0 := BB.new w (List.replicate n 0)
  have hb0 := (Below.refl w.heap.size w).alloc (Nat.le_refl _) (.cells (bcs (List.replicate n 0)) 5 (0, 0))
  generalize w.alloc (.cells (bcs (List.replicate n 0)) 5 (0, 0)) = w0 at *
  clear hmk
  go_loopw [6] (fun i wr => ∃ k : Nat, i = .int .i64 k ∧ k ≤ n ∧ BB wr w.heap.size (List.replicate k 48 ++ List.replicate (n - k) 0) ∧ Below w.heap.size w wr) (fun i _ => n - (intOf i).toNat)
  case atStart => exact ⟨0, rfl, Nat.zero_le _, by simpa using hB0, hb0⟩
  case round =>
    obtain ⟨k, rfl, hk, hB, hb⟩ := hrel
    by_cases hlt : k < n
    · have c1 := hB.c k (by simp; omega)
      have c2 := hB.fr k
      have HS := Lib.hid (hB.set k 48)
      have HB := Lib.hid (hb.setCell (p := ⟨w.heap.size, k, none⟩) (Nat.le_refl _) (.int .u8 48))
      clear hB
      go_wp2
      refine ⟨⟨k + 1, by simp, by omega, ?_, HB.out⟩, by simp [intOf]; omega⟩
      have := HS.out
      have e : (List.replicate k 48 ++ List.replicate (n - k) (0 : UInt8)).set k 48 = List.replicate (k + 1) 48 ++ List.replicate (n - (k + 1)) 0 := by
        rw [List.set_append_right _ _ (by simp)]
        rw [show n - k = n - (k + 1) + 1 by omega, List.replicate_succ, List.replicate_succ']
        simp
      rw [e] at this; exact this
    · have hkn : k = n := by omega
      subst hkn
      rw [Nat.sub_self, List.replicate_zero, List.append_nil] at hB
      have hc := fun j (hj : j < s.size) => hB.c (k - s.size + j) (by simp; omega)
      have hf := fun j => hB.fr (k - s.size + j)
      have hCP := BB.setCells s.data.toList (k - s.size) wr _ hB (by rw [← ba_size]; simp; omega)
      have e1 : (List.replicate k (48 : UInt8)).take (k - s.size) ++ s.data.toList ++ (List.replicate k (48 : UInt8)).drop (k - s.size + s.data.toList.length) = List.replicate (k - s.size) 48 ++ s.data.toList := by
        rw [← ba_size, List.drop_of_length_le (by simp; omega), List.append_nil]; simp
      rw [e1] at hCP
      have hb1 := below_setCells (b := w.heap.size) (Nat.le_refl _) (s.data.toList.map fun x => Value.int .u8 (x.toNat : Int)) (k - s.size) wr hb
      have hcv := hCP.str k
      have hl : (List.replicate (k - s.size) (48 : UInt8) ++ s.data.toList).length = k := by rw [List.length_append, ← ba_size]; simp; omega
      rw [hl] at hcv
      have HC := Lib.hid hc
      have HF := Lib.hid hf
      have HB1 := Lib.hid hb1
      clear hc hf hB hCP hb1 hl e1 hB0 hb0
      go_wp2_with (first
        | (refine wpList_copy_string rfl (.tmp 22) (.tmp 23) 131 9 rfl 5 und131 size5 w.heap.size (k - s.size) (k - (k - s.size)) (k - (k - s.size)) rfl s rfl (by omega) (fun j hj => by rw [HC.out j hj]; rfl) (fun j _ => HF.out j) ?_)
        | fail)
      go_ret
      exact ⟨rfl, HB1.out⟩

/-- digits with zeros in front -/
def Wide (A : ByteArray) (n v : Nat) : Prop := A.size = n ∧ (∀ c ∈ A.data.toList, isDig c) ∧ dval A.data.toList = v
theorem wide_dI (m n : Nat) (w : World) (hn : (dI m).size ≤ n) (hN : n ≤ 1000001) :
    Calls Tryz.prog 129 #[.string (dI m), .int .i64 n] w fun e w' => ∃ A, e = .returned (.string A) ∧ Wide A n m ∧ Below w.heap.size w w' := by
  refine (wide_any (dI m) n w (sI_pos _) hn hN).mono ?_
  rintro e w' ⟨rfl, hb⟩
  refine ⟨_, rfl, ⟨?_, ?_, ?_⟩, hb⟩
  · have : (dI m).data.toList.length = (dI m).size := (ba_size _).symm
    rw [ba_size]; simp at this ⊢; omega
  · intro c hc
    simp only [List.mem_append] at hc
    rcases hc with hc | hc
    · rw [List.eq_of_mem_replicate hc]; decide
    · rw [dI_list] at hc; exact dig_isDig m c hc
  · show dval (List.replicate _ 48 ++ _) = m
    rw [dval_zeros', dI_list, dval_dec]

theorem Wide.at {A : ByteArray} {n v : Nat} (h : Wide A n v) {j : Nat} (hj : j < n) : ∃ hl : j < A.data.toList.length, ∃ hs : j < A.size, A[j] = A.data.toList[j] ∧ isDig (A.data.toList[j]) := by
  have hl : j < A.data.toList.length := by rw [← ba_size, h.1]; exact hj
  exact ⟨hl, by rw [h.1]; exact hj, (Array.getElem_toList _).symm, h.2.1 _ (List.getElem_mem hl)⟩

theorem Columns.step_at {s : Int} {n j : Nat} {A B L : List UInt8} {c : Int} (h : Columns s n (n - (j + 1)) A B L c) (hj : j < n) (hA : A.length = n) (hB : B.length = n)
    (m : Int) (hs : s = 1 ∨ s = -1) (hdA : isDig (A[j]'(by omega))) (hdB : isDig (B[j]'(by omega)))
    (hm : m = (dg (A[j]'(by omega)) : Int) + s * ((dg (B[j]'(by omega)) : Int) + c)) :
    Columns s n (n - j) A B (L.set j (gd (colD m))) (colC m) := by
  have e : n - 1 - (n - (j + 1)) = j := by omega
  have e2 : n - (j + 1) + 1 = n - j := by omega
  have := h.step (by omega) hA hB m hs (by simpa only [e] using hdA) (by simpa only [e] using hdB) (by simpa only [e] using hm)
  rw [e, e2] at this; exact this

theorem sgA_or (add : Bool) : sgA add = 1 ∨ sgA add = -1 := by cases add <;> simp [sgA]

theorem paper_value {N m n v : Nat} {add : Bool} {A B : ByteArray} {L : List UInt8} {c : Int} (hv : (add = true ∧ v = m + n) ∨ (add = false ∧ n ≤ m ∧ v = m - n)) (hA : Wide A N m) (hB : Wide B N n)
    (hm : (dI m).size < N) (hn : (dI n).size < N) (h : Columns (sgA add) N N A.data.toList B.data.toList L c) : dval L = v := by
  rcases hv with ⟨rfl, rfl⟩ | ⟨rfl, h1, rfl⟩
  · rw [← hA.2.2, ← hB.2.2]
    refine h.done_add ?_
    rw [hA.2.2, hB.2.2]
    rw [dI_size] at hm hn
    have e1 := (dec_len_le m (N - 1) (by have := dec_len_pos m; omega)).1 (by omega)
    have e2 := (dec_len_le n (N - 1) (by have := dec_len_pos m; omega)).1 (by omega)
    have e3 : 10 ^ N = 10 * 10 ^ (N - 1) := by rw [← Nat.pow_succ']; congr 1; omega
    omega
  · rw [← hA.2.2, ← hB.2.2]
    exact h.done_sub (by rw [hA.2.2, hB.2.2]; exact h1)

set_option maxRecDepth 100000 in
set_option maxHeartbeats 4000000 in
theorem paper_any (m n v : Nat) (add : Bool) (w : World) (hv : (add = true ∧ v = m + n) ∨ (add = false ∧ n ≤ m ∧ v = m - n)) (h1 : (dI m).size ≤ 500000) (h2 : (dI n).size ≤ 500000) :
    Calls Tryz.prog 97 #[.string (dI m), .string (dI n), .bool add] w fun e w' => e = .returned (.string (dI v)) ∧ Below w.heap.size w w' := by
  obtain ⟨N, hN, hN1, hN2, hN3⟩ : ∃ N : Nat, max ((dI m).size : Int) ((dI n).size : Int) + 1 = N ∧ (dI m).size < N ∧ (dI n).size < N ∧ N ≤ 500001 := ⟨max (dI m).size (dI n).size + 1, by omega, by omega, by omega, by omega⟩
  have HV := Lib.hid hv
  clear hv
  go_enter Tryz.func97, Tryz.ntmps97
  go_wp2_with fail
  refine (wide_dI m N _ (by omega) (by omega)).mono ?_
  rintro e w1 ⟨A, rfl, hA, hb1⟩
  go_wp2_with fail
  refine (wide_dI n N _ (by omega) (by omega)).mono ?_
  rintro e w2 ⟨B, rfl, hB, hb2⟩
  have hb3 := hb1.trans (hb2.mono hb1.size)
  have hmk := run_makeB w2 N (by omega)
  go_wp2_with fail
  have hB0 := BB.new w2 (List.replicate N 0)
  have hb4 := hb3.alloc hb3.size (.cells (bcs (List.replicate N 0)) 5 (0, 0))
  have hG : w.heap.size ≤ w2.heap.size := hb3.size
  generalize w2.alloc (.cells (bcs (List.replicate N 0)) 5 (0, 0)) = w3 at *
  generalize w2.heap.size = G at *
  clear hmk hb1 hb2 hb3
  have hAl : A.data.toList.length = N := by rw [← ba_size, hA.1]
  have hBl : B.data.toList.length = N := by rw [← ba_size, hB.1]
  have HAB := Lib.hid (show ∀ L : List UInt8, L.length = N → Columns (sgA add) N 0 A.data.toList B.data.toList L 0 from fun L hL => Columns.start _ _ _ _ _ hL hAl hBl)
  have HAL := Lib.hid hAl
  have HBL := Lib.hid hBl
  have HA := Lib.hid hA
  have HB := Lib.hid hB
  have hAs := hA.1
  have hBs := hB.1
  clear hAl hBl hA hB
  go_loopw [9, 10] (fun c i wr => ∃ (j : Nat) (L : List UInt8) (cc : Int), c = .int .i64 cc ∧ i = .int .i64 ((j : Int) - 1) ∧ j ≤ N ∧ Hid (Columns (sgA add) N (N - j) A.data.toList B.data.toList L cc) ∧ 0 ≤ cc ∧ cc ≤ 1 ∧ Hid (BB wr G L) ∧ Below w.heap.size w wr)
    (fun _ i _ => (intOf i + 1).toNat)
  case atStart => exact ⟨N, List.replicate N 0, 0, rfl, rfl, Nat.le_refl _, Lib.hid (by rw [Nat.sub_self]; exact HAB.out _ (by simp)), by omega, by omega, Lib.hid hB0, hb4⟩
  case round =>
    obtain ⟨j, L, cc, rfl, rfl, hj, hC, hc0, hc1, hBB, hb⟩ := hrel
    cases j with
    | zero =>
      have hL := hC.out.1
      have HD := Lib.hid hC.out.digits
      have HW := Lib.hid (paper_value HV.out HA.out HB.out hN1 hN2 hC.out)
      have hcv := hBB.out.str N
      rw [hL] at hcv
      go_wp2_with fail
      refine (bare_any ⟨L.toArray⟩ _ (by show L.toArray.size ≤ _; simp; omega) (by simp; intro e; rw [e] at hL; simp at hL; omega) (by simpa using HD.out)).mono ?_
      rintro e w6 ⟨rfl, rfl⟩
      go_wp2_with fail
      go_ret
      exact ⟨ret_ba (by rw [← HW.out]), hb⟩
    | succ j =>
      rw [show ((j + 1 : Nat) : Int) - 1 = j by omega]
      obtain ⟨al, al2, ae, ad⟩ := HA.out.at (show j < N by omega)
      obtain ⟨bl, bl2, be, bd⟩ := HB.out.at (show j < N by omega)
      have hLl := hC.out.1
      have k1 := hBB.out.c j (by omega)
      have k2 := hBB.out.fr j
      have pa := dg_of ad
      have pb := dg_of bd
      rw [← ae] at pa
      rw [← be] at pb
      have ra : ((A[j].toNat : Nat) : Int) - 48 = dg (A.data.toList[j]) := by rw [← ae]; omega
      have rb : ((B[j].toNat : Nat) : Int) - 48 = dg (B.data.toList[j]) := by rw [← be]; omega
      have pa9 := dg_le ad
      have pb9 := dg_le bd
      rw [← ae] at pa9
      rw [← be] at pb9
      have qa : 48 ≤ ((A[j].toNat : Nat) : Int) ∧ ((A[j].toNat : Nat) : Int) ≤ 57 := by omega
      have qb : 48 ≤ ((B[j].toNat : Nat) : Int) ∧ ((B[j].toNat : Nat) : Int) ≤ 57 := by omega
      obtain ⟨M, hM⟩ : ∃ M : Int, M = ((A[j].toNat : Int) - 48) + sgA add * (((B[j].toNat : Int) - 48) + cc) := ⟨_, rfl⟩
      have HM := Lib.hid hM
      have HC := Lib.hid (hC.out.step_at (by omega) HAL.out HBL.out M (sgA_or add) ad bd (by rw [hM, ra, rb]))
      have HS := Lib.hid (hBB.out.set j (gd (colD M)))
      have HBe := Lib.hid (hb.setCell (p := ⟨G, j, none⟩) hG (.int .u8 ((gd (colD M)).toNat : Int)))
      have hcc := colC_or M
      clear hM ra rb pa pb pa9 pb9 ad bd ae be
      go_wp2_with fail
      go_region_with ((go_at_call 130; refine (column_any add _ _ cc M _ qa qb ⟨hc0, hc1⟩ HM.out).mono ?_; rintro e w5 ⟨rfl, rfl⟩))
      all_goals
        go_wp2_with fail
        exact ⟨⟨j, L.set j (gd (colD M)), colC M, rfl, rfl, by omega, HC, by omega, by omega, HS, HBe.out.drew⟩, by simp [intOf]⟩
end Go.Proofs.YtbdckemkmocdlaaGreatDoor

/- metrolabref01: product. -/
namespace Go.Proofs.YtbdckemkmocdlaaGreatDoor
open Go.RowKit

attribute [local irreducible] sI

/-- the cells of columns -/
def ics (C : List Nat) : Array Value := (C.map fun (c : Nat) => Value.int .i64 (c : Int)).toArray
theorem ics_get (C : List Nat) (i : Nat) (h : i < C.length) : (ics C)[i]? = some (.int .i64 (C[i] : Int)) := by simp [ics, h]
theorem ics_set (C : List Nat) (i v : Nat) : (ics C).setIfInBounds i (.int .i64 (v : Int)) = ics (C.set i v) := by simp [ics, List.map_set]
/-- block g holds columns -/
def IB (w : World) (g : Nat) (C : List Nat) : Prop := w.heap[g]? = some (.cells (ics C) 3 (0, 0))
section
variable {w w' : World} {g : Nat} {C : List Nat}
theorem IB.lt (h : IB w g C) : g < w.heap.size := (Array.getElem?_eq_some_iff.1 h).1
theorem IB.below {B : Nat} (h : IB w g C) (hb : Below B w w') (hB : g < B) : IB w' g C := (hb.block g hB).trans h
theorem IB.c (h : IB w g C) (i : Nat) (hi : i < C.length) : w.cell? ⟨g, i, none⟩ = some (.int .i64 (C[i] : Int)) := (cell_of_row _ _ _ _ _ _ h).trans (ics_get C i hi)
theorem IB.fr (h : IB w g C) (i : Nat) : w.frozen? ⟨g, i, none⟩ = false := by
  simp only [World.frozen?]; rw [show w.heap[g]? = _ from h]; rfl
theorem IB.set (h : IB w g C) (i v : Nat) : IB (w.setCell ⟨g, i, none⟩ (.int .i64 (v : Int))) g (C.set i v) := by
  unfold IB; rw [← ics_set]; exact heap_setCell_at h i _
end
theorem madeI (n : Nat) : madeCells (Value.int .i64 0).cells n = ics (List.replicate n 0) := by
  apply Array.toList_inj.1
  show (madeCells #[Value.int .i64 0] n).toList = _
  rw [toList_madeCells_one]; simp [ics]
theorem infoI : (Tryz.prog.info? 3).map (fun i => (i.zero, i.size, i.bytes)) = some (some (.int .i64 0), 1, 8) := by kernel_rfl
theorem undI : Tryz.prog.underlying 56 = some (.slice 3) := by kernel_rfl
theorem run_makeI (w : World) (n : Nat) (h : n ≤ 4000000) :
    (Instr.makeSlice 56 (.int .i64 n) (.int .i64 n)).run Tryz.prog w = .ok (.slice (some ⟨w.heap.size, 0, none⟩) n n) (w.alloc (.cells (ics (List.replicate n 0)) 3 (0, 0))) := by
  cases hi : Tryz.prog.info? 3 with
  | none => have := infoI; rw [hi] at this; simp at this
  | some i =>
    have h3 := infoI
    rw [hi] at h3; simp at h3
    obtain ⟨z1, z2, z3⟩ := h3
    have := run_make (P := Tryz.prog) w 56 3 i (.int .i64 0) undI hi z1 .i64 .i64 n n (by omega) (by omega) (by rw [z3]; omega) (by omega)
    rw [this, z2]
    simp [madeI]
theorem IB.new (w : World) (C : List Nat) : IB (w.alloc (.cells (ics C) 3 (0, 0))) w.heap.size C := heap_alloc_new w _

/-- a text of digits -/
def Dig (x : ByteArray) (A : List UInt8) : Prop := x.data.toList = A ∧ ∀ c ∈ A, isDig c
theorem Dig.at {x : ByteArray} {A : List UInt8} (h : Dig x A) {j : Nat} (hj : j < x.size) : ∃ hl : j < A.length, ((x[j].toNat : Nat) : Int) - 48 = dg A[j] ∧ 48 ≤ ((x[j].toNat : Nat) : Int) ∧ ((x[j].toNat : Nat) : Int) ≤ 57 := by
  obtain ⟨rfl, hd⟩ := h
  have hl : j < x.data.toList.length := by rw [← ba_size]; exact hj
  refine ⟨hl, ?_⟩
  have e : x[j] = x.data.toList[j] := (Array.getElem_toList _).symm
  have h2 := hd _ (List.getElem_mem hl)
  have h3 := dg_of h2
  have h4 := dg_le h2
  rw [e]; omega

set_option maxRecDepth 100000 in
set_option maxHeartbeats 4000000 in
theorem product_digits (x y : ByteArray) (A B : List UInt8) (w : World) (hx : Dig x A) (hy : Dig y B) (h1 : x.size ≤ 20000) (h2 : y.size ≤ 20000) (x0 : 0 < x.size) (y0 : 0 < y.size) :
    Calls Tryz.prog 126 #[.string x, .string y] w fun e w' => e = .returned (.string (dI (dval A * dval B))) ∧ Below w.heap.size w w' := by
  have la : x.size = A.length := by rw [ba_size, hx.1]
  have lb : y.size = B.length := by rw [ba_size, hy.1]
  obtain ⟨N, hN, hNn⟩ : ∃ N : Nat, ((A.length : Int) + (B.length : Int)) = N ∧ N = A.length + B.length := ⟨A.length + B.length, by omega, by omega⟩
  have HX := Lib.hid hx
  have HY := Lib.hid hy
  have hmk := run_makeI w N (by omega)
  have HP := Lib.hid (Pairs.start A B)
  rw [← hNn] at HP
  have HN := Lib.hid hNn
  clear hx hy hNn
  go_enter Tryz.func126, Tryz.ntmps126
  go_wp2_with fail
  have hC0 := IB.new w (List.replicate N 0)
  have hb0 := (Below.refl w.heap.size w).alloc (Nat.le_refl _) (.cells (ics (List.replicate N 0)) 3 (0, 0))
  generalize w.alloc (.cells (ics (List.replicate N 0)) 3 (0, 0)) = w0 at *
  clear hmk
  go_loopw [6] (fun i wr => ∃ (k : Nat) (C : List Nat), i = .int .i64 k ∧ k ≤ A.length ∧ Hid (Pairs A B k 0 C) ∧ Hid (IB wr w.heap.size C) ∧ Below w.heap.size w wr) (fun i _ => A.length - (intOf i).toNat)
  case atStart => exact ⟨0, _, rfl, Nat.zero_le _, HP, Lib.hid hC0, hb0⟩
  case round =>
    obtain ⟨i, C, rfl, hi, hP, hI, hb⟩ := hrel
    clear hC0 hb0 HP
    by_cases hlt : i < A.length
    · go_wp2_with fail
      go_loopw [7] (fun k wr => ∃ (j : Nat) (C : List Nat), k = .int .i64 j ∧ j ≤ B.length ∧ Hid (Pairs A B i j C) ∧ Hid (IB wr w.heap.size C) ∧ Below w.heap.size w wr) (fun k _ => B.length - (intOf k).toNat)
      case atStart => exact ⟨0, C, rfl, Nat.zero_le _, hP, hI, hb⟩
      case round =>
        clear hP hI hb
        rename_i wr0
        obtain ⟨j, C, rfl, hj, hP, hI, hb⟩ := hrel
        by_cases hl2 : j < B.length
        · have hi2 : i < x.size := by omega
          have hj2 : j < y.size := by omega
          obtain ⟨p, hp, hpn⟩ : ∃ p : Nat, ((i : Int) + (j : Int) + 1) = p ∧ p = i + j + 1 := ⟨i + j + 1, by omega, rfl⟩
          have hNn := HN.out
          have hCl := hP.out.1
          have hCb := hP.out.2.2.2.1
          have hpl : p < C.length := by omega
          obtain ⟨al, a1, a2, a3⟩ := HX.out.at hi2
          obtain ⟨bl, b1, b2, b3⟩ := HY.out.at hj2
          have hst := hP.out.step al bl (HX.out.2 _ (List.getElem_mem al)) (HY.out.2 _ (List.getElem_mem bl)) (by omega)
          have k1 := hI.out.c p hpl
          have k2 := hI.out.fr p
          have hcb := hCb _ (List.getElem_mem hpl)
          have hm0 : 0 ≤ (((x[i].toNat : Nat) : Int) - 48) * (((y[j].toNat : Nat) : Int) - 48) := Int.mul_nonneg (by omega) (by omega)
          have hm1 : (((x[i].toNat : Nat) : Int) - 48) * (((y[j].toNat : Nat) : Int) - 48) ≤ 81 := by
            have := Int.mul_le_mul (show ((x[i].toNat : Nat) : Int) - 48 ≤ 9 by omega) (show ((y[j].toNat : Nat) : Int) - 48 ≤ 9 by omega) (by omega) (by omega)
            omega
          have hcl : (C[p] : Int) ≤ 81 * (20000 * 20000 + 20000) := by
            have : i * B.length + j ≤ 20000 * 20000 + 20000 := Nat.add_le_add (Nat.mul_le_mul (by omega) (by omega)) (by omega)
            omega
          have HE := Lib.hid (show (C[p] : Int) + (((x[i].toNat : Nat) : Int) - 48) * (((y[j].toNat : Nat) : Int) - 48) = ((C[p] + dg A[i] * dg B[j] : Nat) : Int) by rw [a1, b1]; simp)
          have HS := Lib.hid (hI.out.set p (C[p] + dg A[i] * dg B[j]))
          have HB := Lib.hid ((hb.setCell (p := ⟨w.heap.size, p, none⟩) (Nat.le_refl _) (.int .i64 ((C[p] + dg A[i] * dg B[j] : Nat) : Int))).drew)
          have HT := Lib.hid (show Pairs A B i (j + 1) (C.set p (C[p] + dg A[i] * dg B[j])) by subst hpn; exact hst)
          generalize hcp : C[p] = cp at *
          have hpN : p < N := by omega
          clear hNn hCl hst hP hI hCb hcb a1 b1 hcp hpn
          go_wp2_with fail
          go_region
          rw [HE.out]
          go_wp2_with fail
          exact ⟨⟨j + 1, _, by simp, by omega, HT, HS, HB.out⟩, by simp [intOf]; omega⟩
        · have HT := Lib.hid (show Pairs A B (i + 1) 0 C by
            have e : j = B.length := by omega
            subst e; exact hP.out.next hlt)
          clear hP
          go_wp2_with fail
          exact ⟨⟨i + 1, C, by simp, by omega, HT, hI, hb⟩, by simp [intOf]; omega⟩
    · have hd := Lib.hid (show colval C = dval A * dval B by
        have e : i = A.length := by omega
        subst e; exact hP.out.done)
      have hCl := Lib.hid hP.out.1
      have hcb := Lib.hid (show ∀ c ∈ C, c ≤ 81 * (20000 * 20000) by
        intro c hc
        have h3 := hP.out.2.2.2.1 c hc
        have : i * B.length ≤ 20000 * 20000 := Nat.mul_le_mul (by omega) (by omega)
        omega)
      clear hP
      have hmk := run_makeB wr N (by omega)
      go_wp2_with fail
      have hB0 := BB.new wr (List.replicate N 0)
      have hI0 := hI.out.below ((Below.refl wr.heap.size wr).alloc (Nat.le_refl _) (.cells (bcs (List.replicate N 0)) 5 (0, 0))) hI.out.lt
      have hb1 := hb.alloc hb.size (.cells (bcs (List.replicate N 0)) 5 (0, 0))
      have hG := hb.size
      have hGG : w.heap.size < wr.heap.size := hI.out.lt
      generalize wr.alloc (.cells (bcs (List.replicate N 0)) 5 (0, 0)) = w3 at *
      generalize wr.heap.size = G at *
      clear hmk hI hb
      have HK := Lib.hid (show Carried C N (N - N) (List.replicate N 0) 0 by
        rw [Nat.sub_self]; exact Carried.start C N _ (by rw [hCl.out, HN.out]) (by simp))
      have HI0 := Lib.hid hI0
      have HB0 := Lib.hid hB0
      clear hI0 hB0
      go_loopw [9, 10] (fun c i wr => ∃ (j : Nat) (L : List UInt8) (cc : Nat), c = .int .i64 cc ∧ i = .int .i64 ((j : Int) - 1) ∧ j ≤ N ∧ cc ≤ 81 * (20000 * 20000) ∧ Hid (Carried C N (N - j) L cc) ∧ Hid (BB wr G L) ∧ Hid (IB wr w.heap.size C) ∧ Below w.heap.size w wr)
        (fun _ i _ => (intOf i + 1).toNat)
      case atStart => exact ⟨N, _, 0, rfl, rfl, Nat.le_refl _, by omega, HK, HB0, HI0, hb1⟩
      case round =>
        clear HK HB0 HI0 hb1
        obtain ⟨j, L, cc, rfl, rfl, hj, hcc, hK, hBB, hI, hb⟩ := hrel
        cases j with
        | zero =>
          have hL := hK.out.1
          have HD := Lib.hid hK.out.digits
          have HW := Lib.hid (show dval L = dval A * dval B by
            rw [← hd.out]; refine hK.out.done ?_
            rw [hd.out, HN.out, Nat.pow_add]
            exact Nat.mul_lt_mul'' (dval_lt A HX.out.2) (dval_lt B HY.out.2))
          have hcv := hBB.out.str N
          rw [hL] at hcv
          go_wp2_with fail
          refine (bare_any ⟨L.toArray⟩ _ (by show L.toArray.size ≤ _; simp; omega) (by simp; intro e; rw [e] at hL; simp at hL; omega) (by simpa using HD.out)).mono ?_
          rintro e w6 ⟨rfl, rfl⟩
          go_wp2_with fail
          go_ret
          exact ⟨ret_ba (by rw [← HW.out]), hb⟩
        | succ j =>
          rw [show ((j + 1 : Nat) : Int) - 1 = j by omega]
          have hjC : j < C.length := by rw [hCl.out, ← HN.out]; omega
          have hLl := hK.out.1
          have k1 := hBB.out.c j (by omega)
          have k2 := hBB.out.fr j
          have k3 := hI.out.c j hjC
          have hcj := hcb.out _ (List.getElem_mem hjC)
          obtain ⟨t, ht⟩ : ∃ t : Nat, t = cc + C[j] := ⟨_, rfl⟩
          have HK2 := Lib.hid (show Carried C N (N - j) (L.set j (gd (t % 10))) (t / 10) by
            have e : N - 1 - (N - (j + 1)) = j := by omega
            have e2 : N - (j + 1) + 1 = N - j := by omega
            have := hK.out.step (by omega) (by rw [hCl.out, HN.out]) t (by simpa only [e] using ht)
            rw [e, e2] at this; exact this)
          have HS := Lib.hid (hBB.out.set j (gd (t % 10)))
          have HI2 := Lib.hid (hI.out.below ((Below.refl G _).setCell (p := ⟨G, j, none⟩) (Nat.le_refl _) (.int .u8 ((gd (t % 10)).toNat : Int))) hGG)
          have HBe := Lib.hid (hb.setCell (p := ⟨G, j, none⟩) hG (.int .u8 ((gd (t % 10)).toNat : Int)))
          have er : ((t : Nat) : Int).tmod 10 = ((t % 10 : Nat) : Int) := by rw [Int.tmod_eq_emod_of_nonneg (by omega)]; rfl
          have eq : ((t : Nat) : Int).tdiv 10 = ((t / 10 : Nat) : Int) := rfl
          have hd10 : t % 10 < 10 := by omega
          have hq10 : t / 10 ≤ 81 * (20000 * 20000) := by omega
          have HE := Lib.hid (show (48 : Int) + ((t % 10 : Nat) : Int) = ((gd (t % 10)).toNat : Int) by rw [gd_toNat hd10]; omega)
          have ht2 : (cc : Int) + ((C[j] : Nat) : Int) = (t : Int) := by omega
          generalize C[j] = cj at *
          generalize t % 10 = d at *
          generalize t / 10 = q at *
          clear hK hBB hI hb hcb hCl ht
          go_wp2_with fail
          rw [HE.out]
          exact ⟨⟨j, _, q, rfl, rfl, by omega, by omega, HK2, HS, HI2, HBe.out⟩, by simp [intOf]⟩

theorem dig_dI (n : Nat) : Dig (dI n) (Lib.decDigits n) := ⟨dI_list n, dig_isDig n⟩
theorem product_any (m n : Nat) (w : World) (h1 : (dI m).size ≤ 20000) (h2 : (dI n).size ≤ 20000) :
    Calls Tryz.prog 126 #[.string (dI m), .string (dI n)] w fun e w' => e = .returned (.string (dI (m * n))) ∧ Below w.heap.size w w' := by
  have := product_digits _ _ _ _ w (dig_dI m) (dig_dI n) h1 h2 (sI_pos _) (sI_pos _)
  rw [dval_dec, dval_dec] at this; exact this
end Go.Proofs.YtbdckemkmocdlaaGreatDoor

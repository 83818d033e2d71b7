-- Laid by prx.py (ours), out of the translation's print. Not trusted: Lean checks it.
import Derived.Test.YtmdmdbiinngneaaGreatDoorQ0
import Derived.Test.YtmdmdbiinngneaaGreatDoorQ6
import Derived.Test.YtmdmdbiinngneaaGreatDoorQ7
import Derived.Lib.Strings
import Derived.Lib.Slices
import Derived.Lib.Walk
import Derived.Lib.Builder
import Derived.Lib.AppendStr
import Derived.Lib.UnsafeStr
import Derived.Laws.Externs
import Derived.WalkSmall
import Derived.OneCell
import Derived.BigQuiet
import Derived.Lib.AppendIntMem
import Derived.Outline
import Derived.Lib.Hide
namespace Go.Proofs.YtmdmdbiinngneaaGreatDoor.Q
open Go.RowKit Go.Proofs.YtmdmdbiinngneaaGreatDoorW.PrintWords Go.Proofs.YtmdmdbiinngneaaGreatDoorW.PrintLast Go.Proofs.YtmdmdbiinngneaaGreatDoorW.PrintMore
attribute [local go_sem] max2_int min2_int max_two min_two max_three min_three max_four min_four   -- for this text's walks alone
set_option linter.unusedVariables false
set_option linter.unusedSimpArgs false

/-! ### HAND script_Text: function 8 -/
abbrev IsB (B b : Nat) (bs : List UInt8) (w : World) : Prop := Lib.IsBuilder 57 5 B b (Lib.byteCells bs) w
theorem inf58 : (Tryz.prog.info? 57).map (·.size) = some 2 := by kernel_rfl
theorem lies58 : liesAt Tryz.prog Tryz.prog.depth 57 (2 / Tryz.prog.cellsOf 57) 0 57 1 = true := by kernel_rfl
theorem inf5 : ∃ i, Tryz.prog.info? 5 = some i ∧ i.zero = some (.int .u8 0) ∧ i.size = 1 ∧ i.bytes = 1 := by
  have h : (Tryz.prog.info? 5).map (fun i => (i.zero, i.size, i.bytes)) = some (some (.int .u8 0), 1, 1) := by kernel_rfl
  revert h
  cases Tryz.prog.info? 5 with
  | none => simp
  | some i => simp
set_option maxHeartbeats 1000000 in
set_option maxRecDepth 100000 in
theorem copyCheck_used (b : Nat) (w : World) (h0 : w.cell? ⟨b, 0, none⟩ = some (.pointer (some ⟨b, 0, none⟩))) :
    Calls Tryz.prog 42 #[.pointer (some ⟨b, 0, none⟩)] w fun e w' => e = .returned (.tuple #[]) ∧ w' = w := by
  obtain ⟨j, hj, _⟩ := Option.map_eq_some_iff.1 inf58
  have hu58 := Tryz.underlying57
  have hu56 := Tryz.underlying54
  go_enter Tryz.func42, Tryz.ntmps42
  go_wp2
  rw [Lib.run_neq_ptr_same w _ Tryz.underlying54 hj]
  go_wp2
  go_end0
  exact ⟨rfl, rfl⟩
set_option maxHeartbeats 1000000 in
set_option maxRecDepth 100000 in
theorem copyCheck_fresh (b : Nat) (w : World) (h0 : w.cell? ⟨b, 0, none⟩ = some (.pointer none)) (hsh : w.shape? b = some (57, 2)) (hfz : w.frozen? ⟨b, 0, none⟩ = false) :
    Calls Tryz.prog 42 #[.pointer (some ⟨b, 0, none⟩)] w fun e w' => e = .returned (.tuple #[]) ∧ w' = w.setCell ⟨b, 0, none⟩ (.pointer (some ⟨b, 0, none⟩)) := by
  obtain ⟨j, hj, hjs⟩ := Option.map_eq_some_iff.1 inf58
  have hu58 := Tryz.underlying57
  have hu56 := Tryz.underlying54
  have hu89 := Tryz.underlying105
  go_enter Tryz.func42, Tryz.ntmps42
  go_wp2
  rw [Lib.run_to_unsafe w ⟨b, 0, none⟩ Tryz.underlying54 Tryz.underlying105 hj (by rw [hjs]; decide) hsh (Nat.zero_lt_succ 1)]
  simp only [Result.andThen]
  rw [Oper.upon_value]
  go_wp2
  rw [run_callFunc_extern Tryz.func59 (by kernel_rfl) (by kernel_rfl) (by kernel_rfl) (e := Extern.AbiNoEscape.same) (by kernel_rfl)]
  rw [Lib.run_noEscape]
  simp only [Result.andThen]
  rw [Oper.upon_value]
  go_wp2
  rw [Lib.run_from_unsafe w ⟨b, 0, none⟩ Tryz.underlying105 Tryz.underlying54 hj hsh lies58]
  simp only [Result.andThen]
  rw [Oper.upon_value]
  go_wp2
  go_end0
  exact ⟨rfl, rfl⟩
theorem copyCheck_any (B b : Nat) (bs : List Value) (w : World) (h : Lib.IsBuilder 57 5 B b bs w) :
    Calls Tryz.prog 42 #[.pointer (some ⟨b, 0, none⟩)] w fun e w' => e = .returned (.tuple #[]) ∧ (Lib.BuilderAt 57 5 B b (.pointer (some ⟨b, 0, none⟩)) bs w' ∧ Below B w w' ∧ w.grownBy w' (some b)) := by
  rcases h with h | h
  · refine (copyCheck_fresh b w h.cell0 h.shape h.frozen0).mono ?_
    rintro e w' ⟨rfl, rfl⟩
    exact ⟨rfl, h.used _, (Below.refl B w).setCell (p := ⟨b, 0, none⟩) h.1 _, ⟨rfl, rfl, rfl, by simp [World.setCell], fun k _ hk => Below.heap_setCell w ⟨b, 0, none⟩ _ k (fun e => hk (by rw [e]))⟩⟩
  · refine (copyCheck_used b w h.cell0).mono ?_
    rintro e w' ⟨rfl, rfl⟩
    exact ⟨rfl, h, Below.refl B _, World.grownBy.refl _ _⟩
/-- What is neither block b nor a row of bytes is as it was. -/
def KeepT (b : Nat) (w w' : World) : Prop := ∀ k cs t, w.heap[k]? = some (.cells cs t (0, 0)) → k ≠ b → t ≠ 5 → w'.heap[k]? = some (.cells cs t (0, 0))
theorem KeepT.grown {b : Nat} {w w' : World} {row : Option Nat} (hg : w.grownBy w' row) (hr : ∀ k cs t, row = some k → w.heap[k]? = some (.cells cs t (0, 0)) → k ≠ b → t ≠ 5 → False) : KeepT b w w' := fun k cs t hk hb ht =>
  blk_grown hk hg (fun e => hr k cs t e.symm hk hb ht)
theorem KeepT.trans {b : Nat} {w w1 w' : World} (h : KeepT b w w1) (k : KeepT b w1 w') : KeepT b w w' := fun q cs t hq hb ht => k q cs t (h q cs t hq hb ht) hb ht
set_option maxHeartbeats 2000000 in
set_option maxRecDepth 100000 in
theorem writeByte_calls (B b : Nat) (bs : List Value) (c : Int) (w : World) (h : Lib.IsBuilder 57 5 B b bs w) (hlen : bs.length + 1 ≤ 140737488355328) (hBw : B ≤ w.heap.size) :
    Calls Tryz.prog 18 #[.pointer (some ⟨b, 0, none⟩), .int .u8 c] w fun e w' => e = .returned .nilIface ∧ Lib.BuilderAt 57 5 B b (.pointer (some ⟨b, 0, none⟩)) (bs ++ [.int .u8 c]) w' ∧ Below B w w' ∧ KeepT b w w' := by
  obtain ⟨i0, hi, hz0, hz1, hz2⟩ := inf5
  have hu58 := Tryz.underlying57
  have hu56 := Tryz.underlying54
  have hu45 := Tryz.underlying55
  go_enter Tryz.func18, Tryz.ntmps18
  go_wp2_with (go_at_call 42; refine (copyCheck_any B b bs _ h).mono ?_)
  rintro e w1 ⟨rfl, h1, hb1, hg1⟩
  obtain ⟨hB, v, hbk, hown, hne⟩ := h1
  have c0 : w1.cell? ⟨b, 0, none⟩ = some (.pointer (some ⟨b, 0, none⟩)) := by rw [Lib.cell_of_heap hbk]; rfl
  have c1 : w1.cell? ⟨b, 1, none⟩ = some v := by rw [Lib.cell_of_heap hbk]; rfl
  have hlt : b < w1.heap.size := blk_lt hbk
  go_wp2_with (at_builtin; refine wpList_append_own _ rfl _ _ 55 rfl B 5 i0 (.int .u8 0) 1 1 Tryz.underlying55 hi hz0 hz1 hz2 rfl (by decide) _ _ _ rfl (hown.alloc _) ⟨w1.heap.size, 0, none⟩ 1 1 [.int .u8 c] rfl rfl ?c1 ?c2 ?c3 ?c4 ?c5 ?_)
  case c1 =>
    intro j u hj
    match j, hj with
    | 0, hj => simp at hj; subst hj; simp [Addr.add]
  case c2 => intro u hu; simp at hu; subst hu; rfl
  case c3 => unfold maxLen; omega
  case c4 => omega
  case c5 => have := hb1.size; simp; omega
  intro v' w2 hown' hgrow _
  have hb2 : w2.heap[b]? = some (.cells #[.pointer (some ⟨b, 0, none⟩), v] 57 (0, 0)) := by
    rw [hgrow.block b (by simp; omega) (fun e => hne e.symm), Lib.alloc_old w1 _ b hlt]
    exact hbk
  have d0 : w2.cell? ⟨b, 0, none⟩ = some (.pointer (some ⟨b, 0, none⟩)) := by rw [Lib.cell_of_heap hb2]; rfl
  have d1 : w2.cell? ⟨b, 1, none⟩ = some v := by rw [Lib.cell_of_heap hb2]; rfl
  have f1 : w2.frozen? ⟨b, 1, none⟩ = false := Lib.frozen_of_heap hb2 1
  obtain ⟨g, cap, rfl⟩ : ∃ g cap, v' = .slice (some ⟨g, 0, none⟩) (bs.length + 1) cap := by
    rcases hown'.2 with ⟨_, h0⟩ | ⟨g, cap, cur, hv, _⟩
    · omega
    · exact ⟨g, cap, hv⟩
  go_wp2
  go_ret
  refine ⟨rfl, ?_, ?_, ?_⟩
  · exact Lib.BuilderAt.put (T := 57) (e := 5) hB hb2 (bs' := bs ++ [.int .u8 c]) (by simpa using hown') (by decide)
  · exact ((hb1.alloc (by have := hb1.size; omega) _).grown hgrow (by have := hb1.size; simp; omega) (fun k hk => (hown.lt k hk).1)).setCell (p := ⟨b, 1, none⟩) hB _
  · refine (KeepT.grown hg1 (fun k cs t e _ hne _ => hne (by injection e with e; exact e.symm))).trans (KeepT.trans (w1 := w1.alloc (.cells #[.int .u8 c] 5)) (fun k cs t hk _ _ => blk_alloc hk _) (KeepT.trans (w1 := w2) (KeepT.grown hgrow (fun k cs t e hk _ ht => ?_)) (fun k cs t hk hb _ => (Below.heap_setCell w2 ⟨b, 1, none⟩ _ k hb).trans hk)))
    obtain ⟨cells, hc⟩ := own_typed (hown.alloc (.cells #[.int .u8 c] 5)) k e
    rw [hk] at hc
    injection hc with hc
    injection hc with _ hc _
    exact ht hc
set_option maxHeartbeats 2000000 in
set_option maxRecDepth 100000 in
theorem writeString_calls (B b : Nat) (bs : List Value) (s : ByteArray) (w : World) (h : Lib.IsBuilder 57 5 B b bs w) (hlen : bs.length + s.size ≤ 140737488355328) (hBw : B ≤ w.heap.size) :
    Calls Tryz.prog 15 #[.pointer (some ⟨b, 0, none⟩), .string s] w fun e w' => e = .returned (.tuple #[.int .i64 s.size, .nilIface]) ∧ Lib.BuilderAt 57 5 B b (.pointer (some ⟨b, 0, none⟩)) (bs ++ Lib.strCells s) w' ∧ Below B w w' ∧ KeepT b w w' := by
  obtain ⟨i0, hi, hz0, hz1, hz2⟩ := inf5
  have hu58 := Tryz.underlying57
  have hu56 := Tryz.underlying54
  have hu45 := Tryz.underlying55
  have hu9 := Tryz.underlying9
  go_enter Tryz.func15, Tryz.ntmps15
  go_wp2_with (go_at_call 42; refine (copyCheck_any B b bs _ h).mono ?_)
  rintro e w1 ⟨rfl, h1, hb1, hg1⟩
  obtain ⟨hB, v, hbk, hown, hne⟩ := h1
  have c0 : w1.cell? ⟨b, 0, none⟩ = some (.pointer (some ⟨b, 0, none⟩)) := by rw [Lib.cell_of_heap hbk]; rfl
  have c1 : w1.cell? ⟨b, 1, none⟩ = some v := by rw [Lib.cell_of_heap hbk]; rfl
  have hlt : b < w1.heap.size := blk_lt hbk
  go_wp2_with (at_builtin; refine Lib.wpList_append_own_string _ rfl _ _ 55 9 rfl B 5 i0 Tryz.underlying55 Tryz.underlying9 hi hz0 hz1 hz2 _ _ _ rfl hown s rfl ?c3 ?c4 ?c5 ?_)
  case c3 => unfold maxLen; omega
  case c4 => omega
  case c5 => have := hb1.size; omega
  intro v' w2 hown' hgrow _
  have hb2 : w2.heap[b]? = some (.cells #[.pointer (some ⟨b, 0, none⟩), v] 57 (0, 0)) := by
    rw [hgrow.block b hlt (fun e => hne e.symm)]
    exact hbk
  have d0 : w2.cell? ⟨b, 0, none⟩ = some (.pointer (some ⟨b, 0, none⟩)) := by rw [Lib.cell_of_heap hb2]; rfl
  have d1 : w2.cell? ⟨b, 1, none⟩ = some v := by rw [Lib.cell_of_heap hb2]; rfl
  have f1 : w2.frozen? ⟨b, 1, none⟩ = false := Lib.frozen_of_heap hb2 1
  obtain ⟨ao, n', cap, rfl⟩ : ∃ ao n' cap, v' = .slice ao n' cap := by
    rcases hown'.2 with ⟨hv, _⟩ | ⟨g, cap, cur, hv, _⟩
    · exact ⟨_, _, _, hv⟩
    · exact ⟨_, _, _, hv⟩
  go_wp2
  go_ret2
  refine ⟨rfl, ?_, ?_, ?_⟩
  · exact Lib.BuilderAt.put (T := 57) (e := 5) hB hb2 (bs' := bs ++ Lib.strCells s) (by simpa [Lib.strCells_length] using hown') (by decide)
  · exact (hb1.grown hgrow (by have := hb1.size; omega) (fun k hk => (hown.lt k hk).1)).setCell (p := ⟨b, 1, none⟩) hB _
  · refine (KeepT.grown hg1 (fun k cs t e _ hne _ => hne (by injection e with e; exact e.symm))).trans (KeepT.trans (w1 := w2) (KeepT.grown hgrow (fun k cs t e hk _ ht => ?_)) (fun k cs t hk hb _ => (Below.heap_setCell w2 ⟨b, 1, none⟩ _ k hb).trans hk))
    obtain ⟨cells, hc⟩ := own_typed hown k e
    rw [hk] at hc
    injection hc with hc
    injection hc with _ hc _
    exact ht hc
theorem cells5 : Tryz.prog.cellsOf 5 = 1 := by kernel_rfl
set_option maxHeartbeats 1000000 in
set_option maxRecDepth 100000 in
theorem string_calls (B b : Nat) (l : List UInt8) (w : World) (h : IsB B b l w) (h0 : l ≠ []) :
    Calls Tryz.prog 19 #[.pointer (some ⟨b, 0, none⟩)] w fun e w' => e = .returned (.string ⟨l.toArray⟩) ∧ Below B w w' := by
  obtain ⟨p, hB, v, hbk, hown, hne⟩ : ∃ p, Lib.BuilderAt 57 5 B b p (Lib.byteCells l) w := by
    rcases h with h | h
    · exact ⟨_, h⟩
    · exact ⟨_, h⟩
  have hl0 : l.length ≠ 0 := by simpa using h0
  rw [Lib.byteCells_length] at hown
  obtain ⟨g, cap, cur, rfl, hbg, hg, hnc, hcm, hcs, htake⟩ : ∃ g cap cur, v = .slice (some ⟨g, 0, none⟩) l.length cap ∧ B ≤ g ∧ w.heap[g]? = some (.cells cur 5 (0, 0)) ∧ l.length ≤ cap ∧ cap ≤ maxLen ∧ cur.size = cap * 1 ∧ cur.toList.take (l.length * 1) = Lib.byteCells l := by
    rcases hown.2 with ⟨_, hz⟩ | ⟨g, cap, cur, hv, r⟩
    · exact absurd hz hl0
    · exact ⟨g, cap, cur, hv, r⟩
  have c1 : w.drew.cell? ⟨b, 1, none⟩ = some (.slice (some ⟨g, 0, none⟩) l.length cap) := by
    have : w.drew.heap[b]? = some (.cells #[p, .slice (some ⟨g, 0, none⟩) l.length cap] 57 (0, 0)) := hbk
    rw [Lib.cell_of_heap this]; rfl
  have hSD : (Builtin.unsafeSliceData_ #[55] 92 #[.slice (some ⟨g, 0, none⟩) l.length cap]).run Tryz.prog w.drew = .ok (.pointer (some ⟨g, 0, none⟩)) w.drew :=
    Lib.run_unsafeSliceData_row _ _ _ _ _ _ (by omega)
  have hUS : (Builtin.unsafeString_ #[92, 3] 9 #[.pointer (some ⟨g, 0, none⟩), .int .i64 l.length]).run Tryz.prog w.drew = .ok (.string ⟨l.toArray⟩) (w.drew.freeze ⟨g, 0, none⟩ l.length) := by
    refine Lib.run_unsafeString_row w.drew 92 3 9 5 Tryz.underlying92 cells5 g cur.size (by have hg' : w.drew.heap[g]? = some (.cells cur 5 (0, 0)) := hg; simp [World.shape?, hg']) l h0 (by omega) (by unfold maxLen at hcm; omega) ?_
    intro j x hx
    have := hown.cells (g := g) rfl j (.int .u8 x.toNat) (by simp [Lib.byteCells, hx])
    exact this
  have hu58 := Tryz.underlying57
  have hu56 := Tryz.underlying54
  have hu45 := Tryz.underlying55
  have hu82 := Tryz.underlying92
  go_enter Tryz.func19, Tryz.ntmps19
  go_wp2
  go_region
  all_goals (go_wp2; go_ret; exact ⟨rfl, Lib.below_freeze (Below.drew (Below.refl B w)) (p := ⟨g, 0, none⟩) hbg _⟩)
set_option maxHeartbeats 1000000 in
set_option maxRecDepth 100000 in
theorem string_calls_nil (B b : Nat) (p : Value) (w : World) (hbk : w.heap[b]? = some (.cells #[p, .slice none 0 0] 57 (0, 0))) :
    Calls Tryz.prog 19 #[.pointer (some ⟨b, 0, none⟩)] w fun e w' => e = .returned (.string ⟨#[]⟩) ∧ Below B w w' := by
  have hUS : ∀ W : World, ∀ q : Option Addr, (Builtin.unsafeString_ #[92, 3] 9 #[.pointer q, .int .i64 0]).run Tryz.prog W = .ok (.string .empty) W := fun W q => Lib.run_unsafeString_none W _ _ _ q
  have c1 : w.drew.cell? ⟨b, 1, none⟩ = some (.slice none 0 0) := by
    have : w.drew.heap[b]? = some (.cells #[p, .slice none 0 0] 57 (0, 0)) := hbk
    rw [Lib.cell_of_heap this]; rfl
  have hSD : (Builtin.unsafeSliceData_ #[55] 92 #[.slice none 0 0]).run Tryz.prog w.drew = .ok (.pointer none) w.drew := rfl
  have hu58 := Tryz.underlying57
  have hu56 := Tryz.underlying54
  have hu45 := Tryz.underlying55
  have hu82 := Tryz.underlying92
  go_enter Tryz.func19, Tryz.ntmps19
  go_wp2
  go_region
  all_goals (go_wp2; go_ret; exact ⟨rfl, Below.drew (Below.refl B w)⟩)
def script_Text.T7 : Bool × List (List Nat × List Nat) := (true, [([], []), ([0], [0]), ([1], [1]), ([2], [2]), ([], []), ([4], [4]), ([5], [5]), ([6], [6]), ([3, 7], [3, 7]), ([8, 7], [8])])
def script_Text.B7 : List Nat := [0, 1, 3, 7, 0, 16, 48, 112, 255, 511]
theorem script_Text.tab7 : rtab .any (opsOf Tryz.f8 7) = script_Text.T7 := by kernel_rfl
theorem script_Text.bits7 : waitsOk script_Text.T7.2 script_Text.B7 = true := by kernel_rfl
def script_Text.T11 : Bool × List (List Nat × List Nat) := (true, [([], []), ([0], [0]), ([1], [1]), ([2], [2]), ([3], [3]), ([], []), ([5], [5]), ([6, 2], [6]), ([4, 7], [4, 7]), ([8, 7], [8])])
def script_Text.B11 : List Nat := [0, 1, 3, 7, 15, 0, 32, 103, 255, 511]
theorem script_Text.tab11 : rtab .any (opsOf Tryz.f8 11) = script_Text.T11 := by kernel_rfl
theorem script_Text.bits11 : waitsOk script_Text.T11.2 script_Text.B11 = true := by kernel_rfl
def script_Text.T14 : Bool × List (List Nat × List Nat) := (true, [([], []), ([0], [0]), ([1], [1]), ([2], [2]), ([], []), ([4], [4]), ([5], [5]), ([3, 6], [3, 6]), ([7, 6], [7])])
def script_Text.B14 : List Nat := [0, 1, 3, 7, 0, 16, 48, 127, 255]
theorem script_Text.tab14 : rtab .any (opsOf Tryz.f8 14) = script_Text.T14 := by kernel_rfl
theorem script_Text.bits14 : waitsOk script_Text.T14.2 script_Text.B14 = true := by kernel_rfl
/-- The texts that Text writes. -/
def numB (n : Int) : ByteArray := ⟨(Lib.itoa n).toArray⟩
def edgeText (x : S64) : List UInt8 := [32] ++ ((numB x.f0).data.toList ++ ([45] ++ (numB x.f1).data.toList))
def titleP (c : Int) : ByteArray := (script_title.f c).getD ⟨#[]⟩
theorem title_some (c : Int) : script_title.f c = some (titleP c) := by
  unfold titleP script_title.f
  repeat' split
  all_goals rfl
def headText (x : S36) : List UInt8 := [108, 111, 97, 100, 32] ++ (x.f1.data.toList ++ ([32] ++ (numB x.f2.f0).data.toList))
def opText (x : S36) : List UInt8 :=
  if x.f0 = 1 then headText x ++ x.f2.f1.flatMap edgeText
  else if x.f0 = 2 then [97, 115, 107, 32] ++ (x.f1.data.toList ++ ([32] ++ (titleP x.f3).data.toList))
  else if x.f0 = 3 then [115, 104, 111, 119, 32] ++ x.f1.data.toList
  else if x.f0 = 4 then [100, 114, 111, 112, 32] ++ x.f1.data.toList
  else []
def textP (l : List S36) : List UInt8 := l.flatMap fun x => opText x ++ [10]
def okInt (n : Int) : Prop := -9223372036854775808 ≤ n ∧ n ≤ 9223372036854775807
instance (n : Int) : Decidable (okInt n) := by unfold okInt; infer_instance
def okOp (x : S36) : Prop := okInt x.f2.f0 ∧ x.f2.f1.length ≤ 1000000000000 ∧ ∀ e ∈ x.f2.f1, okInt e.f0 ∧ okInt e.f1
instance (x : S36) : Decidable (okOp x) := by unfold okOp; infer_instance
def script_Text.f (l0 : List S36) : Option ByteArray := if (l0.length ≤ 1000000000000 ∧ (textP l0).length ≤ 1000000000000) ∧ ∀ x ∈ l0, okOp x then some ⟨(textP l0).toArray⟩ else none
theorem byteCells_strCells (acc : List UInt8) (s : ByteArray) : Lib.byteCells acc ++ Lib.strCells s = Lib.byteCells (acc ++ s.data.toList) := by
  simp [Lib.byteCells, Lib.strCells]
theorem byteCells_snoc (acc : List UInt8) : Lib.byteCells acc ++ [.int .u8 10] = Lib.byteCells (acc ++ [10]) := by
  simp [Lib.byteCells]
theorem flat_le {α : Type} (f : α → List UInt8) (l : List α) (j : Nat) (h : j < l.length) : ((l.take j).flatMap f).length + (f l[j]).length ≤ (l.flatMap f).length := by
  conv => rhs; rw [← List.take_append_drop j l, List.flatMap_append, List.length_append, List.drop_eq_getElem_cons h, List.flatMap_cons, List.length_append]
  omega
theorem flat_step {α : Type} (f : α → List UInt8) (l : List α) (j : Nat) (h : j < l.length) : (l.take (j + 1)).flatMap f = (l.take j).flatMap f ++ f l[j] := by
  rw [List.take_succ_eq_append_getElem h, List.flatMap_append]; simp
theorem szmk (a : Array UInt8) : (⟨a⟩ : ByteArray).size = a.size := rfl
/-- The world of Text: what it has written so far. -/
structure TEnv (w : World) (acc : List UInt8) (W : World) : Prop where
  hb : Below w.heap.size w W
  lt : w.heap.size < W.heap.size
  isb : IsB w.heap.size w.heap.size acc W
theorem isb_below {B b : Nat} {bs : List Value} {W W' : World} (h : Lib.IsBuilder 57 5 B b bs W) (hb : Below W.heap.size W W') : Lib.IsBuilder 57 5 B b bs W' := by
  have key : ∀ p, Lib.BuilderAt 57 5 B b p bs W → Lib.BuilderAt 57 5 B b p bs W' := by
    rintro p ⟨hB, v, hbk, hown, hne⟩
    exact ⟨hB, v, (hb.block b (blk_lt hbk)).trans hbk, own_move hown (fun k hk => hb.block k (hown.lt k hk).2), hne⟩
  rcases h with h | h
  · exact .inl (key _ h)
  · exact .inr (key _ h)
section
variable {w W : World} {acc : List UInt8}
theorem TEnv.below {W' : World} (h : TEnv w acc W) (hb : Below W.heap.size W W') : TEnv w acc W' := ⟨h.hb.trans (hb.mono (Nat.le_of_lt h.lt)), Nat.lt_of_lt_of_le h.lt hb.size, isb_below h.isb hb⟩
theorem TEnv.alloc (h : TEnv w acc W) (o : Obj) : TEnv w acc (W.alloc o) := h.below (below_alloc (Below.refl _ _) o)
theorem TEnv.drewN (h : TEnv w acc W) (n : Nat) : TEnv w acc (W.drewN n) := h.below (pw_below_drewN (Below.refl _ _) n)
theorem TEnv.drew (h : TEnv w acc W) : TEnv w acc W.drew := h.below (below_drew1 (Below.refl _ _))
theorem TEnv.writeString (h : TEnv w acc W) (s : ByteArray) (hl : acc.length + s.size ≤ 140737488355328) :
    Calls Tryz.prog 15 #[.pointer (some ⟨w.heap.size, 0, none⟩), .string s] W fun e w' => e = .returned (.tuple #[.int .i64 s.size, .nilIface]) ∧ TEnv w (acc ++ s.data.toList) w' ∧ KeepT w.heap.size W w' := by
  refine (writeString_calls w.heap.size w.heap.size (Lib.byteCells acc) s W h.isb (by rw [Lib.byteCells_length]; exact hl) (Nat.le_of_lt h.lt)).mono ?_
  rintro e w' ⟨rfl, hB, hb, hk⟩
  refine ⟨rfl, ⟨h.hb.trans hb, Nat.lt_of_lt_of_le h.lt hb.size, .inr ?_⟩, hk⟩
  rw [byteCells_strCells] at hB
  exact hB
theorem TEnv.writeByte (h : TEnv w acc W) (hl : acc.length + 1 ≤ 140737488355328) :
    Calls Tryz.prog 18 #[.pointer (some ⟨w.heap.size, 0, none⟩), .int .u8 10] W fun e w' => e = .returned .nilIface ∧ TEnv w (acc ++ [10]) w' ∧ KeepT w.heap.size W w' := by
  refine (writeByte_calls w.heap.size w.heap.size (Lib.byteCells acc) 10 W h.isb (by rw [Lib.byteCells_length]; exact hl) (Nat.le_of_lt h.lt)).mono ?_
  rintro e w' ⟨rfl, hB, hb, hk⟩
  refine ⟨rfl, ⟨h.hb.trans hb, Nat.lt_of_lt_of_le h.lt hb.size, .inr ?_⟩, hk⟩
  rw [byteCells_snoc] at hB
  exact hB
theorem itoa_below (n : Int) (hn : okInt n) (W : World) (hGW : GW W) :
    Calls Tryz.prog 16 #[.int .i64 n] W fun e w' => e = .returned (.string (numB n)) ∧ Below W.heap.size W w' := by
  refine (Tryz.strconv_Itoa n hn.1 hn.2 W hGW.pow).mono ?_
  rintro e w' ⟨rfl, k, os, rfl⟩
  exact ⟨rfl, Lib.below_grow _ _ (Nat.le_refl _) k os⟩
theorem abs5 {code : Code} {Q : Exit → Act → World → Prop} {a : Act} {W : World} (p1 p2 p3 : World → Prop) (h1 : p1 W) (h2 : p2 W) (h3 : p3 W) (k : ∀ W9, p1 W9 → p2 W9 → p3 W9 → Code.wp Tryz.prog code Q a W9) : Code.wp Tryz.prog code Q a W := k W h1 h2 h3
theorem abs4 {code : Code} {Q : Exit → Act → World → Prop} {a : Act} {W : World} (p1 p2 : World → Prop) (h1 : p1 W) (h2 : p2 W) (k : ∀ W9, p1 W9 → p2 W9 → Code.wp Tryz.prog code Q a W9) : Code.wp Tryz.prog code Q a W := k W h1 h2
end
set_option maxHeartbeats 4000000 in
set_option maxRecDepth 100000 in
theorem script_Text.calls (A0 : Option Addr) (c0 : Nat) (l0 : List S36) (r : ByteArray) (w : World) (hGW : GW w) (hr0 : Kd.C k36 w A0 l0.length l0) (hc0 : l0.length ≤ c0) (h : script_Text.f l0 = some r) :
    Calls Tryz.prog 8 #[.slice A0 l0.length c0] w fun e w' => e = .returned (.string r) ∧ Below w.heap.size w w' := by
  have hu34 := Tryz.underlying36
  have hu31 := Tryz.underlying34
  have hu39 := Tryz.underlying64
  unfold script_Text.f at h
  by_cases hcond : (l0.length ≤ 1000000000000 ∧ (textP l0).length ≤ 1000000000000) ∧ ∀ x ∈ l0, okOp x
  case neg => rw [if_neg hcond] at h; cases h
  rw [if_pos hcond] at h
  obtain rfl := Option.some.inj h
  have HCD := Aside0.mk hcond
  have HGW := Aside0.mk hGW
  have HC := Aside0.mk hr0
  clear hcond hGW hr0 h
  go_enter Tryz.func8, Tryz.ntmps8
  go_wp2
  have HT0 : Aside0 (TEnv w [] (w.alloc (.cells #[.pointer none, .slice none 0 0] 57))) := ⟨⟨below_alloc (Below.refl _ _) _, blk_lt (blk_new _ _), .inl ⟨Nat.le_refl _, _, blk_new _ _, ⟨rfl, .inl ⟨rfl, rfl⟩⟩, by simp [Value.ownBlock]⟩⟩⟩
  go_loopg [10, 5, 7] l0.length (fun gb v10 v5 v7 wr => ∃ (i : Nat) (acc : List UInt8), v10 = .int .i64 (i : Int) ∧ Aside0 (acc = textP (l0.take i)) ∧ Aside0 (i ≤ l0.length) ∧ Aside0 (l0.length ≤ i + gb) ∧ Aside0 (TEnv w acc wr) ∧ Aside0 (i = 0 → wr.heap[w.heap.size]? = some (.cells #[.pointer none, .slice none 0 0] 57 (0, 0))))
  case atStart => exact ⟨0, [], rfl, ⟨by simp [textP]⟩, ⟨Nat.zero_le _⟩, ⟨by omega⟩, HT0, ⟨fun _ => blk_new _ _⟩⟩
  case round =>
    clear HT0
    obtain ⟨i, acc, rfl, HACC, HI, HQ, HT, HZ⟩ := hrel
    have hlim := HCD.out.1.1
    by_cases hi : i < l0.length
    · cases gk with
      | zero => exact absurd HQ.out (by omega)
      | succ gb =>
      obtain ⟨ad, A3, c3, hA, hx0, hx1, hx2, hx3, hx4, hx5, hx6, hc3, hC3⟩ := at_T36 HC.out (i : Int) (by omega) (by omega)
      subst hA
      rw [Int.toNat_natCast] at hx0 hx1 hx2 hx3 hx4 hx5 hx6
      replace hx0 := (HT.out.hb.cell (World.block_lt_of_cell? w _ hx0)).trans hx0
      replace hx1 := (HT.out.hb.cell (World.block_lt_of_cell? w _ hx1)).trans hx1
      replace hx2 := (HT.out.hb.cell (World.block_lt_of_cell? w _ hx2)).trans hx2
      replace hx3 := (HT.out.hb.cell (World.block_lt_of_cell? w _ hx3)).trans hx3
      replace hx4 := (HT.out.hb.cell (World.block_lt_of_cell? w _ hx4)).trans hx4
      replace hx5 := (HT.out.hb.cell (World.block_lt_of_cell? w _ hx5)).trans hx5
      replace hx6 := (HT.out.hb.cell (World.block_lt_of_cell? w _ hx6)).trans hx6
      have hXm : rd_T36 l0 (i : Int) ∈ l0 := by
        unfold rd_T36
        rw [Int.toNat_natCast, List.getD_eq_getElem?_getD, List.getElem?_eq_getElem hi]
        exact List.getElem_mem _
      have HOK := Aside0.mk (HCD.out.2 _ hXm)
      have htk : textP (l0.take (i + 1)) = acc ++ (opText (rd_T36 l0 (i : Int)) ++ [10]) := by
        rw [HACC.out, List.take_succ_eq_append_getElem hi]
        unfold textP
        rw [List.flatMap_append]
        unfold rd_T36
        rw [Int.toNat_natCast, List.getD_eq_getElem?_getD, List.getElem?_eq_getElem hi]
        simp
      have HLEN : Aside0 (acc.length + (opText (rd_T36 l0 (i : Int)) ++ [10]).length ≤ 1000000000000) := ⟨by
        rw [← List.length_append, ← htk]
        refine Nat.le_trans ?_ HCD.out.1.2
        unfold textP
        conv => rhs; rw [← List.take_append_drop (i + 1) l0, List.flatMap_append, List.length_append]
        exact Nat.le_add_right _ _⟩
      have HTK := Aside0.mk htk
      have HC3 := Aside0.mk hC3
      have hw2 : IntKind.i64.wrap ((i : Int) + 1) = ((i + 1 : Nat) : Int) := by rw [wrap_small _ (by omega) (by omega)]; rfl
      clear htk hXm hC3
      generalize rd_T36 l0 (i : Int) = x at hx0 hx1 hx2 hx3 hx4 hx5 hx6 hc3 HC3 HOK HLEN HTK
      go_upto_region 5 with (fail)
      refine abs4 (fun W => TEnv w acc W) (fun W => W.heap[wr.heap.size]? = some (.cells #[.int .i64 x.f0, .string x.f1, .int .i64 x.f2.f0, .slice A3 x.f2.f1.length c3, .int .i64 x.f3, .int .i64 x.f4, .int .i64 x.f5] 36 (0, 0))) (HT.out.alloc _) (blk_new _ _) ?_
      intro W9 hT9 hb9
      have HNE := Aside0.mk (show ¬ wr.heap.size = w.heap.size by have := HT.out.lt; omega)
      replace HT := Aside0.mk hT9
      have HBK := Aside0.mk hb9
      clear hT9 hb9 hx0 hx1 hx2 hx3 hx4 hx5 hx6
      generalize wr.heap.size = b5 at HBK HNE ⊢
      have o0 := (blk_cell HBK.out 0).trans rfl
      by_cases k1 : x.f0 = 1
      · have hop : opText x = headText x ++ x.f2.f1.flatMap edgeText := by unfold opText; simp [k1]
        replace HTK : Aside0 (textP (l0.take (i + 1)) = acc ++ (headText x ++ x.f2.f1.flatMap edgeText ++ [10])) := ⟨hop ▸ HTK.out⟩
        have hln0 : acc.length + (headText x ++ x.f2.f1.flatMap edgeText ++ [10]).length ≤ 1000000000000 := hop ▸ HLEN.out
        have HLE0 := Aside0.mk hln0
        replace HLEN : Aside0 (acc.length + ([108, 111, 97, 100, 32] ++ (x.f1.data.toList ++ ([32] ++ (numB x.f2.f0).data.toList)) ++ [10]).length ≤ 1000000000000) := ⟨by have h9 := HLE0.out; unfold headText at h9; simp at h9 ⊢; omega⟩
        clear hop hln0
        have b1 : (x.f0 == 1) = true := by simpa using k1
        have hsz1 : x.f1.size ≤ 1000000000000 := by have h9 := HLEN.out; have h8 : x.f1.data.toList.length = x.f1.size := rfl; simp only [List.length_append, h8] at h9; omega
        have hsz2 : (numB x.f2.f0).size ≤ 1000000000000 := by have h9 := HLEN.out; have h8 : (numB x.f2.f0).data.toList.length = (numB x.f2.f0).size := rfl; simp only [List.length_append, h8] at h9; omega
        go_upto_region 7 with (fail)
        clear o0
        refine start_ (n := 10) (S := fun w' => w'.cell? ⟨b5, 1, none⟩ = some (.string x.f1) ∧ w'.cell? ⟨b5, 2, none⟩ = some (.int .i64 x.f2.f0)) (ds := []) #[false, false, false, false, false, false, false, false, false, false] (by kernel_rfl) rfl rfl ⟨(blk_cell HBK.out 1).trans rfl, (blk_cell HBK.out 2).trans rfl⟩ (fun hHeld => ?_); refine with_tabW script_Text.tab7 script_Text.bits7 (fun HT_ HW_ => ?_)
        replace HT := Aside0.mk HT.out.drew
        replace HBK := Aside0.mk (blk_drew HBK.out)
        generalize W9.drew = W8 at HT HBK hHeld ⊢
        refine pure_ (i := 0) (N := some 18) (v := ?_) (a' := ?_) #[true, false, false, false, false, false, false, false, false, false] rfl rfl (any_of HT_.out (by kernel_rfl)) (fun _ _ _ h => h) (Or.inl ⟨by rfl, ?_⟩) ?_ ?_
        rotate_left
        · intro w'
          go_simp
          first | with_reducible rfl | (rw [if_neg (by first | omega | (simp; omega))]; done) | (rw [if_neg (by first | omega | (simp; omega))]; with_reducible rfl)
        rotate_left
        · simp only [Act.put, List.setIfInBounds_toArray, List.set_cons_zero, List.set_cons_succ, i64_w, i32_w]
          rfl
        refine pure_ (i := 4) (N := some 22) (v := ?_) (a' := ?_) #[true, false, false, false, true, false, false, false, false, false] rfl rfl (any_of HT_.out (by kernel_rfl)) (fun _ _ _ h => h) (Or.inl ⟨by rfl, ?_⟩) ?_ ?_
        rotate_left
        · intro w'
          go_simp
          first | with_reducible rfl | (rw [if_neg (by first | omega | (simp; omega))]; done) | (rw [if_neg (by first | omega | (simp; omega))]; with_reducible rfl)
        rotate_left
        · simp only [Act.put, List.setIfInBounds_toArray, List.set_cons_zero, List.set_cons_succ, i64_w, i32_w]
          rfl
        refine pure_ (i := 5) (N := some 23) (v := ?_) (a' := ?_) #[true, false, false, false, true, true, false, false, false, false] rfl rfl (any_of HT_.out (by kernel_rfl)) (fun _ _ _ h => h) (Or.inl ⟨by rfl, ?_⟩) ?_ ?_
        rotate_left
        · intro w'
          go_simp
          first | with_reducible rfl | (rw [if_neg (by first | omega | (simp; omega))]; done) | (rw [if_neg (by first | omega | (simp; omega))]; with_reducible rfl)
        rotate_left
        · simp only [Act.put, List.setIfInBounds_toArray, List.set_cons_zero, List.set_cons_succ, i64_w, i32_w]
          rfl
        refine take_ (i := 1) (N := some 19) (v := ?_) (a' := ?_) #[true, true, false, false, true, true, false, false, false, false] rfl rfl (take_ofW HT_.out HW_.out (by kernel_rfl)) (fun _ _ _ h => h) (Or.inl ⟨by rfl, ?_⟩) hHeld ?_ ?_
        rotate_left
        · rintro w' ⟨s0, s1⟩
          go_simp
          with_reducible rfl
        rotate_left
        · simp only [Act.put, List.setIfInBounds_toArray, List.set_cons_zero, List.set_cons_succ, i64_w, i32_w]
          rfl
        refine take_ (i := 6) (N := some 24) (v := ?_) (a' := ?_) #[true, true, false, false, true, true, true, false, false, false] rfl rfl (take_ofW HT_.out HW_.out (by kernel_rfl)) (fun _ _ _ h => h) (Or.inl ⟨by rfl, ?_⟩) hHeld ?_ ?_
        rotate_left
        · rintro w' ⟨s0, s1⟩
          go_simp
          with_reducible rfl
        rotate_left
        · simp only [Act.put, List.setIfInBounds_toArray, List.set_cons_zero, List.set_cons_succ, i64_w, i32_w]
          rfl
        refine pure_ (i := 2) (N := some 20) (v := ?_) (a' := ?_) #[true, true, true, false, true, true, true, false, false, false] rfl rfl (any_of HT_.out (by kernel_rfl)) (fun _ _ _ h => h) (Or.inl ⟨by rfl, ?_⟩) ?_ ?_
        rotate_left
        · intro w'
          go_simp
          first | with_reducible rfl | (rw [if_neg (by first | omega | (simp; omega))]; done) | (rw [if_neg (by first | omega | (simp; omega))]; with_reducible rfl)
        rotate_left
        · simp only [Act.put, List.setIfInBounds_toArray, List.set_cons_zero, List.set_cons_succ, i64_w, i32_w]
          rfl
        refine pure_ (i := 3) (N := some 21) (v := ?_) (a' := ?_) #[true, true, true, true, true, true, true, false, false, false] rfl rfl (any_of HT_.out (by kernel_rfl)) (fun _ _ _ h => h) (Or.inl ⟨by rfl, ?_⟩) ?_ ?_
        rotate_left
        · intro w'
          go_simp
          first | with_reducible rfl | (rw [if_neg (by first | omega | (simp; omega))]; done) | (rw [if_neg (by first | omega | (simp; omega))]; with_reducible rfl)
        rotate_left
        · simp only [Act.put, List.setIfInBounds_toArray, List.set_cons_zero, List.set_cons_succ, i64_w, i32_w]
          rfl
        refine one_ (i := 7) (N := some 25) #[true, true, true, true, true, true, true, true, false, false] rfl rfl (one_of HT_.out (by kernel_rfl)) (by decide) (fun K hK => ?_)
        refine goes_ Tryz.func16 (by kernel_rfl) rfl #[.int .i64 x.f2.f0] (by rfl) rfl rfl (by (try simp only [List.map_toArray, List.map_cons, List.map_nil]); first | done | rfl | (simp only [List.length_drop, List.length_take]; rfl)) ?_
        refine (itoa_below x.f2.f0 HOK.out.1 _ (GW.of_below HGW.out HT.out.hb)).mono ?_
        rintro e w4 ⟨rfl, hb4⟩
        replace HT := Aside0.mk (HT.out.below hb4)
        replace HBK := Aside0.mk (blk_below HBK.out hb4)
        clear hb4
        refine ⟨_, rfl, ?_⟩
        refine hK.out _ _ ⟨(blk_cell HBK.out 1).trans rfl, (blk_cell HBK.out 2).trans rfl⟩ (fun hHeld => ?_)
        clear hK K
        refine norm_ (a' := ?_) ?_ ?_
        rotate_left
        · show Act.put _ (some 25) _ = _
          simp only [Act.put, List.setIfInBounds_toArray, List.set_cons_zero, List.set_cons_succ, i64_w, i32_w]
          rfl
        refine pure_ (i := 8) (N := some 26) (v := ?_) (a' := ?_) #[true, true, true, true, true, true, true, true, true, false] rfl rfl (any_of HT_.out (by kernel_rfl)) (fun _ _ _ h => h) (Or.inl ⟨by rfl, ?_⟩) ?_ ?_
        rotate_left
        · intro w'
          go_simp
          first | with_reducible rfl | (rw [if_neg (by first | omega | (simp; omega))]; done) | (rw [if_neg (by first | omega | (simp; omega))]; with_reducible rfl)
        rotate_left
        · simp only [Act.put, List.setIfInBounds_toArray, List.set_cons_zero, List.set_cons_succ, i64_w, i32_w]
          rfl
        refine one_ (i := 9) (N := some 27) #[true, true, true, true, true, true, true, true, true, true] rfl rfl (one_of HT_.out (by kernel_rfl)) (by decide) (fun K hK => ?_)
        refine goes_ Tryz.func15 (by kernel_rfl) rfl #[.pointer (some ⟨w.heap.size, 0, none⟩), .string ((((⟨#[108, 111, 97, 100, 32]⟩ : ByteArray) ++ x.f1) ++ ⟨#[32]⟩) ++ numB x.f2.f0)] (by rfl) rfl rfl (by (try simp only [List.map_toArray, List.map_cons, List.map_nil]); first | done | rfl | (simp only [List.length_drop, List.length_take]; rfl)) ?_
        refine (HT.out.writeString _ (by have h9 := HLEN.out; simp at h9 ⊢; (try simp only [szmk]); (try simp); omega)).mono ?_
        rintro e w4 ⟨rfl, hT4, hK4⟩
        replace HT := Aside0.mk hT4
        replace HBK := Aside0.mk (hK4 _ _ _ HBK.out HNE.out (by decide))
        clear hT4 hK4
        refine ⟨_, rfl, ?_⟩
        refine hK.out _ _ ⟨(blk_cell HBK.out 1).trans rfl, (blk_cell HBK.out 2).trans rfl⟩ (fun hHeld => ?_)
        clear hK K
        refine norm_ (a' := ?_) ?_ ?_
        rotate_left
        · show Act.put _ (some 27) _ = _
          simp only [Act.put, List.setIfInBounds_toArray, List.set_cons_zero, List.set_cons_succ, i64_w, i32_w]
          rfl
        refine done_ (done_of HT_.out (by kernel_rfl)) ?_
        replace HT : Aside0 (TEnv w (acc ++ headText x) w4) := ⟨by have h9 := HT.out; simp [headText] at h9 ⊢; exact h9⟩
        have o3 := (blk_cell HBK.out 3).trans rfl
        have hes := HOK.out.2.1
        have HT9 := HT
        go_wp2
        clear o3
        go_loopg [32, 7] x.f2.f1.length (fun gj v32 v7 wj => ∃ (j : Nat), v32 = .int .i64 (j : Int) ∧ Aside0 (j ≤ x.f2.f1.length) ∧ Aside0 (x.f2.f1.length ≤ j + gj) ∧ Aside0 (TEnv w (acc ++ headText x ++ (x.f2.f1.take j).flatMap edgeText) wj))
        case atStart => exact ⟨0, rfl, ⟨Nat.zero_le _⟩, ⟨by omega⟩, ⟨by have h9 := HT9.out; simp at h9 ⊢; exact h9⟩⟩
        case round =>
          clear HT HT9
          obtain ⟨j, rfl, HJ, HQJ, HT⟩ := hrel
          by_cases hj : j < x.f2.f1.length
          · cases gk with
            | zero => exact absurd HQJ.out (by omega)
            | succ gj =>
            obtain ⟨ad3, hA, hy0, hy1⟩ := at_T64 (Kd.C_below HC3.out HT.out.hb) (j : Int) (by omega) (by omega)
            subst hA
            rw [Int.toNat_natCast] at hy0 hy1
            have hyj : rd_T64 x.f2.f1 (j : Int) = x.f2.f1[j] := by unfold rd_T64; rw [Int.toNat_natCast, List.getD_eq_getElem?_getD, List.getElem?_eq_getElem hj]; rfl
            have HOE := Aside0.mk (HOK.out.2.2 _ (List.getElem_mem hj))
            have HFS := Aside0.mk (flat_step edgeText x.f2.f1 j hj)
            have HLEJ : Aside0 ((acc ++ headText x ++ (x.f2.f1.take j).flatMap edgeText).length + (edgeText x.f2.f1[j]).length ≤ 1000000000000) := ⟨by
              have h9 := flat_le edgeText x.f2.f1 j hj
              have h8 := HLE0.out
              simp only [List.length_append] at h8 ⊢
              omega⟩
            rw [hyj] at hy0 hy1
            clear hyj
            generalize x.f2.f1[j] = y at hy0 hy1 HOE HFS HLEJ
            have hw3 : IntKind.i64.wrap ((j : Int) + 1) = ((j + 1 : Nat) : Int) := by rw [wrap_small _ (by omega) (by omega)]; rfl
            have hsy1 : (numB y.f0).size ≤ 1000000000000 := by have h9 := HLEJ.out; have h8 : (numB y.f0).data.toList.length = (numB y.f0).size := rfl; simp only [edgeText, List.length_append, h8] at h9; omega
            have hsy2 : (numB y.f1).size ≤ 1000000000000 := by have h9 := HLEJ.out; have h8 : (numB y.f1).data.toList.length = (numB y.f1).size := rfl; simp only [edgeText, List.length_append, h8] at h9; omega
            go_upto_region 11 with (fail)
            refine abs4 (fun W => TEnv w (acc ++ headText x ++ (x.f2.f1.take j).flatMap edgeText) W) (fun W => W.heap[wr.heap.size]? = some (.cells #[.int .i64 y.f0, .int .i64 y.f1] 64 (0, 0))) (HT.out.alloc _) (blk_new _ _) ?_
            intro W7 hT9 hb9
            have HNE7 := Aside0.mk (show ¬ wr.heap.size = w.heap.size by have := HT.out.lt; omega)
            replace HT := Aside0.mk hT9
            have HBK7 := Aside0.mk hb9
            clear hT9 hb9 hy0 hy1
            generalize wr.heap.size = b7 at HBK7 HNE7 ⊢
            refine start_ (n := 10) (S := fun w' => w'.cell? ⟨b7, 0, none⟩ = some (.int .i64 y.f0) ∧ w'.cell? ⟨b7, 1, none⟩ = some (.int .i64 y.f1)) (ds := []) #[false, false, false, false, false, false, false, false, false, false] (by kernel_rfl) rfl rfl ⟨(blk_cell HBK7.out 0).trans rfl, (blk_cell HBK7.out 1).trans rfl⟩ (fun hHeld => ?_); refine with_tabW script_Text.tab11 script_Text.bits11 (fun HT_ HW_ => ?_)
            replace HT := Aside0.mk HT.out.drew
            replace HBK7 := Aside0.mk (blk_drew HBK7.out)
            generalize W7.drew = W8 at HT HBK7 hHeld ⊢
            refine pure_ (i := 0) (N := some 36) (v := ?_) (a' := ?_) #[true, false, false, false, false, false, false, false, false, false] rfl rfl (any_of HT_.out (by kernel_rfl)) (fun _ _ _ h => h) (Or.inl ⟨by rfl, ?_⟩) ?_ ?_
            rotate_left
            · intro w'
              go_simp
              first | with_reducible rfl | (rw [if_neg (by first | omega | (simp; omega))]; done) | (rw [if_neg (by first | omega | (simp; omega))]; with_reducible rfl)
            rotate_left
            · simp only [Act.put, List.setIfInBounds_toArray, List.set_cons_zero, List.set_cons_succ, i64_w, i32_w]
              rfl
            refine pure_ (i := 5) (N := some 41) (v := ?_) (a' := ?_) #[true, false, false, false, false, true, false, false, false, false] rfl rfl (any_of HT_.out (by kernel_rfl)) (fun _ _ _ h => h) (Or.inl ⟨by rfl, ?_⟩) ?_ ?_
            rotate_left
            · intro w'
              go_simp
              first | with_reducible rfl | (rw [if_neg (by first | omega | (simp; omega))]; done) | (rw [if_neg (by first | omega | (simp; omega))]; with_reducible rfl)
            rotate_left
            · simp only [Act.put, List.setIfInBounds_toArray, List.set_cons_zero, List.set_cons_succ, i64_w, i32_w]
              rfl
            refine take_ (i := 1) (N := some 37) (v := ?_) (a' := ?_) #[true, true, false, false, false, true, false, false, false, false] rfl rfl (take_ofW HT_.out HW_.out (by kernel_rfl)) (fun _ _ _ h => h) (Or.inl ⟨by rfl, ?_⟩) hHeld ?_ ?_
            rotate_left
            · rintro w' ⟨s0, s1⟩
              go_simp
              with_reducible rfl
            rotate_left
            · simp only [Act.put, List.setIfInBounds_toArray, List.set_cons_zero, List.set_cons_succ, i64_w, i32_w]
              rfl
            refine take_ (i := 6) (N := some 42) (v := ?_) (a' := ?_) #[true, true, false, false, false, true, true, false, false, false] rfl rfl (take_ofW HT_.out HW_.out (by kernel_rfl)) (fun _ _ _ h => h) (Or.inl ⟨by rfl, ?_⟩) hHeld ?_ ?_
            rotate_left
            · rintro w' ⟨s0, s1⟩
              go_simp
              with_reducible rfl
            rotate_left
            · simp only [Act.put, List.setIfInBounds_toArray, List.set_cons_zero, List.set_cons_succ, i64_w, i32_w]
              rfl
            refine one_ (i := 2) (N := some 38) #[true, true, true, false, false, true, true, false, false, false] rfl rfl (one_of HT_.out (by kernel_rfl)) (by decide) (fun K hK => ?_)
            refine goes_ Tryz.func16 (by kernel_rfl) rfl #[.int .i64 y.f0] (by rfl) rfl rfl (by (try simp only [List.map_toArray, List.map_cons, List.map_nil]); first | done | rfl | (simp only [List.length_drop, List.length_take]; rfl)) ?_
            refine (itoa_below y.f0 HOE.out.1 _ (GW.of_below HGW.out HT.out.hb)).mono ?_
            rintro e w4 ⟨rfl, hb4⟩
            replace HT := Aside0.mk (HT.out.below hb4)
            replace HBK7 := Aside0.mk (blk_below HBK7.out hb4)
            clear hb4
            refine ⟨_, rfl, ?_⟩
            refine hK.out _ _ ⟨(blk_cell HBK7.out 0).trans rfl, (blk_cell HBK7.out 1).trans rfl⟩ (fun hHeld => ?_)
            clear hK K
            refine norm_ (a' := ?_) ?_ ?_
            rotate_left
            · show Act.put _ (some 38) _ = _
              simp only [Act.put, List.setIfInBounds_toArray, List.set_cons_zero, List.set_cons_succ, i64_w, i32_w]
              rfl
            refine pure_ (i := 3) (N := some 39) (v := ?_) (a' := ?_) #[true, true, true, true, false, true, true, false, false, false] rfl rfl (any_of HT_.out (by kernel_rfl)) (fun _ _ _ h => h) (Or.inl ⟨by rfl, ?_⟩) ?_ ?_
            rotate_left
            · intro w'
              go_simp
              first | with_reducible rfl | (rw [if_neg (by first | omega | (simp; omega))]; done) | (rw [if_neg (by first | omega | (simp; omega))]; with_reducible rfl)
            rotate_left
            · simp only [Act.put, List.setIfInBounds_toArray, List.set_cons_zero, List.set_cons_succ, i64_w, i32_w]
              rfl
            refine pure_ (i := 4) (N := some 40) (v := ?_) (a' := ?_) #[true, true, true, true, true, true, true, false, false, false] rfl rfl (any_of HT_.out (by kernel_rfl)) (fun _ _ _ h => h) (Or.inl ⟨by rfl, ?_⟩) ?_ ?_
            rotate_left
            · intro w'
              go_simp
              first | with_reducible rfl | (rw [if_neg (by first | omega | (simp; omega))]; done) | (rw [if_neg (by first | omega | (simp; omega))]; with_reducible rfl)
            rotate_left
            · simp only [Act.put, List.setIfInBounds_toArray, List.set_cons_zero, List.set_cons_succ, i64_w, i32_w]
              rfl
            refine one_ (i := 7) (N := some 43) #[true, true, true, true, true, true, true, true, false, false] rfl rfl (one_of HT_.out (by kernel_rfl)) (by decide) (fun K hK => ?_)
            refine goes_ Tryz.func16 (by kernel_rfl) rfl #[.int .i64 y.f1] (by rfl) rfl rfl (by (try simp only [List.map_toArray, List.map_cons, List.map_nil]); first | done | rfl | (simp only [List.length_drop, List.length_take]; rfl)) ?_
            refine (itoa_below y.f1 HOE.out.2 _ (GW.of_below HGW.out HT.out.hb)).mono ?_
            rintro e w4 ⟨rfl, hb4⟩
            replace HT := Aside0.mk (HT.out.below hb4)
            replace HBK7 := Aside0.mk (blk_below HBK7.out hb4)
            clear hb4
            refine ⟨_, rfl, ?_⟩
            refine hK.out _ _ ⟨(blk_cell HBK7.out 0).trans rfl, (blk_cell HBK7.out 1).trans rfl⟩ (fun hHeld => ?_)
            clear hK K
            refine norm_ (a' := ?_) ?_ ?_
            rotate_left
            · show Act.put _ (some 43) _ = _
              simp only [Act.put, List.setIfInBounds_toArray, List.set_cons_zero, List.set_cons_succ, i64_w, i32_w]
              rfl
            refine pure_ (i := 8) (N := some 44) (v := ?_) (a' := ?_) #[true, true, true, true, true, true, true, true, true, false] rfl rfl (any_of HT_.out (by kernel_rfl)) (fun _ _ _ h => h) (Or.inl ⟨by rfl, ?_⟩) ?_ ?_
            rotate_left
            · intro w'
              go_simp
              first | with_reducible rfl | (rw [if_neg (by first | omega | (simp; omega))]; done) | (rw [if_neg (by first | omega | (simp; omega))]; with_reducible rfl)
            rotate_left
            · simp only [Act.put, List.setIfInBounds_toArray, List.set_cons_zero, List.set_cons_succ, i64_w, i32_w]
              rfl
            refine one_ (i := 9) (N := some 45) #[true, true, true, true, true, true, true, true, true, true] rfl rfl (one_of HT_.out (by kernel_rfl)) (by decide) (fun K hK => ?_)
            refine goes_ Tryz.func15 (by kernel_rfl) rfl #[.pointer (some ⟨w.heap.size, 0, none⟩), .string (((((⟨#[32]⟩ : ByteArray) ++ numB y.f0)) ++ ⟨#[45]⟩) ++ numB y.f1)] (by rfl) rfl rfl (by (try simp only [List.map_toArray, List.map_cons, List.map_nil]); first | done | rfl | (simp only [List.length_drop, List.length_take]; rfl)) ?_
            refine (HT.out.writeString _ (by have h9 := HLEJ.out; simp [edgeText] at h9 ⊢; (try simp only [szmk]); (try simp); omega)).mono ?_
            rintro e w4 ⟨rfl, hT4, hK4⟩
            replace HT := Aside0.mk hT4
            replace HBK7 := Aside0.mk (hK4 _ _ _ HBK7.out HNE7.out (by decide))
            clear hT4 hK4
            refine ⟨_, rfl, ?_⟩
            refine hK.out _ _ ⟨(blk_cell HBK7.out 0).trans rfl, (blk_cell HBK7.out 1).trans rfl⟩ (fun hHeld => ?_)
            clear hK K
            refine norm_ (a' := ?_) ?_ ?_
            rotate_left
            · show Act.put _ (some 45) _ = _
              simp only [Act.put, List.setIfInBounds_toArray, List.set_cons_zero, List.set_cons_succ, i64_w, i32_w]
              rfl
            refine done_ (done_of HT_.out (by kernel_rfl)) ?_
            go_wp2
            go_roundg gj
            case measure => omega
            case rel => exact ⟨j + 1, rfl, ⟨by omega⟩, ⟨by have := HQJ.out; omega⟩, ⟨by have h9 := HT.out; rw [HFS.out]; simp [edgeText] at h9 ⊢; exact h9⟩⟩
          · have hje : j = x.f2.f1.length := by have := HJ.out; omega
            subst hje
            replace HT : Aside0 (TEnv w (acc ++ headText x ++ x.f2.f1.flatMap edgeText) wr) := ⟨by have h9 := HT.out; rw [List.take_length] at h9; exact h9⟩
            go_wp2_with (first | (go_at_call 18; refine (HT.out.writeByte (by have h9 := HLE0.out; simp at h9 ⊢; omega)).mono ?_; rintro e w4 ⟨rfl, hT4, hK4⟩; replace HT := Aside0.mk hT4; clear hT4 hK4))
            go_roundg gb
            case measure => omega
            case rel => exact ⟨i + 1, _, rfl, ⟨by rw [HTK.out]; simp⟩, ⟨by omega⟩, ⟨by have := HQ.out; omega⟩, HT, ⟨fun h => absurd h (by omega)⟩⟩
      · by_cases k2 : x.f0 = 2
        · have hop : opText x = [97, 115, 107, 32] ++ (x.f1.data.toList ++ ([32] ++ (titleP x.f3).data.toList)) := by unfold opText; simp [k1, k2]
          replace HTK : Aside0 (textP (l0.take (i + 1)) = acc ++ ([97, 115, 107, 32] ++ (x.f1.data.toList ++ ([32] ++ (titleP x.f3).data.toList)) ++ [10])) := ⟨hop ▸ HTK.out⟩
          replace HLEN : Aside0 (acc.length + ([97, 115, 107, 32] ++ (x.f1.data.toList ++ ([32] ++ (titleP x.f3).data.toList)) ++ [10]).length ≤ 1000000000000) := ⟨hop ▸ HLEN.out⟩
          clear hop
          have b1 : (x.f0 == 1) = false := by simpa using k1
          have b2 : (x.f0 == 2) = true := by simpa using k2
          have hsz1 : x.f1.size ≤ 1000000000000 := by have h9 := HLEN.out; have h8 : x.f1.data.toList.length = x.f1.size := rfl; simp only [List.length_append, h8] at h9; omega
          have hsz2 : (titleP x.f3).size ≤ 1000000000000 := by have h9 := HLEN.out; have h8 : (titleP x.f3).data.toList.length = (titleP x.f3).size := rfl; simp only [List.length_append, h8] at h9; omega
          go_upto_region 14 with (fail)
          clear o0
          refine start_ (n := 9) (S := fun w' => w'.cell? ⟨b5, 1, none⟩ = some (.string x.f1) ∧ w'.cell? ⟨b5, 4, none⟩ = some (.int .i64 x.f3)) (ds := []) #[false, false, false, false, false, false, false, false, false] (by kernel_rfl) rfl rfl ⟨(blk_cell HBK.out 1).trans rfl, (blk_cell HBK.out 4).trans rfl⟩ (fun hHeld => ?_); refine with_tabW script_Text.tab14 script_Text.bits14 (fun HT_ HW_ => ?_)
          replace HT := Aside0.mk HT.out.drew
          replace HBK := Aside0.mk (blk_drew HBK.out)
          generalize W9.drew = W8 at HT HBK hHeld ⊢
          refine pure_ (i := 0) (N := some 49) (v := ?_) (a' := ?_) #[true, false, false, false, false, false, false, false, false] rfl rfl (any_of HT_.out (by kernel_rfl)) (fun _ _ _ h => h) (Or.inl ⟨by rfl, ?_⟩) ?_ ?_
          rotate_left
          · intro w'
            go_simp
            first | with_reducible rfl | (rw [if_neg (by first | omega | (simp; omega))]; done) | (rw [if_neg (by first | omega | (simp; omega))]; with_reducible rfl)
          rotate_left
          · simp only [Act.put, List.setIfInBounds_toArray, List.set_cons_zero, List.set_cons_succ, i64_w, i32_w]
            rfl
          refine pure_ (i := 4) (N := some 53) (v := ?_) (a' := ?_) #[true, false, false, false, true, false, false, false, false] rfl rfl (any_of HT_.out (by kernel_rfl)) (fun _ _ _ h => h) (Or.inl ⟨by rfl, ?_⟩) ?_ ?_
          rotate_left
          · intro w'
            go_simp
            first | with_reducible rfl | (rw [if_neg (by first | omega | (simp; omega))]; done) | (rw [if_neg (by first | omega | (simp; omega))]; with_reducible rfl)
          rotate_left
          · simp only [Act.put, List.setIfInBounds_toArray, List.set_cons_zero, List.set_cons_succ, i64_w, i32_w]
            rfl
          refine take_ (i := 1) (N := some 50) (v := ?_) (a' := ?_) #[true, true, false, false, true, false, false, false, false] rfl rfl (take_ofW HT_.out HW_.out (by kernel_rfl)) (fun _ _ _ h => h) (Or.inl ⟨by rfl, ?_⟩) hHeld ?_ ?_
          rotate_left
          · rintro w' ⟨s0, s1⟩
            go_simp
            with_reducible rfl
          rotate_left
          · simp only [Act.put, List.setIfInBounds_toArray, List.set_cons_zero, List.set_cons_succ, i64_w, i32_w]
            rfl
          refine take_ (i := 5) (N := some 54) (v := ?_) (a' := ?_) #[true, true, false, false, true, true, false, false, false] rfl rfl (take_ofW HT_.out HW_.out (by kernel_rfl)) (fun _ _ _ h => h) (Or.inl ⟨by rfl, ?_⟩) hHeld ?_ ?_
          rotate_left
          · rintro w' ⟨s0, s1⟩
            go_simp
            with_reducible rfl
          rotate_left
          · simp only [Act.put, List.setIfInBounds_toArray, List.set_cons_zero, List.set_cons_succ, i64_w, i32_w]
            rfl
          refine pure_ (i := 2) (N := some 51) (v := ?_) (a' := ?_) #[true, true, true, false, true, true, false, false, false] rfl rfl (any_of HT_.out (by kernel_rfl)) (fun _ _ _ h => h) (Or.inl ⟨by rfl, ?_⟩) ?_ ?_
          rotate_left
          · intro w'
            go_simp
            first | with_reducible rfl | (rw [if_neg (by first | omega | (simp; omega))]; done) | (rw [if_neg (by first | omega | (simp; omega))]; with_reducible rfl)
          rotate_left
          · simp only [Act.put, List.setIfInBounds_toArray, List.set_cons_zero, List.set_cons_succ, i64_w, i32_w]
            rfl
          refine pure_ (i := 3) (N := some 52) (v := ?_) (a' := ?_) #[true, true, true, true, true, true, false, false, false] rfl rfl (any_of HT_.out (by kernel_rfl)) (fun _ _ _ h => h) (Or.inl ⟨by rfl, ?_⟩) ?_ ?_
          rotate_left
          · intro w'
            go_simp
            first | with_reducible rfl | (rw [if_neg (by first | omega | (simp; omega))]; done) | (rw [if_neg (by first | omega | (simp; omega))]; with_reducible rfl)
          rotate_left
          · simp only [Act.put, List.setIfInBounds_toArray, List.set_cons_zero, List.set_cons_succ, i64_w, i32_w]
            rfl
          refine one_ (i := 6) (N := some 55) #[true, true, true, true, true, true, true, false, false] rfl rfl (one_of HT_.out (by kernel_rfl)) (by decide) (fun K hK => ?_)
          refine goes_ Tryz.func17 (by kernel_rfl) rfl #[.int .i64 x.f3] (by rfl) rfl rfl (by (try simp only [List.map_toArray, List.map_cons, List.map_nil]); first | done | rfl | (simp only [List.length_drop, List.length_take]; rfl)) ?_
          refine (script_title.calls _ _ _ (title_some _)).mono ?_
          rintro e w4 ⟨rfl, ⟨nd, rfl⟩⟩
          replace HT := Aside0.mk (HT.out.drewN nd)
          replace HBK := Aside0.mk (blk_drewN HBK.out nd)
          refine ⟨_, rfl, ?_⟩
          refine hK.out _ _ ⟨(blk_cell HBK.out 1).trans rfl, (blk_cell HBK.out 4).trans rfl⟩ (fun hHeld => ?_)
          clear hK K
          refine norm_ (a' := ?_) ?_ ?_
          rotate_left
          · show Act.put _ (some 55) _ = _
            simp only [Act.put, List.setIfInBounds_toArray, List.set_cons_zero, List.set_cons_succ, i64_w, i32_w]
            rfl
          refine pure_ (i := 7) (N := some 56) (v := ?_) (a' := ?_) #[true, true, true, true, true, true, true, true, false] rfl rfl (any_of HT_.out (by kernel_rfl)) (fun _ _ _ h => h) (Or.inl ⟨by rfl, ?_⟩) ?_ ?_
          rotate_left
          · intro w'
            go_simp
            first | with_reducible rfl | (rw [if_neg (by first | omega | (simp; omega))]; done) | (rw [if_neg (by first | omega | (simp; omega))]; with_reducible rfl)
          rotate_left
          · simp only [Act.put, List.setIfInBounds_toArray, List.set_cons_zero, List.set_cons_succ, i64_w, i32_w]
            rfl
          refine one_ (i := 8) (N := some 57) #[true, true, true, true, true, true, true, true, true] rfl rfl (one_of HT_.out (by kernel_rfl)) (by decide) (fun K hK => ?_)
          refine goes_ Tryz.func15 (by kernel_rfl) rfl #[.pointer (some ⟨w.heap.size, 0, none⟩), .string ((((⟨#[97, 115, 107, 32]⟩ : ByteArray) ++ x.f1) ++ ⟨#[32]⟩) ++ titleP x.f3)] (by rfl) rfl rfl (by (try simp only [List.map_toArray, List.map_cons, List.map_nil]); first | done | rfl | (simp only [List.length_drop, List.length_take]; rfl)) ?_
          refine (HT.out.writeString _ (by have h9 := HLEN.out; simp at h9 ⊢; (try simp only [szmk]); (try simp); omega)).mono ?_
          rintro e w4 ⟨rfl, hT4, hK4⟩
          replace HT := Aside0.mk hT4
          replace HBK := Aside0.mk (hK4 _ _ _ HBK.out HNE.out (by decide))
          clear hT4 hK4
          refine ⟨_, rfl, ?_⟩
          refine hK.out _ _ ⟨(blk_cell HBK.out 1).trans rfl, (blk_cell HBK.out 4).trans rfl⟩ (fun hHeld => ?_)
          clear hK K
          refine norm_ (a' := ?_) ?_ ?_
          rotate_left
          · show Act.put _ (some 57) _ = _
            simp only [Act.put, List.setIfInBounds_toArray, List.set_cons_zero, List.set_cons_succ, i64_w, i32_w]
            rfl
          refine done_ (done_of HT_.out (by kernel_rfl)) ?_
          go_wp2_with (first | (go_at_call 18; refine (HT.out.writeByte (by have h9 := HLEN.out; simp at h9 ⊢; (try simp only [szmk]); (try simp); omega)).mono ?_; rintro e w4 ⟨rfl, hT4, hK4⟩; replace HT := Aside0.mk hT4; clear hT4 hK4))
          go_roundg gb
          case measure => omega
          case rel => exact ⟨i + 1, _, rfl, ⟨by rw [HTK.out]; simp⟩, ⟨by omega⟩, ⟨by have := HQ.out; omega⟩, HT, ⟨fun h => absurd h (by omega)⟩⟩
        · by_cases k3 : x.f0 = 3
          · have hop : opText x = [115, 104, 111, 119, 32] ++ x.f1.data.toList := by unfold opText; simp [k1, k2, k3]
            replace HTK : Aside0 (textP (l0.take (i + 1)) = acc ++ ([115, 104, 111, 119, 32] ++ x.f1.data.toList ++ [10])) := ⟨hop ▸ HTK.out⟩
            replace HLEN : Aside0 (acc.length + ([115, 104, 111, 119, 32] ++ x.f1.data.toList ++ [10]).length ≤ 1000000000000) := ⟨hop ▸ HLEN.out⟩
            clear hop
            have b1 : (x.f0 == 1) = false := by simpa using k1
            have b2 : (x.f0 == 2) = false := by simpa using k2
            have b3 : (x.f0 == 3) = true := by simpa using k3
            have o1 := (blk_cell HBK.out 1).trans rfl
            have hsz1 : x.f1.size ≤ 1000000000000 := by have h9 := HLEN.out; have h8 : x.f1.data.toList.length = x.f1.size := rfl; simp only [List.length_append, h8] at h9; omega
            go_wp2_with (first | (go_at_call 15; refine (HT.out.writeString _ (by have h9 := HLEN.out; simp at h9 ⊢; (try simp only [szmk]); (try simp); omega)).mono ?_; rintro e w4 ⟨rfl, hT4, hK4⟩; replace HT := Aside0.mk hT4; clear hT4 hK4) | (go_at_call 18; refine (HT.out.writeByte (by have h9 := HLEN.out; simp at h9 ⊢; (try simp only [szmk]); (try simp); omega)).mono ?_; rintro e w4 ⟨rfl, hT4, hK4⟩; replace HT := Aside0.mk hT4; clear hT4 hK4))
            go_roundg gb
            case measure => omega
            case rel => exact ⟨i + 1, _, rfl, ⟨by rw [HTK.out]; simp⟩, ⟨by omega⟩, ⟨by have := HQ.out; omega⟩, HT, ⟨fun h => absurd h (by omega)⟩⟩
          · by_cases k4 : x.f0 = 4
            · have hop : opText x = [100, 114, 111, 112, 32] ++ x.f1.data.toList := by unfold opText; simp [k1, k2, k3, k4]
              replace HTK : Aside0 (textP (l0.take (i + 1)) = acc ++ ([100, 114, 111, 112, 32] ++ x.f1.data.toList ++ [10])) := ⟨hop ▸ HTK.out⟩
              replace HLEN : Aside0 (acc.length + ([100, 114, 111, 112, 32] ++ x.f1.data.toList ++ [10]).length ≤ 1000000000000) := ⟨hop ▸ HLEN.out⟩
              clear hop
              have b1 : (x.f0 == 1) = false := by simpa using k1
              have b2 : (x.f0 == 2) = false := by simpa using k2
              have b3 : (x.f0 == 3) = false := by simpa using k3
              have b4 : (x.f0 == 4) = true := by simpa using k4
              have o1 := (blk_cell HBK.out 1).trans rfl
              have hsz1 : x.f1.size ≤ 1000000000000 := by have h9 := HLEN.out; have h8 : x.f1.data.toList.length = x.f1.size := rfl; simp only [List.length_append, h8] at h9; omega
              go_wp2_with (first | (go_at_call 15; refine (HT.out.writeString _ (by have h9 := HLEN.out; simp at h9 ⊢; (try simp only [szmk]); (try simp); omega)).mono ?_; rintro e w4 ⟨rfl, hT4, hK4⟩; replace HT := Aside0.mk hT4; clear hT4 hK4) | (go_at_call 18; refine (HT.out.writeByte (by have h9 := HLEN.out; simp at h9 ⊢; (try simp only [szmk]); (try simp); omega)).mono ?_; rintro e w4 ⟨rfl, hT4, hK4⟩; replace HT := Aside0.mk hT4; clear hT4 hK4))
              go_roundg gb
              case measure => omega
              case rel => exact ⟨i + 1, _, rfl, ⟨by rw [HTK.out]; simp⟩, ⟨by omega⟩, ⟨by have := HQ.out; omega⟩, HT, ⟨fun h => absurd h (by omega)⟩⟩
            · have hop : opText x = [] := by unfold opText; simp [k1, k2, k3, k4]
              replace HTK : Aside0 (textP (l0.take (i + 1)) = acc ++ ([] ++ [10])) := ⟨hop ▸ HTK.out⟩
              replace HLEN : Aside0 (acc.length + (([] : List UInt8) ++ [10]).length ≤ 1000000000000) := ⟨hop ▸ HLEN.out⟩
              clear hop
              have b1 : (x.f0 == 1) = false := by simpa using k1
              have b2 : (x.f0 == 2) = false := by simpa using k2
              have b3 : (x.f0 == 3) = false := by simpa using k3
              have b4 : (x.f0 == 4) = false := by simpa using k4
              go_wp2_with (first | (go_at_call 18; refine (HT.out.writeByte (by have h9 := HLEN.out; simp at h9 ⊢; (try simp only [szmk]); (try simp); omega)).mono ?_; rintro e w4 ⟨rfl, hT4, hK4⟩; replace HT := Aside0.mk hT4; clear hT4 hK4))
              go_roundg gb
              case measure => omega
              case rel => exact ⟨i + 1, _, rfl, ⟨by rw [HTK.out]; simp⟩, ⟨by omega⟩, ⟨by have := HQ.out; omega⟩, HT, ⟨fun h => absurd h (by omega)⟩⟩
    · have hie : i = l0.length := by have := HI.out; omega
      subst hie
      have hacc := HACC.out
      rw [List.take_length] at hacc
      subst hacc
      by_cases he : textP l0 = []
      · have hl0 : l0 = [] := by
          cases l0 with
          | nil => rfl
          | cons y ys => simp [textP] at he
        have hz := HZ.out (by rw [hl0]; rfl)
        have HHB := Aside0.mk HT.out.hb
        go_wp2_with (first | (go_at_call 19; refine (string_calls_nil w.heap.size w.heap.size _ _ hz).mono ?_; rintro e w4 ⟨rfl, hb4⟩))
        go_ret
        exact ⟨by rw [he]; rfl, HHB.out.trans hb4⟩
      · have HHB := Aside0.mk HT.out.hb
        go_wp2_with (first | (go_at_call 19; refine (string_calls w.heap.size w.heap.size _ _ HT.out.isb he).mono ?_; rintro e w4 ⟨rfl, hb4⟩))
        go_ret
        exact ⟨rfl, HHB.out.trans hb4⟩

end Go.Proofs.YtmdmdbiinngneaaGreatDoor.Q

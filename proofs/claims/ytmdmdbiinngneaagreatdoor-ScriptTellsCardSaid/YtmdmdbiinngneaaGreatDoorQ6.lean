-- Laid by prx.py (ours), out of the translation's print. Not trusted: Lean checks it.
import Derived.Test.YtmdmdbiinngneaaGreatDoorQ0
import Derived.Test.YtmdmdbiinngneaaGreatDoorQ4
import Derived.Test.YtmdmdbiinngneaaGreatDoorQ5
import Derived.WalkSmall
import Derived.OneCell
import Derived.Outline
import Derived.Lib.Hide
import Derived.Lib.OthersKept
import Derived.Test.YtmdmdbiinngneaaGreatDoorShelf
import Derived.WalkMore
import Derived.RangeFuncRecord
namespace Go.Proofs.YtmdmdbiinngneaaGreatDoor.Q
open Go.RowKit Go.Proofs.YtmdmdbiinngneaaGreatDoorW.PrintWords Go.Proofs.YtmdmdbiinngneaaGreatDoorW.PrintLast Go.Proofs.YtmdmdbiinngneaaGreatDoorW.PrintMore
attribute [local go_sem] max2_int min2_int max_two min_two max_three min_three max_four min_four   -- for this text's walks alone
set_option linter.unusedVariables false
set_option linter.unusedSimpArgs false

/-! ### HAND lex_Lex: function 10 -/
/-- The kind of a rune, in plain numbers. -/
def kindOf (r : Int) : Int :=
  if r < 0 ∨ r > 1114111 ∨ (55296 ≤ r ∧ r ≤ 57343) then 0
  else if r = 32 ∨ r = 9 then 1 else if r = 10 then 2 else if 48 ≤ r ∧ r ≤ 57 then 3
  else if (65 ≤ r ∧ r ≤ 90) ∨ (97 ≤ r ∧ r ≤ 122) ∨ r = 95 ∨ 128 ≤ r then 4 else if 32 < r ∧ r < 127 then 5 else 0
theorem kind_j2 (k : Nat) (r : Int) (b : Bool) : runes_Kind.j2 (k + 1) r b = some (if b = true then 4 else if 32 < r ∧ r < 127 then 5 else 0) := by
  simp only [runes_Kind.j2]
  by_cases hb : b = true
  · simp only [hb, if_true]
  · simp only [hb, Bool.false_eq_true, if_false]
    by_cases h : r > 32
    · rw [if_pos h]
      by_cases h2 : r < 127
      · rw [if_pos h2, if_pos ⟨h, h2⟩]
      · rw [if_neg h2, if_neg (fun h3 => h2 h3.2)]
    · rw [if_neg h, if_neg (fun h3 => h h3.1)]
theorem kind_j1 (k : Nat) (r : Int) (b : Bool) : runes_Kind.j1 (k + 2) r b = some (if b = true then 3 else if (65 ≤ r ∧ r ≤ 90) ∨ (97 ≤ r ∧ r ≤ 122) ∨ r = 95 ∨ 128 ≤ r then 4 else if 32 < r ∧ r < 127 then 5 else 0) := by
  unfold runes_Kind.j1
  simp only [kind_j2]
  by_cases hb : b = true
  · simp only [hb, if_true]
  · simp only [hb, Bool.false_eq_true, if_false]
    by_cases h1 : r ≥ 65 <;> by_cases h2 : r ≤ 90 <;> by_cases h3 : r ≥ 97 <;> by_cases h4 : r ≤ 122 <;> by_cases h5 : r = 95 <;> by_cases h6 : r ≥ 128 <;>
      simp only [h1, h2, h3, h4, h5, h6, if_true, if_false, decide_true, decide_false, Bool.false_eq_true, ge_iff_le, and_true, true_and, and_false, false_and, or_true, true_or, or_false, false_or] <;> (try omega) <;> (try (first | rfl | (congr 1; split <;> first | rfl | omega)))
theorem kind_j0 (k : Nat) (r : Int) (b : Bool) : runes_Kind.j0 (k + 3) r b = some (if b = true then 1 else if r = 10 then 2 else if 48 ≤ r ∧ r ≤ 57 then 3 else if (65 ≤ r ∧ r ≤ 90) ∨ (97 ≤ r ∧ r ≤ 122) ∨ r = 95 ∨ 128 ≤ r then 4 else if 32 < r ∧ r < 127 then 5 else 0) := by
  unfold runes_Kind.j0
  simp only [kind_j1]
  by_cases hb : b = true
  · simp only [hb, if_true]
  · simp only [hb, Bool.false_eq_true, if_false]
    by_cases h0 : r = 10
    · simp only [h0, if_true]
    · simp only [h0, if_false]
      by_cases h1 : r ≥ 48 <;> by_cases h2 : r ≤ 57 <;> simp only [h1, h2, if_true, if_false, decide_true, decide_false, Bool.false_eq_true, ge_iff_le, and_true, true_and, and_false, false_and] 
theorem width_zero (k : Nat) (r : Int) : runes_Width.f (k + 1) r = some (if r < 0 ∨ r > 1114111 ∨ (55296 ≤ r ∧ r ≤ 57343) then 0 else if r < 128 then 1 else if r < 2048 then 2 else if r < 65536 then 3 else 4) := by
  unfold runes_Width.f runes_Width.j0
  simp only [decide_eq_true_eq]
  by_cases h1 : r < 0
  · simp [h1]
  · by_cases h2 : r > 1114111
    · simp [h1, h2]
    · by_cases h3 : r ≥ 55296 <;> by_cases h4 : r ≤ 57343 <;> by_cases h5 : r < 128 <;> by_cases h6 : r < 2048 <;> by_cases h7 : r < 65536 <;> simp [h1, h2, h3, h4, h5, h6, h7]
theorem kind_any (r : Int) : runes_Kind.f 8 r = some (kindOf r) := by
  unfold runes_Kind.f kindOf
  rw [width_zero]
  simp only [Option.bind_some, kind_j0]
  by_cases h0 : r < 0 ∨ r > 1114111 ∨ (55296 ≤ r ∧ r ≤ 57343)
  · simp only [h0, if_true]
  · simp only [h0, if_false]
    have hw : (if r < 128 then (1 : Int) else if r < 2048 then 2 else if r < 65536 then 3 else 4) ≠ 0 := by split <;> (try split) <;> (try split) <;> decide
    rw [if_neg hw]
    by_cases h1 : r = 32
    · simp [h1]
    · by_cases h2 : r = 9 <;> simp [h1, h2]
/-- How far the runes go on that are wanted. -/
def lexSkip (p : Int → Bool) (l : List S72) : Nat → Nat → Nat
  | 0, j => j
  | b + 1, j => if j < l.length then (if p (kindOf (rd_T72 l j).f1) = true then lexSkip p l b (j + 1) else j) else j
/-- Where the rune with that number begins; the text's end. -/
def lexAt (s : ByteArray) (l : List S72) (j : Nat) : Int := if j < l.length then (rd_T72 l j).f0 else (s.size : Int)
/-- The three captured variables, the row of runes: what holds while 'run' runs. -/
structure LexEnv (w : World) (s : ByteArray) (A : Option Addr) (c : Nat) (l : List S72) (B1 B5 B9 : Nat) (i : Nat) : Prop where
  h1 : w.heap[B1]? = some (.cells #[.string s] 9 (0, 0))
  h5 : w.heap[B5]? = some (.cells #[.slice A l.length c] 67 (0, 0))
  h9 : w.heap[B9]? = some (.cells #[.int .i64 i] 3 (0, 0))
  n1 : B1 ≠ B9
  n5 : B5 ≠ B9
  hl : ∀ W, KeepBut w W B9 none → Kd.C k72 W A l.length l
theorem LexEnv.step {w w1 : World} {s : ByteArray} {A : Option Addr} {c : Nat} {l : List S72} {B1 B5 B9 : Nat} {i j : Nat} (h : LexEnv w s A c l B1 B5 B9 i) (hk : KeepBut w w1 B9 none) (h9 : w1.heap[B9]? = some (.cells #[.int .i64 j] 3 (0, 0))) : LexEnv w1 s A c l B1 B5 B9 j :=
  ⟨hk.blk h.h1 h.n1 (by simp), hk.blk h.h5 h.n5 (by simp), h9, h.n1, h.n5, fun W k => h.hl W (hk.trans k (.inl rfl))⟩
set_option maxHeartbeats 1000000 in
set_option maxRecDepth 100000 in
theorem lex_run (g : FuncId) (hgs : g = 24 ∨ g = 25 ∨ g = 27) (p : Int → Bool) (hg : ∀ k w, Calls Tryz.prog g #[.int .i64 k] w fun e w' => e = .returned (.bool (p k)) ∧ w' = w)
    (s : ByteArray) (A : Option Addr) (c : Nat) (l : List S72) (i : Nat) (B1 B5 B9 : Nat) (w : World) (h : LexEnv w s A c l B1 B5 B9 i) (hi : i < l.length) (hs : s.size ≤ 140737488355328)
    (h0 : 0 ≤ lexAt s l i) (hm : lexAt s l i ≤ lexAt s l (lexSkip p l l.length (i + 1))) (hz : lexAt s l (lexSkip p l l.length (i + 1)) ≤ s.size) (hll : l.length ≤ 140737488355328) :
    Calls Tryz.prog 22 #[.func (.func g) #[] #[], .pointer (some ⟨B5, 0, none⟩), .pointer (some ⟨B9, 0, none⟩), .pointer (some ⟨B1, 0, none⟩)] w fun e w' =>
      e = .returned (.string (s.extract (lexAt s l i).toNat (lexAt s l (lexSkip p l l.length (i + 1))).toNat)) ∧ KeepBut w w' B9 none ∧ Below B9 w w' ∧
        w'.heap[B9]? = some (.cells #[.int .i64 (lexSkip p l l.length (i + 1))] 3 (0, 0)) := by
  have HG := Aside0.mk hg
  have HGS := Aside0.mk hgs
  clear hgs
  have HE := Aside0.mk h
  have HL := Aside0.mk (h.hl w (KeepBut.refl _ _ _))
  have c1 := cell_of_one h.h1
  have c5 := cell_of_one h.h5
  have c9 := cell_of_one h.h9
  have f9 := free_of_one h.h9
  have hmx : l.length ≤ 9223372036854775807 := by omega
  obtain ⟨ad, hA, hx0, hx1⟩ := at_T72 HL.out (i : Int) (by omega) (by omega)
  subst hA
  have HX0 : lexAt s l i = (rd_T72 l (i : Int)).f0 := by simp [lexAt, hi]
  clear h hg
  rw [Int.toNat_natCast] at hx0 hx1
  go_enter Tryz.func22, Tryz.ntmps22
  go_wp2
  go_quiet (fail)
  go_wp2
  clear c1 c5 c9 f9 hx0 hx1
  go_loopw [17] (fun v17 wr => ∃ (j b : Nat), Aside0 (lexSkip p l b j = lexSkip p l l.length (i + 1)) ∧ Aside0 (i < j ∧ j ≤ l.length) ∧ Aside0 (l.length ≤ j + b) ∧ Aside0 (KeepBut w wr B9 none) ∧ Aside0 (Below B9 w wr) ∧ Aside0 (wr.heap[B9]? = some (.cells #[.int .i64 j] 3 (0, 0)))) (fun _ wr => l.length - (match wr.cell? ⟨B9, 0, none⟩ with | some v => (intOf v).toNat | none => 0))
  case atStart =>
    exact ⟨i + 1, l.length, ⟨rfl⟩, ⟨by omega⟩, ⟨by omega⟩, ⟨(KeepBut.of_below (pw_below_drewN (Below.refl _ _) nq) B9 none).set_ 0 _⟩, ⟨(pw_below_drewN (Below.refl B9 w) nq).setCell (p := ⟨B9, 0, none⟩) (Nat.le_refl _) _⟩, ⟨one_setCell (w := w.drewN nq) HE.out.h9⟩⟩
  case round =>
    obtain ⟨j, b, HS, HJ, HJB, HK, HB, H9⟩ := hrel
    have HE1 := Aside0.mk (HE.out.step HK.out H9.out)
    have c1 := cell_of_one HE1.out.h1
    have c5 := cell_of_one HE1.out.h5
    have c9 := cell_of_one HE1.out.h9
    have f9 := free_of_one HE1.out.h9
    have hij : i < j := HJ.out.1
    by_cases hj : j < l.length
    · obtain ⟨ad', hA, hy0, hy1⟩ := at_T72 (HE1.out.hl wr (KeepBut.refl _ _ _)) (j : Int) (by omega) (by omega)
      cases hA
      rw [Int.toNat_natCast] at hy0 hy1
      cases b with
      | zero => exact absurd HJB.out (by omega)
      | succ b =>
      cases hp : p (kindOf (rd_T72 l (j : Int)).f1) with
      | true =>
        have HN := Aside0.mk (show lexSkip p l (b + 1) j = lexSkip p l b (j + 1) by simp only [lexSkip, hj, if_true, hp])
        have HP := Aside0.mk hp
        clear hp
        rcases HGS.out with rfl | rfl | rfl
        all_goals
          go_wp2_with (first | (go_at_call 23; refine (runes_Kind.calls 8 _ _ _ (kind_any _)).mono ?_; rintro e w' ⟨rfl, ⟨nd, rfl⟩⟩) | ((with_reducible refine (HG.out _ _).mono ?_); rintro e w' ⟨rfl, rfl⟩; simp only [HP.out]))
          go_roundw
          case measure =>
            have e1 := cell_of_one (one_setCell (w := wr.drewN nd) (u := .int .i64 ((j : Int) + 1)) H9.out)
            have e2 := cell_of_one H9.out
            rw [e1, e2]
            simp [intOf]
            omega
          case rel => exact ⟨j + 1, b, ⟨HN.out.symm.trans HS.out⟩, ⟨by omega⟩, ⟨by have := HJB.out; omega⟩, ⟨KeepBut.set_ (w1 := wr.drewN nd) (keep_drewN HK.out nd) 0 _⟩, ⟨(pw_below_drewN HB.out nd).setCell (p := ⟨B9, 0, none⟩) (Nat.le_refl _) _⟩, ⟨one_setCell (w := wr.drewN nd) H9.out⟩⟩
      | false =>
        have HN := Aside0.mk (show lexSkip p l (b + 1) j = j by simp only [lexSkip, hj, if_true, hp]; rfl)
        have HE2 := Aside0.mk (HN.out.symm.trans HS.out)
        have HP := Aside0.mk hp
        have HX1 : lexAt s l (lexSkip p l l.length (i + 1)) = (rd_T72 l (j : Int)).f0 := by rw [← HE2.out]; simp [lexAt, hj]
        have g1 : 0 ≤ (rd_T72 l (i : Int)).f0 := by rw [← HX0]; exact h0
        have g2 : (rd_T72 l (i : Int)).f0 ≤ (rd_T72 l (j : Int)).f0 := by rw [← HX0, ← HX1]; exact hm
        have g3 : (rd_T72 l (j : Int)).f0 ≤ s.size := by rw [← HX1]; exact hz
        have HFIN := Aside0.mk (show s.extract (lexAt s l i).toNat (lexAt s l (lexSkip p l l.length (i + 1))).toNat = s.extract (rd_T72 l (i : Int)).f0.toNat (rd_T72 l (j : Int)).f0.toNat by rw [HX0, HX1])
        clear hp HX1 h0 hm hz
        rcases HGS.out with rfl | rfl | rfl
        all_goals
          go_wp2_with (first | (go_at_call 23; refine (runes_Kind.calls 8 _ _ _ (kind_any _)).mono ?_; rintro e w' ⟨rfl, ⟨nd, rfl⟩⟩) | ((with_reducible refine (HG.out _ _).mono ?_); rintro e w' ⟨rfl, rfl⟩; simp only [HP.out]))
          go_ret
          exact ⟨by rw [HFIN.out]; first | rfl | simp, keep_drewN HK.out _, pw_below_drewN HB.out _, by rw [← HE2.out]; exact H9.out⟩
    · have HE2 := Aside0.mk (show lexSkip p l l.length (i + 1) = j by rw [← HS.out]; cases b <;> simp [lexSkip, hj])
      have HX1 : lexAt s l (lexSkip p l l.length (i + 1)) = (s.size : Int) := by rw [HE2.out]; simp [lexAt, hj]
      have g1 : 0 ≤ (rd_T72 l (i : Int)).f0 := by rw [← HX0]; exact h0
      have g2 : (rd_T72 l (i : Int)).f0 ≤ s.size := by rw [← HX0]; omega
      have HFIN := Aside0.mk (show s.extract (lexAt s l i).toNat (lexAt s l (lexSkip p l l.length (i + 1))).toNat = s.extract (rd_T72 l (i : Int)).f0.toNat s.size by rw [HX0, HX1, Int.toNat_natCast])
      clear HX1 h0 hm hz
      go_wp2
      go_ret
      exact ⟨by rw [HFIN.out]; first | rfl | simp, HK.out, HB.out, by rw [HE2.out]; exact H9.out⟩
/-- What the two library functions read of the package-level variables. -/
structure GW (w : World) : Prop where
  lt : 3 < w.heap.size
  pow : Lib.TabIs Tryz.prog w "internal/strconv.uint64pow10" .u64 Lib.pow10Tab
  err : ∃ te pe, w.cell? ⟨2, 0, none⟩ = some (.iface te pe)
theorem GW.of_below {w w' : World} (h : GW w) (hb : Below w.heap.size w w') : GW w' :=
  ⟨Nat.lt_of_lt_of_le h.lt hb.size, var?_below (g := 3) hb (by kernel_rfl) h.lt h.pow, by
    obtain ⟨te, pe, hc⟩ := h.err
    exact ⟨te, pe, (hb.cell (World.block_lt_of_cell? w _ hc)).trans hc⟩⟩
/-- A value, or out of range: no other end. -/
def isNum {α : Type} : Lib.NumEnd α → Bool
  | .ok _ => true
  | .range => true
  | _ => false
/-- strconv.Atoi, of whatever string that is a numeral: a value and no error, or an error. -/
theorem atoi_any (s : ByteArray) (w : World) (hs : s.size ≤ 140737488355328) (hGW : GW w) (hn : isNum (Lib.atoiAll s.data.toList) = true) :
    Calls Tryz.prog 26 #[.string s] w fun e w' => ∃ v ev, e = .returned (.tuple #[.int .i64 v, ev]) ∧ ((Lib.atoiAll s.data.toList = .ok v ∧ ev = .nilIface) ∨ (Lib.atoiAll s.data.toList = .range ∧ ∃ pe, ev = .iface 111 pe)) ∧ Below w.heap.size w w' := by
  cases hA : Lib.atoiAll s.data.toList with
  | ok v =>
    refine (Tryz.strconv_Atoi_ok s (by omega) v hA w).mono ?_
    rintro e w' ⟨rfl, hw⟩
    refine ⟨v, .nilIface, rfl, .inl ⟨rfl, rfl⟩, ?_⟩
    rcases hw with rfl | ⟨t, rfl⟩
    · exact Below.refl _ _
    · exact bytes_below (Below.refl _ _) (Nat.le_refl _) 5 t
  | range =>
    obtain ⟨te, pe, hc⟩ := hGW.err
    refine (Tryz.strconv_Atoi_range s (by omega) hA _ w hc (.inr ⟨te, pe, rfl⟩)).mono ?_
    rintro e w' ⟨N, rfl, _, _, hb⟩
    exact ⟨_, _, rfl, .inr ⟨rfl, _, rfl⟩, hb⟩
  | _ => rw [hA] at hn; exact absurd hn (by decide)

/-- The loop of lex.Lex: what is left to do from rune number i on, the tokens so far. -/
def lexGo (s : ByteArray) (l : List S72) : Nat → Nat → List S43 → Option (List S43 × Int × Int)
  | 0, _, _ => none
  | b + 1, i, acc =>
    if i < l.length then
      if (rd_T72 l i).f1 = 35 then lexGo s l b (lexSkip (fun k => k != 2) l l.length (i + 1)) acc
      else if kindOf (rd_T72 l i).f1 = 1 then lexGo s l b (i + 1) acc
      else if kindOf (rd_T72 l i).f1 = 2 then lexGo s l b (i + 1) (acc ++ [(⟨4, (rd_T72 l i).f0, ⟨#[]⟩, 0⟩ : S43)])
      else if kindOf (rd_T72 l i).f1 = 3 then
        match Lib.atoiAll (s.extract (lexAt s l i).toNat (lexAt s l (lexSkip (fun k => k == 3) l l.length (i + 1))).toNat).data.toList with
        | .range => if 9 < (s.extract (lexAt s l i).toNat (lexAt s l (lexSkip (fun k => k == 3) l l.length (i + 1))).toNat).size then some ([], (rd_T72 l i).f0, 4) else none
        | .ok v =>
          if 9 < (s.extract (lexAt s l i).toNat (lexAt s l (lexSkip (fun k => k == 3) l l.length (i + 1))).toNat).size then some ([], (rd_T72 l i).f0, 4)
          else lexGo s l b (lexSkip (fun k => k == 3) l l.length (i + 1)) (acc ++ [(⟨2, (rd_T72 l i).f0, s.extract (lexAt s l i).toNat (lexAt s l (lexSkip (fun k => k == 3) l l.length (i + 1))).toNat, v⟩ : S43)])
        | _ => none
      else if kindOf (rd_T72 l i).f1 = 4 then
        if 32 < (s.extract (lexAt s l i).toNat (lexAt s l (lexSkip (fun k => k == 4 || k == 3) l l.length (i + 1))).toNat).size then some ([], (rd_T72 l i).f0, 5)
        else lexGo s l b (lexSkip (fun k => k == 4 || k == 3) l l.length (i + 1)) (acc ++ [(⟨1, (rd_T72 l i).f0, s.extract (lexAt s l i).toNat (lexAt s l (lexSkip (fun k => k == 4 || k == 3) l l.length (i + 1))).toNat, 0⟩ : S43)])
      else if kindOf (rd_T72 l i).f1 = 5 then lexGo s l b (i + 1) (acc ++ [(⟨3, (rd_T72 l i).f0, s.extract (rd_T72 l i).f0.toNat ((rd_T72 l i).f0 + 1).toNat, 0⟩ : S43)])
      else some ([], (rd_T72 l i).f0, 3)
    else some (acc, 0, 0)
def lex_Lex.f (a0 : ByteArray) : Option (List S43 × Int × Int) :=
  if a0.size < 1000000000000 then (runes_Decode.f a0).bind fun r => if r.2.2 = 0 then lexGo a0 r.1 (r.1.length + 1) 0 [] else some ([], r.2.1, r.2.2) else none
/-- Where runes stand: within the text, one behind the other. -/
def PosOk (s : ByteArray) (l : List S72) : Prop := l.length ≤ s.size ∧ (∀ i : Nat, i < l.length → 0 ≤ (rd_T72 l i).f0 ∧ (rd_T72 l i).f0 < s.size) ∧ ∀ i j : Nat, i ≤ j → j < l.length → (rd_T72 l i).f0 ≤ (rd_T72 l j).f0
theorem rd_snoc (l : List S72) (x : S72) (i : Nat) : rd_T72 (l ++ [x]) i = if i < l.length then rd_T72 l i else if i = l.length then x else z72 := by
  unfold rd_T72
  simp only [Int.toNat_natCast, List.getD_eq_getElem?_getD]
  split
  · rw [List.getElem?_append_left (by assumption)]
  · rename_i h
    rw [List.getElem?_append_right (by omega)]
    split
    · rename_i h2; subst h2; simp
    · rename_i h2
      rw [List.getElem?_eq_none (by simp; omega)]
      rfl
theorem decode_pos (s : ByteArray) : ∀ (b pos : Nat) (acc : List S72), PosOk s acc → acc.length ≤ pos → (∀ i : Nat, i < acc.length → (rd_T72 acc i).f0 < pos) → PosOk s (runes_Decode.go s b pos acc).1
  | 0, _, _, h, _, _ => h
  | b + 1, pos, acc, h, hl, hp => by
    unfold runes_Decode.go
    split
    · rename_i hlt
      split
      · exact ⟨Nat.zero_le _, fun i hi => absurd hi (by simp), fun i j _ hj => absurd hj (by simp)⟩
      · have hw := width_pos s pos hlt
        refine decode_pos s b _ _ ⟨by simp; omega, fun i hi => ?_, fun i j hij hj => ?_⟩ (by simp; omega) (fun i hi => ?_)
        · rw [rd_snoc]
          split
          · exact h.2.1 i (by assumption)
          · rw [if_pos (by simp at hi; omega)]
            exact ⟨by simp, by simp; omega⟩
        · rw [rd_snoc, rd_snoc]
          simp only [List.length_append, List.length_singleton] at hj
          by_cases h2 : j < acc.length
          · rw [if_pos (by omega), if_pos h2]
            exact h.2.2 i j hij h2
          · rw [if_neg h2, if_pos (show j = acc.length by omega)]
            by_cases h1 : i < acc.length
            · rw [if_pos h1]
              have := hp i h1
              simp only
              omega
            · rw [if_neg h1, if_pos (by omega)]
              exact Int.le_refl _
        · rw [rd_snoc]
          simp only [List.length_append, List.length_singleton] at hi
          split
          · have := hp i (by assumption)
            omega
          · rw [if_pos (by omega)]
            simp only
            omega
    · exact h
theorem lexSkip_ge (p : Int → Bool) (l : List S72) : ∀ b j, j ≤ lexSkip p l b j
  | 0, j => Nat.le_refl _
  | b + 1, j => by
    unfold lexSkip
    split
    · split
      · exact Nat.le_trans (Nat.le_succ _) (lexSkip_ge p l b (j + 1))
      · exact Nat.le_refl _
    · exact Nat.le_refl _
theorem lexSkip_le (p : Int → Bool) (l : List S72) : ∀ b j, j ≤ l.length → lexSkip p l b j ≤ l.length
  | 0, j, h => h
  | b + 1, j, h => by
    unfold lexSkip
    split
    · split
      · exact lexSkip_le p l b (j + 1) (by omega)
      · exact h
    · exact h
theorem lexAt_mono {s : ByteArray} {l : List S72} (h : PosOk s l) {i j : Nat} (hi : i < l.length) (hij : i ≤ j) : 0 ≤ lexAt s l i ∧ lexAt s l i ≤ lexAt s l j ∧ lexAt s l j ≤ s.size := by
  unfold lexAt
  rw [if_pos hi]
  have h1 := h.2.1 i hi
  by_cases hj : j < l.length
  · rw [if_pos hj]
    exact ⟨h1.1, h.2.2 i j hij hj, Int.le_of_lt (h.2.1 j hj).2⟩
  · rw [if_neg hj]
    exact ⟨h1.1, Int.le_of_lt h1.2, Int.le_refl _⟩
theorem k72_heap : Kd.Heap k72 := Kd.heap_iso _ (Kd.heap_pair (Kd.heap_int .i64) (Kd.heap_int .i32))
theorem lex_not_line (k : Int) (w : World) : Calls Tryz.prog 24 #[.int .i64 k] w fun e w' => e = .returned (.bool (k != 2)) ∧ w' = w := by
  go_enter Tryz.func24, Tryz.ntmps24
  go_wp2
  go_ret
  exact ⟨by first | rfl | simp, rfl⟩
theorem lex_digit (k : Int) (w : World) : Calls Tryz.prog 25 #[.int .i64 k] w fun e w' => e = .returned (.bool (k == 3)) ∧ w' = w := by
  go_enter Tryz.func25, Tryz.ntmps25
  go_wp2
  go_ret
  exact ⟨by first | rfl | simp, rfl⟩
theorem lex_word (k : Int) (w : World) : Calls Tryz.prog 27 #[.int .i64 k] w fun e w' => e = .returned (.bool (k == 4 || k == 3)) ∧ w' = w := by
  by_cases h4 : (k == 4) = true
  · by_cases h3 : (k == 3) = true
    all_goals
      go_enter Tryz.func27, Tryz.ntmps27
      go_wp2
      go_ret
      exact ⟨by simp [h4], rfl⟩
  · have h4' : (k == 4) = false := by simpa using h4
    clear h4
    by_cases h3 : (k == 3) = true
    · go_enter Tryz.func27, Tryz.ntmps27
      go_wp2
      go_ret
      exact ⟨by simp [h4', h3], rfl⟩
    · have h3' : (k == 3) = false := by simpa using h3
      clear h3
      go_enter Tryz.func27, Tryz.ntmps27
      go_wp2
      go_ret
      exact ⟨by simp [h4', h3'], rfl⟩


theorem lexEnv_of {w w1 wr : World} {a0 : ByteArray} {A : Option Addr} {c : Nat} {l : List S72} {i : Nat} (hb1 : w1.heap[w.heap.size]? = some (.cells #[.string a0] 9 (0, 0))) (hC : Kd.C k72 w1 A l.length l)
    (HB : Below (w1.heap.size + 1) (w1.alloc (.cells #[.slice A l.length c] 67)) wr) (H9 : wr.heap[w1.heap.size + 1]? = some (.cells #[.int .i64 i] 3 (0, 0))) : LexEnv wr a0 A c l w.heap.size w1.heap.size (w1.heap.size + 1) i := by
  have hlt : w.heap.size < w1.heap.size := blk_lt hb1
  have hold : ∀ k, k < w1.heap.size → wr.heap[k]? = w1.heap[k]? := fun k hk => (HB.block k (by omega)).trans (Below.heap_alloc w1 _ k hk)
  refine ⟨(hold _ hlt).trans hb1, ?_, H9, by omega, by omega, fun W hk => k72_heap.C (w := w1) (fun k h => ?_) hC⟩
  · rw [HB.block w1.heap.size (by omega)]
    exact World.alloc_heap_new w1 _
  · have h9 := blk_lt H9
    exact (hk.2 k (by omega) (by omega) (by simp)).trans (hold k h)
theorem kd_keep9 {α : Type} {d : Kd α} {e : Nat} {wr w2 : World} {v : Value} {xs : List α} {B : Nat} (h : d.R e wr (B + 1) (fun _ => True) v xs) (hk : KeepBut wr w2 B none) : d.R e w2 (B + 1) (fun _ => True) v xs :=
  Kd.R_mono (Kd.R_keep (Kd.R_bound h) hk (fun k h1 => by omega)) (fun _ _ => trivial)
theorem kd_below9 {α : Type} {d : Kd α} {e : Nat} {wr w2 : World} {v : Value} {xs : List α} {B : Nat} (h : d.R e wr (B + 1) (fun _ => True) v xs) (hb : Below wr.heap.size wr w2) : d.R e w2 (B + 1) (fun _ => True) v xs := Kd.R_below h hb
set_option maxHeartbeats 4000000 in
set_option maxRecDepth 100000 in
theorem lex_Lex.calls (a0 : ByteArray) (r1 : List S43) (r2 r3 : Int) (w : World) (hGW : GW w) (h : lex_Lex.f a0 = some (r1, r2, r3)) :
    Calls Tryz.prog 10 #[.string a0] w fun e w' => ∃ v0_ : Value, e = .returned (.tuple #[v0_, .int .i64 r2, .int .i64 r3]) ∧ Kd.R k43 43 w' w.heap.size (fun _ => True) v0_ r1 ∧ Below w.heap.size w w' := by
  have hu53 := Tryz.underlying43
  have hu74 := Tryz.underlying72
  unfold lex_Lex.f at h
  by_cases hsz : a0.size < 1000000000000
  case neg => rw [if_neg hsz] at h; cases h
  rw [if_pos hsz] at h
  obtain ⟨⟨l, at_, er⟩, hdec, h⟩ := Option.bind_eq_some_iff.mp h
  have HDEC := Aside0.mk hdec
  have HPOS : Aside0 (PosOk a0 l ∧ a0.size < 1000000000000) := ⟨by
    unfold runes_Decode.f at hdec
    split at hdec
    · rename_i hlim
      have h2 := decode_pos a0 a0.size 0 [] ⟨Nat.zero_le _, fun i hi => absurd hi (by simp), fun i j _ hj => absurd hj (by simp)⟩ (by simp) (fun i hi => absurd hi (by simp))
      rw [Option.some.inj hdec] at h2
      exact ⟨h2, hsz⟩
    · cases hdec⟩
  clear hdec
  have HGW := Aside0.mk hGW
  clear hGW
  by_cases he : er = 0
  · subst he
    simp only [if_true] at h
    have HG := Aside0.mk h
    clear h
    go_enter Tryz.func10, Tryz.ntmps10
    go_wp2
    go_step3
    go_wp2_with (first | (go_at_call 21; refine (runes_Decode.calls a0 l at_ 0 _ HDEC.out).mono ?_; rintro e w1 ⟨v0, rfl, hR, hB⟩; obtain ⟨A, c, rfl, hcap⟩ := OwnRow.slice_ hR.2; have HR := Aside0.mk hR; have HCAP := Aside0.mk hcap; have HB1 := Aside0.mk hB; clear hR hB hcap))
    have HC := Aside0.mk ((Kd.R_reads' HR.out).2.2)
    have hlt0 : w.heap.size < w1.heap.size := by have := HB1.out.size; simp at this; omega
    have HW1 := Aside0.mk (show w1.heap[w.heap.size]? = some (.cells #[.string a0] 9 (0, 0)) from (HB1.out.block w.heap.size (by simp)).trans (World.alloc_heap_new w _))
    have HBW := Aside0.mk (show Below w.heap.size w w1 from (below_alloc (Below.refl _ _) _).trans (HB1.out.mono (by simp)))
    go_step3
    go_wp2
    go_loopg [8] (l.length + 1) (fun gb v8 wr => ∃ (i : Nat) (acc : List S43), Aside0 (lexGo a0 l gb i acc = some (r1, r2, r3)) ∧ Aside0 (i ≤ l.length) ∧ Aside0 (acc.length ≤ i) ∧ Aside0 (Below (w1.heap.size + 1) (w1.alloc (.cells #[.slice A l.length c] 67)) wr) ∧ Aside0 (wr.heap[w1.heap.size + 1]? = some (.cells #[.int .i64 i] 3 (0, 0))) ∧ Aside0 (Kd.R k43 43 wr (w1.heap.size + 1 + 1) (fun _ => True) v8 acc))
    case atStart =>
      exact ⟨0, [], ⟨HG.out⟩, ⟨Nat.zero_le _⟩, ⟨Nat.le_refl _⟩, ⟨(Below.refl _ _).alloc (by simp) _⟩, ⟨by have := World.alloc_heap_new (w1.alloc (.cells #[.slice A l.length c] 67)) (.cells #[.int .i64 0] 3); simpa using this⟩, ⟨Kd.R_nil _ _ _ _ _⟩⟩
    case round =>
      clear HG
      obtain ⟨i, acc, HG, HI, HACC, HB, H9, HO⟩ := hrel
      cases gk with
      | zero => exact absurd HG.out (by simp [lexGo])
      | succ b =>
      have HE := Aside0.mk (lexEnv_of HW1.out HC.out HB.out H9.out)
      have c1 := cell_of_one HE.out.h1
      have c5 := cell_of_one HE.out.h5
      have c9 := cell_of_one HE.out.h9
      have f9 := free_of_one HE.out.h9
      have hg := HG.out
      unfold lexGo at hg
      by_cases hi : i < l.length
      · rw [if_pos hi] at hg
        have hmx : l.length ≤ 9223372036854775807 := by have := HPOS.out.1.1; have := HPOS.out.2; omega
        have HL := Aside0.mk (HE.out.hl wr (KeepBut.refl _ _ _))
        obtain ⟨ad, hA, hx0, hx1⟩ := at_T72 HL.out (i : Int) (by omega) (by omega)
        subst hA
        rw [Int.toNat_natCast] at hx0 hx1
        by_cases h35 : (rd_T72 l (i : Int)).f1 = 35
        · rw [if_pos h35] at hg
          have HG2 := Aside0.mk hg
          clear hg
          have b35 : ((rd_T72 l (i : Int)).f1 == 35) = true := by simpa using h35
          clear h35
          have HJ := Aside0.mk (And.intro (lexSkip_ge (fun k => k != 2) l l.length (i + 1)) (lexSkip_le (fun k => k != 2) l l.length (i + 1) (by omega)))
          have HM := Aside0.mk (lexAt_mono HPOS.out.1 hi (show i ≤ lexSkip (fun k => k != 2) l l.length (i + 1) by have := HJ.out.1; omega))
          go_wp2_with (first | (go_at_call 22; refine (lex_run 24 (by decide) (fun k => k != 2) lex_not_line a0 (some ad) c l i w.heap.size w1.heap.size (w1.heap.size + 1) _ HE.out hi (by have := HPOS.out.2; omega) HM.out.1 HM.out.2.1 HM.out.2.2 (by have := HPOS.out.1.1; have := HPOS.out.2; omega)).mono ?_; rintro e w2 ⟨rfl, hk, hb, h9⟩; have HK2 := Aside0.mk hk; have HB2 := Aside0.mk (HB.out.trans hb); have H92 := Aside0.mk h9; clear hk hb h9))
          go_roundg b
          case measure => omega
          case rel => exact ⟨(lexSkip (fun k => k != 2) l l.length (i + 1)), acc, ⟨HG2.out⟩, ⟨by have := HI.out; have := HJ.out; omega⟩, ⟨by have := HACC.out; have := HJ.out; simp; omega⟩, ⟨HB2.out⟩, ⟨H92.out⟩, ⟨kd_keep9 HO.out HK2.out⟩⟩
        · rw [if_neg h35] at hg
          have b35 : ((rd_T72 l (i : Int)).f1 == 35) = false := by simpa using h35
          clear h35
          by_cases k1 : kindOf (rd_T72 l (i : Int)).f1 = 1
          · rw [if_pos k1] at hg
            have HG2 := Aside0.mk hg
            have HKD := Aside0.mk k1
            clear hg k1
            go_wp2_with (first | (go_at_call 23; refine (runes_Kind.calls 8 _ 1 _ ((kind_any _).trans (by rw [HKD.out]))).mono ?_; rintro e w' ⟨rfl, ⟨nd, rfl⟩⟩))
            go_roundg b
            case measure => omega
            case rel => exact ⟨i + 1, acc, ⟨HG2.out⟩, ⟨by omega⟩, ⟨by have := HACC.out; simp; omega⟩, ⟨(pw_below_drewN HB.out _).setCell (p := ⟨w1.heap.size + 1, 0, none⟩) (Nat.le_refl _) _⟩, ⟨one_setCell (w := World.drewN wr _) H9.out⟩, ⟨kd_keep9 HO.out (KeepBut.set_ (w1 := World.drewN wr _) (KeepBut.refl _ _ _) 0 _)⟩⟩
          · rw [if_neg k1] at hg
            have k1' := k1
            clear k1
            by_cases k2 : kindOf (rd_T72 l (i : Int)).f1 = 2
            · rw [if_pos k2] at hg
              have HKD := Aside0.mk k2
              clear k2
              have HG2 := Aside0.mk hg
              clear hg
              go_wp2_with (first | (go_at_call 23; refine (runes_Kind.calls 8 _ 2 _ ((kind_any _).trans (by rw [HKD.out]))).mono ?_; rintro e w' ⟨rfl, ⟨nd, rfl⟩⟩) | ((with_reducible refine gate_builtin (b := .append) (xs := #[.tmp 57, .tmp 60]) rfl ?_); at_builtin; refine Kd.R_append k43 (w1.heap.size + 1 + 1) rfl (.tmp 57) (.tmp 60) 39 43 (.agg #[(.int .i64 0), (.int .i64 0), (.string ⟨#[]⟩), (.int .i64 0)]) 40 rfl Tryz.underlying39 info43 rfl (by decide) (by omega) u8 acc (⟨4, (rd_T72 l (i : Int)).f0, ⟨#[]⟩, 0⟩ : S43) [.int .i64 4, .int .i64 (rd_T72 l (i : Int)).f0, .string ⟨#[]⟩, .int .i64 0] (fun _ => True) (fun _ => False) rfl rfl ?aP (fun _ hk => hk.elim) (fun _ _ => trivial) ?aO (Below.refl _ _) ?aS ?aL ?_; (case aP => exact k43_mkM _ _ _ (⟨4, (rd_T72 l (i : Int)).f0, ⟨#[]⟩, 0⟩ : S43)); (case aO => exact (Kd.R_drewN HO.out nd)); (case aS => show _ ≤ (World.drewN _ _).heap.size; rw [World.heap_drewN]; exact blk_lt H9.out); (case aL => have := HACC.out; have := HI.out; have := HPOS.out.1.1; have := HPOS.out.2; omega); intro v1 w4 ho hb hg hat; have HB2 := Aside0.mk ((pw_below_drewN HB.out nd).trans (hb.mono (Nat.le_succ _))); have H92 := Aside0.mk ((hb.block (w1.heap.size + 1) (Nat.lt_succ_self _)).trans H9.out); have c9' := cell_of_one H92.out; have f9' := free_of_one H92.out; have HO2 := Aside0.mk ho; clear ho hb hg hat))
              go_roundg b
              case measure => omega
              case rel => exact ⟨i + 1, acc ++ [(⟨4, (rd_T72 l (i : Int)).f0, ⟨#[]⟩, 0⟩ : S43)], ⟨HG2.out⟩, ⟨by omega⟩, ⟨by have := HACC.out; simp; omega⟩, ⟨HB2.out.setCell (p := ⟨w1.heap.size + 1, 0, none⟩) (Nat.le_refl _) _⟩, ⟨one_setCell H92.out⟩, ⟨kd_keep9 HO2.out (KeepBut.set_ (KeepBut.refl _ _ _) 0 _)⟩⟩
            · rw [if_neg k2] at hg
              by_cases k3 : kindOf (rd_T72 l (i : Int)).f1 = 3
              · rw [if_pos k3] at hg
                have HKD := Aside0.mk k3
                clear k3
                have HJ := Aside0.mk (And.intro (lexSkip_ge (fun k => k == 3) l l.length (i + 1)) (lexSkip_le (fun k => k == 3) l l.length (i + 1) (by omega)))
                have HM := Aside0.mk (lexAt_mono HPOS.out.1 hi (show i ≤ lexSkip (fun k => k == 3) l l.length (i + 1) by have := HJ.out.1; omega))
                obtain ⟨d, hd⟩ : ∃ d_, (a0.extract (lexAt a0 l i).toNat (lexAt a0 l (lexSkip (fun k => k == 3) l l.length (i + 1))).toNat) = d_ := ⟨_, rfl⟩
                rw [hd] at hg
                have HSZ := Aside0.mk (show d.size ≤ 140737488355328 by have := HPOS.out.2; rw [← hd, ByteArray.size_extract]; omega)
                have HD := Aside0.mk hd
                clear hd
                rcases hA : Lib.atoiAll d.data.toList with v0 | _ | _
                rotate_left
                · rw [hA] at hg; cases hg
                ·
                  have HNS := Aside0.mk (show isNum (Lib.atoiAll d.data.toList) = true by rw [hA]; rfl)
                  rw [hA] at hg
                  simp only at hg
                  by_cases h9 : 9 < d.size
                  · rw [if_pos h9] at hg
                    simp only [Option.some.injEq, Prod.mk.injEq] at hg
                    obtain ⟨rfl, rfl, rfl⟩ := hg
                    clear hA
                    go_wp2_with (first | (go_at_call 23; refine (runes_Kind.calls 8 _ 3 _ ((kind_any _).trans (by rw [HKD.out]))).mono ?_; rintro e w' ⟨rfl, ⟨nd, rfl⟩⟩) | (go_at_call 22; refine (lex_run 25 (by decide) (fun k => k == 3) lex_digit a0 (some ad) c l i w.heap.size w1.heap.size (w1.heap.size + 1) _ (HE.out.step (keep_drewN (KeepBut.refl _ _ _) nd) H9.out) hi (by have := HPOS.out.2; omega) HM.out.1 HM.out.2.1 HM.out.2.2 (by have := HPOS.out.1.1; have := HPOS.out.2; omega)).mono ?_; rintro e w2 ⟨he, hk, hb, h9⟩; rw [HD.out] at he; subst he; have HK2 := Aside0.mk (show KeepBut wr w2 (w1.heap.size + 1) none from hk); have HB2 := Aside0.mk ((pw_below_drewN HB.out nd).trans hb); have H92 := Aside0.mk h9; clear hk hb h9) | (go_at_call 26; refine (atoi_any d _ HSZ.out (GW.of_below HGW.out ((HBW.out.trans (((below_alloc (Below.refl w1.heap.size w1) _).trans (HB2.out.mono (Nat.le_succ _))).mono (by omega))))) HNS.out).mono ?_; rintro e w3 ⟨v, ev, rfl, hv, hb⟩; have HB3 := Aside0.mk (HB2.out.trans (hb.mono (Nat.le_of_lt (blk_lt H92.out)))); have H93 := Aside0.mk ((hb.block _ (blk_lt H92.out)).trans H92.out); have HO3 := Aside0.mk (kd_below9 (kd_keep9 HO.out HK2.out) hb); rcases hv with ⟨-, rfl⟩ | ⟨-, pe, rfl⟩ <;> clear hb))
                    all_goals
                      (try rw [Exit.noGoto_ret])
                      go_ret3
                      exact ⟨_, rfl, Kd.R_nil _ _ _ _ _, HBW.out.trans (((below_alloc (Below.refl w1.heap.size w1) _).trans (HB3.out.mono (Nat.le_succ _))).mono (by omega))⟩
                  · rw [if_neg h9] at hg; cases hg
                ·
                  have HNS := Aside0.mk (show isNum (Lib.atoiAll d.data.toList) = true by rw [hA]; rfl)
                  rw [hA] at hg
                  simp only at hg
                  by_cases h9 : 9 < d.size
                  · rw [if_pos h9] at hg
                    simp only [Option.some.injEq, Prod.mk.injEq] at hg
                    obtain ⟨rfl, rfl, rfl⟩ := hg
                    clear hA
                    go_wp2_with (first | (go_at_call 23; refine (runes_Kind.calls 8 _ 3 _ ((kind_any _).trans (by rw [HKD.out]))).mono ?_; rintro e w' ⟨rfl, ⟨nd, rfl⟩⟩) | (go_at_call 22; refine (lex_run 25 (by decide) (fun k => k == 3) lex_digit a0 (some ad) c l i w.heap.size w1.heap.size (w1.heap.size + 1) _ (HE.out.step (keep_drewN (KeepBut.refl _ _ _) nd) H9.out) hi (by have := HPOS.out.2; omega) HM.out.1 HM.out.2.1 HM.out.2.2 (by have := HPOS.out.1.1; have := HPOS.out.2; omega)).mono ?_; rintro e w2 ⟨he, hk, hb, h9⟩; rw [HD.out] at he; subst he; have HK2 := Aside0.mk (show KeepBut wr w2 (w1.heap.size + 1) none from hk); have HB2 := Aside0.mk ((pw_below_drewN HB.out nd).trans hb); have H92 := Aside0.mk h9; clear hk hb h9) | (go_at_call 26; refine (atoi_any d _ HSZ.out (GW.of_below HGW.out ((HBW.out.trans (((below_alloc (Below.refl w1.heap.size w1) _).trans (HB2.out.mono (Nat.le_succ _))).mono (by omega))))) HNS.out).mono ?_; rintro e w3 ⟨v, ev, rfl, hv, hb⟩; have HB3 := Aside0.mk (HB2.out.trans (hb.mono (Nat.le_of_lt (blk_lt H92.out)))); have H93 := Aside0.mk ((hb.block _ (blk_lt H92.out)).trans H92.out); have HO3 := Aside0.mk (kd_below9 (kd_keep9 HO.out HK2.out) hb); rcases hv with ⟨-, rfl⟩ | ⟨-, pe, rfl⟩ <;> clear hb))
                    all_goals
                      (try rw [Exit.noGoto_ret])
                      go_ret3
                      exact ⟨_, rfl, Kd.R_nil _ _ _ _ _, HBW.out.trans (((below_alloc (Below.refl w1.heap.size w1) _).trans (HB3.out.mono (Nat.le_succ _))).mono (by omega))⟩
                  · rw [if_neg h9] at hg
                    have HG2 := Aside0.mk hg
                    have HA := Aside0.mk hA
                    clear hg hA
                    go_wp2_with (first | (go_at_call 23; refine (runes_Kind.calls 8 _ 3 _ ((kind_any _).trans (by rw [HKD.out]))).mono ?_; rintro e w' ⟨rfl, ⟨nd, rfl⟩⟩) | (go_at_call 22; refine (lex_run 25 (by decide) (fun k => k == 3) lex_digit a0 (some ad) c l i w.heap.size w1.heap.size (w1.heap.size + 1) _ (HE.out.step (keep_drewN (KeepBut.refl _ _ _) nd) H9.out) hi (by have := HPOS.out.2; omega) HM.out.1 HM.out.2.1 HM.out.2.2 (by have := HPOS.out.1.1; have := HPOS.out.2; omega)).mono ?_; rintro e w2 ⟨he, hk, hb, h9⟩; rw [HD.out] at he; subst he; have HK2 := Aside0.mk (show KeepBut wr w2 (w1.heap.size + 1) none from hk); have HB2 := Aside0.mk ((pw_below_drewN HB.out nd).trans hb); have H92 := Aside0.mk h9; clear hk hb h9) | (go_at_call 26; refine (atoi_any d _ HSZ.out (GW.of_below HGW.out ((HBW.out.trans (((below_alloc (Below.refl w1.heap.size w1) _).trans (HB2.out.mono (Nat.le_succ _))).mono (by omega))))) HNS.out).mono ?_; rintro e w3 ⟨v, ev, rfl, hv, hb⟩; have HB3 := Aside0.mk (HB2.out.trans (hb.mono (Nat.le_of_lt (blk_lt H92.out)))); have H93 := Aside0.mk ((hb.block _ (blk_lt H92.out)).trans H92.out); have HO3 := Aside0.mk (kd_below9 (kd_keep9 HO.out HK2.out) hb); obtain ⟨hv2, rfl⟩ := (show _ ∧ ev = .nilIface from hv.elim id (fun h => absurd (h.1.symm.trans HA.out) (by simp))); obtain rfl : v0 = v := (by have := HA.out.symm.trans hv2; simpa using this); clear hb hv hv2) | ((with_reducible refine gate_builtin (b := .append) (xs := #[.tmp 81, .tmp 86]) rfl ?_); at_builtin; refine Kd.R_append k43 (w1.heap.size + 1 + 1) rfl (.tmp 81) (.tmp 86) 39 43 (.agg #[(.int .i64 0), (.int .i64 0), (.string ⟨#[]⟩), (.int .i64 0)]) 40 rfl Tryz.underlying39 info43 rfl (by decide) (by omega) u8 acc (⟨2, (rd_T72 l (i : Int)).f0, d, v0⟩ : S43) [.int .i64 2, .int .i64 (rd_T72 l (i : Int)).f0, .string d, .int .i64 v0] (fun _ => True) (fun _ => False) rfl rfl ?aP (fun _ hk => hk.elim) (fun _ _ => trivial) ?aO (Below.refl _ _) ?aS ?aL ?_; (case aP => exact k43_mkM _ _ _ (⟨2, (rd_T72 l (i : Int)).f0, d, v0⟩ : S43)); (case aO => exact HO3.out); (case aS => exact blk_lt H93.out); (case aL => have := HACC.out; have := HI.out; have := HPOS.out.1.1; have := HPOS.out.2; omega); intro v1 w4 ho hb hg hat; have HB4 := Aside0.mk (HB3.out.trans (hb.mono (Nat.le_succ _))); have H94 := Aside0.mk ((hb.block (w1.heap.size + 1) (Nat.lt_succ_self _)).trans H93.out); have HO4 := Aside0.mk ho; clear ho hb hg hat))
                    go_roundg b
                    case measure => omega
                    case rel => exact ⟨(lexSkip (fun k => k == 3) l l.length (i + 1)), acc ++ [(⟨2, (rd_T72 l (i : Int)).f0, d, v0⟩ : S43)], ⟨HG2.out⟩, ⟨by have := HI.out; have := HJ.out; omega⟩, ⟨by have := HACC.out; have := HJ.out; simp; omega⟩, ⟨HB4.out⟩, ⟨H94.out⟩, ⟨HO4.out⟩⟩
              · rw [if_neg k3] at hg
                by_cases k4 : kindOf (rd_T72 l (i : Int)).f1 = 4
                · rw [if_pos k4] at hg
                  have HKD := Aside0.mk k4
                  clear k4
                  have HJ := Aside0.mk (And.intro (lexSkip_ge (fun k => k == 4 || k == 3) l l.length (i + 1)) (lexSkip_le (fun k => k == 4 || k == 3) l l.length (i + 1) (by omega)))
                  have HM := Aside0.mk (lexAt_mono HPOS.out.1 hi (show i ≤ lexSkip (fun k => k == 4 || k == 3) l l.length (i + 1) by have := HJ.out.1; omega))
                  obtain ⟨d, hd⟩ : ∃ d_, (a0.extract (lexAt a0 l i).toNat (lexAt a0 l (lexSkip (fun k => k == 4 || k == 3) l l.length (i + 1))).toNat) = d_ := ⟨_, rfl⟩
                  rw [hd] at hg
                  have HSZ := Aside0.mk (show d.size ≤ 140737488355328 by have := HPOS.out.2; rw [← hd, ByteArray.size_extract]; omega)
                  have HD := Aside0.mk hd
                  clear hd
                  by_cases h32 : 32 < d.size
                  · rw [if_pos h32] at hg
                    simp only [Option.some.injEq, Prod.mk.injEq] at hg
                    obtain ⟨rfl, rfl, rfl⟩ := hg
                    go_wp2_with (first | (go_at_call 23; refine (runes_Kind.calls 8 _ 4 _ ((kind_any _).trans (by rw [HKD.out]))).mono ?_; rintro e w' ⟨rfl, ⟨nd, rfl⟩⟩) | (go_at_call 22; refine (lex_run 27 (by decide) (fun k => k == 4 || k == 3) lex_word a0 (some ad) c l i w.heap.size w1.heap.size (w1.heap.size + 1) _ (HE.out.step (keep_drewN (KeepBut.refl _ _ _) nd) H9.out) hi (by have := HPOS.out.2; omega) HM.out.1 HM.out.2.1 HM.out.2.2 (by have := HPOS.out.1.1; have := HPOS.out.2; omega)).mono ?_; rintro e w2 ⟨he, hk, hb, h9⟩; rw [HD.out] at he; subst he; have HK2 := Aside0.mk (show KeepBut wr w2 (w1.heap.size + 1) none from hk); have HB2 := Aside0.mk ((pw_below_drewN HB.out nd).trans hb); have H92 := Aside0.mk h9; clear hk hb h9))
                    (try rw [Exit.noGoto_ret])
                    go_ret3
                    exact ⟨_, rfl, Kd.R_nil _ _ _ _ _, HBW.out.trans (((below_alloc (Below.refl w1.heap.size w1) _).trans (HB2.out.mono (Nat.le_succ _))).mono (by omega))⟩
                  · rw [if_neg h32] at hg
                    have HG2 := Aside0.mk hg
                    clear hg
                    go_wp2_with (first | (go_at_call 23; refine (runes_Kind.calls 8 _ 4 _ ((kind_any _).trans (by rw [HKD.out]))).mono ?_; rintro e w' ⟨rfl, ⟨nd, rfl⟩⟩) | (go_at_call 22; refine (lex_run 27 (by decide) (fun k => k == 4 || k == 3) lex_word a0 (some ad) c l i w.heap.size w1.heap.size (w1.heap.size + 1) _ (HE.out.step (keep_drewN (KeepBut.refl _ _ _) nd) H9.out) hi (by have := HPOS.out.2; omega) HM.out.1 HM.out.2.1 HM.out.2.2 (by have := HPOS.out.1.1; have := HPOS.out.2; omega)).mono ?_; rintro e w2 ⟨he, hk, hb, h9⟩; rw [HD.out] at he; subst he; have HK2 := Aside0.mk (show KeepBut wr w2 (w1.heap.size + 1) none from hk); have HB2 := Aside0.mk ((pw_below_drewN HB.out nd).trans hb); have H92 := Aside0.mk h9; clear hk hb h9) | ((with_reducible refine gate_builtin (b := .append) (xs := #[.tmp 96, .tmp 100]) rfl ?_); at_builtin; refine Kd.R_append k43 (w1.heap.size + 1 + 1) rfl (.tmp 96) (.tmp 100) 39 43 (.agg #[(.int .i64 0), (.int .i64 0), (.string ⟨#[]⟩), (.int .i64 0)]) 40 rfl Tryz.underlying39 info43 rfl (by decide) (by omega) u8 acc (⟨1, (rd_T72 l (i : Int)).f0, d, 0⟩ : S43) [.int .i64 1, .int .i64 (rd_T72 l (i : Int)).f0, .string d, .int .i64 0] (fun _ => True) (fun _ => False) rfl rfl ?aP (fun _ hk => hk.elim) (fun _ _ => trivial) ?aO (Below.refl _ _) ?aS ?aL ?_; (case aP => exact k43_mkM _ _ _ (⟨1, (rd_T72 l (i : Int)).f0, d, 0⟩ : S43)); (case aO => exact (kd_keep9 HO.out HK2.out)); (case aS => exact blk_lt H92.out); (case aL => have := HACC.out; have := HI.out; have := HPOS.out.1.1; have := HPOS.out.2; omega); intro v1 w4 ho hb hg hat; have HB4 := Aside0.mk (HB2.out.trans (hb.mono (Nat.le_succ _))); have H94 := Aside0.mk ((hb.block (w1.heap.size + 1) (Nat.lt_succ_self _)).trans H92.out); have HO4 := Aside0.mk ho; clear ho hb hg hat))
                    go_roundg b
                    case measure => omega
                    case rel => exact ⟨(lexSkip (fun k => k == 4 || k == 3) l l.length (i + 1)), acc ++ [(⟨1, (rd_T72 l (i : Int)).f0, d, 0⟩ : S43)], ⟨HG2.out⟩, ⟨by have := HI.out; have := HJ.out; omega⟩, ⟨by have := HACC.out; have := HJ.out; simp; omega⟩, ⟨HB4.out⟩, ⟨H94.out⟩, ⟨HO4.out⟩⟩
                · rw [if_neg k4] at hg
                  by_cases k5 : kindOf (rd_T72 l (i : Int)).f1 = 5
                  · rw [if_pos k5] at hg
                    have HKD := Aside0.mk k5
                    clear k5
                    have HG2 := Aside0.mk hg
                    clear hg
                    have g0 : 0 ≤ (rd_T72 l (i : Int)).f0 := (HPOS.out.1.2.1 i hi).1
                    have g1 : (rd_T72 l (i : Int)).f0 < a0.size := (HPOS.out.1.2.1 i hi).2
                    have g2 : (a0.size : Int) ≤ 140737488355328 := by have := HPOS.out.2; omega
                    have g3 : (rd_T72 l (i : Int)).f0 + 1 ≤ a0.size := by omega
                    have hsl : ∀ W, (Instr.slice 9 (.string a0) (some (.int .i64 (rd_T72 l (i : Int)).f0)) (some (.int .i64 ((rd_T72 l (i : Int)).f0 + 1))) none).run Tryz.prog W = .ok (.string (a0.extract (rd_T72 l (i : Int)).f0.toNat ((rd_T72 l (i : Int)).f0 + 1).toNat)) W := fun W => run_slice_string W 9 a0 .i64 .i64 _ _ Tryz.underlying9 g0 (by omega) g3
                    go_wp2_with (first | (go_at_call 23; refine (runes_Kind.calls 8 _ 5 _ ((kind_any _).trans (by rw [HKD.out]))).mono ?_; rintro e w' ⟨rfl, ⟨nd, rfl⟩⟩) | ((with_reducible refine gate_builtin (b := .append) (xs := #[.tmp 104, .tmp 112]) rfl ?_); at_builtin; refine Kd.R_append k43 (w1.heap.size + 1 + 1) rfl (.tmp 104) (.tmp 112) 39 43 (.agg #[(.int .i64 0), (.int .i64 0), (.string ⟨#[]⟩), (.int .i64 0)]) 40 rfl Tryz.underlying39 info43 rfl (by decide) (by omega) u8 acc (⟨3, (rd_T72 l (i : Int)).f0, (a0.extract (rd_T72 l (i : Int)).f0.toNat ((rd_T72 l (i : Int)).f0 + 1).toNat), 0⟩ : S43) [.int .i64 3, .int .i64 (rd_T72 l (i : Int)).f0, .string (a0.extract (rd_T72 l (i : Int)).f0.toNat ((rd_T72 l (i : Int)).f0 + 1).toNat), .int .i64 0] (fun _ => True) (fun _ => False) rfl rfl ?aP (fun _ hk => hk.elim) (fun _ _ => trivial) ?aO (Below.refl _ _) ?aS ?aL ?_; (case aP => exact k43_mkM _ _ _ (⟨3, (rd_T72 l (i : Int)).f0, (a0.extract (rd_T72 l (i : Int)).f0.toNat ((rd_T72 l (i : Int)).f0 + 1).toNat), 0⟩ : S43)); (case aO => exact (Kd.R_drewN HO.out nd)); (case aS => show _ ≤ (World.drewN _ _).heap.size; rw [World.heap_drewN]; exact blk_lt H9.out); (case aL => have := HACC.out; have := HI.out; have := HPOS.out.1.1; have := HPOS.out.2; omega); intro v1 w4 ho hb hg hat; have HB2 := Aside0.mk ((pw_below_drewN HB.out nd).trans (hb.mono (Nat.le_succ _))); have H92 := Aside0.mk ((hb.block (w1.heap.size + 1) (Nat.lt_succ_self _)).trans H9.out); have c9' := cell_of_one H92.out; have f9' := free_of_one H92.out; have HO2 := Aside0.mk ho; clear ho hb hg hat))
                    go_roundg b
                    case measure => omega
                    case rel => exact ⟨i + 1, acc ++ [(⟨3, (rd_T72 l (i : Int)).f0, (a0.extract (rd_T72 l (i : Int)).f0.toNat ((rd_T72 l (i : Int)).f0 + 1).toNat), 0⟩ : S43)], ⟨HG2.out⟩, ⟨by omega⟩, ⟨by have := HACC.out; simp; omega⟩, ⟨HB2.out.setCell (p := ⟨w1.heap.size + 1, 0, none⟩) (Nat.le_refl _) _⟩, ⟨one_setCell H92.out⟩, ⟨kd_keep9 HO2.out (KeepBut.set_ (KeepBut.refl _ _ _) 0 _)⟩⟩
                  · rw [if_neg k5] at hg
                    simp only [Option.some.injEq, Prod.mk.injEq] at hg
                    obtain ⟨rfl, rfl, rfl⟩ := hg
                    have HKD := Aside0.mk (kind_any (rd_T72 l (i : Int)).f1)
                    have q1 : (kindOf (rd_T72 l (i : Int)).f1 == 1) = false := by simpa using k1'
                    have q2 : (kindOf (rd_T72 l (i : Int)).f1 == 2) = false := by simpa using k2
                    have q3 : (kindOf (rd_T72 l (i : Int)).f1 == 3) = false := by simpa using k3
                    have q4 : (kindOf (rd_T72 l (i : Int)).f1 == 4) = false := by simpa using k4
                    have q5 : (kindOf (rd_T72 l (i : Int)).f1 == 5) = false := by simpa using k5
                    clear k1' k2 k3 k4 k5
                    go_wp2_with (first | (go_at_call 23; refine (runes_Kind.calls 8 _ _ _ HKD.out).mono ?_; rintro e w' ⟨rfl, ⟨nd, rfl⟩⟩))
                    (try rw [Exit.noGoto_ret])
                    go_ret3
                    exact ⟨_, rfl, Kd.R_nil _ _ _ _ _, HBW.out.trans (((below_alloc (Below.refl w1.heap.size w1) _).trans ((pw_below_drewN HB.out _).mono (Nat.le_succ _))).mono (by omega))⟩
      · rw [if_neg hi] at hg
        simp only [Option.some.injEq, Prod.mk.injEq] at hg
        obtain ⟨rfl, rfl, rfl⟩ := hg
        go_wp2
        (try rw [Exit.noGoto_ret])
        go_ret3
        exact ⟨_, rfl, Kd.R_lower HO.out (by omega), HBW.out.trans (((below_alloc (Below.refl w1.heap.size w1) _).trans (HB.out.mono (Nat.le_succ _))).mono (by omega))⟩
  · simp only [he, if_false, Option.some.injEq, Prod.mk.injEq] at h
    obtain ⟨rfl, rfl, rfl⟩ := h
    have he1 : (er == 0) = false := by simpa using he
    have he2 : (er != 0) = true := by simpa using he
    clear he
    go_enter Tryz.func10, Tryz.ntmps10
    go_wp2
    go_step3
    go_wp2_with (first | (go_at_call 21; refine (runes_Decode.calls a0 l at_ er _ HDEC.out).mono ?_; rintro e w1 ⟨v0, rfl, hR, hB⟩; obtain ⟨A, c, rfl, hcap⟩ := OwnRow.slice_ hR.2; have HR := Aside0.mk hR; have HCAP := Aside0.mk hcap; have HB1 := Aside0.mk hB; clear hR hB hcap))
    (try rw [Exit.noGoto_ret])
    go_ret3
    exact ⟨_, rfl, Kd.R_nil _ _ _ _ _, ((below_alloc (Below.refl _ _) _).trans (HB1.out.mono (by simp))).trans ((Below.refl _ _).alloc (by have := HB1.out.size; simp at this; omega) _)⟩

end Go.Proofs.YtmdmdbiinngneaaGreatDoor.Q

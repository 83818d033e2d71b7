import Derived.Test.YtmdmdbiinngneaaGreatDoorU5
import Derived.Test.YtmdmdbiinngneaaGreatDoorQ15
import Derived.Laws.Strings
namespace Go.Proofs.YtmdmdbiinngneaaGreatDoor.Q
open Go Go.RowKit Go.Proofs.YtmdmdbiinngneaaGreatDoorW.PrintWords Go.Proofs.YtmdmdbiinngneaaGreatDoorW.PrintLast Go.Proofs.YtmdmdbiinngneaaGreatDoorW.PrintMore Go.Proofs.YtmdmdbiinngneaaGreatDoor.Pieces
set_option linter.unusedVariables false
set_option linter.unusedSimpArgs false
/-! ### ScriptTells: the second reader's runes -/
theorem bt_mkB (l : List UInt8) (i : Nat) (h : i < l.length) : bt (mkB l) (i : Int) = (bAt l i : Int) := by
  have h1 : ((i : Int)).toNat < (mkB l).size := by simp [mkB, ByteArray.size]; exact h
  unfold bt
  rw [dif_pos h1]
  simp [mkB, bAt, List.getD_eq_getElem?_getD, h]
  rfl
theorem bAt_lt (l : List UInt8) (i : Nat) : bAt l i ≤ 255 := by
  unfold bAt
  have := (l.getD i 0).toNat_lt
  omega
theorem one_round (k : Nat) (l : List UInt8) (n i : Nat) (least v : Int) (hi : i < n) (hn : n ≤ l.length) (hi4 : i ≤ 4) (hv : 0 ≤ v ∧ v ≤ 100000000) :
    carcanetref01_One.l0 (k + 1) (mkB l) (n : Int) least v (i : Int) = if bAt l i / 64 = 2 then carcanetref01_One.l0 k (mkB l) (n : Int) least (v * 64 + (bAt l i : Int) - 128) ((i + 1 : Nat) : Int) else some (0, 0) := by
  have hc := bAt_lt l i
  have hsz : ((mkB l).size : Int) = (l.length : Int) := by simp [mkB, ByteArray.size]
  simp only [carcanetref01_One.l0]
  rw [if_pos (by omega), if_pos (by omega), if_pos (by rw [hsz]; omega), bt_mkB l i (by omega)]
  have hw : wrap64 (bAt l i : Int) = (bAt l i : Int) := by unfold wrap64; omega
  rw [hw]
  by_cases h : bAt l i / 64 = 2
  · rw [if_pos h, if_neg (by omega), if_neg (by omega)]
    congr 1
    · unfold wrap64; omega
    · unfold wrap64; omega
  · rw [if_neg h]
    by_cases h2 : (bAt l i : Int) < 128
    · rw [if_pos h2]
    · rw [if_neg h2, if_pos (by omega)]
theorem one_end (k : Nat) (s : ByteArray) (n : Int) (least v : Int) :
    carcanetref01_One.l0 (k + 1) s n least v n = if v < least ∨ v > 1114111 ∨ (55296 ≤ v ∧ v < 57344) then some (0, 0) else some (v, n) := by
  simp only [carcanetref01_One.l0]
  rw [if_neg (by omega)]
  by_cases h1 : v < least
  · rw [if_pos h1, if_pos (.inl h1)]
  · by_cases h2 : v > 1114111
    · rw [if_neg h1, if_pos h2, if_pos (.inr (.inl h2))]
    · by_cases h3 : v ≥ 55296
      · by_cases h4 : v < 57344
        · rw [if_neg h1, if_neg h2, if_pos h3, if_pos h4, if_pos (.inr (.inr ⟨h3, h4⟩))]
        · rw [if_neg h1, if_neg h2, if_pos h3, if_neg h4, if_neg (by omega)]
      · rw [if_neg h1, if_neg h2, if_neg h3, if_neg (by omega)]
/-- The rune that bytes begin with, as the second reader has it. -/
def oneL (l : List UInt8) : Int × Int :=
  if l = [] then (0, 0) else if (decL l).1 = 65533 ∧ l.take 3 ≠ [239, 191, 189] then (0, 0) else (((decL l).1 : Int), ((decL l).2 : Int))
theorem take3_bAt (l : List UInt8) : l.take 3 = [239, 191, 189] ↔ 3 ≤ l.length ∧ bAt l 0 = 239 ∧ bAt l 1 = 191 ∧ bAt l 2 = 189 := by
  rcases l with _ | ⟨a, _ | ⟨b, _ | ⟨c, r⟩⟩⟩
  · simp
  · simp
  · simp
  · simp only [List.take_succ_cons, List.take_zero, List.cons.injEq, and_true, bAt, List.getD_cons_zero, List.getD_cons_succ, List.length_cons]
    rw [← UInt8.toNat_inj, ← UInt8.toNat_inj, ← UInt8.toNat_inj]
    simp
set_option maxRecDepth 20000 in
theorem one_start (k : Nat) (l : List UInt8) (hne : l ≠ []) (h : 128 ≤ bAt l 0) : carcanetref01_One.f (k + 12) (mkB l) =
    if bAt l 0 / 32 = 6 ∧ 2 ≤ l.length then carcanetref01_One.l0 (k + 5) (mkB l) 2 128 ((bAt l 0 : Int) - 192) 1
    else if bAt l 0 / 16 = 14 ∧ 3 ≤ l.length then carcanetref01_One.l0 (k + 5) (mkB l) 3 2048 ((bAt l 0 : Int) - 224) 1
    else if bAt l 0 / 8 = 30 ∧ 4 ≤ l.length then carcanetref01_One.l0 (k + 5) (mkB l) 4 65536 ((bAt l 0 : Int) - 240) 1
    else some (0, 0) := by
  have hc := bAt_lt l 0
  have hl : 0 < l.length := List.length_pos_iff.2 hne
  have hsz : ((mkB l).size : Int) = (l.length : Int) := by simp [mkB, ByteArray.size]
  have hb : bt (mkB l) 0 = (bAt l 0 : Int) := bt_mkB l 0 hl
  have hw : wrap64 (bAt l 0 : Int) = (bAt l 0 : Int) := by unfold wrap64; omega
  have w1 : bAt l 0 / 32 = 6 → wrap64 ((bAt l 0 : Int) - 192) = (bAt l 0 : Int) - 192 := fun _ => by unfold wrap64; omega
  have w2 : wrap64 ((bAt l 0 : Int) - 224) = (bAt l 0 : Int) - 224 := by unfold wrap64; omega
  have w3 : wrap64 ((bAt l 0 : Int) - 240) = (bAt l 0 : Int) - 240 := by unfold wrap64; omega
  have w0 : wrap64 ((bAt l 0 : Int) - 192) = (bAt l 0 : Int) - 192 := by unfold wrap64; omega
  have hts : ¬ (mkB l).toList = ([] : List UInt8) := by rw [ByteArray.toList_eq]; exact hne
  unfold carcanetref01_One.f
  rw [if_neg hts, hsz, hb, hw]
  rw [if_pos (by omega), if_neg (by omega)]
  generalize bAt l 0 = c at *
  by_cases h1 : c / 32 = 6
  · rw [if_pos (show (c : Int) ≥ 192 by omega)]
    simp only [carcanetref01_One.j0, carcanetref01_One.j1, carcanetref01_One.j2, carcanetref01_One.j3, carcanetref01_One.j4, carcanetref01_One.j5, carcanetref01_One.j6, show (decide ((c : Int) < 224)) = true from decide_eq_true (by omega), show ¬ ((c : Int) ≥ 224) by omega, show ¬ ((c : Int) ≥ 240) by omega, if_true, if_false, w0, hsz, Bool.false_eq_true, show ¬ ((2 : Int) = 0) by omega]
    by_cases h2 : 2 ≤ l.length
    · rw [show (decide ((l.length : Int) < 2)) = false from decide_eq_false (by omega), if_neg (by decide), if_pos ⟨h1, h2⟩]
    · rw [show (decide ((l.length : Int) < 2)) = true from decide_eq_true (by omega), if_pos rfl, if_neg (fun h => h2 h.2), if_neg (by omega), if_neg (by omega)]
  · rw [if_neg (show ¬ (c / 32 = 6 ∧ 2 ≤ l.length) from fun h => h1 h.1)]
    by_cases h3 : c / 16 = 14
    · simp only [ge_iff_le, show (192 : Int) ≤ (c : Int) by omega, carcanetref01_One.j0, carcanetref01_One.j1, carcanetref01_One.j2, carcanetref01_One.j3, carcanetref01_One.j4, carcanetref01_One.j5, carcanetref01_One.j6, show (decide ((c : Int) < 224)) = false from decide_eq_false (by omega), show (decide ((c : Int) < 240)) = true from decide_eq_true (by omega), show ((224 : Int) ≤ (c : Int)) by omega, show ¬ ((240 : Int) ≤ (c : Int)) by omega, if_true, if_false, w2, hsz, Bool.false_eq_true, show ¬ ((3 : Int) = 0) by omega]
      by_cases h2 : 3 ≤ l.length
      · rw [show (decide ((l.length : Int) < 3)) = false from decide_eq_false (by omega), if_neg (by decide), if_pos ⟨h3, h2⟩]
      · rw [show (decide ((l.length : Int) < 3)) = true from decide_eq_true (by omega), if_pos rfl, if_neg (fun h => h2 h.2), if_neg (by omega)]
    · rw [if_neg (show ¬ (c / 16 = 14 ∧ 3 ≤ l.length) from fun h => h3 h.1)]
      by_cases h4 : c / 8 = 30
      · simp only [ge_iff_le, show (192 : Int) ≤ (c : Int) by omega, carcanetref01_One.j0, carcanetref01_One.j1, carcanetref01_One.j2, carcanetref01_One.j3, carcanetref01_One.j4, carcanetref01_One.j5, carcanetref01_One.j6, show (decide ((c : Int) < 224)) = false from decide_eq_false (by omega), show (decide ((c : Int) < 240)) = false from decide_eq_false (by omega), show (decide ((c : Int) < 248)) = true from decide_eq_true (by omega), show ((224 : Int) ≤ (c : Int)) by omega, show ((240 : Int) ≤ (c : Int)) by omega, if_true, if_false, w3, hsz, Bool.false_eq_true, show ¬ ((4 : Int) = 0) by omega]
        by_cases h2 : 4 ≤ l.length
        · rw [show (decide ((l.length : Int) < 4)) = false from decide_eq_false (by omega), if_neg (by decide), if_pos ⟨h4, h2⟩]
        · rw [show (decide ((l.length : Int) < 4)) = true from decide_eq_true (by omega), if_pos rfl, if_neg (fun h => h2 h.2)]
      · rw [if_neg (show ¬ (c / 8 = 30 ∧ 4 ≤ l.length) from fun h => h4 h.1)]
        by_cases h5 : (192 : Int) ≤ (c : Int)
        · simp only [ge_iff_le, h5, carcanetref01_One.j0, carcanetref01_One.j1, carcanetref01_One.j2, carcanetref01_One.j3, carcanetref01_One.j4, carcanetref01_One.j5, carcanetref01_One.j6, show (decide ((c : Int) < 224)) = false from decide_eq_false (by omega), show (decide ((c : Int) < 240)) = false from decide_eq_false (by omega), show (decide ((c : Int) < 248)) = false from decide_eq_false (by omega), show ((224 : Int) ≤ (c : Int)) by omega, show ((240 : Int) ≤ (c : Int)) by omega, if_true, if_false, Bool.false_eq_true]
        · simp only [ge_iff_le, h5, carcanetref01_One.j0, carcanetref01_One.j1, carcanetref01_One.j2, carcanetref01_One.j3, carcanetref01_One.j4, carcanetref01_One.j5, carcanetref01_One.j6, show ¬ ((224 : Int) ≤ (c : Int)) by omega, show ¬ ((240 : Int) ≤ (c : Int)) by omega, if_true, if_false, Bool.false_eq_true]
theorem one_small (k : Nat) (l : List UInt8) (hne : l ≠ []) (h : bAt l 0 < 128) : carcanetref01_One.f (k + 12) (mkB l) = some ((bAt l 0 : Int), 1) := by
  have hl : 0 < l.length := List.length_pos_iff.2 hne
  have hsz : ((mkB l).size : Int) = (l.length : Int) := by simp [mkB, ByteArray.size]
  have hb : bt (mkB l) 0 = (bAt l 0 : Int) := bt_mkB l 0 hl
  have hw : wrap64 (bAt l 0 : Int) = (bAt l 0 : Int) := by unfold wrap64; omega
  have hts : ¬ (mkB l).toList = ([] : List UInt8) := by rw [ByteArray.toList_eq]; exact hne
  unfold carcanetref01_One.f
  rw [if_neg hts, hsz, hb, hw, if_pos (by omega), if_pos (by omega)]
theorem oneL_bad {l : List UInt8} (h : l ≠ []) (h1 : decL l = (65533, 1)) (h2 : ¬ (3 ≤ l.length ∧ bAt l 0 = 239 ∧ bAt l 1 = 191 ∧ bAt l 2 = 189)) : oneL l = (0, 0) := by
  unfold oneL
  rw [if_neg h, if_pos ⟨by rw [h1], fun e => h2 ((take3_bAt l).1 e)⟩]
theorem oneL_ok {l : List UInt8} {v n : Nat} (h : l ≠ []) (h1 : decL l = (v, n)) (h2 : v = 65533 → 3 ≤ l.length ∧ bAt l 0 = 239 ∧ bAt l 1 = 191 ∧ bAt l 2 = 189) : oneL l = ((v : Int), (n : Int)) := by
  unfold oneL
  rw [if_neg h, h1, if_neg (fun e => e.2 ((take3_bAt l).2 (h2 e.1)))]
theorem one_eq (k : Nat) (l : List UInt8) : carcanetref01_One.f (k + 12) (mkB l) = some (oneL l) := by
  by_cases hne : l = []
  · subst hne
    unfold carcanetref01_One.f oneL
    rw [if_pos (by rw [ByteArray.toList_eq]; rfl), if_pos rfl]
  by_cases h0 : bAt l 0 < 128
  · rw [one_small k l hne h0]
    have hd : decL l = (bAt l 0, 1) := by unfold decL; rw [if_pos h0]
    rw [oneL_ok hne hd (fun e => by omega)]
    rfl
  rw [one_start k l hne (by omega)]
  have c0 := bAt_lt l 0
  have c1 := bAt_lt l 1
  have c2 := bAt_lt l 2
  have c3 := bAt_lt l 3
  by_cases h2 : bAt l 0 / 32 = 6
  · by_cases hl : 2 ≤ l.length
    · rw [if_pos ⟨h2, hl⟩]
      have r1 := one_round (k + 4) l 2 1 128 ((bAt l 0 : Int) - 192) (by omega) hl (by omega) (by omega)
      rw [show ((2 : Nat) : Int) = 2 from rfl, show ((1 : Nat) : Int) = 1 from rfl] at r1
      rw [r1]
      by_cases hc : bAt l 1 / 64 = 2
      · rw [if_pos hc]
        have r2 := one_end (k + 3) (mkB l) 2 128 (((bAt l 0 : Int) - 192) * 64 + (bAt l 1 : Int) - 128)
        rw [r2]
        by_cases hv : 0x80 ≤ (bAt l 0 % 32) * 64 + bAt l 1 % 64
        · have hd : decL l = ((bAt l 0 % 32) * 64 + bAt l 1 % 64, 2) := by unfold decL; rw [if_neg (by omega), if_pos ⟨h2, hc⟩, if_pos hv]
          rw [oneL_ok hne hd (fun e => by omega), if_neg (by omega)]
          congr 2
          omega
        · have hd : decL l = (65533, 1) := by unfold decL; rw [if_neg (by omega), if_pos ⟨h2, hc⟩, if_neg hv]
          rw [oneL_bad hne hd (by omega), if_pos (by omega)]
      · rw [if_neg hc]
        have hd : decL l = (65533, 1) := by unfold decL; rw [if_neg (by omega), if_neg (fun h => hc h.2), if_neg (by omega), if_neg (by omega)]
        rw [oneL_bad hne hd (by omega)]
    · rw [if_neg (fun h => hl h.2), if_neg (by omega), if_neg (by omega)]
      have z1 : bAt l 1 = 0 := bAt_out (by omega)
      have hd : decL l = (65533, 1) := by unfold decL; rw [if_neg (by omega), if_neg (by omega), if_neg (by omega), if_neg (by omega)]
      rw [oneL_bad hne hd (by omega)]
  rw [if_neg (fun h => h2 h.1)]
  by_cases h3 : bAt l 0 / 16 = 14
  · by_cases hl : 3 ≤ l.length
    · rw [if_pos ⟨h3, hl⟩]
      have r1 := one_round (k + 4) l 3 1 2048 ((bAt l 0 : Int) - 224) (by omega) hl (by omega) (by omega)
      rw [show ((3 : Nat) : Int) = 3 from rfl, show ((1 : Nat) : Int) = 1 from rfl] at r1
      rw [r1]
      by_cases hc : bAt l 1 / 64 = 2
      · rw [if_pos hc]
        have r2 := one_round (k + 3) l 3 2 2048 (((bAt l 0 : Int) - 224) * 64 + (bAt l 1 : Int) - 128) (by omega) hl (by omega) (by omega)
        rw [show ((3 : Nat) : Int) = 3 from rfl] at r2
        rw [show ((1 + 1 : Nat)) = 2 from rfl, r2]
        by_cases hc2 : bAt l 2 / 64 = 2
        · rw [if_pos hc2]
          have r3 := one_end (k + 2) (mkB l) 3 2048 ((((bAt l 0 : Int) - 224) * 64 + (bAt l 1 : Int) - 128) * 64 + (bAt l 2 : Int) - 128)
          rw [r3]
          by_cases hv : 0x800 ≤ (bAt l 0 % 16) * 4096 + (bAt l 1 % 64) * 64 + bAt l 2 % 64 ∧ ((bAt l 0 % 16) * 4096 + (bAt l 1 % 64) * 64 + bAt l 2 % 64 < 0xD800 ∨ 0xE000 ≤ (bAt l 0 % 16) * 4096 + (bAt l 1 % 64) * 64 + bAt l 2 % 64)
          · have hd : decL l = ((bAt l 0 % 16) * 4096 + (bAt l 1 % 64) * 64 + bAt l 2 % 64, 3) := by unfold decL; rw [if_neg (by omega), if_neg (by omega), if_pos ⟨h3, hc, hc2⟩, if_pos hv]
            rw [oneL_ok hne hd (fun e => by omega), if_neg (by omega)]
            congr 2
            omega
          · have hd : decL l = (65533, 1) := by unfold decL; rw [if_neg (by omega), if_neg (by omega), if_pos ⟨h3, hc, hc2⟩, if_neg hv]
            rw [oneL_bad hne hd (by omega), if_pos (by omega)]
        · rw [if_neg hc2]
          have hd : decL l = (65533, 1) := by unfold decL; rw [if_neg (by omega), if_neg (by omega), if_neg (by omega), if_neg (by omega)]
          rw [oneL_bad hne hd (by omega)]
      · rw [if_neg hc]
        have hd : decL l = (65533, 1) := by unfold decL; rw [if_neg (by omega), if_neg (by omega), if_neg (by omega), if_neg (by omega)]
        rw [oneL_bad hne hd (by omega)]
    · rw [if_neg (fun h => hl h.2), if_neg (by omega)]
      have z1 : bAt l 2 = 0 := bAt_out (by omega)
      have hd : decL l = (65533, 1) := by unfold decL; rw [if_neg (by omega), if_neg (by omega), if_neg (by omega), if_neg (by omega)]
      rw [oneL_bad hne hd (by omega)]
  rw [if_neg (fun h => h3 h.1)]
  by_cases h4 : bAt l 0 / 8 = 30
  · by_cases hl : 4 ≤ l.length
    · rw [if_pos ⟨h4, hl⟩]
      have r1 := one_round (k + 4) l 4 1 65536 ((bAt l 0 : Int) - 240) (by omega) hl (by omega) (by omega)
      rw [show ((4 : Nat) : Int) = 4 from rfl, show ((1 : Nat) : Int) = 1 from rfl] at r1
      rw [r1]
      by_cases hc : bAt l 1 / 64 = 2
      · rw [if_pos hc]
        have r2 := one_round (k + 3) l 4 2 65536 (((bAt l 0 : Int) - 240) * 64 + (bAt l 1 : Int) - 128) (by omega) hl (by omega) (by omega)
        rw [show ((4 : Nat) : Int) = 4 from rfl] at r2
        rw [show ((1 + 1 : Nat)) = 2 from rfl, r2]
        by_cases hc2 : bAt l 2 / 64 = 2
        · rw [if_pos hc2]
          have r3 := one_round (k + 2) l 4 3 65536 ((((bAt l 0 : Int) - 240) * 64 + (bAt l 1 : Int) - 128) * 64 + (bAt l 2 : Int) - 128) (by omega) hl (by omega) (by omega)
          rw [show ((4 : Nat) : Int) = 4 from rfl] at r3
          rw [show ((2 + 1 : Nat)) = 3 from rfl, r3]
          by_cases hc3 : bAt l 3 / 64 = 2
          · rw [if_pos hc3]
            have r4 := one_end (k + 1) (mkB l) 4 65536 (((((bAt l 0 : Int) - 240) * 64 + (bAt l 1 : Int) - 128) * 64 + (bAt l 2 : Int) - 128) * 64 + (bAt l 3 : Int) - 128)
            rw [r4]
            by_cases hv : 0x10000 ≤ (bAt l 0 % 8) * 262144 + (bAt l 1 % 64) * 4096 + (bAt l 2 % 64) * 64 + bAt l 3 % 64 ∧ (bAt l 0 % 8) * 262144 + (bAt l 1 % 64) * 4096 + (bAt l 2 % 64) * 64 + bAt l 3 % 64 ≤ 0x10FFFF
            · have hd : decL l = ((bAt l 0 % 8) * 262144 + (bAt l 1 % 64) * 4096 + (bAt l 2 % 64) * 64 + bAt l 3 % 64, 4) := by unfold decL; rw [if_neg (by omega), if_neg (by omega), if_neg (by omega), if_pos ⟨h4, hc, hc2, hc3⟩, if_pos hv]
              rw [oneL_ok hne hd (fun e => by omega), if_neg (by omega)]
              congr 2
              omega
            · have hd : decL l = (65533, 1) := by unfold decL; rw [if_neg (by omega), if_neg (by omega), if_neg (by omega), if_pos ⟨h4, hc, hc2, hc3⟩, if_neg hv]
              rw [oneL_bad hne hd (by omega), if_pos (by omega)]
          · rw [if_neg hc3]
            have hd : decL l = (65533, 1) := by unfold decL; rw [if_neg (by omega), if_neg (by omega), if_neg (by omega), if_neg (by omega)]
            rw [oneL_bad hne hd (by omega)]
        · rw [if_neg hc2]
          have hd : decL l = (65533, 1) := by unfold decL; rw [if_neg (by omega), if_neg (by omega), if_neg (by omega), if_neg (by omega)]
          rw [oneL_bad hne hd (by omega)]
      · rw [if_neg hc]
        have hd : decL l = (65533, 1) := by unfold decL; rw [if_neg (by omega), if_neg (by omega), if_neg (by omega), if_neg (by omega)]
        rw [oneL_bad hne hd (by omega)]
    · rw [if_neg (fun h => hl h.2)]
      have z1 : bAt l 3 = 0 := bAt_out (by omega)
      have hd : decL l = (65533, 1) := by unfold decL; rw [if_neg (by omega), if_neg (by omega), if_neg (by omega), if_neg (by omega)]
      rw [oneL_bad hne hd (by omega)]
  rw [if_neg (fun h => h4 h.1)]
  have hd : decL l = (65533, 1) := by unfold decL; rw [if_neg (by omega), if_neg (by omega), if_neg (by omega), if_neg (by omega)]
  rw [oneL_bad hne hd (by omega)]
/-- At a whole piece. -/
theorem oneL_good {x : Pc} (h : GoodP x) (r : List UInt8) : oneL (x.1 ++ r) = ((x.2 : Int), (x.1.length : Int)) := by
  have hd := h.ext r
  have hne : x.1 ++ r ≠ [] := by
    intro e
    exact h.2.1 (List.append_eq_nil_iff.1 e).1
  unfold oneL
  rw [if_neg hne, hd, if_neg]
  rintro ⟨e1, e2⟩
  exact e2 (by rw [h.2.2 e1]; rfl)
theorem oneL_badP {r : List UInt8} (h : BadP r) : oneL r = (0, 0) := by
  unfold oneL
  rw [if_neg h.1, if_pos ⟨h.2.1, h.2.2⟩]
/-! ### 'from some fuel on' -/
def Ev {α : Type} (f : Nat → Option α) (r : α) : Prop := ∃ K, ∀ k, K ≤ k → f k = some r
theorem Ev.some_ {α : Type} {f : Nat → Option α} {r : α} (h : ∀ k, f (k + 1) = some r) : Ev f r :=
  ⟨1, fun k hk => by obtain ⟨j, rfl⟩ : ∃ j, k = j + 1 := ⟨k - 1, by omega⟩; exact h j⟩
theorem Ev.always {α : Type} {f : Nat → Option α} {r : α} (h : ∀ k, f k = some r) : Ev f r := ⟨0, fun k _ => h k⟩
theorem Ev.step {α : Type} {f g : Nat → Option α} {r : α} (h : Ev g r) (e : ∀ k, f (k + 1) = g k) : Ev f r := by
  obtain ⟨K, hK⟩ := h
  refine ⟨K + 1, fun k hk => ?_⟩
  obtain ⟨j, rfl⟩ : ∃ j, k = j + 1 := ⟨k - 1, by omega⟩
  rw [e]
  exact hK j (by omega)
theorem Ev.same {α : Type} {f g : Nat → Option α} {r : α} (h : Ev g r) (e : ∀ k, f k = g k) : Ev f r := by
  obtain ⟨K, hK⟩ := h
  exact ⟨K, fun k hk => by rw [e]; exact hK k hk⟩
/-- A call first, then the rest. -/
theorem Ev.bind {α β : Type} {f : Nat → Option α} {a : Nat → Option β} {g : Nat → β → Option α} {t : β} {r : α} (ha : Ev a t) (h : Ev (fun k => g k t) r) (e : ∀ k, f (k + 1) = (a k).bind (g k)) : Ev f r := by
  obtain ⟨K, hK⟩ := ha
  obtain ⟨L, hL⟩ := h
  refine ⟨K + L + 1, fun k hk => ?_⟩
  obtain ⟨j, rfl⟩ : ∃ j, k = j + 1 := ⟨k - 1, by omega⟩
  rw [e, hK j (by omega)]
  exact hL j (by omega)
theorem Ev.bind0 {α β : Type} {f : Nat → Option α} {a : Nat → Option β} {g : Nat → β → Option α} {t : β} {r : α} (ha : Ev a t) (h : Ev (fun k => g k t) r) (e : ∀ k, f k = (a k).bind (g k)) : Ev f r := by
  obtain ⟨K, hK⟩ := ha
  obtain ⟨L, hL⟩ := h
  refine ⟨K + L, fun k hk => ?_⟩
  rw [e, hK k (by omega)]
  exact hL k (by omega)
theorem one_ev (l : List UInt8) : Ev (fun k => carcanetref01_One.f k (mkB l)) (oneL l) :=
  ⟨12, fun k hk => by obtain ⟨j, rfl⟩ : ∃ j, k = j + 12 := ⟨k - 12, by omega⟩; exact one_eq j l⟩
theorem width_eq (k : Nat) (r : Int) (h0 : 0 ≤ r) (h1 : r ≤ 1114111) : ∃ t, carcanetref01_Width.f (k + 1) r = some t ∧ (t = 0 ↔ 55296 ≤ r ∧ r ≤ 57343) := by
  have hw : wrap64 r = r := by unfold wrap64; omega
  unfold carcanetref01_Width.f
  rw [hw, if_neg (by omega), if_neg (by omega)]
  by_cases h2 : r ≥ 55296
  · rw [if_pos h2]
    by_cases h3 : r < 57344
    · simp only [carcanetref01_Width.j0, decide_eq_true h3, if_true]
      exact ⟨0, rfl, by omega⟩
    · simp only [carcanetref01_Width.j0, decide_eq_false h3, Bool.false_eq_true, if_false]
      rw [if_neg (by omega), if_neg (by omega)]
      split
      · exact ⟨3, rfl, by omega⟩
      · exact ⟨4, rfl, by omega⟩
  · rw [if_neg h2]
    simp only [carcanetref01_Width.j0, Bool.false_eq_true, if_false]
    split
    · exact ⟨1, rfl, by omega⟩
    · split
      · exact ⟨2, rfl, by omega⟩
      · split
        · exact ⟨3, rfl, by omega⟩
        · exact ⟨4, rfl, by omega⟩
theorem kind2_j2 (k : Nat) (r : Int) (b : Bool) : carcanetref01_Kind.j2 (k + 1) r b = some (if b = true then 4 else if 32 < r ∧ r < 127 then 5 else 0) := by
  simp only [carcanetref01_Kind.j2]
  by_cases hb : b = true
  · simp only [hb, if_true]
  · simp only [hb, Bool.false_eq_true, if_false]
    by_cases h : r ≥ 33
    · rw [if_pos h]
      by_cases h2 : r ≤ 126
      · rw [if_pos h2, if_pos (by omega)]
      · rw [if_neg h2, if_neg (by omega)]
    · rw [if_neg h, if_neg (by omega)]
theorem kind2_j1 (k : Nat) (r : Int) (b : Bool) : carcanetref01_Kind.j1 (k + 2) r b = some (if b = true then 3 else if (65 ≤ r ∧ r ≤ 90) ∨ (97 ≤ r ∧ r ≤ 122) ∨ r = 95 ∨ 128 ≤ r then 4 else if 32 < r ∧ r < 127 then 5 else 0) := by
  unfold carcanetref01_Kind.j1
  simp only [kind2_j2]
  by_cases hb : b = true
  · simp only [hb, if_true]
  · simp only [hb, Bool.false_eq_true, if_false]
    by_cases h1 : r ≥ 65 <;> by_cases h2 : r ≤ 90 <;> by_cases h3 : r ≥ 97 <;> by_cases h4 : r ≤ 122 <;> by_cases h5 : r = 95 <;> by_cases h6 : r ≥ 128 <;> simp [h1, h2, h3, h4, h5, h6] <;> omega
theorem kind2_j0 (k : Nat) (r : Int) (b : Bool) : carcanetref01_Kind.j0 (k + 3) r b = some (if b = true then 1 else if r = 10 then 2 else if 48 ≤ r ∧ r ≤ 57 then 3 else if (65 ≤ r ∧ r ≤ 90) ∨ (97 ≤ r ∧ r ≤ 122) ∨ r = 95 ∨ 128 ≤ r then 4 else if 32 < r ∧ r < 127 then 5 else 0) := by
  unfold carcanetref01_Kind.j0
  simp only [kind2_j1]
  by_cases hb : b = true
  · simp only [hb, if_true]
  · simp only [hb, Bool.false_eq_true, if_false]
    by_cases h1 : r = 10
    · simp only [h1, if_true]
    · simp only [h1, if_false]
      by_cases h2 : r ≥ 48
      · by_cases h3 : r ≤ 57
        · simp only [ge_iff_le.1 h2, h3, ge_iff_le, if_true, decide_true, and_self]
        · simp only [ge_iff_le.1 h2, h3, ge_iff_le, if_true, decide_false, Bool.false_eq_true, if_false, and_false]
      · simp only [show ¬ (48 : Int) ≤ r from h2, ge_iff_le, if_false, Bool.false_eq_true, false_and]
theorem kind2_eq (k : Nat) (r : Int) (h0 : 0 ≤ r) (h1 : r ≤ 1114111) : carcanetref01_Kind.f (k + 3) r = some (kindOf r) := by
  have hw : wrap64 r = r := by unfold wrap64; omega
  obtain ⟨t, ht, hz⟩ := width_eq (k + 2) r h0 h1
  unfold carcanetref01_Kind.f
  rw [show k + 3 = k + 2 + 1 from rfl, ht, Option.bind_some, hw]
  unfold kindOf
  by_cases h2 : t = 0
  · have := hz.1 h2
    rw [if_pos h2, if_pos (by omega)]
  · have h3 := fun h => h2 (hz.2 h)
    rw [if_neg h2, if_neg (show ¬ (r < 0 ∨ r > 1114111 ∨ 55296 ≤ r ∧ r ≤ 57343) by omega)]
    simp only [kind2_j0]
    by_cases h4 : r = 32
    · subst h4
      rfl
    · rw [if_neg h4]
      by_cases h5 : r = 9
      · subst h5
        rfl
      · rw [if_neg (show ¬ (r = 32 ∨ r = 9) by omega), show (r == 9) = false from beq_eq_false_iff_ne.2 h5]
        simp only [Bool.false_eq_true, if_false]
theorem kind2_ev (r : Int) (h0 : 0 ≤ r) (h1 : r ≤ 1114111) : Ev (fun k => carcanetref01_Kind.f k r) (kindOf r) :=
  ⟨3, fun k hk => by obtain ⟨j, rfl⟩ : ∃ j, k = j + 3 := ⟨k - 3, by omega⟩; exact kind2_eq j r h0 h1⟩
theorem extract_mkB (s : ByteArray) (a : Nat) (l : List UInt8) (h : s.data.toList.drop a = l) : s.extract a s.size = mkB l := by
  rw [← mkB_self (s.extract a s.size), extract_from, h]
theorem drop_size {s : ByteArray} {p : Nat} {l : List UInt8} (h : s.data.toList.drop p = l) (hl : l ≠ []) : p + l.length = s.size := by
  have h1 := drop_lt h hl
  have h2 : s.data.toList.length = s.size := rfl
  rw [← h, List.length_drop, h2]
  omega
/-- The kind of the piece at a place. -/
theorem kindat_ev {s : ByteArray} {p : Nat} {x : Pc} {r : List UInt8} (h : s.data.toList.drop p = x.1 ++ r) (hx : GoodP x) : Ev (fun k => carcanetref02_kind.f k s (p : Int)) (kd x, (x.1.length : Int)) := by
  have hp := drop_lt h (fun e => hx.2.1 (List.append_eq_nil_iff.1 e).1)
  have hb := good_bound hx
  have h32 : wrap32 (x.2 : Int) = (x.2 : Int) := by unfold wrap32; omega
  have h1 := one_ev (x.1 ++ r)
  rw [oneL_good hx] at h1
  have h2 := kind2_ev (x.2 : Int) (by omega) (by omega)
  refine Ev.bind0 h1 (g := fun k bt => (carcanetref01_Kind.f k (wrap32 bt.1)).bind fun t145 => some (t145, bt.2)) ?_ (fun k => ?_)
  · refine Ev.bind0 h2 (g := fun _ t => some (t, (x.1.length : Int))) (Ev.always fun _ => rfl) (fun k => ?_)
    rw [h32]
  · unfold carcanetref02_kind.f
    rw [if_neg (by omega), if_pos (by omega), if_pos (by omega), Int.toNat_natCast, extract_mkB s p _ h]
/-- The second reader's runes: whole. -/
theorem decode_good (s : ByteArray) (hs : s.size < 1000000000000) : ∀ (ps : List Pc) (p : Nat) (acc : List S99), s.data.toList.drop p = pbytes ps → AllGood ps → p ≤ s.size → acc.length ≤ p → ∃ l, Ev (fun k => carcanetref01_Decode.l0 k s acc (p : Int)) (l, 0, 0)
  | [], p, acc, h, _, hp, _ => by
    have h2 : s.data.toList.length = s.size := rfl
    have h3 : s.size ≤ p := by
      have := congrArg List.length h
      rw [List.length_drop, h2] at this
      simp [pbytes] at this
      omega
    refine ⟨acc, Ev.some_ fun k => ?_⟩
    simp only [carcanetref01_Decode.l0]
    rw [if_neg (by omega)]
  | x :: ps, p, acc, h, hg, hp, ha => by
    rw [pbytes_cons] at h
    have hx := hg x (by simp)
    have hne : x.1 ++ pbytes ps ≠ [] := fun e => hx.2.1 (List.append_eq_nil_iff.1 e).1
    have h1 := drop_lt h hne
    have h2 := drop_size h hne
    have h0 := hx.pos
    rw [List.length_append] at h2
    obtain ⟨l, hl⟩ := decode_good s hs ps (p + x.1.length) (acc ++ [(⟨(p : Int), wrap32 (x.2 : Int)⟩ : S99)]) (drop_more h) (fun y hy => hg y (by simp [hy])) (by omega) (by simp; omega)
    refine ⟨l, Ev.bind (one_ev (x.1 ++ pbytes ps)) (g := fun k bt137 => (if bt137.2 = 0 then (some (([] : List (S99)), (p : Int), 2)) else (if acc.length < 8796093022208 then (carcanetref01_Decode.l0 k s (acc ++ [(⟨(p : Int), wrap32 (bt137.1)⟩ : S99)]) (wrap64 ((p : Int) + bt137.2))) else (none)))) ?_ (fun k => ?_)⟩
    · rw [oneL_good hx]
      refine hl.same fun k => ?_
      simp only
      rw [if_neg (by omega), if_pos (by omega), show wrap64 ((p : Int) + (x.1.length : Int)) = ((p + x.1.length : Nat) : Int) by unfold wrap64; omega]
    · simp only [carcanetref01_Decode.l0]
      rw [if_pos (by omega), if_pos (by omega), if_pos (by omega), Int.toNat_natCast, extract_mkB s p _ h]
theorem decode_bad (s : ByteArray) (hs : s.size < 1000000000000) (r : List UInt8) (hr : BadP r) : ∀ (ps : List Pc) (p : Nat) (acc : List S99), s.data.toList.drop p = pbytes ps ++ r → AllGood ps → p ≤ s.size → acc.length ≤ p → Ev (fun k => carcanetref01_Decode.l0 k s acc (p : Int)) ([], ((p + (pbytes ps).length : Nat) : Int), 2)
  | [], p, acc, h, _, hp, _ => by
    have h' : s.data.toList.drop p = r := h
    have h1 := drop_lt h' hr.1
    refine Ev.bind (one_ev r) (g := fun k bt137 => (if bt137.2 = 0 then (some (([] : List (S99)), (p : Int), 2)) else (if acc.length < 8796093022208 then (carcanetref01_Decode.l0 k s (acc ++ [(⟨(p : Int), wrap32 (bt137.1)⟩ : S99)]) (wrap64 ((p : Int) + bt137.2))) else (none)))) ?_ (fun k => ?_)
    · rw [oneL_badP hr]
      exact Ev.always fun k => rfl
    · simp only [carcanetref01_Decode.l0]
      rw [if_pos (by omega), if_pos (by omega), if_pos (by omega), Int.toNat_natCast, extract_mkB s p _ h']
  | x :: ps, p, acc, h, hg, hp, ha => by
    rw [pbytes_cons, List.append_assoc] at h
    have hx := hg x (by simp)
    have hne : x.1 ++ (pbytes ps ++ r) ≠ [] := fun e => hx.2.1 (List.append_eq_nil_iff.1 e).1
    have h1 := drop_lt h hne
    have h2 := drop_size h hne
    have h0 := hx.pos
    rw [List.length_append] at h2
    have hl := decode_bad s hs r hr ps (p + x.1.length) (acc ++ [(⟨(p : Int), wrap32 (x.2 : Int)⟩ : S99)]) (drop_more h) (fun y hy => hg y (by simp [hy])) (by omega) (by simp; omega)
    rw [show p + (pbytes (x :: ps)).length = p + x.1.length + (pbytes ps).length by rw [pbytes_cons, List.length_append]; omega]
    refine Ev.bind (one_ev (x.1 ++ (pbytes ps ++ r))) (g := fun k bt137 => (if bt137.2 = 0 then (some (([] : List (S99)), (p : Int), 2)) else (if acc.length < 8796093022208 then (carcanetref01_Decode.l0 k s (acc ++ [(⟨(p : Int), wrap32 (bt137.1)⟩ : S99)]) (wrap64 ((p : Int) + bt137.2))) else (none)))) ?_ (fun k => ?_)
    · rw [oneL_good hx]
      refine hl.same fun k => ?_
      simp only
      rw [if_neg (by omega), if_pos (by omega), show wrap64 ((p : Int) + (x.1.length : Int)) = ((p + x.1.length : Nat) : Int) by unfold wrap64; omega]
    · simp only [carcanetref01_Decode.l0]
      rw [if_pos (by omega), if_pos (by omega), if_pos (by omega), Int.toNat_natCast, extract_mkB s p _ h]
/-! ### the second reader's tokens -/
def t49 (t : S43) : S49 := ⟨t.f0, t.f1, t.f2, t.f3⟩
theorem good_big {x : Pc} (h : GoodP x) (hs : 128 ≤ x.2) : ∀ b ∈ x.1, 128 ≤ b.toNat := by
  have key : ∀ i, i < x.1.length → 128 ≤ bAt x.1 i := by
    intro i hi
    have hd := h.1
    have hlen : x.2 = 65533 → x.1.length = 3 := fun e => by rw [h.2.2 e]; rfl
    unfold decL at hd
    split at hd
    · injection hd with h1 h2
      omega
    · split at hd
      · split at hd
        · injection hd with h1 h2
          have : i = 0 ∨ i = 1 := by omega
          rcases this with rfl | rfl <;> omega
        · injection hd with h1 h2
          omega
      · split at hd
        · split at hd
          · injection hd with h1 h2
            have : i = 0 ∨ i = 1 ∨ i = 2 := by omega
            rcases this with rfl | rfl | rfl <;> omega
          · injection hd with h1 h2
            omega
        · split at hd
          · split at hd
            · injection hd with h1 h2
              have : i = 0 ∨ i = 1 ∨ i = 2 ∨ i = 3 := by omega
              rcases this with rfl | rfl | rfl | rfl <;> omega
            · injection hd with h1 h2
              omega
          · injection hd with h1 h2
            omega
  intro b hb
  obtain ⟨i, hi, rfl⟩ := List.mem_iff_getElem.1 hb
  have := key i hi
  unfold bAt at this
  rwa [List.getD_eq_getElem?_getD, List.getElem?_eq_getElem hi] at this
theorem tw_pieces (p : UInt8 → Bool) (q : Pc → Bool) : ∀ (ps : List Pc), (∀ x ∈ ps, q x = true → ∀ b ∈ x.1, p b = true) → (∀ x ∈ ps, q x = false → ∃ b t, x.1 = b :: t ∧ p b = false) → (pbytes ps).takeWhile p = pbytes (ps.takeWhile q)
  | [], _, _ => rfl
  | x :: ps, h1, h2 => by
    rw [pbytes_cons, List.takeWhile_cons]
    by_cases hq : q x = true
    · rw [if_pos hq, pbytes_cons, List.takeWhile_append_of_pos (h1 x (by simp) hq), tw_pieces p q ps (fun y hy => h1 y (by simp [hy])) (fun y hy => h2 y (by simp [hy]))]
    · obtain ⟨b, t, e, hb⟩ := h2 x (by simp) (by simpa using hq)
      rw [if_neg hq, e, List.cons_append, List.takeWhile_cons, if_neg (by simp [hb])]
      rfl
theorem small_byte {x : Pc} (h : GoodP x) (hs : x.2 < 128) : ∃ b : UInt8, x.1 = [b] ∧ b.toNat = x.2 :=
  ⟨UInt8.ofNat x.2, good_small h hs, UInt8.toNat_ofNat_of_lt' (by show x.2 < 256; omega)⟩
theorem first_big {x : Pc} (h : GoodP x) (hs : 128 ≤ x.2) : ∃ b t, x.1 = b :: t ∧ 128 ≤ b.toNat := by
  obtain ⟨b, t, e⟩ := List.exists_cons_of_ne_nil h.2.1
  exact ⟨b, t, e, good_big h hs b (by rw [e]; simp)⟩
theorem kd2_iff (x : Pc) : kd x = 2 ↔ x.2 = 10 := by
  unfold kd kindOf
  constructor
  · intro h
    revert h
    repeat' split
    all_goals intro h
    all_goals omega
  · intro h
    rw [h]
    rfl
theorem kd3_iff (x : Pc) : kd x = 3 ↔ 48 ≤ x.2 ∧ x.2 ≤ 57 := by
  unfold kd kindOf
  constructor
  · intro h
    revert h
    repeat' split
    all_goals intro h
    all_goals omega
  · rintro ⟨h1, h2⟩
    rw [if_neg (by omega), if_neg (by omega), if_neg (by omega), if_pos (by omega)]
theorem tw_line {ps : List Pc} (hg : AllGood ps) : (pbytes ps).takeWhile (fun b => b != 10) = pbytes (ps.takeWhile isL) := by
  refine tw_pieces _ _ ps (fun x hx hq b hb => ?_) (fun x hx hq => ?_)
  · have hk : kd x ≠ 2 := by simpa [isL] using hq
    have hne : x.2 ≠ 10 := fun e => hk ((kd2_iff x).2 e)
    have hb10 : b.toNat ≠ 10 := by
      rcases Nat.lt_or_ge x.2 128 with h | h
      · obtain ⟨c, e, hc⟩ := small_byte (hg x hx) h
        rw [e] at hb
        simp at hb
        rw [hb, hc]
        exact hne
      · have := good_big (hg x hx) h b hb
        omega
    simp only [bne_iff_ne]
    rintro rfl
    exact hb10 rfl
  · have hk : kd x = 2 := by simpa [isL] using hq
    have h10 := (kd2_iff x).1 hk
    obtain ⟨c, e, hc⟩ := small_byte (hg x hx) (by omega)
    refine ⟨c, [], e, ?_⟩
    have : c = 10 := UInt8.toNat_inj.1 (by rw [hc, h10]; rfl)
    rw [this]
    rfl
def dgB (b : UInt8) : Bool := decide (48 ≤ b.toNat ∧ b.toNat ≤ 57)
theorem tw_digits {ps : List Pc} (hg : AllGood ps) : (pbytes ps).takeWhile dgB = pbytes (ps.takeWhile isD) := by
  refine tw_pieces _ _ ps (fun x hx hq b hb => ?_) (fun x hx hq => ?_)
  · have hk : kd x = 3 := by simpa [isD] using hq
    exact decide_eq_true (kd3_dig (hg x hx) hk b hb)
  · have hk : kd x ≠ 3 := by simpa [isD] using hq
    have hne : ¬ (48 ≤ x.2 ∧ x.2 ≤ 57) := fun e => hk ((kd3_iff x).2 e)
    rcases Nat.lt_or_ge x.2 128 with h | h
    · obtain ⟨c, e, hc⟩ := small_byte (hg x hx) h
      exact ⟨c, [], e, decide_eq_false (by rw [hc]; exact hne)⟩
    · obtain ⟨c, t, e, hc⟩ := first_big (hg x hx) h
      exact ⟨c, t, e, decide_eq_false (by omega)⟩
theorem bt_drop {s : ByteArray} {q : Nat} {b : UInt8} {t : List UInt8} (h : s.data.toList.drop q = b :: t) : bt s (q : Int) = (b.toNat : Int) := by
  have hq := drop_lt h (by simp)
  have h1 : s.data.toList[q]? = some b := by
    have := congrArg List.head? h
    rwa [List.head?_drop] at this
  unfold bt
  rw [dif_pos (by rw [Int.toNat_natCast]; exact hq)]
  have h2 : q < s.data.toList.length := hq
  rw [List.getElem?_eq_getElem h2] at h1
  have h3 : s.data.toList[q] = b := Option.some.inj h1
  simp only [Int.toNat_natCast]
  rw [← h3]
  rfl
theorem drop_nil {s : ByteArray} {q : Nat} (h : s.data.toList.drop q = []) : s.size ≤ q := by
  have h2 : s.data.toList.length = s.size := rfl
  have := congrArg List.length h
  rw [List.length_drop, h2] at this
  simp at this
  omega
theorem l1_ev {s : ByteArray} (hs : s.size < 1000000000000) {R : List S49 × Int × Int} (acc : List S49) : ∀ (bs : List UInt8) (q : Nat), s.data.toList.drop q = bs → q ≤ s.size → Ev (fun k => carcanetref02_Lex.l0 k s acc ((q + (bs.takeWhile (fun b => b != 10)).length : Nat) : Int)) R → Ev (fun k => carcanetref02_Lex.l1 k s acc (q : Int)) R
  | [], q, h, hq, he => by
    have h1 := drop_nil h
    refine he.step fun k => ?_
    simp only [carcanetref02_Lex.l1]
    rw [if_neg (by omega)]
    rfl
  | b :: t, q, h, hq, he => by
    have h1 := drop_lt h (by simp)
    have hb := bt_drop h
    by_cases h10 : b = 10
    · refine he.step fun k => ?_
      simp only [carcanetref02_Lex.l1]
      rw [if_pos (by omega), if_pos (by omega), hb, if_pos (by rw [h10]; rfl), List.takeWhile_cons, if_neg (by simp [h10])]
      rfl
    · have hd : s.data.toList.drop (q + 1) = t := drop_more (l := [b]) h
      have hn : (b.toNat : Int) ≠ 10 := fun e => h10 (UInt8.toNat_inj.1 (by rw [show b.toNat = 10 by omega]; rfl))
      have := l1_ev hs (R := R) acc t (q + 1) hd (by omega) (by
        rw [List.takeWhile_cons, if_pos (by simp [h10])] at he
        rw [show q + 1 + (t.takeWhile (fun b => b != 10)).length = q + (b :: t.takeWhile (fun b => b != 10)).length by simp; omega]
        exact he)
      refine this.step fun k => ?_
      simp only [carcanetref02_Lex.l1]
      rw [if_pos (by omega), if_pos (by omega), hb, if_neg hn, show wrap64 ((q : Int) + 1) = ((q + 1 : Nat) : Int) by unfold wrap64; omega]
theorem l2_ev {s : ByteArray} (hs : s.size < 1000000000000) {R : List S49 × Int × Int} (acc : List S49) (at_ : Int) : ∀ (bs : List UInt8) (q : Nat), s.data.toList.drop q = bs → q ≤ s.size → Ev (fun k => carcanetref02_Lex.j3 k s acc at_ ((q + (bs.takeWhile dgB).length : Nat) : Int) 0) R → Ev (fun k => carcanetref02_Lex.l2 k s acc at_ (q : Int) 0) R
  | [], q, h, hq, he => by
    have h1 := drop_nil h
    refine he.step fun k => ?_
    simp only [carcanetref02_Lex.l2]
    rw [if_neg (by omega)]
    rfl
  | b :: t, q, h, hq, he => by
    have h1 := drop_lt h (by simp)
    have hb := bt_drop h
    by_cases hdg : 48 ≤ b.toNat ∧ b.toNat ≤ 57
    · have hd : s.data.toList.drop (q + 1) = t := drop_more (l := [b]) h
      have := l2_ev hs (R := R) acc at_ t (q + 1) hd (by omega) (by
        rw [List.takeWhile_cons, if_pos (show dgB b = true from decide_eq_true hdg)] at he
        rw [show q + 1 + (t.takeWhile dgB).length = q + (b :: t.takeWhile dgB).length by simp; omega]
        exact he)
      refine this.step fun k => ?_
      simp only [carcanetref02_Lex.l2]
      rw [if_pos (by omega), if_pos (by omega), hb, if_pos (by omega), if_pos (by omega), show wrap64 ((q : Int) + 1) = ((q + 1 : Nat) : Int) by unfold wrap64; omega]
    · refine he.step fun k => ?_
      simp only [carcanetref02_Lex.l2]
      rw [if_pos (by omega), if_pos (by omega), hb, List.takeWhile_cons, if_neg (show ¬ dgB b = true from fun e => hdg (of_decide_eq_true e))]
      by_cases h48 : (b.toNat : Int) ≥ 48
      · rw [if_pos h48, if_neg (by omega)]
        rfl
      · rw [if_neg h48]
        rfl
def lim10 : Nat → Nat
  | 0 => 1
  | j + 1 => 10 * lim10 j
theorem lim10_le (j : Nat) (h : j ≤ 9) : lim10 j ≤ 1000000000 := by
  have : j = 0 ∨ j = 1 ∨ j = 2 ∨ j = 3 ∨ j = 4 ∨ j = 5 ∨ j = 6 ∨ j = 7 ∨ j = 8 ∨ j = 9 := by omega
  rcases this with rfl | rfl | rfl | rfl | rfl | rfl | rfl | rfl | rfl | rfl <;> decide
theorem wrap_digit (v c : Int) (h0 : 0 ≤ v) (h1 : v ≤ 1000000000) (h2 : 48 ≤ c) (h3 : c ≤ 57) : wrap64 ((wrap64 ((wrap64 (v * 10)) + (wrap64 c))) - 48) = v * 10 + (c - 48) := by
  rw [w64 (x := v * 10) (by omega) (by omega), w64 (x := c) (by omega) (by omega), w64 (x := v * 10 + c) (by omega) (by omega), w64 (by omega) (by omega)]
  omega
theorem digit_step (v c : Nat) (h1 : v ≤ 1000000000) (h2 : 48 ≤ c) (h3 : c ≤ 57) : wrap64 ((wrap64 ((wrap64 ((v : Int) * 10)) + (wrap64 (c : Int)))) - 48) = ((v * 10 + (c - 48) : Nat) : Int) := by
  rw [wrap_digit (v : Int) (c : Int) (by omega) (by omega) (by omega) (by omega)]
  omega
/-- The number's digits, one by one; not past nine of them. -/
theorem l3_ev {s : ByteArray} (hs : s.size < 1000000000000) {R : List S49 × Int × Int} (acc : List S49) (at_ : Int) : ∀ (ds : List UInt8) (q j : Nat) (v : Nat) (rest : List UInt8), s.data.toList.drop q = ds ++ rest → (∀ b ∈ ds, isDig b) → j + ds.length ≤ 9 → v < lim10 j → Ev (fun k => carcanetref02_Lex.l3 k s acc at_ ((q + ds.length : Nat) : Int) (numF v ds : Nat) ((q + ds.length : Nat) : Int)) R → Ev (fun k => carcanetref02_Lex.l3 k s acc at_ ((q + ds.length : Nat) : Int) (v : Nat) (q : Int)) R
  | [], q, j, v, rest, h, hd, hl, hv, he => he
  | b :: ds, q, j, v, rest, h, hd, hl, hv, he => by
    have h1 := drop_lt h (by simp)
    have p1 : (q : Int) < ((q + 1 + ds.length : Nat) : Int) := Int.ofNat_lt.2 (Nat.lt_of_lt_of_le (Nat.lt_succ_self q) (Nat.le_add_right _ _))
    have p2 : (0 : Int) ≤ (q : Int) := Int.natCast_nonneg q
    have p3 : (q : Int) < (s.size : Int) := Int.ofNat_lt.2 h1
    have hb := bt_drop (t := ds ++ rest) h
    have hb0 : 48 ≤ b.toNat ∧ b.toNat ≤ 57 := hd b (by simp)
    have hdr : s.data.toList.drop (q + 1) = ds ++ rest := drop_more (l := [b]) h
    have hl' : j + 1 + ds.length ≤ 9 := by rw [List.length_cons] at hl; omega
    have hv' : v * 10 + (b.toNat - 48) < lim10 (j + 1) := by rw [lim10]; omega
    have hbig := lim10_le j (by omega)
    have e0 : q + (b :: ds).length = q + 1 + ds.length := by rw [List.length_cons]; omega
    rw [e0] at he ⊢
    have := l3_ev hs (R := R) acc at_ ds (q + 1) (j + 1) (v * 10 + (b.toNat - 48)) rest hdr (fun c hc => hd c (by simp [hc])) hl' hv' he
    have e1 := digit_step v b.toNat (Nat.le_of_lt (Nat.lt_of_lt_of_le hv hbig)) hb0.1 hb0.2
    have e2 : wrap64 ((q : Int) + 1) = ((q + 1 : Nat) : Int) := by unfold wrap64; omega
    refine this.step fun k => ?_
    simp only [carcanetref02_Lex.l3]
    rw [if_pos p1, if_pos p2, if_pos p3, hb, e1, e2]
theorem l4_ev {s : ByteArray} (hs : s.size < 1000000000000) {R : List S49 × Int × Int} (acc : List S49) (a : Nat)
    : ∀ (r : List Pc) (q : Nat), s.data.toList.drop q = pbytes r → AllGood r → q ≤ s.size → a ≤ q → acc.length ≤ a →
    (32 < (q + (pbytes (r.takeWhile isW)).length) - a → R = ([], (a : Int), 5)) → (¬ 32 < (q + (pbytes (r.takeWhile isW)).length) - a → Ev (fun k => carcanetref02_Lex.l0 k s (acc ++ [(⟨1, (a : Int), s.extract a (q + (pbytes (r.takeWhile isW)).length), 0⟩ : S49)]) ((q + (pbytes (r.takeWhile isW)).length : Nat) : Int)) R) →
    Ev (fun k => carcanetref02_Lex.l4 k s acc (a : Int) (q : Int)) R
  | [], q, h, hg, hq, ha, hc, ha5, he => by
    have h1 := drop_nil h
    have hw : wrap64 ((q : Int) - (a : Int)) = ((q - a : Nat) : Int) := by unfold wrap64; omega
    rw [show q + (pbytes (([] : List Pc).takeWhile isW)).length = q from rfl] at ha5 he
    by_cases hl : 32 < q - a
    · have hR := ha5 hl
      subst hR
      refine Ev.some_ fun k => ?_
      simp only [carcanetref02_Lex.l4]
      rw [if_neg (by omega), hw, if_pos (by omega)]
    · refine (he hl).step fun k => ?_
      simp only [carcanetref02_Lex.l4]
      rw [if_neg (by omega), hw, if_neg (by omega), if_pos (by omega), if_pos (by omega), if_pos (by omega), if_pos (by omega), Int.toNat_natCast, Int.toNat_natCast]
  | x :: r, q, h, hg, hq, ha, hc, ha5, he => by
    rw [pbytes_cons] at h
    have hx := hg x (by simp)
    have hne : x.1 ++ pbytes r ≠ [] := fun e => hx.2.1 (List.append_eq_nil_iff.1 e).1
    have h1 := drop_lt h hne
    have h2 := drop_size h hne
    rw [List.length_append] at h2
    have hk := kindat_ev h hx
    have hw : wrap64 ((q : Int) - (a : Int)) = ((q - a : Nat) : Int) := by unfold wrap64; omega
    refine Ev.bind hk (g := fun k bt159 => (if bt159.1 = 3 then (carcanetref02_Lex.l4 k s acc (a : Int) (wrap64 ((q : Int) + bt159.2))) else (if bt159.1 = 4 then (carcanetref02_Lex.l4 k s acc (a : Int) (wrap64 ((q : Int) + bt159.2))) else (if (wrap64 ((q : Int) - (a : Int))) > 32 then (some (([] : List (S49)), (a : Int), 5)) else (if 0 ≤ (a : Int) then (if (a : Int) ≤ (q : Int) then (if (q : Int) ≤ (s.size : Int) then (if acc.length < 3518437208883 then (carcanetref02_Lex.l0 k s (acc ++ [(⟨1, (a : Int), s.extract (a : Int).toNat (q : Int).toNat, 0⟩ : S49)]) (q : Int)) else (none)) else (none)) else (none)) else (none)))))) ?_ (fun k => ?_)
    · simp only
      by_cases hW : isW x = true
      · have ih := l4_ev hs (R := R) acc a r (q + x.1.length) (drop_more h) (fun y hy => hg y (by simp [hy])) (by omega) (by omega) hc (by
          rw [List.takeWhile_cons, if_pos hW, pbytes_cons, List.length_append, ← Nat.add_assoc] at ha5
          exact ha5) (by
          rw [List.takeWhile_cons, if_pos hW, pbytes_cons, List.length_append, ← Nat.add_assoc] at he
          exact he)
        have e : wrap64 ((q : Int) + (x.1.length : Int)) = ((q + x.1.length : Nat) : Int) := by unfold wrap64; omega
        have hk34 : kd x = 3 ∨ kd x = 4 := by
          simp [isW] at hW
          omega
        refine ih.same fun k => ?_
        rw [e]
        rcases hk34 with h3 | h4
        · rw [if_pos h3]
        · rw [if_neg (by omega), if_pos h4]
      · have hk34 : ¬ kd x = 3 ∧ ¬ kd x = 4 := by
          simp [isW] at hW
          omega
        rw [List.takeWhile_cons, if_neg hW, pbytes_nil, List.length_nil, Nat.add_zero] at ha5 he
        by_cases hl : 32 < q - a
        · have hR := ha5 hl
          subst hR
          refine Ev.always fun k => ?_
          rw [if_neg hk34.1, if_neg hk34.2, hw, if_pos (by omega)]
        · refine (he hl).same fun k => ?_
          rw [if_neg hk34.1, if_neg hk34.2, hw, if_neg (by omega), if_pos (by omega), if_pos (by omega), if_pos (by omega), if_pos (by omega), Int.toNat_natCast, Int.toNat_natCast]
    · simp only [carcanetref02_Lex.l4]
      rw [if_pos (by omega)]
theorem map_snoc (acc : List S43) (t : S43) : (acc ++ [t]).map t49 = acc.map t49 ++ [t49 t] := by simp
theorem pbytes_drop {r : List Pc} (q : Pc → Bool) : pbytes r = pbytes (r.takeWhile q) ++ pbytes (r.dropWhile q) := by rw [← pbytes_append, List.takeWhile_append_dropWhile]
theorem first35 {x : Pc} (h : GoodP x) {b : UInt8} {t : List UInt8} (e : x.1 = b :: t) : b.toNat = 35 ↔ x.2 = 35 := by
  rcases Nat.lt_or_ge x.2 128 with h1 | h1
  · obtain ⟨c, e2, hc⟩ := small_byte h h1
    rw [e2] at e
    injection e with e3 _
    rw [← e3, hc]
  · have := good_big h h1 b (by rw [e]; simp)
    omega
theorem lex2 {s : ByteArray} (hs : s.size < 1000000000000) : ∀ (n : Nat) (ps : List Pc) (p : Nat) (acc : List S43), ps.length ≤ n → s.data.toList.drop p = pbytes ps → AllGood ps → p ≤ s.size → acc.length ≤ p →
    Ev (fun k => carcanetref02_Lex.l0 k s (acc.map t49) (p : Int)) ((lexT p ps acc).1.map t49, (lexT p ps acc).2)
  | n, [], p, acc, _, h, hg, hp, ha => by
    have h1 := drop_nil h
    rw [lexT_nil]
    refine Ev.some_ fun k => ?_
    simp only [carcanetref02_Lex.l0]
    rw [if_neg (by omega)]
  | 0, x :: r, p, acc, hn, h, hg, hp, ha => by simp at hn
  | n + 1, x :: r, p, acc, hn, h, hg, hp, ha => by
    rw [pbytes_cons] at h
    have hx := hg x (by simp)
    have hgr : AllGood r := fun y hy => hg y (by simp [hy])
    have hne : x.1 ++ pbytes r ≠ [] := fun e => hx.2.1 (List.append_eq_nil_iff.1 e).1
    have h1 := drop_lt h hne
    have h2 := drop_size h hne
    rw [List.length_append] at h2
    have hpos := hx.pos
    have hk := kindat_ev h hx
    have hr := drop_more h
    obtain ⟨b, t, e⟩ := List.exists_cons_of_ne_nil hx.2.1
    have hb : bt s (p : Int) = (b.toNat : Int) := bt_drop (t := t ++ pbytes r) (by rw [h, e]; rfl)
    have h35 := first35 hx e
    have ew : wrap64 ((p : Int) + (x.1.length : Int)) = ((p + x.1.length : Nat) : Int) := by unfold wrap64; omega
    have hrn : r.length ≤ n := by simp at hn; exact hn
    have hlm : (acc.map t49).length < 3518437208883 := by rw [List.length_map]; omega
    have hsp : ∀ q : Pc → Bool, (pbytes (r.takeWhile q)).length ≤ (pbytes r).length := fun q => by have e_ := congrArg List.length (pbytes_drop (r := r) q); rw [List.length_append] at e_; omega
    have hdn : ∀ q : Pc → Bool, (r.dropWhile q).length ≤ n := fun q => Nat.le_trans (dropWhile_len q r) hrn
    have hdg : ∀ q : Pc → Bool, AllGood (r.dropWhile q) := fun q y hy => hgr y ((List.dropWhile_sublist q).subset hy)
    have hdd : ∀ q : Pc → Bool, s.data.toList.drop (p + x.1.length + (pbytes (r.takeWhile q)).length) = pbytes (r.dropWhile q) := fun q => drop_more (by rw [hr]; exact pbytes_drop q)
    refine Ev.bind hk (g := fun k bt151 => (if 0 ≤ (p : Int) then (if (bt s (p : Int)) = 35 then (carcanetref02_Lex.l1 k s (acc.map t49) (wrap64 ((p : Int) + bt151.2))) else (if bt151.1 = 2 then (if (acc.map t49).length < 3518437208883 then (carcanetref02_Lex.l0 k s ((acc.map t49) ++ [(⟨4, (p : Int), (⟨#[]⟩ : ByteArray), 0⟩ : S49)]) (wrap64 ((p : Int) + bt151.2))) else (none)) else (if bt151.1 = 3 then (carcanetref02_Lex.l2 k s (acc.map t49) (p : Int) (wrap64 ((p : Int) + bt151.2)) 0) else (if bt151.1 = 4 then (carcanetref02_Lex.l4 k s (acc.map t49) (p : Int) (wrap64 ((p : Int) + bt151.2))) else (if bt151.1 = 5 then (if (p : Int) ≤ (wrap64 ((p : Int) + bt151.2)) then (if (wrap64 ((p : Int) + bt151.2)) ≤ (s.size : Int) then (if (acc.map t49).length < 3518437208883 then (carcanetref02_Lex.l0 k s ((acc.map t49) ++ [(⟨3, (p : Int), s.extract (p : Int).toNat ((wrap64 ((p : Int) + bt151.2)) : Int).toNat, 0⟩ : S49)]) (wrap64 ((p : Int) + bt151.2))) else (none)) else (none)) else (none)) else (if bt151.1 = 1 then (carcanetref02_Lex.l0 k s (acc.map t49) (wrap64 ((p : Int) + bt151.2))) else (some (([] : List (S49)), (p : Int), 3)))))))) else (none))) ?_ (fun k => ?_)
    · simp only
      rw [lexT_cons]
      by_cases c35 : x.2 = 35
      · rw [if_pos c35]
        have ih := lex2 hs n (r.dropWhile isL) (p + x.1.length + (pbytes (r.takeWhile isL)).length) acc (hdn _) (hdd _) (hdg _) (by have := hsp isL; omega) (by omega)
        have h3 := l1_ev hs (acc.map t49) (pbytes r) (p + x.1.length) hr (by omega) (by rw [tw_line hgr]; exact ih)
        refine h3.same fun k => ?_
        rw [if_pos (by omega), hb, if_pos (by have := h35.2 c35; omega), ew]
      · rw [if_neg c35]
        have n35 : ¬ (b.toNat : Int) = 35 := fun e => c35 (h35.1 (by omega))
        by_cases k1 : kd x = 1
        · rw [if_pos k1]
          have ih := lex2 hs n r (p + x.1.length) acc hrn hr hgr (by omega) (by omega)
          refine ih.same fun k => ?_
          rw [if_pos (by omega), hb, if_neg n35, if_neg (by omega), if_neg (by omega), if_neg (by omega), if_neg (by omega), if_pos k1, ew]
        · rw [if_neg k1]
          by_cases k2 : kd x = 2
          · rw [if_pos k2]
            have ih := lex2 hs n r (p + x.1.length) (acc ++ [(⟨4, (p : Int), ⟨#[]⟩, 0⟩ : S43)]) hrn hr hgr (by omega) (by simp; omega)
            rw [map_snoc] at ih
            refine ih.same fun k => ?_
            rw [if_pos (by omega), hb, if_neg n35, if_pos k2, if_pos hlm, ew]
            rfl
          · rw [if_neg k2]
            by_cases k3 : kd x = 3
            · rw [if_pos k3]
              have hds : s.data.toList.drop p = (x.1 ++ pbytes (r.takeWhile isD)) ++ pbytes (r.dropWhile isD) := by rw [h, List.append_assoc, ← pbytes_drop]
              have hle := hsp isD
              have eto : p + (x.1 ++ pbytes (r.takeWhile isD)).length = p + x.1.length + (pbytes (r.takeWhile isD)).length := by rw [List.length_append]; omega
              have hw : wrap64 (((p + x.1.length + (pbytes (r.takeWhile isD)).length : Nat) : Int) - (p : Int)) = ((x.1 ++ pbytes (r.takeWhile isD)).length : Nat) := by rw [← eto]; unfold wrap64; omega
              have step : ∀ {R : List S49 × Int × Int}, Ev (fun k => carcanetref02_Lex.j3 k s (acc.map t49) (p : Int) ((p + x.1.length + (pbytes (r.takeWhile isD)).length : Nat) : Int) 0) R → Ev (fun k => carcanetref02_Lex.l2 k s (acc.map t49) (p : Int) ((p + x.1.length : Nat) : Int) 0) R := fun he => l2_ev hs (acc.map t49) (p : Int) (pbytes r) (p + x.1.length) hr (by omega) (by rw [tw_digits hgr]; exact he)
              by_cases c9 : 9 < (x.1 ++ pbytes (r.takeWhile isD)).length
              · rw [if_pos c9]
                refine (step (R := ([], (p : Int), 4)) (Ev.some_ fun k => ?_)).same fun k => ?_
                · simp only [carcanetref02_Lex.j3]
                  rw [hw, if_pos (by omega)]
                · rw [if_pos (by omega), hb, if_neg n35, if_neg k2, if_pos k3, ew]
              · rw [if_neg c9]
                have ih := lex2 hs n (r.dropWhile isD) (p + x.1.length + (pbytes (r.takeWhile isD)).length) (acc ++ [(⟨2, (p : Int), mkB (x.1 ++ pbytes (r.takeWhile isD)), (numL (x.1 ++ pbytes (r.takeWhile isD)) : Nat)⟩ : S43)]) (hdn _) (hdd _) (hdg _) (by omega) (by simp; omega)
                rw [map_snoc] at ih
                have h3 := l3_ev hs (acc.map t49) (p : Int) (x.1 ++ pbytes (r.takeWhile isD)) p 0 0 (pbytes (r.dropWhile isD)) hds (digits_of hx hgr k3) (by omega) (by decide) (R := ((lexT (p + x.1.length + (pbytes (r.takeWhile isD)).length) (r.dropWhile isD) (acc ++ [(⟨2, (p : Int), mkB (x.1 ++ pbytes (r.takeWhile isD)), (numL (x.1 ++ pbytes (r.takeWhile isD)) : Nat)⟩ : S43)])).1.map t49, (lexT (p + x.1.length + (pbytes (r.takeWhile isD)).length) (r.dropWhile isD) (acc ++ [(⟨2, (p : Int), mkB (x.1 ++ pbytes (r.takeWhile isD)), (numL (x.1 ++ pbytes (r.takeWhile isD)) : Nat)⟩ : S43)])).2)) (by
                  refine ih.step fun k => ?_
                  simp only [carcanetref02_Lex.l3]
                  rw [if_neg (by omega), if_pos (by omega), if_pos (by omega), if_pos (by omega), if_pos hlm, Int.toNat_natCast, Int.toNat_natCast, extract_line s p _ hds, List.take_left' rfl, eto]
                  rfl)
                rw [eto] at h3
                refine (step (h3.step fun k => ?_)).same fun k => ?_
                · simp only [carcanetref02_Lex.j3]
                  rw [hw, if_neg (by omega)]
                  rfl
                · rw [if_pos (by omega), hb, if_neg n35, if_neg k2, if_pos k3, ew]
            · rw [if_neg k3]
              by_cases k4 : kd x = 4
              · rw [if_pos k4]
                have hds : s.data.toList.drop p = (x.1 ++ pbytes (r.takeWhile isW)) ++ pbytes (r.dropWhile isW) := by rw [h, List.append_assoc, ← pbytes_drop]
                have hle := hsp isW
                have eto : p + (x.1 ++ pbytes (r.takeWhile isW)).length = p + x.1.length + (pbytes (r.takeWhile isW)).length := by rw [List.length_append]; omega
                by_cases c9 : 32 < (x.1 ++ pbytes (r.takeWhile isW)).length
                · rw [if_pos c9]
                  have h4 := l4_ev hs (acc.map t49) p r (p + x.1.length) hr hgr (by omega) (by omega) (by rw [List.length_map]; exact ha) (R := ([], (p : Int), 5)) (fun _ => rfl) (fun hn_ => absurd (show 32 < p + x.1.length + (pbytes (r.takeWhile isW)).length - p by omega) hn_)
                  refine h4.same fun k => ?_
                  rw [if_pos (by omega), hb, if_neg n35, if_neg k2, if_neg k3, if_pos k4, ew]
                · rw [if_neg c9]
                  have ih := lex2 hs n (r.dropWhile isW) (p + x.1.length + (pbytes (r.takeWhile isW)).length) (acc ++ [(⟨1, (p : Int), mkB (x.1 ++ pbytes (r.takeWhile isW)), 0⟩ : S43)]) (hdn _) (hdd _) (hdg _) (by omega) (by simp; omega)
                  rw [map_snoc] at ih
                  have h4 := l4_ev hs (acc.map t49) p r (p + x.1.length) hr hgr (by omega) (by omega) (by rw [List.length_map]; exact ha) (fun h_ => absurd h_ (by omega)) (fun _ => by
                    rw [← eto, extract_line s p _ hds, List.take_left' rfl, eto]
                    exact ih)
                  refine h4.same fun k => ?_
                  rw [if_pos (by omega), hb, if_neg n35, if_neg k2, if_neg k3, if_pos k4, ew]
              · rw [if_neg k4]
                by_cases k5 : kd x = 5
                · rw [if_pos k5]
                  have ih := lex2 hs n r (p + x.1.length) (acc ++ [(⟨3, (p : Int), mkB x.1, 0⟩ : S43)]) hrn hr hgr (by omega) (by simp; omega)
                  rw [map_snoc] at ih
                  refine ih.same fun k => ?_
                  rw [if_pos (by omega), hb, if_neg n35, if_neg k2, if_neg k3, if_neg k4, if_pos k5, ew, if_pos (by omega), if_pos (by omega), if_pos hlm, Int.toNat_natCast, Int.toNat_natCast, extract_line s p _ h, List.take_left']
                  · rfl
                  · rfl
                · rw [if_neg k5]
                  refine Ev.always fun k => ?_
                  rw [if_pos (by omega), hb, if_neg n35, if_neg k2, if_neg k3, if_neg k4, if_neg k5, if_neg k1]
                  rfl
    · simp only [carcanetref02_Lex.l0]
      rw [if_pos (by omega)]
theorem lex2_eq (ln : List UInt8) (h : ln.length < 1000000000000) : Ev (fun k => carcanetref02_Lex.f k (mkB ln)) ((lexS ln).1.map t49, (lexS ln).2) := by
  have hs : (mkB ln).size < 1000000000000 := by rw [mkB_size]; exact h
  obtain ⟨ps, r, hg, e, hc⟩ := lex_cases ln h
  have hS := lexS_some ln h
  rcases hc with ⟨rfl, h1⟩ | ⟨hr, h1⟩
  · rw [h1] at hS
    have hS' := Option.some.inj hS
    have hd : (mkB ln).data.toList.drop 0 = pbytes ps := by rw [mkB_data, List.drop_zero, e, List.append_nil]
    obtain ⟨l, hl⟩ := decode_good (mkB ln) hs ps 0 [] hd hg (Nat.zero_le _) (Nat.zero_le _)
    have h2 := lex2 hs ps.length ps 0 [] (Nat.le_refl _) hd hg (Nat.zero_le _) (Nat.zero_le _)
    rw [← hS']
    refine Ev.bind0 (a := fun k => carcanetref01_Decode.f k (mkB ln)) (t := (l, 0, 0)) (g := fun k bt146 => if bt146.2.2 = 0 then carcanetref02_Lex.l0 k (mkB ln) ([] : List S49) 0 else some (([] : List S49), bt146.2.1, bt146.2.2)) (hl.same fun k => rfl) (h2.same fun k => ?_) (fun k => rfl)
    simp only [if_true]
    rfl
  · rw [h1] at hS
    have hS' := Option.some.inj hS
    have hd : (mkB ln).data.toList.drop 0 = pbytes ps ++ r := by rw [mkB_data, List.drop_zero, e]
    have hl := decode_bad (mkB ln) hs r hr ps 0 [] hd hg (Nat.zero_le _) (Nat.zero_le _)
    rw [← hS']
    refine Ev.bind0 (a := fun k => carcanetref01_Decode.f k (mkB ln)) (t := ([], ((0 + (pbytes ps).length : Nat) : Int), 2)) (g := fun k bt146 => if bt146.2.2 = 0 then carcanetref02_Lex.l0 k (mkB ln) ([] : List S49) 0 else some (([] : List S49), bt146.2.1, bt146.2.2)) (hl.same fun k => rfl) (Ev.always fun k => ?_) (fun k => rfl)
    simp only
    rw [if_neg (by decide), Nat.zero_add]
    rfl
end Go.Proofs.YtmdmdbiinngneaaGreatDoor.Q

import GoSem.Core.Utf8
import Derived.Lib.AtoiAll
import Derived.Lib.ItoaNum
namespace Go.Proofs.YtmdmdbiinngneaaGreatDoor.Pieces
open Go

/-- A byte's number at a place (0 behind the end). -/
def bAt (l : List UInt8) (k : Nat) : Nat := (l.getD k 0).toNat
/-- The rune that pbytes begin with, and how many pbytes it takes. -/
def decL (l : List UInt8) : Nat × Nat :=
  if bAt l 0 < 0x80 then (bAt l 0, 1)
  else if bAt l 0 / 32 = 6 ∧ bAt l 1 / 64 = 2 then
    if 0x80 ≤ (bAt l 0 % 32) * 64 + bAt l 1 % 64 then ((bAt l 0 % 32) * 64 + bAt l 1 % 64, 2) else (65533, 1)
  else if bAt l 0 / 16 = 14 ∧ bAt l 1 / 64 = 2 ∧ bAt l 2 / 64 = 2 then
    if 0x800 ≤ (bAt l 0 % 16) * 4096 + (bAt l 1 % 64) * 64 + bAt l 2 % 64 ∧ ((bAt l 0 % 16) * 4096 + (bAt l 1 % 64) * 64 + bAt l 2 % 64 < 0xD800 ∨ 0xE000 ≤ (bAt l 0 % 16) * 4096 + (bAt l 1 % 64) * 64 + bAt l 2 % 64) then ((bAt l 0 % 16) * 4096 + (bAt l 1 % 64) * 64 + bAt l 2 % 64, 3) else (65533, 1)
  else if bAt l 0 / 8 = 30 ∧ bAt l 1 / 64 = 2 ∧ bAt l 2 / 64 = 2 ∧ bAt l 3 / 64 = 2 then
    if 0x10000 ≤ (bAt l 0 % 8) * 262144 + (bAt l 1 % 64) * 4096 + (bAt l 2 % 64) * 64 + bAt l 3 % 64 ∧ (bAt l 0 % 8) * 262144 + (bAt l 1 % 64) * 4096 + (bAt l 2 % 64) * 64 + bAt l 3 % 64 ≤ 0x10FFFF then ((bAt l 0 % 8) * 262144 + (bAt l 1 % 64) * 4096 + (bAt l 2 % 64) * 64 + bAt l 3 % 64, 4) else (65533, 1)
  else (65533, 1)

theorem get!_drop (s : ByteArray) (i k : Nat) : (s.get! (i + k)).toNat = bAt (s.data.toList.drop i) k := by
  unfold bAt
  rw [List.getD_eq_getElem?_getD, List.getElem?_drop, Array.getElem?_toList]
  show (s.data[i + k]!).toNat = _
  rw [Array.getElem!_eq_getD, Array.getD_eq_getD_getElem?]
  rfl
theorem bAt_out {l : List UInt8} {k : Nat} (h : l.length ≤ k) : bAt l k = 0 := by
  unfold bAt
  rw [List.getD_eq_getElem?_getD, List.getElem?_eq_none h]
  rfl
theorem cont_eq (s : ByteArray) (i k : Nat) : (i + k < s.size ∧ bAt (s.data.toList.drop i) k / 64 = 2) = (bAt (s.data.toList.drop i) k / 64 = 2) := by
  rw [eq_iff_iff]
  refine ⟨fun h => h.2, fun h => ⟨?_, h⟩⟩
  by_cases h2 : i + k < s.size
  · exact h2
  · rw [bAt_out (by
      have : s.data.toList.length = s.size := rfl
      rw [List.length_drop]; omega)] at h
    omega
theorem valid3 (c : Nat) (h : c < 65536) : Utf8.valid (c : Int) = decide (c < 0xD800 ∨ 0xE000 ≤ c) := by
  unfold Utf8.valid
  rw [Bool.eq_iff_iff]
  simp
  omega
theorem valid4 (c : Nat) (h : 65536 ≤ c) : Utf8.valid (c : Int) = decide (c ≤ 0x10FFFF) := by
  unfold Utf8.valid
  rw [Bool.eq_iff_iff]
  simp
  omega
theorem decode_eq (s : ByteArray) (i : Nat) : Utf8.decode s i = decL (s.data.toList.drop i) := by
  unfold Utf8.decode decL
  simp only [get!_drop, Bool.and_eq_true, beq_iff_eq, decide_eq_true_eq, and_assoc, ge_iff_le, Utf8.runeError, cont_eq]
  have hb : ∀ k, bAt (s.data.toList.drop i) k < 256 := fun k => UInt8.toNat_lt _
  generalize bAt (s.data.toList.drop i) 0 = b0 at *
  generalize bAt (s.data.toList.drop i) 1 = b1 at *
  generalize bAt (s.data.toList.drop i) 2 = b2 at *
  generalize bAt (s.data.toList.drop i) 3 = b3 at *
  refine ite_congr rfl (fun _ => rfl) fun _ => ite_congr rfl (fun _ => rfl) fun _ => ite_congr rfl (fun _ => ?_) fun _ => ite_congr rfl (fun _ => ?_) fun _ => rfl
  · refine ite_congr ?_ (fun _ => rfl) (fun _ => rfl)
    rw [valid3 _ (by omega)]
    simp
  · by_cases h : 65536 ≤ b0 % 8 * 262144 + b1 % 64 * 4096 + b2 % 64 * 64 + b3 % 64
    · rw [valid4 _ h]
      simp [h]
    · simp [h]

/-- A rune's pbytes and its number. -/
abbrev Pc := List UInt8 × Nat
def GoodP (x : Pc) : Prop := decL x.1 = (x.2, x.1.length) ∧ x.1 ≠ [] ∧ (x.2 = 65533 → x.1 = [239, 191, 189])
def BadP (r : List UInt8) : Prop := r ≠ [] ∧ (decL r).1 = 65533 ∧ r.take 3 ≠ [239, 191, 189]
def pbytes (ps : List Pc) : List UInt8 := ps.flatMap (·.1)
theorem pbytes_nil : pbytes [] = [] := rfl
theorem pbytes_cons (x : Pc) (ps : List Pc) : pbytes (x :: ps) = x.1 ++ pbytes ps := by simp [pbytes]
theorem pbytes_append (ps qs : List Pc) : pbytes (ps ++ qs) = pbytes ps ++ pbytes qs := by simp [pbytes]

theorem decL_len (l : List UInt8) (h : (decL l).1 ≠ 65533) (h0 : l ≠ []) : (decL l).2 ≤ l.length ∧ 1 ≤ (decL l).2 := by
  have hc : ∀ k, bAt l k / 64 = 2 → k < l.length := fun k hk => by
    by_cases hl : l.length ≤ k
    · rw [bAt_out hl] at hk; omega
    · omega
  have hpos : 1 ≤ l.length := by cases l with | nil => exact absurd rfl h0 | cons => simp
  unfold decL at h ⊢
  split
  · exact ⟨hpos, Nat.le_refl _⟩
  · split
    · rename_i h1
      have := hc 1 h1.2
      split <;> exact ⟨by simp only; omega, by simp⟩
    · split
      · rename_i h1
        have := hc 2 h1.2.2
        split <;> exact ⟨by simp only; omega, by simp⟩
      · split
        · rename_i h1
          have := hc 3 h1.2.2.2
          split <;> exact ⟨by simp only; omega, by simp⟩
        · exact ⟨hpos, Nat.le_refl _⟩
theorem bAt_cons0 (a : UInt8) (l : List UInt8) : bAt (a :: l) 0 = a.toNat := rfl
theorem decL_take (l m : List UInt8) (h : ∀ k, k < (decL l).2 → bAt m k = bAt l k) (hf : (decL l).1 = 65533 → 3 ≤ (decL l).2) : decL m = decL l := by
  have h0 : 1 ≤ (decL l).2 := by
    unfold decL
    repeat' split
    all_goals simp only
    all_goals omega
  have e0 := h 0 (by omega)
  have key : (∀ k, k < 4 → k < (decL l).2 → bAt m k = bAt l k) := fun k _ hk => h k hk
  clear h h0
  unfold decL at key hf ⊢
  rw [e0]
  by_cases c1 : bAt l 0 < 128
  · rw [if_pos c1, if_pos c1]
  · simp only [if_neg c1] at key hf ⊢
    by_cases c2 : bAt l 0 / 32 = 6 ∧ bAt l 1 / 64 = 2
    · simp only [if_pos c2] at key hf ⊢
      by_cases d2 : 128 ≤ bAt l 0 % 32 * 64 + bAt l 1 % 64
      · simp only [if_pos d2] at key ⊢
        have e1 := key 1 (by omega) (by omega)
        simp only [e1]
        rw [if_pos c2, if_pos d2]
      · simp only [if_neg d2] at hf
        exact absurd (hf trivial) (by decide)
    · simp only [if_neg c2] at key hf ⊢
      by_cases c3 : bAt l 0 / 16 = 14 ∧ bAt l 1 / 64 = 2 ∧ bAt l 2 / 64 = 2
      · simp only [if_pos c3] at key hf ⊢
        split at key
        · rename_i d3
          have e1 := key 1 (by omega) (by simp)
          have e2 := key 2 (by omega) (by simp)
          simp only [e1, e2]
          rw [if_neg c2, if_pos c3, if_pos d3]
        · rename_i d3
          simp only [if_neg d3] at hf
          exact absurd (hf trivial) (by decide)
      · simp only [if_neg c3] at key hf ⊢
        by_cases c4 : bAt l 0 / 8 = 30 ∧ bAt l 1 / 64 = 2 ∧ bAt l 2 / 64 = 2 ∧ bAt l 3 / 64 = 2
        · simp only [if_pos c4] at key hf ⊢
          split at key
          · rename_i d4
            have e1 := key 1 (by omega) (by simp)
            have e2 := key 2 (by omega) (by simp)
            have e3 := key 3 (by omega) (by simp)
            simp only [e1, e2, e3]
            rw [if_neg c2, if_neg c3, if_pos c4, if_pos d4]
          · rename_i d4
            simp only [if_neg d4] at hf
            exact absurd (hf trivial) (by decide)
        · simp only [if_neg c4] at hf
          exact absurd (hf trivial) (by decide)

theorem bAt_append_left {l r : List UInt8} {k : Nat} (h : k < l.length) : bAt (l ++ r) k = bAt l k := by
  unfold bAt
  rw [List.getD_eq_getElem?_getD, List.getElem?_append_left h, List.getD_eq_getElem?_getD]
theorem bAt_take {l : List UInt8} {n k : Nat} (h : k < n) : bAt (l.take n) k = bAt l k := by
  unfold bAt
  rw [List.getD_eq_getElem?_getD, List.getElem?_take_of_lt h, List.getD_eq_getElem?_getD]
theorem GoodP.pos {x : Pc} (h : GoodP x) : 0 < x.1.length := List.length_pos_iff.2 h.2.1
theorem GoodP.ext {x : Pc} (h : GoodP x) (r : List UInt8) : decL (x.1 ++ r) = (x.2, x.1.length) := by
  rw [← h.1]
  refine decL_take x.1 _ (fun k hk => bAt_append_left ?_) (fun hf => ?_)
  · rw [h.1] at hk; exact hk
  · rw [h.1] at hf ⊢
    have := h.2.2 hf
    rw [this]
    exact Nat.le_refl 3
theorem take3_of {r : List UInt8} (h : r.take 3 = [239, 191, 189]) : decL r = (65533, 3) := by
  have h2 : decL (r.take 3) = (65533, 3) := by rw [h]; decide
  rw [← h2]
  have := decL_take (r.take 3) r (fun k hk => ?_) (fun _ => ?_)
  · exact this
  · rw [h2] at hk
    exact (bAt_take hk).symm
  · rw [h2]; decide
/-- The first rune of pbytes that do not begin badly. -/
theorem good_head {r : List UInt8} (h0 : r ≠ []) (hb : ¬ BadP r) : GoodP (r.take (decL r).2, (decL r).1) ∧ 0 < (decL r).2 ∧ (decL r).2 ≤ r.length := by
  by_cases h3 : r.take 3 = [239, 191, 189]
  · have e := take3_of h3
    rw [e]
    have hl : 3 ≤ r.length := by
      have := congrArg List.length h3
      rw [List.length_take] at this
      simp at this
      omega
    refine ⟨⟨?_, ?_, fun _ => h3⟩, by decide, hl⟩
    · show decL (r.take 3) = _
      rw [h3]; decide
    · show r.take 3 ≠ []
      rw [h3]; simp
  · have hn : (decL r).1 ≠ 65533 := fun h => hb ⟨h0, h, h3⟩
    obtain ⟨h1, h2⟩ := decL_len r hn h0
    have e : decL (r.take (decL r).2) = decL r := decL_take r _ (fun k hk => bAt_take hk) (fun h => absurd h hn)
    refine ⟨⟨?_, ?_, fun h => absurd h hn⟩, h2, h1⟩
    · show decL (r.take (decL r).2) = ((decL r).1, (r.take (decL r).2).length)
      rw [e, List.length_take, Nat.min_eq_left h1]
    · intro h
      have := congrArg List.length h
      rw [List.length_take, Nat.min_eq_left h1] at this
      simp only [List.length_nil] at this
      omega
def AllGood (ps : List Pc) : Prop := ∀ x ∈ ps, GoodP x
theorem AllGood.cons {x : Pc} {ps : List Pc} (h : GoodP x) (k : AllGood ps) : AllGood (x :: ps) := List.forall_mem_cons.2 ⟨h, k⟩
/-- Any pbytes: runes, and then either nothing or what begins badly. -/
theorem split_bytes : ∀ (n : Nat) (l : List UInt8), l.length ≤ n → ∃ ps r, AllGood ps ∧ l = pbytes ps ++ r ∧ (r = [] ∨ BadP r)
  | n, [], _ => ⟨[], [], by simp [AllGood], rfl, .inl rfl⟩
  | 0, a :: l, h => absurd h (by simp)
  | n + 1, a :: l, h => by
    by_cases hb : BadP (a :: l)
    · exact ⟨[], a :: l, by simp [AllGood], rfl, .inr hb⟩
    · obtain ⟨hg, h1, h2⟩ := good_head (List.cons_ne_nil _ _) hb
      obtain ⟨ps, r, hp, he, hr⟩ := split_bytes n ((a :: l).drop (decL (a :: l)).2) (by rw [List.length_drop]; simp at h ⊢; omega)
      refine ⟨_ :: ps, r, AllGood.cons hg hp, ?_, hr⟩
      rw [pbytes_cons, List.append_assoc, ← he, List.take_append_drop]
/-- The piece of a rune below 128 is its byte. -/
theorem good_small {x : Pc} (h : GoodP x) (hs : x.2 < 128) : x.1 = [UInt8.ofNat x.2] := by
  obtain ⟨h1, h2, h3⟩ := h
  obtain ⟨l, c⟩ := x
  simp only at h1 h2 h3 hs
  cases l with
  | nil => exact absurd rfl h2
  | cons a l =>
    unfold decL at h1
    have hb : ∀ k, bAt (a :: l) k < 256 := fun k => UInt8.toNat_lt _
    by_cases hc : bAt (a :: l) 0 < 128
    · rw [if_pos hc] at h1
      injection h1 with h4 h5
      simp only [List.length_cons] at h5
      have hl : l = [] := List.length_eq_zero_iff.1 (by omega)
      subst hl
      rw [bAt_cons0] at h4
      rw [← h4]
      simp
    · rw [if_neg hc] at h1
      exfalso
      revert h1
      repeat' split
      all_goals intro h1
      all_goals injection h1 with h4 h5
      all_goals omega
theorem good_bound {x : Pc} (h : GoodP x) : x.2 ≤ 1114111 ∧ ¬ (55296 ≤ x.2 ∧ x.2 ≤ 57343) := by
  have h1 := h.1
  have hb : ∀ k, bAt x.1 k < 256 := fun k => UInt8.toNat_lt _
  have := hb 0
  have := hb 1
  have := hb 2
  have := hb 3
  unfold decL at h1
  revert h1
  repeat' split
  all_goals intro h1
  all_goals injection h1 with h4 h5
  all_goals omega
/-- Two ways to cut the same pbytes into runes are one. -/
theorem good_unique : ∀ (ps qs : List Pc), AllGood ps → AllGood qs → pbytes ps = pbytes qs → ps = qs
  | [], [], _, _, _ => rfl
  | [], y :: qs, _, hq, h => by
    rw [pbytes_cons] at h
    have h1 := (hq y (by simp)).pos
    have h2 := congrArg List.length h
    rw [List.length_append, pbytes_nil, List.length_nil] at h2
    omega
  | x :: ps, [], hp, _, h => by
    rw [pbytes_cons] at h
    have h1 := (hp x (by simp)).pos
    have h2 := congrArg List.length h
    rw [List.length_append, pbytes_nil, List.length_nil] at h2
    omega
  | x :: ps, y :: qs, hp, hq, h => by
    rw [pbytes_cons, pbytes_cons] at h
    have ex := (hp x (by simp)).ext (pbytes ps)
    have ey := (hq y (by simp)).ext (pbytes qs)
    rw [h, ey] at ex
    injection ex with e1 e2
    have e3 : x.1 = y.1 := (List.append_inj h (by omega)).1
    have e4 : x = y := Prod.ext e3 e1.symm
    subst e4
    rw [List.append_cancel_left_eq] at h
    rw [good_unique ps qs (fun z hz => hp z (by simp [hz])) (fun z hz => hq z (by simp [hz])) h]
end Go.Proofs.YtmdmdbiinngneaaGreatDoor.Pieces

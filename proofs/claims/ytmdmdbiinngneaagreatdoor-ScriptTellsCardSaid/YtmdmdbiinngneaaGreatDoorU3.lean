import Derived.Test.YtmdmdbiinngneaaGreatDoorQ6
import Derived.Test.YtmdmdbiinngneaaGreatDoorU1
import Derived.Test.YtmdmdbiinngneaaGreatDoorU2
import Derived.Laws.Strings
import Derived.Laws.RangeString
namespace Go.Proofs.YtmdmdbiinngneaaGreatDoor.Q
open Go Go.RowKit Go.Proofs.YtmdmdbiinngneaaGreatDoorW.PrintWords Go.Proofs.YtmdmdbiinngneaaGreatDoorW.PrintLast Go.Proofs.YtmdmdbiinngneaaGreatDoorW.PrintMore Go.Proofs.YtmdmdbiinngneaaGreatDoor.Pieces
set_option linter.unusedVariables false
set_option linter.unusedSimpArgs false
/-! ### Runes and pieces -/
def runesAt (p : Nat) : List Pc → List S72
  | [] => []
  | x :: r => ⟨(p : Int), (x.2 : Int)⟩ :: runesAt (p + x.1.length) r
def posAt (ps : List Pc) (i : Nat) : Nat := (pbytes (ps.take i)).length
theorem runesAt_length (p : Nat) (ps : List Pc) : (runesAt p ps).length = ps.length := by
  induction ps generalizing p with
  | nil => rfl
  | cons x r ih => simp [runesAt, ih]
theorem posAt_succ (x : Pc) (ps : List Pc) (i : Nat) : posAt (x :: ps) (i + 1) = x.1.length + posAt ps i := by
  simp [posAt, pbytes_cons]
theorem posAt_zero (ps : List Pc) : posAt ps 0 = 0 := rfl
theorem posAt_all (ps : List Pc) : posAt ps ps.length = (pbytes ps).length := by simp [posAt]
theorem rd_runesAt : ∀ (ps : List Pc) (p i : Nat) (h : i < ps.length), rd_T72 (runesAt p ps) (i : Int) = ⟨((p + posAt ps i : Nat) : Int), ((ps[i]'h).2 : Int)⟩
  | x :: r, p, 0, h => by simp [rd_T72, runesAt, posAt_zero]
  | x :: r, p, i + 1, h => by
    have := rd_runesAt r (p + x.1.length) i (by simpa using h)
    unfold rd_T72 at this ⊢
    simp only [Int.toNat_natCast] at this ⊢
    simp only [runesAt, List.getD_cons_succ, this, posAt_succ, List.getElem_cons_succ]
    congr 2
    omega
theorem isFFFD_eq (s : ByteArray) (pos : Nat) : isFFFD s pos = decide ((s.data.toList.drop pos).take 3 = [239, 191, 189]) := by
  have e1 : (s.extract pos s.size).data.toList = s.data.toList.drop pos := by
    rw [ByteArray.data_extract, Array.toList_extract]
    rw [List.extract_eq_take_drop, List.take_of_length_le]
    have : s.data.toList.length = s.size := rfl
    rw [List.length_drop]; omega
  have e2 : ((s.extract pos s.size).extract 0 ((3 : Nat) : Int).toNat).toList = (s.data.toList.drop pos).take 3 := by
    rw [ByteArray.toList_eq]
    rw [ByteArray.data_extract, Array.toList_extract, e1]
    simp
  have e3 : (s.extract pos s.size).size = (s.data.toList.drop pos).length := by rw [← e1]; rfl
  unfold isFFFD
  rw [e2, e3, ByteArray.toList_eq]
  rw [Bool.eq_iff_iff]
  simp only [Bool.and_eq_true, decide_eq_true_eq, beq_iff_eq]
  constructor
  · exact fun h => h.2
  · intro h
    refine ⟨?_, h⟩
    have := congrArg List.length h
    rw [List.length_take] at this
    simp at this ⊢
    omega
theorem drop_lt {s : ByteArray} {pos : Nat} {l : List UInt8} (h : s.data.toList.drop pos = l) (hl : l ≠ []) : pos < s.size := by
  have h2 := congrArg List.length h
  have : s.data.toList.length = s.size := rfl
  have := List.length_pos_iff.2 hl
  rw [List.length_drop] at h2
  omega
theorem drop_more {s : ByteArray} {pos : Nat} {l m : List UInt8} (h : s.data.toList.drop pos = l ++ m) : s.data.toList.drop (pos + l.length) = m := by
  rw [← List.drop_drop, h]; simp
theorem dgo_step (s : ByteArray) (b pos : Nat) (acc : List S72) (h : pos < s.size) (hn : ((Utf8.decode s pos).1 == 65533 && !isFFFD s pos) = false) :
    runes_Decode.go s (b + 1) pos acc = runes_Decode.go s b (pos + (Utf8.decode s pos).2) (acc ++ [(⟨pos, (Utf8.decode s pos).1⟩ : S72)]) := by
  simp only [runes_Decode.go, h, if_true, hn, Bool.false_eq_true, if_false]
theorem dgo_bad (s : ByteArray) (b pos : Nat) (acc : List S72) (h : pos < s.size) (hn : ((Utf8.decode s pos).1 == 65533 && !isFFFD s pos) = true) :
    runes_Decode.go s (b + 1) pos acc = ([], (pos : Int), 2) := by
  simp only [runes_Decode.go, h, if_true, hn]
theorem dgo_end (s : ByteArray) (b pos : Nat) (acc : List S72) (h : ¬ pos < s.size) : runes_Decode.go s b pos acc = (acc, 0, 0) := by
  cases b <;> simp [runes_Decode.go, h]
theorem go_good (s : ByteArray) : ∀ (ps : List Pc) (pos b : Nat) (acc : List S72), s.data.toList.drop pos = pbytes ps → AllGood ps → ps.length ≤ b → runes_Decode.go s b pos acc = (acc ++ runesAt pos ps, 0, 0)
  | [], pos, b, acc, hd, _, _ => by
    have : ¬ pos < s.size := by
      have h2 := congrArg List.length hd
      have : s.data.toList.length = s.size := rfl
      rw [List.length_drop, pbytes_nil, List.length_nil] at h2
      omega
    rw [dgo_end s b pos acc this]
    simp [runesAt]
  | x :: r, pos, b, acc, hd, hg, hb => by
    obtain ⟨b, rfl⟩ : ∃ c, b = c + 1 := ⟨b - 1, by simp at hb; omega⟩
    have hx := hg x (by simp)
    rw [pbytes_cons] at hd
    have hlt := drop_lt hd (by simp [hx.2.1])
    have hdec : Utf8.decode s pos = (x.2, x.1.length) := by rw [decode_eq, hd]; exact hx.ext _
    rw [dgo_step s b pos acc hlt (by
      rw [hdec, isFFFD_eq, hd]
      by_cases h : x.2 = 65533
      · rw [hx.2.2 h]; simp
      · simp [h])]
    rw [hdec, go_good s r (pos + x.1.length) b _ (drop_more hd) (fun y hy => hg y (by simp [hy])) (by simpa using hb)]
    simp [runesAt]
theorem go_bad (s : ByteArray) : ∀ (ps : List Pc) (r : List UInt8) (pos b : Nat) (acc : List S72), s.data.toList.drop pos = pbytes ps ++ r → AllGood ps → BadP r → ps.length < b → runes_Decode.go s b pos acc = ([], ((pos + (pbytes ps).length : Nat) : Int), 2)
  | [], r, pos, b, acc, hd, _, hr, hb => by
    obtain ⟨b, rfl⟩ : ∃ c, b = c + 1 := ⟨b - 1, by simp at hb; omega⟩
    have hd' : s.data.toList.drop pos = r := hd
    have hlt := drop_lt hd' hr.1
    rw [dgo_bad s b pos acc hlt (by
      rw [decode_eq, isFFFD_eq, hd', hr.2.1]
      simp [hr.2.2])]
    rfl
  | x :: q, r, pos, b, acc, hd, hg, hr, hb => by
    obtain ⟨b, rfl⟩ : ∃ c, b = c + 1 := ⟨b - 1, by simp at hb; omega⟩
    have hx := hg x (by simp)
    rw [pbytes_cons, List.append_assoc] at hd
    have hlt := drop_lt hd (by simp [hx.2.1])
    have hdec : Utf8.decode s pos = (x.2, x.1.length) := by rw [decode_eq, hd]; exact hx.ext _
    rw [dgo_step s b pos acc hlt (by
      rw [hdec, isFFFD_eq, hd]
      by_cases h : x.2 = 65533
      · rw [hx.2.2 h]; simp
      · simp [h])]
    rw [hdec, go_bad s q r (pos + x.1.length) b _ (drop_more hd) (fun y hy => hg y (by simp [hy])) hr (by simpa using hb), pbytes_cons, List.length_append]
    simp only [Nat.add_assoc]
/-! ### The tokens of pieces -/
def kd (x : Pc) : Int := kindOf (x.2 : Int)
def isL (x : Pc) : Bool := kd x != 2
def isD (x : Pc) : Bool := kd x == 3
def isW (x : Pc) : Bool := kd x == 4 || kd x == 3
def mkB (l : List UInt8) : ByteArray := ⟨l.toArray⟩
theorem dropWhile_len {α : Type} (p : α → Bool) (l : List α) : (l.dropWhile p).length ≤ l.length := (List.dropWhile_sublist p).length_le
/-- The tokens of pieces from place p on. -/
def lexT (p : Nat) (ps : List Pc) (acc : List S43) : List S43 × Int × Int :=
  match ps with
  | [] => (acc, 0, 0)
  | x :: r =>
    if x.2 = 35 then lexT (p + x.1.length + (pbytes (r.takeWhile isL)).length) (r.dropWhile isL) acc
    else if kd x = 1 then lexT (p + x.1.length) r acc
    else if kd x = 2 then lexT (p + x.1.length) r (acc ++ [(⟨4, (p : Int), ⟨#[]⟩, 0⟩ : S43)])
    else if kd x = 3 then
      if 9 < (x.1 ++ pbytes (r.takeWhile isD)).length then ([], (p : Int), 4)
      else lexT (p + x.1.length + (pbytes (r.takeWhile isD)).length) (r.dropWhile isD) (acc ++ [(⟨2, (p : Int), mkB (x.1 ++ pbytes (r.takeWhile isD)), (numL (x.1 ++ pbytes (r.takeWhile isD)) : Nat)⟩ : S43)])
    else if kd x = 4 then
      if 32 < (x.1 ++ pbytes (r.takeWhile isW)).length then ([], (p : Int), 5)
      else lexT (p + x.1.length + (pbytes (r.takeWhile isW)).length) (r.dropWhile isW) (acc ++ [(⟨1, (p : Int), mkB (x.1 ++ pbytes (r.takeWhile isW)), 0⟩ : S43)])
    else if kd x = 5 then lexT (p + x.1.length) r (acc ++ [(⟨3, (p : Int), mkB x.1, 0⟩ : S43)])
    else ([], (p : Int), 3)
termination_by ps.length
decreasing_by
  all_goals simp only [List.length_cons]
  all_goals first
    | exact Nat.lt_succ_self _
    | exact Nat.lt_succ_of_le (dropWhile_len _ _)
theorem lexT_nil (p : Nat) (acc : List S43) : lexT p [] acc = (acc, 0, 0) := by rw [lexT]
theorem lexT_cons (p : Nat) (x : Pc) (r : List Pc) (acc : List S43) : lexT p (x :: r) acc =
    if x.2 = 35 then lexT (p + x.1.length + (pbytes (r.takeWhile isL)).length) (r.dropWhile isL) acc
    else if kd x = 1 then lexT (p + x.1.length) r acc
    else if kd x = 2 then lexT (p + x.1.length) r (acc ++ [(⟨4, (p : Int), ⟨#[]⟩, 0⟩ : S43)])
    else if kd x = 3 then
      if 9 < (x.1 ++ pbytes (r.takeWhile isD)).length then ([], (p : Int), 4)
      else lexT (p + x.1.length + (pbytes (r.takeWhile isD)).length) (r.dropWhile isD) (acc ++ [(⟨2, (p : Int), mkB (x.1 ++ pbytes (r.takeWhile isD)), (numL (x.1 ++ pbytes (r.takeWhile isD)) : Nat)⟩ : S43)])
    else if kd x = 4 then
      if 32 < (x.1 ++ pbytes (r.takeWhile isW)).length then ([], (p : Int), 5)
      else lexT (p + x.1.length + (pbytes (r.takeWhile isW)).length) (r.dropWhile isW) (acc ++ [(⟨1, (p : Int), mkB (x.1 ++ pbytes (r.takeWhile isW)), 0⟩ : S43)])
    else if kd x = 5 then lexT (p + x.1.length) r (acc ++ [(⟨3, (p : Int), mkB x.1, 0⟩ : S43)])
    else ([], (p : Int), 3) := by rw [lexT]
theorem posAt_add (ps : List Pc) (i n : Nat) : posAt ps (i + n) = posAt ps i + (pbytes ((ps.drop i).take n)).length := by
  unfold posAt
  rw [List.take_add, pbytes_append, List.length_append]
theorem lexSkip_eq (pr : Int → Bool) (ps : List Pc) : ∀ (b j : Nat), j ≤ ps.length → ps.length - j ≤ b → lexSkip pr (runesAt 0 ps) b j = j + ((ps.drop j).takeWhile (fun x => pr (kd x))).length
  | 0, j, h, hb => by
    rw [List.drop_eq_nil_of_le (by omega)]
    simp [lexSkip]
  | b + 1, j, h, hb => by
    unfold lexSkip
    rw [runesAt_length]
    by_cases hj : j < ps.length
    · rw [if_pos hj, List.drop_eq_getElem_cons hj, List.takeWhile_cons]
      have e : kindOf (rd_T72 (runesAt 0 ps) (j : Int)).f1 = kd (ps[j]'hj) := by rw [rd_runesAt ps 0 j hj]; rfl
      rw [e]
      cases hp : pr (kd ps[j]) with
      | true =>
        rw [if_pos rfl, lexSkip_eq pr ps b (j + 1) hj (by omega)]
        simp
        omega
      | false => simp
    · rw [if_neg hj, List.drop_eq_nil_of_le (by omega)]
      simp
theorem lexAt_eq {s : ByteArray} {ps : List Pc} (hs : s.data.toList = pbytes ps) (j : Nat) (h : j ≤ ps.length) : lexAt s (runesAt 0 ps) j = (posAt ps j : Nat) := by
  unfold lexAt
  rw [runesAt_length]
  by_cases hj : j < ps.length
  · rw [if_pos hj, rd_runesAt ps 0 j hj]
    simp
  · rw [if_neg hj, show j = ps.length by omega, posAt_all, ← hs]
    rfl
theorem extract_bytes {s : ByteArray} {ps : List Pc} (hs : s.data.toList = pbytes ps) (i n : Nat) : s.extract (posAt ps i) (posAt ps (i + n)) = mkB (pbytes ((ps.drop i).take n)) := by
  have e : (s.extract (posAt ps i) (posAt ps (i + n))).data.toList = pbytes ((ps.drop i).take n) := by
    rw [ByteArray.data_extract, Array.toList_extract, hs, List.extract_eq_take_drop, posAt_add, Nat.add_sub_cancel_left]
    have e1 : pbytes ps = pbytes (ps.take i) ++ (pbytes ((ps.drop i).take n) ++ pbytes ((ps.drop i).drop n)) := by
      rw [← pbytes_append, ← pbytes_append, List.take_append_drop, List.take_append_drop]
    rw [e1]
    unfold posAt
    rw [List.drop_left, List.take_left]
  unfold mkB
  rw [← e]
theorem takeWhile_take {α : Type} (p : α → Bool) : ∀ l : List α, l.take (l.takeWhile p).length = l.takeWhile p
  | [] => rfl
  | a :: l => by
    rw [List.takeWhile_cons]
    split
    · rw [List.length_cons, List.take_succ_cons, takeWhile_take p l]
    · rfl
theorem takeWhile_drop {α : Type} (p : α → Bool) : ∀ l : List α, l.drop (l.takeWhile p).length = l.dropWhile p
  | [] => rfl
  | a :: l => by
    rw [List.takeWhile_cons, List.dropWhile_cons]
    split
    · rw [List.length_cons, List.drop_succ_cons, takeWhile_drop p l]
    · rfl
theorem kd3_dig {x : Pc} (h : GoodP x) (hk : kd x = 3) : ∀ b ∈ x.1, isDig b := by
  have h1 : 48 ≤ x.2 ∧ x.2 ≤ 57 := by
    unfold kd kindOf at hk
    revert hk
    repeat' split
    all_goals intro hk
    all_goals omega
  rw [good_small h (by omega)]
  intro b hb
  simp at hb
  subst hb
  unfold isDig
  rw [UInt8.toNat_ofNat_of_lt' (by show x.2 < 256; omega)]
  exact h1
theorem pbytes_mem {ps : List Pc} {P : UInt8 → Prop} (h : ∀ x ∈ ps, ∀ b ∈ x.1, P b) : ∀ b ∈ pbytes ps, P b := by
  intro b hb
  obtain ⟨x, hx, hb⟩ := List.mem_flatMap.1 hb
  exact h x hx b hb
theorem mem_takeWhile {α : Type} {p : α → Bool} : ∀ {l : List α} {x : α}, x ∈ l.takeWhile p → p x = true ∧ x ∈ l
  | [], _, h => by simp at h
  | a :: l, x, h => by
    rw [List.takeWhile_cons] at h
    split at h
    · rcases List.mem_cons.1 h with rfl | h
      · exact ⟨by assumption, by simp⟩
      · have := mem_takeWhile h
        exact ⟨this.1, by simp [this.2]⟩
    · simp at h
theorem digits_of {x : Pc} {r : List Pc} (hx : GoodP x) (hr : AllGood r) (hk : kd x = 3) : ∀ b ∈ x.1 ++ pbytes (r.takeWhile isD), isDig b := by
  intro b hb
  rcases List.mem_append.1 hb with h | h
  · exact kd3_dig hx hk b h
  · refine pbytes_mem (P := isDig) (fun y hy => ?_) b h
    have := mem_takeWhile hy
    exact kd3_dig (hr y this.2) (by simpa [isD] using this.1)
theorem lexGo_eq (s : ByteArray) (ps : List Pc) (hs : s.data.toList = pbytes ps) (hg : AllGood ps) : ∀ (b i : Nat) (acc : List S43), i ≤ ps.length → ps.length - i < b → lexGo s (runesAt 0 ps) b i acc = some (lexT (posAt ps i) (ps.drop i) acc)
  | 0, i, acc, h, hb => by omega
  | b + 1, i, acc, h, hb => by
    unfold lexGo
    rw [runesAt_length]
    by_cases hi : i < ps.length
    · rw [if_pos hi]
      have hx := hg ps[i] (List.getElem_mem hi)
      have hr : AllGood (ps.drop (i + 1)) := fun y hy => hg y (List.mem_of_mem_drop hy)
      have e0 : rd_T72 (runesAt 0 ps) (i : Int) = ⟨(posAt ps i : Nat), ((ps[i]'hi).2 : Int)⟩ := by rw [rd_runesAt ps 0 i hi, Nat.zero_add]
      have ek : kindOf ((ps[i]'hi).2 : Int) = kd (ps[i]'hi) := rfl
      have skip : ∀ pr : Int → Bool, lexSkip pr (runesAt 0 ps) ps.length (i + 1) = i + 1 + ((ps.drop (i + 1)).takeWhile (fun x => pr (kd x))).length := fun pr => lexSkip_eq pr ps ps.length (i + 1) hi (by omega)
      have le : ∀ pr : Pc → Bool, i + 1 + ((ps.drop (i + 1)).takeWhile pr).length ≤ ps.length := fun pr => by
        have := (List.takeWhile_sublist pr (l := ps.drop (i + 1))).length_le
        rw [List.length_drop] at this
        omega
      have dr : ∀ pr : Pc → Bool, ps.drop (i + 1 + ((ps.drop (i + 1)).takeWhile pr).length) = (ps.drop (i + 1)).dropWhile pr := fun pr => by
        rw [← List.drop_drop, takeWhile_drop]
      have p1 : posAt ps (i + 1) = posAt ps i + (ps[i]'hi).1.length := by
        rw [posAt_add, show (ps.drop i).take 1 = [ps[i]'hi] from by rw [List.drop_eq_getElem_cons hi]; rfl]
        simp [pbytes]
      have po : ∀ pr : Pc → Bool, posAt ps (i + 1 + ((ps.drop (i + 1)).takeWhile pr).length) = posAt ps i + (ps[i]'hi).1.length + (pbytes ((ps.drop (i + 1)).takeWhile pr)).length := fun pr => by
        rw [posAt_add, takeWhile_take, p1]
      have tx : ∀ pr : Pc → Bool, s.extract (posAt ps i) (posAt ps (i + 1 + ((ps.drop (i + 1)).takeWhile pr).length)) = mkB ((ps[i]'hi).1 ++ pbytes ((ps.drop (i + 1)).takeWhile pr)) := fun pr => by
        rw [show i + 1 + ((ps.drop (i + 1)).takeWhile pr).length = i + (1 + ((ps.drop (i + 1)).takeWhile pr).length) by omega, extract_bytes hs]
        congr 1
        rw [List.drop_eq_getElem_cons hi, Nat.add_comm 1, List.take_succ_cons, pbytes_cons, takeWhile_take]
      have la : ∀ j, j ≤ ps.length → (lexAt s (runesAt 0 ps) j).toNat = posAt ps j := fun j hj => by rw [lexAt_eq hs j hj]; rfl
      have go : ∀ j acc', j ≤ ps.length → i < j → lexGo s (runesAt 0 ps) b j acc' = some (lexT (posAt ps j) (ps.drop j) acc') := fun j acc' hj hij => lexGo_eq s ps hs hg b j acc' hj (by omega)
      conv => rhs; rw [List.drop_eq_getElem_cons hi, lexT_cons]
      rw [e0]
      simp only [ek, skip, la _ h, la _ (le _)]
      by_cases c1 : (ps[i]'hi).2 = 35
      · rw [if_pos c1, if_pos (show ((ps[i]'hi).2 : Int) = 35 by omega)]
        exact (go _ _ (le isL) (by omega)).trans (by rw [dr, po])
      rw [if_neg c1, if_neg (show ¬ ((ps[i]'hi).2 : Int) = 35 by omega)]
      by_cases c2 : kd (ps[i]'hi) = 1
      · rw [if_pos c2, if_pos c2, go _ _ hi (by omega), p1]
      rw [if_neg c2, if_neg c2]
      by_cases c3 : kd (ps[i]'hi) = 2
      · rw [if_pos c3, if_pos c3, go _ _ hi (by omega), p1]
      rw [if_neg c3, if_neg c3]
      by_cases c4 : kd (ps[i]'hi) = 3
      · rw [if_pos c4, if_pos c4, tx]
        have hd := digits_of hx hr c4
        have hne : (ps[i]'hi).1 ++ pbytes ((ps.drop (i + 1)).takeWhile isD) ≠ [] := by simp [hx.2.1]
        have hsz : ∀ l : List UInt8, (mkB l).size = l.length := fun l => by simp [mkB, ByteArray.size]
        have hdl : ∀ l : List UInt8, (mkB l).data.toList = l := fun l => rfl
        have eD : (fun x => (fun k : Int => k == 3) (kd x)) = isD := rfl
        simp only [hdl, hsz, eD]
        by_cases c5 : 9 < ((ps[i]'hi).1 ++ pbytes ((ps.drop (i + 1)).takeWhile isD)).length
        · rw [if_pos c5]
          have := atoi_digits_ne _ hne hd
          cases hA : Lib.atoiAll ((ps[i]'hi).1 ++ pbytes ((ps.drop (i + 1)).takeWhile isD)) with
          | range => simp only [if_pos c5]
          | ok v => simp only [if_pos c5]
          | _ => rw [hA] at this; exact absurd this (by decide)
        · rw [if_neg c5, atoi_digits _ hne hd (by omega)]
          simp only [if_neg c5]
          rw [go _ _ (le _) (by omega), dr, po]
      rw [if_neg c4, if_neg c4]
      by_cases c5 : kd (ps[i]'hi) = 4
      · rw [if_pos c5, if_pos c5, tx]
        have hsz : ∀ l : List UInt8, (mkB l).size = l.length := fun l => by simp [mkB, ByteArray.size]
        have eW : (fun x => (fun k : Int => k == 4 || k == 3) (kd x)) = isW := rfl
        simp only [hsz, eW]
        by_cases c6 : 32 < ((ps[i]'hi).1 ++ pbytes ((ps.drop (i + 1)).takeWhile isW)).length
        · rw [if_pos c6, if_pos c6]
        · rw [if_neg c6, if_neg c6, go _ _ (le _) (by omega), dr, po]
      rw [if_neg c5, if_neg c5]
      by_cases c6 : kd (ps[i]'hi) = 5
      · rw [if_pos c6, if_pos c6, go _ _ hi (by omega), p1]
        have hsm : (ps[i]'hi).2 < 128 := by
          unfold kd kindOf at c6
          revert c6
          repeat' split
          all_goals intro c6
          all_goals omega
        have hl : (ps[i]'hi).1.length = 1 := by rw [good_small hx hsm]; rfl
        have e1 : s.extract (posAt ps i) (posAt ps i + 1) = mkB (ps[i]'hi).1 := by
          have := extract_bytes hs i 1
          rw [p1, hl] at this
          rw [this, show (ps.drop i).take 1 = [ps[i]'hi] from by rw [List.drop_eq_getElem_cons hi]; rfl]
          simp [pbytes]
        have e2 : ((posAt ps i : Nat) : Int).toNat = posAt ps i := rfl
        have e3 : (((posAt ps i : Nat) : Int) + 1).toNat = posAt ps i + 1 := by omega
        simp only [e2, e3, e1]
      · rw [if_neg c6, if_neg c6]
    · rw [if_neg hi, List.drop_eq_nil_of_le (by omega), lexT_nil]
/-- lex.Lex of what is text, and of what is none. -/
theorem lex_good (s : ByteArray) (ps : List Pc) (hs : s.data.toList = pbytes ps) (hg : AllGood ps) (hl : s.size < 1000000000000) : lex_Lex.f s = some (lexT 0 ps []) := by
  have hlen : ps.length ≤ s.size := by
    have e : s.size = (pbytes ps).length := by rw [← hs]; rfl
    rw [e]
    clear hs e hl
    induction ps with
    | nil => simp
    | cons x r ih =>
      have := (hg x (by simp)).pos
      have := ih (fun y hy => hg y (by simp [hy]))
      rw [pbytes_cons, List.length_append, List.length_cons]
      omega
  unfold lex_Lex.f runes_Decode.f
  rw [if_pos hl, if_pos (by omega)]
  rw [go_good s ps 0 s.size [] (by simpa using hs) hg hlen]
  simp only [Option.bind_some, List.nil_append, if_true]
  rw [lexGo_eq s ps hs hg _ 0 [] (by omega) (by rw [runesAt_length]; omega)]
  rfl
theorem lex_bad (s : ByteArray) (ps : List Pc) (r : List UInt8) (hs : s.data.toList = pbytes ps ++ r) (hg : AllGood ps) (hr : BadP r) (hl : s.size < 1000000000000) : lex_Lex.f s = some ([], (((pbytes ps).length : Nat) : Int), 2) := by
  have hlen : ps.length < s.size := by
    have e : s.size = (pbytes ps).length + r.length := by rw [← List.length_append, ← hs]; rfl
    have := List.length_pos_iff.2 hr.1
    rw [e]
    clear hs e hl
    induction ps with
    | nil => rw [pbytes_nil, List.length_nil, List.length_nil]; omega
    | cons x q ih =>
      have := (hg x (by simp)).pos
      have := ih (fun y hy => hg y (by simp [hy]))
      rw [pbytes_cons, List.length_append, List.length_cons]
      omega
  unfold lex_Lex.f runes_Decode.f
  rw [if_pos hl, if_pos (by omega)]
  rw [go_bad s ps r 0 s.size [] (by simpa using hs) hg hr hlen]
  simp
end Go.Proofs.YtmdmdbiinngneaaGreatDoor.Q

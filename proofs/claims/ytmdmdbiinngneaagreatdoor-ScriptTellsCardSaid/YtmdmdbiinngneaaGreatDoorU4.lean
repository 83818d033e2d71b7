import Derived.Test.YtmdmdbiinngneaaGreatDoorU3
import Derived.Test.YtmdmdbiinngneaaGreatDoorQ10
namespace Go.Proofs.YtmdmdbiinngneaaGreatDoor.Q
open Go Go.RowKit Go.Proofs.YtmdmdbiinngneaaGreatDoorW.PrintWords Go.Proofs.YtmdmdbiinngneaaGreatDoorW.PrintLast Go.Proofs.YtmdmdbiinngneaaGreatDoorW.PrintMore Go.Proofs.YtmdmdbiinngneaaGreatDoor.Pieces
set_option linter.unusedVariables false
set_option linter.unusedSimpArgs false
/-! ### Lines -/
def lineB (l : List UInt8) : List UInt8 := l.takeWhile (fun b => b != 10)
def restB (l : List UInt8) : List UInt8 := (l.dropWhile (fun b => b != 10)).drop 1
def lexS (ln : List UInt8) : List S43 × Int × Int := (lex_Lex.f (mkB ln)).getD ([], 0, 0)
theorem mkB_size (l : List UInt8) : (mkB l).size = l.length := by simp [mkB, ByteArray.size]
theorem mkB_data (l : List UInt8) : (mkB l).data.toList = l := rfl
theorem mkB_self (s : ByteArray) : mkB s.data.toList = s := rfl
theorem lex_cases (ln : List UInt8) (h : ln.length < 1000000000000) : ∃ ps r, AllGood ps ∧ ln = pbytes ps ++ r ∧ ((r = [] ∧ lex_Lex.f (mkB ln) = some (lexT 0 ps [])) ∨ (BadP r ∧ lex_Lex.f (mkB ln) = some ([], (((pbytes ps).length : Nat) : Int), 2))) := by
  obtain ⟨ps, r, hg, he, hr⟩ := split_bytes _ ln (Nat.le_refl _)
  refine ⟨ps, r, hg, he, ?_⟩
  rcases hr with rfl | hr
  · exact .inl ⟨rfl, lex_good (mkB ln) ps (by rw [mkB_data, he, List.append_nil]) hg (by rw [mkB_size]; exact h)⟩
  · exact .inr ⟨hr, lex_bad (mkB ln) ps r (by rw [mkB_data, he]) hg hr (by rw [mkB_size]; exact h)⟩
theorem lexS_some (ln : List UInt8) (h : ln.length < 1000000000000) : lex_Lex.f (mkB ln) = some (lexS ln) := by
  obtain ⟨ps, r, _, _, h⟩ := lex_cases ln h
  unfold lexS
  rcases h with ⟨_, h⟩ | ⟨_, h⟩ <;> rw [h] <;> rfl
theorem pbytes_split (p : Pc → Bool) (r : List Pc) : (pbytes (r.takeWhile p)).length + (pbytes (r.dropWhile p)).length = (pbytes r).length := by
  rw [← List.length_append, ← pbytes_append, List.takeWhile_append_dropWhile]
/-- Places within B. -/
def Within (B : Int) (l : List S43) : Prop := ∀ t ∈ l, 0 ≤ t.f1 ∧ t.f1 ≤ B
theorem Within.snoc {B : Int} {l : List S43} (h : Within B l) (t : S43) (h0 : 0 ≤ t.f1) (h1 : t.f1 ≤ B) : Within B (l ++ [t]) := by
  intro x hx
  rcases List.mem_append.1 hx with hx | hx
  · exact h x hx
  · obtain rfl := List.mem_singleton.1 hx
    exact ⟨h0, h1⟩
theorem within_nil (B : Int) : Within B [] := fun _ h => absurd h (by simp)
theorem lexT_within (B : Int) : ∀ (n : Nat) (ps : List Pc) (p : Nat) (acc : List S43), ps.length ≤ n → ((p + (pbytes ps).length : Nat) : Int) ≤ B → Within B acc → Within B (lexT p ps acc).1 ∧ 0 ≤ (lexT p ps acc).2.1 ∧ (lexT p ps acc).2.1 ≤ B
  | n, [], p, acc, _, hp, ha => by
    rw [lexT_nil]
    exact ⟨ha, Int.le_refl _, by simp only; omega⟩
  | 0, x :: r, p, acc, hn, _, _ => absurd hn (by simp)
  | n + 1, x :: r, p, acc, hn, hp, ha => by
    have hr : r.length ≤ n := by simpa using hn
    have hd : ∀ q : Pc → Bool, (r.dropWhile q).length ≤ n := fun q => Nat.le_trans (dropWhile_len q r) hr
    rw [pbytes_cons, List.length_append] at hp
    have hs := fun q : Pc → Bool => pbytes_split q r
    rw [lexT_cons]
    split
    · exact lexT_within B n _ _ _ (hd _) (by have := hs isL; omega) ha
    · split
      · exact lexT_within B n _ _ _ hr (by omega) ha
      · split
        · exact lexT_within B n _ _ _ hr (by omega) (ha.snoc _ (by simp only; omega) (by simp only; omega))
        · split
          · split
            · exact ⟨within_nil _, by simp only; omega, by simp only; omega⟩
            · exact lexT_within B n _ _ _ (hd _) (by have := hs isD; omega) (ha.snoc _ (by simp only; omega) (by simp only; omega))
          · split
            · split
              · exact ⟨within_nil _, by simp only; omega, by simp only; omega⟩
              · exact lexT_within B n _ _ _ (hd _) (by have := hs isW; omega) (ha.snoc _ (by simp only; omega) (by simp only; omega))
            · split
              · exact lexT_within B n _ _ _ hr (by omega) (ha.snoc _ (by simp only; omega) (by simp only; omega))
              · exact ⟨within_nil _, by simp only; omega, by simp only; omega⟩
theorem lexS_within (ln : List UInt8) (h : ln.length < 1000000000000) : Within ln.length (lexS ln).1 ∧ 0 ≤ (lexS ln).2.1 ∧ (lexS ln).2.1 ≤ ln.length := by
  obtain ⟨ps, r, hg, he, hc⟩ := lex_cases ln h
  have hl : ln.length = (pbytes ps).length + r.length := by rw [he, List.length_append]
  unfold lexS
  rcases hc with ⟨_, hc⟩ | ⟨_, hc⟩
  · rw [hc]
    exact lexT_within _ _ ps 0 [] (Nat.le_refl _) (by omega) (within_nil _)
  · rw [hc]
    exact ⟨within_nil _, by simp only [Option.getD_some]; omega, by simp only [Option.getD_some]; omega⟩
theorem lexT_len : ∀ (n : Nat) (ps : List Pc) (p : Nat) (acc : List S43), ps.length ≤ n → (lexT p ps acc).1.length ≤ acc.length + ps.length
  | n, [], p, acc, _ => by rw [lexT_nil]; exact Nat.le_refl _
  | 0, x :: r, p, acc, hn => absurd hn (by simp)
  | n + 1, x :: r, p, acc, hn => by
    have hr : r.length ≤ n := by simpa using hn
    have hd : ∀ q : Pc → Bool, (r.dropWhile q).length ≤ r.length := fun q => dropWhile_len q r
    have go : ∀ p' r' acc', r'.length ≤ r.length → acc'.length ≤ acc.length + 1 → (lexT p' r' acc').1.length ≤ acc.length + (x :: r).length := fun p' r' acc' h1 h2 => by
      have := lexT_len n r' p' acc' (by omega)
      simp only [List.length_cons]
      omega
    rw [lexT_cons]
    repeat' split
    all_goals first
      | exact Nat.zero_le _
      | exact go _ _ _ (hd _) (by simp)
      | exact go _ _ _ (Nat.le_refl _) (by simp)
theorem pcs_len : ∀ (ps : List Pc), AllGood ps → ps.length ≤ (pbytes ps).length
  | [], _ => Nat.le_refl _
  | x :: r, h => by
    have h1 := (h x (by simp)).pos
    have h2 := pcs_len r (fun y hy => h y (by simp [hy]))
    rw [pbytes_cons, List.length_append, List.length_cons]
    omega
theorem lexS_len (ln : List UInt8) (h : ln.length < 1000000000000) : (lexS ln).1.length ≤ ln.length := by
  obtain ⟨ps, r, hg, he, hc⟩ := lex_cases ln h
  have hl : ln.length = (pbytes ps).length + r.length := by rw [he, List.length_append]
  have h1 := pcs_len ps hg
  unfold lexS
  rcases hc with ⟨_, hc⟩ | ⟨_, hc⟩
  · rw [hc]
    have := lexT_len _ ps 0 [] (Nat.le_refl _)
    simp only [List.length_nil] at this
    simp only [Option.getD_some]
    omega
  · rw [hc]
    exact Nat.zero_le _
theorem rd_within {B : Int} {l : List S43} (h : Within B l) (hB : 0 ≤ B) (i : Int) : 0 ≤ (rd_T43 l i).f1 ∧ (rd_T43 l i).f1 ≤ B := by
  unfold rd_T43
  rw [List.getD_eq_getElem?_getD]
  cases hq : l[i.toNat]? with
  | none => exact ⟨Int.le_refl _, hB⟩
  | some t => exact h t (List.mem_of_getElem? hq)
theorem here_within {B en : Int} {l : List S43} (h : Within B l) (hB : 0 ≤ B) (h0 : 0 ≤ en) (h1 : en ≤ B) (i : Nat) : 0 ≤ hereP l en i ∧ hereP l en i ≤ B := by
  unfold hereP
  split
  · exact rd_within h hB _
  · exact ⟨h0, h1⟩
theorem tok_within {B : Int} {l : List S43} (h : Within B l) (hB : 0 ≤ B) (k : Int) (i : Nat) : 0 ≤ (tokP l k i).f1 ∧ (tokP l k i).f1 ≤ B := by
  unfold tokP
  split
  · exact rd_within h hB _
  · exact ⟨Int.le_refl _, hB⟩
theorem edges_within {B en nN : Int} {l : List S43} (h : Within B l) (hB : 0 ≤ B) (h0 : 0 ≤ en) (h1 : en ≤ B) : ∀ (b i : Nat) (acc : List S64), 0 ≤ (lineEdges l en nN b i acc).1 ∧ (lineEdges l en nN b i acc).1 ≤ B
  | 0, i, acc => by simp only [lineEdges]; exact ⟨Int.le_refl _, hB⟩
  | b + 1, i, acc => by
    unfold lineEdges
    repeat' split
    all_goals first
      | exact rd_within h hB _
      | exact here_within h hB h0 h1 _
      | exact edges_within h hB h0 h1 b _ _
      | exact ⟨Int.le_refl _, hB⟩
/-- The place of an error, the operation's and its name's. -/
theorem line_within {B en : Int} {l : List S43} (h : Within B l) (hB : 0 ≤ B) (h0 : 0 ≤ en) (h1 : en ≤ B) :
    (0 ≤ (lineP l en).2.2.2.2.2.1 ∧ (lineP l en).2.2.2.2.2.1 ≤ B) ∧ (0 ≤ (lineP l en).2.2.2.2.2.2.1 ∧ (lineP l en).2.2.2.2.2.2.1 ≤ B) ∧ (0 ≤ (lineP l en).2.2.2.2.2.2.2.1 ∧ (lineP l en).2.2.2.2.2.2.2.1 ≤ B) := by
  have z : (0 : Int) ≤ 0 ∧ (0 : Int) ≤ B := ⟨Int.le_refl _, hB⟩
  unfold lineP lineLoad finR errR
  repeat' split
  all_goals first
    | exact ⟨z, z, here_within h hB h0 h1 _⟩
    | exact ⟨here_within h hB h0 h1 _, here_within h hB h0 h1 _, z⟩
    | exact ⟨z, z, tok_within h hB _ _⟩
    | exact ⟨z, z, edges_within h hB h0 h1 _ _ _⟩
/-! ### script.Parse, line by line -/
def opAt (fr : Int) (r : LRes) : S36 := ⟨r.1, r.2.1, ⟨r.2.2.1, r.2.2.2.1⟩, r.2.2.2.2.1, r.2.2.2.2.2.1 + fr, r.2.2.2.2.2.2.1 + fr⟩
def errOf (r : LRes) : Int := r.2.2.2.2.2.2.2.2
def posOf (r : LRes) : Int := r.2.2.2.2.2.2.2.1
theorem restB_lt (c : UInt8) (r : List UInt8) : (restB (c :: r)).length < (c :: r).length := by
  unfold restB
  rw [List.length_drop]
  have : ((c :: r).dropWhile (fun b => b != 10)).length ≤ (c :: r).length := (List.dropWhile_sublist _).length_le
  simp only [List.length_cons] at *
  omega
def parseT (fr : Nat) (l : List UInt8) (acc : List S36) : List S36 × Int × Int :=
  match l with
  | [] => (acc, 0, 0)
  | c :: r =>
    if (lexS (lineB (c :: r))).2.2 = 0 then
      if (lexS (lineB (c :: r))).1.length = 0 then parseT (fr + (lineB (c :: r)).length + 1) (restB (c :: r)) acc
      else if acc.length = 1000 then (acc, (fr : Int) + (rd_T43 (lexS (lineB (c :: r))).1 0).f1, 5)
      else if errOf (lineP (lexS (lineB (c :: r))).1 (lineB (c :: r)).length) = 0 then parseT (fr + (lineB (c :: r)).length + 1) (restB (c :: r)) (acc ++ [opAt fr (lineP (lexS (lineB (c :: r))).1 (lineB (c :: r)).length)])
      else (acc, (fr : Int) + posOf (lineP (lexS (lineB (c :: r))).1 (lineB (c :: r)).length), errOf (lineP (lexS (lineB (c :: r))).1 (lineB (c :: r)).length))
    else (acc, (fr : Int) + (lexS (lineB (c :: r))).2.1, (lexS (lineB (c :: r))).2.2)
termination_by l.length
decreasing_by all_goals exact restB_lt c r
theorem parseT_nil (fr : Nat) (acc : List S36) : parseT fr [] acc = (acc, 0, 0) := by rw [parseT]
theorem parseT_step (fr : Nat) (l : List UInt8) (acc : List S36) (h : l ≠ []) : parseT fr l acc =
    if (lexS (lineB l)).2.2 = 0 then
      if (lexS (lineB l)).1.length = 0 then parseT (fr + (lineB l).length + 1) (restB l) acc
      else if acc.length = 1000 then (acc, (fr : Int) + (rd_T43 (lexS (lineB l)).1 0).f1, 5)
      else if errOf (lineP (lexS (lineB l)).1 (lineB l).length) = 0 then parseT (fr + (lineB l).length + 1) (restB l) (acc ++ [opAt fr (lineP (lexS (lineB l)).1 (lineB l).length)])
      else (acc, (fr : Int) + posOf (lineP (lexS (lineB l)).1 (lineB l).length), errOf (lineP (lexS (lineB l)).1 (lineB l).length))
    else (acc, (fr : Int) + (lexS (lineB l)).2.1, (lexS (lineB l)).2.2) := by
  obtain ⟨c, r, rfl⟩ := List.exists_cons_of_ne_nil h
  rw [parseT]
theorem indexByte_line : ∀ (l : List UInt8), (Lib.indexByte l 10 = -1 ∧ lineB l = l ∧ restB l = []) ∨ (Lib.indexByte l 10 = (lineB l).length ∧ l.drop ((lineB l).length + 1) = restB l ∧ (lineB l).length < l.length)
  | [] => .inl ⟨rfl, rfl, rfl⟩
  | b :: l => by
    by_cases hb : b = 10
    · subst hb
      exact .inr ⟨by simp [Lib.indexByte, lineB], by simp [lineB, restB], by simp [lineB]⟩
    · have h1 : (b != 10) = true := by simpa using hb
      have h2 : (b == 10) = false := by simpa using hb
      have e1 : lineB (b :: l) = b :: lineB l := by simp [lineB, List.takeWhile_cons, h1]
      have e2 : restB (b :: l) = restB l := by simp [restB, List.dropWhile_cons, h1]
      rw [e1, e2]
      unfold Lib.indexByte
      rw [h2]
      simp only [Bool.false_eq_true, if_false]
      rcases indexByte_line l with ⟨a1, a2, a3⟩ | ⟨a1, a2, a3⟩
      · rw [a1]
        exact .inl ⟨rfl, by rw [a2], a3⟩
      · rw [a1]
        refine .inr ⟨?_, by simpa using a2, by simpa using a3⟩
        have : ((((lineB l).length : Nat) : Int) == -1) = false := by rw [beq_eq_false_iff_ne]; omega
        rw [this]
        simp
theorem extract_from (s : ByteArray) (a : Nat) : (s.extract a s.size).data.toList = s.data.toList.drop a := by
  rw [ByteArray.data_extract, Array.toList_extract, List.extract_eq_take_drop, List.take_of_length_le]
  have : s.data.toList.length = s.size := rfl
  rw [List.length_drop]; omega
theorem extract_line (s : ByteArray) (a : Nat) (l : List UInt8) (h : s.data.toList.drop a = l) (n : Nat) : s.extract a (a + n) = mkB (l.take n) := by
  have e : (s.extract a (a + n)).data.toList = l.take n := by
    rw [ByteArray.data_extract, Array.toList_extract, List.extract_eq_take_drop, h, Nat.add_sub_cancel_left]
  unfold mkB
  rw [← e]
theorem w64 {x : Int} (h0 : -9223372036854775808 ≤ x) (h1 : x ≤ 9223372036854775807) : wrap64 x = x := by unfold wrap64; omega
theorem lineB_le (l : List UInt8) : (lineB l).length ≤ l.length := (List.takeWhile_sublist _).length_le
theorem lineB_take (l : List UInt8) : l.take (lineB l).length = lineB l := takeWhile_take _ l
theorem parse_l0 (s : ByteArray) (hs : s.size ≤ 1048576) : ∀ (n : Nat) (l : List UInt8), l.length ≤ n → ∀ (k fr : Nat) (acc : List S36), 3 * l.length < k → fr ≤ s.size + 1 → s.data.toList.drop fr = l → acc.length ≤ fr → script_Parse.l0 k s acc fr = some (parseT fr l acc)
  | n, [], _, k, fr, acc, hk, hf, hd, ha => by
    obtain ⟨k, rfl⟩ : ∃ m, k = m + 1 := ⟨k - 1, by omega⟩
    have h2 := congrArg List.length hd
    have : s.data.toList.length = s.size := rfl
    rw [List.length_drop, List.length_nil] at h2
    simp only [script_Parse.l0]
    rw [if_neg (by omega), parseT_nil]
  | 0, c :: r, hn, _, _, _, _, _, _, _ => absurd hn (by simp)
  | n + 1, c :: r, hn, k, fr, acc, hk, hf, hd, ha => by
    generalize hl : c :: r = l at *
    have hne : l ≠ [] := by rw [← hl]; simp
    have hlt := drop_lt hd hne
    have hlen : fr + l.length = s.size := by
      have h2 := congrArg List.length hd
      have : s.data.toList.length = s.size := rfl
      rw [List.length_drop] at h2
      omega
    have hrest : (restB l).length < l.length := by rw [← hl]; exact restB_lt c r
    have hpos := List.length_pos_iff.2 hne
    obtain ⟨k, rfl⟩ : ∃ m, k = m + 3 := ⟨k - 3, by omega⟩
    have hln := lineB_le l
    have hend : ∀ q, q = (fr + (lineB l).length : Nat) → restB l = s.data.toList.drop (fr + (lineB l).length + 1) → script_Parse.j1 (k + 2) s acc fr ((q : Nat) : Int) = some (parseT fr l acc) := by
      intro q hq hre
      subst hq
      simp only [script_Parse.j1]
      rw [if_pos (by omega), if_pos (by omega), if_pos (by omega)]
      have e1 : ((fr : Nat) : Int).toNat = fr := rfl
      have e2 : ((fr + (lineB l).length : Nat) : Int).toNat = fr + (lineB l).length := rfl
      rw [e1, e2, extract_line s fr l hd, lineB_take, lexS_some _ (by omega)]
      simp only [Option.bind_some]
      rw [parseT_step fr l acc hne]
      obtain ⟨w1, w2, w3⟩ := lexS_within (lineB l) (by omega)
      have hnext : ∀ acc', acc'.length ≤ fr + (lineB l).length + 1 → script_Parse.l0 k s acc' (wrap64 (((fr + (lineB l).length : Nat) : Int) + 1)) = some (parseT (fr + (lineB l).length + 1) (restB l) acc') := fun acc' ha' => by
        rw [w64 (by omega) (by omega), show ((fr + (lineB l).length : Nat) : Int) + 1 = ((fr + (lineB l).length + 1 : Nat) : Int) by omega]
        exact parse_l0 s hs n (restB l) (by omega) k _ acc' (by omega) (by omega) hre.symm ha'
      by_cases c1 : (lexS (lineB l)).2.2 = 0
      · rw [if_pos c1, if_pos c1]
        by_cases c2 : (lexS (lineB l)).1.length = 0
        · rw [if_pos c2, if_neg (by omega)]
          simp only [script_Parse.j2]
          rw [if_neg (by simp), if_neg (by omega)]
          exact hnext acc (by omega)
        · rw [if_neg c2, if_pos (by omega)]
          simp only [script_Parse.j2]
          by_cases c3 : acc.length = 1000
          · have e3 : ((acc.length : Int) == 1000) = true := by rw [beq_iff_eq]; omega
            obtain ⟨v1, v2⟩ := rd_within w1 (by omega) 0
            rw [if_pos c3, if_pos e3, if_pos (by omega), w64 (by omega) (by omega)]
          · have e3 : ¬ ((acc.length : Int) == 1000) = true := by rw [beq_iff_eq]; omega
            have hlen2 : (lexS (lineB l)).1.length ≤ 1000000000000 := by
              have := lexS_len (lineB l) (by omega)
              omega
            rw [if_neg c3, if_neg e3, if_pos (by omega)]
            have e4 : wrap64 (((fr + (lineB l).length : Nat) : Int) - (fr : Int)) = ((lineB l).length : Int) := by rw [w64 (by omega) (by omega)]; omega
            rw [e4]
            unfold script_line.f
            rw [if_pos hlen2]
            simp only [Option.bind_some]
            obtain ⟨⟨x1, x2⟩, ⟨x3, x4⟩, x5, x6⟩ := line_within (en := ((lineB l).length : Int)) w1 (by omega) (by omega) (Int.le_refl _)
            by_cases c4 : errOf (lineP (lexS (lineB l)).1 (lineB l).length) = 0
            · rw [if_pos c4]
              unfold errOf at c4
              rw [if_pos c4, if_pos (by omega), w64 (by omega) (by omega), w64 (by omega) (by omega)]
              exact hnext _ (by rw [List.length_append]; simp; omega)
            · rw [if_neg c4]
              unfold errOf at c4
              rw [if_neg c4, w64 (by omega) (by omega)]
              rfl
      · rw [if_neg c1, if_neg c1, w64 (by omega) (by omega)]
    simp only [script_Parse.l0]
    rw [if_pos (by omega), if_pos (by omega), if_pos (by omega)]
    have e1 : ((fr : Nat) : Int).toNat = fr := rfl
    rw [e1]
    unfold strings_IndexByte.f
    rw [extract_from, hd, show ((10 : Int).toNat.toUInt8) = 10 from rfl]
    simp only [Option.bind_some]
    rcases indexByte_line l with ⟨a1, a2, a3⟩ | ⟨a1, a2, a3⟩
    · rw [a1, if_neg (by omega)]
      refine hend s.size (by rw [a2]; omega) ?_
      rw [a3, List.drop_eq_nil_of_le]
      have : s.data.toList.length = s.size := rfl
      rw [a2]; omega
    · rw [a1, if_pos (by omega), w64 (by omega) (by omega), show (fr : Int) + ((lineB l).length : Nat) = ((fr + (lineB l).length : Nat) : Int) by omega]
      refine hend _ rfl ?_
      rw [← a2, ← hd, List.drop_drop]
      congr 1
/-- script.Parse, with rounds enough. -/
theorem parse_eq (s : ByteArray) (hs : s.size ≤ 1048576) (k : Nat) (hk : 3 * s.size < k) : script_Parse.f k s = some (parseT 0 s.data.toList []) := by
  unfold script_Parse.f
  rw [if_neg (by omega)]
  exact parse_l0 s hs s.size s.data.toList (Nat.le_refl _) k 0 [] hk (by omega) rfl (by simp)
/-! ### Small things -/
end Go.Proofs.YtmdmdbiinngneaaGreatDoor.Q

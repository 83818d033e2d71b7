import Derived.Test.YtmdmdbiinngneaaDoorU9
import Derived.Test.YtmdmdbiinngneaaDoorQ21
namespace Go.Proofs.YtmdmdbiinngneaaDoor.Q
open Go Go.RowKit Go.Proofs.YtmdmdbiinngneaaDoorW.PrintWords Go.Proofs.YtmdmdbiinngneaaDoorW.PrintLast Go.Proofs.YtmdmdbiinngneaaDoorW.PrintMore Go.Proofs.YtmdmdbiinngneaaDoor.Pieces
set_option linter.unusedVariables false
set_option linter.unusedSimpArgs false
/-! ### graph.Right of what has been read -/
theorem cmp_Or_two' (k : Nat) (a b : Int) : cmp_Or_int.f (k + 4) [a, b] = some (if a = 0 then b else a) := by
  unfold cmp_Or_int.f
  simp only [cmp_Or_int.l0]
  by_cases ha : a = 0
  · subst ha
    by_cases hb : b = 0
    · subst hb; simp [rd, wrap64]
    · simp [rd, wrap64, hb]
  · simp [rd, wrap64, ha]
theorem cmp_cmp3 (a b : Int) : cmp_Compare_int.f a b = some (cmp3 a b) := by
  unfold cmp_Compare_int.f cmp3 cmp_isNaN_int.f
  simp only [bne_self_eq_false, Option.bind_some, Bool.false_eq_true, if_false]
  by_cases h1 : a < b
  · simp [h1]
  · by_cases h2 : b < a <;> simp [h1, h2]
theorem compare_lt {x y : S39} (h : ltE x y) (k : Nat) : ∃ t, graph_compare.f (k + 4) x.f0 x.f1 y.f0 y.f1 = some t ∧ t < 0 := by
  unfold graph_compare.f
  rw [cmp_cmp3, cmp_cmp3]
  simp only [Option.bind_some]
  rw [cmp_Or_two']
  refine ⟨_, rfl, ?_⟩
  unfold ltE at h
  unfold cmp3
  repeat' split
  all_goals omega
theorem right_l0 (n : Int) (es : List S39) (hN : Normed n es) : ∀ (d i k : Nat), i + d = es.length → d + 10 < k → graph_Right.l0 k es (es.length : Int) (i : Int) n es = some true
  | 0, i, k, h, hk => by
    obtain ⟨k, rfl⟩ : ∃ q, k = q + 1 := ⟨k - 1, by omega⟩
    simp only [graph_Right.l0]
    rw [if_neg (by omega)]
  | d + 1, i, k, h, hk => by
    obtain ⟨k, rfl⟩ : ∃ q, k = q + 1 := ⟨k - 1, by omega⟩
    have hi : i < es.length := by omega
    have h4 := hN.2.2.2.2
    obtain ⟨e0, e1, e2⟩ := hN.2.2.2.1 _ (List.getElem_mem hi)
    have go : graph_Right.l0 k es (es.length : Int) (wrap64 ((i : Int) + 1)) n es = some true := by
      rw [w64 (by omega) (by omega), show (i : Int) + 1 = ((i + 1 : Nat) : Int) by omega]
      exact right_l0 n es hN d (i + 1) k (by omega) (by omega)
    simp only [graph_Right.l0]
    rw [if_pos (by omega), if_pos (by omega), if_pos (by omega), rd39_mem es i hi, if_neg (by omega), if_neg (by omega), if_neg (by omega)]
    by_cases c : (i : Int) > 0
    · obtain ⟨j, rfl⟩ : ∃ j, i = j + 1 := ⟨i - 1, by omega⟩
      have hj : j < es.length := by omega
      obtain ⟨q, rfl⟩ : ∃ q, k = q + 4 := ⟨k - 4, by omega⟩
      obtain ⟨t, ht, hlt⟩ := compare_lt (List.pairwise_iff_getElem.1 hN.2.2.1 j (j + 1) hj hi (by omega)) q
      have ew : wrap64 (((j + 1 : Nat) : Int) - 1) = (j : Int) := by rw [w64 (by omega) (by omega)]; omega
      rw [if_pos c, ew, if_pos (by omega), if_pos (by omega), rd39_mem es j hj, ht]
      simp only [Option.bind_some]
      rw [if_neg (by omega)]
      exact go
    · rw [if_neg c]
      exact go
theorem right_true {n : Int} {es : List S39} (hN : Normed n es) (k : Nat) (hk : es.length + 20 < k) : graph_Right.f k n es = some true := by
  obtain ⟨k, rfl⟩ : ∃ q, k = q + 1 := ⟨k - 1, by omega⟩
  have h4 := hN.2.2.2.2
  have h0 := hN.1
  have h1 := hN.2.1
  unfold graph_Right.f
  rw [if_neg (by omega), if_neg (by omega), show decide ((es.length : Int) > 4000) = false from decide_eq_false (by omega)]
  simp only [graph_Right.j0]
  rw [if_neg (by simp)]
  exact right_l0 n es hN es.length 0 k (by omega) (by omega)
theorem normed_nil : Normed 0 [] := ⟨by decide, by decide, List.Pairwise.nil, fun _ h => absurd h (by simp), by simp⟩
theorem op_normed {x : S34} (h : OpOk x) : Normed x.f2.f0 x.f2.f1 := by
  rcases h.2 with ⟨_, hN, _⟩ | ⟨_, _, _, h2⟩ | ⟨_, _, h2⟩
  · exact hN
  · rw [h2]; exact normed_nil
  · rw [h2]; exact normed_nil
/-! ### Where tokens stand -/
structure TokAt (L : List UInt8) (t : S53) : Prop where
  ge : 0 ≤ t.f1
  le : t.f1.toNat + t.f2.data.toList.length ≤ L.length
  txt : (L.drop t.f1.toNat).take t.f2.data.toList.length = t.f2.data.toList
  word : t.f0 = 1 → t.f2.data.toList ≠ []
def Before (a b : S53) : Prop := a.f1 + (a.f2.data.toList.length : Int) ≤ b.f1
structure Placed (L : List UInt8) (p : Nat) (acc : List S53) : Prop where
  at_ : ∀ t ∈ acc, TokAt L t ∧ t.f1 + (t.f2.data.toList.length : Int) ≤ p
  ord : acc.Pairwise Before
theorem Placed.mono {L : List UInt8} {p q : Nat} {acc : List S53} (h : Placed L p acc) (hq : p ≤ q) : Placed L q acc := ⟨fun t ht => ⟨(h.at_ t ht).1, by have := (h.at_ t ht).2; omega⟩, h.ord⟩
theorem Placed.snoc {L : List UInt8} {p q : Nat} {acc : List S53} (h : Placed L p acc) (t : S53) (h1 : t.f1 = (p : Int)) (h2 : p + t.f2.data.toList.length ≤ q) (hq : q ≤ L.length) (ht : (L.drop p).take t.f2.data.toList.length = t.f2.data.toList) (hw : t.f0 = 1 → t.f2.data.toList ≠ []) : Placed L q (acc ++ [t]) := by
  have e : t.f1.toNat = p := by rw [h1]; rfl
  constructor
  · intro u hu
    rcases List.mem_append.1 hu with hu | hu
    · exact ⟨(h.at_ u hu).1, by have := (h.at_ u hu).2; omega⟩
    · obtain rfl := List.mem_singleton.1 hu
      exact ⟨⟨by omega, by omega, by rw [e]; exact ht, hw⟩, by omega⟩
  · refine List.pairwise_append.2 ⟨h.ord, List.pairwise_singleton _ _, fun u hu v hv => ?_⟩
    obtain rfl := List.mem_singleton.1 hv
    unfold Before
    have := (h.at_ u hu).2
    omega
theorem take_pre {L a b : List UInt8} {p : Nat} (h : L.drop p = a ++ b) : (L.drop p).take a.length = a := by rw [h]; simp
theorem lexT_placed (L : List UInt8) : ∀ (n : Nat) (ps : List Pc) (p : Nat) (acc : List S53), ps.length ≤ n → AllGood ps → L.drop p = pbytes ps → p ≤ L.length → Placed L p acc → Placed L L.length (lexT p ps acc).1
  | n, [], p, acc, _, _, _, hp, ha => by rw [lexT_nil]; exact ha.mono hp
  | 0, x :: r, p, acc, hn, _, _, _, _ => absurd hn (by simp)
  | n + 1, x :: r, p, acc, hn, hg, hL, hp, ha => by
    have hr : r.length ≤ n := by simpa using hn
    have hgx := hg x (by simp)
    have hgr : AllGood r := fun y hy => hg y (by simp [hy])
    have hd : ∀ q : Pc → Bool, (r.dropWhile q).length ≤ n := fun q => Nat.le_trans (dropWhile_len q r) hr
    have hdg : ∀ q : Pc → Bool, AllGood (r.dropWhile q) := fun q y hy => hgr y ((List.dropWhile_sublist q).subset hy)
    rw [pbytes_cons] at hL
    have hlen : p + x.1.length + (pbytes r).length = L.length := by
      have := congrArg List.length hL
      rw [List.length_drop, List.length_append] at this
      omega
    have hs := fun q : Pc → Bool => pbytes_split q r
    have L1 : L.drop (p + x.1.length) = pbytes r := by rw [← List.drop_drop, hL]; simp
    have L2 : ∀ q : Pc → Bool, L.drop (p + x.1.length + (pbytes (r.takeWhile q)).length) = pbytes (r.dropWhile q) := fun q => by
      rw [← List.drop_drop, L1]
      conv => lhs; rw [← List.takeWhile_append_dropWhile (p := q) (l := r), pbytes_append]
      rw [List.takeWhile_append_dropWhile]
      simp
    have hL3 : ∀ q : Pc → Bool, L.drop p = (x.1 ++ pbytes (r.takeWhile q)) ++ pbytes (r.dropWhile q) := fun q => by
      rw [hL, List.append_assoc, ← pbytes_append, List.takeWhile_append_dropWhile]
    rw [lexT_cons]
    split
    · have := hs isL
      exact lexT_placed L n _ _ _ (hd _) (hdg _) (L2 _) (by omega) (ha.mono (by omega))
    · split
      · exact lexT_placed L n _ _ _ hr hgr L1 (by omega) (ha.mono (by omega))
      · split
        · exact lexT_placed L n _ _ _ hr hgr L1 (by omega) (ha.snoc _ rfl (by simp) (by omega) (by simp) (fun h => absurd h (by show ¬ (4 : Int) = 1; decide)))
        · split
          · split
            · exact ⟨fun t ht => absurd ht (by simp), List.Pairwise.nil⟩
            · have := hs isD
              refine lexT_placed L n _ _ _ (hd _) (hdg _) (L2 _) (by omega) (ha.snoc _ rfl ?_ (by omega) ?_ (fun h => absurd h (by show ¬ (2 : Int) = 1; decide)))
              · rw [mkB_data, List.length_append]; omega
              · rw [mkB_data]; exact take_pre (hL3 isD)
          · split
            · split
              · exact ⟨fun t ht => absurd ht (by simp), List.Pairwise.nil⟩
              · have := hs isW
                refine lexT_placed L n _ _ _ (hd _) (hdg _) (L2 _) (by omega) (ha.snoc _ rfl ?_ (by omega) ?_ (fun _ => ?_))
                · rw [mkB_data, List.length_append]; omega
                · rw [mkB_data]; exact take_pre (hL3 isW)
                · rw [mkB_data]; simp [hgx.2.1]
            · split
              · exact lexT_placed L n _ _ _ hr hgr L1 (by omega) (ha.snoc _ rfl (by rw [mkB_data]; exact Nat.le_refl _) (by omega) (by rw [mkB_data]; exact take_pre hL) (fun h => absurd h (by show ¬ (3 : Int) = 1; decide)))
              · exact ⟨fun t ht => absurd ht (by simp), List.Pairwise.nil⟩
theorem lexS_placed (ln : List UInt8) (h : ln.length < 1000000000000) : Placed ln ln.length (lexS ln).1 := by
  obtain ⟨ps, r, hg, he, hc⟩ := lex_cases ln h
  have hnil : Placed ln 0 [] := ⟨fun t ht => absurd ht (by simp), List.Pairwise.nil⟩
  unfold lexS
  rcases hc with ⟨hr, hc⟩ | ⟨_, hc⟩
  · rw [hc]
    exact lexT_placed ln _ ps 0 [] (Nat.le_refl _) hg (by rw [List.drop_zero, he, hr, List.append_nil]) (Nat.zero_le _) hnil
  · rw [hc]
    exact hnil.mono (Nat.zero_le _)
theorem here_tok {l : List S53} {en : Int} {i : Nat} (h : i < l.length) : hereP l en i = (rd_T53 l (i : Int)).f1 := by unfold hereP; rw [if_pos h]
/-- Of an operation that is read: where it and its name stand in the line. -/
theorem line_places {l : List S53} {en : Int} (h : errOf (lineP l en) = 0) : takeP l 1 0 = true ∧ takeP l 1 1 = true ∧ (lineP l en).2.1 = (rd_T53 l ((1 : Nat) : Int)).f2 ∧ (lineP l en).2.2.2.2.2.1 = (rd_T53 l ((0 : Nat) : Int)).f1 ∧ (lineP l en).2.2.2.2.2.2.1 = (rd_T53 l ((1 : Nat) : Int)).f1 := by
  unfold lineP at h ⊢
  split at h
  · rename_i h1
    rw [if_pos h1]
    split at h
    · rename_i h2
      rw [if_pos h2]
      have e2 := takeP_tok h2
      have e1 := takeP_tok h1.1
      rw [here_tok e1.2.1, here_tok e2.2.1] at *
      split at h
      · rename_i h3
        rw [if_pos h3]
        split at h
        · rename_i h4
          rw [if_pos h4, (finR_ok h).1]
          exact ⟨h1.1, h2, by rw [e2.1], rfl, rfl⟩
        · exact absurd h (show ¬ (3 : Int) = 0 by decide)
      · rename_i h3
        rw [if_neg h3]
        split at h
        · rename_i h4
          rw [if_pos h4]
          unfold lineLoad at h ⊢
          split at h
          · rename_i h5
            rw [if_pos h5]
            split at h
            · exact absurd h (show ¬ (5 : Int) = 0 by decide)
            · rename_i h6
              rw [if_neg h6]
              split at h
              · rename_i h7
                rw [if_pos h7]
                split at h
                · rename_i h8
                  rw [if_pos h8]
                  exact ⟨h1.1, h2, by rw [e2.1], rfl, rfl⟩
                · rename_i h8
                  exact absurd h h8
              · rename_i h7
                exact absurd h h7
          · exact absurd h (show ¬ (3 : Int) = 0 by decide)
        · rename_i h4
          rw [if_neg h4, (finR_ok h).1]
          exact ⟨h1.1, h2, by rw [e2.1], rfl, rfl⟩
    · exact absurd h (show ¬ (3 : Int) = 0 by decide)
  · exact absurd h (show ¬ (3 : Int) = 0 by decide)
/-! ### Where operations stand -/
def nextOf (x : S34) : Int := x.f5 + (x.f1.data.toList.length : Int)
def lastOf (last : Int) : List S34 → Int
  | [] => last
  | x :: r => lastOf (nextOf x) r
def PlaceOk (S : List UInt8) (last : Int) (x : S34) : Prop := last ≤ x.f4 ∧ x.f4 < x.f5 ∧ nextOf x ≤ S.length ∧ x.f1.data.toList ≠ [] ∧ (S.drop x.f5.toNat).take x.f1.data.toList.length = x.f1.data.toList
def Chain (S : List UInt8) (last : Int) : List S34 → Prop
  | [] => True
  | x :: r => PlaceOk S last x ∧ Chain S (nextOf x) r
theorem chain_snoc (S : List UInt8) : ∀ (l : List S34) (last : Int) (x : S34), Chain S last l → PlaceOk S (lastOf last l) x → Chain S last (l ++ [x]) ∧ lastOf last (l ++ [x]) = nextOf x
  | [], last, x, _, h => ⟨⟨h, trivial⟩, rfl⟩
  | y :: l, last, x, hc, h => by
    obtain ⟨h1, h2⟩ := chain_snoc S l (nextOf y) x hc.2 h
    exact ⟨⟨hc.1, h1⟩, h2⟩
theorem parse_places (S : List UInt8) (hS : S.length ≤ 1048576) : ∀ (n : Nat) (l : List UInt8), l.length ≤ n → ∀ (fr : Nat) (acc : List S34), S.drop fr = l → Chain S 0 acc → lastOf 0 acc ≤ fr →
    Chain S 0 (parseT fr l acc).1 ∧ ((parseT fr l acc).2.2 ≠ 0 → lastOf 0 (parseT fr l acc).1 ≤ (parseT fr l acc).2.1)
  | n, [], _, fr, acc, _, hc, _ => by
    rw [parseT_nil]
    exact ⟨hc, fun h => absurd rfl h⟩
  | 0, c :: r, hn, _, _, _, _, _ => absurd hn (by simp)
  | n + 1, c :: r, hn, fr, acc, hd, hc, hf => by
    have hrest := restB_lt c r
    generalize hl : c :: r = l at *
    have hne : l ≠ [] := by rw [← hl]; simp
    have hln := lineB_le l
    have hlen : fr + l.length = S.length := by
      have h2 := congrArg List.length hd
      have := List.length_pos_iff.2 hne
      rw [List.length_drop] at h2
      omega
    obtain ⟨w1, w2, w3⟩ := lexS_within (lineB l) (by omega)
    have hpl := lexS_placed (lineB l) (by omega)
    have next : ∀ acc', Chain S 0 acc' → lastOf 0 acc' ≤ ((fr + (lineB l).length + 1 : Nat) : Int) → Chain S 0 (parseT (fr + (lineB l).length + 1) (restB l) acc').1 ∧ ((parseT (fr + (lineB l).length + 1) (restB l) acc').2.2 ≠ 0 → lastOf 0 (parseT (fr + (lineB l).length + 1) (restB l) acc').1 ≤ (parseT (fr + (lineB l).length + 1) (restB l) acc').2.1) := fun acc' h1 h2 => by
      rcases indexByte_line l with ⟨_, _, a3⟩ | ⟨_, a2, a3⟩
      · rw [a3, parseT_nil]
        exact ⟨h1, fun h => absurd rfl h⟩
      · refine parse_places S hS n (restB l) (by omega) _ acc' ?_ h1 h2
        rw [← a2, ← hd, List.drop_drop]
        congr 1
    rw [parseT_step fr l acc hne]
    split
    · split
      · exact next acc hc (by omega)
      · split
        · obtain ⟨v1, v2⟩ := rd_within w1 (by omega) 0
          exact ⟨hc, fun _ => by simp only; omega⟩
        · obtain ⟨⟨x1, x2⟩, ⟨x3, x4⟩, x5, x6⟩ := line_within (en := ((lineB l).length : Int)) w1 (by omega) (by omega) (Int.le_refl _)
          split
          · rename_i he
            obtain ⟨t0, t1, e1, e2, e3⟩ := line_places he
            obtain ⟨_, i0, k0⟩ := takeP_tok t0
            obtain ⟨_, i1, k1⟩ := takeP_tok t1
            have m0 := rd53_mem i0
            have m1 := rd53_mem i1
            obtain ⟨p0, q0⟩ := hpl.at_ _ m0
            obtain ⟨p1, q1⟩ := hpl.at_ _ m1
            have hord : Before (rd_T53 (lexS (lineB l)).1 ((0 : Nat) : Int)) (rd_T53 (lexS (lineB l)).1 ((1 : Nat) : Int)) := by
              have := List.pairwise_iff_getElem.1 hpl.ord 0 1 i0 i1 (by omega)
              have g : ∀ (i : Nat) (h : i < (lexS (lineB l)).1.length), rd_T53 (lexS (lineB l)).1 (i : Int) = (lexS (lineB l)).1[i]'h := fun i h => by
                unfold rd_T53
                rw [List.getD_eq_getElem?_getD, Int.toNat_natCast, List.getElem?_eq_getElem h]
                rfl
              rw [g 0 i0, g 1 i1]
              exact this
            unfold Before at hord
            have hw0 := List.length_pos_iff.2 (p0.word k0)
            have g1 := p1.ge
            have g0 := p0.ge
            have hpk : PlaceOk S (lastOf 0 acc) (opAt fr (lineP (lexS (lineB l)).1 (lineB l).length)) := by
              have a5 : (opAt (fr : Int) (lineP (lexS (lineB l)).1 (lineB l).length)).f5 = (rd_T53 (lexS (lineB l)).1 ((1 : Nat) : Int)).f1 + fr := by rw [← e3]; rfl
              have a4 : (opAt (fr : Int) (lineP (lexS (lineB l)).1 (lineB l).length)).f4 = (rd_T53 (lexS (lineB l)).1 ((0 : Nat) : Int)).f1 + fr := by rw [← e2]; rfl
              have a1 : (opAt (fr : Int) (lineP (lexS (lineB l)).1 (lineB l).length)).f1 = (rd_T53 (lexS (lineB l)).1 ((1 : Nat) : Int)).f2 := e1
              unfold PlaceOk nextOf
              rw [a1, a4, a5]
              have hle := p1.le
              have htx := p1.txt
              generalize rd_T53 (lexS (lineB l)).1 ((1 : Nat) : Int) = T1 at *
              generalize rd_T53 (lexS (lineB l)).1 ((0 : Nat) : Int) = T0 at *
              refine ⟨by omega, by omega, by omega, p1.word k1, ?_⟩
              have e : (T1.f1 + (fr : Int)).toNat = fr + T1.f1.toNat := by omega
              rw [e, ← List.drop_drop, hd]
              have hsplit : l.drop T1.f1.toNat = (lineB l).drop T1.f1.toNat ++ (l.drop (lineB l).length) := by
                conv => lhs; rw [← List.take_append_drop (lineB l).length l, lineB_take]
                rw [List.drop_append_of_le_length (by omega)]
              rw [hsplit, List.take_append_of_le_length (by rw [List.length_drop]; omega)]
              exact htx
            obtain ⟨c1, c2⟩ := chain_snoc S acc 0 _ hc hpk
            refine next _ c1 ?_
            rw [c2]
            have a5 : (opAt (fr : Int) (lineP (lexS (lineB l)).1 (lineB l).length)).f5 = (rd_T53 (lexS (lineB l)).1 ((1 : Nat) : Int)).f1 + fr := by rw [← e3]; rfl
            have a1 : (opAt (fr : Int) (lineP (lexS (lineB l)).1 (lineB l).length)).f1 = (rd_T53 (lexS (lineB l)).1 ((1 : Nat) : Int)).f2 := e1
            unfold nextOf
            rw [a1, a5]
            omega
          · exact ⟨hc, fun _ => by simp only [posOf]; omega⟩
    · exact ⟨hc, fun _ => by simp only; omega⟩
/-- What an operation of the law's is, its predecessor's end given. -/
def GoodOp (S : List UInt8) (last : Int) (x : S34) : Prop := OpOk x ∧ PlaceOk S last x
end Go.Proofs.YtmdmdbiinngneaaDoor.Q

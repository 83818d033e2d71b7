import Derived.Test.YtmdmdbiinngneaaGreatDoorU6
import Derived.Test.YtmdmdbiinngneaaGreatDoorQ23
import Derived.Laws.Strings
namespace Go.Proofs.YtmdmdbiinngneaaGreatDoor.Q
open Go Go.RowKit Go.Proofs.YtmdmdbiinngneaaGreatDoorW.PrintWords Go.Proofs.YtmdmdbiinngneaaGreatDoorW.PrintLast Go.Proofs.YtmdmdbiinngneaaGreatDoorW.PrintMore Go.Proofs.YtmdmdbiinngneaaGreatDoor.Pieces
set_option linter.unusedVariables false
set_option linter.unusedSimpArgs false
/-! ### the second reader's line: its small words -/
theorem rd49 (l : List S43) (i : Nat) (h : i < l.length) : rd_T49 (l.map t49) (i : Int) = t49 (rd_T43 l (i : Int)) := by
  unfold rd_T49 rd_T43
  simp [h]
theorem is_eq (l : List S43) (i : Nat) (kind : Int) : carcanetref25_is.f (l.map t49) (i : Int) kind = some (takeP l kind i) := by
  unfold carcanetref25_is.f takeP
  by_cases h : i < l.length
  · rw [if_pos (by simp; omega), if_pos (by omega), rd49 l i h, decide_eq_true h, Bool.true_and]
    rfl
  · rw [if_neg (by simp; omega), decide_eq_false h, Bool.false_and]
theorem place_eq (l : List S43) (i : Nat) (en : Int) : carcanetref25_place.f (l.map t49) (i : Int) en = some (hereP l en i) := by
  unfold carcanetref25_place.f hereP
  by_cases h : i < l.length
  · rw [if_pos (by simp; omega), if_pos (by omega), rd49 l i h, if_pos h]
    rfl
  · rw [if_neg (by simp; omega), if_neg h]
/-- Two rising lists with the same members are one. -/
theorem ltE_irr (x : S64) : ¬ ltE x x := by unfold ltE; omega
theorem ltE_asym {x y : S64} (h : ltE x y) : ¬ ltE y x := by unfold ltE at *; omega
theorem rising_eq : ∀ (l m : List S64), l.Pairwise ltE → m.Pairwise ltE → (∀ x, x ∈ l ↔ x ∈ m) → l = m
  | [], [], _, _, _ => rfl
  | [], b :: m, _, _, h => absurd ((h b).2 (by simp)) (by simp)
  | a :: l, [], _, _, h => absurd ((h a).1 (by simp)) (by simp)
  | a :: l, b :: m, hl, hm, h => by
    rw [List.pairwise_cons] at hl hm
    have hab : a = b := by
      rcases List.mem_cons.1 ((h a).1 (by simp)) with e | e
      · exact e
      · rcases List.mem_cons.1 ((h b).2 (by simp)) with e2 | e2
        · exact e2.symm
        · exact absurd (hm.1 a e) (ltE_asym (hl.1 b e2))
    subst hab
    congr 1
    refine rising_eq l m hl.2 hm.2 (fun x => ⟨fun hx => ?_, fun hx => ?_⟩)
    · rcases List.mem_cons.1 ((h x).1 (by simp [hx])) with e | e
      · subst e
        exact absurd (hl.1 x hx) (ltE_irr x)
      · exact e
    · rcases List.mem_cons.1 ((h x).2 (by simp [hx])) with e | e
      · subst e
        exact absurd (hm.1 x hx) (ltE_irr x)
      · exact e
theorem verb_eq (s : ByteArray) : carcanetref25_verb.f s = some (verbP s) := by
  have e : carcanetref25_verb.f s = script_verb.f s := rfl
  rw [e]
  unfold verbP script_verb.f
  repeat' split
  all_goals rfl
theorem title_eq (x : Int) : carcanetref25_Title.f x = script_title.f x := rfl
theorem class_l0_eq : ∀ (k : Nat) (s : ByteArray) (x : Int), carcanetref25_class.l0 k s x = script_class.l0 k s x
  | 0, _, _ => by simp only [carcanetref25_class.l0, script_class.l0]
  | k + 1, s, x => by
    simp only [carcanetref25_class.l0, script_class.l0, title_eq, class_l0_eq k]
theorem cl_step (k : Nat) (s : ByteArray) (x y : Int) (t : ByteArray) (ht : script_title.f x = some t) (hx : x ≤ 4) (hy : wrap64 (x + 1) = y) : script_class.l0 (k + 1) s x = if t.toList = s.toList then some x else script_class.l0 k s y := by
  simp only [script_class.l0]
  rw [if_pos hx, ht, hy]
  rfl
theorem cl_end (k : Nat) (s : ByteArray) : script_class.l0 (k + 1) s 5 = some 0 := by
  simp only [script_class.l0]
  rw [if_neg (by decide)]
theorem class_all (s : ByteArray) : ∃ c, ∀ k, script_class.f (k + 5) s = some c := by
  have h1 := fun k => cl_step (k + 4) s 1 2 _ rfl (by decide) (by unfold wrap64; omega)
  have h2 := fun k => cl_step (k + 3) s 2 3 _ rfl (by decide) (by unfold wrap64; omega)
  have h3 := fun k => cl_step (k + 2) s 3 4 _ rfl (by decide) (by unfold wrap64; omega)
  have h4 := fun k => cl_step (k + 1) s 4 5 _ rfl (by decide) (by unfold wrap64; omega)
  by_cases c1 : (⟨#[111, 117, 116, 101, 114]⟩ : ByteArray).toList = s.toList
  · exact ⟨1, fun k => by unfold script_class.f; rw [h1, if_pos c1]⟩
  by_cases c2 : (⟨#[109, 97, 120, 105, 109, 97, 108]⟩ : ByteArray).toList = s.toList
  · exact ⟨2, fun k => by unfold script_class.f; rw [h1, if_neg c1, h2, if_pos c2]⟩
  by_cases c3 : (⟨#[110, 97, 114, 114, 111, 119]⟩ : ByteArray).toList = s.toList
  · exact ⟨3, fun k => by unfold script_class.f; rw [h1, if_neg c1, h2, if_neg c2, h3, if_pos c3]⟩
  by_cases c4 : (⟨#[104, 97, 108, 105, 110]⟩ : ByteArray).toList = s.toList
  · exact ⟨4, fun k => by unfold script_class.f; rw [h1, if_neg c1, h2, if_neg c2, h3, if_neg c3, h4, if_pos c4]⟩
  · exact ⟨0, fun k => by unfold script_class.f; rw [h1, if_neg c1, h2, if_neg c2, h3, if_neg c3, h4, if_neg c4, cl_end]⟩
theorem class_ev (s : ByteArray) : Ev (fun k => carcanetref25_class.f k s) (classP s) := by
  obtain ⟨c, hc⟩ := class_all s
  have h8 : classP s = c := by
    unfold classP
    rw [hc 3]
    rfl
  refine ⟨5, fun k hk => ?_⟩
  obtain ⟨j, rfl⟩ : ∃ j, k = j + 5 := ⟨k - 5, by omega⟩
  have := hc j
  show carcanetref25_class.l0 (j + 5) s 1 = some (classP s)
  rw [class_l0_eq, h8]
  exact this
/-! ### the second reader's edges -/
theorem part_eq (i : Nat) (h : 3 ≤ i) (hb : i < 1000000000000) : Int.tmod (wrap64 ((i : Int) - 3)) 3 = (((i - 3) % 3 : Nat) : Int) := by
  have e : wrap64 ((i : Int) - 3) = ((i - 3 : Nat) : Int) := by unfold wrap64; omega
  rw [e, Int.tmod_eq_emod_of_nonneg (by omega)]
  omega
theorem edge1 (l : List S43) (en n : Int) (acc : List S64) (i : Nat) (h : 3 ≤ i) (hb : i < 1000000000000) (hi : i < l.length) (hp : (i - 3) % 3 = 1) (k : Nat) :
    carcanetref25_edges.l0 (k + 1) (l.map t49) en n acc (i : Int) = if takeP l 3 i = true ∧ (rd_T43 l (i : Int)).f2.toList = [45] then carcanetref25_edges.l0 k (l.map t49) en n acc ((i + 1 : Nat) : Int) else some ([], (rd_T43 l (i : Int)).f1, 3) := by
  simp only [carcanetref25_edges.l0]
  rw [if_pos (by simp; omega), part_eq i h hb, if_pos (by omega), is_eq, Option.bind_some, if_pos (show (0 : Int) ≤ (i : Int) by omega), rd49 l i hi, show wrap64 ((i : Int) + 1) = ((i + 1 : Nat) : Int) by unfold wrap64; omega]
  by_cases h1 : takeP l 3 i = true
  · rw [if_pos h1]
    by_cases h2 : (rd_T43 l (i : Int)).f2.toList = [45]
    · rw [if_pos (show (t49 (rd_T43 l (i : Int))).f2.toList = [45] from h2), if_pos ⟨h1, h2⟩]
    · rw [if_neg (show ¬ (t49 (rd_T43 l (i : Int))).f2.toList = [45] from h2), if_neg (fun e => h2 e.2)]
      rfl
  · rw [if_neg h1, if_pos (show (0 : Int) ≤ (i : Int) by omega), if_neg (show ¬ (takeP l 3 i = true ∧ (rd_T43 l (i : Int)).f2.toList = [45]) from fun e => h1 e.1)]
    rfl
theorem edge0 (l : List S43) (en n : Int) (acc : List S64) (i : Nat) (h : 3 ≤ i) (hb : i < 1000000000000) (hi : i < l.length) (hp : (i - 3) % 3 = 0) (k : Nat) :
    carcanetref25_edges.l0 (k + 1) (l.map t49) en n acc (i : Int) = if takeP l 2 i = true then (if n ≤ (rd_T43 l (i : Int)).f3 then some ([], (rd_T43 l (i : Int)).f1, 4) else carcanetref25_edges.l0 k (l.map t49) en n acc ((i + 1 : Nat) : Int)) else some ([], (rd_T43 l (i : Int)).f1, 3) := by
  simp only [carcanetref25_edges.l0]
  rw [if_pos (by simp; omega), part_eq i h hb, if_neg (by omega), is_eq, Option.bind_some, if_pos (show (0 : Int) ≤ (i : Int) by omega), rd49 l i hi, show wrap64 ((i : Int) + 1) = ((i + 1 : Nat) : Int) by unfold wrap64; omega, if_pos (show (0 : Int) ≤ (i : Int) by omega), if_neg (show ¬ (((i - 3) % 3 : Nat) : Int) = 2 by omega)]
  rfl
theorem edge2 (l : List S43) (en n : Int) (acc : List S64) (i : Nat) (h : 3 ≤ i) (hb : i < 1000000000000) (hi : i < l.length) (hp : (i - 3) % 3 = 2) (ha : acc.length ≤ i) (k : Nat) :
    carcanetref25_edges.l0 (k + 1) (l.map t49) en n acc (i : Int) = if takeP l 2 i = true then (if n ≤ (rd_T43 l (i : Int)).f3 then some ([], (rd_T43 l (i : Int)).f1, 4) else carcanetref25_edges.l0 k (l.map t49) en n (acc ++ [⟨(rd_T43 l ((i - 2 : Nat) : Int)).f3, (rd_T43 l (i : Int)).f3⟩]) ((i + 1 : Nat) : Int)) else some ([], (rd_T43 l (i : Int)).f1, 3) := by
  simp only [carcanetref25_edges.l0]
  rw [if_pos (by simp; omega), part_eq i h hb, if_neg (by omega), is_eq, Option.bind_some, if_pos (show (0 : Int) ≤ (i : Int) by omega), rd49 l i hi, show wrap64 ((i : Int) + 1) = ((i + 1 : Nat) : Int) by unfold wrap64; omega, if_pos (show (0 : Int) ≤ (i : Int) by omega), if_pos (show (((i - 3) % 3 : Nat) : Int) = 2 by omega), show wrap64 ((i : Int) - 2) = ((i - 2 : Nat) : Int) by unfold wrap64; omega, if_pos (show (0 : Int) ≤ ((i - 2 : Nat) : Int) by omega), if_pos (show ((i - 2 : Nat) : Int) < ((l.map t49).length : Int) by simp; omega), if_pos (show acc.length < 8796093022208 by omega), rd49 l (i - 2) (by omega)]
  rfl
theorem edgeE (l : List S43) (en n : Int) (acc : List S64) (i : Nat) (hi : l.length ≤ i) (k : Nat) :
    carcanetref25_edges.l0 (k + 1) (l.map t49) en n acc (i : Int) = if l.length % 3 = 0 then some (acc, 0, 0) else some ([], en, 3) := by
  simp only [carcanetref25_edges.l0]
  rw [if_neg (by simp; omega), List.length_map]
  by_cases h : l.length % 3 = 0
  · rw [if_pos (by omega), if_pos h]
  · rw [if_neg (by omega), if_neg h]
def resE (r : Int × Int × List S64 × Nat) : List S64 × Int × Int := if r.2.1 = 0 then (r.2.2.1, 0, 0) else ([], r.1, r.2.1)
theorem here_in {l : List S43} {en : Int} {i : Nat} (h : i < l.length) : hereP l en i = (rd_T43 l (i : Int)).f1 := by unfold hereP; rw [if_pos h]
theorem here_out {l : List S43} {en : Int} {i : Nat} (h : ¬ i < l.length) : hereP l en i = en := by unfold hereP; rw [if_neg h]
theorem takeP_out {l : List S43} {kind : Int} {i : Nat} (h : ¬ i < l.length) : ¬ takeP l kind i = true := by unfold takeP; rw [decide_eq_false h, Bool.false_and]; decide
theorem edges_ev (l : List S43) (en n : Int) (hl : l.length < 100000000000) : ∀ (b i : Nat) (acc : List S64), 3 ≤ i → i % 3 = 0 → i ≤ l.length → l.length ≤ i + b → acc.length ≤ i → Ev (fun k => carcanetref25_edges.l0 k (l.map t49) en n acc (i : Int)) (resE (lineEdges l en n b i acc))
  | 0, i, acc, h3, hm, hi, hb, ha => by
    refine Ev.some_ fun k => ?_
    rw [edgeE l en n acc i (by omega), if_pos (by omega)]
    rfl
  | b + 1, i, acc, h3, hm, hi, hb, ha => by
    rw [lineEdges]
    by_cases c1 : i < l.length
    · rw [if_pos c1]
      have e0 := edge0 l en n acc i h3 (by omega) c1 (by omega)
      by_cases c2 : takeP l 2 i = true
      · rw [if_pos c2]
        by_cases c3 : n ≤ (rd_T43 l (i : Int)).f3
        · rw [if_pos c3]
          refine Ev.some_ fun k => ?_
          rw [e0, if_pos c2, if_pos c3]
          rfl
        · rw [if_neg c3]
          refine Ev.step (g := fun k => carcanetref25_edges.l0 k (l.map t49) en n acc ((i + 1 : Nat) : Int)) ?_ (fun k => by rw [e0, if_pos c2, if_neg c3])
          by_cases c4 : i + 1 < l.length
          · have e1 := edge1 l en n acc (i + 1) (by omega) (by omega) c4 (by omega)
            by_cases c5 : takeP l 3 (i + 1) = true ∧ (rd_T43 l ((i + 1 : Nat) : Int)).f2.toList = [45]
            · rw [if_pos c5]
              refine Ev.step (g := fun k => carcanetref25_edges.l0 k (l.map t49) en n acc ((i + 1 + 1 : Nat) : Int)) ?_ (fun k => by rw [e1, if_pos c5])
              by_cases c6 : i + 1 + 1 < l.length
              · have e2 := edge2 l en n acc (i + 1 + 1) (by omega) (by omega) c6 (by omega) (by omega)
                by_cases c7 : takeP l 2 (i + 2) = true
                · rw [if_pos c7]
                  by_cases c8 : n ≤ (rd_T43 l ((i + 2 : Nat) : Int)).f3
                  · rw [if_pos c8]
                    refine Ev.some_ fun k => ?_
                    rw [e2, if_pos c7, if_pos c8]
                    rfl
                  · rw [if_neg c8]
                    have ih := edges_ev l en n hl b (i + 3) (acc ++ [⟨(rd_T43 l (i : Int)).f3, (rd_T43 l ((i + 2 : Nat) : Int)).f3⟩]) (by omega) (by omega) (by omega) (by omega) (by simp; omega)
                    exact ih.step (fun k => by rw [e2, if_pos c7, if_neg c8]; rfl)
                · rw [if_neg c7, here_in c6]
                  refine Ev.some_ fun k => ?_
                  rw [e2, if_neg c7]
                  rfl
              · rw [if_neg (takeP_out c6), here_out c6]
                refine Ev.some_ fun k => ?_
                rw [edgeE l en n acc (i + 1 + 1) (by omega), if_neg (by omega)]
                rfl
            · rw [if_neg c5, here_in c4]
              refine Ev.some_ fun k => ?_
              rw [e1, if_neg c5]
              rfl
          · rw [if_neg (fun e => takeP_out c4 e.1), here_out c4]
            refine Ev.some_ fun k => ?_
            rw [edgeE l en n acc (i + 1) (by omega), if_neg (by omega)]
            rfl
      · rw [if_neg c2, here_in c1]
        refine Ev.some_ fun k => ?_
        rw [e0, if_neg c2]
        rfl
    · rw [if_neg c1]
      refine Ev.some_ fun k => ?_
      rw [edgeE l en n acc i (by omega), if_pos (by omega)]
      rfl
/-! ### the second reader's rows of neighbours -/
theorem in_ev (l : List Int) (hl : l.length < 1000000000000) (x : Int) : ∀ (b i : Nat), l.length ≤ i + b → Ev (fun k => carcanetref03_In.l0 k l x (i : Int)) (decide (x ∈ l.drop i))
  | 0, i, hb => by
    refine Ev.some_ fun k => ?_
    simp only [carcanetref03_In.l0]
    rw [if_neg (by omega), List.drop_eq_nil_of_le (by omega)]
    simp
  | b + 1, i, hb => by
    by_cases hi : i < l.length
    · have hr : rd l (i : Int) = l[i] := by unfold rd; simp [hi]
      have hd : l.drop i = l[i] :: l.drop (i + 1) := List.drop_eq_getElem_cons hi
      by_cases hx : l[i] = x
      · refine Ev.some_ fun k => ?_
        simp only [carcanetref03_In.l0]
        rw [if_pos (by omega), if_pos (by omega), hr, if_pos hx, hd]
        simp [hx]
      · have ih := in_ev l hl x b (i + 1) (by omega)
        have e : decide (x ∈ l.drop i) = decide (x ∈ l.drop (i + 1)) := by
          have hx2 : ¬ x = l[i] := fun e => hx e.symm
          refine decide_eq_decide.2 ?_
          rw [hd, List.mem_cons]
          exact ⟨fun h => h.resolve_left hx2, .inr⟩
        rw [e]
        refine ih.step fun k => ?_
        simp only [carcanetref03_In.l0]
        rw [if_pos (by omega), if_pos (by omega), hr, if_neg hx, show wrap64 ((i : Int) + 1) = ((i + 1 : Nat) : Int) by unfold wrap64; omega]
    · refine Ev.some_ fun k => ?_
      simp only [carcanetref03_In.l0]
      rw [if_neg (by omega), List.drop_eq_nil_of_le (by omega)]
      simp
theorem In_ev (l : List Int) (hl : l.length < 1000000000000) (x : Int) : Ev (fun k => carcanetref03_In.f k l x) (decide (x ∈ l)) := by
  have := in_ev l hl x l.length 0 (by omega)
  rw [List.drop_zero] at this
  exact this
/-- A row put in order: the same numbers, rising. -/
theorem posGo_spec (out : List Int) (x : Int) (hs : out.Pairwise (· ≤ ·)) : ∀ a, a ≤ out.length → (∀ (j : Nat) (h : j < out.length), a ≤ j → x < out[j]) → (∀ (j : Nat) (h : j < out.length), posGo out x a ≤ j → x < out[j]) ∧ (∀ (j : Nat) (h : j < out.length), j < posGo out x a → out[j] ≤ x)
  | 0, _, h => ⟨h, fun j _ h2 => absurd h2 (by simp [posGo])⟩
  | a + 1, ha, h => by
    have hr : rd out (a : Int) = out[a]'(by omega) := by unfold rd; simp [show a < out.length by omega]
    unfold posGo
    rw [hr]
    by_cases hx : x < out[a]'(by omega)
    · rw [if_pos hx]
      refine posGo_spec out x hs a (by omega) (fun j hj h2 => ?_)
      rcases Nat.lt_or_ge a j with h3 | h3
      · exact h j hj h3
      · have : j = a := by omega
        subst this
        exact hx
    · rw [if_neg hx]
      refine ⟨h, fun j hj h2 => ?_⟩
      rcases Nat.lt_or_ge j a with h3 | h3
      · have := List.pairwise_iff_getElem.1 hs j a hj (by omega) h3
        omega
      · have : j = a := by omega
        subst this
        omega
theorem posGo_le2 (out : List Int) (x : Int) : ∀ a, posGo out x a ≤ a
  | 0 => Nat.le_refl _
  | a + 1 => by
    unfold posGo
    split
    · exact Nat.le_trans (posGo_le2 out x a) (Nat.le_succ _)
    · exact Nat.le_refl _
theorem insOne_mem (out : List Int) (x y : Int) : y ∈ insOne out x ↔ y = x ∨ y ∈ out := by
  unfold insOne
  rw [List.mem_append, List.mem_cons]
  have : y ∈ out ↔ y ∈ out.take (posGo out x out.length) ∨ y ∈ out.drop (posGo out x out.length) := by
    rw [← List.mem_append, List.take_append_drop]
  rw [this]
  constructor
  · rintro (h | h | h)
    · exact .inr (.inl h)
    · exact .inl h
    · exact .inr (.inr h)
  · rintro (h | h | h)
    · exact .inr (.inl h)
    · exact .inl h
    · exact .inr (.inr h)
theorem insOne_sorted (out : List Int) (x : Int) (hs : out.Pairwise (· ≤ ·)) : (insOne out x).Pairwise (· ≤ ·) := by
  obtain ⟨h1, h2⟩ := posGo_spec out x hs out.length (Nat.le_refl _) (fun j hj h => absurd hj (by omega))
  have hp := posGo_le2 out x out.length
  unfold insOne
  rw [List.pairwise_append, List.pairwise_cons]
  refine ⟨hs.sublist (List.take_sublist _ _), ⟨fun y hy => ?_, hs.sublist (List.drop_sublist _ _)⟩, fun y hy z hz => ?_⟩
  · obtain ⟨j, hj, rfl⟩ := List.mem_iff_getElem.1 hy
    rw [List.length_drop] at hj
    rw [List.getElem_drop]
    have := h1 (posGo out x out.length + j) (by omega) (by omega)
    omega
  · obtain ⟨j, hj, rfl⟩ := List.mem_iff_getElem.1 hy
    rw [List.length_take] at hj
    have hyx := h2 j (by omega) (by omega)
    rw [List.getElem_take]
    rcases List.mem_cons.1 hz with rfl | hz
    · exact hyx
    · obtain ⟨i, hi, rfl⟩ := List.mem_iff_getElem.1 hz
      rw [List.length_drop] at hi
      rw [List.getElem_drop]
      have := h1 (posGo out x out.length + i) (by omega) (by omega)
      omega
theorem sortGo_spec (l : List Int) : ∀ (b i : Nat) (out : List Int), l.length ≤ i + b → out.Pairwise (· ≤ ·) → (sortGo l b i out).Pairwise (· ≤ ·) ∧ (∀ y, y ∈ sortGo l b i out ↔ y ∈ out ∨ y ∈ l.drop i) ∧ (sortGo l b i out).length = out.length + (l.length - i)
  | 0, i, out, hb, hs => ⟨hs, fun y => by rw [List.drop_eq_nil_of_le (by omega)]; simp [sortGo], by simp only [sortGo]; omega⟩
  | b + 1, i, out, hb, hs => by
    by_cases hi : i < l.length
    · have hr : rd l (i : Int) = l[i] := by unfold rd; simp [hi]
      have hd : l.drop i = l[i] :: l.drop (i + 1) := List.drop_eq_getElem_cons hi
      have e : sortGo l (b + 1) i out = sortGo l b (i + 1) (insOne out l[i]) := by simp only [sortGo, hi, if_true, hr]
      obtain ⟨h1, h2, h3⟩ := sortGo_spec l b (i + 1) (insOne out l[i]) (by omega) (insOne_sorted out _ hs)
      have hlen : (insOne out l[i]).length = out.length + 1 := by
        have := posGo_le2 out l[i] out.length
        unfold insOne
        simp
        omega
      rw [e]
      refine ⟨h1, fun y => ?_, by rw [h3, hlen]; omega⟩
      rw [h2, insOne_mem, hd, List.mem_cons]
      constructor
      · rintro ((h | h) | h)
        · exact .inr (.inl h)
        · exact .inl h
        · exact .inr (.inr h)
      · rintro (h | h | h)
        · exact .inl (.inr h)
        · exact .inl (.inl h)
        · exact .inr h
    · have e : sortGo l (b + 1) i out = out := by simp only [sortGo, hi, if_false]
      rw [e]
      exact ⟨hs, fun y => by rw [List.drop_eq_nil_of_le (by omega)]; simp, by omega⟩
/-! ### the second reader's graph in order: by rows of neighbours -/
theorem rdL11 (up : List (List Int)) (a : Nat) (h : a < up.length) : rd_L11 up (a : Int) = up[a] := by
  unfold rd_L11
  simp [h]
/-- What the rows hold when these edges have been read. -/
structure UpInv (n : Nat) (up : List (List Int)) (acc : List S64) : Prop where
  len : up.length = n
  dup : ∀ (a : Nat) (h : a < up.length), (up[a]).Nodup
  mem : ∀ (a : Nat) (h : a < up.length) (y : Int), y ∈ up[a] ↔ (⟨(a : Int), y⟩ : S64) ∈ acc
  few : ∀ (a : Nat) (h : a < up.length), (up[a]).length ≤ acc.length
  inn : ∀ x ∈ acc, EdgeIn (n : Int) x
theorem UpInv.start (n : Nat) : UpInv n (List.replicate n []) [] :=
  ⟨by simp, fun a h => by simp, fun a h y => by simp, fun a h => by simp, fun _ h => absurd h (by simp)⟩
theorem UpInv.put {n : Nat} {up : List (List Int)} {acc : List S64} (h : UpInv n up acc) (a : Nat) (ha : a < up.length) (y : Int) (hy : y ∉ up[a]) (he : EdgeIn (n : Int) ⟨(a : Int), y⟩) :
    UpInv n (up.set a (up[a] ++ [y])) (acc ++ [⟨(a : Int), y⟩]) := by
  refine ⟨by rw [List.length_set]; exact h.len, fun b hb => ?_, fun b hb z => ?_, fun b hb => ?_, fun x hx => ?_⟩
  · rw [List.length_set] at hb
    rw [List.getElem_set]
    split
    · rw [List.nodup_append]
      refine ⟨h.dup a ha, by simp, fun u hu v hv e => ?_⟩
      obtain rfl := List.mem_singleton.1 hv
      exact hy (e ▸ hu)
    · exact h.dup b hb
  · rw [List.length_set] at hb
    rw [List.getElem_set]
    split
    · rename_i hab
      subst hab
      rw [List.mem_append, List.mem_append, h.mem a ha z, List.mem_singleton, List.mem_singleton]
      constructor
      · rintro (e | rfl)
        · exact .inl e
        · exact .inr rfl
      · rintro (e | e)
        · exact .inl e
        · exact .inr (by injection e)
    · rename_i hab
      rw [h.mem b hb z, List.mem_append, List.mem_singleton]
      constructor
      · exact .inl
      · rintro (e | e)
        · exact e
        · injection e with e1 e2
          exact absurd e1 (by omega)
  · rw [List.length_set] at hb
    rw [List.getElem_set, List.length_append, List.length_singleton]
    split
    · rw [List.length_append, List.length_singleton]
      have := h.few a ha
      omega
    · have := h.few b hb
      omega
  · rcases List.mem_append.1 hx with e | e
    · exact h.inn x e
    · obtain rfl := List.mem_singleton.1 e
      exact he
theorem UpInv.again {n : Nat} {up : List (List Int)} {acc : List S64} (h : UpInv n up acc) (a : Nat) (ha : a < up.length) (y : Int) (hy : y ∈ up[a]) (he : EdgeIn (n : Int) ⟨(a : Int), y⟩) :
    UpInv n up (acc ++ [⟨(a : Int), y⟩]) := by
  refine ⟨h.len, h.dup, fun b hb z => ?_, fun b hb => ?_, fun x hx => ?_⟩
  · rw [h.mem b hb z, List.mem_append, List.mem_singleton]
    constructor
    · exact .inl
    · rintro (e | e)
      · exact e
      · injection e with e1 e2
        have : b = a := by omega
        subst this
        subst e2
        exact (h.mem b hb z).1 hy
  · rw [List.length_append]
    have := h.few b hb
    omega
  · rcases List.mem_append.1 hx with e | e
    · exact h.inn x e
    · obtain rfl := List.mem_singleton.1 e
      exact he
theorem mn_mnE (x y : Int) : mn x y = mnE x y := rfl
theorem mx_mxE (x y : Int) : mx x y = mxE x y := rfl
theorem mnE_cases (x y : Int) : mnE x y ≤ x ∧ mnE x y ≤ y ∧ (mnE x y = x ∨ mnE x y = y) := by
  unfold mnE; split <;> omega
theorem mxE_cases (x y : Int) : x ≤ mxE x y ∧ y ≤ mxE x y ∧ (mxE x y = x ∨ mxE x y = y) := by
  unfold mxE; split <;> omega
theorem mnmx (x y : Int) (h : x ≠ y) : mnE x y < mxE x y := by
  unfold mnE mxE; split <;> split <;> omega
theorem norm_l0 (n : Nat) (hn : n ≤ 1000) (l : List S64) (hl : l.length < 100000000) : ∀ (b i : Nat) (up : List (List Int)) (acc : List S64), l.length ≤ i + b → UpInv n up acc → acc.length ≤ i →
    (normGo n (l.drop i) acc = none → Ev (fun k => carcanetref03_Normal.l0 k (n : Int) l up (i : Int)) (0, [], 4)) ∧
    (∀ all, normGo n (l.drop i) acc = some all → ∃ up', UpInv n up' all ∧ ∀ r, Ev (fun k => carcanetref03_Normal.l1 k (n : Int) up' 0 (n : Int) []) r → Ev (fun k => carcanetref03_Normal.l0 k (n : Int) l up (i : Int)) r)
  | 0, i, up, acc, hb, hu, ha => by
    rw [List.drop_eq_nil_of_le (by omega)]
    refine ⟨fun h => absurd h (by simp [normGo]), fun all h => ?_⟩
    obtain rfl : acc = all := by simpa [normGo] using h
    refine ⟨up, hu, fun r hr => hr.step fun k => ?_⟩
    simp only [carcanetref03_Normal.l0]
    rw [if_neg (by omega)]
  | b + 1, i, up, acc, hb, hu, ha => by
    by_cases hi : i < l.length
    · have hr : rd_T64 l (i : Int) = l[i] := by unfold rd_T64; simp [hi]
      have hd : l.drop i = l[i] :: l.drop (i + 1) := List.drop_eq_getElem_cons hi
      generalize hx : l[i] = x at hr hd
      have hj : ∀ k, carcanetref03_Normal.l0 (k + 1) (n : Int) l up (i : Int) = carcanetref03_Normal.j1 k (n : Int) l up (i : Int) x.f0 x.f1 (decide (mnE x.f0 x.f1 < 0 ∨ (n : Int) ≤ mxE x.f0 x.f1)) := by
        intro k
        obtain ⟨a1, a2, a3⟩ := mnE_cases x.f0 x.f1
        obtain ⟨b1, b2, b3⟩ := mxE_cases x.f0 x.f1
        simp only [carcanetref03_Normal.l0]
        rw [if_pos (by omega), if_pos (by omega), hr]
        by_cases c1 : x.f0 < 0
        · rw [if_pos c1, decide_eq_true (by omega)]
        · rw [if_neg c1]
          by_cases c2 : x.f1 < 0
          · rw [if_pos c2, decide_eq_true (by omega)]
          · rw [if_neg c2]
            by_cases c3 : x.f0 ≥ (n : Int)
            · rw [if_pos c3, decide_eq_true (by omega)]
            · rw [if_neg c3]
              congr 1
              refine decide_eq_decide.2 ?_
              omega
      rw [hd]
      unfold normGo
      by_cases hbad : mnE x.f0 x.f1 < 0 ∨ (n : Int) ≤ mxE x.f0 x.f1
      · rw [if_pos hbad]
        refine ⟨fun _ => ?_, fun all h => absurd h (by simp)⟩
        refine Ev.step (g := fun k => carcanetref03_Normal.j1 k (n : Int) l up (i : Int) x.f0 x.f1 (decide (mnE x.f0 x.f1 < 0 ∨ (n : Int) ≤ mxE x.f0 x.f1))) (Ev.some_ fun k => ?_) hj
        simp only [carcanetref03_Normal.j1]
        rw [if_pos (decide_eq_true hbad)]
      · rw [if_neg hbad]
        by_cases hs : x.f0 = x.f1
        · rw [if_pos hs]
          obtain ⟨ih1, ih2⟩ := norm_l0 n hn l hl b (i + 1) up acc (by omega) hu (by omega)
          have hstep : ∀ r, Ev (fun k => carcanetref03_Normal.l0 k (n : Int) l up ((i + 1 : Nat) : Int)) r → Ev (fun k => carcanetref03_Normal.l0 k (n : Int) l up (i : Int)) r := by
            intro r h
            refine Ev.step (g := fun k => carcanetref03_Normal.j1 k (n : Int) l up (i : Int) x.f0 x.f1 (decide (mnE x.f0 x.f1 < 0 ∨ (n : Int) ≤ mxE x.f0 x.f1))) (h.step fun k => ?_) hj
            simp only [carcanetref03_Normal.j1]
            rw [if_neg (by simpa using hbad), if_pos hs, show wrap64 ((i : Int) + 1) = ((i + 1 : Nat) : Int) by unfold wrap64; omega]
          refine ⟨fun h => hstep _ (ih1 h), fun all h => ?_⟩
          obtain ⟨up', hu', hr'⟩ := ih2 all h
          exact ⟨up', hu', fun r h => hstep r (hr' r h)⟩
        · rw [if_neg hs]
          obtain ⟨a1, a2, a3⟩ := mnE_cases x.f0 x.f1
          obtain ⟨b1, b2, b3⟩ := mxE_cases x.f0 x.f1
          have hlt := mnmx x.f0 x.f1 hs
          obtain ⟨a, hae⟩ : ∃ a : Nat, mnE x.f0 x.f1 = (a : Int) := ⟨(mnE x.f0 x.f1).toNat, by omega⟩
          have hal : a < up.length := by rw [hu.len]; omega
          generalize hy : mxE x.f0 x.f1 = y at *
          have hedge : edgeOf x = ⟨(a : Int), y⟩ := by unfold edgeOf; rw [hae, hy]
          have hin : EdgeIn (n : Int) ⟨(a : Int), y⟩ := ⟨by simp only; omega, by simp only; omega, by simp only; omega⟩
          have hfew := hu.few a hal
          have hIn := In_ev up[a] (by omega) y
          rw [hedge]
          have hjj : ∀ k, carcanetref03_Normal.j1 (k + 1) (n : Int) l up (i : Int) x.f0 x.f1 (decide (mnE x.f0 x.f1 < 0 ∨ (n : Int) ≤ y)) = (carcanetref03_In.f k up[a] y).bind fun t => (if t = true then carcanetref03_Normal.l0 k (n : Int) l up ((i + 1 : Nat) : Int) else carcanetref03_Normal.l0 k (n : Int) l (up.set a (up[a] ++ [y])) ((i + 1 : Nat) : Int)) := by
            intro k
            simp only [carcanetref03_Normal.j1]
            rw [if_neg (by simpa using hbad), if_neg hs, mn_mnE, mx_mxE, hae, hy, if_pos (by omega), if_pos (by omega), rdL11 up a hal, if_pos (by omega), show wrap64 ((i : Int) + 1) = ((i + 1 : Nat) : Int) by unfold wrap64; omega]
            rfl
          by_cases hmem : y ∈ up[a]
          · obtain ⟨ih1, ih2⟩ := norm_l0 n hn l hl b (i + 1) up (acc ++ [⟨(a : Int), y⟩]) (by omega) (hu.again a hal y hmem hin) (by rw [List.length_append, List.length_singleton]; omega)
            have hstep : ∀ r, Ev (fun k => carcanetref03_Normal.l0 k (n : Int) l up ((i + 1 : Nat) : Int)) r → Ev (fun k => carcanetref03_Normal.l0 k (n : Int) l up (i : Int)) r := by
              intro r h
              refine Ev.step (g := fun k => carcanetref03_Normal.j1 k (n : Int) l up (i : Int) x.f0 x.f1 (decide (mnE x.f0 x.f1 < 0 ∨ (n : Int) ≤ y))) (Ev.bind hIn (h.same fun k => ?_) hjj) hj
              rw [if_pos (decide_eq_true hmem)]
            refine ⟨fun h => hstep _ (ih1 h), fun all h => ?_⟩
            obtain ⟨up', hu', hr'⟩ := ih2 all h
            exact ⟨up', hu', fun r h => hstep r (hr' r h)⟩
          · obtain ⟨ih1, ih2⟩ := norm_l0 n hn l hl b (i + 1) (up.set a (up[a] ++ [y])) (acc ++ [⟨(a : Int), y⟩]) (by omega) (hu.put a hal y hmem hin) (by rw [List.length_append, List.length_singleton]; omega)
            have hstep : ∀ r, Ev (fun k => carcanetref03_Normal.l0 k (n : Int) l (up.set a (up[a] ++ [y])) ((i + 1 : Nat) : Int)) r → Ev (fun k => carcanetref03_Normal.l0 k (n : Int) l up (i : Int)) r := by
              intro r h
              refine Ev.step (g := fun k => carcanetref03_Normal.j1 k (n : Int) l up (i : Int) x.f0 x.f1 (decide (mnE x.f0 x.f1 < 0 ∨ (n : Int) ≤ y))) (Ev.bind hIn (h.same fun k => ?_) hjj) hj
              rw [if_neg (by simpa using hmem)]
            refine ⟨fun h => hstep _ (ih1 h), fun all h => ?_⟩
            obtain ⟨up', hu', hr'⟩ := ih2 all h
            exact ⟨up', hu', fun r h => hstep r (hr' r h)⟩
    · rw [List.drop_eq_nil_of_le (by omega)]
      refine ⟨fun h => absurd h (by simp [normGo]), fun all h => ?_⟩
      obtain rfl : acc = all := by simpa [normGo] using h
      refine ⟨up, hu, fun r hr => hr.step fun k => ?_⟩
      simp only [carcanetref03_Normal.l0]
      rw [if_neg (by omega)]
def srt (l : List Int) : List Int := sortGo l l.length 0 []
def edgesOf (up : List (List Int)) (a : Nat) : List S64 := (srt (rd_L11 up (a : Int))).map fun y => ⟨(a : Int), y⟩
theorem norm_l2 (n : Int) (up : List (List Int)) (a : Int) (row : List Int) (n' : Int) (hrow : row.length < 100000000) : ∀ (b j : Nat) (out : List S64), row.length ≤ j + b → out.length + row.length ≤ 500000000000 + j → ∀ r,
    Ev (fun k => carcanetref03_Normal.l1 k n up (wrap64 (a + 1)) n' (out ++ ((row.drop j).map fun y => (⟨a, y⟩ : S64)))) r → Ev (fun k => carcanetref03_Normal.l2 k n up a row (j : Int) n' out) r
  | 0, j, out, hb, ho, r, h => by
    rw [List.drop_eq_nil_of_le (by omega), List.map_nil, List.append_nil] at h
    refine h.step fun k => ?_
    simp only [carcanetref03_Normal.l2]
    rw [if_neg (by omega)]
  | b + 1, j, out, hb, ho, r, h => by
    by_cases hj : j < row.length
    · have hr : rd row (j : Int) = row[j] := by unfold rd; simp [hj]
      rw [List.drop_eq_getElem_cons hj, List.map_cons, ← List.singleton_append, ← List.append_assoc] at h
      have ih := norm_l2 n up a row n' hrow b (j + 1) (out ++ [⟨a, row[j]⟩]) (by omega) (by rw [List.length_append, List.length_singleton]; omega) r h
      refine ih.step fun k => ?_
      simp only [carcanetref03_Normal.l2]
      rw [if_pos (by omega), if_pos (by omega), if_pos (by omega), hr, show wrap64 ((j : Int) + 1) = ((j + 1 : Nat) : Int) by unfold wrap64; omega]
    · rw [List.drop_eq_nil_of_le (by omega), List.map_nil, List.append_nil] at h
      refine h.step fun k => ?_
      simp only [carcanetref03_Normal.l2]
      rw [if_neg (by omega)]
theorem srt_spec (l : List Int) : (srt l).Pairwise (· ≤ ·) ∧ (∀ y, y ∈ srt l ↔ y ∈ l) ∧ (srt l).length = l.length := by
  obtain ⟨h1, h2, h3⟩ := sortGo_spec l l.length 0 [] (by omega) List.Pairwise.nil
  refine ⟨h1, fun y => ?_, by unfold srt; rw [h3]; simp⟩
  unfold srt
  rw [h2]
  simp
theorem norm_l1 (n : Nat) (hn : n ≤ 1000) (up : List (List Int)) (hu : up.length = n) (hrow : ∀ (a : Nat) (h : a < up.length), (up[a]).length < 100000000) : ∀ (b a : Nat) (out : List S64), n = a + b → out.length ≤ a * 100000000 → ∀ r,
    (if 4000 < (out ++ (List.range' a b).flatMap (edgesOf up)).length then ((0, [], 5) : Int × List S64 × Int) else ((n : Int), out ++ (List.range' a b).flatMap (edgesOf up), 0)) = r → Ev (fun k => carcanetref03_Normal.l1 k (n : Int) up (a : Int) (n : Int) out) r
  | 0, a, out, hb, ho, r, h => by
    simp only [List.range'_zero, List.flatMap_nil, List.append_nil] at h
    refine Ev.some_ fun k => ?_
    simp only [carcanetref03_Normal.l1]
    rw [if_neg (by omega), ← h]
    by_cases hc : 4000 < out.length
    · rw [if_pos (by omega), if_pos hc]
    · rw [if_neg (by omega), if_neg hc]
  | b + 1, a, out, hb, ho, r, h => by
    have ha : a < up.length := by omega
    have hra := hrow a ha
    obtain ⟨s1, s2, s3⟩ := srt_spec up[a]
    rw [List.range'_succ, List.flatMap_cons, ← List.append_assoc] at h
    have e1 : edgesOf up a = (srt up[a]).map fun y => ⟨(a : Int), y⟩ := by unfold edgesOf; rw [rdL11 up a ha]
    have ih := norm_l1 n hn up hu hrow b (a + 1) (out ++ edgesOf up a) (by omega) (by rw [List.length_append, e1, List.length_map, s3]; omega) r h
    have h2 := norm_l2 (n : Int) up (a : Int) (srt up[a]) (n : Int) (by rw [s3]; exact hra) (srt up[a]).length 0 out (by omega) (by rw [s3]; omega) r (by
      rw [show wrap64 ((a : Int) + 1) = ((a + 1 : Nat) : Int) by unfold wrap64; omega, List.drop_zero, ← e1]
      exact ih)
    refine h2.step fun k => ?_
    simp only [carcanetref03_Normal.l1]
    rw [if_pos (by omega), if_pos (by omega), if_pos (by omega), rdL11 up a ha]
    unfold carcanetref03_Sorted.f
    rw [if_pos (by omega)]
    rfl
theorem insOne_perm (out : List Int) (x : Int) : (insOne out x).Perm (x :: out) := by
  unfold insOne
  refine List.perm_middle.trans ?_
  rw [List.take_append_drop]
theorem sortGo_perm (l : List Int) : ∀ (b i : Nat) (out : List Int), l.length ≤ i + b → (sortGo l b i out).Perm (l.drop i ++ out)
  | 0, i, out, hb => by
    rw [List.drop_eq_nil_of_le (by omega)]
    exact List.Perm.refl _
  | b + 1, i, out, hb => by
    by_cases hi : i < l.length
    · have hr : rd l (i : Int) = l[i] := by unfold rd; simp [hi]
      have hd : l.drop i = l[i] :: l.drop (i + 1) := List.drop_eq_getElem_cons hi
      have e : sortGo l (b + 1) i out = sortGo l b (i + 1) (insOne out l[i]) := by simp only [sortGo, hi, if_true, hr]
      rw [e, hd]
      refine (sortGo_perm l b (i + 1) _ (by omega)).trans ?_
      refine ((insOne_perm out l[i]).append_left _).trans ?_
      exact List.perm_middle
    · have e : sortGo l (b + 1) i out = out := by simp only [sortGo, hi, if_false]
      rw [e, List.drop_eq_nil_of_le (by omega)]
      exact List.Perm.refl _
theorem srt_perm (l : List Int) : (srt l).Perm l := by
  have := sortGo_perm l l.length 0 [] (by omega)
  rw [List.drop_zero, List.append_nil] at this
  exact this
theorem rows_rising (n : Nat) (up : List (List Int)) (all : List S64) (h : UpInv n up all) : ((List.range' 0 n).flatMap (edgesOf up)).Pairwise ltE := by
  rw [List.pairwise_flatMap]
  refine ⟨fun a ha => ?_, ?_⟩
  · have hal : a < up.length := by rw [h.len]; simpa using ha
    unfold edgesOf
    rw [rdL11 up a hal, List.pairwise_map]
    obtain ⟨s1, s2, s3⟩ := srt_spec up[a]
    have hnd : (srt up[a]).Nodup := by
      have hp : (srt up[a]).Perm up[a] := srt_perm _
      exact hp.nodup_iff.2 (h.dup a hal)
    exact (s1.and hnd).imp fun {x y} hxy => .inr ⟨rfl, by simp only; have := hxy.1; have := hxy.2; omega⟩
  · refine (List.pairwise_lt_range').imp_of_mem fun {a b} ha hb hab x hx y hy => ?_
    unfold edgesOf at hx hy
    rw [List.mem_map] at hx hy
    obtain ⟨u, _, rfl⟩ := hx
    obtain ⟨v, _, rfl⟩ := hy
    exact .inl (by simp only; omega)
theorem rows_mem (n : Nat) (up : List (List Int)) (all : List S64) (h : UpInv n up all) (x : S64) : x ∈ (List.range' 0 n).flatMap (edgesOf up) ↔ x ∈ all := by
  rw [List.mem_flatMap]
  constructor
  · rintro ⟨a, ha, hx⟩
    have hal : a < up.length := by rw [h.len]; simpa using ha
    unfold edgesOf at hx
    rw [rdL11 up a hal, List.mem_map] at hx
    obtain ⟨y, hy, rfl⟩ := hx
    exact (h.mem a hal y).1 (((srt_spec up[a]).2.1 y).1 hy)
  · intro hx
    obtain ⟨i1, i2, i3⟩ := h.inn x hx
    have hal : x.f0.toNat < up.length := by rw [h.len]; omega
    refine ⟨x.f0.toNat, by simp; omega, ?_⟩
    unfold edgesOf
    rw [rdL11 up _ hal, List.mem_map]
    have e : (⟨((x.f0.toNat : Nat) : Int), x.f1⟩ : S64) = x := by cases x; simp only at *; congr 1; omega
    exact ⟨x.f1, ((srt_spec _).2.1 _).2 ((h.mem _ hal _).2 (by rw [e]; exact hx)), e⟩
theorem normal_ev (n : Int) (l : List S64) (hl : l.length < 100000000) : Ev (fun k => carcanetref03_Normal.f k n l) (graphNormal n l) := by
  unfold graphNormal
  by_cases h1 : n < 0
  · rw [if_pos h1]
    exact Ev.always fun k => by unfold carcanetref03_Normal.f; rw [if_pos h1]
  · by_cases h2 : n > 1000
    · rw [if_neg h1, if_pos h2]
      exact Ev.always fun k => by unfold carcanetref03_Normal.f; rw [if_neg h1, if_pos h2]
    · rw [if_neg h1, if_neg h2]
      obtain ⟨m, rfl⟩ : ∃ m : Nat, n = (m : Int) := ⟨n.toNat, by omega⟩
      have hf : ∀ k, carcanetref03_Normal.f k (m : Int) l = carcanetref03_Normal.l0 k (m : Int) l (List.replicate m []) ((0 : Nat) : Int) := fun k => by
        unfold carcanetref03_Normal.f
        rw [if_neg h1, if_neg h2, if_pos (by omega), if_pos (by omega)]
        rfl
      obtain ⟨g1, g2⟩ := norm_l0 m (by omega) l hl l.length 0 (List.replicate m []) [] (by omega) (UpInv.start m) (by simp)
      rw [List.drop_zero] at g1 g2
      cases hn : normGo (m : Int) l [] with
      | none => exact (g1 hn).same hf
      | some all =>
        obtain ⟨up', hu', hr⟩ := g2 all hn
        obtain ⟨_, hlen⟩ := normGo_some (m : Int) l [] all hn (fun _ h => absurd h (by simp))
        have e : (List.range' 0 m).flatMap (edgesOf up') = compactE (sortE all) := rising_eq _ _ (rows_rising m up' all hu') (compactE_lt (sortE_sorted all)) (fun x => by rw [rows_mem m up' all hu', compactE_mem, sortE_mem])
        have hfew : ∀ (a : Nat) (ha : a < up'.length), (up'[a]).length < 100000000 := fun a ha => by
          have := hu'.few a ha
          rw [List.length_nil] at hlen
          omega
        have h := hr _ (norm_l1 m (by omega) up' hu'.len hfew m 0 [] (by omega) (by simp) _ rfl)
        rw [List.nil_append, e] at h
        exact h.same hf
/-! ### the second reader's line -/
theorem lineEdges_len (l : List S43) (en nN : Int) : ∀ (b i : Nat) (acc : List S64), (lineEdges l en nN b i acc).2.2.1.length ≤ acc.length + b
  | 0, i, acc => by simp only [lineEdges]; omega
  | b + 1, i, acc => by
    unfold lineEdges
    repeat' split
    all_goals first
      | (simp only; omega)
      | (refine Nat.le_trans (lineEdges_len l en nN b _ _) ?_; rw [List.length_append, List.length_singleton]; omega)
theorem takeP_ltz {l : List S43} {kind : Int} {i : Nat} (h : takeP l kind i = true) : i < l.length := by
  unfold takeP at h
  rw [Bool.and_eq_true, decide_eq_true_eq] at h
  exact h.1
theorem tokP_in {l : List S43} {kind : Int} {i : Nat} (h : takeP l kind i = true) : tokP l kind i = rd_T43 l (i : Int) := by
  unfold tokP; rw [if_pos h]
theorem rd49f (l : List S43) (i : Nat) (h : i < l.length) : (rd_T49 (l.map t49) (i : Int)).f1 = (rd_T43 l (i : Int)).f1 ∧ (rd_T49 (l.map t49) (i : Int)).f2 = (rd_T43 l (i : Int)).f2 ∧ (rd_T49 (l.map t49) (i : Int)).f3 = (rd_T43 l (i : Int)).f3 := by
  rw [rd49 l i h]
  exact ⟨rfl, rfl, rfl⟩
theorem rd49_0 (l : List S43) (h : 0 < l.length) : (rd_T49 (l.map t49) 0).f1 = (rd_T43 l ((0 : Nat) : Int)).f1 ∧ (rd_T49 (l.map t49) 0).f2 = (rd_T43 l ((0 : Nat) : Int)).f2 ∧ (rd_T49 (l.map t49) 0).f3 = (rd_T43 l ((0 : Nat) : Int)).f3 := rd49f l 0 h
theorem rd49_1 (l : List S43) (h : 1 < l.length) : (rd_T49 (l.map t49) 1).f1 = (rd_T43 l ((1 : Nat) : Int)).f1 ∧ (rd_T49 (l.map t49) 1).f2 = (rd_T43 l ((1 : Nat) : Int)).f2 ∧ (rd_T49 (l.map t49) 1).f3 = (rd_T43 l ((1 : Nat) : Int)).f3 := rd49f l 1 h
theorem rd49_2 (l : List S43) (h : 2 < l.length) : (rd_T49 (l.map t49) 2).f1 = (rd_T43 l ((2 : Nat) : Int)).f1 ∧ (rd_T49 (l.map t49) 2).f2 = (rd_T43 l ((2 : Nat) : Int)).f2 ∧ (rd_T49 (l.map t49) 2).f3 = (rd_T43 l ((2 : Nat) : Int)).f3 := rd49f l 2 h
theorem line_j2_fin (l : List S43) (en : Int) (m : Nat) (hm : l.length < 100000000) (kind : Int) (hk : ¬ kind = 1) (name : ByteArray) (cls at0 nat : Int) :
    Ev (fun k => carcanetref25_line.j2 k (l.map t49) en (m : Int) kind name 0 cls at0 nat) (finR l en kind name 0 [] cls at0 nat m) := by
  refine Ev.some_ fun k => ?_
  simp only [carcanetref25_line.j2]
  rw [if_neg hk, List.length_map]
  unfold finR
  by_cases h : m < l.length
  · rw [if_pos (by omega), if_pos (by omega), if_pos (by omega), if_pos h, (rd49f l m h).1, here_in h]
    rfl
  · rw [if_neg (by omega), if_neg h]
theorem line_j2_load (l : List S43) (en : Int) (hm : l.length < 10000000) (name : ByteArray) (at0 nat : Int) (h0 : 0 < l.length) (hat : at0 = (rd_T43 l ((0 : Nat) : Int)).f1) (x8 : Int) :
    Ev (fun k => carcanetref25_line.j2 k (l.map t49) en x8 1 name 0 0 at0 nat) (lineLoad l en name at0 nat) := by
  unfold lineLoad
  have e2 : carcanetref25_is.f (l.map t49) 2 2 = some (takeP l 2 2) := is_eq l 2 2
  have p2 : carcanetref25_place.f (l.map t49) 2 en = some (hereP l en 2) := place_eq l 2 en
  by_cases h2 : takeP l 2 2 = true
  · have hl := takeP_ltz h2
    obtain ⟨f1, f2, f3⟩ := rd49_2 l hl
    rw [if_pos h2, tokP_in h2]
    by_cases h3 : (rd_T43 l ((2 : Nat) : Int)).f3 > 1000
    · rw [if_pos h3]
      refine Ev.some_ fun k => ?_
      simp only [carcanetref25_line.j2]
      rw [if_pos trivial, e2, Option.bind_some, if_pos h2, List.length_map, if_pos (by omega), f3, if_pos h3, f1]
      rfl
    · rw [if_neg h3]
      have he := edges_ev l en (rd_T43 l ((2 : Nat) : Int)).f3 (by omega) l.length 3 [] (by omega) (by omega)
      by_cases h4 : 3 ≤ l.length
      · have he' := he h4 (by omega) (by simp)
        have hlen := lineEdges_len l en (rd_T43 l ((2 : Nat) : Int)).f3 l.length 3 []
        rw [List.length_nil] at hlen
        generalize hE : lineEdges l en (rd_T43 l ((2 : Nat) : Int)).f3 l.length 3 [] = E at he' hlen
        refine Ev.bind (a := fun k => carcanetref25_edges.f k (l.map t49) en (rd_T43 l ((2 : Nat) : Int)).f3) (t := resE E) (g := fun k bt => if bt.2.2 = 0 then ((carcanetref03_Normal.f k (rd_T43 l ((2 : Nat) : Int)).f3 bt.1).bind fun t => (if t.2.2 = 0 then (some (1, name, t.1, t.2.1, 0, at0, nat, 0, 0)) else (some (errR at0 t.2.2)))) else some (errR bt.2.1 bt.2.2)) (he'.same fun k => rfl) ?_ (fun k => ?_)
        · unfold resE
          by_cases h5 : E.2.1 = 0
          · rw [if_pos h5, if_pos h5]
            have hn := normal_ev (rd_T43 l ((2 : Nat) : Int)).f3 E.2.2.1 (by omega)
            generalize hG : graphNormal (rd_T43 l ((2 : Nat) : Int)).f3 E.2.2.1 = G at hn
            refine Ev.bind0 hn (g := fun k t => (if t.2.2 = 0 then (some (1, name, t.1, t.2.1, 0, at0, nat, 0, 0)) else (some (errR at0 t.2.2)))) ?_ (fun k => rfl)
            by_cases h6 : G.2.2 = 0
            · rw [if_pos h6]
              exact Ev.always fun k => by rw [if_pos h6]
            · rw [if_neg h6]
              exact Ev.always fun k => by rw [if_neg h6]
          · rw [if_neg h5, if_neg h5]
            exact Ev.always fun k => by rw [if_neg (show ¬ (([], E.1, E.2.1) : List S64 × Int × Int).2.2 = 0 from h5)]
        · simp only [carcanetref25_line.j2]
          rw [if_pos trivial, e2, Option.bind_some, if_pos h2, List.length_map, if_pos (by omega), f3, if_neg h3]
          have hp : (0 : Int) < (l.length : Int) := by omega
          simp only [hp, if_true, (rd49_0 l h0).1, ← hat]
          rfl
      · exact absurd hl (by omega)
  · rw [if_neg h2]
    refine Ev.some_ fun k => ?_
    simp only [carcanetref25_line.j2]
    rw [if_pos trivial, e2, Option.bind_some, if_neg h2, p2]
    rfl
theorem line_ev (l : List S43) (en : Int) (hm : l.length < 10000000) (h0 : 0 < l.length) : Ev (fun k => carcanetref25_line.f k (l.map t49) en) (lineP l en) := by
  have e0 : carcanetref25_is.f (l.map t49) 0 1 = some (takeP l 1 0) := is_eq l 0 1
  have e1 : carcanetref25_is.f (l.map t49) 1 1 = some (takeP l 1 1) := is_eq l 1 1
  have e2 : carcanetref25_is.f (l.map t49) 2 1 = some (takeP l 1 2) := is_eq l 2 1
  have p1 : carcanetref25_place.f (l.map t49) 1 en = some (hereP l en 1) := place_eq l 1 en
  have p2 : carcanetref25_place.f (l.map t49) 2 en = some (hereP l en 2) := place_eq l 2 en
  obtain ⟨f1, f2, f3⟩ := rd49_0 l h0
  have hz : ∀ k (at0 : Int), at0 = (rd_T43 l ((0 : Nat) : Int)).f1 → carcanetref25_line.j0 (k + 1) (l.map t49) en 0 (⟨#[]⟩ : ByteArray) 0 0 at0 0 = some (errR (hereP l en 0) 3) := fun k at0 h => by
    simp only [carcanetref25_line.j0]
    rw [if_pos trivial, List.length_map, if_pos (by omega), f1, here_in h0]
    rfl
  unfold lineP
  by_cases h1 : takeP l 1 0 = true
  · have hf : ∀ k, carcanetref25_line.f k (l.map t49) en = carcanetref25_line.j0 k (l.map t49) en (verbP (rd_T43 l ((0 : Nat) : Int)).f2) (⟨#[]⟩ : ByteArray) 0 0 (rd_T43 l ((0 : Nat) : Int)).f1 0 := fun k => by
      unfold carcanetref25_line.f
      rw [List.length_map, if_pos (by omega), e0, Option.bind_some, if_pos h1, f1, f2, verb_eq, Option.bind_some]
    rw [tokP_in h1]
    generalize hv : verbP (rd_T43 l ((0 : Nat) : Int)).f2 = v at hf
    by_cases hv0 : v = 0
    · rw [if_neg (fun e => e.2 hv0)]
      subst hv0
      exact Ev.same (Ev.some_ fun k => hz k _ rfl) hf
    · rw [if_pos ⟨h1, hv0⟩]
      refine Ev.same ?_ hf
      by_cases h2 : takeP l 1 1 = true
      · have hl1 := takeP_ltz h2
        obtain ⟨u1, u2, u3⟩ := rd49_1 l hl1
        rw [if_pos h2, tokP_in h2, here_in h0, here_in hl1]
        by_cases hv2 : v = 2
        · rw [if_pos hv2]
          subst hv2
          by_cases h3 : takeP l 1 2 = true
          · have hl2 := takeP_ltz h3
            obtain ⟨v1, v2, v3⟩ := rd49_2 l hl2
            have hc := class_ev (rd_T43 l ((2 : Nat) : Int)).f2
            rw [tokP_in h3]
            generalize hcc : classP (rd_T43 l ((2 : Nat) : Int)).f2 = c at hc
            refine Ev.bind (a := fun k => carcanetref25_class.f k (rd_T43 l ((2 : Nat) : Int)).f2) (t := c) (g := fun k t => carcanetref25_line.j1 k (l.map t49) en 3 (t == 0) 2 (rd_T43 l ((1 : Nat) : Int)).f2 0 0 (rd_T43 l ((0 : Nat) : Int)).f1 (rd_T43 l ((1 : Nat) : Int)).f1) hc ?_ (fun k => ?_)
            · by_cases hc0 : c = 0
              · rw [if_neg (fun e => e.2 hc0)]
                subst hc0
                refine Ev.some_ fun k => ?_
                simp only [carcanetref25_line.j1]
                rw [if_pos (by decide), p2]
                rfl
              · rw [if_pos ⟨h3, hc0⟩]
                refine Ev.bind (a := fun k => carcanetref25_class.f k (rd_T43 l ((2 : Nat) : Int)).f2) (t := c) (g := fun k t => carcanetref25_line.j2 k (l.map t49) en 3 2 (rd_T43 l ((1 : Nat) : Int)).f2 0 t (rd_T43 l ((0 : Nat) : Int)).f1 (rd_T43 l ((1 : Nat) : Int)).f1) hc ?_ (fun k => ?_)
                · exact line_j2_fin l en 3 (by omega) 2 (by decide) _ _ _ _
                · simp only [carcanetref25_line.j1]
                  rw [if_neg (by simpa using hc0), List.length_map, if_pos (by omega), v2]
            · simp only [carcanetref25_line.j0]
              rw [if_neg (by decide), e1, Option.bind_some, if_pos h2, List.length_map, if_pos (by omega), if_pos trivial, e2, Option.bind_some, if_pos h3, if_pos (by omega), v2, u1, u2]
          · rw [if_neg (fun e => h3 e.1)]
            refine Ev.step (g := fun k => carcanetref25_line.j1 k (l.map t49) en 3 true 2 (rd_T43 l ((1 : Nat) : Int)).f2 0 0 (rd_T43 l ((0 : Nat) : Int)).f1 (rd_T43 l ((1 : Nat) : Int)).f1) (Ev.some_ fun k => ?_) (fun k => ?_)
            · simp only [carcanetref25_line.j1]
              rw [if_pos trivial, p2]
              rfl
            · simp only [carcanetref25_line.j0]
              rw [if_neg (by decide), e1, Option.bind_some, if_pos h2, List.length_map, if_pos (by omega), if_pos trivial, e2, Option.bind_some, if_neg h3, u1, u2]
        · rw [if_neg hv2]
          have hj : ∀ k, carcanetref25_line.j0 (k + 1) (l.map t49) en v (⟨#[]⟩ : ByteArray) 0 0 (rd_T43 l ((0 : Nat) : Int)).f1 0 = carcanetref25_line.j2 k (l.map t49) en ((2 : Nat) : Int) v (rd_T43 l ((1 : Nat) : Int)).f2 0 0 (rd_T43 l ((0 : Nat) : Int)).f1 (rd_T43 l ((1 : Nat) : Int)).f1 := fun k => by
            simp only [carcanetref25_line.j0]
            rw [if_neg hv0, e1, Option.bind_some, if_pos h2, List.length_map, if_pos (by omega), if_neg hv2, u1, u2]
            rfl
          by_cases hv1 : v = 1
          · rw [if_pos hv1]
            subst hv1
            exact (line_j2_load l en hm _ _ _ h0 rfl _).step hj
          · rw [if_neg hv1]
            exact (line_j2_fin l en 2 (by omega) v hv1 _ _ _ _).step hj
      · rw [if_neg h2]
        refine Ev.some_ fun k => ?_
        simp only [carcanetref25_line.j0]
        rw [if_neg hv0, e1, Option.bind_some, if_neg h2, p1]
        rfl
  · rw [if_neg (fun e => h1 e.1)]
    refine Ev.same (Ev.some_ (f := fun k => carcanetref25_line.j0 k (l.map t49) en 0 (⟨#[]⟩ : ByteArray) 0 0 (rd_T43 l ((0 : Nat) : Int)).f1 0) fun k => hz k (rd_T43 l ((0 : Nat) : Int)).f1 rfl) (fun k => ?_)
    unfold carcanetref25_line.f
    rw [List.length_map, if_pos (by omega), e0, Option.bind_some, if_neg h1, f1]
/-! ### the second reader, line by line -/
def t50 (x : S36) : S50 := ⟨x.f0, x.f1, x.f2, x.f3, x.f4, x.f5⟩
theorem bt_drp (s : ByteArray) (fr : Nat) (l : List UInt8) (hd : s.data.toList.drop fr = l) (j : Nat) (h : j < l.length) : bt s ((fr + j : Nat) : Int) = ((l[j]).toNat : Int) := by
  subst hd
  rw [List.length_drop] at h
  have hs : s.data.toList.length = s.size := rfl
  unfold bt
  have hlt : fr + j < s.size := by omega
  rw [Int.toNat_natCast, dif_pos hlt, List.getElem_drop]
  rfl
theorem lineB_ne (l : List UInt8) (j : Nat) (h : j < (lineB l).length) (hl : j < l.length) : l[j] ≠ 10 := by
  have hm : (lineB l)[j] ∈ lineB l := List.getElem_mem h
  have := List.all_eq_true.1 (List.all_takeWhile (p := fun b : UInt8 => b != 10) (l := l)) _ hm
  have e : (lineB l)[j] = l[j] := by
    have := List.takeWhile_prefix (p := fun b : UInt8 => b != 10) (l := l)
    exact this.getElem h
  rw [e] at this
  simpa using this
theorem lineB_at : ∀ (l : List UInt8) (h : (lineB l).length < l.length), l[(lineB l).length] = 10
  | [], h => absurd h (by simp)
  | b :: l, h => by
    by_cases hb : b = 10
    · subst hb
      simp [lineB]
    · have h1 : (b != 10) = true := by simpa using hb
      have e1 : lineB (b :: l) = b :: lineB l := by simp [lineB, List.takeWhile_cons, h1]
      have h2 : (lineB l).length < l.length := by rw [e1] at h; simpa using h
      simp only [e1, List.length_cons, List.getElem_cons_succ]
      exact lineB_at l h2
theorem scan_ev (s : ByteArray) (hs : s.size ≤ 1048576) (fr : Nat) (l : List UInt8) (hd : s.data.toList.drop fr = l) (hf : fr + l.length = s.size) (acc : List S50) (r : List S50 × Int × Int)
    (h : Ev (fun k => carcanetref25_Parse.j2 k s acc (fr : Int) ((fr + (lineB l).length : Nat) : Int)) r) : ∀ (b j : Nat), (lineB l).length = j + b → Ev (fun k => carcanetref25_Parse.l1 k s acc (fr : Int) ((fr + j : Nat) : Int)) r
  | 0, j, hj => by
    have hle := lineB_le l
    have e : j = (lineB l).length := by omega
    subst e
    refine h.step fun k => ?_
    simp only [carcanetref25_Parse.l1]
    by_cases hlt : (lineB l).length < l.length
    · have hb := bt_drp s fr l hd _ hlt
      rw [lineB_at l hlt] at hb
      rw [if_pos (by omega), if_pos (by omega), hb, if_pos (by decide)]
    · rw [if_neg (by omega)]
  | b + 1, j, hj => by
    have hle := lineB_le l
    have hjl : j < l.length := by omega
    have ih := scan_ev s hs fr l hd hf acc r h b (j + 1) (by omega)
    refine ih.step fun k => ?_
    have hb := bt_drp s fr l hd j hjl
    have hne := lineB_ne l j (by omega) hjl
    simp only [carcanetref25_Parse.l1]
    rw [if_pos (by omega), if_pos (by omega), hb, if_neg (fun e => hne (by
      have : (l[j]).toNat = 10 := by omega
      exact UInt8.toNat_inj.1 (by rw [this]; rfl))), show wrap64 (((fr + j : Nat) : Int) + 1) = ((fr + (j + 1) : Nat) : Int) by unfold wrap64; omega]
theorem restB_drop (l : List UInt8) : l.drop ((lineB l).length + 1) = restB l := by
  rcases indexByte_line l with ⟨a1, a2, a3⟩ | ⟨a1, a2, a3⟩
  · rw [a2, a3, List.drop_eq_nil_of_le (by omega)]
  · exact a2
theorem parse2_l0 (s : ByteArray) (hs : s.size ≤ 1000000) : ∀ (n : Nat) (l : List UInt8), l.length ≤ n → ∀ (fr : Nat) (acc : List S36), fr ≤ s.size + 1 → s.data.toList.drop fr = l → acc.length ≤ 1000 →
    Ev (fun k => carcanetref25_Parse.l0 k s (acc.map t50) (fr : Int)) ((parseT fr l acc).1.map t50, (parseT fr l acc).2)
  | n, [], _, fr, acc, hf, hd, ha => by
    have h2 := congrArg List.length hd
    have : s.data.toList.length = s.size := rfl
    rw [List.length_drop, List.length_nil] at h2
    refine Ev.some_ fun k => ?_
    simp only [carcanetref25_Parse.l0]
    rw [if_neg (by omega), parseT_nil]
  | 0, c :: r, hn, _, _, _, _, _ => absurd hn (by simp)
  | n + 1, c :: r, hn, fr, acc, hf, hd, ha => by
    generalize hl : c :: r = l at *
    have hne : l ≠ [] := by rw [← hl]; simp
    have hlt := drop_lt hd hne
    have hlen : fr + l.length = s.size := by
      have h2 := congrArg List.length hd
      have : s.data.toList.length = s.size := rfl
      rw [List.length_drop] at h2
      omega
    have hrest : (restB l).length < l.length := by rw [← hl]; exact restB_lt c r
    have hln := lineB_le l
    have hre : restB l = s.data.toList.drop (fr + (lineB l).length + 1) := by
      rw [← restB_drop l, ← hd, List.drop_drop]
      congr 1
    have hnext : ∀ acc', acc'.length ≤ 1000 → Ev (fun k => carcanetref25_Parse.l0 k s (acc'.map t50) (wrap64 (((fr + (lineB l).length : Nat) : Int) + 1))) ((parseT (fr + (lineB l).length + 1) (restB l) acc').1.map t50, (parseT (fr + (lineB l).length + 1) (restB l) acc').2) := fun acc' ha' => by
      rw [w64 (by omega) (by omega), show ((fr + (lineB l).length : Nat) : Int) + 1 = ((fr + (lineB l).length + 1 : Nat) : Int) by omega]
      exact parse2_l0 s hs n (restB l) (by omega) _ acc' (by omega) hre.symm ha'
    have hj2 : Ev (fun k => carcanetref25_Parse.j2 k s (acc.map t50) (fr : Int) ((fr + (lineB l).length : Nat) : Int)) ((parseT fr l acc).1.map t50, (parseT fr l acc).2) := by
      have hlex := lex2_eq (lineB l) (by omega)
      obtain ⟨w1, w2, w3⟩ := lexS_within (lineB l) (by omega)
      have hlen2 := lexS_len (lineB l) (by omega)
      rw [parseT_step fr l acc hne]
      generalize hT : lexS (lineB l) = T at hlex w1 w2 w3 hlen2
      refine Ev.bind (a := fun k => carcanetref02_Lex.f k (mkB (lineB l))) (t := (T.1.map t49, T.2)) (g := fun k t => if t.2.2 = 0 then (if (t.1.length : Int) > 0 then (carcanetref25_Parse.j3 k s (acc.map t50) fr ((fr + (lineB l).length : Nat) : Int) t.1 (decide (((acc.map t50).length : Int) ≥ 1000))) else (carcanetref25_Parse.j3 k s (acc.map t50) fr ((fr + (lineB l).length : Nat) : Int) t.1 false)) else (some (acc.map t50, wrap64 ((fr : Int) + t.2.1), t.2.2))) hlex ?_ (fun k => ?_)
      · simp only [List.length_map]
        by_cases c1 : T.2.2 = 0
        · rw [if_pos c1]
          by_cases c2 : T.1.length = 0
          · rw [if_pos c2]
            refine Ev.step (hnext acc ha) (fun k => ?_)
            rw [if_pos c1, if_neg (by omega)]
            simp only [carcanetref25_Parse.j3]
            rw [if_neg (by decide), List.length_map, if_neg (by omega)]
          · rw [if_neg c2]
            by_cases c3 : acc.length = 1000
            · rw [if_pos c3]
              obtain ⟨v1, v2⟩ := rd_within w1 (by omega) ((0 : Nat) : Int)
              refine Ev.some_ fun k => ?_
              rw [if_pos c1, if_pos (by omega), decide_eq_true (by omega)]
              simp only [carcanetref25_Parse.j3]
              rw [if_pos trivial, List.length_map, if_pos (by omega), (rd49_0 T.1 (by omega)).1]
              rw [w64 (x := (fr : Int) + (rd_T43 T.1 ((0 : Nat) : Int)).f1) (by omega) (by omega)]
              rfl
            · rw [if_neg c3]
              have hline := line_ev T.1 ((lineB l).length : Int) (by omega) (by omega)
              obtain ⟨⟨x1, x2⟩, ⟨x3, x4⟩, x5, x6⟩ := line_within (en := ((lineB l).length : Int)) w1 (by omega) (by omega) (Int.le_refl _)
              have e4 : wrap64 (((fr + (lineB l).length : Nat) : Int) - (fr : Int)) = ((lineB l).length : Int) := by rw [w64 (by omega) (by omega)]; omega
              generalize hP : lineP T.1 ((lineB l).length : Int) = P at hline x1 x2 x3 x4 x5 x6
              refine Ev.bind (a := fun k => carcanetref25_line.f k (T.1.map t49) ((lineB l).length : Int)) (t := P) (g := fun k bt251 => (if bt251.2.2.2.2.2.2.2.2 = 0 then (if (acc.map t50).length < 1759218604441 then (carcanetref25_Parse.l0 k s (acc.map t50 ++ [(⟨bt251.1, bt251.2.1, (⟨bt251.2.2.1, bt251.2.2.2.1⟩ : S34), bt251.2.2.2.2.1, wrap64 (bt251.2.2.2.2.2.1 + fr), wrap64 (bt251.2.2.2.2.2.2.1 + fr)⟩ : S50)]) (wrap64 (((fr + (lineB l).length : Nat) : Int) + 1))) else (none)) else (some (acc.map t50, wrap64 ((fr : Int) + bt251.2.2.2.2.2.2.2.1), bt251.2.2.2.2.2.2.2.2)))) hline ?_ (fun k => ?_)
              · by_cases c4 : errOf P = 0
                · rw [if_pos c4]
                  unfold errOf at c4
                  have hn := hnext (acc ++ [opAt fr P]) (by rw [List.length_append, List.length_singleton]; omega)
                  refine hn.same fun k => ?_
                  rw [if_pos c4, if_pos (by rw [List.length_map]; omega), w64 (x := P.2.2.2.2.2.1 + (fr : Int)) (by omega) (by omega), w64 (x := P.2.2.2.2.2.2.1 + (fr : Int)) (by omega) (by omega), List.map_append]
                  rfl
                · rw [if_neg c4]
                  unfold errOf at c4
                  refine Ev.always fun k => ?_
                  rw [if_neg c4, w64 (by omega) (by omega)]
                  rfl
              · rw [if_pos c1, if_pos (by omega), decide_eq_false (by omega)]
                simp only [carcanetref25_Parse.j3]
                rw [if_neg (by decide), List.length_map, if_pos (by omega), e4]
        · rw [if_neg c1]
          refine Ev.always fun k => ?_
          rw [if_neg c1, w64 (by omega) (by omega)]
      · simp only [carcanetref25_Parse.j2]
        rw [if_pos (by omega), if_pos (by omega), if_pos (by omega)]
        have e1 : ((fr : Nat) : Int).toNat = fr := rfl
        have e2 : ((fr + (lineB l).length : Nat) : Int).toNat = fr + (lineB l).length := rfl
        rw [e1, e2, extract_line s fr l hd, lineB_take]
    have hsc := scan_ev s (by omega) fr l hd hlen (acc.map t50) _ hj2 (lineB l).length 0 (by omega)
    refine hsc.step fun k => ?_
    simp only [carcanetref25_Parse.l0]
    rw [if_pos (by omega)]
    rfl
theorem parse2_ev (s : ByteArray) (hs : s.size ≤ 1000000) : Ev (fun k => carcanetref25_Parse.f k s) ((parseT 0 s.data.toList []).1.map t50, (parseT 0 s.data.toList []).2) := by
  have h := parse2_l0 s hs s.size s.data.toList (Nat.le_refl _) 0 [] (by omega) rfl (by simp)
  refine h.same fun k => ?_
  unfold carcanetref25_Parse.f
  rw [if_neg (by omega)]
  rfl
/-! ### sameness, and the law -/
theorem sameEdges_ev (l : List S64) (hl : l.length < 1000000000000) : ∀ (b i : Nat), l.length ≤ i + b → Ev (fun k => carcanetref03_SameEdges.l0 k l l (i : Int)) true
  | 0, i, hb => by
    refine Ev.some_ fun k => ?_
    simp only [carcanetref03_SameEdges.l0]
    rw [if_neg (by omega)]
  | b + 1, i, hb => by
    by_cases hi : i < l.length
    · refine (sameEdges_ev l hl b (i + 1) (by omega)).step fun k => ?_
      simp only [carcanetref03_SameEdges.l0]
      rw [if_pos (by omega), if_pos (by omega), if_pos (by omega), if_neg (by simp), show wrap64 ((i : Int) + 1) = ((i + 1 : Nat) : Int) by unfold wrap64; omega]
    · refine Ev.some_ fun k => ?_
      simp only [carcanetref03_SameEdges.l0]
      rw [if_neg (by omega)]
theorem sameOp_ev (x : S36) (hx : x.f2.f1.length < 1000000000000) : Ev (fun k => carcanetref25_Same.f k x.f0 x.f1 x.f2.f0 x.f2.f1 x.f3 x.f4 x.f5 (t50 x).f0 (t50 x).f1 (t50 x).f2.f0 (t50 x).f2.f1 (t50 x).f3 (t50 x).f4 (t50 x).f5) true := by
  refine (sameEdges_ev x.f2.f1 hx x.f2.f1.length 0 (by omega)).same fun k => ?_
  unfold carcanetref25_Same.f carcanetref03_SameGraph.f carcanetref03_SameEdges.f t50
  simp only [if_true, Option.bind_some]
  cases h : carcanetref03_SameEdges.l0 k x.f2.f1 x.f2.f1 ((0 : Nat) : Int) with
  | none => rfl
  | some b => rfl
theorem rd36 (l : List S36) (i : Nat) (h : i < l.length) : rd_T36 l (i : Int) = l[i] ∧ rd_T50 (l.map t50) (i : Int) = t50 l[i] := by
  unfold rd_T36 rd_T50
  simp [h]
theorem same_ev (l : List S36) (hl : l.length < 1000000000000) (hx : ∀ x ∈ l, x.f2.f1.length < 1000000000000) : ∀ (b i : Nat), l.length ≤ i + b → Ev (fun k => carcanetlaw25_same.l0 k l (l.map t50) (i : Int)) true
  | 0, i, hb => by
    refine Ev.some_ fun k => ?_
    simp only [carcanetlaw25_same.l0]
    rw [if_neg (by omega)]
  | b + 1, i, hb => by
    by_cases hi : i < l.length
    · have ih := same_ev l hl hx b (i + 1) (by omega)
      obtain ⟨r1, r2⟩ := rd36 l i hi
      refine Ev.bind (a := fun k => carcanetref25_Same.f k (l[i]).f0 (l[i]).f1 (l[i]).f2.f0 (l[i]).f2.f1 (l[i]).f3 (l[i]).f4 (l[i]).f5 (t50 l[i]).f0 (t50 l[i]).f1 (t50 l[i]).f2.f0 (t50 l[i]).f2.f1 (t50 l[i]).f3 (t50 l[i]).f4 (t50 l[i]).f5) (t := true) (g := fun k t => if t = true then carcanetlaw25_same.l0 k l (l.map t50) ((i + 1 : Nat) : Int) else some false) (sameOp_ev l[i] (hx _ (List.getElem_mem hi))) (ih.same fun k => if_pos rfl) (fun k => ?_)
      simp only [carcanetlaw25_same.l0]
      rw [if_pos (by omega), if_pos (by omega), if_pos (by rw [List.length_map]; omega), r1, r2, show wrap64 ((i : Int) + 1) = ((i + 1 : Nat) : Int) by unfold wrap64; omega]
    · refine Ev.some_ fun k => ?_
      simp only [carcanetlaw25_same.l0]
      rw [if_neg (by omega)]
/-- The operations that are read: as many as a thousand, of four thousand edges each. -/
def Small (l : List S36) : Prop := l.length ≤ 1000 ∧ ∀ x ∈ l, x.f2.f1.length ≤ 4000
theorem lineP_small (l : List S43) (en : Int) : (lineP l en).2.2.2.1.length ≤ 4000 := by
  unfold lineP lineLoad finR errR
  repeat' split
  all_goals first
    | exact Nat.zero_le _
    | (rename_i h; obtain ⟨_, h2, _⟩ := normal_ok h; exact h2.2.2.2.2)
theorem parseT_small : ∀ (n : Nat) (l : List UInt8), l.length ≤ n → ∀ (fr : Nat) (acc : List S36), Small acc → Small (parseT fr l acc).1
  | n, [], _, fr, acc, ha => by rw [parseT_nil]; exact ha
  | 0, c :: r, hn, _, _, _ => absurd hn (by simp)
  | n + 1, c :: r, hn, fr, acc, ha => by
    have hrest : (restB (c :: r)).length < (c :: r).length := restB_lt c r
    have hlen : (restB (c :: r)).length ≤ n := by simp only [List.length_cons] at hn hrest ⊢; omega
    rw [parseT_step fr (c :: r) acc (by simp)]
    split
    · split
      · exact parseT_small n _ hlen _ _ ha
      · split
        · exact ha
        · rename_i h3
          split
          · refine parseT_small n _ hlen _ _ ⟨by rw [List.length_append, List.length_singleton]; have := ha.1; omega, fun x hx => ?_⟩
            rcases List.mem_append.1 hx with hx | hx
            · exact ha.2 x hx
            · obtain rfl := List.mem_singleton.1 hx
              exact lineP_small _ _
          · exact ha
    · exact ha
theorem tells_true (a0 : ByteArray) : ∃ k, carcanetlaw25_ScriptTells.f k a0 = some true := by
  have hm : 0 ≤ mn (a0.size : Int) 1500 ∧ mn (a0.size : Int) 1500 ≤ (a0.size : Int) ∧ mn (a0.size : Int) 1500 ≤ 1500 := by
    unfold mn; split <;> omega
  obtain ⟨h0, h1, h2⟩ := hm
  generalize hx : a0.extract 0 (mn (a0.size : Int) 1500).toNat = s
  have hsz : s.size ≤ 1500 := by
    rw [← hx, ByteArray.size_extract]
    omega
  obtain ⟨K2, hK2⟩ := parse2_ev s (by omega)
  obtain ⟨hsm1, hsm2⟩ := parseT_small _ s.data.toList (Nat.le_refl _) 0 [] ⟨by simp, fun _ h => absurd h (by simp)⟩
  obtain ⟨K3, hK3⟩ := same_ev (parseT 0 s.data.toList []).1 (by omega) (fun x h => by have := hsm2 x h; omega) (parseT 0 s.data.toList []).1.length 0 (by omega)
  refine ⟨K2 + K3 + 5000, ?_⟩
  have hp := parse_eq s (by omega) (K2 + K3 + 5000) (by omega)
  unfold carcanetlaw25_ScriptTells.f carcanetlaw25_shown.f
  rw [Option.bind_some, if_pos h0, if_pos h1, hx, hp, Option.bind_some, show carcanetref25_Parse.f (K2 + K3 + 5000) s = _ from hK2 _ (by omega), Option.bind_some, if_pos rfl, if_pos rfl, if_pos rfl]
  unfold carcanetlaw25_same.f
  rw [List.length_map, if_pos rfl]
  have := hK3 (K2 + K3 + 5000) (by omega)
  exact (congrArg (fun o : Option Bool => o.bind fun t => some t) this).trans rfl
end Go.Proofs.YtmdmdbiinngneaaGreatDoor.Q

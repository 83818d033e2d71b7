import Derived.Test.YtmdmdbiinngneaaDoorU6
import Derived.Test.YtmdmdbiinngneaaDoorQ8
import Derived.Test.YtmdmdbiinngneaaDoorQ12
import Derived.Laws.Strings
namespace Go.Proofs.YtmdmdbiinngneaaDoor.Q
open Go Go.RowKit Go.Proofs.YtmdmdbiinngneaaDoorW.PrintWords Go.Proofs.YtmdmdbiinngneaaDoorW.PrintLast Go.Proofs.YtmdmdbiinngneaaDoorW.PrintMore Go.Proofs.YtmdmdbiinngneaaDoor.Pieces
set_option linter.unusedVariables false
set_option linter.unusedSimpArgs false
/-! ### Edges in order -/
def ltE (x y : S39) : Prop := x.f0 < y.f0 ∨ (x.f0 = y.f0 ∧ x.f1 < y.f1)
theorem ltE_dec (x y : S39) : ltOf cmpEdge x y = true ↔ ltE x y := by
  unfold ltOf cmpEdge cmp3 ltE
  rw [decide_eq_true_eq]
  repeat' split
  all_goals omega
theorem leE_iff (x y : S39) : (!(ltOf cmpEdge) y x) = true ↔ ¬ ltE y x := by
  rw [Bool.not_eq_true', ← Bool.not_eq_true, ltE_dec]
theorem s39_ext {x y : S39} (h0 : x.f0 = y.f0) (h1 : x.f1 = y.f1) : x = y := by
  cases x; cases y; simp_all
theorem ltE_tri (x y : S39) (h : ¬ ltE y x) (h2 : sameE y x = false) : ltE x y := by
  unfold ltE at h ⊢
  unfold sameE at h2
  have : ¬ (y.f0 = x.f0 ∧ y.f1 = x.f1) := fun ⟨a, b⟩ => by simp [a, b] at h2
  omega
theorem sameE_eq {x y : S39} (h : sameE x y = true) : x = y := by
  unfold sameE at h
  rw [Bool.and_eq_true, beq_iff_eq, beq_iff_eq] at h
  exact s39_ext h.1 h.2
theorem leE_trans (a b c : S39) (h : (!(ltOf cmpEdge) b a) = true) (k : (!(ltOf cmpEdge) c b) = true) : (!(ltOf cmpEdge) c a) = true := by
  rw [leE_iff] at *
  unfold ltE at *
  omega
theorem leE_total (a b : S39) : ((!(ltOf cmpEdge) b a) || (!(ltOf cmpEdge) a b)) = true := by
  rw [Bool.or_eq_true, leE_iff, leE_iff]
  unfold ltE
  omega
theorem sortE_sorted (xs : List S39) : (sortE xs).Pairwise (fun x y => ¬ ltE y x) := by
  have := List.pairwise_mergeSort (le := fun x y : S39 => !(ltOf cmpEdge) y x) leE_trans leE_total xs
  exact this.imp fun {a b} h => (leE_iff a b).1 h
theorem sortE_mem (xs : List S39) (x : S39) : x ∈ sortE xs ↔ x ∈ xs := (List.mergeSort_perm xs _).mem_iff
theorem sortE_len (xs : List S39) : (sortE xs).length = xs.length := (List.mergeSort_perm xs _).length_eq
theorem sortE_self {xs : List S39} (h : xs.Pairwise ltE) : sortE xs = xs := by
  unfold sortE
  refine List.mergeSort_of_pairwise (h.imp fun {a b} hab => ?_)
  rw [leE_iff]
  unfold ltE at *
  omega
theorem compactGo_sub : ∀ (l : List S39) (p : S39), (compactGo p l).Sublist l
  | [], _ => List.Sublist.refl _
  | y :: r, p => by
    unfold compactGo
    split
    · exact (compactGo_sub r y).cons _
    · exact (compactGo_sub r y).cons_cons _
theorem compactE_sub (l : List S39) : (compactE l).Sublist l := by
  cases l with
  | nil => exact List.Sublist.refl _
  | cons x r => exact (compactGo_sub r x).cons_cons _
theorem compactGo_lt : ∀ (l : List S39) (p : S39), (p :: l).Pairwise (fun x y => ¬ ltE y x) → (p :: compactGo p l).Pairwise ltE
  | [], p, _ => List.pairwise_singleton _ _
  | y :: r, p, h => by
    obtain ⟨h1, h2⟩ := List.pairwise_cons.1 h
    have ih := compactGo_lt r y h2
    unfold compactGo
    split
    · rename_i hs
      rw [← sameE_eq hs]
      exact ih
    · rename_i hs
      have hlt := ltE_tri p y (h1 y (by simp)) (by simpa using hs)
      refine List.pairwise_cons.2 ⟨fun z hz => ?_, ih⟩
      rcases List.mem_cons.1 hz with rfl | hz
      · exact hlt
      · have := (List.pairwise_cons.1 ih).1 z hz
        unfold ltE at *
        omega
theorem compactE_lt {l : List S39} (h : l.Pairwise (fun x y => ¬ ltE y x)) : (compactE l).Pairwise ltE := by
  cases l with
  | nil => exact List.Pairwise.nil
  | cons x r => exact compactGo_lt r x h
theorem compactGo_self : ∀ (l : List S39) (p : S39), (p :: l).Pairwise ltE → compactGo p l = l
  | [], _, _ => rfl
  | y :: r, p, h => by
    obtain ⟨h1, h2⟩ := List.pairwise_cons.1 h
    have hlt := h1 y (by simp)
    unfold compactGo
    rw [if_neg, compactGo_self r y h2]
    intro hs
    rw [sameE_eq hs] at hlt
    unfold ltE at hlt
    omega
theorem compactE_self {l : List S39} (h : l.Pairwise ltE) : compactE l = l := by
  cases l with
  | nil => rfl
  | cons x r => exact congrArg (x :: ·) (compactGo_self r x h)
theorem compactGo_mem : ∀ (l : List S39) (p x : S39), x ∈ p :: compactGo p l ↔ x ∈ p :: l
  | [], _, _ => Iff.rfl
  | y :: r, p, x => by
    have ih := compactGo_mem r y x
    unfold compactGo
    split
    · rename_i hs
      have e := sameE_eq hs
      subst e
      rw [ih]
      simp
    · rw [List.mem_cons, ih, List.mem_cons (b := p)]
theorem compactE_mem (l : List S39) (x : S39) : x ∈ compactE l ↔ x ∈ l := by
  cases l with
  | nil => exact Iff.rfl
  | cons y r => exact compactGo_mem r y x
/-- An edge of a right graph of n vertices. -/
def EdgeIn (n : Int) (x : S39) : Prop := 0 ≤ x.f0 ∧ x.f0 < x.f1 ∧ x.f1 < n
theorem normGo_some (n : Int) : ∀ (l acc all : List S39), normGo n l acc = some all → (∀ x ∈ acc, EdgeIn n x) → (∀ x ∈ all, EdgeIn n x) ∧ all.length ≤ acc.length + l.length
  | [], acc, all, h, ha => by
    simp only [normGo, Option.some.injEq] at h
    subst h
    exact ⟨ha, by simp⟩
  | x :: r, acc, all, h, ha => by
    unfold normGo at h
    split at h
    · cases h
    · rename_i hb
      have hx : x.f0 ≠ x.f1 → EdgeIn n (edgeOf x) := fun hne => by
        unfold EdgeIn edgeOf mnE mxE at *
        simp only
        revert hb
        repeat' split
        all_goals intro hb
        all_goals omega
      obtain ⟨h1, h2⟩ := normGo_some n r _ all h (by
        intro y hy
        split at hy
        · exact ha y hy
        · rename_i hne
          rcases List.mem_append.1 hy with hy | hy
          · exact ha y hy
          · obtain rfl := List.mem_singleton.1 hy
            exact hx hne)
      refine ⟨h1, ?_⟩
      rw [List.length_cons]
      split at h2
      · omega
      · rw [List.length_append, List.length_singleton] at h2
        omega
theorem normGo_self (n : Int) : ∀ (l acc : List S39), (∀ x ∈ l, EdgeIn n x) → normGo n l acc = some (acc ++ l)
  | [], acc, _ => by simp [normGo]
  | x :: r, acc, h => by
    obtain ⟨h0, h1, h2⟩ := h x (by simp)
    have e1 : mnE x.f0 x.f1 = x.f0 := by unfold mnE; rw [if_neg (by omega)]
    have e2 : mxE x.f0 x.f1 = x.f1 := by unfold mxE; rw [if_pos (by omega)]
    have e3 : edgeOf x = x := by unfold edgeOf; rw [e1, e2]
    unfold normGo
    rw [e1, e2, if_neg (by omega), if_neg (by omega), e3, normGo_self n r _ (fun y hy => h y (by simp [hy]))]
    simp
/-- The edges of a right graph. -/
def Normed (n : Int) (es : List S39) : Prop := 0 ≤ n ∧ n ≤ 1000 ∧ es.Pairwise ltE ∧ (∀ x ∈ es, EdgeIn n x) ∧ es.length ≤ 4000
theorem normal_ok {n : Int} {l : List S39} (h : (graphNormal n l).2.2 = 0) : (graphNormal n l).1 = n ∧ Normed n (graphNormal n l).2.1 ∧ (graphNormal n l).2.1.length ≤ l.length := by
  unfold graphNormal at h ⊢
  split at h
  · exact absurd h (show ¬ (1 : Int) = 0 by decide)
  · split at h
    · exact absurd h (show ¬ (5 : Int) = 0 by decide)
    · rename_i h1 h2
      rw [if_neg h1, if_neg h2]
      cases hn : normGo n l [] with
      | none => rw [hn] at h; exact absurd h (show ¬ (4 : Int) = 0 by decide)
      | some all =>
        rw [hn] at h
        obtain ⟨h3, h4⟩ := normGo_some n l [] all hn (fun _ h => absurd h (by simp))
        simp only at h ⊢
        have hlen : (compactE (sortE all)).length ≤ l.length := by
          have := (compactE_sub (sortE all)).length_le
          rw [sortE_len] at this
          simp at h4
          omega
        split at h
        · exact absurd h (show ¬ (5 : Int) = 0 by decide)
        · rename_i h5
          rw [if_neg h5]
          refine ⟨rfl, ⟨by omega, by omega, compactE_lt (sortE_sorted all), fun x hx => ?_, by simp only; omega⟩, hlen⟩
          exact h3 x ((sortE_mem all x).1 ((compactE_sub _).subset hx))
theorem normal_self {n : Int} {es : List S39} (h : Normed n es) : graphNormal n es = (n, es, 0) := by
  obtain ⟨h0, h1, h2, h3, h4⟩ := h
  unfold graphNormal
  rw [if_neg (by omega), if_neg (by omega), normGo_self n es [] h3]
  simp only [List.nil_append]
  rw [sortE_self h2, compactE_self h2, if_neg (by omega)]
/-! ### Reading tokens off pieces -/
def Stops (p : Pc → Bool) (r : List Pc) : Prop := ∀ x ∈ r.head?, p x = false
theorem takeWhile_stop {p : Pc → Bool} {q r : List Pc} (hq : ∀ x ∈ q, p x = true) (hr : Stops p r) : (q ++ r).takeWhile p = q ∧ (q ++ r).dropWhile p = r := by
  rw [List.takeWhile_append_of_pos hq, List.dropWhile_append_of_pos hq]
  cases r with
  | nil => simp
  | cons y r =>
    have := hr y (by simp)
    rw [List.takeWhile_cons_of_neg (by simp [this]), List.dropWhile_cons_of_neg (by simp [this])]
    simp
theorem kd4_ne {x : Pc} (h : kd x = 4) : x.2 ≠ 35 := by
  intro h2
  unfold kd kindOf at h
  rw [h2] at h
  exact absurd h (by decide)
theorem kd3_ne {x : Pc} (h : kd x = 3) : x.2 ≠ 35 := by
  intro h2
  unfold kd kindOf at h
  rw [h2] at h
  exact absurd h (by decide)
/-- A word. -/
theorem lexT_word (p : Nat) (x : Pc) (q r : List Pc) (acc : List S53) (hx : kd x = 4) (hq : ∀ y ∈ q, isW y = true) (hr : Stops isW r) (hl : (pbytes (x :: q)).length ≤ 32) :
    lexT p (x :: q ++ r) acc = lexT (p + (pbytes (x :: q)).length) r (acc ++ [(⟨1, (p : Int), mkB (pbytes (x :: q)), 0⟩ : S53)]) := by
  obtain ⟨h1, h2⟩ := takeWhile_stop hq hr
  rw [List.cons_append, lexT_cons, if_neg (kd4_ne hx), if_neg (by rw [hx]; decide), if_neg (by rw [hx]; decide), if_neg (by rw [hx]; decide), if_pos hx, h1, h2]
  rw [pbytes_cons, List.length_append] at hl
  rw [if_neg (by rw [List.length_append]; omega), pbytes_cons, List.length_append, Nat.add_assoc]
/-- A number. -/
theorem lexT_num (p : Nat) (x : Pc) (q r : List Pc) (acc : List S53) (hx : kd x = 3) (hq : ∀ y ∈ q, isD y = true) (hr : Stops isD r) (hl : (pbytes (x :: q)).length ≤ 9) :
    lexT p (x :: q ++ r) acc = lexT (p + (pbytes (x :: q)).length) r (acc ++ [(⟨2, (p : Int), mkB (pbytes (x :: q)), (numL (pbytes (x :: q)) : Nat)⟩ : S53)]) := by
  obtain ⟨h1, h2⟩ := takeWhile_stop hq hr
  rw [List.cons_append, lexT_cons, if_neg (kd3_ne hx), if_neg (by rw [hx]; decide), if_neg (by rw [hx]; decide), if_pos hx, h1, h2]
  rw [pbytes_cons, List.length_append] at hl
  rw [if_neg (by rw [List.length_append]; omega), pbytes_cons, List.length_append, Nat.add_assoc]
abbrev spP : Pc := ([32], 32)
abbrev minP : Pc := ([45], 45)
theorem lexT_sp (p : Nat) (r : List Pc) (acc : List S53) : lexT p (spP :: r) acc = lexT (p + 1) r acc := by
  rw [lexT_cons, if_neg (by decide), if_pos (by decide)]
  rfl
theorem lexT_min (p : Nat) (r : List Pc) (acc : List S53) : lexT p (minP :: r) acc = lexT (p + 1) r (acc ++ [(⟨3, (p : Int), ⟨#[45]⟩, 0⟩ : S53)]) := by
  rw [lexT_cons, if_neg (by decide), if_neg (by decide), if_neg (by decide), if_neg (by decide), if_neg (by decide), if_pos (by decide)]
  rfl
theorem asc_cons (b : UInt8) (l : List UInt8) : asc (b :: l) = ([b], b.toNat) :: asc l := rfl
theorem kd_dig {b : UInt8} (h : isDig b) : kd ([b], b.toNat) = 3 := by
  obtain ⟨h1, h2⟩ := h
  unfold kd kindOf
  simp only
  rw [if_neg (by omega), if_neg (by omega), if_neg (by omega), if_pos (by omega)]
theorem lexT_digits (p : Nat) (l : List UInt8) (r : List Pc) (acc : List S53) (h0 : l ≠ []) (hd : ∀ b ∈ l, isDig b) (hr : Stops isD r) (hl : l.length ≤ 9) :
    lexT p (asc l ++ r) acc = lexT (p + l.length) r (acc ++ [(⟨2, (p : Int), mkB l, (numL l : Nat)⟩ : S53)]) := by
  obtain ⟨b, l, rfl⟩ := List.exists_cons_of_ne_nil h0
  have e := pbytes_asc (b :: l)
  rw [asc_cons] at e ⊢
  have := lexT_num p ([b], b.toNat) (asc l) r acc (kd_dig (hd b (by simp))) (fun y hy => by
    obtain ⟨c, hc, rfl⟩ := List.mem_map.1 hy
    unfold isD
    rw [kd_dig (hd c (by simp [hc]))]
    rfl) hr (by rw [e]; exact hl)
  rw [this, e]
/-- What may be a name: runes of words, a letter ahead, at most 32 bytes. -/
def NameP (ps : List Pc) : Prop := AllGood ps ∧ (∃ x q, ps = x :: q ∧ kd x = 4) ∧ (∀ y ∈ ps, isW y = true) ∧ (pbytes ps).length ≤ 32
def IsName (s : ByteArray) : Prop := ∃ ps, NameP ps ∧ s = mkB (pbytes ps)
theorem lexT_name (p : Nat) (ps r : List Pc) (acc : List S53) (h : NameP ps) (hr : Stops isW r) :
    lexT p (ps ++ r) acc = lexT (p + (pbytes ps).length) r (acc ++ [(⟨1, (p : Int), mkB (pbytes ps), 0⟩ : S53)]) := by
  obtain ⟨_, ⟨x, q, rfl, hx⟩, hw, hl⟩ := h
  exact lexT_word p x q r acc hx (fun y hy => hw y (by simp [hy])) hr hl
theorem nameP_asc (l : List UInt8) (h : (l.all fun b => decide (b.toNat < 128) && (kd ([b], b.toNat) == 4)) = true) (h0 : l ≠ []) (hl : l.length ≤ 32) : NameP (asc l) := by
  rw [List.all_eq_true] at h
  have h' : ∀ b ∈ l, b.toNat < 128 ∧ kd ([b], b.toNat) = 4 := fun b hb => by simpa using h b hb
  obtain ⟨b, l', rfl⟩ := List.exists_cons_of_ne_nil h0
  refine ⟨asc_good fun c hc => (h' c hc).1, ⟨_, _, rfl, (h' b (by simp)).2⟩, fun y hy => ?_, by rw [pbytes_asc]; exact hl⟩
  obtain ⟨c, hc, rfl⟩ := List.mem_map.1 hy
  unfold isW
  rw [(h' c hc).2]
  rfl
theorem stops_nil (p : Pc → Bool) : Stops p [] := fun x h => by simp at h
theorem stops_cons {p : Pc → Bool} {x : Pc} {r : List Pc} (h : p x = false) : Stops p (x :: r) := fun y hy => by
  simp at hy
  subst hy
  exact h
/-! ### What the tokens of a text are like -/
def TokOk (t : S53) : Prop := (t.f0 = 1 → IsName t.f2) ∧ (t.f0 = 2 → 0 ≤ t.f3)
theorem lexT_ok : ∀ (n : Nat) (ps : List Pc) (p : Nat) (acc : List S53), ps.length ≤ n → AllGood ps → (∀ t ∈ acc, TokOk t) → ∀ t ∈ (lexT p ps acc).1, TokOk t
  | n, [], p, acc, _, _, ha => by rw [lexT_nil]; exact ha
  | 0, x :: r, p, acc, hn, _, _ => absurd hn (by simp)
  | n + 1, x :: r, p, acc, hn, hg, ha => by
    have hr : r.length ≤ n := by simpa using hn
    have hgx := hg x (by simp)
    have hgr : AllGood r := fun y hy => hg y (by simp [hy])
    have hd : ∀ q : Pc → Bool, (r.dropWhile q).length ≤ n := fun q => Nat.le_trans (dropWhile_len q r) hr
    have hdg : ∀ q : Pc → Bool, AllGood (r.dropWhile q) := fun q y hy => hgr y ((List.dropWhile_sublist q).subset hy)
    have snoc : ∀ t, TokOk t → ∀ u ∈ acc ++ [t], TokOk u := fun t ht u hu => by
      rcases List.mem_append.1 hu with hu | hu
      · exact ha u hu
      · obtain rfl := List.mem_singleton.1 hu
        exact ht
    rw [lexT_cons]
    split
    · exact lexT_ok n _ _ _ (hd _) (hdg _) ha
    · split
      · exact lexT_ok n _ _ _ hr hgr ha
      · split
        · exact lexT_ok n _ _ _ hr hgr (snoc _ ⟨fun h => absurd h (by show ¬ (4 : Int) = 1; decide), fun h => absurd h (by show ¬ (4 : Int) = 2; decide)⟩)
        · split
          · split
            · exact fun t ht => absurd ht (by simp)
            · exact lexT_ok n _ _ _ (hd _) (hdg _) (snoc _ ⟨fun h => absurd h (by show ¬ (2 : Int) = 1; decide), fun _ => by simp only; omega⟩)
          · split
            · split
              · exact fun t ht => absurd ht (by simp)
              · rename_i h4 h32
                refine lexT_ok n _ _ _ (hd _) (hdg _) (snoc _ ⟨fun _ => ⟨x :: r.takeWhile isW, ⟨?_, ⟨x, _, rfl, h4⟩, ?_, ?_⟩, ?_⟩, fun h => absurd h (by show ¬ (1 : Int) = 2; decide)⟩)
                · exact AllGood.cons hgx fun y hy => hgr y (mem_takeWhile hy).2
                · intro y hy
                  rcases List.mem_cons.1 hy with rfl | hy
                  · unfold isW; rw [h4]; rfl
                  · exact (mem_takeWhile hy).1
                · rw [pbytes_cons]; omega
                · rw [pbytes_cons]
            · split
              · exact lexT_ok n _ _ _ hr hgr (snoc _ ⟨fun h => absurd h (by show ¬ (3 : Int) = 1; decide), fun h => absurd h (by show ¬ (3 : Int) = 2; decide)⟩)
              · exact fun t ht => absurd ht (by simp)
theorem lexS_ok (ln : List UInt8) (h : ln.length < 1000000000000) : ∀ t ∈ (lexS ln).1, TokOk t := by
  obtain ⟨ps, r, hg, he, hc⟩ := lex_cases ln h
  unfold lexS
  rcases hc with ⟨_, hc⟩ | ⟨_, hc⟩
  · rw [hc]
    exact lexT_ok _ ps 0 [] (Nat.le_refl _) hg (fun t ht => absurd ht (by simp))
  · rw [hc]
    exact fun t ht => absurd ht (by simp)
theorem rd53_mem {l : List S53} {i : Nat} (h : i < l.length) : rd_T53 l (i : Int) ∈ l := by
  unfold rd_T53
  rw [List.getD_eq_getElem?_getD, Int.toNat_natCast, List.getElem?_eq_getElem h]
  exact List.getElem_mem h
theorem takeP_tok {l : List S53} {k : Int} {i : Nat} (h : takeP l k i = true) : tokP l k i = rd_T53 l (i : Int) ∧ i < l.length ∧ (rd_T53 l (i : Int)).f0 = k := by
  have h2 := h
  unfold takeP at h2
  rw [Bool.and_eq_true, decide_eq_true_eq, decide_eq_true_eq] at h2
  exact ⟨by unfold tokP; rw [if_pos h], h2⟩
theorem lineEdges_len (l : List S53) (en nN : Int) : ∀ (b i : Nat) (acc : List S39), (lineEdges l en nN b i acc).2.2.1.length ≤ acc.length + b
  | 0, i, acc => by simp [lineEdges]
  | b + 1, i, acc => by
    unfold lineEdges
    repeat' split
    all_goals first
      | (have := lineEdges_len l en nN b (i + 3) (acc ++ [⟨(rd_T53 l (i : Int)).f3, (rd_T53 l ((i + 2 : Nat) : Int)).f3⟩]); rw [List.length_append, List.length_singleton] at this; omega)
      | (simp only; omega)
/-- An operation that has been read: what it may be. -/
def OpOk (x : S34) : Prop := IsName x.f1 ∧ ((x.f0 = 1 ∧ Normed x.f2.f0 x.f2.f1 ∧ x.f3 = 0) ∨ (x.f0 = 2 ∧ 1 ≤ x.f3 ∧ x.f3 ≤ 4 ∧ x.f2 = ⟨0, []⟩) ∨ ((x.f0 = 3 ∨ x.f0 = 4) ∧ x.f3 = 0 ∧ x.f2 = ⟨0, []⟩))
theorem verb_range (s : ByteArray) : 0 ≤ verbP s ∧ verbP s ≤ 4 := by
  unfold verbP script_verb.f
  repeat' split
  all_goals exact ⟨by decide, by decide⟩
theorem class_range_l (s : ByteArray) : ∀ (k : Nat) (c r : Int), script_class.l0 k s c = some r → 1 ≤ c → c ≤ 5 → 0 ≤ r ∧ r ≤ 4
  | 0, c, r, h, _, _ => by simp [script_class.l0] at h
  | k + 1, c, r, h, h1, h5 => by
    unfold script_class.l0 at h
    split at h
    · rename_i h4
      obtain ⟨t, _, h⟩ := Option.bind_eq_some_iff.1 h
      split at h
      · obtain rfl := Option.some.inj h
        exact ⟨by omega, h4⟩
      · rw [w64 (by omega) (by omega)] at h
        exact class_range_l s k (c + 1) r h (by omega) (by omega)
    · obtain rfl := Option.some.inj h
      exact ⟨by omega, by omega⟩
theorem class_range (s : ByteArray) : 0 ≤ classP s ∧ classP s ≤ 4 := by
  unfold classP script_class.f
  cases h : script_class.l0 8 s 1 with
  | none => exact ⟨by decide, by decide⟩
  | some r => exact class_range_l s 8 1 r h (by decide) (by decide)
theorem finR_ok {l : List S53} {en kind : Int} {name : ByteArray} {n : Int} {es : List S39} {cls at0 nat : Int} {i : Nat} (h : errOf (finR l en kind name n es cls at0 nat i) = 0) :
    finR l en kind name n es cls at0 nat i = (kind, name, n, es, cls, at0, nat, 0, 0) ∧ l.length ≤ i := by
  unfold finR at h ⊢
  split at h
  · exact absurd h (show ¬ (3 : Int) = 0 by decide)
  · rename_i h2
    rw [if_neg h2]
    exact ⟨rfl, by omega⟩
theorem line_ok {l : List S53} {en : Int} (hl : ∀ t ∈ l, TokOk t) (h : errOf (lineP l en) = 0) (fr : Int) : OpOk (opAt fr (lineP l en)) ∧ (lineP l en).2.2.2.1.length ≤ l.length := by
  have hname : takeP l 1 1 = true → IsName (tokP l 1 1).f2 := fun h1 => by
    obtain ⟨e, hi, hk⟩ := takeP_tok h1
    rw [e]
    exact (hl _ (rd53_mem hi)).1 hk
  unfold lineP at h ⊢
  split at h
  · rename_i h1
    rw [if_pos h1]
    split at h
    · rename_i h2
      rw [if_pos h2]
      have hn := hname h2
      split at h
      · rename_i h3
        rw [if_pos h3]
        split at h
        · rename_i h4
          rw [if_pos h4]
          have hc := class_range (tokP l 1 2).f2
          rw [(finR_ok h).1]
          exact ⟨⟨hn, .inr (.inl ⟨rfl, by show 1 ≤ classP _; omega, hc.2, rfl⟩)⟩, by simp⟩
        · exact absurd h (show ¬ (3 : Int) = 0 by decide)
      · rename_i h3
        rw [if_neg h3]
        split at h
        · rename_i h4
          rw [if_pos h4]
          unfold lineLoad at h ⊢
          split at h
          · rename_i h5
            rw [if_pos h5]
            split at h
            · exact absurd h (show ¬ (5 : Int) = 0 by decide)
            · rename_i h6
              rw [if_neg h6]
              split at h
              · rename_i h7
                rw [if_pos h7]
                split at h
                · rename_i h8
                  rw [if_pos h8]
                  obtain ⟨g1, g2, g3⟩ := normal_ok h8
                  have g4 := lineEdges_len l en (tokP l 2 2).f3 l.length 3 []
                  refine ⟨⟨hn, .inl ⟨rfl, ?_, rfl⟩⟩, ?_⟩
                  · show Normed (graphNormal _ _).1 (graphNormal _ _).2.1
                    rw [g1]
                    exact g2
                  · simp only [List.length_nil] at g4
                    simp only
                    omega
                · rename_i h8
                  exact absurd h h8
              · rename_i h7
                exact absurd h h7
          · exact absurd h (show ¬ (3 : Int) = 0 by decide)
        · rename_i h4
          rw [if_neg h4]
          have hv := verb_range (tokP l 1 0).f2
          have hv0 := h1.2
          rw [(finR_ok h).1]
          exact ⟨⟨hn, .inr (.inr ⟨by show verbP _ = 3 ∨ verbP _ = 4; omega, rfl, rfl⟩)⟩, by simp⟩
    · exact absurd h (show ¬ (3 : Int) = 0 by decide)
  · exact absurd h (show ¬ (3 : Int) = 0 by decide)
/-! ### All operations that are read -/
theorem normed_edge {n : Int} {es : List S39} (h : Normed n es) {e : S39} (he : e ∈ es) : 0 ≤ e.f0 ∧ e.f0 ≤ 999 ∧ 0 ≤ e.f1 ∧ e.f1 ≤ 999 := by
  obtain ⟨h0, h1, h2⟩ := h.2.2.2.1 e he
  have := h.2.1
  omega
theorem itoa_nat {n : Int} (h : 0 ≤ n) : Lib.itoa n = Lib.decDigits n.toNat := by
  unfold Lib.itoa
  rw [if_neg (by omega)]
theorem itoa_len {n : Int} {k : Nat} (h : 0 ≤ n) (h2 : n.toNat < 10 ^ k) (hk : 1 ≤ k) : (Lib.itoa n).length ≤ k := by
  rw [itoa_nat h]
  exact dec_len _ _ h2 hk
theorem numB_data (n : Int) : (numB n).data.toList = Lib.itoa n := rfl
theorem edgeText_len {e : S39} (h : 0 ≤ e.f0 ∧ e.f0 ≤ 999 ∧ 0 ≤ e.f1 ∧ e.f1 ≤ 999) : (edgeText e).length ≤ 8 := by
  have h1 := itoa_len (k := 3) h.1 (by omega) (by decide)
  have h2 := itoa_len (k := 3) h.2.2.1 (by omega) (by decide)
  unfold edgeText
  rw [List.length_append, List.length_append, List.length_append, numB_data, numB_data]
  simp only [List.length_singleton]
  omega
theorem edges_text_len : ∀ {es : List S39}, (∀ e ∈ es, 0 ≤ e.f0 ∧ e.f0 ≤ 999 ∧ 0 ≤ e.f1 ∧ e.f1 ≤ 999) → (es.flatMap edgeText).length ≤ 8 * es.length
  | [], _ => Nat.le_refl _
  | e :: es, h => by
    have h1 := edgeText_len (h e (by simp))
    have h2 := edges_text_len (es := es) fun x hx => h x (by simp [hx])
    rw [List.flatMap_cons, List.length_append, List.length_cons]
    omega
theorem title_len (c : Int) : (titleP c).data.toList.length ≤ 7 := by
  unfold titleP script_title.f
  repeat' split
  all_goals decide
theorem isName_len {s : ByteArray} (h : IsName s) : s.data.toList.length ≤ 32 := by
  obtain ⟨ps, hp, rfl⟩ := h
  exact hp.2.2.2
theorem opText_len {x : S34} (h : OpOk x) : (opText x).length ≤ 44 + 8 * x.f2.f1.length := by
  obtain ⟨hn, h⟩ := h
  have h32 := isName_len hn
  unfold opText
  rcases h with ⟨h0, hN, _⟩ | ⟨h0, _, _, _⟩ | ⟨h0, _, _⟩
  · rw [if_pos h0, List.length_append]
    have h1 := edges_text_len (es := x.f2.f1) fun e he => normed_edge hN he
    have h2 := itoa_len (k := 4) hN.1 (by have := hN.2.1; omega) (by decide)
    unfold headText
    simp only [List.length_append, numB_data, List.length_cons, List.length_nil]
    omega
  · rw [if_neg (by omega), if_pos h0]
    have := title_len x.f3
    simp only [List.length_append, List.length_cons, List.length_nil]
    omega
  · rcases h0 with h0 | h0
    · rw [if_neg (by omega), if_neg (by omega), if_pos h0]
      simp only [List.length_append, List.length_cons, List.length_nil]
      omega
    · rw [if_neg (by omega), if_neg (by omega), if_neg (by omega), if_pos h0]
      simp only [List.length_append, List.length_cons, List.length_nil]
      omega
theorem textP_snoc (l : List S34) (x : S34) : textP (l ++ [x]) = textP l ++ (opText x ++ [10]) := by
  simp [textP]
theorem parse_ops : ∀ (n : Nat) (l : List UInt8), l.length ≤ n → l.length ≤ 1048576 → ∀ (fr : Nat) (acc : List S34), (∀ x ∈ acc, OpOk x) →
    (∀ x ∈ (parseT fr l acc).1, OpOk x) ∧ (textP (parseT fr l acc).1).length ≤ (textP acc).length + 44 * l.length
  | n, [], _, _, fr, acc, ha => by
    rw [parseT_nil]
    exact ⟨ha, Nat.le_refl _⟩
  | 0, c :: r, hn, _, _, _, _ => absurd hn (by simp)
  | n + 1, c :: r, hn, hm, fr, acc, ha => by
    have hrest := restB_lt c r
    generalize hl : c :: r = l at *
    have hne : l ≠ [] := by rw [← hl]; simp
    have hln := lineB_le l
    have wl := lexS_len (lineB l) (by omega)
    have hrl : (restB l).length + (lineB l).length ≤ l.length := by rcases restB_len l with h0 | h0 <;> omega
    rw [parseT_step fr l acc hne]
    split
    · split
      · obtain ⟨h1, h2⟩ := parse_ops n (restB l) (by omega) (by omega) (fr + (lineB l).length + 1) acc ha
        exact ⟨h1, by omega⟩
      · split
        · exact ⟨ha, by simp only; omega⟩
        · split
          · rename_i he
            have h2 := line_two he
            obtain ⟨ho, hel⟩ := line_ok (lexS_ok (lineB l) (by omega)) he fr
            obtain ⟨h1, h3⟩ := parse_ops n (restB l) (by omega) (by omega) (fr + (lineB l).length + 1) (acc ++ [opAt fr (lineP (lexS (lineB l)).1 (lineB l).length)]) (fun x hx => by
              rcases List.mem_append.1 hx with hx | hx
              · exact ha x hx
              · obtain rfl := List.mem_singleton.1 hx
                exact ho)
            refine ⟨h1, ?_⟩
            have ht := opText_len ho
            have hes : (opAt fr (lineP (lexS (lineB l)).1 (lineB l).length)).f2.f1.length ≤ (lexS (lineB l)).1.length := hel
            rw [textP_snoc, List.length_append, List.length_append, List.length_singleton] at h3
            omega
          · exact ⟨ha, by simp only; omega⟩
    · exact ⟨ha, by simp only; omega⟩
/-! ### The tokens of an operation's text, and what is read of them -/
def edgeToks (p : Nat) : List S39 → List S53
  | [] => []
  | e :: es => [(⟨2, ((p + 1 : Nat) : Int), numB e.f0, e.f0⟩ : S53), ⟨3, ((p + 1 + (Lib.itoa e.f0).length : Nat) : Int), ⟨#[45]⟩, 0⟩, ⟨2, ((p + 1 + (Lib.itoa e.f0).length + 1 : Nat) : Int), numB e.f1, e.f1⟩] ++ edgeToks (p + (edgeText e).length) es
theorem itoa_digits {n : Int} (h : 0 ≤ n) : Lib.itoa n ≠ [] ∧ (∀ b ∈ Lib.itoa n, isDig b) ∧ ((numL (Lib.itoa n) : Nat) : Int) = n := by
  rw [itoa_nat h]
  refine ⟨dec_ne _, dec_dig _, ?_⟩
  rw [num_dec]
  omega
theorem isD_sp : isD spP = false := by decide
theorem isD_min : isD minP = false := by decide
theorem isW_sp : isW spP = false := by decide
theorem lexT_edges : ∀ (es : List S39) (p : Nat) (acc : List S53), (∀ e ∈ es, 0 ≤ e.f0 ∧ e.f0 ≤ 99999999 ∧ 0 ≤ e.f1 ∧ e.f1 ≤ 99999999) → lexT p (asc (es.flatMap edgeText)) acc = (acc ++ edgeToks p es, 0, 0)
  | [], p, acc, _ => by
    show lexT p [] acc = _
    rw [lexT_nil]
    simp [edgeToks]
  | e :: es, p, acc, h => by
    have he := h e (by simp)
    obtain ⟨a1, a2, a3⟩ := itoa_digits he.1
    obtain ⟨b1, b2, b3⟩ := itoa_digits he.2.2.1
    have la := itoa_len (k := 8) he.1 (by omega) (by decide)
    have lb := itoa_len (k := 8) he.2.2.1 (by omega) (by decide)
    have st : Stops isD (asc (es.flatMap edgeText)) := by
      cases es with
      | nil => exact stops_nil _
      | cons f fs => exact stops_cons (x := spP) isD_sp
    have e1 : asc ((e :: es).flatMap edgeText) = spP :: (asc (Lib.itoa e.f0) ++ (minP :: (asc (Lib.itoa e.f1) ++ asc (es.flatMap edgeText)))) := by
      rw [List.flatMap_cons, asc_append]
      unfold edgeText
      rw [asc_append, asc_append, asc_append, numB_data, numB_data]
      simp [asc]
    rw [e1, lexT_sp, lexT_digits _ _ _ _ a1 a2 (stops_cons isD_min) (by omega), lexT_min, lexT_digits _ _ _ _ b1 b2 st (by omega), lexT_edges es _ _ (fun x hx => h x (by simp [hx]))]
    have e2 : p + (edgeText e).length = p + 1 + (Lib.itoa e.f0).length + 1 + (Lib.itoa e.f1).length := by
      unfold edgeText
      simp only [List.length_append, numB_data, List.length_singleton]
      omega
    have e3 : edgeToks p (e :: es) = [(⟨2, ((p + 1 : Nat) : Int), numB e.f0, e.f0⟩ : S53), ⟨3, ((p + 1 + (Lib.itoa e.f0).length : Nat) : Int), ⟨#[45]⟩, 0⟩, ⟨2, ((p + 1 + (Lib.itoa e.f0).length + 1 : Nat) : Int), numB e.f1, e.f1⟩] ++ edgeToks (p + (edgeText e).length) es := rfl
    rw [e3, e2, a3, b3]
    simp [mkB, numB]
theorem edgeToks_len : ∀ (es : List S39) (p : Nat), (edgeToks p es).length = 3 * es.length
  | [], p => rfl
  | e :: es, p => by
    unfold edgeToks
    rw [List.length_append, edgeToks_len es]
    simp
    omega
theorem rd53_app (a b : List S53) (i : Nat) : rd_T53 (a ++ b) ((a.length + i : Nat) : Int) = rd_T53 b (i : Int) := by
  unfold rd_T53
  rw [Int.toNat_natCast, Int.toNat_natCast, List.getD_eq_getElem?_getD, List.getD_eq_getElem?_getD, List.getElem?_append_right (by omega), Nat.add_sub_cancel_left]
theorem takeP_app (a b : List S53) (k : Int) (i : Nat) : takeP (a ++ b) k (a.length + i) = takeP b k i := by
  unfold takeP
  rw [rd53_app, List.length_append]
  congr 1
  rw [decide_eq_decide]
  omega
theorem lineEdges_toks (en nN : Int) : ∀ (es : List S39) (a : List S53) (p b : Nat) (acc : List S39), es.length < b → (∀ e ∈ es, e.f0 < nN ∧ e.f1 < nN) →
    lineEdges (a ++ edgeToks p es) en nN b a.length acc = (0, 0, acc ++ es, a.length + 3 * es.length)
  | [], a, p, b, acc, hb, _ => by
    obtain ⟨b, rfl⟩ : ∃ q, b = q + 1 := ⟨b - 1, by omega⟩
    unfold lineEdges
    rw [if_neg (by simp [edgeToks])]
    simp
  | e :: es, a, p, b, acc, hb, h => by
    obtain ⟨b, rfl⟩ : ∃ q, b = q + 1 := ⟨b - 1, by omega⟩
    have he := h e (by simp)
    have t0 : takeP (a ++ edgeToks p (e :: es)) 2 a.length = true := (takeP_app a _ 2 0).trans (by simp [takeP, edgeToks, rd_T53])
    have t1 : takeP (a ++ edgeToks p (e :: es)) 3 (a.length + 1) = true := (takeP_app a _ 3 1).trans (by simp [takeP, edgeToks, rd_T53])
    have t2 : takeP (a ++ edgeToks p (e :: es)) 2 (a.length + 2) = true := (takeP_app a _ 2 2).trans (by simp [takeP, edgeToks, rd_T53])
    have r0 : rd_T53 (a ++ edgeToks p (e :: es)) (a.length : Int) = (⟨2, ((p + 1 : Nat) : Int), numB e.f0, e.f0⟩ : S53) := (rd53_app a _ 0).trans (by simp [edgeToks, rd_T53])
    have r1 : rd_T53 (a ++ edgeToks p (e :: es)) ((a.length + 1 : Nat) : Int) = (⟨3, ((p + 1 + (Lib.itoa e.f0).length : Nat) : Int), ⟨#[45]⟩, 0⟩ : S53) := (rd53_app a _ 1).trans (by simp [edgeToks, rd_T53])
    have r2 : rd_T53 (a ++ edgeToks p (e :: es)) ((a.length + 2 : Nat) : Int) = (⟨2, ((p + 1 + (Lib.itoa e.f0).length + 1 : Nat) : Int), numB e.f1, e.f1⟩ : S53) := (rd53_app a _ 2).trans (by simp [edgeToks, rd_T53])
    unfold lineEdges
    rw [if_pos (by rw [List.length_append, edgeToks_len]; simp), if_pos t0, r0, r1, r2]
    rw [if_neg (by simp only; omega), if_pos ⟨t1, by rw [ByteArray.toList_eq]⟩, if_pos t2, if_neg (by simp only; omega)]
    have := lineEdges_toks en nN es (a ++ [(⟨2, ((p + 1 : Nat) : Int), numB e.f0, e.f0⟩ : S53), ⟨3, ((p + 1 + (Lib.itoa e.f0).length : Nat) : Int), ⟨#[45]⟩, 0⟩, ⟨2, ((p + 1 + (Lib.itoa e.f0).length + 1 : Nat) : Int), numB e.f1, e.f1⟩]) (p + (edgeText e).length) b (acc ++ [e]) (by simp at hb; omega) (fun x hx => h x (by simp [hx]))
    have hlen : (a ++ [(⟨2, ((p + 1 : Nat) : Int), numB e.f0, e.f0⟩ : S53), ⟨3, ((p + 1 + (Lib.itoa e.f0).length : Nat) : Int), ⟨#[45]⟩, 0⟩, ⟨2, ((p + 1 + (Lib.itoa e.f0).length + 1 : Nat) : Int), numB e.f1, e.f1⟩]).length = a.length + 3 := by simp
    rw [hlen] at this
    have happ : a ++ edgeToks p (e :: es) = (a ++ [(⟨2, ((p + 1 : Nat) : Int), numB e.f0, e.f0⟩ : S53), ⟨3, ((p + 1 + (Lib.itoa e.f0).length : Nat) : Int), ⟨#[45]⟩, 0⟩, ⟨2, ((p + 1 + (Lib.itoa e.f0).length + 1 : Nat) : Int), numB e.f1, e.f1⟩]) ++ edgeToks (p + (edgeText e).length) es := by
      rw [List.append_assoc]
      rfl
    rw [happ]
    have es39 : (⟨e.f0, e.f1⟩ : S39) = e := rfl
    simp only [es39]
    rw [this]
    simp
    omega
/-! ### No line ends in an operation's text -/
theorem good_high {x : Pc} (h : GoodP x) (h2 : 128 ≤ x.2) : ∀ b ∈ x.1, 128 ≤ b.toNat := by
  have key : ∀ k, k < x.1.length → 128 ≤ bAt x.1 k := by
    by_cases he : x.2 = 65533
    · rw [h.2.2 he]
      intro k hk
      match k, hk with
      | 0, _ => decide
      | 1, _ => decide
      | 2, _ => decide
    · obtain ⟨h1, h3, h4⟩ := h
      unfold decL at h1
      revert h1
      repeat' split
      all_goals intro h1
      all_goals injection h1 with h5 h6
      · omega
      · intro k hk
        have : k = 0 ∨ k = 1 := by omega
        rcases this with rfl | rfl <;> omega
      · omega
      · intro k hk
        have : k = 0 ∨ k = 1 ∨ k = 2 := by omega
        rcases this with rfl | rfl | rfl <;> omega
      · omega
      · intro k hk
        have : k = 0 ∨ k = 1 ∨ k = 2 ∨ k = 3 := by omega
        rcases this with rfl | rfl | rfl | rfl <;> omega
      · omega
      · omega
  intro b hb
  obtain ⟨k, hk, rfl⟩ := List.getElem_of_mem hb
  have := key k hk
  unfold bAt at this
  rw [List.getD_eq_getElem?_getD, List.getElem?_eq_getElem hk] at this
  exact this
theorem good_no10 {x : Pc} (h : GoodP x) (hk : kd x ≠ 2) : ∀ b ∈ x.1, (b != 10) = true := by
  intro b hb
  by_cases hs : x.2 < 128
  · rw [good_small h hs] at hb
    obtain rfl := List.mem_singleton.1 hb
    rw [bne_iff_ne]
    intro he
    have h10 : x.2 = 10 := by
      have := congrArg UInt8.toNat he
      rw [UInt8.toNat_ofNat_of_lt' (by show x.2 < 256; omega)] at this
      exact this
    apply hk
    unfold kd kindOf
    rw [h10]
    rfl
  · have := good_high h (by omega) b hb
    rw [bne_iff_ne]
    rintro rfl
    exact absurd this (by decide)
theorem isW_ne2 {x : Pc} (h : isW x = true) : kd x ≠ 2 := by
  unfold isW at h
  intro h2
  rw [h2] at h
  exact absurd h (by decide)
theorem name_no10 {s : ByteArray} (h : IsName s) : ∀ b ∈ s.data.toList, (b != 10) = true := by
  obtain ⟨ps, hp, rfl⟩ := h
  exact pbytes_mem (P := fun b => (b != 10) = true) fun x hx => good_no10 (hp.1 x hx) (isW_ne2 (hp.2.2.1 x hx))
theorem dig_no10 {b : UInt8} (h : isDig b) : (b != 10) = true := by
  rw [bne_iff_ne]
  rintro rfl
  exact absurd h.1 (by decide)
theorem itoa_no10 {n : Int} (h : 0 ≤ n) : ∀ b ∈ Lib.itoa n, (b != 10) = true := fun b hb => dig_no10 ((itoa_digits h).2.1 b hb)
theorem title_no10 (c : Int) : ∀ b ∈ (titleP c).data.toList, (b != 10) = true := by
  unfold titleP script_title.f
  repeat' split
  all_goals decide
theorem op_no10 {x : S34} (h : OpOk x) : ∀ b ∈ opText x, (b != 10) = true := by
  obtain ⟨hn, h⟩ := h
  have hnm := name_no10 hn
  have c1 : ∀ b ∈ ([108, 111, 97, 100, 32] : List UInt8), (b != 10) = true := by decide
  have c2 : ∀ b ∈ ([97, 115, 107, 32] : List UInt8), (b != 10) = true := by decide
  have c3 : ∀ b ∈ ([115, 104, 111, 119, 32] : List UInt8), (b != 10) = true := by decide
  have c4 : ∀ b ∈ ([100, 114, 111, 112, 32] : List UInt8), (b != 10) = true := by decide
  have c5 : ∀ b ∈ ([32] : List UInt8), (b != 10) = true := by decide
  have c6 : ∀ b ∈ ([45] : List UInt8), (b != 10) = true := by decide
  unfold opText
  rcases h with ⟨h0, hN, _⟩ | ⟨h0, _, _, _⟩ | ⟨h0, _, _⟩
  · rw [if_pos h0]
    refine List.forall_mem_append.2 ⟨?_, ?_⟩
    · unfold headText
      exact List.forall_mem_append.2 ⟨c1, List.forall_mem_append.2 ⟨hnm, List.forall_mem_append.2 ⟨c5, itoa_no10 hN.1⟩⟩⟩
    · intro b hb
      obtain ⟨e, he, hb2⟩ := List.mem_flatMap.1 hb
      have hr := normed_edge hN he
      clear hb
      revert b
      unfold edgeText
      exact List.forall_mem_append.2 ⟨c5, List.forall_mem_append.2 ⟨itoa_no10 hr.1, List.forall_mem_append.2 ⟨c6, itoa_no10 hr.2.2.1⟩⟩⟩
  · rw [if_neg (by omega), if_pos h0]
    exact List.forall_mem_append.2 ⟨c2, List.forall_mem_append.2 ⟨hnm, List.forall_mem_append.2 ⟨c5, title_no10 _⟩⟩⟩
  · rcases h0 with h0 | h0
    · rw [if_neg (by omega), if_neg (by omega), if_pos h0]
      exact List.forall_mem_append.2 ⟨c3, hnm⟩
    · rw [if_neg (by omega), if_neg (by omega), if_neg (by omega), if_pos h0]
      exact List.forall_mem_append.2 ⟨c4, hnm⟩
theorem line_text {l : List UInt8} (h : ∀ b ∈ l, (b != 10) = true) (r : List UInt8) : lineB (l ++ 10 :: r) = l ∧ restB (l ++ 10 :: r) = r := by
  constructor
  · unfold lineB
    rw [List.takeWhile_append_of_pos h]
    simp
  · unfold restB
    rw [List.dropWhile_append_of_pos h]
    rfl
/-! ### An operation's text, read -/
theorem good_sp : GoodP spP := good_ascii 32 (by decide)
theorem asc_good_dig {n : Int} (h : 0 ≤ n) : AllGood (asc (Lib.itoa n)) := asc_good fun b hb => by have := ((itoa_digits h).2.1 b hb).2; omega
theorem edges_good : ∀ {es : List S39}, (∀ e ∈ es, 0 ≤ e.f0 ∧ e.f0 ≤ 99999999 ∧ 0 ≤ e.f1 ∧ e.f1 ≤ 99999999) → AllGood (asc (es.flatMap edgeText))
  | [], _ => fun x hx => absurd hx (by simp [asc])
  | e :: es, h => by
    have he := h e (by simp)
    rw [List.flatMap_cons, asc_append]
    refine AllGood.append ?_ (edges_good fun x hx => h x (by simp [hx]))
    unfold edgeText
    rw [asc_append, asc_append, asc_append]
    exact AllGood.append (asc_good (by decide)) (AllGood.append (asc_good_dig he.1) (AllGood.append (asc_good (by decide)) (asc_good_dig he.2.2.1)))
theorem lexT_head (v : List UInt8) (hv : NameP (asc v)) (nps r : List Pc) (hn : NameP nps) (hr : Stops isW r) :
    lexT 0 (asc v ++ (spP :: (nps ++ r))) [] = lexT (v.length + 1 + (pbytes nps).length) r [(⟨1, 0, mkB v, 0⟩ : S53), ⟨1, ((v.length + 1 : Nat) : Int), mkB (pbytes nps), 0⟩] := by
  rw [lexT_name 0 (asc v) _ [] hv (stops_cons isW_sp), lexT_sp, lexT_name _ nps r _ hn hr, pbytes_asc, Nat.zero_add]
  rfl
theorem lexS_pcs {ps : List Pc} {l : List UInt8} (hg : AllGood ps) (hb : l = pbytes ps) (h : l.length < 1000000000000) : lexS l = lexT 0 ps [] := by
  subst hb
  exact lexS_good hg h
theorem nameP_word (l : List UInt8) (h : (l.all fun b => decide (b.toNat < 128) && (kd ([b], b.toNat) == 4)) = true) (h0 : l ≠ []) (hl : l.length ≤ 32) : NameP (asc l) := nameP_asc l h h0 hl
theorem w_load : NameP (asc [108, 111, 97, 100]) := nameP_asc _ (by decide) (by decide) (by decide)
theorem w_ask : NameP (asc [97, 115, 107]) := nameP_asc _ (by decide) (by decide) (by decide)
theorem w_show : NameP (asc [115, 104, 111, 119]) := nameP_asc _ (by decide) (by decide) (by decide)
theorem w_drop : NameP (asc [100, 114, 111, 112]) := nameP_asc _ (by decide) (by decide) (by decide)
theorem w_title {c : Int} (h1 : 1 ≤ c) (h4 : c ≤ 4) : NameP (asc (titleP c).data.toList) ∧ classP (titleP c) = c := by
  have : c = 1 ∨ c = 2 ∨ c = 3 ∨ c = 4 := by omega
  rcases this with rfl | rfl | rfl | rfl
  · exact ⟨nameP_asc _ (by decide) (by decide) (by decide), by kernel_rfl⟩
  · exact ⟨nameP_asc _ (by decide) (by decide) (by decide), by kernel_rfl⟩
  · exact ⟨nameP_asc _ (by decide) (by decide) (by decide), by kernel_rfl⟩
  · exact ⟨nameP_asc _ (by decide) (by decide) (by decide), by kernel_rfl⟩
theorem v_load : verbP (mkB [108, 111, 97, 100]) = 1 := by kernel_rfl
theorem v_ask : verbP (mkB [97, 115, 107]) = 2 := by kernel_rfl
theorem v_show : verbP (mkB [115, 104, 111, 119]) = 3 := by kernel_rfl
theorem v_drop : verbP (mkB [100, 114, 111, 112]) = 4 := by kernel_rfl
/-- What reading a line gives back of an operation. -/
def Reads (x : S34) (T : List S53) (r : LRes) (p : Int) : Prop := lexS (opText x) = (T, 0, 0) ∧ T.length ≠ 0 ∧ lineP T (opText x).length = r ∧ r = (x.f0, x.f1, x.f2.f0, x.f2.f1, x.f3, 0, p, 0, 0)
theorem op_small {x : S34} (h : OpOk x) (h2 : x.f2.f1.length ≤ 4000) : (opText x).length < 1000000000000 := by
  have := opText_len h
  omega
theorem opOk_edges {x : S34} (h : OpOk x) : x.f2.f1.length ≤ 4000 := by
  rcases h.2 with ⟨_, hN, _⟩ | ⟨_, _, _, h2⟩ | ⟨_, _, h2⟩
  · exact hN.2.2.2.2
  · rw [h2]; exact Nat.zero_le _
  · rw [h2]; exact Nat.zero_le _
theorem reads_two (v : List UInt8) (hv : NameP (asc v)) (x : S34) (hx : OpOk x) (ht : opText x = v ++ [32] ++ x.f1.data.toList) (hvb : verbP (mkB v) = x.f0) (hk : x.f0 = 3 ∨ x.f0 = 4) (h3 : x.f3 = 0) (h2 : x.f2 = ⟨0, []⟩) :
    ∃ T r, Reads x T r ((v.length + 1 : Nat) : Int) := by
  have hsm := op_small hx (opOk_edges hx)
  obtain ⟨nps, hn, he⟩ := hx.1
  have eb : opText x = pbytes (asc v ++ (spP :: (nps ++ []))) := by
    rw [ht, he, pbytes_append, pbytes_cons, pbytes_append, pbytes_asc, pbytes_nil, List.append_nil, mkB_data, List.append_assoc]
  refine ⟨[(⟨1, 0, mkB v, 0⟩ : S53), ⟨1, ((v.length + 1 : Nat) : Int), mkB (pbytes nps), 0⟩], _, ?_, by simp, rfl, ?_⟩
  · rw [lexS_pcs (AllGood.append hv.1 (AllGood.cons good_sp (AllGood.append hn.1 (fun y hy => absurd hy (by simp))))) eb hsm, lexT_head v hv nps [] hn (stops_nil _), lexT_nil]
  · unfold lineP
    have t0 : takeP [(⟨1, 0, mkB v, 0⟩ : S53), ⟨1, ((v.length + 1 : Nat) : Int), mkB (pbytes nps), 0⟩] 1 0 = true := by simp [takeP, rd_T53]
    have t1 : takeP [(⟨1, 0, mkB v, 0⟩ : S53), ⟨1, ((v.length + 1 : Nat) : Int), mkB (pbytes nps), 0⟩] 1 1 = true := by simp [takeP, rd_T53]
    have k0 : (tokP [(⟨1, 0, mkB v, 0⟩ : S53), ⟨1, ((v.length + 1 : Nat) : Int), mkB (pbytes nps), 0⟩] 1 0).f2 = mkB v := by unfold tokP; rw [if_pos t0]; rfl
    have k1 : (tokP [(⟨1, 0, mkB v, 0⟩ : S53), ⟨1, ((v.length + 1 : Nat) : Int), mkB (pbytes nps), 0⟩] 1 1).f2 = mkB (pbytes nps) := by unfold tokP; rw [if_pos t1]; rfl
    rw [k0, k1, hvb, if_pos ⟨t0, by omega⟩, if_pos t1, if_neg (by omega), if_neg (by omega), h3, h2, ← he]
    unfold finR
    rw [if_neg (by simp)]
    rfl
theorem reads_ask (x : S34) (hx : OpOk x) (hk : x.f0 = 2) (h1 : 1 ≤ x.f3) (h4 : x.f3 ≤ 4) (h2 : x.f2 = ⟨0, []⟩) : ∃ T r, Reads x T r 4 := by
  have hsm := op_small hx (opOk_edges hx)
  obtain ⟨nps, hn, he⟩ := hx.1
  obtain ⟨wt, ct⟩ := w_title h1 h4
  have ht : opText x = [97, 115, 107, 32] ++ (x.f1.data.toList ++ ([32] ++ (titleP x.f3).data.toList)) := by unfold opText; rw [if_neg (by omega), if_pos hk]
  have eb : opText x = pbytes (asc [97, 115, 107] ++ (spP :: (nps ++ (spP :: (asc (titleP x.f3).data.toList ++ []))))) := by
    rw [ht, he, pbytes_append, pbytes_cons, pbytes_append, pbytes_cons, pbytes_append, pbytes_asc, pbytes_asc, pbytes_nil, List.append_nil, mkB_data]
    rfl
  obtain ⟨T, hT⟩ : ∃ T, T = [(⟨1, 0, mkB [97, 115, 107], 0⟩ : S53), ⟨1, 4, mkB (pbytes nps), 0⟩, ⟨1, ((([97, 115, 107] : List UInt8).length + 1 + (pbytes nps).length + 1 : Nat) : Int), titleP x.f3, 0⟩] := ⟨_, rfl⟩
  refine ⟨T, _, ?_, by rw [hT]; simp, rfl, ?_⟩
  · rw [lexS_pcs (AllGood.append w_ask.1 (AllGood.cons good_sp (AllGood.append hn.1 (AllGood.cons good_sp (AllGood.append wt.1 (fun y hy => absurd hy (by simp))))))) eb hsm, lexT_head _ w_ask nps _ hn (stops_cons isW_sp), lexT_sp, lexT_name _ _ [] _ wt (stops_nil _), lexT_nil, pbytes_asc, mkB_self, hT]
    rfl
  · have t0 : takeP T 1 0 = true := by rw [hT]; simp [takeP, rd_T53]
    have t1 : takeP T 1 1 = true := by rw [hT]; simp [takeP, rd_T53]
    have t2 : takeP T 1 2 = true := by rw [hT]; simp [takeP, rd_T53]
    have k0 : (tokP T 1 0).f2 = mkB [97, 115, 107] := by unfold tokP; rw [if_pos t0, hT]; rfl
    have k1 : (tokP T 1 1).f2 = mkB (pbytes nps) := by unfold tokP; rw [if_pos t1, hT]; rfl
    have k2 : (tokP T 1 2).f2 = titleP x.f3 := by unfold tokP; rw [if_pos t2, hT]; rfl
    unfold lineP
    rw [k0, k1, k2, ct, v_ask, if_pos ⟨t0, by decide⟩, if_pos t1, if_pos rfl, if_pos ⟨t2, by omega⟩]
    unfold finR
    rw [if_neg (by rw [hT]; simp), hk, h2, ← he, hT]
    rfl
theorem reads_load (x : S34) (hx : OpOk x) (hk : x.f0 = 1) (hN : Normed x.f2.f0 x.f2.f1) (h3 : x.f3 = 0) : ∃ T r, Reads x T r 5 := by
  have hsm := op_small hx (opOk_edges hx)
  obtain ⟨nps, hn, he⟩ := hx.1
  obtain ⟨d1, d2, d3⟩ := itoa_digits hN.1
  have hed : ∀ e ∈ x.f2.f1, 0 ≤ e.f0 ∧ e.f0 ≤ 99999999 ∧ 0 ≤ e.f1 ∧ e.f1 ≤ 99999999 := fun e h => by have := normed_edge hN h; omega
  have dl := itoa_len (k := 4) hN.1 (by have := hN.2.1; omega) (by decide)
  have ht : opText x = headText x ++ x.f2.f1.flatMap edgeText := by unfold opText; rw [if_pos hk]
  have eb : opText x = pbytes (asc [108, 111, 97, 100] ++ (spP :: (nps ++ (spP :: (asc (Lib.itoa x.f2.f0) ++ asc (x.f2.f1.flatMap edgeText)))))) := by
    rw [ht]
    unfold headText
    rw [he, pbytes_append, pbytes_cons, pbytes_append, pbytes_cons, pbytes_append, pbytes_asc, pbytes_asc, pbytes_asc, mkB_data, numB_data]
    simp
  have st : Stops isD (asc (x.f2.f1.flatMap edgeText)) := by
    cases x.f2.f1 with
    | nil => exact stops_nil _
    | cons f fs => exact stops_cons (x := spP) isD_sp
  obtain ⟨P, hP⟩ : ∃ P, P = ([108, 111, 97, 100] : List UInt8).length + 1 + (pbytes nps).length + 1 := ⟨_, rfl⟩
  obtain ⟨A, hA⟩ : ∃ A, A = [(⟨1, 0, mkB [108, 111, 97, 100], 0⟩ : S53), ⟨1, 5, mkB (pbytes nps), 0⟩, ⟨2, (P : Int), numB x.f2.f0, x.f2.f0⟩] := ⟨_, rfl⟩
  obtain ⟨T, hT⟩ : ∃ T, T = A ++ edgeToks (P + (Lib.itoa x.f2.f0).length) x.f2.f1 := ⟨_, rfl⟩
  have lA : A.length = 3 := by rw [hA]; rfl
  have lT : T.length = 3 + 3 * x.f2.f1.length := by rw [hT, List.length_append, lA, edgeToks_len]
  refine ⟨T, _, ?_, by omega, rfl, ?_⟩
  · rw [lexS_pcs (AllGood.append w_load.1 (AllGood.cons good_sp (AllGood.append hn.1 (AllGood.cons good_sp (AllGood.append (asc_good_dig hN.1) (edges_good hed)))))) eb hsm, lexT_head _ w_load nps _ hn (stops_cons isW_sp), lexT_sp, lexT_digits _ _ _ _ d1 d2 st (by omega), lexT_edges _ _ _ hed, d3, hT, hA, hP]
    rfl
  · have r0 : rd_T53 T ((0 : Nat) : Int) = (⟨1, 0, mkB [108, 111, 97, 100], 0⟩ : S53) := by rw [hT, hA]; rfl
    have r1 : rd_T53 T ((1 : Nat) : Int) = (⟨1, 5, mkB (pbytes nps), 0⟩ : S53) := by rw [hT, hA]; rfl
    have r2 : rd_T53 T ((2 : Nat) : Int) = (⟨2, (P : Int), numB x.f2.f0, x.f2.f0⟩ : S53) := by rw [hT, hA]; rfl
    have t0 : takeP T 1 0 = true := by unfold takeP; rw [r0, lT]; simp; omega
    have t1 : takeP T 1 1 = true := by unfold takeP; rw [r1, lT]; simp; omega
    have t2 : takeP T 2 2 = true := by unfold takeP; rw [r2, lT]; simp; omega
    have k0 : (tokP T 1 0).f2 = mkB [108, 111, 97, 100] := by unfold tokP; rw [if_pos t0, r0]
    have k1 : (tokP T 1 1).f2 = mkB (pbytes nps) := by unfold tokP; rw [if_pos t1, r1]
    have k2 : (tokP T 2 2).f3 = x.f2.f0 := by unfold tokP; rw [if_pos t2, r2]
    have hE : lineEdges T (opText x).length x.f2.f0 T.length 3 [] = (0, 0, x.f2.f1, 3 + 3 * x.f2.f1.length) := by
      have := lineEdges_toks (opText x).length x.f2.f0 x.f2.f1 A (P + (Lib.itoa x.f2.f0).length) T.length [] (by omega) (fun e h => by
        have := hN.2.2.2.1 e h
        unfold EdgeIn at this
        omega)
      rw [lA, ← hT, List.nil_append] at this
      exact this
    unfold lineP
    rw [k0, k1, v_load, if_pos ⟨t0, by decide⟩, if_pos t1, if_neg (by decide), if_pos rfl]
    unfold lineLoad
    rw [k2, if_pos t2, if_neg (by have := hN.2.1; omega), hE, normal_self hN]
    simp only [if_true]
    have h0 : hereP T ((opText x).length : Int) 0 = 0 := by unfold hereP; rw [if_pos (by omega), r0]
    have h1 : hereP T ((opText x).length : Int) 1 = 5 := by unfold hereP; rw [if_pos (by omega), r1]
    rw [h0, h1, hk, h3, ← he]
theorem reads_any (x : S34) (hx : OpOk x) : ∃ T r p, Reads x T r p := by
  rcases hx.2 with ⟨h0, hN, h3⟩ | ⟨h0, h1, h4, h2⟩ | ⟨h0, h3, h2⟩
  · obtain ⟨T, r, h⟩ := reads_load x hx h0 hN h3
    exact ⟨T, r, _, h⟩
  · obtain ⟨T, r, h⟩ := reads_ask x hx h0 h1 h4 h2
    exact ⟨T, r, _, h⟩
  · rcases h0 with h0 | h0
    · obtain ⟨T, r, h⟩ := reads_two _ w_show x hx (by unfold opText; rw [if_neg (by omega), if_neg (by omega), if_pos h0]; rfl) (by rw [v_show, h0]) (.inl h0) h3 h2
      exact ⟨T, r, _, h⟩
    · obtain ⟨T, r, h⟩ := reads_two _ w_drop x hx (by unfold opText; rw [if_neg (by omega), if_neg (by omega), if_neg (by omega), if_pos h0]; rfl) (by rw [v_drop, h0]) (.inr h0) h3 h2
      exact ⟨T, r, _, h⟩
/-- An operation without its places. -/
def bare (x : S34) : S34 := ⟨x.f0, x.f1, x.f2, x.f3, 0, 0⟩
theorem parse_text : ∀ (l : List S34) (fr : Nat) (acc : List S34), (∀ x ∈ l, OpOk x) → acc.length + l.length ≤ 1000 → ∃ m : List S34, parseT fr (textP l) acc = (acc ++ m, 0, 0) ∧ m.map bare = l.map bare
  | [], fr, acc, _, _ => ⟨[], by
    show parseT fr [] acc = _
    rw [parseT_nil, List.append_nil], rfl⟩
  | x :: l, fr, acc, h, hn => by
    have hx := h x (by simp)
    obtain ⟨T, r, p, h1, h2, h3, h4⟩ := reads_any x hx
    have e : textP (x :: l) = opText x ++ 10 :: textP l := by simp [textP]
    obtain ⟨e1, e2⟩ := line_text (op_no10 hx) (textP l)
    rw [List.length_cons] at hn
    obtain ⟨m, hm, hb⟩ := parse_text l (fr + (opText x).length + 1) (acc ++ [opAt fr r]) (fun y hy => h y (by simp [hy])) (by rw [List.length_append, List.length_singleton]; omega)
    refine ⟨opAt fr r :: m, ?_, ?_⟩
    · rw [e, parseT_op (r := r) (T := T) (by simp) (by rw [e1]; exact h1) h2 (by omega) (by rw [e1]; exact h3) (by rw [h4]; rfl), e1, e2, hm, List.append_assoc]
      rfl
    · rw [List.map_cons, List.map_cons, hb, h4]
      rfl
end Go.Proofs.YtmdmdbiinngneaaDoor.Q

import Derived.Test.YtmdmdbiinngneaaDoorU9
import Derived.Test.YtmdmdbiinngneaaDoorQ18
namespace Go.Proofs.YtmdmdbiinngneaaDoor.Q
open Go Go.RowKit Go.Proofs.YtmdmdbiinngneaaDoorW.PrintWords Go.Proofs.YtmdmdbiinngneaaDoorW.PrintLast Go.Proofs.YtmdmdbiinngneaaDoorW.PrintMore Go.Proofs.YtmdmdbiinngneaaDoor.Pieces
set_option linter.unusedVariables false
set_option linter.unusedSimpArgs false
/-! ### ScriptLoads -/
def badOf (n : Int) (p : Nat) : List S39 → Int
  | [] => -1
  | e :: es => if n ≤ e.f0 then ((p + 1 : Nat) : Int) else if n ≤ e.f1 then ((p + 1 + (Lib.itoa e.f0).length + 1 : Nat) : Int) else badOf n (p + (edgeText e).length) es
theorem badOf_snoc (n : Int) : ∀ (es : List S39) (p : Nat) (e : S39), badOf n p (es ++ [e]) = if 0 ≤ badOf n p es then badOf n p es else badOf n (p + (es.flatMap edgeText).length) [e]
  | [], p, e => by
    rw [show badOf n p [] = -1 from rfl, if_neg (by decide)]
    rfl
  | x :: es, p, e => by
    rw [List.cons_append]
    unfold badOf
    split
    · rw [if_pos (by omega)]
    · split
      · rw [if_pos (by omega)]
      · rw [badOf_snoc n es, List.flatMap_cons, List.length_append, Nat.add_assoc]
        rfl
theorem badOf_ge (n : Int) : ∀ (es : List S39) (p : Nat), badOf n p es = -1 ∨ 0 ≤ badOf n p es
  | [], p => .inl rfl
  | e :: es, p => by
    unfold badOf
    split
    · exact .inr (by omega)
    · split
      · exact .inr (by omega)
      · exact badOf_ge n es _
theorem badOf_none (n : Int) : ∀ (es : List S39) (p : Nat), badOf n p es < 0 → ∀ e ∈ es, e.f0 < n ∧ e.f1 < n
  | [], p, _, e, he => absurd he (by simp)
  | x :: es, p, h, e, he => by
    unfold badOf at h
    split at h
    · omega
    · split at h
      · omega
      · rcases List.mem_cons.1 he with rfl | he
        · omega
        · exact badOf_none n es _ h e he
theorem toks_at (a : List S53) (p : Nat) (e : S39) (es : List S39) :
    takeP (a ++ edgeToks p (e :: es)) 2 a.length = true ∧ takeP (a ++ edgeToks p (e :: es)) 3 (a.length + 1) = true ∧ takeP (a ++ edgeToks p (e :: es)) 2 (a.length + 2) = true ∧
    rd_T53 (a ++ edgeToks p (e :: es)) (a.length : Int) = (⟨2, ((p + 1 : Nat) : Int), numB e.f0, e.f0⟩ : S53) ∧
    rd_T53 (a ++ edgeToks p (e :: es)) ((a.length + 1 : Nat) : Int) = (⟨3, ((p + 1 + (Lib.itoa e.f0).length : Nat) : Int), ⟨#[45]⟩, 0⟩ : S53) ∧
    rd_T53 (a ++ edgeToks p (e :: es)) ((a.length + 2 : Nat) : Int) = (⟨2, ((p + 1 + (Lib.itoa e.f0).length + 1 : Nat) : Int), numB e.f1, e.f1⟩ : S53) :=
  ⟨(takeP_app a _ 2 0).trans (by simp [takeP, edgeToks, rd_T53]), (takeP_app a _ 3 1).trans (by simp [takeP, edgeToks, rd_T53]), (takeP_app a _ 2 2).trans (by simp [takeP, edgeToks, rd_T53]),
    (rd53_app a _ 0).trans (by simp [edgeToks, rd_T53]), (rd53_app a _ 1).trans (by simp [edgeToks, rd_T53]), (rd53_app a _ 2).trans (by simp [edgeToks, rd_T53])⟩
theorem lineEdges_bad (en nN : Int) : ∀ (es : List S39) (a : List S53) (p b : Nat) (acc : List S39), es.length < b → 0 ≤ badOf nN p es →
    (lineEdges (a ++ edgeToks p es) en nN b a.length acc).1 = badOf nN p es ∧ (lineEdges (a ++ edgeToks p es) en nN b a.length acc).2.1 = 4
  | [], a, p, b, acc, hb, h => absurd h (show ¬ (0 : Int) ≤ -1 by decide)
  | e :: es, a, p, b, acc, hb, h => by
    obtain ⟨b, rfl⟩ : ∃ q, b = q + 1 := ⟨b - 1, by omega⟩
    obtain ⟨t0, t1, t2, r0, r1, r2⟩ := toks_at a p e es
    unfold lineEdges
    rw [if_pos (by rw [List.length_append, edgeToks_len]; simp), if_pos t0, r0, r1, r2]
    unfold badOf at h ⊢
    by_cases c1 : nN ≤ e.f0
    · rw [if_pos c1, if_pos c1]
      exact ⟨rfl, rfl⟩
    · rw [if_neg c1] at h ⊢
      rw [if_neg c1, if_pos ⟨t1, by rw [ByteArray.toList_eq]⟩, if_pos t2]
      by_cases c2 : nN ≤ e.f1
      · rw [if_pos c2, if_pos c2]
        exact ⟨rfl, rfl⟩
      · rw [if_neg c2] at h ⊢
        rw [if_neg c2]
        have := lineEdges_bad en nN es (a ++ [(⟨2, ((p + 1 : Nat) : Int), numB e.f0, e.f0⟩ : S53), ⟨3, ((p + 1 + (Lib.itoa e.f0).length : Nat) : Int), ⟨#[45]⟩, 0⟩, ⟨2, ((p + 1 + (Lib.itoa e.f0).length + 1 : Nat) : Int), numB e.f1, e.f1⟩]) (p + (edgeText e).length) b (acc ++ [e]) (by simp at hb; omega) h
        have hlen : (a ++ [(⟨2, ((p + 1 : Nat) : Int), numB e.f0, e.f0⟩ : S53), ⟨3, ((p + 1 + (Lib.itoa e.f0).length : Nat) : Int), ⟨#[45]⟩, 0⟩, ⟨2, ((p + 1 + (Lib.itoa e.f0).length + 1 : Nat) : Int), numB e.f1, e.f1⟩]).length = a.length + 3 := by simp
        rw [hlen] at this
        have happ : a ++ edgeToks p (e :: es) = (a ++ [(⟨2, ((p + 1 : Nat) : Int), numB e.f0, e.f0⟩ : S53), ⟨3, ((p + 1 + (Lib.itoa e.f0).length : Nat) : Int), ⟨#[45]⟩, 0⟩, ⟨2, ((p + 1 + (Lib.itoa e.f0).length + 1 : Nat) : Int), numB e.f1, e.f1⟩]) ++ edgeToks (p + (edgeText e).length) es := by
          rw [List.append_assoc]
          rfl
        rw [happ]
        have es39 : (⟨e.f0, e.f1⟩ : S39) = e := rfl
        simp only [es39]
        exact this
theorem normal_in {n : Int} {es : List S39} (h0 : 0 ≤ n) (h1 : n ≤ 1000) (he : ∀ e ∈ es, 0 ≤ e.f0 ∧ e.f0 < n ∧ 0 ≤ e.f1 ∧ e.f1 < n) (hl : es.length ≤ 4000) : (graphNormal n es).2.2 = 0 := by
  have key : ∀ (l acc : List S39), (∀ e ∈ l, 0 ≤ e.f0 ∧ e.f0 < n ∧ 0 ≤ e.f1 ∧ e.f1 < n) → ∃ all, normGo n l acc = some all ∧ all.length ≤ acc.length + l.length := by
    intro l
    induction l with
    | nil => exact fun acc _ => ⟨acc, rfl, by simp⟩
    | cons x r ih =>
      intro acc h
      have hx := h x (by simp)
      unfold normGo
      rw [if_neg (by unfold mnE mxE; repeat' split; all_goals omega)]
      obtain ⟨all, h2, h3⟩ := ih (if x.f0 = x.f1 then acc else acc ++ [edgeOf x]) (fun e he => h e (by simp [he]))
      refine ⟨all, h2, ?_⟩
      rw [List.length_cons]
      split at h3
      · omega
      · rw [List.length_append, List.length_singleton] at h3
        omega
  obtain ⟨all, h2, h3⟩ := key es [] he
  unfold graphNormal
  rw [if_neg (by omega), if_neg (by omega), h2]
  have := (compactE_sub (sortE all)).length_le
  rw [sortE_len] at this
  simp only [List.length_nil] at h3
  simp only
  rw [if_neg (by omega)]
/-- The text that the law writes. -/
def loadB (n : Int) (es : List S39) : List UInt8 := [108, 111, 97, 100, 32, 120, 32] ++ Lib.itoa n ++ es.flatMap edgeText
theorem loads_parse (n : Int) (es : List S39) (h0 : 0 ≤ n) (h1 : n ≤ 1100) (he : ∀ e ∈ es, 0 ≤ e.f0 ∧ e.f0 ≤ 1100 ∧ 0 ≤ e.f1 ∧ e.f1 ≤ 1100) (hl : es.length ≤ 40) :
    (1000 < n → parseT 0 (loadB n es) [] = ([], 7, 5)) ∧
    (n ≤ 1000 → 0 ≤ badOf n (7 + (Lib.itoa n).length) es → parseT 0 (loadB n es) [] = ([], badOf n (7 + (Lib.itoa n).length) es, 4)) ∧
    (n ≤ 1000 → badOf n (7 + (Lib.itoa n).length) es < 0 → ∃ a b : Int, parseT 0 (loadB n es) [] = ([(⟨1, ⟨#[120]⟩, ⟨(graphNormal n es).1, (graphNormal n es).2.1⟩, 0, a, b⟩ : S34)], 0, 0)) := by
  obtain ⟨d1, d2, d3⟩ := itoa_digits h0
  have dl := itoa_len (k := 4) h0 (by omega) (by decide)
  have hed : ∀ e ∈ es, 0 ≤ e.f0 ∧ e.f0 ≤ 99999999 ∧ 0 ≤ e.f1 ∧ e.f1 ≤ 99999999 := fun e h => by have := he e h; omega
  have w_x : NameP (asc [120]) := nameP_asc _ (by decide) (by decide) (by decide)
  have hlen : (loadB n es).length ≤ 1000 := by
    have : ∀ l : List S39, (∀ e ∈ l, 0 ≤ e.f0 ∧ e.f0 ≤ 1100 ∧ 0 ≤ e.f1 ∧ e.f1 ≤ 1100) → (l.flatMap edgeText).length ≤ 10 * l.length := by
      intro l
      induction l with
      | nil => exact fun _ => Nat.le_refl _
      | cons x r ih =>
        intro h
        have hx := h x (by simp)
        have h1 := itoa_len (k := 4) hx.1 (by omega) (by decide)
        have h2 := itoa_len (k := 4) hx.2.2.1 (by omega) (by decide)
        have := ih fun e he => h e (by simp [he])
        rw [List.flatMap_cons, List.length_append, List.length_cons]
        unfold edgeText at this ⊢
        simp only [List.length_append, numB_data, List.length_singleton] at this ⊢
        omega
    have := this es he
    unfold loadB
    simp only [List.length_append, List.length_cons, List.length_nil]
    omega
  have eb : loadB n es = pbytes (asc [108, 111, 97, 100] ++ (spP :: (asc [120] ++ (spP :: (asc (Lib.itoa n) ++ asc (es.flatMap edgeText)))))) := by
    unfold loadB
    rw [pbytes_append, pbytes_cons, pbytes_append, pbytes_cons, pbytes_append, pbytes_asc, pbytes_asc, pbytes_asc, pbytes_asc]
    simp
  have st : Stops isD (asc (es.flatMap edgeText)) := by
    cases es with
    | nil => exact stops_nil _
    | cons f fs => exact stops_cons (x := spP) isD_sp
  obtain ⟨A, hA⟩ : ∃ A, A = [(⟨1, 0, mkB [108, 111, 97, 100], 0⟩ : S53), ⟨1, 5, mkB [120], 0⟩, ⟨2, 7, numB n, n⟩] := ⟨_, rfl⟩
  obtain ⟨T, hT⟩ : ∃ T, T = A ++ edgeToks (7 + (Lib.itoa n).length) es := ⟨_, rfl⟩
  have lA : A.length = 3 := by rw [hA]; rfl
  have lT : T.length = 3 + 3 * es.length := by rw [hT, List.length_append, lA, edgeToks_len]
  have hlex : lexS (loadB n es) = (T, 0, 0) := by
    rw [lexS_pcs (AllGood.append w_load.1 (AllGood.cons good_sp (AllGood.append w_x.1 (AllGood.cons good_sp (AllGood.append (asc_good_dig h0) (edges_good hed)))))) eb (by omega), lexT_head _ w_load (asc [120]) _ w_x (stops_cons isW_sp), lexT_sp, lexT_digits _ _ _ _ d1 d2 st (by omega), lexT_edges _ _ _ hed, d3, hT, hA]
    rfl
  have hno : ∀ b ∈ loadB n es, (b != 10) = true := by
    unfold loadB
    refine List.forall_mem_append.2 ⟨List.forall_mem_append.2 ⟨by decide, itoa_no10 h0⟩, ?_⟩
    intro b hb
    obtain ⟨e, hee, hb2⟩ := List.mem_flatMap.1 hb
    have hr := he e hee
    clear hb
    revert b
    unfold edgeText
    exact List.forall_mem_append.2 ⟨by decide, List.forall_mem_append.2 ⟨itoa_no10 hr.1, List.forall_mem_append.2 ⟨by decide, itoa_no10 hr.2.2.1⟩⟩⟩
  have hline : lineB (loadB n es) = loadB n es ∧ restB (loadB n es) = [] := by
    constructor
    · have := List.takeWhile_append_of_pos (l₂ := []) hno
      rw [List.append_nil, List.takeWhile_nil, List.append_nil] at this
      exact this
    · have := List.dropWhile_append_of_pos (l₂ := []) hno
      rw [List.append_nil, List.dropWhile_nil] at this
      unfold restB
      rw [this]
      rfl
  have hne : loadB n es ≠ [] := by unfold loadB; simp
  have r0 : rd_T53 T ((0 : Nat) : Int) = (⟨1, 0, mkB [108, 111, 97, 100], 0⟩ : S53) := by rw [hT, hA]; rfl
  have r1 : rd_T53 T ((1 : Nat) : Int) = (⟨1, 5, mkB [120], 0⟩ : S53) := by rw [hT, hA]; rfl
  have r2 : rd_T53 T ((2 : Nat) : Int) = (⟨2, 7, numB n, n⟩ : S53) := by rw [hT, hA]; rfl
  have t0 : takeP T 1 0 = true := by unfold takeP; rw [r0, lT]; simp; omega
  have t1 : takeP T 1 1 = true := by unfold takeP; rw [r1, lT]; simp; omega
  have t2 : takeP T 2 2 = true := by unfold takeP; rw [r2, lT]; simp; omega
  have k0 : (tokP T 1 0).f2 = mkB [108, 111, 97, 100] := by unfold tokP; rw [if_pos t0, r0]
  have k1 : (tokP T 1 1).f2 = mkB [120] := by unfold tokP; rw [if_pos t1, r1]
  have k2 : tokP T 2 2 = ⟨2, 7, numB n, n⟩ := by unfold tokP; rw [if_pos t2, r2]
  have h0' : hereP T ((loadB n es).length : Int) 0 = 0 := by unfold hereP; rw [if_pos (by omega), r0]
  have h1' : hereP T ((loadB n es).length : Int) 1 = 5 := by unfold hereP; rw [if_pos (by omega), r1]
  have hline2 : lineP T ((loadB n es).length : Int) = lineLoad T ((loadB n es).length : Int) (mkB [120]) 0 5 := by
    unfold lineP
    rw [k0, k1, v_load, if_pos ⟨t0, by decide⟩, if_pos t1, if_neg (by decide), if_pos rfl, h0', h1']
  have hstep := parseT_step 0 (loadB n es) [] hne
  rw [hline.1, hline.2, hlex] at hstep
  simp only [if_true] at hstep
  rw [if_neg (by omega), if_neg (by simp), hline2] at hstep
  unfold lineLoad at hstep
  rw [k2, if_pos t2] at hstep
  simp only at hstep
  refine ⟨fun c => ?_, fun c hb => ?_, fun c hb => ?_⟩
  · rw [if_pos c] at hstep
    rw [hstep]
    rfl
  · rw [if_neg (show ¬ n > 1000 by omega)] at hstep
    have := lineEdges_bad ((loadB n es).length : Int) n es A (7 + (Lib.itoa n).length) T.length [] (by omega) hb
    rw [lA, ← hT] at this
    rw [this.1, this.2, if_neg (show ¬ (4 : Int) = 0 by decide)] at hstep
    rw [hstep]
    show ([], ((0 : Nat) : Int) + badOf n (7 + (Lib.itoa n).length) es, (4 : Int)) = _
    rw [show ((0 : Nat) : Int) + badOf n (7 + (Lib.itoa n).length) es = badOf n (7 + (Lib.itoa n).length) es by omega]
  · rw [if_neg (show ¬ n > 1000 by omega)] at hstep
    have hin := badOf_none n es _ hb
    have hE := lineEdges_toks ((loadB n es).length : Int) n es A (7 + (Lib.itoa n).length) T.length [] (by omega) hin
    rw [lA, ← hT, List.nil_append] at hE
    have hok := normal_in h0 c (es := es) (fun e h => by have := he e h; have := hin e h; omega) (by omega)
    rw [hE] at hstep
    simp only [if_true, hok, if_pos] at hstep
    refine ⟨0 + ((0 : Nat) : Int), 5 + ((0 : Nat) : Int), ?_⟩
    rw [hstep]
    unfold errOf
    rw [if_pos rfl, parseT_nil]
    rfl
/-- The edges that the law takes of its argument. -/
def cutE (l : List S39) : List S39 := (l.take 40).map fun e => (⟨Int.tmod (Go.bits .and .i64 e.f0 65535) 1101, Int.tmod (Go.bits .and .i64 e.f1 65535) 1101⟩ : S39)
theorem cutE_len (l : List S39) : (cutE l).length = min 40 l.length := by
  unfold cutE
  rw [List.length_map, List.length_take]
theorem cutE_get (l : List S39) (i : Nat) (h : i < (cutE l).length) (h2 : i < l.length) : (cutE l)[i]'h = (⟨Int.tmod (Go.bits .and .i64 (l[i]'h2).f0 65535) 1101, Int.tmod (Go.bits .and .i64 (l[i]'h2).f1 65535) 1101⟩ : S39) := by
  simp [cutE]
theorem cutE_in (l : List S39) : ∀ e ∈ cutE l, 0 ≤ e.f0 ∧ e.f0 ≤ 1100 ∧ 0 ≤ e.f1 ∧ e.f1 ≤ 1100 := by
  intro e he
  obtain ⟨x, _, rfl⟩ := List.mem_map.1 he
  have h0 := tmod_small x.f0 1101 (by decide)
  have h1 := tmod_small x.f1 1101 (by decide)
  exact ⟨h0.1, by simp only; omega, h1.1, by simp only; omega⟩
theorem edgeText_len10 {e : S39} (h : 0 ≤ e.f0 ∧ e.f0 ≤ 1100 ∧ 0 ≤ e.f1 ∧ e.f1 ≤ 1100) : (edgeText e).length ≤ 10 ∧ (edgeText e).length = 1 + (Lib.itoa e.f0).length + 1 + (Lib.itoa e.f1).length := by
  have h1 := itoa_len (k := 4) h.1 (by omega) (by decide)
  have h2 := itoa_len (k := 4) h.2.2.1 (by omega) (by decide)
  unfold edgeText
  simp only [List.length_append, numB_data, List.length_singleton]
  omega
theorem loads_end (n : Int) (es : List S39) (l1 : List S39) (h0 : 0 ≤ n) (h1 : n ≤ 1100) (he : ∀ e ∈ es, 0 ≤ e.f0 ∧ e.f0 ≤ 1100 ∧ 0 ≤ e.f1 ∧ e.f1 ≤ 1100) (hl : es.length ≤ 40) (k : Nat) (hk : 10000 < k) (i : Int) (hsz : (loadB n es).length ≤ 1000) :
    carcanetlaw25_ScriptLoads.j1 k n l1 true (mkB (loadB n es)) (badOf n (7 + (Lib.itoa n).length) es) es i false = some true := by
  obtain ⟨k, rfl⟩ : ∃ q, k = q + 1 := ⟨k - 1, by omega⟩
  obtain ⟨p1, p2, p3⟩ := loads_parse n es h0 h1 he hl
  simp only [carcanetlaw25_ScriptLoads.j1]
  rw [if_neg (by simp), parse_eq (mkB (loadB n es)) (by rw [mkB_size]; omega) k (by rw [mkB_size]; omega), mkB_data]
  simp only [Option.bind_some]
  by_cases c : n > 1000
  · rw [p1 c, if_pos c]
    simp
  · rw [if_neg c]
    rcases badOf_ge n es (7 + (Lib.itoa n).length) with hb | hb
    · obtain ⟨a, b, hp⟩ := p3 (by omega) (by omega)
      have hin := badOf_none n es _ (show badOf n (7 + (Lib.itoa n).length) es < 0 by omega)
      have hok := normal_in h0 (by omega) (es := es) (fun e h => by have := he e h; have := hin e h; omega) (by omega)
      rw [hp, if_neg (by omega)]
      unfold graph_Normal.f
      rw [if_pos (by omega)]
      simp only [Option.bind_some, if_true, hok]
      rw [if_pos (by simp), if_pos (by simp)]
      have hr : rd_T34 [(⟨1, ⟨#[120]⟩, ⟨(graphNormal n es).1, (graphNormal n es).2.1⟩, 0, a, b⟩ : S34)] 0 = (⟨1, ⟨#[120]⟩, ⟨(graphNormal n es).1, (graphNormal n es).2.1⟩, 0, a, b⟩ : S34) := rfl
      rw [hr]
      have hn := normal_len n es
      simp only
      rw [if_pos (by rw [ByteArray.toList_eq]), sameGraph_self k _ _ (by omega) (by omega)]
      rfl
    · rw [p2 (by omega) hb, if_pos hb]
      simp
theorem loads_l0 (n : Int) (l1 : List S39) (h0 : 0 ≤ n) (h1 : n ≤ 1100) (hll : l1.length ≤ 1000000000000000) : ∀ (d i k : Nat), i + d = (cutE l1).length → 4 * d + 20000 < k →
    carcanetlaw25_ScriptLoads.l0 k n l1 true (mkB (loadB n ((cutE l1).take i))) (badOf n (7 + (Lib.itoa n).length) ((cutE l1).take i)) ((cutE l1).take i) (i : Int) = some true
  | 0, i, k, h, hk => by
    obtain ⟨k, rfl⟩ : ∃ q, k = q + 1 := ⟨k - 1, by omega⟩
    have hc := cutE_len l1
    have hin := cutE_in l1
    have fin := fun i' => loads_end n (cutE l1) l1 h0 h1 hin (by omega) k (by omega) i' (by
      have dl := itoa_len (k := 4) h0 (by omega) (by decide)
      have : ∀ l : List S39, (∀ e ∈ l, 0 ≤ e.f0 ∧ e.f0 ≤ 1100 ∧ 0 ≤ e.f1 ∧ e.f1 ≤ 1100) → (l.flatMap edgeText).length ≤ 10 * l.length := by
        intro l
        induction l with
        | nil => exact fun _ => Nat.le_refl _
        | cons x r ih =>
          intro h
          have := ih fun e he => h e (by simp [he])
          have := (edgeText_len10 (h x (by simp))).1
          rw [List.flatMap_cons, List.length_append, List.length_cons]
          omega
      have := this (cutE l1) hin
      unfold loadB
      simp only [List.length_append, List.length_cons, List.length_nil]
      omega)
    rw [List.take_of_length_le (by omega)]
    simp only [carcanetlaw25_ScriptLoads.l0]
    by_cases c : (i : Int) < (l1.length : Int)
    · rw [if_pos c, show decide ((i : Int) < 40) = false from decide_eq_false (by omega)]
      exact fin i
    · rw [if_neg c]
      exact fin i
  | d + 1, i, k, h, hk => by
    obtain ⟨k, rfl⟩ : ∃ q, k = q + 4 := ⟨k - 4, by omega⟩
    have hc := cutE_len l1
    have hi : i < (cutE l1).length := by omega
    have hil : i < l1.length := by omega
    have hx := cutE_in l1 _ (List.getElem_mem hi)
    have hg := cutE_get l1 i hi hil
    obtain ⟨e10, el⟩ := edgeText_len10 hx
    have hpre : (loadB n ((cutE l1).take i)).length ≤ 1000 := by
      have dl := itoa_len (k := 4) h0 (by omega) (by decide)
      have : ∀ l : List S39, (∀ e ∈ l, 0 ≤ e.f0 ∧ e.f0 ≤ 1100 ∧ 0 ≤ e.f1 ∧ e.f1 ≤ 1100) → (l.flatMap edgeText).length ≤ 10 * l.length := by
        intro l
        induction l with
        | nil => exact fun _ => Nat.le_refl _
        | cons x r ih =>
          intro h
          have := ih fun e he => h e (by simp [he])
          have := (edgeText_len10 (h x (by simp))).1
          rw [List.flatMap_cons, List.length_append, List.length_cons]
          omega
      have := this ((cutE l1).take i) fun e he => cutE_in l1 e (List.mem_of_mem_take he)
      rw [List.length_take] at this
      unfold loadB
      simp only [List.length_append, List.length_cons, List.length_nil]
      omega
    have htk : (cutE l1).take (i + 1) = (cutE l1).take i ++ [(cutE l1)[i]'hi] := List.take_succ_eq_append_getElem hi
    have hload : loadB n ((cutE l1).take (i + 1)) = loadB n ((cutE l1).take i) ++ edgeText ((cutE l1)[i]'hi) := by
      rw [htk]
      unfold loadB
      rw [List.flatMap_append]
      simp
    have hbad := badOf_snoc n ((cutE l1).take i) (7 + (Lib.itoa n).length) ((cutE l1)[i]'hi)
    have hpos : 7 + (Lib.itoa n).length + (((cutE l1).take i).flatMap edgeText).length = (loadB n ((cutE l1).take i)).length := by
      unfold loadB
      simp only [List.length_append, List.length_cons, List.length_nil]
    rw [← htk, hpos] at hbad
    have ih := loads_l0 n l1 h0 h1 hll d (i + 1) k (by omega) (by omega)
    rw [hload, hbad, htk] at ih
    have hge := badOf_ge n ((cutE l1).take i) (7 + (Lib.itoa n).length)
    generalize (cutE l1)[i]'hi = e at *
    generalize hB : badOf n (7 + (Lib.itoa n).length) ((cutE l1).take i) = B at *
    generalize hS : loadB n ((cutE l1).take i) = S at *
    have hal : ((cutE l1).take i).length < 8796093022208 := by rw [List.length_take]; omega
    generalize hA : (cutE l1).take i = All at *
    simp only [carcanetlaw25_ScriptLoads.l0]
    rw [if_pos (by omega), show decide ((i : Int) < 40) = true from decide_eq_true (by omega)]
    simp only [carcanetlaw25_ScriptLoads.j1]
    have e0 : Int.tmod (Go.bits .and .i64 (l1[i]'hil).f0 65535) 1101 = e.f0 := by rw [hg]
    have e1 : Int.tmod (Go.bits .and .i64 (l1[i]'hil).f1 65535) 1101 = e.f1 := by rw [hg]
    rw [if_pos trivial, if_pos (by omega), if_pos (by omega), if_pos (by rw [mkB_size]; omega), rd39_mem l1 i hil, e0, e1, c32, mkB_app]
    have st : S ++ edgeText e = S ++ [32] ++ Lib.itoa e.f0 ++ [45] ++ Lib.itoa e.f1 := by
      unfold edgeText
      rw [numB_data, numB_data]
      simp
    rw [st] at ih
    have hE : ∀ B', B' = (if 0 ≤ B then B else badOf n S.length [e]) → carcanetlaw25_ScriptLoads.l0 k n l1 true (mkB (S ++ [32] ++ Lib.itoa e.f0 ++ [45] ++ Lib.itoa e.f1)) B' (All ++ [(⟨e.f0, e.f1⟩ : S39)]) (wrap64 ((i : Int) + 1)) = some true := by
      intro B' hB'
      rw [hB', w64 (by omega) (by omega), show (i : Int) + 1 = ((i + 1 : Nat) : Int) by omega]
      exact ih
    have step3 : ∀ B', 3 + 1 ≤ 4 → (0 ≤ B' → B' = (if 0 ≤ B then B else badOf n S.length [e])) → (B' < 0 → (if n ≤ e.f1 then (((S ++ [32] ++ Lib.itoa e.f0 ++ [45]).length : Nat) : Int) else B') = (if 0 ≤ B then B else badOf n S.length [e])) →
        carcanetlaw25_ScriptLoads.j3 (k + 1) n l1 true (mkB (S ++ [32])) B' All (i : Int) e.f0 e.f1 = some true := by
      intro B' _ hB1 hB2
      simp only [carcanetlaw25_ScriptLoads.j3]
      rw [number_eq _ k hx.1 (by omega) (by omega), number_eq _ k hx.2.2.1 (by omega) (by omega)]
      simp only [Option.bind_some]
      have z1 : (mkB (S ++ [32])).size + (mkB (Lib.itoa e.f0)).size ≤ 9223372036854775807 := by rw [mkB_size, mkB_size, List.length_append, List.length_singleton]; omega
      have z2 : (mkB (S ++ [32] ++ Lib.itoa e.f0)).size + 1 ≤ 9223372036854775807 := by rw [mkB_size]; simp only [List.length_append, List.length_singleton]; omega
      have z3 : (mkB (S ++ [32] ++ Lib.itoa e.f0 ++ [45])).size + (mkB (Lib.itoa e.f1)).size ≤ 9223372036854775807 := by rw [mkB_size, mkB_size]; simp only [List.length_append, List.length_singleton]; omega
      simp only [c45, mkB_app, if_pos z1, if_pos z2, if_pos z3, if_pos hal]
      by_cases c1 : e.f1 ≥ n
      · rw [if_pos c1]
        by_cases c2 : B' < 0
        · rw [if_pos c2]
          have := hB2 c2
          rw [if_pos c1] at this
          rw [mkB_size]
          exact hE _ this
        · rw [if_neg c2]
          exact hE _ (hB1 (by omega))
      · rw [if_neg c1]
        by_cases c2 : B' < 0
        · have := hB2 c2
          rw [if_neg c1] at this
          exact hE _ this
        · exact hE _ (hB1 (by omega))
    have bnd : badOf n S.length [e] = if n ≤ e.f0 then ((S.length + 1 : Nat) : Int) else if n ≤ e.f1 then ((S.length + 1 + (Lib.itoa e.f0).length + 1 : Nat) : Int) else -1 := rfl
    have hl2 : ((S ++ [32] ++ Lib.itoa e.f0 ++ [45]).length) = S.length + 1 + (Lib.itoa e.f0).length + 1 := by simp only [List.length_append, List.length_singleton]
    have hl1 : (S ++ [32]).length = S.length + 1 := by simp
    rw [bnd, hl2] at step3
    by_cases c0 : e.f0 ≥ n
    · rw [if_pos c0]
      simp only [carcanetlaw25_ScriptLoads.j2]
      by_cases cb : B < 0
      · rw [show decide (B < 0) = true from decide_eq_true cb, if_pos rfl]
        refine step3 _ (by decide) (fun _ => ?_) (fun h => absurd h (by omega))
        rw [mkB_size, hl1, if_neg (by omega), if_pos c0]
      · rw [show decide (B < 0) = false from decide_eq_false cb, if_neg (by simp)]
        exact step3 _ (by decide) (fun _ => by rw [if_pos (by omega)]) (fun h => absurd h cb)
    · rw [if_neg c0]
      simp only [carcanetlaw25_ScriptLoads.j2]
      rw [if_neg (by simp)]
      refine step3 _ (by decide) (fun h => by rw [if_pos h]) (fun h => ?_)
      rw [if_neg (show ¬ 0 ≤ B by omega), if_neg (show ¬ n ≤ e.f0 by omega)]
      split
      · rfl
      · rcases hge with h | h <;> omega
theorem loads_true (a0 : Int) (l1 : List S39) (hl : l1.length ≤ 1000000000000000) : ∃ k, carcanetlaw25_ScriptLoads.f k a0 l1 = some true := by
  obtain ⟨h0, h1⟩ := tmod_small a0 1101 (by decide)
  unfold carcanetlaw25_ScriptLoads.f carcanetlaw25_shown.f
  generalize Int.tmod (Go.bits .and .i64 a0 65535) 1101 = n at *
  obtain ⟨K, hK⟩ : ∃ K : Nat, 100000 < K := ⟨100001, by decide⟩
  refine ⟨K, ?_⟩
  have dl := itoa_len (k := 4) h0 (by omega) (by decide)
  rw [number_eq n K h0 (by omega) (by omega)]
  simp only [Option.bind_some]
  rw [if_pos (by rw [mkB_size]; omega), show (⟨#[108, 111, 97, 100, 32, 120, 32]⟩ : ByteArray) = mkB [108, 111, 97, 100, 32, 120, 32] from rfl, mkB_app]
  have hc := cutE_len l1
  have := loads_l0 n l1 h0 (by omega) hl (cutE l1).length 0 K (by omega) (by omega)
  rw [List.take_zero] at this
  have e : loadB n [] = [108, 111, 97, 100, 32, 120, 32] ++ Lib.itoa n := by unfold loadB; simp
  rw [e] at this
  exact this
end Go.Proofs.YtmdmdbiinngneaaDoor.Q

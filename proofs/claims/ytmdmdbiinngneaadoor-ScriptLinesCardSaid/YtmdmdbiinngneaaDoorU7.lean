import Derived.Test.YtmdmdbiinngneaaDoorU6
import Derived.Test.YtmdmdbiinngneaaDoorQ19
namespace Go.Proofs.YtmdmdbiinngneaaDoor.Q
open Go Go.RowKit Go.Proofs.YtmdmdbiinngneaaDoorW.PrintWords Go.Proofs.YtmdmdbiinngneaaDoorW.PrintLast Go.Proofs.YtmdmdbiinngneaaDoorW.PrintMore Go.Proofs.YtmdmdbiinngneaaDoor.Pieces
set_option linter.unusedVariables false
set_option linter.unusedSimpArgs false
/-! ### ScriptLines -/
theorem lineB_app (s t : List UInt8) (h : restB s = [] ∧ lineB s = s) : lineB (s ++ 10 :: t) = s ∧ restB (s ++ 10 :: t) = t := by
  have h1 : ∀ b ∈ s, (b != 10) = true := by
    have := h.2
    unfold lineB at this
    rw [← this]
    intro b hb
    exact (mem_takeWhile hb).1
  constructor
  · unfold lineB
    rw [List.takeWhile_append_of_pos h1]
    simp
  · unfold restB
    rw [List.dropWhile_append_of_pos h1]
    rfl
theorem line_app : ∀ (s t : List UInt8), (lineB s = s ∧ lineB (s ++ 10 :: t) = s ∧ restB (s ++ 10 :: t) = t ∧ restB s = []) ∨ (lineB (s ++ 10 :: t) = lineB s ∧ restB (s ++ 10 :: t) = restB s ++ 10 :: t ∧ (restB s).length + (lineB s).length + 1 = s.length)
  | [], t => .inl ⟨rfl, by simp [lineB], by simp [restB], rfl⟩
  | b :: s, t => by
    by_cases hb : b = 10
    · subst hb
      exact .inr ⟨by simp [lineB], by simp [restB], by simp [lineB, restB]⟩
    · have h1 : (b != 10) = true := by simpa using hb
      have e1 : ∀ l, lineB (b :: l) = b :: lineB l := fun l => by simp [lineB, List.takeWhile_cons, h1]
      have e2 : ∀ l, restB (b :: l) = restB l := fun l => by simp [restB, List.dropWhile_cons, h1]
      rw [List.cons_append, e1, e2, e1, e2]
      rcases line_app s t with ⟨a1, a2, a3, a4⟩ | ⟨a1, a2, a3⟩
      · exact .inl ⟨by rw [a1], by rw [a2], a3, a4⟩
      · exact .inr ⟨by rw [a1], a2, by simp; omega⟩
theorem parse_app : ∀ (n : Nat) (s t : List UInt8), s.length ≤ n → ∀ (fr : Nat) (acc : List S34),
    parseT fr (s ++ 10 :: t) acc = if (parseT fr s acc).2.2 = 0 then parseT (fr + s.length + 1) t (parseT fr s acc).1 else parseT fr s acc
  | n, [], t, _, fr, acc => by
    rw [parseT_nil, if_pos rfl]
    have e1 : lineB ([] ++ 10 :: t) = [] := by simp [lineB]
    have e2 : restB ([] ++ 10 :: t) = t := by simp [restB]
    rw [parseT_blank (by simp) (by rw [e1]; exact lex_none), e1, e2]
  | 0, c :: r, t, hn, _, _ => absurd hn (by simp)
  | n + 1, c :: r, t, hn, fr, acc => by
    have hrest := restB_lt c r
    generalize hl : c :: r = s at *
    have hne : s ≠ [] := by rw [← hl]; simp
    have both : ∀ acc', parseT (fr + (lineB (s ++ 10 :: t)).length + 1) (restB (s ++ 10 :: t)) acc' = if (parseT (fr + (lineB s).length + 1) (restB s) acc').2.2 = 0 then parseT (fr + s.length + 1) t (parseT (fr + (lineB s).length + 1) (restB s) acc').1 else parseT (fr + (lineB s).length + 1) (restB s) acc' := fun acc' => by
      rcases line_app s t with ⟨a1, a2, a3, a4⟩ | ⟨a1, a2, a3⟩
      · rw [a2, a3, a4, parseT_nil, if_pos rfl]
      · rw [a1, a2, parse_app n (restB s) t (by omega)]
        congr 2
        omega
    have el : lineB (s ++ 10 :: t) = lineB s := by
      rcases line_app s t with ⟨a1, a2, _, _⟩ | ⟨a1, _, _⟩
      · rw [a2, a1]
      · exact a1
    rw [parseT_step fr (s ++ 10 :: t) acc (by simp), parseT_step fr s acc hne]
    have both' := both
    rw [el] at both' ⊢
    by_cases c1 : (lexS (lineB s)).2.2 = 0
    · simp only [if_pos c1]
      by_cases c2 : (lexS (lineB s)).1.length = 0
      · simp only [if_pos c2]
        exact both' acc
      · simp only [if_neg c2]
        by_cases c3 : acc.length = 1000
        · simp only [if_pos c3]
          rw [if_neg (by decide)]
        · simp only [if_neg c3]
          by_cases c4 : errOf (lineP (lexS (lineB s)).1 (lineB s).length) = 0
          · simp only [if_pos c4]
            exact both' _
          · simp only [if_neg c4]
    · simp only [if_neg c1]
def shiftOp (d : Nat) (x : S34) : S34 := ⟨x.f0, x.f1, x.f2, x.f3, x.f4 + d, x.f5 + d⟩
theorem opAt_shift (fr d : Nat) (r : LRes) : opAt ((fr + d : Nat) : Int) r = shiftOp d (opAt fr r) := by
  unfold opAt shiftOp
  simp only [S34.mk.injEq, true_and]
  omega
theorem parse_shift (d : Nat) (acc : List S34) : ∀ (n : Nat) (t : List UInt8), t.length ≤ n → t.length ≤ 1048576 → ∀ (fr : Nat) (b : List S34), 2 * (acc.length + b.length) + t.length ≤ 1998 →
    parseT (fr + d) t (acc ++ b.map (shiftOp d)) = (acc ++ (parseT fr t b).1.map (shiftOp d), if (parseT fr t b).2.2 = 0 then (parseT fr t b).2.1 else (parseT fr t b).2.1 + d, (parseT fr t b).2.2)
  | n, [], _, _, fr, b, _ => by
    rw [parseT_nil, parseT_nil, if_pos rfl]
  | 0, c :: r, hn, _, _, _, _ => absurd hn (by simp)
  | n + 1, c :: r, hn, hm, fr, b, hb => by
    have hrest := restB_lt c r
    generalize hl : c :: r = t at *
    have hne : t ≠ [] := by rw [← hl]; simp
    have hln := lineB_le t
    have wl := lexS_len (lineB t) (by omega)
    have next := fun (b' : List S34) (h' : 2 * (acc.length + b'.length) + (restB t).length ≤ 1998) => parse_shift d acc n (restB t) (by omega) (by omega) (fr + (lineB t).length + 1) b' h'
    rw [show fr + (lineB t).length + 1 + d = fr + d + (lineB t).length + 1 by omega] at next
    rw [parseT_step (fr + d) t _ hne, parseT_step fr t b hne]
    have hn1 : ¬ (acc ++ b.map (shiftOp d)).length = 1000 := by simp; omega
    have hn2 : ¬ b.length = 1000 := by omega
    simp only [if_neg hn1, if_neg hn2]
    by_cases c1 : (lexS (lineB t)).2.2 = 0
    · simp only [if_pos c1]
      by_cases c2 : (lexS (lineB t)).1.length = 0
      · simp only [if_pos c2]
        exact next b (by omega)
      · simp only [if_neg c2]
        by_cases c4 : errOf (lineP (lexS (lineB t)).1 (lineB t).length) = 0
        · simp only [if_pos c4]
          have h2 := line_two c4
          have := next (b ++ [opAt fr (lineP (lexS (lineB t)).1 (lineB t).length)]) (by
            rw [List.length_append, List.length_singleton]
            rcases restB_len t with h0 | h0 <;> omega)
          rw [List.map_append, ← List.append_assoc, List.map_singleton, ← opAt_shift] at this
          exact this
        · simp only [if_neg c4]
          congr 2
          omega
    · simp only [if_neg c1]
      congr 2
      omega
theorem lines_l0 (s : ByteArray) (hs : s.size ≤ 1048576) (a b b' : List S34) (ha : OpsIn 1048576 a) (hb : OpsIn 1048576 b') (hal : a.length ≤ 1048576) (hbl : b'.length ≤ 1048576)
    (hbb : ∀ j : Nat, j < b'.length → j < b.length ∧ rd_T34 b (j : Int) = rd_T34 b' (j : Int)) (all : List S34) (hall : all = a ++ b'.map (shiftOp (s.size + 1))) : ∀ (d i k : Nat), i + d = a.length + b'.length → 2 * d + 4100 < k →
    carcanetlaw25_ScriptLines.l0 k s true a b all i = some true
  | 0, i, k, h, hk => by
    obtain ⟨k, rfl⟩ : ∃ q, k = q + 1 := ⟨k - 1, by omega⟩
    simp only [carcanetlaw25_ScriptLines.l0]
    rw [if_neg (by rw [hall, List.length_append, List.length_map]; omega)]
  | d + 1, i, k, h, hk => by
    obtain ⟨k, rfl⟩ : ∃ q, k = q + 2 := ⟨k - 2, by omega⟩
    have go : carcanetlaw25_ScriptLines.l0 k s true a b all (wrap64 ((i : Int) + 1)) = some true := by
      rw [w64 (by omega) (by omega), show (i : Int) + 1 = ((i + 1 : Nat) : Int) by omega]
      exact lines_l0 s hs a b b' ha hb hal hbl hbb all hall d (i + 1) k (by omega) (by omega)
    have halen : all.length = a.length + b'.length := by rw [hall, List.length_append, List.length_map]
    simp only [carcanetlaw25_ScriptLines.l0]
    rw [if_pos (by omega)]
    by_cases hi : i < a.length
    · have hx := ha _ (rd34_mem a i hi)
      rw [if_pos (by omega), if_pos (by omega), show rd_T34 all (i : Int) = rd_T34 a (i : Int) from by rw [hall, rd34_left a _ i hi], same_self (k + 1) _ _ _ (by have := hx.2.2; omega) (by have := hx.2.2; omega)]
      simp only [Option.bind_some, Bool.not_true, carcanetlaw25_ScriptLines.j2]
      rw [if_neg (by simp), if_neg (by omega)]
      exact go
    · obtain ⟨j, rfl⟩ : ∃ j, i = a.length + j := ⟨i - a.length, by omega⟩
      have hj : j < b'.length := by omega
      obtain ⟨hjb, hje⟩ := hbb j hj
      obtain ⟨⟨x1, x2⟩, ⟨x3, x4⟩, x5⟩ := hb _ (rd34_mem b' j hj)
      rw [if_neg (by omega)]
      simp only [carcanetlaw25_ScriptLines.j2]
      have e : wrap64 (((a.length + j : Nat) : Int) - (a.length : Int)) = (j : Int) := by rw [w64 (by omega) (by omega)]; omega
      rw [if_neg (by simp), if_pos (by omega), e, if_pos (by omega), if_pos (by omega), if_pos (by omega), if_pos (by omega), hje]
      rw [show rd_T34 all ((a.length + j : Nat) : Int) = shiftOp (s.size + 1) (rd_T34 b' (j : Int)) from by rw [hall, rd34_right a _ j (by rw [List.length_map]; exact hj), rd34_map _ b' j hj]]
      have e4 : wrap64 ((wrap64 ((rd_T34 b' (j : Int)).f4 + (s.size : Int))) + 1) = (rd_T34 b' (j : Int)).f4 + ((s.size + 1 : Nat) : Int) := by rw [w64 (x := (rd_T34 b' (j : Int)).f4 + (s.size : Int)) (by omega) (by omega), w64 (by omega) (by omega)]; omega
      have e5 : wrap64 ((wrap64 ((rd_T34 b' (j : Int)).f5 + (s.size : Int))) + 1) = (rd_T34 b' (j : Int)).f5 + ((s.size + 1 : Nat) : Int) := by rw [w64 (x := (rd_T34 b' (j : Int)).f5 + (s.size : Int)) (by omega) (by omega), w64 (by omega) (by omega)]; omega
      rw [e4, e5]
      have := same_self k (rd_T34 b' (j : Int)) ((rd_T34 b' (j : Int)).f4 + ((s.size + 1 : Nat) : Int)) ((rd_T34 b' (j : Int)).f5 + ((s.size + 1 : Nat) : Int)) (by omega) (by omega)
      simp only [shiftOp]
      rw [this]
      exact go
theorem lines_true (a0 a1 : ByteArray) : ∃ k, carcanetlaw25_ScriptLines.f k a0 a1 = some true := by
  obtain ⟨s1, s2, s3⟩ := cut_size a0 700
  obtain ⟨t1, t2, t3⟩ := cut_size a1 700
  rw [show ((700 : Nat) : Int) = 700 from rfl] at s1 s2 s3 t1 t2 t3
  unfold carcanetlaw25_ScriptLines.f carcanetlaw25_shown.f
  simp only [Option.bind_some, if_pos s2, if_pos s3, if_pos t2, if_pos t3]
  generalize a0.extract 0 (mn (a0.size : Int) 700).toNat = s at s1 ⊢
  generalize a1.extract 0 (mn (a1.size : Int) 700).toNat = t at t1 ⊢
  obtain ⟨K, hK⟩ : ∃ K : Nat, 20000 < K := ⟨20001, by decide⟩
  refine ⟨K, ?_⟩
  have es : s.data.toList.length = s.size := rfl
  have et : t.data.toList.length = t.size := rfl
  have eu : (s ++ (⟨#[10]⟩ : ByteArray)).size = s.size + 1 := by rw [ByteArray.size_append]; rfl
  have ev : (s ++ (⟨#[10]⟩ : ByteArray) ++ t).size = s.size + 1 + t.size := by rw [ByteArray.size_append, eu]
  have ed : (s ++ (⟨#[10]⟩ : ByteArray) ++ t).data.toList = s.data.toList ++ 10 :: t.data.toList := by
    rw [ByteArray.data_append, ByteArray.data_append, Array.toList_append, Array.toList_append]
    simp
  rw [parse_eq s (by omega) K (by omega), parse_eq t (by omega) K (by omega)]
  simp only [Option.bind_some]
  rw [eu, if_pos (by omega), if_pos (by omega), parse_eq _ (by omega) K (by omega), ed]
  simp only [Option.bind_some]
  obtain ⟨a1', a2, a3, a4⟩ := parse_in s.size s.size s.data.toList (by omega) (by omega) 0 [] (by omega) (fun _ h => absurd h (by simp))
  obtain ⟨b1, b2, b3, b4⟩ := parse_in t.size t.size t.data.toList (by omega) (by omega) 0 [] (by omega) (fun _ h => absurd h (by simp))
  simp only [List.length_nil] at a4 b4
  have key := parse_app s.size s.data.toList t.data.toList (by omega) 0 []
  have sh := parse_shift (s.size + 1) (parseT 0 s.data.toList []).1 t.size t.data.toList (by omega) (by omega) 0 [] (by simp only [List.length_nil]; omega)
  rw [List.map_nil, List.append_nil, Nat.zero_add] at sh
  rw [es, Nat.zero_add, sh] at key
  have la : OpsIn 1048576 (parseT 0 s.data.toList []).1 := fun x hx => by
    obtain ⟨h1, h2, h3⟩ := a1' x hx
    exact ⟨by omega, by omega, h3⟩
  have lb : OpsIn 1048576 (parseT 0 t.data.toList []).1 := fun x hx => by
    obtain ⟨h1, h2, h3⟩ := b1 x hx
    exact ⟨by omega, by omega, h3⟩
  obtain ⟨K, rfl⟩ : ∃ q, K = q + 1 := ⟨K - 1, by omega⟩
  by_cases c1 : (parseT 0 s.data.toList []).2.2 = 0
  · rw [if_pos c1] at key
    have fin := lines_l0 s (by omega) _ (parseT 0 t.data.toList []).1 _ la lb (by omega) (by omega) (fun j h => ⟨h, rfl⟩) _ rfl ((parseT 0 s.data.toList []).1.length + (parseT 0 t.data.toList []).1.length) 0 K (by omega) (by omega)
    rw [if_pos c1, key]
    simp only
    have hlen : (((parseT 0 s.data.toList []).1 ++ List.map (shiftOp (s.size + 1)) (parseT 0 t.data.toList []).1).length : Int) = wrap64 (((parseT 0 s.data.toList []).1.length : Int) + ((parseT 0 t.data.toList []).1.length : Int)) := by
      rw [List.length_append, List.length_map, w64 (by omega) (by omega)]; omega
    simp only [hlen, if_true, carcanetlaw25_ScriptLines.j0]
    by_cases c2 : (parseT 0 t.data.toList []).2.2 = 0
    · have z := parse_ok_pos _ _ (Nat.le_refl _) _ _ c2
      simp only [c2, z, if_true]
      exact fin
    · simp only [if_neg c2]
      rw [if_pos (by rw [w64 (x := (s.size : Int) + 1) (by omega) (by omega), w64 (by omega) (by omega)]; omega)]
      exact fin
  · rw [if_neg c1] at key
    have fin := lines_l0 s (by omega) _ (parseT 0 t.data.toList []).1 [] la (fun _ h => absurd h (by simp)) (by omega) (by simp) (fun j h => absurd h (by simp)) (parseT 0 s.data.toList []).1 (by simp) ((parseT 0 s.data.toList []).1.length) 0 K (by simp) (by omega)
    rw [key, if_neg c1, if_pos rfl, if_pos rfl, if_pos rfl]
    simp only [carcanetlaw25_ScriptLines.j0]
    exact fin
end Go.Proofs.YtmdmdbiinngneaaDoor.Q

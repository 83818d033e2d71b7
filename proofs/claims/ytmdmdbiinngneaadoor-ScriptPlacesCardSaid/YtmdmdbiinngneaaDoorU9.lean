import Derived.Test.YtmdmdbiinngneaaDoorU8
import Derived.Test.YtmdmdbiinngneaaDoorQ15
namespace Go.Proofs.YtmdmdbiinngneaaDoor.Q
open Go Go.RowKit Go.Proofs.YtmdmdbiinngneaaDoorW.PrintWords Go.Proofs.YtmdmdbiinngneaaDoorW.PrintLast Go.Proofs.YtmdmdbiinngneaaDoorW.PrintMore Go.Proofs.YtmdmdbiinngneaaDoor.Pieces
set_option linter.unusedVariables false
set_option linter.unusedSimpArgs false
/-! ### The document's Number and Line -/
theorem mkB_app (a b : List UInt8) : mkB a ++ mkB b = mkB (a ++ b) := by
  have : (mkB a ++ mkB b).data.toList = a ++ b := by rw [ByteArray.data_append, Array.toList_append]; rfl
  exact (mkB_self _).symm.trans (congrArg mkB this)
theorem strOf_dig (m : Nat) (h : m < 10) : strOfNums [(wrap64 (48 + (m : Int))) % 256] = mkB [UInt8.ofNat (48 + m)] := by
  rw [w64 (by omega) (by omega)]
  unfold strOfNums mkB
  congr 1
  show (#[UInt8.ofNat ((48 + (m : Int)) % 256).toNat] : Array UInt8) = #[UInt8.ofNat (48 + m)]
  rw [show ((48 + (m : Int)) % 256).toNat = 48 + m by omega]
theorem num_l0 : ∀ (n k : Nat) (rest : List UInt8), n < k → rest.length + n ≤ 10000000000000 → carcanetref25_Number.l0 k (n : Int) (mkB rest) = some (mkB ((if n < 10 then [] else Lib.decDigits (n / 10)) ++ rest)) := by
  intro n
  induction n using Nat.strongRecOn with
  | _ n ih =>
    intro k rest hk hr
    obtain ⟨k, rfl⟩ : ∃ q, k = q + 1 := ⟨k - 1, by omega⟩
    simp only [carcanetref25_Number.l0]
    by_cases h : n < 10
    · rw [if_neg (by omega), if_pos h]
      rfl
    · rw [if_pos (by omega), if_neg h]
      have e1 : wrap64 (Int.tdiv (n : Int) 10) = ((n / 10 : Nat) : Int) := by
        rw [Int.tdiv_eq_ediv_of_nonneg (by omega), w64 (by omega) (by omega)]
        omega
      have e2 : Int.tmod ((n / 10 : Nat) : Int) 10 = ((n / 10 % 10 : Nat) : Int) := by
        rw [Int.tmod_eq_emod_of_nonneg (by omega)]
        omega
      simp only [Option.bind_some]
      rw [e1, e2, strOf_dig _ (by omega), if_pos (by rw [mkB_size, mkB_size]; simp; omega), mkB_app, ih (n / 10) (by omega) k _ (by omega) (by rw [List.length_append]; simp; omega)]
      congr 2
      rw [← List.append_assoc]
      congr 1
      conv => rhs; rw [Lib.decDigits]
      by_cases h2 : n / 10 < 10
      · rw [if_pos h2, dif_pos h2, List.nil_append, Nat.mod_eq_of_lt h2]
      · rw [if_neg h2, dif_neg h2]
theorem number_eq (n : Int) (k : Nat) (h0 : 0 ≤ n) (h1 : n ≤ 1000000000) (hk : n.toNat < k) : carcanetref25_Number.f k n = some (mkB (Lib.itoa n)) := by
  obtain ⟨m, rfl⟩ := Int.eq_ofNat_of_zero_le h0
  rw [itoa_nat h0, Int.toNat_natCast] at *
  unfold carcanetref25_Number.f
  have e2 : Int.tmod (m : Int) 10 = ((m % 10 : Nat) : Int) := by
    rw [Int.tmod_eq_emod_of_nonneg (by omega)]
    omega
  rw [e2, strOf_dig _ (by omega), num_l0 m k _ hk (by simp; omega)]
  congr 2
  conv => rhs; rw [Lib.decDigits]
  by_cases h2 : m < 10
  · rw [if_pos h2, dif_pos h2, List.nil_append, Nat.mod_eq_of_lt h2]
  · rw [if_neg h2, dif_neg h2]
theorem c32 : (⟨#[32]⟩ : ByteArray) = mkB [32] := rfl
theorem c45 : (⟨#[45]⟩ : ByteArray) = mkB [45] := rfl
theorem c10 : (⟨#[10]⟩ : ByteArray) = mkB [10] := rfl
theorem rd39_mem (l : List S39) (i : Nat) (h : i < l.length) : rd_T39 l (i : Int) = l[i]'h := by
  unfold rd_T39
  rw [List.getD_eq_getElem?_getD, Int.toNat_natCast, List.getElem?_eq_getElem h]
  rfl
theorem line_l0 (es : List S39) (hes : ∀ e ∈ es, 0 ≤ e.f0 ∧ e.f0 ≤ 999 ∧ 0 ≤ e.f1 ∧ e.f1 ≤ 999) (hlen : es.length ≤ 4000) (y0 : Int) (y1 : ByteArray) (y2 y4 y5 y6 : Int) : ∀ (d i k : Nat) (acc : List UInt8), i + d = es.length → 1000 + d < k → acc.length + 8 * d ≤ 1000000 →
    carcanetref25_Line.l0 k (mkB acc) (i : Int) y0 y1 y2 es y4 y5 y6 = some (mkB (acc ++ (es.drop i).flatMap edgeText))
  | 0, i, k, acc, h, hk, ha => by
    obtain ⟨k, rfl⟩ : ∃ q, k = q + 1 := ⟨k - 1, by omega⟩
    simp only [carcanetref25_Line.l0]
    rw [if_neg (by omega), List.drop_eq_nil_of_le (by omega)]
    simp
  | d + 1, i, k, acc, h, hk, ha => by
    obtain ⟨k, rfl⟩ : ∃ q, k = q + 1 := ⟨k - 1, by omega⟩
    have hi : i < es.length := by omega
    have he := hes _ (List.getElem_mem hi)
    have hl := edgeText_len he
    have hl2 : (edgeText es[i]).length = 1 + (Lib.itoa es[i].f0).length + 1 + (Lib.itoa es[i].f1).length := by
      unfold edgeText
      simp only [List.length_append, numB_data, List.length_singleton]
      omega
    simp only [carcanetref25_Line.l0]
    rw [if_pos (by omega), if_pos (by rw [mkB_size]; omega), if_pos (by omega), rd39_mem es i hi, number_eq _ k he.1 (by omega) (by omega)]
    simp only [Option.bind_some]
    rw [c32, mkB_app, mkB_size, mkB_size, List.length_append, List.length_singleton, if_pos (by omega), mkB_app, mkB_size, List.length_append, List.length_append, List.length_singleton, if_pos (by omega), number_eq _ k he.2.2.1 (by omega) (by omega)]
    simp only [Option.bind_some]
    rw [c45, mkB_app, mkB_size, mkB_size, List.length_append, List.length_append, List.length_append, List.length_singleton, List.length_singleton, if_pos (by omega), mkB_app, w64 (by omega) (by omega), show (i : Int) + 1 = ((i + 1 : Nat) : Int) by omega]
    rw [line_l0 es hes hlen y0 y1 y2 y4 y5 y6 d (i + 1) k _ (by omega) (by omega) (by simp only [List.length_append, List.length_singleton]; omega)]
    rw [List.drop_eq_getElem_cons hi, List.flatMap_cons]
    congr 2
    unfold edgeText
    rw [numB_data, numB_data]
    simp
theorem title_eq (c : Int) : carcanetref25_Title.f c = some (titleP c) := by
  unfold carcanetref25_Title.f titleP script_title.f
  repeat' split
  all_goals rfl
theorem line_text_eq (x : S34) (hx : OpOk x) (k : Nat) (hk : 6000 < k) : carcanetref25_Line.f k x.f0 x.f1 x.f2.f0 x.f2.f1 x.f3 x.f4 x.f5 = some (mkB (opText x)) := by
  have h32 := isName_len hx.1
  have hsz : x.f1.size ≤ 32 := h32
  have hnm : x.f1 = mkB x.f1.data.toList := rfl
  have h7 := title_len x.f3
  have h7' : (titleP x.f3).size ≤ 7 := h7
  unfold carcanetref25_Line.f opText
  rcases hx.2 with ⟨h0, hN, h3⟩ | ⟨h0, h1, h4, h2⟩ | ⟨h0, h3, h2⟩
  · have d4 := itoa_len (k := 4) hN.1 (by have := hN.2.1; omega) (by decide)
    rw [if_neg (show ¬ x.f0 = 2 by omega), if_neg (show ¬ x.f0 = 3 by omega), if_neg (show ¬ x.f0 = 4 by omega), if_pos h0, if_pos (by omega), if_pos (by rw [ByteArray.size_append]; show 5 + x.f1.size + 1 ≤ _; omega), number_eq _ k hN.1 (by have := hN.2.1; omega) (by have := hN.2.1; omega)]
    simp only [Option.bind_some]
    rw [if_pos (by rw [ByteArray.size_append, ByteArray.size_append, mkB_size]; show 5 + x.f1.size + 1 + _ ≤ _; omega)]
    have e : (⟨#[108, 111, 97, 100, 32]⟩ : ByteArray) ++ x.f1 ++ (⟨#[32]⟩ : ByteArray) ++ mkB (Lib.itoa x.f2.f0) = mkB (headText x) := by
      conv => lhs; rw [hnm]
      rw [show (⟨#[108, 111, 97, 100, 32]⟩ : ByteArray) = mkB [108, 111, 97, 100, 32] from rfl, c32, mkB_app, mkB_app, mkB_app]
      unfold headText
      rw [numB_data]
      simp
    have hh : (headText x).length ≤ 50 := by
      unfold headText
      simp only [List.length_append, List.length_cons, List.length_nil, numB_data]
      omega
    have hl := line_l0 x.f2.f1 (fun e he => normed_edge hN he) hN.2.2.2.2 x.f0 x.f1 x.f2.f0 x.f3 x.f4 x.f5 x.f2.f1.length 0 k (headText x) (by omega) (by have := hN.2.2.2.2; omega) (by have := hN.2.2.2.2; omega)
    rw [e]
    rw [List.drop_zero] at hl
    exact hl
  · rw [if_neg (show ¬ x.f0 = 1 by omega), if_pos h0, if_pos h0, if_pos (by omega), if_pos (by rw [ByteArray.size_append]; show 4 + x.f1.size + 1 ≤ _; omega), title_eq]
    simp only [Option.bind_some]
    rw [if_pos (by rw [ByteArray.size_append, ByteArray.size_append]; show 4 + x.f1.size + 1 + _ ≤ _; omega)]
    congr 1
    conv => lhs; rw [hnm, ← mkB_self (titleP x.f3)]
    rw [show (⟨#[97, 115, 107, 32]⟩ : ByteArray) = mkB [97, 115, 107, 32] from rfl, c32, mkB_app, mkB_app, mkB_app]
    simp
  · rcases h0 with h0 | h0
    · rw [if_neg (show ¬ x.f0 = 1 by omega), if_neg (show ¬ x.f0 = 2 by omega), if_neg (show ¬ x.f0 = 2 by omega), if_pos h0, if_pos h0, if_pos (by omega)]
      conv => lhs; rw [hnm]
      rw [show (⟨#[115, 104, 111, 119, 32]⟩ : ByteArray) = mkB [115, 104, 111, 119, 32] from rfl, mkB_app]
    · rw [if_neg (show ¬ x.f0 = 1 by omega), if_neg (show ¬ x.f0 = 2 by omega), if_neg (show ¬ x.f0 = 2 by omega), if_neg (show ¬ x.f0 = 3 by omega), if_neg (show ¬ x.f0 = 3 by omega), if_pos h0, if_pos h0, if_pos (by omega)]
      conv => lhs; rw [hnm]
      rw [show (⟨#[100, 114, 111, 112, 32]⟩ : ByteArray) = mkB [100, 114, 111, 112, 32] from rfl, mkB_app]
/-! ### ScriptBack -/
theorem okOp_of {x : S34} (h : OpOk x) : okOp x := by
  have hz : okInt 0 := by unfold okInt; omega
  rcases h.2 with ⟨_, hN, _⟩ | ⟨_, _, _, h2⟩ | ⟨_, _, h2⟩
  · refine ⟨by unfold okInt; have := hN.1; have := hN.2.1; omega, by have := hN.2.2.2.2; omega, fun e he => ?_⟩
    have := normed_edge hN he
    unfold okInt
    omega
  · unfold okOp
    rw [h2]
    exact ⟨hz, by simp, fun e he => absurd he (by simp)⟩
  · unfold okOp
    rw [h2]
    exact ⟨hz, by simp, fun e he => absurd he (by simp)⟩
theorem text_eq (l : List S34) (h : ∀ x ∈ l, OpOk x) (hl : l.length ≤ 1000000) (ht : (textP l).length ≤ 1000000) : script_Text.f l = some (mkB (textP l)) := by
  unfold script_Text.f
  rw [if_pos ⟨⟨by omega, by omega⟩, fun x hx => okOp_of (h x hx)⟩]
  rfl
theorem rd34_get (l : List S34) (i : Nat) (h : i < l.length) : rd_T34 l (i : Int) = l[i]'h := by
  unfold rd_T34
  rw [List.getD_eq_getElem?_getD, Int.toNat_natCast, List.getElem?_eq_getElem h]
  rfl
theorem opText_bare (x y : S34) (h : bare x = bare y) : opText x = opText y := by
  have e : ∀ z : S34, opText (bare z) = opText z := fun z => rfl
  rw [← e x, ← e y, h]
theorem textP_bare : ∀ (l m : List S34), l.map bare = m.map bare → textP l = textP m
  | [], [], _ => rfl
  | [], y :: m, h => by simp at h
  | x :: l, [], h => by simp at h
  | x :: l, y :: m, h => by
    rw [List.map_cons, List.map_cons] at h
    injection h with h1 h2
    have e : ∀ (z : S34) (q : List S34), textP (z :: q) = opText z ++ ([10] ++ textP q) := fun z q => by simp [textP]
    rw [e, e, opText_bare x y h1, textP_bare l m h2]
theorem bare_ok {x y : S34} (h : bare x = bare y) (hy : OpOk y) : OpOk x := by
  unfold bare at h
  injection h with h0 h1 h2 h3
  unfold OpOk at hy ⊢
  rw [h0, h1, h2, h3]
  exact hy
end Go.Proofs.YtmdmdbiinngneaaDoor.Q

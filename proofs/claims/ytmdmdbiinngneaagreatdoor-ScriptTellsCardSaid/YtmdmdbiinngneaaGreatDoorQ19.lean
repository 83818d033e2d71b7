-- Laid by prx.py (ours), out of the translation's print. Not trusted: Lean checks it.
import Derived.Test.YtmdmdbiinngneaaGreatDoorQ0
import Derived.Laws.CopyOwn
import Derived.WalkSmall
import Derived.Deep.RegionLaw
import Derived.Lib.Hide
namespace Go.Proofs.YtmdmdbiinngneaaGreatDoor.Q
open Go.RowKit Go.Proofs.YtmdmdbiinngneaaGreatDoorW.PrintWords Go.Proofs.YtmdmdbiinngneaaGreatDoorW.PrintLast Go.Proofs.YtmdmdbiinngneaaGreatDoorW.PrintMore
attribute [local go_sem] max2_int min2_int max_two min_two max_three min_three max_four min_four   -- for this text's walks alone
set_option linter.unusedVariables false
set_option linter.unusedSimpArgs false

/-! ### HAND carcanetref03_Sorted: function 57 -/
/-- Where a number goes in: behind the last one that is not greater. -/
def posGo (out : List Int) (x : Int) : Nat → Nat
 | 0 => 0
 | a + 1 => if x < rd out (a : Int) then posGo out x a else a + 1
def insOne (out : List Int) (x : Int) : List Int := out.take (posGo out x out.length) ++ x :: out.drop (posGo out x out.length)
def sortGo (l : List Int) : Nat → Nat → List Int → List Int
 | 0, _, out => out
 | b + 1, i, out => if i < l.length then sortGo l b (i + 1) (insOne out (rd l (i : Int))) else out
def carcanetref03_Sorted.f (l0 : List Int) : Option (List Int) := if l0.length ≤ 1000000000000 then some (sortGo l0 l0.length 0 []) else none
theorem posGo_le (out : List Int) (x : Int) : ∀ a, posGo out x a ≤ a
 | 0 => Nat.le_refl _
 | a + 1 => by
  unfold posGo
  split
  ·exact Nat.le_trans (posGo_le out x a) (Nat.le_succ _)
  ·exact Nat.le_refl _
theorem insOne_length (out : List Int) (x : Int) : (insOne out x).length = out.length + 1 := by
 have := posGo_le out x out.length
 unfold insOne
 simp
 omega
theorem infI : ∃ i, Tryz.prog.info? 3 = some i ∧ i.size = 1 := by
 have h : (Tryz.prog.info? 3).map (fun i => i.size) = some 1 := by kernel_rfl
 obtain ⟨i, hi, hs⟩ := Option.map_eq_some_iff.1 h
 exact ⟨i, hi, hs⟩
theorem cutI (g n cap k : Nat) (hk : k ≤ n) (hc : n ≤ cap) (W : World) :
  (Instr.slice 102 (.slice (some ⟨g, 0, none⟩) n cap) (some (.int .i64 (k : Int))) none none).run Tryz.prog W = .ok (.slice (if k = cap then some ⟨g, 0, none⟩ else some ⟨g, k, none⟩) (n - k) (cap - k)) W := by
 obtain ⟨i, hi, hs⟩ := infI
 have h := cut_from (P := Tryz.prog) 102 3 .i64 Tryz.underlying102 hi 1 hs (some ⟨g, 0, none⟩) n cap (k : Int) (by omega) (by omega) W
 rw [h, Int.toNat_natCast]
 by_cases hkc : k = cap
 ·simp [hkc]
 ·have hkc' : ¬ cap = k := fun e => hkc e.symm
  simp [hkc, hkc', Addr.add_lit]
/-! the walk -/
theorem infI1 : (Tryz.prog.info? 3).map (·.size) = some 1 := by kernel_rfl
theorem infI8 : (Tryz.prog.info? 3).map (fun i => (i.zero, i.size, i.bytes)) = some (some (.int .i64 0), 1, 8) := by kernel_rfl
theorem sortGo_step (l : List Int) (b i : Nat) (out : List Int) (h : i < l.length) : sortGo l (b + 1) i out = sortGo l b (i + 1) (insOne out (rd l (i : Int))) := by
 simp only [sortGo, h, if_true]
theorem ints_reps (xs : List Int) : Reps (fun (x : Int) (cs : List Value) => cs = [Value.int .i64 x]) 1 xs (nums .i64 xs) := by
 refine ⟨by simp [nums], fun j p hj => ?_⟩
 obtain ⟨hl, hp⟩ := List.getElem?_eq_some_iff.1 hj
 have hl' : j < (nums .i64 xs).length := by simpa [nums] using hl
 rw [Nat.mul_one, List.drop_eq_getElem_cons hl']
 simp [nums, hp]
theorem ints_of_own {w : World} {base : Nat} {ok : Nat → Prop} {v : Value} {xs : List Int} (ho : w.ownsRow base 3 1 v xs.length (nums .i64 xs)) (hok : ∀ k, v.ownBlock = some k → ok k) : (Kd.int .i64).R 3 w base ok v xs := ⟨hok, nums .i64 xs, ho, ints_reps xs⟩
theorem own_of_ints {w : World} {base : Nat} {ok : Nat → Prop} {v : Value} {xs : List Int} (h : (Kd.int .i64).R 3 w base ok v xs) : w.ownsRow base 3 1 v xs.length (nums .i64 xs) := by
 obtain ⟨_, inner, ho, hr⟩ := h
 have hz : inner.length = xs.length := by have := hr.1; simp [Kd.int, Kd.scalar] at this; omega
 have : inner = nums .i64 xs := by
  apply List.ext_getElem?
  intro j
  rcases Nat.lt_or_ge j xs.length with hj | hj
  ·have h2 := hr.2 j _ (List.getElem?_eq_getElem hj)
   have hl : j < inner.length := by omega
   have h3 : (inner.drop (j * 1)).take 1 = [Value.int .i64 xs[j]] := h2
   rw [Nat.mul_one, List.drop_eq_getElem_cons hl] at h3
   have h4 : inner[j] = Value.int .i64 xs[j] := by
    have h5 := congrArg List.head? h3
    rw [List.take_succ_cons] at h5
    exact Option.some.inj h5
   rw [List.getElem?_eq_getElem hl, h4]
   simp [nums, List.getElem?_eq_getElem hj]
  ·rw [List.getElem?_eq_none (by omega), List.getElem?_eq_none (by simp [nums]; omega)]
 rw [← this]
 exact ho
/-- The row of a block of its own, opened. -/
structure SRow (w : World) (B g cap : Nat) (xs : List Int) (cur : List Value) : Prop where
 heap : w.heap[g]? = some (.cells cur.toArray 3 (0, 0))
 base : B ≤ g
 le : xs.length ≤ cap
 max : cap ≤ maxLen
 len : cur.length = cap
 take : cur.take xs.length = nums .i64 xs
theorem sorted_row {w : World} {B g cap n : Nat} {xs : List Int} (h : (Kd.int .i64).R 3 w B (fun _ => True) (.slice (some ⟨g, 0, none⟩) n cap) xs) : ∃ cur, SRow w B g cap xs cur := by
 obtain ⟨_, h2⟩ := own_of_ints h
 rcases h2 with ⟨h3, _⟩ | ⟨g', cap', cur, he, hb, hh, hl, hm, hs, ht⟩
 ·cases h3
 ·injection he with e1 e2 e3
  injection e1 with e1
  injection e1 with e1 _ _
  subst e1 e2 e3
  exact ⟨cur.toList, by rw [Array.toArray_toList]; exact hh, hb, hl, hm, by rw [Array.length_toList]; omega, by rw [Nat.mul_one] at ht; exact ht⟩
theorem sorted_R {w : World} {B g cap : Nat} {xs : List Int} {cur : List Value} (h : SRow w B g cap xs cur) : (Kd.int .i64).R 3 w B (fun _ => True) (.slice (some ⟨g, 0, none⟩) xs.length cap) xs :=
 ints_of_own ⟨by simp [nums], .inr ⟨g, cap, cur.toArray, rfl, h.base, h.heap, h.le, h.max, by simp [h.len], by simp only [Nat.mul_one]; exact h.take⟩⟩ (fun _ _ => trivial)
theorem sorted_n {x3 : List Int} {s d ga : Nat} (hs : s = x3.length + 1 - ga) (hd : d = x3.length - ga) (hg : ga ≤ x3.length) : (nums .i64 (x3.drop ga)).length = Nat.min s d := by
 subst hs hd
 simp only [nums, List.length_map, List.length_drop]
 rw [show Nat.min (x3.length + 1 - ga) (x3.length - ga) = min (x3.length + 1 - ga) (x3.length - ga) from rfl]
 omega
theorem sorted_fit {w : World} {B g cap ga : Nat} {x3 : List Int} {cur : List Value} (h : SRow w B g cap (x3 ++ [(0 : Int)]) cur) (hg : ga ≤ x3.length) : ga + 1 + (nums .i64 (x3.drop ga)).length ≤ cur.length := by
 have h1 := h.le
 have h2 := h.len
 simp [nums] at h1 ⊢
 omega
theorem sorted_one (l : List Int) : ∀ v ∈ nums .i64 l, v.oneCell' = true := by
 intro v hv
 obtain ⟨x, _, rfl⟩ := List.mem_map.1 hv
 rfl
theorem sorted_pos {w w' : World} {B g cap ga : Nat} {x3 : List Int} {cur : List Value} {D1 D2 : Option Addr} (h : SRow w B g cap (x3 ++ [(0 : Int)]) cur) (hw : w'.heap = w.heap)
  (h1 : D1 = (if ga + 1 = cap then some ⟨g, 0, none⟩ else some ⟨g, ga + 1, none⟩)) (h2 : D2 = (if ga = cap then some ⟨g, 0, none⟩ else some ⟨g, ga, none⟩)) :
  0 < (nums .i64 (x3.drop ga)).length → D1 = some ⟨g, ga + 1, none⟩ ∧ ∃ ad, D2 = some ad ∧ ∀ j v, (nums .i64 (x3.drop ga))[j]? = some v → w'.cell? (ad.add j) = some v := by
 intro hp
 have hle := h.le
 simp [nums] at hp hle
 have hc := h.len
 rw [if_neg (by omega)] at h1 h2
 refine ⟨h1, _, h2, fun j v hj => ?_⟩
 have hjl : j < x3.length - ga := by
  have := (List.getElem?_eq_some_iff.1 hj).1
  simpa [nums] using this
 have ht := h.take
 have : cur[ga + j]? = some v := by
  have h3 : (cur.take (x3 ++ [(0 : Int)]).length)[ga + j]? = cur[ga + j]? := by rw [List.getElem?_take]; simp; omega
  rw [← h3, ht, ← hj]
  simp only [nums, List.getElem?_map, List.getElem?_drop]
  rw [List.getElem?_append_left (by omega)]
 simp only [World.cell?, hw, Addr.add_lit, h.heap]
 simpa using this
theorem sorted_splice {w w4 : World} {B g cap ga : Nat} {x3 : List Int} {cur : List Value} (h : SRow w B g cap (x3 ++ [(0 : Int)]) cur) (hg : ga ≤ x3.length)
  (h4 : w4.heap[g]? = some (.cells (splice cur (ga + 1) (nums .i64 (x3.drop ga))).toArray 3 (0, 0))) :
  SRow w4 B g cap ((x3 ++ [(0 : Int)]).take (ga + 1) ++ x3.drop ga) (splice cur (ga + 1) (nums .i64 (x3.drop ga))) := by
 have hle := h.le
 have hlen := h.len
 have hfit := sorted_fit h hg
 have hn : ((x3 ++ [(0 : Int)]).take (ga + 1) ++ x3.drop ga).length = x3.length + 1 := by simp; omega
 simp at hle
 refine ⟨h4, h.base, by rw [hn]; exact hle, h.max, by rw [length_splice _ _ _ hfit]; exact h.len, ?_⟩
 rw [hn]
 have ht := h.take
 have h5 : cur.take (ga + 1) = nums .i64 ((x3 ++ [(0 : Int)]).take (ga + 1)) := by
  have h6 := congrArg (List.take (ga + 1)) ht
  rw [List.take_take] at h6
  rw [show min (ga + 1) (x3 ++ [(0 : Int)]).length = ga + 1 by simp; omega] at h6
  rw [h6]
  simp only [nums, List.map_take]
 have hsp : splice cur (ga + 1) (nums .i64 (x3.drop ga)) = (nums .i64 ((x3 ++ [(0 : Int)]).take (ga + 1)) ++ nums .i64 (x3.drop ga)) ++ cur.drop (ga + 1 + (nums .i64 (x3.drop ga)).length) := by
  rw [splice, h5, List.append_assoc]
 have hl2 : x3.length + 1 = (nums .i64 ((x3 ++ [(0 : Int)]).take (ga + 1)) ++ nums .i64 (x3.drop ga)).length := by simp [nums]; omega
 rw [hsp, hl2, List.take_left']
 ·simp [nums]
 ·rfl
theorem sorted_cell {w : World} {B g cap ga : Nat} {ys : List Int} {cur : List Value} (h : SRow w B g cap ys cur) (hg : ga < ys.length) : ∃ v, w.cell? ⟨g, ga, none⟩ = some v := by
 have h1 := h.le
 have h2 := h.len
 refine ⟨cur[ga]'(by omega), ?_⟩
 simp [World.cell?, h.heap]
theorem sorted_free {w : World} {B g cap ga : Nat} {ys : List Int} {cur : List Value} (h : SRow w B g cap ys cur) : w.frozen? ⟨g, ga, none⟩ = false := by
 simp [World.frozen?, h.heap]
theorem sorted_old {w' w0 : World} {i : Nat} {l0 : List Int} {ad : Addr} (hc : (Kd.int .i64).C w0 (some ad) l0.length l0) (hb : Below w0.heap.size w0 w') (hi : i < l0.length) :
  w'.cell? (ad.add i) = some (.int .i64 (rd l0 (i : Int))) := by
 obtain ⟨ad', hA, hx⟩ := Kd.at_int (Kd.C_below hc hb) (i : Int) (by omega) (by omega)
 injection hA with hA
 subst hA
 rw [Int.toNat_natCast] at hx
 exact hx
theorem sorted_put {w w' : World} {B g cap ga : Nat} {x3 : List Int} {cur : List Value} {x : Int} (h : SRow w B g cap ((x3 ++ [(0 : Int)]).take (ga + 1) ++ x3.drop ga) cur) (hg : ga ≤ x3.length) (hp : posGo x3 x x3.length = ga)
  (hw : w'.heap = w.heap) : (Kd.int .i64).R 3 (w'.setCell ⟨g, ga, none⟩ (.int .i64 x)) B (fun _ => True) (.slice (some ⟨g, 0, none⟩) (x3.length + 1) cap) (insOne x3 x) := by
 have hn : ((x3 ++ [(0 : Int)]).take (ga + 1) ++ x3.drop ga).length = x3.length + 1 := by simp; omega
 have hi : insOne x3 x = ((x3 ++ [(0 : Int)]).take (ga + 1) ++ x3.drop ga).set ga x := by
  unfold insOne
  rw [hp]
  apply List.ext_getElem?
  intro j
  rw [List.getElem?_set]
  by_cases hj : ga = j
  ·subst hj
   rw [if_pos rfl, if_pos (by omega), List.getElem?_append_right (by simp; omega)]
   simp [Nat.min_eq_left hg]
  ·rw [if_neg hj]
   rcases Nat.lt_or_gt_of_ne hj with h1 | h1
   ·rw [List.getElem?_append_right (by simp; omega), List.getElem?_append_right (by simp; omega)]
    simp only [List.length_take, List.length_append, List.length_singleton, Nat.min_eq_left hg]
    rw [show min (ga + 1) (x3.length + 1) = ga + 1 by omega, show j - ga = (j - (ga + 1)) + 1 by omega]
    simp
   ·rw [List.getElem?_append_left (by simp; omega), List.getElem?_append_left (by simp; omega)]
    rw [List.getElem?_take, List.getElem?_take, if_pos h1, if_pos (by omega), List.getElem?_append_left (by omega)]
 have hle := h.le
 have hlen := h.len
 have hs := heap_setCell_same w' g ga cur.toArray 3 (.int .i64 x) (by rw [hw]; exact h.heap)
 have hrow : SRow (w'.setCell ⟨g, ga, none⟩ (.int .i64 x)) B g cap (insOne x3 x) (cur.set ga (.int .i64 x)) := by
  refine ⟨?_, h.base, by rw [insOne_length]; omega, h.max, by simp [h.len], ?_⟩
  ·rw [hs]; simp
  ·rw [insOne_length, hi]
   have ht := h.take
   rw [hn] at ht
   rw [List.take_set, ht]
   simp [nums, List.map_set]
 have := sorted_R hrow
 rwa [insOne_length] at this
set_option maxHeartbeats 8000000 in
set_option maxRecDepth 100000 in
theorem carcanetref03_Sorted.calls (A0 : Option Addr) (c0 : Nat) (l0 : List Int) (r : List Int) (w : World) (hr0 : Kd.C (Kd.int .i64) w A0 l0.length l0) (hc0 : l0.length ≤ c0) (h : carcanetref03_Sorted.f l0 = some r) :
  Calls Tryz.prog 57 #[.slice A0 l0.length c0] w fun e w' => ∃ v0_ : Value, e = .returned v0_ ∧ Kd.R (Kd.int .i64) 3 w' w.heap.size (fun _ => True) v0_ r ∧ Below w.heap.size w w' := by
 unfold carcanetref03_Sorted.f at h
 by_cases hlim : l0.length ≤ 1000000000000
 ·rw [if_pos hlim] at h
  have HLIM := Aside0.mk hlim
  clear hlim
  have HG := Aside0.mk (Option.some.inj h)
  clear h
  have HR0 := Aside0.mk hr0
  clear hr0
  go_enter Tryz.func57, Tryz.ntmps57
  go_wp2_with (first | ((with_reducible refine gate_dst (N := 6) rfl ?_); (try (refine gate_guard (by rfl) ?_; dsimp only)); refine Kd.R_lit (Kd.int .i64) _ 3 ?hg (N := 6) ?hd (xs := ([] : List Int)) (inner := []) (ok := fun _ => True) (okp := fun _ => True) ?hr ?hp (fun _ hk => hk) trivial (Below.refl _ _) (Nat.le_refl _) (by simp) ?_; (case hd => rfl); (case hg => rfl); (case hr => first | (go_simp; done) | (go_simp; rfl)); (case hp => exact (Reps.none _ _)); intro v6 w5 ho6 hb hg_ hnew_; clear hg_ hnew_; have HO6 := Aside0.mk ho6; have HB6 := Aside0.mk hb; clear hb ho6))
  go_loopg [3, 4] l0.length (fun kq v3 v4 wr => ∃ (x3 : List Int) (i : Nat), v4 = .int .i64 (i : Int) ∧ Aside0 (sortGo l0 kq i x3 = r) ∧ Aside0 (i ≤ l0.length ∧ l0.length ≤ i + kq ∧ x3.length = i) ∧ Aside0 (Kd.R (Kd.int .i64) 3 wr w.heap.size (fun _ => True) v3 x3) ∧ Aside0 (Below w.heap.size w wr))
  case atStart => exact ⟨[], 0, rfl, HG, ⟨by simp⟩, HO6, HB6⟩
  case round =>
   clear HG HO6 HB6
   obtain ⟨x3, i, rfl, HG, HI, HO, HB⟩ := hrel
   by_cases hi : i < l0.length
   ·cases gk with
    | zero => exact absurd HI.out (by omega)
    | succ kq =>
    have HS := Aside0.mk ((sortGo_step l0 kq i x3 hi).symm.trans HG.out)
    clear HG
    obtain ⟨A3, c3, rfl⟩ := Kd.R_slice HO.out
    have hlim := HLIM.out
    have HC0 := Aside0.mk (Kd.C_below HR0.out HB.out)
    obtain ⟨ad, hA, hx⟩ := Kd.at_int HC0.out (i : Int) (by omega) (by omega)
    subst hA
    rw [Int.toNat_natCast] at hx
    have di : decide ((i : Int) < (l0.length : Int)) = true := decide_eq_true (by omega)
    go_wp2
    go_loopg [5] x3.length (fun ga v5 wr2 => v5 = .int .i64 (ga : Int) ∧ Aside0 (posGo x3 (rd l0 (i : Int)) ga = posGo x3 (rd l0 (i : Int)) x3.length) ∧ Aside0 (ga ≤ x3.length) ∧ Aside0 (Kd.R (Kd.int .i64) 3 wr2 w.heap.size (fun _ => True) (.slice A3 x3.length c3) x3) ∧ Aside0 (Below w.heap.size w wr2))
    case atStart => exact ⟨rfl, ⟨rfl⟩, ⟨Nat.le_refl _⟩, HO, HB⟩
    case round =>
     clear HO HB HC0 hx
     obtain ⟨rfl, HP, HK, HO, HB⟩ := hrel
     have HC0 := Aside0.mk (Kd.C_below HR0.out HB.out)
     obtain ⟨ad', hA, hx⟩ := Kd.at_int HC0.out (i : Int) (by omega) (by omega)
     injection hA with hA
     subst hA
     rw [Int.toNat_natCast] at hx
     have hlx : x3.length ≤ 1000000000000 := by have := HI.out; omega
     rcases Nat.eq_zero_or_pos gk with h0 | h0
     ·have hpos : posGo x3 (rd l0 (i : Int)) x3.length = gk := HP.out.symm.trans (by rw [h0]; rfl)
      have dg0 : decide ((gk : Int) > 0) = false := decide_eq_false (by omega)
      have dg1 : decide (0 < gk) = false := decide_eq_false (by omega)
      have hga := HK.out
      clear HP h0
      have HPOS := Aside0.mk hpos
      clear hpos
      go_wp2
      go_quiet (fail)
      go_upto_region 9 with (first | ((with_reducible refine gate_builtin (b := .append) (xs := #[.tmp 31, .tmp 32]) rfl ?_); at_builtin; refine Kd.R_append (Kd.int .i64) (w0 := w) w.heap.size rfl (.tmp 31) (.tmp 32) 102 3 (.int .i64 0) 8 rfl Tryz.underlying102 infI8 rfl (by decide) (by omega) _ x3 (0 : Int) [.int .i64 0] (fun _ => True) (fun _ => False) rfl rfl ?aP (fun _ hk => hk.elim) ?aF ?aO ?aB ?aS ?aL ?_; (case aP => exact rfl); (case aF => exact (fun _ _ => trivial)); (case aO => exact (by repeat (first | (with_reducible exact HO.out) | (with_reducible apply Kd.R_drewN) | (with_reducible apply Kd.R_drew) | exact HO.out))); (case aB => exact (by (with_reducible repeat (first | exact HB.out | apply pw_below_drewN | apply below_drew1)))); (case aS => exact (below_size (by (with_reducible repeat (first | exact HB.out | apply pw_below_drewN | apply below_drew1))))); (case aL => have := HI.out; have := HLIM.out; omega); intro v1 w1 ho hb hg hat; obtain ⟨g, cap, hv, hbg, hgw, cells, hcells⟩ := Kd.R_form ho (by simp); subst hv; have HO1 := Aside0.mk ho; have HB1 := Aside0.mk hb; have HBG := Aside0.mk hbg; have HCAP := Aside0.mk (Kd.R_reads' ho).2.1; clear ho hb hg hat hbg hgw hcells))
      obtain ⟨cur, HCUR⟩ := sorted_row HO1.out
      obtain ⟨D1, hD1⟩ : ∃ D, D = (if gk + 1 = cap then some ⟨g, 0, none⟩ else some (⟨g, gk + 1, none⟩ : Addr)) := ⟨_, rfl⟩
      obtain ⟨D2, hD2⟩ : ∃ D, D = (if gk = cap then some ⟨g, 0, none⟩ else some (⟨g, gk, none⟩ : Addr)) := ⟨_, rfl⟩
      have hl1 : (x3 ++ [(0 : Int)]).length = x3.length + 1 := by simp
      have hcap1 : x3.length + 1 ≤ cap := by have := HCAP.out; rw [hl1] at this; exact this
      have hw1 : IntKind.i64.wrap ((gk : Int) + 1) = (gk : Int) + 1 := by have := HI.out; have := HLIM.out; rw [wrap_small _ (by omega) (by omega)]
      have hcut1 := cutI g (x3.length + 1) cap (gk + 1) (by omega) (by omega)
      have hcut2 := cutI g (x3.length + 1) cap gk (by omega) (by omega)
      rw [← hD1, show ((gk + 1 : Nat) : Int) = (gk : Int) + 1 from rfl] at hcut1
      rw [← hD2] at hcut2
      have HD1 := Aside0.mk hD1
      have HD2 := Aside0.mk hD2
      clear hD1 hD2
      go_region_law (refine step_copy_splice ?gd (.tmp 37) (.tmp 40) 102 102 ?ho 3 ?hu ?hz D1 D2 (x3.length - gk) (cap - (gk + 1)) (x3.length + 1 - gk) (cap - gk) ?hd ?hs g (gk + 1) cur 3 ?hh (nums .i64 (x3.drop gk)) ?cn ?cpos ?cfit ?c1 w.heap.size w ?hb HBG.out ?_; (case gd => rfl); (case ho => rfl); (case hu => exact Tryz.underlying102); (case hz => exact infI1); (case hd => first | (with_reducible rfl) | (go_simp; done) | rfl); (case hs => first | (with_reducible rfl) | (go_simp; done) | rfl); (case hh => exact HCUR.heap); (case hb => exact (by (with_reducible repeat (first | exact HB1.out | apply pw_below_drewN | apply below_drew1)))); (case cn => exact sorted_n (by omega) (by omega) hga); (case cpos => exact sorted_pos HCUR rfl HD1.out HD2.out); (case cfit => exact sorted_fit HCUR hga); (case c1 => exact sorted_one _); intro w4 hg4 hb4)
      have HO4 := Aside0.mk (sorted_splice HCUR hga hg4.out)
      have HB4 := Aside0.mk hb4
      clear hg4 hb4
      obtain ⟨vst, hst⟩ := sorted_cell (ga := gk) HO4.out (by simp; omega)
      have hfz := sorted_free (ga := gk) HO4.out
      have hx9 : w4.cell? (ad.add i) = some (.int .i64 (rd l0 (i : Int))) := sorted_old HR0.out HB4.out hi
      have hi9 : decide ((i : Int) < (l0.length : Int)) = true := decide_eq_true (by omega)
      have hw2 : IntKind.i64.wrap ((i : Int) + 1) = ((i + 1 : Nat) : Int) := by have := HLIM.out; rw [wrap_small _ (by omega) (by omega)]; rfl
      go_wp2
      go_roundg kq
      case measure => omega
      case rel => exact ⟨insOne x3 (rd l0 (i : Int)), i + 1, rfl, HS, ⟨by have := HI.out; rw [insOne_length]; omega⟩, ⟨sorted_put HO4.out hga HPOS.out rfl⟩, ⟨below_set HB4.out HBG.out⟩⟩
     ·obtain ⟨a, hka1⟩ : ∃ a, gk = a + 1 := ⟨gk - 1, by omega⟩
      have hga := HK.out
      have hka := HK.out
      rw [hka1] at hka
      obtain ⟨ad3, hA3, hx0⟩ := Kd.at_int (Kd.R_reads' HO.out).2.2 (a : Int) (by omega) (by omega)
      subst hA3
      rw [Int.toNat_natCast] at hx0
      have hw0 : IntKind.i64.wrap ((gk : Int) - 1) = (a : Int) := by rw [wrap_small _ (by omega) (by omega)]; omega
      have dg0 : decide ((gk : Int) > 0) = true := decide_eq_true (by omega)
      have dg1 : decide (0 < gk) = true := decide_eq_true (by omega)
      have da : decide ((a : Int) < (x3.length : Int)) = true := decide_eq_true (by omega)
      by_cases hgt : rd l0 (i : Int) < rd x3 (a : Int)
      ·have dgt : decide (rd x3 (a : Int) > rd l0 (i : Int)) = true := decide_eq_true hgt
       have HP2 := Aside0.mk ((show posGo x3 (rd l0 (i : Int)) (a + 1) = posGo x3 (rd l0 (i : Int)) a by simp only [posGo, hgt, if_true]).symm.trans (hka1 ▸ HP.out))
       have HKA := Aside0.mk hka1
       clear hgt HP hga hka1
       go_wp2
       go_quiet (fail)
       go_wp2
       go_roundg a
       case measure => have := HKA.out; omega
       case rel => exact ⟨rfl, HP2, ⟨by omega⟩, ⟨Kd.R_drewN HO.out _⟩, ⟨pw_below_drewN HB.out _⟩⟩
      ·have dgt : decide (rd x3 (a : Int) > rd l0 (i : Int)) = false := decide_eq_false (by omega)
       have hpos : posGo x3 (rd l0 (i : Int)) x3.length = gk := HP.out.symm.trans (by rw [hka1]; simp only [posGo, hgt, if_false])
       clear hgt HP hka1
       have HPOS := Aside0.mk hpos
       clear hpos
       go_wp2
       go_quiet (fail)
       go_upto_region 9 with (first | ((with_reducible refine gate_builtin (b := .append) (xs := #[.tmp 31, .tmp 32]) rfl ?_); at_builtin; refine Kd.R_append (Kd.int .i64) (w0 := w) w.heap.size rfl (.tmp 31) (.tmp 32) 102 3 (.int .i64 0) 8 rfl Tryz.underlying102 infI8 rfl (by decide) (by omega) _ x3 (0 : Int) [.int .i64 0] (fun _ => True) (fun _ => False) rfl rfl ?aP (fun _ hk => hk.elim) ?aF ?aO ?aB ?aS ?aL ?_; (case aP => exact rfl); (case aF => exact (fun _ _ => trivial)); (case aO => exact (by repeat (first | (with_reducible exact HO.out) | (with_reducible apply Kd.R_drewN) | (with_reducible apply Kd.R_drew) | exact HO.out))); (case aB => exact (by (with_reducible repeat (first | exact HB.out | apply pw_below_drewN | apply below_drew1)))); (case aS => exact (below_size (by (with_reducible repeat (first | exact HB.out | apply pw_below_drewN | apply below_drew1))))); (case aL => have := HI.out; have := HLIM.out; omega); intro v1 w1 ho hb hg hat; obtain ⟨g, cap, hv, hbg, hgw, cells, hcells⟩ := Kd.R_form ho (by simp); subst hv; have HO1 := Aside0.mk ho; have HB1 := Aside0.mk hb; have HBG := Aside0.mk hbg; have HCAP := Aside0.mk (Kd.R_reads' ho).2.1; clear ho hb hg hat hbg hgw hcells))
       obtain ⟨cur, HCUR⟩ := sorted_row HO1.out
       obtain ⟨D1, hD1⟩ : ∃ D, D = (if gk + 1 = cap then some ⟨g, 0, none⟩ else some (⟨g, gk + 1, none⟩ : Addr)) := ⟨_, rfl⟩
       obtain ⟨D2, hD2⟩ : ∃ D, D = (if gk = cap then some ⟨g, 0, none⟩ else some (⟨g, gk, none⟩ : Addr)) := ⟨_, rfl⟩
       have hl1 : (x3 ++ [(0 : Int)]).length = x3.length + 1 := by simp
       have hcap1 : x3.length + 1 ≤ cap := by have := HCAP.out; rw [hl1] at this; exact this
       have hw1 : IntKind.i64.wrap ((gk : Int) + 1) = (gk : Int) + 1 := by have := HI.out; have := HLIM.out; rw [wrap_small _ (by omega) (by omega)]
       have hcut1 := cutI g (x3.length + 1) cap (gk + 1) (by omega) (by omega)
       have hcut2 := cutI g (x3.length + 1) cap gk (by omega) (by omega)
       rw [← hD1, show ((gk + 1 : Nat) : Int) = (gk : Int) + 1 from rfl] at hcut1
       rw [← hD2] at hcut2
       have HD1 := Aside0.mk hD1
       have HD2 := Aside0.mk hD2
       clear hD1 hD2
       go_region_law (refine step_copy_splice ?gd (.tmp 37) (.tmp 40) 102 102 ?ho 3 ?hu ?hz D1 D2 (x3.length - gk) (cap - (gk + 1)) (x3.length + 1 - gk) (cap - gk) ?hd ?hs g (gk + 1) cur 3 ?hh (nums .i64 (x3.drop gk)) ?cn ?cpos ?cfit ?c1 w.heap.size w ?hb HBG.out ?_; (case gd => rfl); (case ho => rfl); (case hu => exact Tryz.underlying102); (case hz => exact infI1); (case hd => first | (with_reducible rfl) | (go_simp; done) | rfl); (case hs => first | (with_reducible rfl) | (go_simp; done) | rfl); (case hh => exact HCUR.heap); (case hb => exact (by (with_reducible repeat (first | exact HB1.out | apply pw_below_drewN | apply below_drew1)))); (case cn => exact sorted_n (by omega) (by omega) hga); (case cpos => exact sorted_pos HCUR rfl HD1.out HD2.out); (case cfit => exact sorted_fit HCUR hga); (case c1 => exact sorted_one _); intro w4 hg4 hb4)
       have HO4 := Aside0.mk (sorted_splice HCUR hga hg4.out)
       have HB4 := Aside0.mk hb4
       clear hg4 hb4
       obtain ⟨vst, hst⟩ := sorted_cell (ga := gk) HO4.out (by simp; omega)
       have hfz := sorted_free (ga := gk) HO4.out
       have hx9 : w4.cell? (ad.add i) = some (.int .i64 (rd l0 (i : Int))) := sorted_old HR0.out HB4.out hi
       have hi9 : decide ((i : Int) < (l0.length : Int)) = true := decide_eq_true (by omega)
       have hw2 : IntKind.i64.wrap ((i : Int) + 1) = ((i + 1 : Nat) : Int) := by have := HLIM.out; rw [wrap_small _ (by omega) (by omega)]; rfl
       go_wp2
       go_roundg kq
       case measure => omega
       case rel => exact ⟨insOne x3 (rd l0 (i : Int)), i + 1, rfl, HS, ⟨by have := HI.out; rw [insOne_length]; omega⟩, ⟨sorted_put HO4.out hga HPOS.out rfl⟩, ⟨below_set HB4.out HBG.out⟩⟩
   ·have hfin : sortGo l0 gk i x3 = x3 := by cases gk <;> simp [sortGo, hi]
    have hr := hfin.symm.trans HG.out
    subst hr
    have di : decide ((i : Int) < (l0.length : Int)) = false := decide_eq_false (by omega)
    go_wp2
    go_ret
    exact ⟨_, rfl, HO.out, HB.out⟩
 ·rw [if_neg hlim] at h; cases h

end Go.Proofs.YtmdmdbiinngneaaGreatDoor.Q

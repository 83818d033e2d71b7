-- Laid by prx.py (ours), out of the translation's print. Not trusted: Lean checks it.
import Derived.Test.YtmdmdbiinngneaaGreatDoorQ0
import Derived.Test.YtmdmdbiinngneaaGreatDoorQ7
import Derived.Test.YtmdmdbiinngneaaGreatDoorQ8
import Derived.Lib.OthersKept
namespace Go.Proofs.YtmdmdbiinngneaaGreatDoor.Q
open Go.RowKit Go.Proofs.YtmdmdbiinngneaaGreatDoorW.PrintWords Go.Proofs.YtmdmdbiinngneaaGreatDoorW.PrintLast Go.Proofs.YtmdmdbiinngneaaGreatDoorW.PrintMore
attribute [local go_sem] max2_int min2_int max_two min_two max_three min_three max_four min_four   -- for this text's walks alone
set_option linter.unusedVariables false
set_option linter.unusedSimpArgs false

/-! ### HAND script_line: function 11 -/
/-- The line's world: what came in, its boxed variables, the operation that is made. -/
structure LEnv (w : World) (l : List S43) (A : Option Addr) (c : Nat) (en : Int) (ops : Array Value) (i : Nat) (W : World) : Prop where
  hb : Below w.heap.size w W
  hL : W.heap[w.heap.size]? = some (.cells #[.slice A l.length c] 39 (0, 0))
  hE : W.heap[w.heap.size + 1]? = some (.cells #[.int .i64 en] 3 (0, 0))
  hR : W.heap[w.heap.size + 2]? = some (.cells #[.int .i64 0, .string ⟨#[]⟩, .int .i64 0, .slice none 0 0, .int .i64 0, .int .i64 0, .int .i64 0] 36 (0, 0))
  hO : W.heap[w.heap.size + 3]? = some (.cells ops 36 (0, 0))
  hA : W.heap[w.heap.size + 4]? = some (.cells #[.int .i64 (i : Int)] 3 (0, 0))
section
variable {w W : World} {l : List S43} {A : Option Addr} {c : Nat} {en : Int} {ops : Array Value} {i : Nat}
theorem LEnv.lt (h : LEnv w l A c en ops i W) : w.heap.size + 4 < W.heap.size := blk_lt h.hA
theorem LEnv.grown {W' : World} (h : LEnv w l A c en ops i W) {row : Option Nat} (hg : W.grownBy W' row) (hr : ∀ k, row = some k → w.heap.size + 4 < k) : LEnv w l A c en ops i W' :=
  ⟨h.hb.grown hg (by have := h.lt; omega) (fun k hk => by have := hr k hk; omega),
   blk_grown h.hL hg (fun e => by have := hr _ e.symm; omega), blk_grown h.hE hg (fun e => by have := hr _ e.symm; omega), blk_grown h.hR hg (fun e => by have := hr _ e.symm; omega), blk_grown h.hO hg (fun e => by have := hr _ e.symm; omega), blk_grown h.hA hg (fun e => by have := hr _ e.symm; omega)⟩
theorem LEnv.below {W' : World} (h : LEnv w l A c en ops i W) (hb : Below W.heap.size W W') : LEnv w l A c en ops i W' := h.grown (grown_of_below hb none) (fun _ e => by cases e)
theorem LEnv.alloc (h : LEnv w l A c en ops i W) (o : Obj) : LEnv w l A c en ops i (W.alloc o) := h.below (below_alloc (Below.refl _ _) o)
theorem LEnv.drew (h : LEnv w l A c en ops i W) : LEnv w l A c en ops i W.drew := h.below (below_drew1 (Below.refl _ _))
theorem LEnv.drewN (h : LEnv w l A c en ops i W) (n : Nat) : LEnv w l A c en ops i (W.drewN n) := h.below (pw_below_drewN (Below.refl _ _) n)
theorem LEnv.setAt (h : LEnv w l A c en ops i W) {W' : World} {i' : Nat} (hg : W.grownBy W' (some (w.heap.size + 4))) (hA : W'.heap[w.heap.size + 4]? = some (.cells #[.int .i64 (i' : Int)] 3 (0, 0))) : LEnv w l A c en ops i' W' :=
  ⟨h.hb.grown hg (by have := h.lt; omega) (fun k hk => by injection hk with hk; omega),
   blk_grown h.hL hg (by simp), blk_grown h.hE hg (by simp), blk_grown h.hR hg (by simp), blk_grown h.hO hg (by simp), hA⟩
theorem grown_setCell (W : World) (p : Addr) (v : Value) : W.grownBy (W.setCell p v) (some p.block) :=
  ⟨rfl, rfl, rfl, by simp [World.setCell], fun k _ hk => Below.heap_setCell W p v k (fun e => hk (by rw [e]))⟩
theorem LEnv.setOp (h : LEnv w l A c en ops i W) (j : Nat) (v : Value) : LEnv w l A c en (ops.setIfInBounds j v) i (W.setCell ⟨w.heap.size + 3, j, none⟩ v) := by
  have hg := grown_setCell W ⟨w.heap.size + 3, j, none⟩ v
  exact ⟨h.hb.grown hg (by have := h.lt; omega) (fun k hk => by injection hk with hk; have : w.heap.size + 3 = k := hk; omega),
   blk_grown h.hL hg (by simp), blk_grown h.hE hg (by simp), blk_grown h.hR hg (by simp), blk_set h.hO j v, blk_grown h.hA hg (by simp)⟩
end
def hereP (l : List S43) (en : Int) (i : Nat) : Int := if i < l.length then (rd_T43 l (i : Int)).f1 else en
set_option maxHeartbeats 1000000 in
set_option maxRecDepth 100000 in
theorem here_calls {w W : World} {l : List S43} {A : Option Addr} {c : Nat} {en : Int} {ops : Array Value} {i : Nat} (h : LEnv w l A c en ops i W) (hC : Kd.C k43 w A l.length l) (hl : l.length ≤ 1000000000000) :
    Calls Tryz.prog 28 #[.pointer (some ⟨w.heap.size + 4, 0, none⟩), .pointer (some ⟨w.heap.size, 0, none⟩), .pointer (some ⟨w.heap.size + 1, 0, none⟩)] W fun e w' => e = .returned (.int .i64 (hereP l en i)) ∧ w' = W := by
  have hu53 := Tryz.underlying43
  have HC := Aside0.mk (Kd.C_below hC h.hb)
  have c1 := cell_of_one h.hL
  have c2 := cell_of_one h.hE
  have c3 := cell_of_one h.hA
  generalize w.heap.size = b at c1 c2 c3 ⊢
  clear h hC
  unfold hereP
  by_cases hi : i < l.length
  · rw [if_pos hi]
    obtain ⟨ad, hA, hx0, hx1, hx2, hx3⟩ := at_T43 HC.out (i : Int) (by omega) (by omega)
    subst hA
    rw [Int.toNat_natCast] at hx0 hx1 hx2 hx3
    go_enter Tryz.func28, Tryz.ntmps28
    go_wp2
    go_ret
    exact ⟨rfl, rfl⟩
  · rw [if_neg hi]
    go_enter Tryz.func28, Tryz.ntmps28
    go_wp2
    go_ret
    exact ⟨rfl, rfl⟩
theorem load53 {W : World} {p : Addr} {x y z t : Value} (hx : W.cell? p = some x) (hy : W.cell? ⟨p.block, p.off + 1, none⟩ = some y) (hz : W.cell? ⟨p.block, p.off + 2, none⟩ = some z) (ht : W.cell? ⟨p.block, p.off + 3, none⟩ = some t) : (loadVar 43 p).run Tryz.prog W = .ok (.agg #[x, y, z, t]) W := by
  have hu53 := Tryz.underlying43
  go_simp
theorem results_40 (tmps : Array Value) (W : World) (p : Nat) (x y z t u : Value) (h4 : tmps[4]?.getD undef = .pointer (some ⟨p, 0, none⟩)) (h5 : tmps[5]?.getD undef = u) (hh : W.heap[p]? = some (.cells #[x, y, z, t] 43 (0, 0))) :
    (results Tryz.f29 tmps).run Tryz.prog W = .ok (.tuple #[.agg #[x, y, z, t], u]) W := by
  have hr : Tryz.f29.results = #[.cell 4 43, .tmp 5] := by kernel_rfl
  have hl := load53 (p := ⟨p, 0, none⟩) ((blk_cell hh 0).trans rfl) ((blk_cell hh 1).trans rfl) ((blk_cell hh 2).trans rfl) ((blk_cell hh 3).trans rfl)
  unfold results
  rw [hr]
  simp [h4, h5, asAddr, hl]
theorem storeRow {W : World} {p : Nat} {cur : Array Value} (t : TypeId) (u : Value) (seg : List Value) (h : W.heap[p]? = some (.cells cur t (0, 0))) (hs : cur.size = seg.length) (hu : u.cells.toList = seg) (ht : (Tryz.prog.info? t).map (·.size) = some seg.length) (h1 : ∀ q ∈ seg, q.oneCell' = true) :
    ∃ W', (Instr.storeAt t (.pointer (some ⟨p, 0, none⟩)) u).run Tryz.prog W = .ok () W' ∧ W'.heap[p]? = some (.cells seg.toArray t (0, 0)) ∧ W.grownBy W' (some p) := by
  have hrun := run_store_run (P := Tryz.prog) (w := W) (g := p) (o := 0) t u seg h hu ht (by omega) h1
  obtain ⟨cur', h3, h4, h5⟩ := setCells_row seg 0 W cur h (by omega)
  obtain ⟨s1, s2, s3, s4⟩ := setCells_same p seg 0 W
  refine ⟨_, hrun, ?_, ⟨s1, s2, s3, by rw [s4]; exact Nat.le_refl _, fun k _ hk => setCells_far _ _ k (fun he => hk (by rw [he]))⟩⟩
  rw [h3]
  have : cur' = seg.toArray := by
    apply Array.toList_inj.1
    rw [h5, List.drop_eq_nil_of_le (by rw [Array.length_toList]; omega)]; simp
  rw [this]
def takeP (l : List S43) (kind : Int) (i : Nat) : Bool := decide (i < l.length) && decide ((rd_T43 l (i : Int)).f0 = kind)
def tokP (l : List S43) (kind : Int) (i : Nat) : S43 := if takeP l kind i then rd_T43 l (i : Int) else z43
def takeAt (l : List S43) (kind : Int) (i : Nat) : Nat := if takeP l kind i then i + 1 else i
set_option maxHeartbeats 1000000 in
set_option maxRecDepth 100000 in
theorem take_calls {w W : World} {l : List S43} {A : Option Addr} {c : Nat} {en : Int} {ops : Array Value} {i : Nat} (kind : Int) (h : LEnv w l A c en ops i W) (hC : Kd.C k43 w A l.length l) (hl : l.length ≤ 1000000000000) (hcap : l.length ≤ c) :
    Calls Tryz.prog 29 #[.int .i64 kind, .pointer (some ⟨w.heap.size + 4, 0, none⟩), .pointer (some ⟨w.heap.size, 0, none⟩)] W fun e w' => e = .returned (.tuple #[.agg #[.int .i64 (tokP l kind i).f0, .int .i64 (tokP l kind i).f1, .string (tokP l kind i).f2, .int .i64 (tokP l kind i).f3], .bool (takeP l kind i)]) ∧ LEnv w l A c en ops (takeAt l kind i) w' ∧ W.grownBy w' (some (w.heap.size + 4)) := by
  have hu53 := Tryz.underlying43
  have HH := Aside0.mk h
  have c1 := cell_of_one h.hL
  have c3 := cell_of_one h.hA
  have hlt := h.lt
  have hlt0 : w.heap.size < W.heap.size := by omega
  by_cases hi : i < l.length
  · obtain ⟨ad, hA, hx0, hx1, hx2, hx3⟩ := at_T43 (Kd.C_below hC (h.alloc (.cells #[.int .i64 0, .int .i64 0, .string ⟨#[]⟩, .int .i64 0] 43)).hb) (i : Int) (by omega) (by omega)
    subst hA
    have hbk : ad.block < w.heap.size := by
      obtain ⟨ad', hA', hw0, _⟩ := at_T43 hC (i : Int) (by omega) (by omega)
      injection hA' with hA'
      subst hA'
      have := World.block_lt_of_cell? w _ hw0
      have h2 : (ad.add ((i : Int).toNat * 4)).block = ad.block := by unfold Addr.add; split <;> rfl
      rw [h2] at this
      exact this
    have hC0 := hC
    clear h hC
    rw [Int.toNat_natCast] at hx0 hx1 hx2 hx3
    by_cases hk : (rd_T43 l (i : Int)).f0 = kind
    · have ht : takeP l kind i = true := by simp [takeP, hi, hk]
      unfold tokP takeAt
      rw [ht, if_pos rfl, if_pos rfl]
      have hb : ((rd_T43 l (i : Int)).f0 != kind) = false := by simp [hk]
      clear hk
      have HC := Aside0.mk hC0
      have HK := Aside0.mk (Nat.lt_of_lt_of_le hbk (Nat.le_refl _))
      have hw1 : IntKind.i64.wrap ((i : Int) + 1) = ((i + 1 : Nat) : Int) := by rw [wrap_small _ (by omega) (by omega)]; rfl
      have hw2 : IntKind.i64.wrap (((i + 1 : Nat) : Int) - 1) = (i : Int) := by rw [wrap_small _ (by omega) (by omega)]; omega
      have HZ := blk_new W (.cells #[.int .i64 0, .int .i64 0, .string ⟨#[]⟩, .int .i64 0] 43)
      have HW4 := HH.out.alloc (.cells #[.int .i64 0, .int .i64 0, .string ⟨#[]⟩, .int .i64 0] 43)
      obtain ⟨W5, hst5, hat5, hg5⟩ := storeRow 3 (.int .i64 ((i + 1 : Nat) : Int)) [.int .i64 ((i + 1 : Nat) : Int)] HW4.hA rfl rfl (by kernel_rfl) (by simp [Value.oneCell'])
      have HE5 := HW4.setAt hg5 hat5
      obtain ⟨ad', hA', hy0, hy1, hy2, hy3⟩ := at_T43 (Kd.C_below HC.out HE5.hb) (i : Int) (by omega) (by omega)
      injection hA' with hA'
      subst hA'
      rw [Int.toNat_natCast] at hy0 hy1 hy2 hy3
      have d1 := cell_of_one HE5.hL
      have d3 := cell_of_one HE5.hA
      obtain ⟨W6, hst6, hat6, hg6⟩ := storeRow 43 (.agg #[.int .i64 (rd_T43 l (i : Int)).f0, .int .i64 (rd_T43 l (i : Int)).f1, .string (rd_T43 l (i : Int)).f2, .int .i64 (rd_T43 l (i : Int)).f3]) [.int .i64 (rd_T43 l (i : Int)).f0, .int .i64 (rd_T43 l (i : Int)).f1, .string (rd_T43 l (i : Int)).f2, .int .i64 (rd_T43 l (i : Int)).f3] (blk_grown HZ hg5 (fun e => by injection e with e; omega)) rfl rfl (by kernel_rfl) (by simp [Value.oneCell'])
      have HST5 := Aside0.mk hst5
      have HST6 := Aside0.mk hst6
      have HA6 := Aside0.mk hat6
      have HE6 := Aside0.mk (HE5.grown hg6 (fun k e => by injection e with e; omega))
      have HG6 := Aside0.mk (show W.grownBy W6 (some (w.heap.size + 4)) from
        ⟨hg6.os.trans hg5.os, hg6.tape.trans hg5.tape, hg6.output.trans hg5.output, Nat.le_trans (Nat.le_trans (by simp) hg5.size) hg6.size, fun k hk1 hk2 => (hg6.block k (Nat.lt_of_lt_of_le (by simp; omega) hg5.size) (fun e => by injection e with e; omega)).trans ((hg5.block k (by simp; omega) hk2).trans (Below.heap_alloc W _ k hk1))⟩)
      clear hst5 hat5 hg5 hst6 hat6 hg6 HZ HW4 HE5 hx1 hx2 hx3 hC0
      go_enter Tryz.func29, Tryz.ntmps29
      go_wp2_with (first | ((with_reducible refine gate_ (.store 3 (.tmp 1) (.tmp 21)) rfl ?_); refine store_step rfl rfl 3 (.tmp 1) (.tmp 21) rfl rfl rfl HST5.out ?_) | ((with_reducible refine gate_ (.store 43 (.tmp 4) (.tmp 26)) rfl ?_); refine store_step rfl rfl 43 (.tmp 4) (.tmp 26) rfl rfl rfl HST6.out ?_))
      (try simp only [Exit.inBlock, Exit.then])
      refine bodyPost_ret_by (results_40 _ _ W.heap.size _ _ _ _ (.bool true) rfl rfl HA6.out) rfl ?_
      exact ⟨rfl, HE6.out, HG6.out⟩
    · have ht : takeP l kind i = false := by simp [takeP, hk]
      unfold tokP takeAt
      rw [ht, if_neg (by simp), if_neg (by simp)]
      have hb : ((rd_T43 l (i : Int)).f0 != kind) = true := by simpa using hk
      clear hk
      go_enter Tryz.func29, Tryz.ntmps29
      go_wp2
      (try simp only [Exit.inBlock, Exit.then])
      refine bodyPost_ret_by (results_40 _ _ W.heap.size (.int .i64 0) (.int .i64 0) (.string ⟨#[]⟩) (.int .i64 0) (.bool false) rfl rfl (blk_new _ _)) rfl ?_
      exact ⟨rfl, HH.out.alloc _, grown_of_below (below_alloc (Below.refl _ _) _) _⟩
  · have ht : takeP l kind i = false := by simp [takeP, hi]
    unfold tokP takeAt
    rw [ht, if_neg (by simp), if_neg (by simp)]
    clear h hC
    go_enter Tryz.func29, Tryz.ntmps29
    go_wp2
    (try simp only [Exit.inBlock, Exit.then])
    refine bodyPost_ret_by (results_40 _ _ W.heap.size (.int .i64 0) (.int .i64 0) (.string ⟨#[]⟩) (.int .i64 0) (.bool false) rfl rfl (blk_new _ _)) rfl ?_
    exact ⟨rfl, HH.out.alloc _, grown_of_below (below_alloc (Below.refl _ _) _) _⟩
def verbP (s : ByteArray) : Int := (script_verb.f s).getD 0
def classP (s : ByteArray) : Int := (script_class.f 8 s).getD 0
theorem verb_any (s : ByteArray) : script_verb.f s = some (verbP s) := by
  unfold verbP script_verb.f
  repeat' split
  all_goals rfl
theorem title_any (c : Int) : ∃ t, script_title.f c = some t := by
  unfold script_title.f
  repeat' split
  all_goals exact ⟨_, rfl⟩
theorem class_l0 (s : ByteArray) : ∀ (k : Nat) (c : Int), 1 ≤ c → c ≤ 5 → 6 ≤ (k : Int) + c → ∃ r, script_class.l0 k s c = some r
  | 0, c, h1, h3, h2 => absurd h2 (by omega)
  | k + 1, c, h1, h3, h2 => by
    obtain ⟨t, ht⟩ := title_any c
    unfold script_class.l0
    by_cases h4 : c ≤ 4
    · rw [if_pos h4, ht]
      show ∃ r, (if t.toList = s.toList then some c else script_class.l0 k s (wrap64 (c + 1))) = some r
      split
      · exact ⟨_, rfl⟩
      · have hw : wrap64 (c + 1) = c + 1 := by unfold wrap64; omega
        rw [hw]
        exact class_l0 s k (c + 1) (by omega) (by omega) (by omega)
    · rw [if_neg h4]; exact ⟨_, rfl⟩
theorem class_any (s : ByteArray) : script_class.f 8 s = some (classP s) := by
  obtain ⟨r, h⟩ := class_l0 s 8 1 (by omega) (by omega) (by omega)
  unfold classP script_class.f
  rw [h]; rfl
abbrev LRes := Int × ByteArray × Int × List S64 × Int × Int × Int × Int × Int
def errR (pos e : Int) : LRes := (0, ⟨#[]⟩, 0, [], 0, 0, 0, pos, e)
def finR (l : List S43) (en : Int) (kind : Int) (name : ByteArray) (n : Int) (es : List S64) (cls at0 nat : Int) (i : Nat) : LRes :=
  if i < l.length then errR (hereP l en i) 3 else (kind, name, n, es, cls, at0, nat, 0, 0)
/-- The edges from token i on: where they end, or the place and the error. -/
def lineEdges (l : List S43) (en nN : Int) : Nat → Nat → List S64 → Int × Int × List S64 × Nat
  | 0, i, acc => (0, 0, acc, i)
  | b + 1, i, acc =>
    if i < l.length then
      if takeP l 2 i = true then
        if nN ≤ (rd_T43 l (i : Int)).f3 then ((rd_T43 l (i : Int)).f1, 4, acc, i)
        else if takeP l 3 (i + 1) = true ∧ (rd_T43 l ((i + 1 : Nat) : Int)).f2.toList = [45] then
          if takeP l 2 (i + 2) = true then
            if nN ≤ (rd_T43 l ((i + 2 : Nat) : Int)).f3 then ((rd_T43 l ((i + 2 : Nat) : Int)).f1, 4, acc, i)
            else lineEdges l en nN b (i + 3) (acc ++ [⟨(rd_T43 l (i : Int)).f3, (rd_T43 l ((i + 2 : Nat) : Int)).f3⟩])
          else (hereP l en (i + 2), 3, acc, i)
        else (hereP l en (i + 1), 3, acc, i)
      else (hereP l en i, 3, acc, i)
    else (0, 0, acc, i)
def lineLoad (l : List S43) (en : Int) (name : ByteArray) (at0 nat : Int) : LRes :=
  if takeP l 2 2 = true then
    if (tokP l 2 2).f3 > 1000 then errR (tokP l 2 2).f1 5
    else if (lineEdges l en (tokP l 2 2).f3 l.length 3 []).2.1 = 0 then
      if (graphNormal (tokP l 2 2).f3 (lineEdges l en (tokP l 2 2).f3 l.length 3 []).2.2.1).2.2 = 0 then
        (1, name, (graphNormal (tokP l 2 2).f3 (lineEdges l en (tokP l 2 2).f3 l.length 3 []).2.2.1).1, (graphNormal (tokP l 2 2).f3 (lineEdges l en (tokP l 2 2).f3 l.length 3 []).2.2.1).2.1, 0, at0, nat, 0, 0)
      else errR at0 (graphNormal (tokP l 2 2).f3 (lineEdges l en (tokP l 2 2).f3 l.length 3 []).2.2.1).2.2
    else errR (lineEdges l en (tokP l 2 2).f3 l.length 3 []).1 (lineEdges l en (tokP l 2 2).f3 l.length 3 []).2.1
  else errR (hereP l en 2) 3
def lineP (l : List S43) (en : Int) : LRes :=
  if takeP l 1 0 = true ∧ ¬ verbP (tokP l 1 0).f2 = 0 then
    if takeP l 1 1 = true then
      if verbP (tokP l 1 0).f2 = 2 then
        if takeP l 1 2 = true ∧ ¬ classP (tokP l 1 2).f2 = 0 then finR l en 2 (tokP l 1 1).f2 0 [] (classP (tokP l 1 2).f2) (hereP l en 0) (hereP l en 1) 3
        else errR (hereP l en 2) 3
      else if verbP (tokP l 1 0).f2 = 1 then lineLoad l en (tokP l 1 1).f2 (hereP l en 0) (hereP l en 1)
      else finR l en (verbP (tokP l 1 0).f2) (tokP l 1 1).f2 0 [] 0 (hereP l en 0) (hereP l en 1) 2
    else errR (hereP l en 1) 3
  else errR (hereP l en 0) 3
def script_line.f (l0 : List S43) (a1 : Int) : Option LRes := if l0.length ≤ 1000000000000 then some (lineP l0 a1) else none
theorem load34 {W : World} {p : Nat} {x0 x1 x2 x3 x4 x5 x6 : Value} (h : W.heap[p]? = some (.cells #[x0, x1, x2, x3, x4, x5, x6] 36 (0, 0))) : (loadVar 36 ⟨p, 0, none⟩).run Tryz.prog W = .ok (.agg #[x0, x1, x2, x3, x4, x5, x6]) W := by
  have hu34 := Tryz.underlying36
  have hu31 := Tryz.underlying34
  have h0 := (blk_cell h 0).trans rfl
  have h1 := (blk_cell h 1).trans rfl
  have h2 := (blk_cell h 2).trans rfl
  have h3 := (blk_cell h 3).trans rfl
  have h4 := (blk_cell h 4).trans rfl
  have h5 := (blk_cell h 5).trans rfl
  have h6 := (blk_cell h 6).trans rfl
  go_simp
theorem results_19 (tmps : Array Value) (W : World) (p : Nat) (x0 x1 x2 x3 x4 x5 x6 y z : Value) (h4 : tmps[4]?.getD undef = .pointer (some ⟨p, 0, none⟩)) (h5 : tmps[5]?.getD undef = y) (h6 : tmps[6]?.getD undef = z) (hh : W.heap[p]? = some (.cells #[x0, x1, x2, x3, x4, x5, x6] 36 (0, 0))) :
    (results Tryz.f11 tmps).run Tryz.prog W = .ok (.tuple #[.agg #[x0, x1, x2, x3, x4, x5, x6], y, z]) W := by
  have hr : Tryz.f11.results = #[.cell 4 36, .tmp 5, .tmp 6] := by kernel_rfl
  have hl := load34 hh
  unfold results
  rw [hr]
  simp [h4, h5, h6, asAddr, hl]
theorem setOp_run {w W : World} {l : List S43} {A : Option Addr} {c : Nat} {en : Int} {ops : Array Value} {i : Nat} (h : LEnv w l A c en ops i W) (t : TypeId) (j : Nat) (v : Value) (seg : List Value) (hj : j + seg.length ≤ ops.size) (hu : v.cells.toList = seg) (ht : (Tryz.prog.info? t).map (·.size) = some seg.length) (h1 : ∀ q ∈ seg, q.oneCell' = true) (ops' : Array Value) (ho : ops'.toList = ops.toList.take j ++ seg ++ ops.toList.drop (j + seg.length)) :
    ∃ W', (Instr.storeAt t (.pointer (some ⟨w.heap.size + 3, j, none⟩)) v).run Tryz.prog W = .ok () W' ∧ LEnv w l A c en ops' i W' ∧ W.grownBy W' (some (w.heap.size + 3)) := by
  have hrun := run_store_run (P := Tryz.prog) (w := W) (g := w.heap.size + 3) (o := j) t v seg h.hO hu ht hj h1
  obtain ⟨cur', h3, h4, h5⟩ := setCells_row seg j W ops h.hO hj
  obtain ⟨s1, s2, s3, s4⟩ := setCells_same (w.heap.size + 3) seg j W
  have hg : W.grownBy (W.setCells (w.heap.size + 3) j seg) (some (w.heap.size + 3)) := ⟨s1, s2, s3, by rw [s4]; exact Nat.le_refl _, fun k _ hk => setCells_far _ _ k (fun he => hk (by rw [he]))⟩
  have he : cur' = ops' := Array.toList_inj.1 (by rw [h5, ho])
  subst he
  exact ⟨_, hrun, ⟨h.hb.grown hg (by have := h.lt; omega) (fun k hk => by injection hk with hk; omega), blk_grown h.hL hg (by simp), blk_grown h.hE hg (by simp), blk_grown h.hR hg (by simp), h3, blk_grown h.hA hg (by simp)⟩, hg⟩
theorem setOp_step {ops0 : Array Oper} {rest : List Oper} {o : Oper} {a : Act} {Q : Exit → Act → World → Prop} {w W : World} {l : List S43} {A : Option Addr} {c : Nat} {en : Int} {ops : Array Value} {i : Nat} (h : LEnv w l A c en ops i W) (t : TypeId) (j : Nat) (v : Value) (seg : List Value) (p x : Operand) (ops' : Array Value)
    (hj : j + seg.length ≤ ops.size) (hu : v.cells.toList = seg) (ht : (Tryz.prog.info? t).map (·.size) = some seg.length) (h1 : ∀ q ∈ seg, q.oneCell' = true) (hops : ops'.toList = ops.toList.take j ++ seg ++ ops.toList.drop (j + seg.length))
    (hN : o.dst = none) (hgd : o.guard = none) (ho : o.op = .store t p x) (haddr : a.eval p = .pointer (some ⟨w.heap.size + 3, j, none⟩)) (hx : a.eval x = v)
    (hk : ∀ W', LEnv w l A c en ops' i W' → W.grownBy W' (some (w.heap.size + 3)) → wpList Tryz.prog ops0 Q rest a W') : wpList Tryz.prog ops0 Q (o :: rest) a W := by
  obtain ⟨W', hst, hE, hg⟩ := setOp_run h t j v seg hj hu ht h1 ops' hops
  exact store_step hN hgd t p x ho haddr hx hst (hk W' hE hg)
theorem lenv_start (w : World) (l : List S43) (A : Option Addr) (c : Nat) (en : Int) :
    LEnv w l A c en #[.int .i64 0, .string ⟨#[]⟩, .int .i64 0, .slice none 0 0, .int .i64 0, .int .i64 0, .int .i64 0] 0 (((((w.alloc (.cells #[.slice A l.length c] 39)).alloc (.cells #[.int .i64 en] 3)).alloc (.cells #[.int .i64 0, .string ⟨#[]⟩, .int .i64 0, .slice none 0 0, .int .i64 0, .int .i64 0, .int .i64 0] 36)).alloc (.cells #[.int .i64 0, .string ⟨#[]⟩, .int .i64 0, .slice none 0 0, .int .i64 0, .int .i64 0, .int .i64 0] 36)).alloc (.cells #[.int .i64 0] 3)) := by
  have e1 : ∀ (v : World) (o : Obj), (v.alloc o).heap.size = v.heap.size + 1 := fun v o => by show (v.heap.push o).size = _; exact Array.size_push _
  refine ⟨below_alloc (below_alloc (below_alloc (below_alloc (below_alloc (Below.refl _ _) _) _) _) _) _, ?_, ?_, ?_, ?_, ?_⟩
  · exact blk_alloc (blk_alloc (blk_alloc (blk_alloc (blk_new _ _) _) _) _) _
  · exact blk_alloc (blk_alloc (blk_alloc (by have := blk_new (w.alloc (.cells #[.slice A l.length c] 39)) (.cells #[.int .i64 en] 3); simp only [e1] at this; exact this) _) _) _
  · refine blk_alloc (blk_alloc ?_ _) _
    have := blk_new ((w.alloc (.cells #[.slice A l.length c] 39)).alloc (.cells #[.int .i64 en] 3)) (.cells #[.int .i64 0, .string ⟨#[]⟩, .int .i64 0, .slice none 0 0, .int .i64 0, .int .i64 0, .int .i64 0] 36)
    simp only [e1] at this
    exact this
  · refine blk_alloc ?_ _
    have := blk_new (((w.alloc (.cells #[.slice A l.length c] 39)).alloc (.cells #[.int .i64 en] 3)).alloc (.cells #[.int .i64 0, .string ⟨#[]⟩, .int .i64 0, .slice none 0 0, .int .i64 0, .int .i64 0, .int .i64 0] 36)) (.cells #[.int .i64 0, .string ⟨#[]⟩, .int .i64 0, .slice none 0 0, .int .i64 0, .int .i64 0, .int .i64 0] 36)
    simp only [e1] at this
    exact this
  · have := blk_new ((((w.alloc (.cells #[.slice A l.length c] 39)).alloc (.cells #[.int .i64 en] 3)).alloc (.cells #[.int .i64 0, .string ⟨#[]⟩, .int .i64 0, .slice none 0 0, .int .i64 0, .int .i64 0, .int .i64 0] 36)).alloc (.cells #[.int .i64 0, .string ⟨#[]⟩, .int .i64 0, .slice none 0 0, .int .i64 0, .int .i64 0, .int .i64 0] 36)) (.cells #[.int .i64 0] 3)
    simp only [e1] at this
    exact this
theorem one1 (v : Value) (h : v.oneCell' = true) : ∀ q ∈ [v], q.oneCell' = true := by simp [h]
theorem lenv_abs {w W : World} {l : List S43} {A : Option Addr} {c : Nat} {en : Int} {ops : Array Value} {i : Nat} {code : Code} {Q : Exit → Act → World → Prop} {a : Act} (h : LEnv w l A c en ops i W) (k : ∀ W9, LEnv w l A c en ops i W9 → Code.wp Tryz.prog code Q a W9) : Code.wp Tryz.prog code Q a W := k W h
theorem zero_cells {w W : World} {l : List S43} {A : Option Addr} {c : Nat} {en : Int} {ops : Array Value} {i : Nat} (h : LEnv w l A c en ops i W) :
    W.cell? ⟨w.heap.size + 2, 0, none⟩ = some (.int .i64 0) ∧ W.cell? ⟨w.heap.size + 2, 1, none⟩ = some (.string ⟨#[]⟩) ∧ W.cell? ⟨w.heap.size + 2, 2, none⟩ = some (.int .i64 0) ∧ W.cell? ⟨w.heap.size + 2, 3, none⟩ = some (.slice none 0 0) ∧ W.cell? ⟨w.heap.size + 2, 4, none⟩ = some (.int .i64 0) ∧ W.cell? ⟨w.heap.size + 2, 5, none⟩ = some (.int .i64 0) ∧ W.cell? ⟨w.heap.size + 2, 6, none⟩ = some (.int .i64 0) :=
  ⟨(blk_cell h.hR 0).trans rfl, (blk_cell h.hR 1).trans rfl, (blk_cell h.hR 2).trans rfl, (blk_cell h.hR 3).trans rfl, (blk_cell h.hR 4).trans rfl, (blk_cell h.hR 5).trans rfl, (blk_cell h.hR 6).trans rfl⟩
theorem LEnv.setR {w W : World} {l : List S43} {A : Option Addr} {c : Nat} {en : Int} {ops : Array Value} {i : Nat} (h : LEnv w l A c en ops i W) (j : Nat) (v : Value) (hz : (#[.int .i64 0, .string ⟨#[]⟩, .int .i64 0, .slice none 0 0, .int .i64 0, .int .i64 0, .int .i64 0] : Array Value).setIfInBounds j v = #[.int .i64 0, .string ⟨#[]⟩, .int .i64 0, .slice none 0 0, .int .i64 0, .int .i64 0, .int .i64 0]) :
    LEnv w l A c en ops i (W.setCell ⟨w.heap.size + 2, j, none⟩ v) := by
  have hg := grown_setCell W ⟨w.heap.size + 2, j, none⟩ v
  exact ⟨h.hb.grown hg (by have := h.lt; omega) (fun k hk => by injection hk with hk; have : w.heap.size + 2 = k := hk; omega),
   blk_grown h.hL hg (by simp), blk_grown h.hE hg (by simp), blk_put h.hR j v hz, blk_grown h.hO hg (by simp), blk_grown h.hA hg (by simp)⟩
theorem LEnv.set7 {w W : World} {l : List S43} {A : Option Addr} {c : Nat} {en : Int} {ops : Array Value} {i : Nat} (h : LEnv w l A c en ops i W) : LEnv w l A c en ops i (((((((W.setCell ⟨w.heap.size + 2, 0, none⟩ (.int .i64 0)).setCell ⟨w.heap.size + 2, 1, none⟩ (.string ⟨#[]⟩)).setCell ⟨w.heap.size + 2, 2, none⟩ (.int .i64 0)).setCell ⟨w.heap.size + 2, 3, none⟩ (.slice none 0 0)).setCell ⟨w.heap.size + 2, 4, none⟩ (.int .i64 0)).setCell ⟨w.heap.size + 2, 5, none⟩ (.int .i64 0)).setCell ⟨w.heap.size + 2, 6, none⟩ (.int .i64 0)).drew :=
  (((((((h.setR 0 _ rfl).setR 1 _ rfl).setR 2 _ rfl).setR 3 _ rfl).setR 4 _ rfl).setR 5 _ rfl).setR 6 _ rfl).drew
theorem setR_step {ops0 : Array Oper} {rest : List Oper} {o : Oper} {a : Act} {Q : Exit → Act → World → Prop} {w W : World} {l : List S43} {A : Option Addr} {c : Nat} {en : Int} {ops : Array Value} {i : Nat} (h : LEnv w l A c en ops i W) (p x : Operand)
    (hN : o.dst = none) (hgd : o.guard = none) (ho : o.op = .store 36 p x) (haddr : a.eval p = .pointer (some ⟨w.heap.size + 2, 0, none⟩)) (hx : a.eval x = .agg #[.int .i64 0, .string ⟨#[]⟩, .int .i64 0, .slice none 0 0, .int .i64 0, .int .i64 0, .int .i64 0])
    (hk : ∀ W', LEnv w l A c en ops i W' → wpList Tryz.prog ops0 Q rest a W') : wpList Tryz.prog ops0 Q (o :: rest) a W := by
  obtain ⟨W', hst, hat, hg⟩ := storeRow 36 (.agg #[.int .i64 0, .string ⟨#[]⟩, .int .i64 0, .slice none 0 0, .int .i64 0, .int .i64 0, .int .i64 0]) [.int .i64 0, .string ⟨#[]⟩, .int .i64 0, .slice none 0 0, .int .i64 0, .int .i64 0, .int .i64 0] h.hR rfl rfl (by kernel_rfl) (by simp [Value.oneCell'])
  refine store_step hN hgd 36 p x ho haddr hx hst (hk W' ?_)
  exact ⟨h.hb.grown hg (by have := h.lt; omega) (fun k hk => by injection hk with hk; omega),
   blk_grown h.hL hg (by simp), blk_grown h.hE hg (by simp), hat, blk_grown h.hO hg (by simp), blk_grown h.hA hg (by simp)⟩
theorem line_err {w W : World} {l : List S43} {A : Option Addr} {c : Nat} {en : Int} {ops : Array Value} {i : Nat} {a : Act} {pos e : Int} (h : LEnv w l A c en ops i W) (h4 : a.tmps[4]?.getD undef = .pointer (some ⟨w.heap.size + 2, 0, none⟩)) (h5 : a.tmps[5]?.getD undef = .int .i64 pos) (h6 : a.tmps[6]?.getD undef = .int .i64 e) (hd : a.defers = []) :
    bodyPost Tryz.prog Tryz.f11 (fun r w' => ∃ v3_ : Value, r = .returned (.tuple #[.agg #[.int .i64 0, .string ⟨#[]⟩, .int .i64 0, v3_, .int .i64 0, .int .i64 0, .int .i64 0], .int .i64 pos, .int .i64 e]) ∧ Kd.R k64 64 w' w.heap.size (fun _ => True) v3_ [] ∧ Below w.heap.size w w') .ret a W :=
  bodyPost_ret_by (results_19 _ _ (w.heap.size + 2) _ _ _ _ _ _ _ _ _ h4 h5 h6 h.hR) hd ⟨_, rfl, Kd.R_nil _ _ _ _ _, h.hb⟩
theorem finR_step {ops0 : Array Oper} {rest : List Oper} {o : Oper} {a : Act} {Q : Exit → Act → World → Prop} {w W : World} {l : List S43} {A : Option Addr} {c : Nat} {en : Int} {ops : Array Value} {i : Nat} (h : LEnv w l A c en ops i W) (x0 x1 x2 x3 x4 x5 x6 : Value) (hx0 : x0.cells = #[x0] ∧ x0.oneCell' = true) (hx1 : x1.cells = #[x1] ∧ x1.oneCell' = true) (hx2 : x2.cells = #[x2] ∧ x2.oneCell' = true) (hx3 : x3.cells = #[x3] ∧ x3.oneCell' = true) (hx4 : x4.cells = #[x4] ∧ x4.oneCell' = true) (hx5 : x5.cells = #[x5] ∧ x5.oneCell' = true) (hx6 : x6.cells = #[x6] ∧ x6.oneCell' = true) (p x : Operand)
    (hN : o.dst = none) (hgd : o.guard = none) (ho : o.op = .store 36 p x) (haddr : a.eval p = .pointer (some ⟨w.heap.size + 2, 0, none⟩)) (hx : a.eval x = .agg #[x0, x1, x2, x3, x4, x5, x6])
    (hk : ∀ W', W'.heap[w.heap.size + 2]? = some (.cells #[x0, x1, x2, x3, x4, x5, x6] 36 (0, 0)) → Below w.heap.size w W' → W.grownBy W' (some (w.heap.size + 2)) → wpList Tryz.prog ops0 Q rest a W') : wpList Tryz.prog ops0 Q (o :: rest) a W := by
  obtain ⟨W', hst, hat, hg⟩ := storeRow 36 (.agg #[x0, x1, x2, x3, x4, x5, x6]) [x0, x1, x2, x3, x4, x5, x6] h.hR rfl (by simp [Value.cells, hx0.1, hx1.1, hx2.1, hx3.1, hx4.1, hx5.1, hx6.1]) (by kernel_rfl) (by simp [hx0.2, hx1.2, hx2.2, hx3.2, hx4.2, hx5.2, hx6.2])
  exact store_step hN hgd 36 p x ho haddr hx hst (hk W' hat (h.hb.grown hg (by have := h.lt; omega) (fun k hk => by injection hk with hk; omega)) hg)
theorem lenv_abs2 {w W : World} {l : List S43} {A : Option Addr} {c : Nat} {en : Int} {ops : Array Value} {i : Nat} {code : Code} {Q : Exit → Act → World → Prop} {a : Act} {b : Nat} {o : Obj} (h : LEnv w l A c en ops i W) (hb : W.heap[b]? = some o) (k : ∀ W9, LEnv w l A c en ops i W9 → W9.heap[b]? = some o → Code.wp Tryz.prog code Q a W9) : Code.wp Tryz.prog code Q a W := k W h hb
/-- The world of the edges' loop: the line's; n's token; the edges so far. -/
structure LP (w : World) (l : List S43) (A : Option Addr) (c : Nat) (en : Int) (ops : Array Value) (bn : Nat) (tok : S43) (v : Value) (acc : List S64) (i : Nat) (W : World) : Prop where
  env : LEnv w l A c en ops i W
  lt : w.heap.size + 4 < bn
  bnh : W.heap[bn]? = some (.cells #[.int .i64 tok.f0, .int .i64 tok.f1, .string tok.f2, .int .i64 tok.f3] 43 (0, 0))
  row : Kd.R k64 64 W (bn + 1) (fun _ => True) v acc
structure LQ (w : World) (l : List S43) (A : Option Addr) (c : Nat) (en : Int) (ops : Array Value) (bn : Nat) (tok : S43) (v : Value) (acc : List S64) (arr : Nat) (x y : Int) (i : Nat) (W : World) : Prop where
  lp : LP w l A c en ops bn tok v acc i W
  lt2 : bn < arr
  arrh : W.heap[arr]? = some (.cells #[.int .i64 x, .int .i64 y] 79 (0, 0))
section
variable {w W : World} {l : List S43} {A : Option Addr} {c : Nat} {en : Int} {ops : Array Value} {bn arr : Nat} {tok : S43} {v : Value} {acc : List S64} {x y : Int} {i : Nat}
theorem LP.below {W' : World} (h : LP w l A c en ops bn tok v acc i W) (hb : Below W.heap.size W W') : LP w l A c en ops bn tok v acc i W' := ⟨h.env.below hb, h.lt, blk_below h.bnh hb, Kd.R_below h.row hb⟩
theorem LP.alloc (h : LP w l A c en ops bn tok v acc i W) (o : Obj) : LP w l A c en ops bn tok v acc i (W.alloc o) := h.below (below_alloc (Below.refl _ _) o)
theorem LP.drewN (h : LP w l A c en ops bn tok v acc i W) (n : Nat) : LP w l A c en ops bn tok v acc i (W.drewN n) := h.below (pw_below_drewN (Below.refl _ _) n)
theorem LQ.below {W' : World} (h : LQ w l A c en ops bn tok v acc arr x y i W) (hb : Below W.heap.size W W') : LQ w l A c en ops bn tok v acc arr x y i W' := ⟨h.lp.below hb, h.lt2, blk_below h.arrh hb⟩
theorem LQ.alloc (h : LQ w l A c en ops bn tok v acc arr x y i W) (o : Obj) : LQ w l A c en ops bn tok v acc arr x y i (W.alloc o) := h.below (below_alloc (Below.refl _ _) o)
theorem LQ.drewN (h : LQ w l A c en ops bn tok v acc arr x y i W) (n : Nat) : LQ w l A c en ops bn tok v acc arr x y i (W.drewN n) := h.below (pw_below_drewN (Below.refl _ _) n)
theorem row39_ne (h : Kd.R k64 64 W bn (fun _ => True) v acc) {g : Nat} {cs : Array Value} {t : TypeId} (hg : W.heap[g]? = some (.cells cs t (0, 0))) (ht : t ≠ 64) : some g ≠ v.ownBlock := by
  intro he
  obtain ⟨_, inner, ho, _⟩ := h
  obtain ⟨cells, hc⟩ := own_typed ho g he.symm
  rw [hg] at hc
  injection hc with hc
  injection hc with _ hc _
  exact ht hc
theorem LP.start (h : LEnv w l A c en ops i W) : LP w l A c en ops W.heap.size tok (.slice none 0 0) [] i (W.alloc (.cells #[.int .i64 tok.f0, .int .i64 tok.f1, .string tok.f2, .int .i64 tok.f3] 43)) :=
  ⟨h.alloc _, h.lt, blk_new _ _, Kd.R_nil _ _ _ _ _⟩
theorem LQ.start (h : LP w l A c en ops bn tok v acc i W) : LQ w l A c en ops bn tok v acc W.heap.size 0 0 i (W.alloc (.cells #[.int .i64 0, .int .i64 0] 79)) :=
  ⟨h.alloc _, blk_lt h.bnh, blk_new _ _⟩
theorem LQ.take_calls (kind : Int) (h : LQ w l A c en ops bn tok v acc arr x y i W) (hC : Kd.C k43 w A l.length l) (hl : l.length ≤ 1000000000000) (hcap : l.length ≤ c) :
    Calls Tryz.prog 29 #[.int .i64 kind, .pointer (some ⟨w.heap.size + 4, 0, none⟩), .pointer (some ⟨w.heap.size, 0, none⟩)] W fun e w' => e = .returned (.tuple #[.agg #[.int .i64 (tokP l kind i).f0, .int .i64 (tokP l kind i).f1, .string (tokP l kind i).f2, .int .i64 (tokP l kind i).f3], .bool (takeP l kind i)]) ∧ LQ w l A c en ops bn tok v acc arr x y (takeAt l kind i) w' := by
  refine (Q.take_calls kind h.lp.env hC hl hcap).mono ?_
  rintro e w' ⟨rfl, hE, hg⟩
  have h1 := h.lp.lt
  have h2 := h.lt2
  refine ⟨rfl, ⟨hE, h.lp.lt, blk_grown h.lp.bnh hg (by intro e; injection e with e; omega), Kd.R_grown1 h.lp.row rfl hg (fun he => ?_)⟩, h.lt2, blk_grown h.arrh hg (by intro e; injection e with e; omega)⟩
  have := Kd.R_base h.lp.row _ he.symm
  omega
theorem LQ.set_step {ops0 : Array Oper} {rest : List Oper} {o : Oper} {a : Act} {Q : Exit → Act → World → Prop} (h : LQ w l A c en ops bn tok v acc arr x y i W) (j : Nat) (u x' y' : Int) (p q : Operand) (hj : j < 2) (hu : (#[.int .i64 x', .int .i64 y'] : Array Value).toList = ([.int .i64 x, .int .i64 y] : List Value).take j ++ [.int .i64 u] ++ ([.int .i64 x, .int .i64 y] : List Value).drop (j + 1))
    (hN : o.dst = none) (hgd : o.guard = none) (ho : o.op = .store 3 p q) (haddr : a.eval p = .pointer (some ⟨arr, j, none⟩)) (hx : a.eval q = .int .i64 u)
    (hk : ∀ W', LQ w l A c en ops bn tok v acc arr x' y' i W' → wpList Tryz.prog ops0 Q rest a W') : wpList Tryz.prog ops0 Q (o :: rest) a W := by
  have hrun := run_store_run (P := Tryz.prog) (w := W) (g := arr) (o := j) 3 (.int .i64 u) [.int .i64 u] h.arrh rfl (by kernel_rfl) (by simp; omega) (by simp [Value.oneCell'])
  obtain ⟨cur', h3, h4, h5⟩ := setCells_row [.int .i64 u] j W _ h.arrh (by simp; omega)
  obtain ⟨s1, s2, s3, s4⟩ := setCells_same arr [.int .i64 u] j W
  have hg : W.grownBy (W.setCells arr j [.int .i64 u]) (some arr) := ⟨s1, s2, s3, by rw [s4]; exact Nat.le_refl _, fun k _ hk => setCells_far _ _ k (fun he => hk (by rw [he]))⟩
  have he : cur' = #[.int .i64 x', .int .i64 y'] := Array.toList_inj.1 (by rw [h5, hu]; rfl)
  subst he
  have h1 := h.lp.lt
  have h2 := h.lt2
  refine store_step hN hgd 3 p q ho haddr hx hrun (hk _ ⟨⟨h.lp.env.grown hg (fun k e => by injection e with e; omega), h.lp.lt, blk_grown h.lp.bnh hg (by intro e; injection e with e; omega), Kd.R_grown1 h.lp.row rfl hg (row39_ne h.lp.row h.arrh (by decide))⟩, h.lt2, h3⟩)
theorem lq_abs {code : Code} {Q : Exit → Act → World → Prop} {a : Act} (h : LQ w l A c en ops bn tok v acc arr x y i W) (k : ∀ W9, LQ w l A c en ops bn tok v acc arr x y i W9 → Code.wp Tryz.prog code Q a W9) : Code.wp Tryz.prog code Q a W := k W h
theorem lq_abs2 {code : Code} {Q : Exit → Act → World → Prop} {a : Act} {b : Nat} {o : Obj} (h : LQ w l A c en ops bn tok v acc arr x y i W) (hb : W.heap[b]? = some o) (k : ∀ W9, LQ w l A c en ops bn tok v acc arr x y i W9 → W9.heap[b]? = some o → Code.wp Tryz.prog code Q a W9) : Code.wp Tryz.prog code Q a W := k W h hb
theorem lp_abs {code : Code} {Q : Exit → Act → World → Prop} {a : Act} (h : LP w l A c en ops bn tok v acc i W) (k : ∀ W9, LP w l A c en ops bn tok v acc i W9 → Code.wp Tryz.prog code Q a W9) : Code.wp Tryz.prog code Q a W := k W h
end
theorem abs3 {code : Code} {Q : Exit → Act → World → Prop} {a : Act} {W : World} (p1 p2 p3 : World → Prop) (h1 : p1 W) (h2 : p2 W) (h3 : p3 W) (k : ∀ W9, p1 W9 → p2 W9 → p3 W9 → Code.wp Tryz.prog code Q a W9) : Code.wp Tryz.prog code Q a W := k W h1 h2 h3
theorem lineEdges_end (l : List S43) (en nN : Int) (b i : Nat) (acc : List S64) (h : ¬ i < l.length) : lineEdges l en nN b i acc = (0, 0, acc, i) := by
  cases b <;> simp [lineEdges, h]
theorem takeP_lt {l : List S43} {k : Int} {i : Nat} (h : takeP l k i = true) : i + 1 ≤ l.length := by
  simp [takeP] at h
  omega
set_option maxHeartbeats 4000000 in
set_option maxRecDepth 100000 in
theorem script_line.calls (A0 : Option Addr) (c0 : Nat) (l0 : List S43) (a1 : Int) (r1 : Int) (r2 : ByteArray) (r3 : Int) (r4 : List S64) (r5 r6 r7 r8 r9 : Int) (w : World) (hr0 : Kd.C k43 w A0 l0.length l0) (hc0 : l0.length ≤ c0) (h : script_line.f l0 a1 = some (r1, r2, r3, r4, r5, r6, r7, r8, r9)) :
    Calls Tryz.prog 11 #[.slice A0 l0.length c0, .int .i64 a1] w fun e w' => ∃ v3_ : Value, e = .returned (.tuple #[.agg #[.int .i64 r1, .string r2, .int .i64 r3, v3_, .int .i64 r5, .int .i64 r6, .int .i64 r7], .int .i64 r8, .int .i64 r9]) ∧ Kd.R k64 64 w' w.heap.size (fun _ => True) v3_ r4 ∧ Below w.heap.size w w' := by
  have hu53 := Tryz.underlying43
  have hu34 := Tryz.underlying36
  have hu31 := Tryz.underlying34
  unfold script_line.f at h
  by_cases hlim : l0.length ≤ 1000000000000
  case neg => rw [if_neg hlim] at h; cases h
  rw [if_pos hlim] at h
  replace h := Option.some.inj h
  unfold lineP at h
  have HG := Aside0.mk h
  have HC := Aside0.mk hr0
  have HLIM := Aside0.mk hlim
  have HCAP := Aside0.mk hc0
  clear h hr0 hlim hc0
  have ht3 : (Tryz.prog.info? 3).map (·.size) = some 1 := by kernel_rfl
  have ht9 : (Tryz.prog.info? 9).map (·.size) = some 1 := by kernel_rfl
  have HE := Aside0.mk (lenv_start w l0 A0 c0 a1)
  go_enter Tryz.func11, Tryz.ntmps11
  go_upto_region 5 with (fail)
  simp only [Nat.add_assoc, Nat.reduceAdd]
  generalize (((((w.alloc (.cells #[.slice A0 l0.length c0] 39)).alloc (.cells #[.int .i64 a1] 3)).alloc (.cells #[.int .i64 0, .string ⟨#[]⟩, .int .i64 0, .slice none 0 0, .int .i64 0, .int .i64 0, .int .i64 0] 36)).alloc (.cells #[.int .i64 0, .string ⟨#[]⟩, .int .i64 0, .slice none 0 0, .int .i64 0, .int .i64 0, .int .i64 0] 36)).alloc (.cells #[.int .i64 0] 3)) = W0 at HE ⊢
  by_cases ht : takeP l0 1 0 = true
  · by_cases hv : verbP (tokP l0 1 0).f2 = 0
    · have hvb : (verbP (tokP l0 1 0).f2 == 0) = true := by simpa using hv
      have hg := HG.out
      rw [if_neg (by simp [hv])] at hg
      simp only [errR, Prod.mk.injEq] at hg
      obtain ⟨rfl, rfl, rfl, rfl, rfl, rfl, rfl, rfl, rfl⟩ := hg
      clear HG
      clear hv
      go_upto_region 8 with (first | (go_at_call 28; refine (here_calls (by with_reducible repeat (first | exact HE.out | apply LEnv.alloc | apply LEnv.drewN | apply LEnv.drew)) HC.out HLIM.out).mono ?_; rintro e w' ⟨rfl, rfl⟩) | (go_at_call 30; refine (script_verb.calls _ _ _ (verb_any _)).mono ?_; rintro e w3 ⟨rfl, ⟨nd, rfl⟩⟩) | (go_at_call 29; refine (take_calls _ (by with_reducible repeat (first | exact HE.out | apply LEnv.alloc | apply LEnv.drewN | apply LEnv.drew)) HC.out HLIM.out HCAP.out).mono ?_; rintro e w2 ⟨rfl, HE2, hg2⟩; simp only [takeAt, ht, if_true, Bool.false_eq_true, if_false, Nat.reduceAdd] at HE2; replace HE := Aside0.mk HE2; clear HE2 hg2) | ((with_reducible refine gate_ (.store 3 (.tmp 34) (.tmp 33)) rfl ?_); refine setOp_step (by with_reducible repeat (first | exact HE.out | apply LEnv.alloc | apply LEnv.drewN | apply LEnv.drew)) 3 5 (.int .i64 (hereP l0 a1 0)) [.int .i64 (hereP l0 a1 0)] (.tmp 34) (.tmp 33) #[.int .i64 0, .string ⟨#[]⟩, .int .i64 0, .slice none 0 0, .int .i64 0, .int .i64 (hereP l0 a1 0), .int .i64 0] (by simp) rfl ht3 (one1 _ rfl) rfl rfl rfl rfl rfl rfl ?_; intro W1 HE1 hg1; replace HE := Aside0.mk HE1; clear HE1 hg1))
      refine lenv_abs (by with_reducible repeat (first | exact HE.out | apply LEnv.alloc | apply LEnv.drewN | apply LEnv.drew)) ?_
      intro W9 HE9
      replace HE := Aside0.mk HE9
      clear HE9
      have hz5 := (blk_cell HE.out.hO 5).trans rfl
      obtain ⟨q0, q1, q2, q3, q4, q5, q6⟩ := zero_cells HE.out
      have qf := fun j => blk_frozen HE.out.hR j
      go_region
      go_wp2
      exact line_err HE.out.set7 rfl rfl rfl rfl
    · have hvb : (verbP (tokP l0 1 0).f2 == 0) = false := by simpa using hv
      have hg := HG.out
      rw [if_pos ⟨ht, hv⟩] at hg
      have HG2 := Aside0.mk hg
      clear hg HG
      by_cases hn : takeP l0 1 1 = true
      · have hg := HG2.out
        rw [if_pos hn] at hg
        replace HG2 := Aside0.mk hg
        clear hg
        by_cases hk2 : verbP (tokP l0 1 0).f2 = 2
        · have hg := HG2.out
          rw [if_pos hk2] at hg
          replace HG2 := Aside0.mk hg
          clear hg
          have hk2b : (verbP (tokP l0 1 0).f2 == 2) = true := by simpa using hk2
          have HV := Aside0.mk hk2
          clear hk2 hv
          by_cases hc : takeP l0 1 2 = true
          · by_cases hcl : classP (tokP l0 1 2).f2 = 0
            · have hclb : (classP (tokP l0 1 2).f2 == 0) = true := by simpa using hcl
              have hg := HG2.out
              rw [if_neg (by simp [hcl])] at hg
              simp only [errR, Prod.mk.injEq] at hg
              obtain ⟨rfl, rfl, rfl, rfl, rfl, rfl, rfl, rfl, rfl⟩ := hg
              clear HG2 hcl
              go_wp2_with (first | (go_at_call 28; refine (here_calls (by with_reducible repeat (first | exact HE.out | apply LEnv.alloc | apply LEnv.drewN | apply LEnv.drew)) HC.out HLIM.out).mono ?_; rintro e w' ⟨rfl, rfl⟩) | (go_at_call 30; refine (script_verb.calls _ _ _ (verb_any _)).mono ?_; rintro e w3 ⟨rfl, ⟨nd, rfl⟩⟩) | (go_at_call 31; refine (script_class.calls 8 _ _ _ (class_any _)).mono ?_; rintro e w3 ⟨rfl, ⟨nd, rfl⟩⟩) | (go_at_call 29; refine (take_calls _ (by with_reducible repeat (first | exact HE.out | apply LEnv.alloc | apply LEnv.drewN | apply LEnv.drew)) HC.out HLIM.out HCAP.out).mono ?_; rintro e w2 ⟨rfl, HE2, hg2⟩; simp only [takeAt, ht, hn, hc, if_true, Bool.false_eq_true, if_false, Nat.reduceAdd] at HE2; replace HE := Aside0.mk HE2; clear HE2 hg2) | ((with_reducible refine gate_ (.store 3 (.tmp 34) (.tmp 33)) rfl ?_); refine setOp_step (by with_reducible repeat (first | exact HE.out | apply LEnv.alloc | apply LEnv.drewN | apply LEnv.drew)) 3 5 (.int .i64 (hereP l0 a1 0)) [.int .i64 (hereP l0 a1 0)] (.tmp 34) (.tmp 33) #[.int .i64 0, .string ⟨#[]⟩, .int .i64 0, .slice none 0 0, .int .i64 0, .int .i64 (hereP l0 a1 0), .int .i64 0] (by simp) rfl ht3 (one1 _ rfl) rfl rfl rfl rfl rfl rfl ?_; intro W1 HE1 hg1; replace HE := Aside0.mk HE1; clear HE1 hg1) | ((with_reducible refine gate_ (.store 3 (.tmp 54) (.tmp 53)) rfl ?_); refine setOp_step (by with_reducible repeat (first | exact HE.out | apply LEnv.alloc | apply LEnv.drewN | apply LEnv.drew)) 3 0 (.int .i64 (verbP (tokP l0 1 0).f2)) [.int .i64 (verbP (tokP l0 1 0).f2)] (.tmp 54) (.tmp 53) #[.int .i64 (verbP (tokP l0 1 0).f2), .string ⟨#[]⟩, .int .i64 0, .slice none 0 0, .int .i64 0, .int .i64 (hereP l0 a1 0), .int .i64 0] (by simp) rfl ht3 (one1 _ rfl) rfl rfl rfl rfl rfl rfl ?_; intro W1 HE1 hg1; replace HE := Aside0.mk HE1; clear HE1 hg1) | ((with_reducible refine gate_ (.store 3 (.tmp 57) (.tmp 56)) rfl ?_); refine setOp_step (by with_reducible repeat (first | exact HE.out | apply LEnv.alloc | apply LEnv.drewN | apply LEnv.drew)) 3 6 (.int .i64 (hereP l0 a1 1)) [.int .i64 (hereP l0 a1 1)] (.tmp 57) (.tmp 56) #[.int .i64 (verbP (tokP l0 1 0).f2), .string ⟨#[]⟩, .int .i64 0, .slice none 0 0, .int .i64 0, .int .i64 (hereP l0 a1 0), .int .i64 (hereP l0 a1 1)] (by simp) rfl ht3 (one1 _ rfl) rfl rfl rfl rfl rfl rfl ?_; intro W1 HE1 hg1; replace HE := Aside0.mk HE1; clear HE1 hg1) | ((with_reducible refine gate_ (.store 9 (.tmp 70) (.tmp 69)) rfl ?_); refine setOp_step (by with_reducible repeat (first | exact HE.out | apply LEnv.alloc | apply LEnv.drewN | apply LEnv.drew)) 9 1 (.string (tokP l0 1 1).f2) [.string (tokP l0 1 1).f2] (.tmp 70) (.tmp 69) #[.int .i64 (verbP (tokP l0 1 0).f2), .string (tokP l0 1 1).f2, .int .i64 0, .slice none 0 0, .int .i64 0, .int .i64 (hereP l0 a1 0), .int .i64 (hereP l0 a1 1)] (by simp) rfl ht9 (one1 _ rfl) rfl rfl rfl rfl rfl rfl ?_; intro W1 HE1 hg1; replace HE := Aside0.mk HE1; clear HE1 hg1; have hop0 := (blk_cell HE.out.hO 0).trans rfl) | ((with_reducible refine gate_ (.store 3 (.tmp 85) (.tmp 84)) rfl ?_); refine setOp_step (by with_reducible repeat (first | exact HE.out | apply LEnv.alloc | apply LEnv.drewN | apply LEnv.drew)) 3 4 (.int .i64 (classP (tokP l0 1 2).f2)) [.int .i64 (classP (tokP l0 1 2).f2)] (.tmp 85) (.tmp 84) #[.int .i64 (verbP (tokP l0 1 0).f2), .string (tokP l0 1 1).f2, .int .i64 0, .slice none 0 0, .int .i64 (classP (tokP l0 1 2).f2), .int .i64 (hereP l0 a1 0), .int .i64 (hereP l0 a1 1)] (by simp) rfl ht3 (one1 _ rfl) rfl rfl rfl rfl rfl rfl ?_; intro W1 HE1 hg1; replace HE := Aside0.mk HE1; clear HE1 hg1; have hop4 := (blk_cell HE.out.hO 4).trans rfl) | ((with_reducible refine gate_ (.store 36 (.tmp 4) (.tmp 93)) rfl ?_); refine setR_step (by with_reducible repeat (first | exact HE.out | apply LEnv.alloc | apply LEnv.drewN | apply LEnv.drew)) (.tmp 4) (.tmp 93) rfl rfl rfl rfl rfl ?_; intro W1 HE1; replace HE := Aside0.mk HE1; clear HE1))
              (try simp only [Exit.inBlock, Exit.then])
              exact line_err HE.out rfl rfl rfl rfl
            · have hclb : (classP (tokP l0 1 2).f2 == 0) = false := by simpa using hcl
              have hg := HG2.out
              rw [if_pos ⟨hc, hcl⟩] at hg
              replace HG2 := Aside0.mk hg
              clear hg hcl
              go_upto_region 51 with (first | (go_at_call 28; refine (here_calls (by with_reducible repeat (first | exact HE.out | apply LEnv.alloc | apply LEnv.drewN | apply LEnv.drew)) HC.out HLIM.out).mono ?_; rintro e w' ⟨rfl, rfl⟩) | (go_at_call 30; refine (script_verb.calls _ _ _ (verb_any _)).mono ?_; rintro e w3 ⟨rfl, ⟨nd, rfl⟩⟩) | (go_at_call 31; refine (script_class.calls 8 _ _ _ (class_any _)).mono ?_; rintro e w3 ⟨rfl, ⟨nd, rfl⟩⟩) | (go_at_call 29; refine (take_calls _ (by with_reducible repeat (first | exact HE.out | apply LEnv.alloc | apply LEnv.drewN | apply LEnv.drew)) HC.out HLIM.out HCAP.out).mono ?_; rintro e w2 ⟨rfl, HE2, hg2⟩; simp only [takeAt, ht, hn, hc, if_true, Bool.false_eq_true, if_false, Nat.reduceAdd] at HE2; replace HE := Aside0.mk HE2; clear HE2 hg2) | ((with_reducible refine gate_ (.store 3 (.tmp 34) (.tmp 33)) rfl ?_); refine setOp_step (by with_reducible repeat (first | exact HE.out | apply LEnv.alloc | apply LEnv.drewN | apply LEnv.drew)) 3 5 (.int .i64 (hereP l0 a1 0)) [.int .i64 (hereP l0 a1 0)] (.tmp 34) (.tmp 33) #[.int .i64 0, .string ⟨#[]⟩, .int .i64 0, .slice none 0 0, .int .i64 0, .int .i64 (hereP l0 a1 0), .int .i64 0] (by simp) rfl ht3 (one1 _ rfl) rfl rfl rfl rfl rfl rfl ?_; intro W1 HE1 hg1; replace HE := Aside0.mk HE1; clear HE1 hg1) | ((with_reducible refine gate_ (.store 3 (.tmp 54) (.tmp 53)) rfl ?_); refine setOp_step (by with_reducible repeat (first | exact HE.out | apply LEnv.alloc | apply LEnv.drewN | apply LEnv.drew)) 3 0 (.int .i64 (verbP (tokP l0 1 0).f2)) [.int .i64 (verbP (tokP l0 1 0).f2)] (.tmp 54) (.tmp 53) #[.int .i64 (verbP (tokP l0 1 0).f2), .string ⟨#[]⟩, .int .i64 0, .slice none 0 0, .int .i64 0, .int .i64 (hereP l0 a1 0), .int .i64 0] (by simp) rfl ht3 (one1 _ rfl) rfl rfl rfl rfl rfl rfl ?_; intro W1 HE1 hg1; replace HE := Aside0.mk HE1; clear HE1 hg1) | ((with_reducible refine gate_ (.store 3 (.tmp 57) (.tmp 56)) rfl ?_); refine setOp_step (by with_reducible repeat (first | exact HE.out | apply LEnv.alloc | apply LEnv.drewN | apply LEnv.drew)) 3 6 (.int .i64 (hereP l0 a1 1)) [.int .i64 (hereP l0 a1 1)] (.tmp 57) (.tmp 56) #[.int .i64 (verbP (tokP l0 1 0).f2), .string ⟨#[]⟩, .int .i64 0, .slice none 0 0, .int .i64 0, .int .i64 (hereP l0 a1 0), .int .i64 (hereP l0 a1 1)] (by simp) rfl ht3 (one1 _ rfl) rfl rfl rfl rfl rfl rfl ?_; intro W1 HE1 hg1; replace HE := Aside0.mk HE1; clear HE1 hg1) | ((with_reducible refine gate_ (.store 9 (.tmp 70) (.tmp 69)) rfl ?_); refine setOp_step (by with_reducible repeat (first | exact HE.out | apply LEnv.alloc | apply LEnv.drewN | apply LEnv.drew)) 9 1 (.string (tokP l0 1 1).f2) [.string (tokP l0 1 1).f2] (.tmp 70) (.tmp 69) #[.int .i64 (verbP (tokP l0 1 0).f2), .string (tokP l0 1 1).f2, .int .i64 0, .slice none 0 0, .int .i64 0, .int .i64 (hereP l0 a1 0), .int .i64 (hereP l0 a1 1)] (by simp) rfl ht9 (one1 _ rfl) rfl rfl rfl rfl rfl rfl ?_; intro W1 HE1 hg1; replace HE := Aside0.mk HE1; clear HE1 hg1; have hop0 := (blk_cell HE.out.hO 0).trans rfl) | ((with_reducible refine gate_ (.store 3 (.tmp 85) (.tmp 84)) rfl ?_); refine setOp_step (by with_reducible repeat (first | exact HE.out | apply LEnv.alloc | apply LEnv.drewN | apply LEnv.drew)) 3 4 (.int .i64 (classP (tokP l0 1 2).f2)) [.int .i64 (classP (tokP l0 1 2).f2)] (.tmp 85) (.tmp 84) #[.int .i64 (verbP (tokP l0 1 0).f2), .string (tokP l0 1 1).f2, .int .i64 0, .slice none 0 0, .int .i64 (classP (tokP l0 1 2).f2), .int .i64 (hereP l0 a1 0), .int .i64 (hereP l0 a1 1)] (by simp) rfl ht3 (one1 _ rfl) rfl rfl rfl rfl rfl rfl ?_; intro W1 HE1 hg1; replace HE := Aside0.mk HE1; clear HE1 hg1; have hop4 := (blk_cell HE.out.hO 4).trans rfl))
              refine lenv_abs (by with_reducible repeat (first | exact HE.out | apply LEnv.alloc | apply LEnv.drewN | apply LEnv.drew)) ?_
              intro W9 HE9
              replace HE := Aside0.mk HE9
              clear HE9
              have k1 := cell_of_one HE.out.hL
              have k3 := cell_of_one HE.out.hA
              have o0 := (blk_cell HE.out.hO 0).trans rfl
              have o1 := (blk_cell HE.out.hO 1).trans rfl
              have o2 := (blk_cell HE.out.hO 2).trans rfl
              have o3 := (blk_cell HE.out.hO 3).trans rfl
              have o4 := (blk_cell HE.out.hO 4).trans rfl
              have o5 := (blk_cell HE.out.hO 5).trans rfl
              have o6 := (blk_cell HE.out.hO 6).trans rfl
              have hg := HG2.out
              unfold finR at hg
              by_cases hi : 3 < l0.length
              · rw [if_pos hi] at hg
                simp only [errR, Prod.mk.injEq] at hg
                obtain ⟨rfl, rfl, rfl, rfl, rfl, rfl, rfl, rfl, rfl⟩ := hg
                clear HG2
                have hib : decide ((((3 : Nat)) : Int) < (l0.length : Int)) = true := decide_eq_true (by omega)
                go_wp2_with (first | (go_at_call 28; refine (here_calls (by with_reducible repeat (first | exact HE.out | apply LEnv.alloc | apply LEnv.drewN | apply LEnv.drew)) HC.out HLIM.out).mono ?_; rintro e w' ⟨rfl, rfl⟩) | ((with_reducible refine gate_ (.store 36 (.tmp 4) (.tmp 188)) rfl ?_); refine setR_step (by with_reducible repeat (first | exact HE.out | apply LEnv.alloc | apply LEnv.drewN | apply LEnv.drew)) (.tmp 4) (.tmp 188) rfl rfl rfl rfl rfl ?_; intro W1 HE1; replace HE := Aside0.mk HE1; clear HE1))
                (try simp only [Exit.inBlock, Exit.then])
                exact line_err HE.out rfl rfl rfl rfl
              · rw [if_neg hi] at hg
                simp only [Prod.mk.injEq] at hg
                obtain ⟨rfl, rfl, rfl, rfl, rfl, rfl, rfl, rfl, rfl⟩ := hg
                clear HG2
                have hib : decide ((((3 : Nat)) : Int) < (l0.length : Int)) = false := decide_eq_false (by omega)
                go_wp2_with (first | ((with_reducible refine gate_ (.store 36 (.tmp 4) (.tmp 191)) rfl ?_); refine finR_step (by with_reducible repeat (first | exact HE.out | apply LEnv.alloc | apply LEnv.drewN | apply LEnv.drew)) _ _ _ _ _ _ _ ⟨rfl, rfl⟩ ⟨rfl, rfl⟩ ⟨rfl, rfl⟩ ⟨rfl, rfl⟩ ⟨rfl, rfl⟩ ⟨rfl, rfl⟩ ⟨rfl, rfl⟩ (.tmp 4) (.tmp 191) rfl rfl rfl rfl rfl ?_; intro W1 hR1 hB1 hg1; have HR1 := Aside0.mk hR1; have HB1 := Aside0.mk hB1; have HG1 := Aside0.mk hg1; clear hR1 hB1 hg1))
                (try simp only [Exit.inBlock, Exit.then])
                exact bodyPost_ret_by (results_19 _ _ (w.heap.size + 2) _ _ _ _ _ _ _ _ _ rfl rfl rfl HR1.out) rfl ⟨_, by rw [HV.out]; rfl, Kd.R_nil _ _ _ _ _, HB1.out⟩
          · replace hc : takeP l0 1 2 = false := by simpa using hc
            have hg := HG2.out
            rw [if_neg (by simp [hc])] at hg
            simp only [errR, Prod.mk.injEq] at hg
            obtain ⟨rfl, rfl, rfl, rfl, rfl, rfl, rfl, rfl, rfl⟩ := hg
            clear HG2
            go_wp2_with (first | (go_at_call 28; refine (here_calls (by with_reducible repeat (first | exact HE.out | apply LEnv.alloc | apply LEnv.drewN | apply LEnv.drew)) HC.out HLIM.out).mono ?_; rintro e w' ⟨rfl, rfl⟩) | (go_at_call 30; refine (script_verb.calls _ _ _ (verb_any _)).mono ?_; rintro e w3 ⟨rfl, ⟨nd, rfl⟩⟩) | (go_at_call 31; refine (script_class.calls 8 _ _ _ (class_any _)).mono ?_; rintro e w3 ⟨rfl, ⟨nd, rfl⟩⟩) | (go_at_call 29; refine (take_calls _ (by with_reducible repeat (first | exact HE.out | apply LEnv.alloc | apply LEnv.drewN | apply LEnv.drew)) HC.out HLIM.out HCAP.out).mono ?_; rintro e w2 ⟨rfl, HE2, hg2⟩; simp only [takeAt, ht, hn, hc, if_true, Bool.false_eq_true, if_false, Nat.reduceAdd] at HE2; replace HE := Aside0.mk HE2; clear HE2 hg2) | ((with_reducible refine gate_ (.store 3 (.tmp 34) (.tmp 33)) rfl ?_); refine setOp_step (by with_reducible repeat (first | exact HE.out | apply LEnv.alloc | apply LEnv.drewN | apply LEnv.drew)) 3 5 (.int .i64 (hereP l0 a1 0)) [.int .i64 (hereP l0 a1 0)] (.tmp 34) (.tmp 33) #[.int .i64 0, .string ⟨#[]⟩, .int .i64 0, .slice none 0 0, .int .i64 0, .int .i64 (hereP l0 a1 0), .int .i64 0] (by simp) rfl ht3 (one1 _ rfl) rfl rfl rfl rfl rfl rfl ?_; intro W1 HE1 hg1; replace HE := Aside0.mk HE1; clear HE1 hg1) | ((with_reducible refine gate_ (.store 3 (.tmp 54) (.tmp 53)) rfl ?_); refine setOp_step (by with_reducible repeat (first | exact HE.out | apply LEnv.alloc | apply LEnv.drewN | apply LEnv.drew)) 3 0 (.int .i64 (verbP (tokP l0 1 0).f2)) [.int .i64 (verbP (tokP l0 1 0).f2)] (.tmp 54) (.tmp 53) #[.int .i64 (verbP (tokP l0 1 0).f2), .string ⟨#[]⟩, .int .i64 0, .slice none 0 0, .int .i64 0, .int .i64 (hereP l0 a1 0), .int .i64 0] (by simp) rfl ht3 (one1 _ rfl) rfl rfl rfl rfl rfl rfl ?_; intro W1 HE1 hg1; replace HE := Aside0.mk HE1; clear HE1 hg1) | ((with_reducible refine gate_ (.store 3 (.tmp 57) (.tmp 56)) rfl ?_); refine setOp_step (by with_reducible repeat (first | exact HE.out | apply LEnv.alloc | apply LEnv.drewN | apply LEnv.drew)) 3 6 (.int .i64 (hereP l0 a1 1)) [.int .i64 (hereP l0 a1 1)] (.tmp 57) (.tmp 56) #[.int .i64 (verbP (tokP l0 1 0).f2), .string ⟨#[]⟩, .int .i64 0, .slice none 0 0, .int .i64 0, .int .i64 (hereP l0 a1 0), .int .i64 (hereP l0 a1 1)] (by simp) rfl ht3 (one1 _ rfl) rfl rfl rfl rfl rfl rfl ?_; intro W1 HE1 hg1; replace HE := Aside0.mk HE1; clear HE1 hg1) | ((with_reducible refine gate_ (.store 9 (.tmp 70) (.tmp 69)) rfl ?_); refine setOp_step (by with_reducible repeat (first | exact HE.out | apply LEnv.alloc | apply LEnv.drewN | apply LEnv.drew)) 9 1 (.string (tokP l0 1 1).f2) [.string (tokP l0 1 1).f2] (.tmp 70) (.tmp 69) #[.int .i64 (verbP (tokP l0 1 0).f2), .string (tokP l0 1 1).f2, .int .i64 0, .slice none 0 0, .int .i64 0, .int .i64 (hereP l0 a1 0), .int .i64 (hereP l0 a1 1)] (by simp) rfl ht9 (one1 _ rfl) rfl rfl rfl rfl rfl rfl ?_; intro W1 HE1 hg1; replace HE := Aside0.mk HE1; clear HE1 hg1; have hop0 := (blk_cell HE.out.hO 0).trans rfl) | ((with_reducible refine gate_ (.store 3 (.tmp 85) (.tmp 84)) rfl ?_); refine setOp_step (by with_reducible repeat (first | exact HE.out | apply LEnv.alloc | apply LEnv.drewN | apply LEnv.drew)) 3 4 (.int .i64 (classP (tokP l0 1 2).f2)) [.int .i64 (classP (tokP l0 1 2).f2)] (.tmp 85) (.tmp 84) #[.int .i64 (verbP (tokP l0 1 0).f2), .string (tokP l0 1 1).f2, .int .i64 0, .slice none 0 0, .int .i64 (classP (tokP l0 1 2).f2), .int .i64 (hereP l0 a1 0), .int .i64 (hereP l0 a1 1)] (by simp) rfl ht3 (one1 _ rfl) rfl rfl rfl rfl rfl rfl ?_; intro W1 HE1 hg1; replace HE := Aside0.mk HE1; clear HE1 hg1; have hop4 := (blk_cell HE.out.hO 4).trans rfl) | ((with_reducible refine gate_ (.store 36 (.tmp 4) (.tmp 93)) rfl ?_); refine setR_step (by with_reducible repeat (first | exact HE.out | apply LEnv.alloc | apply LEnv.drewN | apply LEnv.drew)) (.tmp 4) (.tmp 93) rfl rfl rfl rfl rfl ?_; intro W1 HE1; replace HE := Aside0.mk HE1; clear HE1))
            (try simp only [Exit.inBlock, Exit.then])
            exact line_err HE.out rfl rfl rfl rfl
        · have hk2b : (verbP (tokP l0 1 0).f2 == 2) = false := by simpa using hk2
          have hg := HG2.out
          rw [if_neg hk2] at hg
          replace HG2 := Aside0.mk hg
          clear hg hk2 hv
          by_cases hk1 : verbP (tokP l0 1 0).f2 = 1
          · have hk1b : (verbP (tokP l0 1 0).f2 == 1) = true := by simpa using hk1
            have hg := HG2.out
            rw [if_pos hk1] at hg
            replace HG2 := Aside0.mk hg
            have HV := Aside0.mk hk1
            clear hg hk1
            unfold lineLoad at HG2
            by_cases hld : takeP l0 2 2 = true
            · have hg := HG2.out
              rw [if_pos hld] at hg
              replace HG2 := Aside0.mk hg
              clear hg
              go_wp2_with (first | (go_at_call 28; refine (here_calls (by with_reducible repeat (first | exact HE.out | apply LEnv.alloc | apply LEnv.drewN | apply LEnv.drew)) HC.out HLIM.out).mono ?_; rintro e w' ⟨rfl, rfl⟩) | (go_at_call 30; refine (script_verb.calls _ _ _ (verb_any _)).mono ?_; rintro e w3 ⟨rfl, ⟨nd, rfl⟩⟩) | ((with_reducible refine gate_ (.store 3 (.tmp 34) (.tmp 33)) rfl ?_); refine setOp_step (by with_reducible repeat (first | exact HE.out | apply LEnv.alloc | apply LEnv.drewN | apply LEnv.drew)) 3 5 (.int .i64 (hereP l0 a1 0)) [.int .i64 (hereP l0 a1 0)] (.tmp 34) (.tmp 33) #[.int .i64 0, .string ⟨#[]⟩, .int .i64 0, .slice none 0 0, .int .i64 0, .int .i64 (hereP l0 a1 0), .int .i64 0] (by simp) rfl ht3 (one1 _ rfl) rfl rfl rfl rfl rfl rfl ?_; intro W1 HE1 hg1; replace HE := Aside0.mk HE1; clear HE1 hg1) | ((with_reducible refine gate_ (.store 3 (.tmp 54) (.tmp 53)) rfl ?_); refine setOp_step (by with_reducible repeat (first | exact HE.out | apply LEnv.alloc | apply LEnv.drewN | apply LEnv.drew)) 3 0 (.int .i64 (verbP (tokP l0 1 0).f2)) [.int .i64 (verbP (tokP l0 1 0).f2)] (.tmp 54) (.tmp 53) #[.int .i64 (verbP (tokP l0 1 0).f2), .string ⟨#[]⟩, .int .i64 0, .slice none 0 0, .int .i64 0, .int .i64 (hereP l0 a1 0), .int .i64 0] (by simp) rfl ht3 (one1 _ rfl) rfl rfl rfl rfl rfl rfl ?_; intro W1 HE1 hg1; replace HE := Aside0.mk HE1; clear HE1 hg1) | ((with_reducible refine gate_ (.store 3 (.tmp 57) (.tmp 56)) rfl ?_); refine setOp_step (by with_reducible repeat (first | exact HE.out | apply LEnv.alloc | apply LEnv.drewN | apply LEnv.drew)) 3 6 (.int .i64 (hereP l0 a1 1)) [.int .i64 (hereP l0 a1 1)] (.tmp 57) (.tmp 56) #[.int .i64 (verbP (tokP l0 1 0).f2), .string ⟨#[]⟩, .int .i64 0, .slice none 0 0, .int .i64 0, .int .i64 (hereP l0 a1 0), .int .i64 (hereP l0 a1 1)] (by simp) rfl ht3 (one1 _ rfl) rfl rfl rfl rfl rfl rfl ?_; intro W1 HE1 hg1; replace HE := Aside0.mk HE1; clear HE1 hg1) | ((with_reducible refine gate_ (.store 9 (.tmp 70) (.tmp 69)) rfl ?_); refine setOp_step (by with_reducible repeat (first | exact HE.out | apply LEnv.alloc | apply LEnv.drewN | apply LEnv.drew)) 9 1 (.string (tokP l0 1 1).f2) [.string (tokP l0 1 1).f2] (.tmp 70) (.tmp 69) #[.int .i64 (verbP (tokP l0 1 0).f2), .string (tokP l0 1 1).f2, .int .i64 0, .slice none 0 0, .int .i64 0, .int .i64 (hereP l0 a1 0), .int .i64 (hereP l0 a1 1)] (by simp) rfl ht9 (one1 _ rfl) rfl rfl rfl rfl rfl rfl ?_; intro W1 HE1 hg1; replace HE := Aside0.mk HE1; clear HE1 hg1; have hop0 := (blk_cell HE.out.hO 0).trans rfl) | (go_at_call 29; refine (take_calls _ (by with_reducible repeat (first | exact HE.out | apply LEnv.alloc | apply LEnv.drewN | apply LEnv.drew)) HC.out HLIM.out HCAP.out).mono ?_; rintro e w2 ⟨rfl, HE2, hg2⟩; simp only [takeAt, ht, hn, hld, if_true, Bool.false_eq_true, if_false, Nat.reduceAdd] at HE2; replace HE := Aside0.mk HE2; clear HE2 hg2))
              go_step3
              go_upto_region 24 with (first | (go_at_call 29; refine (take_calls _ (by with_reducible repeat (first | exact HE.out | apply LEnv.alloc | apply LEnv.drewN | apply LEnv.drew)) HC.out HLIM.out HCAP.out).mono ?_; rintro e w2 ⟨rfl, HE2, hg2⟩; simp only [takeAt, ht, hn, hld, if_true, Bool.false_eq_true, if_false, Nat.reduceAdd] at HE2; replace HE := Aside0.mk HE2; clear HE2 hg2))
              have hld2 : takeP l0 2 2 = true := hld
              refine lp_abs (LP.start (tok := tokP l0 2 2) HE.out) ?_
              intro W9 HL9
              have HL := Aside0.mk HL9
              clear HL9 HE
              generalize w2.heap.size = bn at HL ⊢
              have hn1 := (blk_cell HL.out.bnh 1).trans rfl
              have hn3 := (blk_cell HL.out.bnh 3).trans rfl
              by_cases hbig : (tokP l0 2 2).f3 > 1000
              · have hg := HG2.out
                rw [if_pos hbig] at hg
                simp only [errR, Prod.mk.injEq] at hg
                obtain ⟨rfl, rfl, rfl, rfl, rfl, rfl, rfl, rfl, rfl⟩ := hg
                clear HG2
                have hbb : decide (1000 < (tokP l0 2 2).f3) = true := decide_eq_true hbig
                obtain ⟨q0, q1, q2, q3, q4, q5, q6⟩ := zero_cells HL.out.env
                have qf := fun j => blk_frozen HL.out.env.hR j
                have hlt9 := HL.out.lt
                have hne9 : ¬ bn = w.heap.size + 2 := by omega
                go_upto_region 27 with (fail)
                go_region
                go_wp2
                exact line_err HL.out.env.set7 rfl rfl rfl rfl
              · have hg := HG2.out
                rw [if_neg hbig] at hg
                replace HG2 := Aside0.mk hg
                clear hg
                have hbb : decide (1000 < (tokP l0 2 2).f3) = false := decide_eq_false hbig
                clear hbig
                go_wp2
                clear hn1 hn3
                go_step3
                go_wp2
                go_loopg [20] l0.length (fun gb v20 wr => ∃ (i : Nat) (acc : List S64), Aside0 (LP w l0 A0 c0 a1 #[.int .i64 (verbP (tokP l0 1 0).f2), .string (tokP l0 1 1).f2, .int .i64 0, .slice none 0 0, .int .i64 0, .int .i64 (hereP l0 a1 0), .int .i64 (hereP l0 a1 1)] bn (tokP l0 2 2) v20 acc i wr) ∧ Aside0 (lineEdges l0 a1 (tokP l0 2 2).f3 gb i acc = lineEdges l0 a1 (tokP l0 2 2).f3 l0.length 3 []) ∧ Aside0 (acc.length ≤ i ∧ i ≤ l0.length) ∧ Aside0 (l0.length ≤ i + gb))
                case atStart => exact ⟨3, [], HL, ⟨rfl⟩, ⟨by simp, takeP_lt hld⟩, ⟨by omega⟩⟩
                case round =>
                  clear HL
                  obtain ⟨i, acc, HL, HLE, HACC, HQ⟩ := hrel
                  have k1 := cell_of_one HL.out.env.hL
                  have k3 := cell_of_one HL.out.env.hA
                  have hlim := HLIM.out
                  by_cases hi : i < l0.length
                  · cases gk with
                    | zero => exact absurd HQ.out (by omega)
                    | succ gb =>
                    have hle := HLE.out
                    simp only [lineEdges] at hle
                    rw [if_pos hi] at hle
                    have htk0 : takeP l0 2 i = true → tokP l0 2 i = rd_T43 l0 (i : Int) := fun h => by simp [tokP, h]
                    have htk1 : takeP l0 3 (i + 1) = true → tokP l0 3 (i + 1) = rd_T43 l0 ((i + 1 : Nat) : Int) := fun h => by simp only [tokP, h, if_true]
                    have htk2 : takeP l0 2 (i + 2) = true → tokP l0 2 (i + 2) = rd_T43 l0 ((i + 2 : Nat) : Int) := fun h => by simp only [tokP, h, if_true]
                    generalize rd_T43 l0 (i : Int) = X0 at hle htk0
                    generalize rd_T43 l0 ((i + 1 : Nat) : Int) = X1 at hle htk1
                    generalize rd_T43 l0 ((i + 2 : Nat) : Int) = X2 at hle htk2
                    go_upto_region 31 with (fail)
                    refine lq_abs (LQ.start HL.out) ?_
                    intro W9 HL9
                    replace HL := Aside0.mk HL9
                    clear HL9 k1 k3
                    generalize wr.heap.size = arr at HL ⊢
                    go_wp2
                    refine wp_loop_rounds 2 ?_
                    rw [rounds_succ]
                    by_cases hv1 : takeP l0 2 i = true
                    · rw [if_pos hv1] at hle
                      have htok0 := htk0 hv1
                      clear htk0
                      by_cases hv2 : (tokP l0 2 2).f3 ≤ X0.f3
                      · rw [if_pos hv2] at hle
                        have hv2b : decide ((tokP l0 2 2).f3 ≤ X0.f3) = true := decide_eq_true hv2
                        have hg := HG2.out
                        rw [← hle, if_neg (by show ¬ ((4 : Int) = 0); decide)] at hg
                        simp only [errR, Prod.mk.injEq] at hg
                        obtain ⟨rfl, rfl, rfl, rfl, rfl, rfl, rfl, rfl, rfl⟩ := hg
                        clear hle HG2 hv2
                        go_upto_region 38 with (first | (go_at_call 28; refine (here_calls (LQ.lp (by with_reducible repeat (first | exact HL.out | apply LQ.alloc | apply LQ.drewN))).env HC.out HLIM.out).mono ?_; rintro e w' ⟨rfl, rfl⟩) | (go_at_call 29; refine (LQ.take_calls _ (by with_reducible repeat (first | exact HL.out | apply LQ.alloc | apply LQ.drewN)) HC.out HLIM.out HCAP.out).mono ?_; rintro e w2 ⟨rfl, HE2⟩; simp only [takeAt, hv1, if_true, Bool.false_eq_true, if_false, Nat.add_assoc, Nat.reduceAdd] at HE2; (try simp only [htok0]); (try simp only [htok1]); (try simp only [htok2]); replace HL := Aside0.mk HE2; clear HE2; have hn3 := (blk_cell HL.out.lp.bnh 3).trans rfl; have hbl := blk_lt HL.out.lp.bnh))
                        have hltw := HL.out.lp.env.lt
                        refine lq_abs2 (by with_reducible repeat (first | exact HL.out | apply LQ.alloc | apply LQ.drewN)) (blk_new _ _) ?_
                        intro W9 HL9 hb9
                        replace HL := Aside0.mk HL9
                        have hy1 := (blk_cell hb9 1).trans rfl
                        clear HL9 hn3 hbl hb9
                        generalize w2.heap.size = bt at hy1 hltw ⊢
                        have hne9 : ¬ bt = w.heap.size + 2 := by omega
                        obtain ⟨q0, q1, q2, q3, q4, q5, q6⟩ := zero_cells HL.out.lp.env
                        have qf := fun j => blk_frozen HL.out.lp.env.hR j
                        go_region
                        go_wp2
                        (try simp only [Exit.inBlock, Exit.then])
                        (try rw [Exit.noGoto_ret])
                        exact line_err HL.out.lp.env.set7 rfl rfl rfl rfl
                      · rw [if_neg hv2] at hle
                        have hv2b : decide ((tokP l0 2 2).f3 ≤ X0.f3) = false := decide_eq_false hv2
                        clear hv2
                        by_cases hs1 : takeP l0 3 (i + 1) = true
                        · have htok1 := htk1 hs1
                          clear htk1
                          by_cases hs2 : X1.f2.toList = [45]
                          · rw [if_pos ⟨hs1, hs2⟩] at hle
                            go_wp2_with (first | (go_at_call 28; refine (here_calls (LQ.lp (by with_reducible repeat (first | exact HL.out | apply LQ.alloc | apply LQ.drewN))).env HC.out HLIM.out).mono ?_; rintro e w' ⟨rfl, rfl⟩) | (go_at_call 29; refine (LQ.take_calls _ (by with_reducible repeat (first | exact HL.out | apply LQ.alloc | apply LQ.drewN)) HC.out HLIM.out HCAP.out).mono ?_; rintro e w2 ⟨rfl, HE2⟩; simp only [takeAt, hv1, hs1, if_true, Bool.false_eq_true, if_false, Nat.add_assoc, Nat.reduceAdd] at HE2; (try simp only [htok0]); (try simp only [htok1]); (try simp only [htok2]); replace HL := Aside0.mk HE2; clear HE2; have hn3 := (blk_cell HL.out.lp.bnh 3).trans rfl; have hbl := blk_lt HL.out.lp.bnh) | ((with_reducible refine gate_ (.store 3 (.tmp 141) (.tmp 140)) rfl ?_); refine LQ.set_step (by with_reducible repeat (first | exact HL.out | apply LQ.alloc | apply LQ.drewN)) 0 X0.f3 X0.f3 0 (.tmp 141) (.tmp 140) (by decide) rfl rfl rfl rfl rfl rfl ?_; intro W1 HL1; replace HL := Aside0.mk HL1; clear HL1; have ha0 := (blk_cell HL.out.arrh 0).trans rfl; have ha1 := (blk_cell HL.out.arrh 1).trans rfl))
                            rw [rounds_succ]
                            by_cases hw1 : takeP l0 2 (i + 2) = true
                            · rw [if_pos hw1] at hle
                              have htok2 := htk2 hw1
                              clear htk2
                              by_cases hw2 : (tokP l0 2 2).f3 ≤ X2.f3
                              · rw [if_pos hw2] at hle
                                have hw2b : decide ((tokP l0 2 2).f3 ≤ X2.f3) = true := decide_eq_true hw2
                                have hg := HG2.out
                                rw [← hle, if_neg (by show ¬ ((4 : Int) = 0); decide)] at hg
                                simp only [errR, Prod.mk.injEq] at hg
                                obtain ⟨rfl, rfl, rfl, rfl, rfl, rfl, rfl, rfl, rfl⟩ := hg
                                clear hle HG2 hw2
                                go_upto_region 38 with (first | (go_at_call 28; refine (here_calls (LQ.lp (by with_reducible repeat (first | exact HL.out | apply LQ.alloc | apply LQ.drewN))).env HC.out HLIM.out).mono ?_; rintro e w' ⟨rfl, rfl⟩) | (go_at_call 29; refine (LQ.take_calls _ (by with_reducible repeat (first | exact HL.out | apply LQ.alloc | apply LQ.drewN)) HC.out HLIM.out HCAP.out).mono ?_; rintro e w2 ⟨rfl, HE2⟩; simp only [takeAt, hw1, if_true, Bool.false_eq_true, if_false, Nat.add_assoc, Nat.reduceAdd] at HE2; (try simp only [htok0]); (try simp only [htok1]); (try simp only [htok2]); replace HL := Aside0.mk HE2; clear HE2; have hn3 := (blk_cell HL.out.lp.bnh 3).trans rfl; have hbl := blk_lt HL.out.lp.bnh))
                                have hltw := HL.out.lp.env.lt
                                refine lq_abs2 (by with_reducible repeat (first | exact HL.out | apply LQ.alloc | apply LQ.drewN)) (blk_new _ _) ?_
                                intro W9 HL9 hb9
                                replace HL := Aside0.mk HL9
                                have hy1 := (blk_cell hb9 1).trans rfl
                                clear HL9 hn3 hbl hb9
                                generalize w2.heap.size = bt at hy1 hltw ⊢
                                have hne9 : ¬ bt = w.heap.size + 2 := by omega
                                obtain ⟨q0, q1, q2, q3, q4, q5, q6⟩ := zero_cells HL.out.lp.env
                                have qf := fun j => blk_frozen HL.out.lp.env.hR j
                                go_region
                                go_wp2
                                (try simp only [Exit.inBlock, Exit.then])
                                (try rw [Exit.noGoto_ret])
                                exact line_err HL.out.lp.env.set7 rfl rfl rfl rfl
                              · rw [if_neg hw2] at hle
                                have hw2b : decide ((tokP l0 2 2).f3 ≤ X2.f3) = false := decide_eq_false hw2
                                clear hw2
                                have HLE2 := Aside0.mk hle
                                clear hle
                                go_wp2_with (first | (go_at_call 28; refine (here_calls (LQ.lp (by with_reducible repeat (first | exact HL.out | apply LQ.alloc | apply LQ.drewN))).env HC.out HLIM.out).mono ?_; rintro e w' ⟨rfl, rfl⟩) | (go_at_call 29; refine (LQ.take_calls _ (by with_reducible repeat (first | exact HL.out | apply LQ.alloc | apply LQ.drewN)) HC.out HLIM.out HCAP.out).mono ?_; rintro e w2 ⟨rfl, HE2⟩; simp only [takeAt, hw1, if_true, Bool.false_eq_true, if_false, Nat.add_assoc, Nat.reduceAdd] at HE2; (try simp only [htok0]); (try simp only [htok1]); (try simp only [htok2]); replace HL := Aside0.mk HE2; clear HE2; have hn3 := (blk_cell HL.out.lp.bnh 3).trans rfl; have hbl := blk_lt HL.out.lp.bnh) | ((with_reducible refine gate_ (.store 3 (.tmp 141) (.tmp 140)) rfl ?_); refine LQ.set_step (by with_reducible repeat (first | exact HL.out | apply LQ.alloc | apply LQ.drewN)) 1 X2.f3 X0.f3 X2.f3 (.tmp 141) (.tmp 140) (by decide) rfl rfl rfl rfl rfl rfl ?_; intro W1 HL1; replace HL := Aside0.mk HL1; clear HL1; have ha0 := (blk_cell HL.out.arrh 0).trans rfl; have ha1 := (blk_cell HL.out.arrh 1).trans rfl) | ((with_reducible refine gate_builtin (b := .append) (xs := #[.tmp 144, .tmp 150]) rfl ?_); at_builtin; refine Kd.R_append k64 (w0 := W1) (bn + 1) rfl (.tmp 144) (.tmp 150) 32 64 (.agg #[(.int .i64 0), (.int .i64 0)]) 16 rfl Tryz.underlying32 info64 rfl (by decide) (by omega) u20 acc ⟨X0.f3, X2.f3⟩ [.int .i64 X0.f3, .int .i64 X2.f3] (fun _ => True) (fun _ => False) rfl rfl ?aP (fun _ hk => hk.elim) ?aF ?aO ?aB ?aS ?aL ?_; (case aP => exact k64_mkM _ _ _ ⟨X0.f3, X2.f3⟩); (case aF => exact (fun _ _ => trivial)); (case aO => exact HL.out.lp.row); (case aB => exact Below.refl _ _); (case aS => have := blk_lt HL.out.lp.bnh; omega); (case aL => have := HACC.out.1; have := HACC.out.2; have := HLIM.out; omega); intro v1 w5 ho hb hg hat; have HL5 := Aside0.mk (show LP w l0 A0 c0 a1 #[.int .i64 (verbP (tokP l0 1 0).f2), .string (tokP l0 1 1).f2, .int .i64 0, .slice none 0 0, .int .i64 0, .int .i64 (hereP l0 a1 0), .int .i64 (hereP l0 a1 1)] bn (tokP l0 2 2) v1 (acc ++ [⟨X0.f3, X2.f3⟩]) (i + 3) w5 from ⟨HL.out.lp.env.grown hg (fun k hk => by have := Kd.R_base HL.out.lp.row k hk; have := HL.out.lp.lt; omega), HL.out.lp.lt, (hb.block bn (Nat.lt_succ_self _)).trans HL.out.lp.bnh, ho⟩); clear ho hb hg hat))
                                go_roundg gb
                                case measure => omega
                                case rel => exact ⟨i + 3, acc ++ [⟨X0.f3, X2.f3⟩], HL5, HLE2, ⟨by have := HACC.out.1; simp; omega, takeP_lt hw1⟩, ⟨by have := HQ.out; omega⟩⟩
                            · replace hw1 : takeP l0 2 (i + 2) = false := by simpa using hw1
                              rw [if_neg (by simp [hw1])] at hle
                              have hg := HG2.out
                              rw [← hle, if_neg (by show ¬ ((3 : Int) = 0); decide)] at hg
                              simp only [errR, Prod.mk.injEq] at hg
                              obtain ⟨rfl, rfl, rfl, rfl, rfl, rfl, rfl, rfl, rfl⟩ := hg
                              clear hle HG2
                              go_wp2_with (first | (go_at_call 28; refine (here_calls (LQ.lp (by with_reducible repeat (first | exact HL.out | apply LQ.alloc | apply LQ.drewN))).env HC.out HLIM.out).mono ?_; rintro e w' ⟨rfl, rfl⟩) | (go_at_call 29; refine (LQ.take_calls _ (by with_reducible repeat (first | exact HL.out | apply LQ.alloc | apply LQ.drewN)) HC.out HLIM.out HCAP.out).mono ?_; rintro e w2 ⟨rfl, HE2⟩; simp only [takeAt, hw1, if_true, Bool.false_eq_true, if_false, Nat.add_assoc, Nat.reduceAdd] at HE2; (try simp only [htok0]); (try simp only [htok1]); (try simp only [htok2]); replace HL := Aside0.mk HE2; clear HE2; have hn3 := (blk_cell HL.out.lp.bnh 3).trans rfl; have hbl := blk_lt HL.out.lp.bnh) | ((with_reducible refine gate_ (.store 36 (.tmp 4) (.tmp 127)) rfl ?_); refine setR_step (LQ.lp (by with_reducible repeat (first | exact HL.out | apply LQ.alloc | apply LQ.drewN))).env (.tmp 4) (.tmp 127) rfl rfl rfl rfl rfl ?_; intro W1 HE1; have HE := Aside0.mk HE1; clear HE1))
                              (try simp only [Exit.inBlock, Exit.then])
                              (try rw [Exit.noGoto_ret])
                              exact line_err HE.out rfl rfl rfl rfl
                          · rw [if_neg (fun h => hs2 h.2)] at hle
                            have hs2b : (X1.f2.toList == [45]) = false := by simpa using hs2
                            have hg := HG2.out
                            rw [← hle, if_neg (by show ¬ ((3 : Int) = 0); decide)] at hg
                            simp only [errR, Prod.mk.injEq] at hg
                            obtain ⟨rfl, rfl, rfl, rfl, rfl, rfl, rfl, rfl, rfl⟩ := hg
                            clear hle HG2 hs2
                            go_wp2_with (first | (go_at_call 28; refine (here_calls (LQ.lp (by with_reducible repeat (first | exact HL.out | apply LQ.alloc | apply LQ.drewN))).env HC.out HLIM.out).mono ?_; rintro e w' ⟨rfl, rfl⟩) | (go_at_call 29; refine (LQ.take_calls _ (by with_reducible repeat (first | exact HL.out | apply LQ.alloc | apply LQ.drewN)) HC.out HLIM.out HCAP.out).mono ?_; rintro e w2 ⟨rfl, HE2⟩; simp only [takeAt, hv1, hs1, if_true, Bool.false_eq_true, if_false, Nat.add_assoc, Nat.reduceAdd] at HE2; (try simp only [htok0]); (try simp only [htok1]); (try simp only [htok2]); replace HL := Aside0.mk HE2; clear HE2; have hn3 := (blk_cell HL.out.lp.bnh 3).trans rfl; have hbl := blk_lt HL.out.lp.bnh) | ((with_reducible refine gate_ (.store 3 (.tmp 141) (.tmp 140)) rfl ?_); refine LQ.set_step (by with_reducible repeat (first | exact HL.out | apply LQ.alloc | apply LQ.drewN)) 0 X0.f3 X0.f3 0 (.tmp 141) (.tmp 140) (by decide) rfl rfl rfl rfl rfl rfl ?_; intro W1 HL1; replace HL := Aside0.mk HL1; clear HL1; have ha0 := (blk_cell HL.out.arrh 0).trans rfl; have ha1 := (blk_cell HL.out.arrh 1).trans rfl) | ((with_reducible refine gate_ (.store 36 (.tmp 4) (.tmp 166)) rfl ?_); refine setR_step (LQ.lp (by with_reducible repeat (first | exact HL.out | apply LQ.alloc | apply LQ.drewN))).env (.tmp 4) (.tmp 166) rfl rfl rfl rfl rfl ?_; intro W1 HE1; have HE := Aside0.mk HE1; clear HE1))
                            (try simp only [Exit.inBlock, Exit.then])
                            (try rw [Exit.noGoto_ret])
                            exact line_err HE.out rfl rfl rfl rfl
                        · replace hs1 : takeP l0 3 (i + 1) = false := by simpa using hs1
                          rw [if_neg (by simp [hs1])] at hle
                          have hg := HG2.out
                          rw [← hle, if_neg (by show ¬ ((3 : Int) = 0); decide)] at hg
                          simp only [errR, Prod.mk.injEq] at hg
                          obtain ⟨rfl, rfl, rfl, rfl, rfl, rfl, rfl, rfl, rfl⟩ := hg
                          clear hle HG2
                          go_wp2_with (first | (go_at_call 28; refine (here_calls (LQ.lp (by with_reducible repeat (first | exact HL.out | apply LQ.alloc | apply LQ.drewN))).env HC.out HLIM.out).mono ?_; rintro e w' ⟨rfl, rfl⟩) | (go_at_call 29; refine (LQ.take_calls _ (by with_reducible repeat (first | exact HL.out | apply LQ.alloc | apply LQ.drewN)) HC.out HLIM.out HCAP.out).mono ?_; rintro e w2 ⟨rfl, HE2⟩; simp only [takeAt, hv1, hs1, if_true, Bool.false_eq_true, if_false, Nat.add_assoc, Nat.reduceAdd] at HE2; (try simp only [htok0]); (try simp only [htok1]); (try simp only [htok2]); replace HL := Aside0.mk HE2; clear HE2; have hn3 := (blk_cell HL.out.lp.bnh 3).trans rfl; have hbl := blk_lt HL.out.lp.bnh) | ((with_reducible refine gate_ (.store 3 (.tmp 141) (.tmp 140)) rfl ?_); refine LQ.set_step (by with_reducible repeat (first | exact HL.out | apply LQ.alloc | apply LQ.drewN)) 0 X0.f3 X0.f3 0 (.tmp 141) (.tmp 140) (by decide) rfl rfl rfl rfl rfl rfl ?_; intro W1 HL1; replace HL := Aside0.mk HL1; clear HL1; have ha0 := (blk_cell HL.out.arrh 0).trans rfl; have ha1 := (blk_cell HL.out.arrh 1).trans rfl) | ((with_reducible refine gate_ (.store 36 (.tmp 4) (.tmp 166)) rfl ?_); refine setR_step (LQ.lp (by with_reducible repeat (first | exact HL.out | apply LQ.alloc | apply LQ.drewN))).env (.tmp 4) (.tmp 166) rfl rfl rfl rfl rfl ?_; intro W1 HE1; have HE := Aside0.mk HE1; clear HE1))
                          (try simp only [Exit.inBlock, Exit.then])
                          (try rw [Exit.noGoto_ret])
                          exact line_err HE.out rfl rfl rfl rfl
                    · replace hv1 : takeP l0 2 i = false := by simpa using hv1
                      rw [if_neg (by simp [hv1])] at hle
                      have hg := HG2.out
                      rw [← hle, if_neg (by show ¬ ((3 : Int) = 0); decide)] at hg
                      simp only [errR, Prod.mk.injEq] at hg
                      obtain ⟨rfl, rfl, rfl, rfl, rfl, rfl, rfl, rfl, rfl⟩ := hg
                      clear hle HG2
                      go_wp2_with (first | (go_at_call 28; refine (here_calls (LQ.lp (by with_reducible repeat (first | exact HL.out | apply LQ.alloc | apply LQ.drewN))).env HC.out HLIM.out).mono ?_; rintro e w' ⟨rfl, rfl⟩) | (go_at_call 29; refine (LQ.take_calls _ (by with_reducible repeat (first | exact HL.out | apply LQ.alloc | apply LQ.drewN)) HC.out HLIM.out HCAP.out).mono ?_; rintro e w2 ⟨rfl, HE2⟩; simp only [takeAt, hv1, if_true, Bool.false_eq_true, if_false, Nat.add_assoc, Nat.reduceAdd] at HE2; (try simp only [htok0]); (try simp only [htok1]); (try simp only [htok2]); replace HL := Aside0.mk HE2; clear HE2; have hn3 := (blk_cell HL.out.lp.bnh 3).trans rfl; have hbl := blk_lt HL.out.lp.bnh) | ((with_reducible refine gate_ (.store 36 (.tmp 4) (.tmp 127)) rfl ?_); refine setR_step (LQ.lp (by with_reducible repeat (first | exact HL.out | apply LQ.alloc | apply LQ.drewN))).env (.tmp 4) (.tmp 127) rfl rfl rfl rfl rfl ?_; intro W1 HE1; have HE := Aside0.mk HE1; clear HE1))
                      (try simp only [Exit.inBlock, Exit.then])
                      (try rw [Exit.noGoto_ret])
                      exact line_err HE.out rfl rfl rfl rfl
                  · have hle := HLE.out
                    rw [lineEdges_end _ _ _ _ _ _ hi] at hle
                    have hg := HG2.out
                    rw [← hle, if_pos (show ((0 : Int) = 0) from rfl)] at hg
                    obtain ⟨A5, c5, rfl⟩ := Kd.R_slice HL.out.row
                    have HNF0 : graph_Normal.f (tokP l0 2 2).f3 acc = some (graphNormal (tokP l0 2 2).f3 acc) := if_pos (by have := HACC.out.1; have := HACC.out.2; omega)
                    clear hle HG2
                    dsimp only at hg
                    generalize graphNormal (tokP l0 2 2).f3 acc = gn at hg HNF0
                    obtain ⟨gN, gE, ge⟩ := gn
                    dsimp only at hg
                    have HG2 := Aside0.mk hg
                    have HNF := Aside0.mk HNF0
                    clear hg HNF0
                    have hn3 := (blk_cell HL.out.bnh 3).trans rfl
                    have hbl := blk_lt HL.out.bnh
                    go_upto_region 48 with (first | (go_at_call 32; refine (graph_Normal.calls _ _ _ acc _ _ _ _ (Kd.R_reads' HL.out.row).2.2 (Kd.R_reads' HL.out.row).2.1 HNF.out).mono ?_; rintro e w6 ⟨v6, rfl, hR6, hB6⟩; obtain ⟨A6, c6, rfl⟩ := Kd.R_slice hR6; have hltw := HL.out.env.lt; have HE6 := Aside0.mk (HL.out.env.below hB6); have HR6 := Aside0.mk hR6; clear hR6 hB6))
                    refine abs3 (fun W => LEnv w l0 A0 c0 a1 #[.int .i64 (verbP (tokP l0 1 0).f2), .string (tokP l0 1 1).f2, .int .i64 0, .slice none 0 0, .int .i64 0, .int .i64 (hereP l0 a1 0), .int .i64 (hereP l0 a1 1)] i W) (fun W => W.heap[w6.heap.size]? = some (.cells #[.int .i64 gN, .slice A6 gE.length c6] 34 (0, 0))) (fun W => Kd.R k64 64 W wr.heap.size (fun _ => True) (.slice A6 gE.length c6) gE) (by with_reducible repeat (first | exact HE6.out | apply LEnv.alloc | apply LEnv.drewN | apply LEnv.drew)) (blk_new _ _) (Kd.R_below HR6.out (below_alloc (Below.refl _ _) _)) ?_
                    intro W9 HE9 hb9 hR9
                    have HE := Aside0.mk HE9
                    have HRE := Aside0.mk hR9
                    have hg0 := (blk_cell hb9 0).trans rfl
                    have hg1 := (blk_cell hb9 1).trans rfl
                    clear HE9 hR9 HE6 HR6 hn3 hbl hb9
                    generalize w6.heap.size = bg at hg0 hg1 ⊢
                    have hz5 := (blk_cell HE.out.hO 5).trans rfl
                    by_cases hge : ge = 0
                    · have hg := HG2.out
                      rw [if_pos hge] at hg
                      simp only [Prod.mk.injEq] at hg
                      obtain ⟨rfl, rfl, rfl, rfl, rfl, rfl, rfl, rfl, rfl⟩ := hg
                      clear HG2
                      have hge0 := hge
                      clear hge
                      have ht31 : (Tryz.prog.info? 34).map (·.size) = some 2 := by kernel_rfl
                      have hgeb : (ge != 0) = false := by simpa using hge0
                      go_wp2_with (first | ((with_reducible refine gate_ (.store 34 (.tmp 183) (.tmp 182)) rfl ?_); refine setOp_step (by with_reducible repeat (first | exact HE.out | apply LEnv.alloc | apply LEnv.drewN | apply LEnv.drew)) 34 2 (.agg #[.int .i64 gN, .slice A6 gE.length c6]) [.int .i64 gN, .slice A6 gE.length c6] (.tmp 183) (.tmp 182) #[.int .i64 (verbP (tokP l0 1 0).f2), .string (tokP l0 1 1).f2, .int .i64 gN, .slice A6 gE.length c6, .int .i64 0, .int .i64 (hereP l0 a1 0), .int .i64 (hereP l0 a1 1)] (by simp) rfl ht31 (by simp [Value.oneCell']) rfl rfl rfl rfl rfl rfl ?_; intro W1 HE1 hg1; replace HE := Aside0.mk HE1; have HRF := Aside0.mk (Kd.R_grown1 HRE.out rfl hg1 (fun he => by have := Kd.R_base HRE.out _ he.symm; omega)); clear HE1 hg1; have k1 := cell_of_one HE.out.hL; have k3 := cell_of_one HE.out.hA; have o0 := (blk_cell HE.out.hO 0).trans rfl; have o1 := (blk_cell HE.out.hO 1).trans rfl; have o2 := (blk_cell HE.out.hO 2).trans rfl; have o3 := (blk_cell HE.out.hO 3).trans rfl; have o4 := (blk_cell HE.out.hO 4).trans rfl; have o5 := (blk_cell HE.out.hO 5).trans rfl; have o6 := (blk_cell HE.out.hO 6).trans rfl) | ((with_reducible refine gate_ (.store 36 (.tmp 4) (.tmp 191)) rfl ?_); refine finR_step (by with_reducible repeat (first | exact HE.out | apply LEnv.alloc | apply LEnv.drewN | apply LEnv.drew)) _ _ _ _ _ _ _ ⟨rfl, rfl⟩ ⟨rfl, rfl⟩ ⟨rfl, rfl⟩ ⟨rfl, rfl⟩ ⟨rfl, rfl⟩ ⟨rfl, rfl⟩ ⟨rfl, rfl⟩ (.tmp 4) (.tmp 191) rfl rfl rfl rfl rfl ?_; intro W1 hR1 hB1 hg1; have HR1 := Aside0.mk hR1; have HB1 := Aside0.mk hB1; have HG1 := Aside0.mk hg1; clear hR1 hB1 hg1))
                      rw [Exit.noGoto_normal]
                      go_wp2_with (first | ((with_reducible refine gate_ (.store 34 (.tmp 183) (.tmp 182)) rfl ?_); refine setOp_step (by with_reducible repeat (first | exact HE.out | apply LEnv.alloc | apply LEnv.drewN | apply LEnv.drew)) 34 2 (.agg #[.int .i64 gN, .slice A6 gE.length c6]) [.int .i64 gN, .slice A6 gE.length c6] (.tmp 183) (.tmp 182) #[.int .i64 (verbP (tokP l0 1 0).f2), .string (tokP l0 1 1).f2, .int .i64 gN, .slice A6 gE.length c6, .int .i64 0, .int .i64 (hereP l0 a1 0), .int .i64 (hereP l0 a1 1)] (by simp) rfl ht31 (by simp [Value.oneCell']) rfl rfl rfl rfl rfl rfl ?_; intro W1 HE1 hg1; replace HE := Aside0.mk HE1; have HRF := Aside0.mk (Kd.R_grown1 HRE.out rfl hg1 (fun he => by have := Kd.R_base HRE.out _ he.symm; omega)); clear HE1 hg1; have k1 := cell_of_one HE.out.hL; have k3 := cell_of_one HE.out.hA; have o0 := (blk_cell HE.out.hO 0).trans rfl; have o1 := (blk_cell HE.out.hO 1).trans rfl; have o2 := (blk_cell HE.out.hO 2).trans rfl; have o3 := (blk_cell HE.out.hO 3).trans rfl; have o4 := (blk_cell HE.out.hO 4).trans rfl; have o5 := (blk_cell HE.out.hO 5).trans rfl; have o6 := (blk_cell HE.out.hO 6).trans rfl) | ((with_reducible refine gate_ (.store 36 (.tmp 4) (.tmp 191)) rfl ?_); refine finR_step (by with_reducible repeat (first | exact HE.out | apply LEnv.alloc | apply LEnv.drewN | apply LEnv.drew)) _ _ _ _ _ _ _ ⟨rfl, rfl⟩ ⟨rfl, rfl⟩ ⟨rfl, rfl⟩ ⟨rfl, rfl⟩ ⟨rfl, rfl⟩ ⟨rfl, rfl⟩ ⟨rfl, rfl⟩ (.tmp 4) (.tmp 191) rfl rfl rfl rfl rfl ?_; intro W1 hR1 hB1 hg1; have HR1 := Aside0.mk hR1; have HB1 := Aside0.mk hB1; have HG1 := Aside0.mk hg1; clear hR1 hB1 hg1))
                      (try simp only [Exit.inBlock, Exit.then])
                      (try rw [Exit.noGoto_ret])
                      exact bodyPost_ret_by (results_19 _ _ (w.heap.size + 2) _ _ _ _ _ _ _ _ _ rfl rfl rfl HR1.out) rfl ⟨_, by rw [HV.out]; rfl, Kd.R_lower (Kd.R_grown1 HRF.out rfl HG1.out (fun he => by have := Kd.R_base HRF.out _ he.symm; omega)) (by omega), HB1.out⟩
                    · have hgeb : (ge != 0) = true := by simpa using hge
                      have hg := HG2.out
                      rw [if_neg hge] at hg
                      simp only [errR, Prod.mk.injEq] at hg
                      obtain ⟨rfl, rfl, rfl, rfl, rfl, rfl, rfl, rfl, rfl⟩ := hg
                      clear HG2 hge
                      obtain ⟨q0, q1, q2, q3, q4, q5, q6⟩ := zero_cells HE.out
                      have qf := fun j => blk_frozen HE.out.hR j
                      go_upto_region 49 with (fail)
                      go_region
                      go_wp2
                      (try simp only [Exit.inBlock, Exit.then])
                      (try rw [Exit.noGoto_ret])
                      exact line_err HE.out.set7 rfl rfl rfl rfl
            · replace hld : takeP l0 2 2 = false := by simpa using hld
              have hg := HG2.out
              rw [if_neg (by simp [hld])] at hg
              simp only [errR, Prod.mk.injEq] at hg
              obtain ⟨rfl, rfl, rfl, rfl, rfl, rfl, rfl, rfl, rfl⟩ := hg
              clear HG2
              go_wp2_with (first | (go_at_call 28; refine (here_calls (by with_reducible repeat (first | exact HE.out | apply LEnv.alloc | apply LEnv.drewN | apply LEnv.drew)) HC.out HLIM.out).mono ?_; rintro e w' ⟨rfl, rfl⟩) | (go_at_call 30; refine (script_verb.calls _ _ _ (verb_any _)).mono ?_; rintro e w3 ⟨rfl, ⟨nd, rfl⟩⟩) | ((with_reducible refine gate_ (.store 3 (.tmp 34) (.tmp 33)) rfl ?_); refine setOp_step (by with_reducible repeat (first | exact HE.out | apply LEnv.alloc | apply LEnv.drewN | apply LEnv.drew)) 3 5 (.int .i64 (hereP l0 a1 0)) [.int .i64 (hereP l0 a1 0)] (.tmp 34) (.tmp 33) #[.int .i64 0, .string ⟨#[]⟩, .int .i64 0, .slice none 0 0, .int .i64 0, .int .i64 (hereP l0 a1 0), .int .i64 0] (by simp) rfl ht3 (one1 _ rfl) rfl rfl rfl rfl rfl rfl ?_; intro W1 HE1 hg1; replace HE := Aside0.mk HE1; clear HE1 hg1) | ((with_reducible refine gate_ (.store 3 (.tmp 54) (.tmp 53)) rfl ?_); refine setOp_step (by with_reducible repeat (first | exact HE.out | apply LEnv.alloc | apply LEnv.drewN | apply LEnv.drew)) 3 0 (.int .i64 (verbP (tokP l0 1 0).f2)) [.int .i64 (verbP (tokP l0 1 0).f2)] (.tmp 54) (.tmp 53) #[.int .i64 (verbP (tokP l0 1 0).f2), .string ⟨#[]⟩, .int .i64 0, .slice none 0 0, .int .i64 0, .int .i64 (hereP l0 a1 0), .int .i64 0] (by simp) rfl ht3 (one1 _ rfl) rfl rfl rfl rfl rfl rfl ?_; intro W1 HE1 hg1; replace HE := Aside0.mk HE1; clear HE1 hg1) | ((with_reducible refine gate_ (.store 3 (.tmp 57) (.tmp 56)) rfl ?_); refine setOp_step (by with_reducible repeat (first | exact HE.out | apply LEnv.alloc | apply LEnv.drewN | apply LEnv.drew)) 3 6 (.int .i64 (hereP l0 a1 1)) [.int .i64 (hereP l0 a1 1)] (.tmp 57) (.tmp 56) #[.int .i64 (verbP (tokP l0 1 0).f2), .string ⟨#[]⟩, .int .i64 0, .slice none 0 0, .int .i64 0, .int .i64 (hereP l0 a1 0), .int .i64 (hereP l0 a1 1)] (by simp) rfl ht3 (one1 _ rfl) rfl rfl rfl rfl rfl rfl ?_; intro W1 HE1 hg1; replace HE := Aside0.mk HE1; clear HE1 hg1) | ((with_reducible refine gate_ (.store 9 (.tmp 70) (.tmp 69)) rfl ?_); refine setOp_step (by with_reducible repeat (first | exact HE.out | apply LEnv.alloc | apply LEnv.drewN | apply LEnv.drew)) 9 1 (.string (tokP l0 1 1).f2) [.string (tokP l0 1 1).f2] (.tmp 70) (.tmp 69) #[.int .i64 (verbP (tokP l0 1 0).f2), .string (tokP l0 1 1).f2, .int .i64 0, .slice none 0 0, .int .i64 0, .int .i64 (hereP l0 a1 0), .int .i64 (hereP l0 a1 1)] (by simp) rfl ht9 (one1 _ rfl) rfl rfl rfl rfl rfl rfl ?_; intro W1 HE1 hg1; replace HE := Aside0.mk HE1; clear HE1 hg1; have hop0 := (blk_cell HE.out.hO 0).trans rfl) | (go_at_call 29; refine (take_calls _ (by with_reducible repeat (first | exact HE.out | apply LEnv.alloc | apply LEnv.drewN | apply LEnv.drew)) HC.out HLIM.out HCAP.out).mono ?_; rintro e w2 ⟨rfl, HE2, hg2⟩; simp only [takeAt, ht, hn, hld, if_true, Bool.false_eq_true, if_false, Nat.reduceAdd] at HE2; replace HE := Aside0.mk HE2; clear HE2 hg2))
              go_step3
              go_wp2_with (first | (go_at_call 28; refine (here_calls (by with_reducible repeat (first | exact HE.out | apply LEnv.alloc | apply LEnv.drewN | apply LEnv.drew)) HC.out HLIM.out).mono ?_; rintro e w' ⟨rfl, rfl⟩) | (go_at_call 29; refine (take_calls _ (by with_reducible repeat (first | exact HE.out | apply LEnv.alloc | apply LEnv.drewN | apply LEnv.drew)) HC.out HLIM.out HCAP.out).mono ?_; rintro e w2 ⟨rfl, HE2, hg2⟩; simp only [takeAt, ht, hn, hld, if_true, Bool.false_eq_true, if_false, Nat.reduceAdd] at HE2; replace HE := Aside0.mk HE2; clear HE2 hg2) | ((with_reducible refine gate_ (.store 36 (.tmp 4) (.tmp 104)) rfl ?_); refine setR_step (by with_reducible repeat (first | exact HE.out | apply LEnv.alloc | apply LEnv.drewN | apply LEnv.drew)) (.tmp 4) (.tmp 104) rfl rfl rfl rfl rfl ?_; intro W1 HE1; replace HE := Aside0.mk HE1; clear HE1))
              (try simp only [Exit.inBlock, Exit.then])
              exact line_err HE.out rfl rfl rfl rfl
          · have hk1b : (verbP (tokP l0 1 0).f2 == 1) = false := by simpa using hk1
            have hg := HG2.out
            rw [if_neg hk1] at hg
            replace HG2 := Aside0.mk hg
            clear hg hk1
            go_upto_region 51 with (first | (go_at_call 28; refine (here_calls (by with_reducible repeat (first | exact HE.out | apply LEnv.alloc | apply LEnv.drewN | apply LEnv.drew)) HC.out HLIM.out).mono ?_; rintro e w' ⟨rfl, rfl⟩) | (go_at_call 30; refine (script_verb.calls _ _ _ (verb_any _)).mono ?_; rintro e w3 ⟨rfl, ⟨nd, rfl⟩⟩) | (go_at_call 29; refine (take_calls _ (by with_reducible repeat (first | exact HE.out | apply LEnv.alloc | apply LEnv.drewN | apply LEnv.drew)) HC.out HLIM.out HCAP.out).mono ?_; rintro e w2 ⟨rfl, HE2, hg2⟩; simp only [takeAt, ht, hn, if_true, Bool.false_eq_true, if_false, Nat.reduceAdd] at HE2; replace HE := Aside0.mk HE2; clear HE2 hg2) | ((with_reducible refine gate_ (.store 3 (.tmp 34) (.tmp 33)) rfl ?_); refine setOp_step (by with_reducible repeat (first | exact HE.out | apply LEnv.alloc | apply LEnv.drewN | apply LEnv.drew)) 3 5 (.int .i64 (hereP l0 a1 0)) [.int .i64 (hereP l0 a1 0)] (.tmp 34) (.tmp 33) #[.int .i64 0, .string ⟨#[]⟩, .int .i64 0, .slice none 0 0, .int .i64 0, .int .i64 (hereP l0 a1 0), .int .i64 0] (by simp) rfl ht3 (one1 _ rfl) rfl rfl rfl rfl rfl rfl ?_; intro W1 HE1 hg1; replace HE := Aside0.mk HE1; clear HE1 hg1) | ((with_reducible refine gate_ (.store 3 (.tmp 54) (.tmp 53)) rfl ?_); refine setOp_step (by with_reducible repeat (first | exact HE.out | apply LEnv.alloc | apply LEnv.drewN | apply LEnv.drew)) 3 0 (.int .i64 (verbP (tokP l0 1 0).f2)) [.int .i64 (verbP (tokP l0 1 0).f2)] (.tmp 54) (.tmp 53) #[.int .i64 (verbP (tokP l0 1 0).f2), .string ⟨#[]⟩, .int .i64 0, .slice none 0 0, .int .i64 0, .int .i64 (hereP l0 a1 0), .int .i64 0] (by simp) rfl ht3 (one1 _ rfl) rfl rfl rfl rfl rfl rfl ?_; intro W1 HE1 hg1; replace HE := Aside0.mk HE1; clear HE1 hg1) | ((with_reducible refine gate_ (.store 3 (.tmp 57) (.tmp 56)) rfl ?_); refine setOp_step (by with_reducible repeat (first | exact HE.out | apply LEnv.alloc | apply LEnv.drewN | apply LEnv.drew)) 3 6 (.int .i64 (hereP l0 a1 1)) [.int .i64 (hereP l0 a1 1)] (.tmp 57) (.tmp 56) #[.int .i64 (verbP (tokP l0 1 0).f2), .string ⟨#[]⟩, .int .i64 0, .slice none 0 0, .int .i64 0, .int .i64 (hereP l0 a1 0), .int .i64 (hereP l0 a1 1)] (by simp) rfl ht3 (one1 _ rfl) rfl rfl rfl rfl rfl rfl ?_; intro W1 HE1 hg1; replace HE := Aside0.mk HE1; clear HE1 hg1) | ((with_reducible refine gate_ (.store 9 (.tmp 70) (.tmp 69)) rfl ?_); refine setOp_step (by with_reducible repeat (first | exact HE.out | apply LEnv.alloc | apply LEnv.drewN | apply LEnv.drew)) 9 1 (.string (tokP l0 1 1).f2) [.string (tokP l0 1 1).f2] (.tmp 70) (.tmp 69) #[.int .i64 (verbP (tokP l0 1 0).f2), .string (tokP l0 1 1).f2, .int .i64 0, .slice none 0 0, .int .i64 0, .int .i64 (hereP l0 a1 0), .int .i64 (hereP l0 a1 1)] (by simp) rfl ht9 (one1 _ rfl) rfl rfl rfl rfl rfl rfl ?_; intro W1 HE1 hg1; replace HE := Aside0.mk HE1; clear HE1 hg1; have hop0 := (blk_cell HE.out.hO 0).trans rfl))
            refine lenv_abs (by with_reducible repeat (first | exact HE.out | apply LEnv.alloc | apply LEnv.drewN | apply LEnv.drew)) ?_
            intro W9 HE9
            replace HE := Aside0.mk HE9
            clear HE9
            have k1 := cell_of_one HE.out.hL
            have k3 := cell_of_one HE.out.hA
            have o0 := (blk_cell HE.out.hO 0).trans rfl
            have o1 := (blk_cell HE.out.hO 1).trans rfl
            have o2 := (blk_cell HE.out.hO 2).trans rfl
            have o3 := (blk_cell HE.out.hO 3).trans rfl
            have o4 := (blk_cell HE.out.hO 4).trans rfl
            have o5 := (blk_cell HE.out.hO 5).trans rfl
            have o6 := (blk_cell HE.out.hO 6).trans rfl
            have hg := HG2.out
            unfold finR at hg
            by_cases hi : 2 < l0.length
            · rw [if_pos hi] at hg
              simp only [errR, Prod.mk.injEq] at hg
              obtain ⟨rfl, rfl, rfl, rfl, rfl, rfl, rfl, rfl, rfl⟩ := hg
              clear HG2
              have hib : decide ((((2 : Nat)) : Int) < (l0.length : Int)) = true := decide_eq_true (by omega)
              go_wp2_with (first | (go_at_call 28; refine (here_calls (by with_reducible repeat (first | exact HE.out | apply LEnv.alloc | apply LEnv.drewN | apply LEnv.drew)) HC.out HLIM.out).mono ?_; rintro e w' ⟨rfl, rfl⟩) | ((with_reducible refine gate_ (.store 36 (.tmp 4) (.tmp 188)) rfl ?_); refine setR_step (by with_reducible repeat (first | exact HE.out | apply LEnv.alloc | apply LEnv.drewN | apply LEnv.drew)) (.tmp 4) (.tmp 188) rfl rfl rfl rfl rfl ?_; intro W1 HE1; replace HE := Aside0.mk HE1; clear HE1))
              (try simp only [Exit.inBlock, Exit.then])
              exact line_err HE.out rfl rfl rfl rfl
            · rw [if_neg hi] at hg
              simp only [Prod.mk.injEq] at hg
              obtain ⟨rfl, rfl, rfl, rfl, rfl, rfl, rfl, rfl, rfl⟩ := hg
              clear HG2
              have hib : decide ((((2 : Nat)) : Int) < (l0.length : Int)) = false := decide_eq_false (by omega)
              go_wp2_with (first | ((with_reducible refine gate_ (.store 36 (.tmp 4) (.tmp 191)) rfl ?_); refine finR_step (by with_reducible repeat (first | exact HE.out | apply LEnv.alloc | apply LEnv.drewN | apply LEnv.drew)) _ _ _ _ _ _ _ ⟨rfl, rfl⟩ ⟨rfl, rfl⟩ ⟨rfl, rfl⟩ ⟨rfl, rfl⟩ ⟨rfl, rfl⟩ ⟨rfl, rfl⟩ ⟨rfl, rfl⟩ (.tmp 4) (.tmp 191) rfl rfl rfl rfl rfl ?_; intro W1 hR1 hB1 hg1; have HR1 := Aside0.mk hR1; have HB1 := Aside0.mk hB1; have HG1 := Aside0.mk hg1; clear hR1 hB1 hg1))
              (try simp only [Exit.inBlock, Exit.then])
              exact bodyPost_ret_by (results_19 _ _ (w.heap.size + 2) _ _ _ _ _ _ _ _ _ rfl rfl rfl HR1.out) rfl ⟨_, rfl, Kd.R_nil _ _ _ _ _, HB1.out⟩
      · replace hn : takeP l0 1 1 = false := by simpa using hn
        have hg := HG2.out
        rw [if_neg (by simp [hn])] at hg
        simp only [errR, Prod.mk.injEq] at hg
        obtain ⟨rfl, rfl, rfl, rfl, rfl, rfl, rfl, rfl, rfl⟩ := hg
        clear HG2 hv
        go_upto_region 13 with (first | (go_at_call 28; refine (here_calls (by with_reducible repeat (first | exact HE.out | apply LEnv.alloc | apply LEnv.drewN | apply LEnv.drew)) HC.out HLIM.out).mono ?_; rintro e w' ⟨rfl, rfl⟩) | (go_at_call 30; refine (script_verb.calls _ _ _ (verb_any _)).mono ?_; rintro e w3 ⟨rfl, ⟨nd, rfl⟩⟩) | (go_at_call 29; refine (take_calls _ (by with_reducible repeat (first | exact HE.out | apply LEnv.alloc | apply LEnv.drewN | apply LEnv.drew)) HC.out HLIM.out HCAP.out).mono ?_; rintro e w2 ⟨rfl, HE2, hg2⟩; simp only [takeAt, ht, hn, if_true, Bool.false_eq_true, if_false, Nat.reduceAdd] at HE2; replace HE := Aside0.mk HE2; clear HE2 hg2) | ((with_reducible refine gate_ (.store 3 (.tmp 34) (.tmp 33)) rfl ?_); refine setOp_step (by with_reducible repeat (first | exact HE.out | apply LEnv.alloc | apply LEnv.drewN | apply LEnv.drew)) 3 5 (.int .i64 (hereP l0 a1 0)) [.int .i64 (hereP l0 a1 0)] (.tmp 34) (.tmp 33) #[.int .i64 0, .string ⟨#[]⟩, .int .i64 0, .slice none 0 0, .int .i64 0, .int .i64 (hereP l0 a1 0), .int .i64 0] (by simp) rfl ht3 (one1 _ rfl) rfl rfl rfl rfl rfl rfl ?_; intro W1 HE1 hg1; replace HE := Aside0.mk HE1; clear HE1 hg1) | ((with_reducible refine gate_ (.store 3 (.tmp 54) (.tmp 53)) rfl ?_); refine setOp_step (by with_reducible repeat (first | exact HE.out | apply LEnv.alloc | apply LEnv.drewN | apply LEnv.drew)) 3 0 (.int .i64 (verbP (tokP l0 1 0).f2)) [.int .i64 (verbP (tokP l0 1 0).f2)] (.tmp 54) (.tmp 53) #[.int .i64 (verbP (tokP l0 1 0).f2), .string ⟨#[]⟩, .int .i64 0, .slice none 0 0, .int .i64 0, .int .i64 (hereP l0 a1 0), .int .i64 0] (by simp) rfl ht3 (one1 _ rfl) rfl rfl rfl rfl rfl rfl ?_; intro W1 HE1 hg1; replace HE := Aside0.mk HE1; clear HE1 hg1) | ((with_reducible refine gate_ (.store 3 (.tmp 57) (.tmp 56)) rfl ?_); refine setOp_step (by with_reducible repeat (first | exact HE.out | apply LEnv.alloc | apply LEnv.drewN | apply LEnv.drew)) 3 6 (.int .i64 (hereP l0 a1 1)) [.int .i64 (hereP l0 a1 1)] (.tmp 57) (.tmp 56) #[.int .i64 (verbP (tokP l0 1 0).f2), .string ⟨#[]⟩, .int .i64 0, .slice none 0 0, .int .i64 0, .int .i64 (hereP l0 a1 0), .int .i64 (hereP l0 a1 1)] (by simp) rfl ht3 (one1 _ rfl) rfl rfl rfl rfl rfl rfl ?_; intro W1 HE1 hg1; replace HE := Aside0.mk HE1; clear HE1 hg1))
        refine lenv_abs (by with_reducible repeat (first | exact HE.out | apply LEnv.alloc | apply LEnv.drewN | apply LEnv.drew)) ?_
        intro W9 HE9
        replace HE := Aside0.mk HE9
        clear HE9
        have hz6 := (blk_cell HE.out.hO 6).trans rfl
        obtain ⟨q0, q1, q2, q3, q4, q5, q6⟩ := zero_cells HE.out
        have qf := fun j => blk_frozen HE.out.hR j
        go_region
        go_wp2
        exact line_err HE.out.set7 rfl rfl rfl rfl
  · replace ht : takeP l0 1 0 = false := by simpa using ht
    have hg := HG.out
    rw [if_neg (by simp [ht])] at hg
    simp only [errR, Prod.mk.injEq] at hg
    obtain ⟨rfl, rfl, rfl, rfl, rfl, rfl, rfl, rfl, rfl⟩ := hg
    clear HG
    go_upto_region 8 with (first | (go_at_call 28; refine (here_calls (by with_reducible repeat (first | exact HE.out | apply LEnv.alloc | apply LEnv.drewN | apply LEnv.drew)) HC.out HLIM.out).mono ?_; rintro e w' ⟨rfl, rfl⟩) | (go_at_call 30; refine (script_verb.calls _ _ _ (verb_any _)).mono ?_; rintro e w3 ⟨rfl, ⟨nd, rfl⟩⟩) | (go_at_call 29; refine (take_calls _ (by with_reducible repeat (first | exact HE.out | apply LEnv.alloc | apply LEnv.drewN | apply LEnv.drew)) HC.out HLIM.out HCAP.out).mono ?_; rintro e w2 ⟨rfl, HE2, hg2⟩; simp only [takeAt, ht, if_true, Bool.false_eq_true, if_false, Nat.reduceAdd] at HE2; replace HE := Aside0.mk HE2; clear HE2 hg2) | ((with_reducible refine gate_ (.store 3 (.tmp 34) (.tmp 33)) rfl ?_); refine setOp_step (by with_reducible repeat (first | exact HE.out | apply LEnv.alloc | apply LEnv.drewN | apply LEnv.drew)) 3 5 (.int .i64 (hereP l0 a1 0)) [.int .i64 (hereP l0 a1 0)] (.tmp 34) (.tmp 33) #[.int .i64 0, .string ⟨#[]⟩, .int .i64 0, .slice none 0 0, .int .i64 0, .int .i64 (hereP l0 a1 0), .int .i64 0] (by simp) rfl ht3 (one1 _ rfl) rfl rfl rfl rfl rfl rfl ?_; intro W1 HE1 hg1; replace HE := Aside0.mk HE1; clear HE1 hg1))
    refine lenv_abs (by with_reducible repeat (first | exact HE.out | apply LEnv.alloc | apply LEnv.drewN | apply LEnv.drew)) ?_
    intro W9 HE9
    replace HE := Aside0.mk HE9
    clear HE9
    have hz5 := (blk_cell HE.out.hO 5).trans rfl
    obtain ⟨q0, q1, q2, q3, q4, q5, q6⟩ := zero_cells HE.out
    have qf := fun j => blk_frozen HE.out.hR j
    go_region
    go_wp2
    exact line_err HE.out.set7 rfl rfl rfl rfl

end Go.Proofs.YtmdmdbiinngneaaGreatDoor.Q

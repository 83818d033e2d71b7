-- Laid by prx.py (ours), out of the translation's print. Not trusted: Lean checks it.
import Derived.Test.YtmdmdbiinngneaaGreatDoorQ0
import Derived.Test.YtmdmdbiinngneaaGreatDoorQ16
import Derived.Test.YtmdmdbiinngneaaGreatDoorQ17
import Derived.Test.YtmdmdbiinngneaaGreatDoorQ20
import Derived.Outline
namespace Go.Proofs.YtmdmdbiinngneaaGreatDoor.Q
open Go.RowKit Go.Proofs.YtmdmdbiinngneaaGreatDoorW.PrintWords Go.Proofs.YtmdmdbiinngneaaGreatDoorW.PrintLast Go.Proofs.YtmdmdbiinngneaaGreatDoorW.PrintMore
attribute [local go_sem] max2_int min2_int max_two min_two max_three min_three max_four min_four   -- for this text's walks alone
set_option linter.unusedVariables false
set_option linter.unusedSimpArgs false

/-! ### HAND carcanetref25_line: function 13 -/
mutual
def carcanetref25_line.j0 : Nat → List (S49) → Int → Int → ByteArray → Int → Int → Int → Int → Option (Int × ByteArray × Int × (List (S64)) × Int × Int × Int × Int × Int)
 | 0, _, _, _, _, _, _, _, _ => none
 | k + 1, x0, x1, x212000, x212001, x212002, x212004, x212005, x212006 => if x212000 = 0 then (if 0 < (x0.length : Int) then (some (0, (⟨#[]⟩ : ByteArray), 0, ([] : List (S64)), 0, 0, 0, (rd_T49 x0 0).f1, 3)) else (none)) else ((carcanetref25_is.f x0 1 1).bind fun t216 => (if t216 = true then (if 1 < (x0.length : Int) then (if x212000 = 2 then ((carcanetref25_is.f x0 2 1).bind fun t220 => (if t220 = true then (if 2 < (x0.length : Int) then ((carcanetref25_class.f k ((rd_T49 x0 2).f2)).bind fun t222 => (carcanetref25_line.j1 k x0 x1 3 (t222 == 0) x212000 ((rd_T49 x0 1).f2) x212002 x212004 x212005 ((rd_T49 x0 1).f1))) else (none)) else (carcanetref25_line.j1 k x0 x1 3 true x212000 ((rd_T49 x0 1).f2) x212002 x212004 x212005 ((rd_T49 x0 1).f1)))) else (carcanetref25_line.j2 k x0 x1 2 x212000 ((rd_T49 x0 1).f2) x212002 x212004 x212005 ((rd_T49 x0 1).f1))) else (none)) else ((carcanetref25_place.f x0 1 x1).bind fun t217 => (some (0, (⟨#[]⟩ : ByteArray), 0, ([] : List (S64)), 0, 0, 0, t217, 3)))))
def carcanetref25_line.j2 : Nat → List (S49) → Int → Int → Int → ByteArray → Int → Int → Int → Int → Option (Int × ByteArray × Int × (List (S64)) × Int × Int × Int × Int × Int)
 | 0, _, _, _, _, _, _, _, _, _ => none
 | k + 1, x0, x1, x8, x212000, x212001, x212002, x212004, x212005, x212006 => if x212000 = 1 then ((carcanetref25_is.f x0 2 2).bind fun t227 => (if t227 = true then (if 2 < (x0.length : Int) then (if ((rd_T49 x0 2).f3) > 1000 then (some (0, (⟨#[]⟩ : ByteArray), 0, ([] : List (S64)), 0, 0, 0, (rd_T49 x0 2).f1, 5)) else ((carcanetref25_edges.f k x0 x1 ((rd_T49 x0 2).f3)).bind fun bt232 => (if bt232.2.2 = 0 then ((carcanetref03_Normal.f k ((rd_T49 x0 2).f3) bt232.1).bind fun bt238 => (if bt238.2.2 = 0 then (some (x212000, x212001, bt238.1, bt238.2.1, x212004, x212005, x212006, 0, 0)) else (if 0 < (x0.length : Int) then (some (0, (⟨#[]⟩ : ByteArray), 0, ([] : List (S64)), 0, 0, 0, (rd_T49 x0 0).f1, bt238.2.2)) else (none)))) else (some (0, (⟨#[]⟩ : ByteArray), 0, ([] : List (S64)), 0, 0, 0, bt232.2.1, bt232.2.2))))) else (none)) else ((carcanetref25_place.f x0 2 x1).bind fun t228 => (some (0, (⟨#[]⟩ : ByteArray), 0, ([] : List (S64)), 0, 0, 0, t228, 3))))) else (if (x0.length : Int) > x8 then (if 0 ≤ x8 then (if x8 < (x0.length : Int) then (some (0, (⟨#[]⟩ : ByteArray), 0, ([] : List (S64)), 0, 0, 0, (rd_T49 x0 x8).f1, 3)) else (none)) else (none)) else (some (x212000, x212001, x212002, ([] : List (S64)), x212004, x212005, x212006, 0, 0)))
def carcanetref25_line.j1 : Nat → List (S49) → Int → Int → Bool → Int → ByteArray → Int → Int → Int → Int → Option (Int × ByteArray × Int × (List (S64)) × Int × Int × Int × Int × Int)
 | 0, _, _, _, _, _, _, _, _, _, _ => none
 | k + 1, x0, x1, x8, x65, x212000, x212001, x212002, x212004, x212005, x212006 => if x65 = true then ((carcanetref25_place.f x0 2 x1).bind fun t223 => (some (0, (⟨#[]⟩ : ByteArray), 0, ([] : List (S64)), 0, 0, 0, t223, 3))) else (if 2 < (x0.length : Int) then ((carcanetref25_class.f k ((rd_T49 x0 2).f2)).bind fun t225 => (carcanetref25_line.j2 k x0 x1 x8 x212000 x212001 x212002 t225 x212005 x212006)) else (none))
end
def carcanetref25_line.f (k : Nat) (l0 : List (S49)) (a1 : Int) : Option (Int × ByteArray × Int × (List (S64)) × Int × Int × Int × Int × Int) := if 0 < (l0.length : Int) then ((carcanetref25_is.f l0 0 1).bind fun t212 => (if t212 = true then ((carcanetref25_verb.f ((rd_T49 l0 0).f2)).bind fun t214 => (carcanetref25_line.j0 k l0 a1 t214 (⟨#[]⟩ : ByteArray) 0 0 ((rd_T49 l0 0).f1) 0)) else (carcanetref25_line.j0 k l0 a1 0 (⟨#[]⟩ : ByteArray) 0 0 ((rd_T49 l0 0).f1) 0))) else (none)
theorem carcanetref25_line.mono_l : ∀ k, (∀ y0 y1 y2 y3 y4 y5 y6 y7, LeO (carcanetref25_line.j0 k y0 y1 y2 y3 y4 y5 y6 y7) (carcanetref25_line.j0 (k + 1) y0 y1 y2 y3 y4 y5 y6 y7)) ∧ (∀ y0 y1 y2 y3 y4 y5 y6 y7 y8, LeO (carcanetref25_line.j2 k y0 y1 y2 y3 y4 y5 y6 y7 y8) (carcanetref25_line.j2 (k + 1) y0 y1 y2 y3 y4 y5 y6 y7 y8)) ∧ (∀ y0 y1 y2 y3 y4 y5 y6 y7 y8 y9, LeO (carcanetref25_line.j1 k y0 y1 y2 y3 y4 y5 y6 y7 y8 y9) (carcanetref25_line.j1 (k + 1) y0 y1 y2 y3 y4 y5 y6 y7 y8 y9))
 | 0 => ⟨fun _ _ _ _ _ _ _ _ r h => by simp [carcanetref25_line.j0] at h, fun _ _ _ _ _ _ _ _ _ r h => by simp [carcanetref25_line.j2] at h, fun _ _ _ _ _ _ _ _ _ _ r h => by simp [carcanetref25_line.j1] at h⟩
 | k + 1 => by
  obtain ⟨ih0, ih1, ih2⟩ := carcanetref25_line.mono_l k
  refine ⟨?_, ?_, ?_⟩
  ·intro y0 y1 y2 y3 y4 y5 y6 y7
   unfold carcanetref25_line.j0
   repeat' first
   | (with_reducible exact ih0 _ _ _ _ _ _ _ _)
   | (with_reducible exact ih1 _ _ _ _ _ _ _ _ _)
   | (with_reducible exact ih2 _ _ _ _ _ _ _ _ _ _)
   | (with_reducible exact carcanetref03_Normal.mono _ _ _)
   | (with_reducible exact carcanetref25_class.mono _ _)
   | (with_reducible exact carcanetref25_edges.mono _ _ _ _)
   | (with_reducible exact LeO.refl _)
   | (with_reducible exact LeO.none _)
   | (with_reducible refine LeO.ite ?_ ?_)
   | (with_reducible refine LeO.bind ?_ (fun _ => ?_))
   | exact ih0 _ _ _ _ _ _ _ _
   | exact ih1 _ _ _ _ _ _ _ _ _
   | exact ih2 _ _ _ _ _ _ _ _ _ _
   | exact carcanetref03_Normal.mono _ _ _
   | exact carcanetref25_class.mono _ _
   | exact carcanetref25_edges.mono _ _ _ _
   | exact LeO.none _
   | refine LeO.ite ?_ ?_
   | refine LeO.bind ?_ (fun _ => ?_)
  ·intro y0 y1 y2 y3 y4 y5 y6 y7 y8
   unfold carcanetref25_line.j2
   repeat' first
   | (with_reducible exact ih0 _ _ _ _ _ _ _ _)
   | (with_reducible exact ih1 _ _ _ _ _ _ _ _ _)
   | (with_reducible exact ih2 _ _ _ _ _ _ _ _ _ _)
   | (with_reducible exact carcanetref03_Normal.mono _ _ _)
   | (with_reducible exact carcanetref25_class.mono _ _)
   | (with_reducible exact carcanetref25_edges.mono _ _ _ _)
   | (with_reducible exact LeO.refl _)
   | (with_reducible exact LeO.none _)
   | (with_reducible refine LeO.ite ?_ ?_)
   | (with_reducible refine LeO.bind ?_ (fun _ => ?_))
   | exact ih0 _ _ _ _ _ _ _ _
   | exact ih1 _ _ _ _ _ _ _ _ _
   | exact ih2 _ _ _ _ _ _ _ _ _ _
   | exact carcanetref03_Normal.mono _ _ _
   | exact carcanetref25_class.mono _ _
   | exact carcanetref25_edges.mono _ _ _ _
   | exact LeO.none _
   | refine LeO.ite ?_ ?_
   | refine LeO.bind ?_ (fun _ => ?_)
  ·intro y0 y1 y2 y3 y4 y5 y6 y7 y8 y9
   unfold carcanetref25_line.j1
   repeat' first
   | (with_reducible exact ih0 _ _ _ _ _ _ _ _)
   | (with_reducible exact ih1 _ _ _ _ _ _ _ _ _)
   | (with_reducible exact ih2 _ _ _ _ _ _ _ _ _ _)
   | (with_reducible exact carcanetref03_Normal.mono _ _ _)
   | (with_reducible exact carcanetref25_class.mono _ _)
   | (with_reducible exact carcanetref25_edges.mono _ _ _ _)
   | (with_reducible exact LeO.refl _)
   | (with_reducible exact LeO.none _)
   | (with_reducible refine LeO.ite ?_ ?_)
   | (with_reducible refine LeO.bind ?_ (fun _ => ?_))
   | exact ih0 _ _ _ _ _ _ _ _
   | exact ih1 _ _ _ _ _ _ _ _ _
   | exact ih2 _ _ _ _ _ _ _ _ _ _
   | exact carcanetref03_Normal.mono _ _ _
   | exact carcanetref25_class.mono _ _
   | exact carcanetref25_edges.mono _ _ _ _
   | exact LeO.none _
   | refine LeO.ite ?_ ?_
   | refine LeO.bind ?_ (fun _ => ?_)
theorem carcanetref25_line.mono : ∀ a0 a1 k, LeO (carcanetref25_line.f k a0 a1) (carcanetref25_line.f (k + 1) a0 a1) := by
 intro a0 a1 k
 obtain ⟨ih0, ih1, ih2⟩ := carcanetref25_line.mono_l k
 unfold carcanetref25_line.f
 repeat' first
   | (with_reducible exact ih0 _ _ _ _ _ _ _ _)
   | (with_reducible exact ih1 _ _ _ _ _ _ _ _ _)
   | (with_reducible exact ih2 _ _ _ _ _ _ _ _ _ _)
   | (with_reducible exact carcanetref03_Normal.mono _ _ _)
   | (with_reducible exact carcanetref25_class.mono _ _)
   | (with_reducible exact carcanetref25_edges.mono _ _ _ _)
   | (with_reducible exact LeO.refl _)
   | (with_reducible exact LeO.none _)
   | (with_reducible refine LeO.ite ?_ ?_)
   | (with_reducible refine LeO.bind ?_ (fun _ => ?_))
   | exact ih0 _ _ _ _ _ _ _ _
   | exact ih1 _ _ _ _ _ _ _ _ _
   | exact ih2 _ _ _ _ _ _ _ _ _ _
   | exact carcanetref03_Normal.mono _ _ _
   | exact carcanetref25_class.mono _ _
   | exact carcanetref25_edges.mono _ _ _ _
   | exact LeO.none _
   | refine LeO.ite ?_ ?_
   | refine LeO.bind ?_ (fun _ => ?_)
theorem store_step2 {P : Program} {ops : Array Oper} {rest : List Oper} {o : Oper} {a : Act} {Q : Exit → Act → World → Prop} {W w1 : World} (hN : o.dst = none) (hgd : o.guard = none) (t : TypeId) (p x : Operand) (ho : o.op = .store t p x) {addr u : Value} (haddr : a.eval p = addr) (hx : a.eval x = u)
    (hrun : (Instr.storeAt t addr u).run P W = .ok () w1) (h : wpList P ops Q rest a w1) : wpList P ops Q (o :: rest) a W := by
  refine wpList_plain hgd fun K hK => ?_
  unfold Oper.wp execOp
  simp only [ho, haddr, hx, Sem.run_bind, Sem.run_pure, Result.andThen_ok, hrun]
  show K (a.put o.dst undef) _
  rw [hN]
  exact hK a _ h
theorem grown_setCell2 (W : World) (p : Addr) (v : Value) : W.grownBy (W.setCell p v) (some p.block) :=
  ⟨rfl, rfl, rfl, by simp [World.setCell], fun k _ hk => Below.heap_setCell W p v k (fun e => hk (by rw [e]))⟩
theorem storeRow2 {W : World} {p : Nat} {cur : Array Value} (t : TypeId) (u : Value) (seg : List Value) (h : W.heap[p]? = some (.cells cur t (0, 0))) (hs : cur.size = seg.length) (hu : u.cells.toList = seg) (ht : (Tryz.prog.info? t).map (·.size) = some seg.length) (h1 : ∀ q ∈ seg, q.oneCell' = true) :
    ∃ W', (Instr.storeAt t (.pointer (some ⟨p, 0, none⟩)) u).run Tryz.prog W = .ok () W' ∧ W'.heap[p]? = some (.cells seg.toArray t (0, 0)) ∧ W.grownBy W' (some p) := by
  have hrun := run_store_run (P := Tryz.prog) (w := W) (g := p) (o := 0) t u seg h hu ht (by omega) h1
  obtain ⟨cur', h3, h4, h5⟩ := setCells_row seg 0 W cur h (by omega)
  obtain ⟨s1, s2, s3, s4⟩ := setCells_same p seg 0 W
  refine ⟨_, hrun, ?_, ⟨s1, s2, s3, by rw [s4]; exact Nat.le_refl _, fun k _ hk => setCells_far _ _ k (fun he => hk (by rw [he]))⟩⟩
  rw [h3]
  have : cur' = seg.toArray := by
    apply Array.toList_inj.1
    rw [h5, List.drop_eq_nil_of_le (by rw [Array.length_toList]; omega)]; simp
  rw [this]
/-- What the frame holds beside the arguments: the result's cells, the operation's. -/
structure GL (w : World) (ops : Array Value) (W : World) : Prop where
  hb : Below w.heap.size w W
  hR : W.heap[w.heap.size]? = some (.cells #[.int .i64 0, .string ⟨#[]⟩, .int .i64 0, .slice none 0 0, .int .i64 0, .int .i64 0, .int .i64 0] 50 (0, 0))
  hO : W.heap[w.heap.size + 1]? = some (.cells ops 50 (0, 0))
section
variable {w W : World} {ops : Array Value}
theorem GL.lt (h : GL w ops W) : w.heap.size + 1 < W.heap.size := blk_lt h.hO
theorem GL.below {W' : World} (h : GL w ops W) (hb : Below W.heap.size W W') : GL w ops W' :=
  ⟨h.hb.grown (grown_of_below hb none) (by have := h.lt; omega) (fun _ e => by cases e), blk_below h.hR hb, blk_below h.hO hb⟩
theorem GL.alloc (h : GL w ops W) (o : Obj) : GL w ops (W.alloc o) := h.below (below_alloc (Below.refl _ _) o)
theorem GL.drew (h : GL w ops W) : GL w ops W.drew := h.below (below_drew1 (Below.refl _ _))
theorem GL.drewN (h : GL w ops W) (n : Nat) : GL w ops (W.drewN n) := h.below (pw_below_drewN (Below.refl _ _) n)
theorem gl_abs {code : Code} {Q : Exit → Act → World → Prop} {a : Act} (h : GL w ops W) (k : ∀ W9, GL w ops W9 → Code.wp Tryz.prog code Q a W9) : Code.wp Tryz.prog code Q a W := k W h
theorem GL.set_step {ops0 : Array Oper} {rest : List Oper} {o : Oper} {a : Act} {Q : Exit → Act → World → Prop} (h : GL w ops W) (t : TypeId) (j : Nat) (v : Value) (seg : List Value) (p x : Operand) (ops' : Array Value)
    (hj : j + seg.length ≤ ops.size) (hu : v.cells.toList = seg) (ht : (Tryz.prog.info? t).map (·.size) = some seg.length) (h1 : ∀ q ∈ seg, q.oneCell' = true) (hops : ops'.toList = ops.toList.take j ++ seg ++ ops.toList.drop (j + seg.length))
    (hN : o.dst = none) (hgd : o.guard = none) (ho : o.op = .store t p x) (haddr : a.eval p = .pointer (some ⟨w.heap.size + 1, j, none⟩)) (hx : a.eval x = v)
    (hk : ∀ W', GL w ops' W' → W.grownBy W' (some (w.heap.size + 1)) → wpList Tryz.prog ops0 Q rest a W') : wpList Tryz.prog ops0 Q (o :: rest) a W := by
  have hrun := run_store_run (P := Tryz.prog) (w := W) (g := w.heap.size + 1) (o := j) t v seg h.hO hu ht hj h1
  obtain ⟨cur', h3, h4, h5⟩ := setCells_row seg j W ops h.hO hj
  obtain ⟨s1, s2, s3, s4⟩ := setCells_same (w.heap.size + 1) seg j W
  have hg : W.grownBy (W.setCells (w.heap.size + 1) j seg) (some (w.heap.size + 1)) := ⟨s1, s2, s3, by rw [s4]; exact Nat.le_refl _, fun k _ hk => setCells_far _ _ k (fun he => hk (by rw [he]))⟩
  have he : cur' = ops' := Array.toList_inj.1 (by rw [h5, hops])
  subst he
  exact store_step2 hN hgd t p x ho haddr hx hrun (hk _ ⟨h.hb.grown hg (by have := h.lt; omega) (fun k hk => by injection hk with hk; omega), blk_grown h.hR hg (by simp), h3⟩ hg)
theorem GL.setR (h : GL w ops W) (j : Nat) (v : Value) (hz : (#[.int .i64 0, .string ⟨#[]⟩, .int .i64 0, .slice none 0 0, .int .i64 0, .int .i64 0, .int .i64 0] : Array Value).setIfInBounds j v = #[.int .i64 0, .string ⟨#[]⟩, .int .i64 0, .slice none 0 0, .int .i64 0, .int .i64 0, .int .i64 0]) :
    GL w ops (W.setCell ⟨w.heap.size, j, none⟩ v) := by
  have hg := grown_setCell2 W ⟨w.heap.size, j, none⟩ v
  exact ⟨h.hb.grown hg (by have := h.lt; omega) (fun k hk => by injection hk with hk; have : w.heap.size = k := hk; omega), blk_put h.hR j v hz, blk_grown h.hO hg (by simp)⟩
theorem GL.set7 (h : GL w ops W) : GL w ops (((((((W.setCell ⟨w.heap.size, 0, none⟩ (.int .i64 0)).setCell ⟨w.heap.size, 1, none⟩ (.string ⟨#[]⟩)).setCell ⟨w.heap.size, 2, none⟩ (.int .i64 0)).setCell ⟨w.heap.size, 3, none⟩ (.slice none 0 0)).setCell ⟨w.heap.size, 4, none⟩ (.int .i64 0)).setCell ⟨w.heap.size, 5, none⟩ (.int .i64 0)).setCell ⟨w.heap.size, 6, none⟩ (.int .i64 0)).drew :=
  (((((((h.setR 0 _ rfl).setR 1 _ rfl).setR 2 _ rfl).setR 3 _ rfl).setR 4 _ rfl).setR 5 _ rfl).setR 6 _ rfl).drew
theorem GL.ret_step {ops0 : Array Oper} {rest : List Oper} {o : Oper} {a : Act} {Q : Exit → Act → World → Prop} (h : GL w ops W) (x0 x1 x2 x3 x4 x5 x6 : Value) (hx0 : x0.cells = #[x0] ∧ x0.oneCell' = true) (hx1 : x1.cells = #[x1] ∧ x1.oneCell' = true) (hx2 : x2.cells = #[x2] ∧ x2.oneCell' = true) (hx3 : x3.cells = #[x3] ∧ x3.oneCell' = true) (hx4 : x4.cells = #[x4] ∧ x4.oneCell' = true) (hx5 : x5.cells = #[x5] ∧ x5.oneCell' = true) (hx6 : x6.cells = #[x6] ∧ x6.oneCell' = true) (p x : Operand)
    (hN : o.dst = none) (hgd : o.guard = none) (ho : o.op = .store 50 p x) (haddr : a.eval p = .pointer (some ⟨w.heap.size, 0, none⟩)) (hx : a.eval x = .agg #[x0, x1, x2, x3, x4, x5, x6])
    (hk : ∀ W', W'.heap[w.heap.size]? = some (.cells #[x0, x1, x2, x3, x4, x5, x6] 50 (0, 0)) → Below w.heap.size w W' → W.grownBy W' (some w.heap.size) → wpList Tryz.prog ops0 Q rest a W') : wpList Tryz.prog ops0 Q (o :: rest) a W := by
  obtain ⟨W', hst, hat, hg⟩ := storeRow2 50 (.agg #[x0, x1, x2, x3, x4, x5, x6]) [x0, x1, x2, x3, x4, x5, x6] h.hR rfl (by simp [Value.cells, hx0.1, hx1.1, hx2.1, hx3.1, hx4.1, hx5.1, hx6.1]) (by kernel_rfl) (by simp [hx0.2, hx1.2, hx2.2, hx3.2, hx4.2, hx5.2, hx6.2])
  exact store_step2 hN hgd 50 p x ho haddr hx hst (hk W' hat (h.hb.grown hg (by have := h.lt; omega) (fun k hk => by injection hk with hk; omega)) hg)
end
theorem load50 {W : World} {p : Nat} {x0 x1 x2 x3 x4 x5 x6 : Value} (h : W.heap[p]? = some (.cells #[x0, x1, x2, x3, x4, x5, x6] 50 (0, 0))) : (loadVar 50 ⟨p, 0, none⟩).run Tryz.prog W = .ok (.agg #[x0, x1, x2, x3, x4, x5, x6]) W := by
  have hu50 := Tryz.underlying50
  have hu34 := Tryz.underlying34
  have h0 := (blk_cell h 0).trans rfl
  have h1 := (blk_cell h 1).trans rfl
  have h2 := (blk_cell h 2).trans rfl
  have h3 := (blk_cell h 3).trans rfl
  have h4 := (blk_cell h 4).trans rfl
  have h5 := (blk_cell h 5).trans rfl
  have h6 := (blk_cell h 6).trans rfl
  go_simp
theorem results_l2 (tmps : Array Value) (W : World) (p : Nat) (x0 x1 x2 x3 x4 x5 x6 y z : Value) (h4 : tmps[4]?.getD undef = .pointer (some ⟨p, 0, none⟩)) (h5 : tmps[5]?.getD undef = y) (h6 : tmps[6]?.getD undef = z) (hh : W.heap[p]? = some (.cells #[x0, x1, x2, x3, x4, x5, x6] 50 (0, 0))) :
    (results Tryz.f13 tmps).run Tryz.prog W = .ok (.tuple #[.agg #[x0, x1, x2, x3, x4, x5, x6], y, z]) W := by
  have hr : Tryz.f13.results = #[.cell 4 50, .tmp 5, .tmp 6] := by kernel_rfl
  have hl := load50 hh
  unfold results
  rw [hr]
  simp [h4, h5, h6, asAddr, hl]
theorem line2_err {w W : World} {ops : Array Value} {a : Act} {pos e : Int} (h : GL w ops W) (h4 : a.tmps[4]?.getD undef = .pointer (some ⟨w.heap.size, 0, none⟩)) (h5 : a.tmps[5]?.getD undef = .int .i64 pos) (h6 : a.tmps[6]?.getD undef = .int .i64 e) (hd : a.defers = []) :
    bodyPost Tryz.prog Tryz.f13 (fun r w' => ∃ v3_ : Value, r = .returned (.tuple #[.agg #[.int .i64 0, .string ⟨#[]⟩, .int .i64 0, v3_, .int .i64 0, .int .i64 0, .int .i64 0], .int .i64 pos, .int .i64 e]) ∧ Kd.R k64 64 w' w.heap.size (fun _ => True) v3_ [] ∧ Below w.heap.size w w') .ret a W :=
  bodyPost_ret_by (results_l2 _ _ w.heap.size _ _ _ _ _ _ _ _ _ h4 h5 h6 h.hR) hd ⟨_, rfl, Kd.R_nil _ _ _ _ _, h.hb⟩
theorem GL.ops_cells {w W : World} {x0 x1 x2 x3 x4 x5 x6 : Value} (h : GL w #[x0, x1, x2, x3, x4, x5, x6] W) :
    W.cell? ⟨w.heap.size + 1, 0, none⟩ = some x0 ∧ W.cell? ⟨w.heap.size + 1, 1, none⟩ = some x1 ∧ W.cell? ⟨w.heap.size + 1, 2, none⟩ = some x2 ∧ W.cell? ⟨w.heap.size + 1, 3, none⟩ = some x3 ∧ W.cell? ⟨w.heap.size + 1, 4, none⟩ = some x4 ∧ W.cell? ⟨w.heap.size + 1, 5, none⟩ = some x5 ∧ W.cell? ⟨w.heap.size + 1, 6, none⟩ = some x6 :=
  ⟨(blk_cell h.hO 0).trans rfl, (blk_cell h.hO 1).trans rfl, (blk_cell h.hO 2).trans rfl, (blk_cell h.hO 3).trans rfl, (blk_cell h.hO 4).trans rfl, (blk_cell h.hO 5).trans rfl, (blk_cell h.hO 6).trans rfl⟩
theorem GL.res_cells {w W : World} {ops : Array Value} (h : GL w ops W) :
    W.cell? ⟨w.heap.size, 0, none⟩ = some (.int .i64 0) ∧ W.cell? ⟨w.heap.size, 1, none⟩ = some (.string ⟨#[]⟩) ∧ W.cell? ⟨w.heap.size, 2, none⟩ = some (.int .i64 0) ∧ W.cell? ⟨w.heap.size, 3, none⟩ = some (.slice none 0 0) ∧ W.cell? ⟨w.heap.size, 4, none⟩ = some (.int .i64 0) ∧ W.cell? ⟨w.heap.size, 5, none⟩ = some (.int .i64 0) ∧ W.cell? ⟨w.heap.size, 6, none⟩ = some (.int .i64 0) :=
  ⟨(blk_cell h.hR 0).trans rfl, (blk_cell h.hR 1).trans rfl, (blk_cell h.hR 2).trans rfl, (blk_cell h.hR 3).trans rfl, (blk_cell h.hR 4).trans rfl, (blk_cell h.hR 5).trans rfl, (blk_cell h.hR 6).trans rfl⟩
theorem abs3l {code : Code} {Q : Exit → Act → World → Prop} {a : Act} {W : World} (p1 p2 : World → Prop) (h1 : p1 W) (h2 : p2 W) (k : ∀ W9, p1 W9 → p2 W9 → Code.wp Tryz.prog code Q a W9) : Code.wp Tryz.prog code Q a W := k W h1 h2
theorem abs4l {code : Code} {Q : Exit → Act → World → Prop} {a : Act} {W : World} (p1 p2 p3 : World → Prop) (h1 : p1 W) (h2 : p2 W) (h3 : p3 W) (k : ∀ W9, p1 W9 → p2 W9 → p3 W9 → Code.wp Tryz.prog code Q a W9) : Code.wp Tryz.prog code Q a W := k W h1 h2 h3
theorem tok49 {w W : World} {ad : Addr} {l : List S49} (hC : Kd.C k49 w (some ad) l.length l) (hb : Below w.heap.size w W) (i : Nat) (hi : i < l.length) (m : Nat) (hm : m = i * 4) :
    W.cell? ⟨ad.block, ad.off + m + 1, none⟩ = some (.int .i64 (rd_T49 l (i : Int)).f1) ∧ W.cell? ⟨ad.block, ad.off + m + 2, none⟩ = some (.string (rd_T49 l (i : Int)).f2) ∧ W.cell? ⟨ad.block, ad.off + m + 3, none⟩ = some (.int .i64 (rd_T49 l (i : Int)).f3) := by
  obtain ⟨ad', e, x0, x1, x2, x3⟩ := at_T49 (Kd.C_below hC hb) (i : Int) (by omega) (by omega)
  injection e with e
  subst e
  subst hm
  have hbk : (ad.add ((i : Int).toNat * 4)).block = ad.block := by unfold Addr.add; split <;> rfl
  have hof : (ad.add ((i : Int).toNat * 4)).off = ad.off + i * 4 := by unfold Addr.add; split <;> first | rfl | (rename_i h0; simp only [Int.toNat_natCast] at h0; omega) | simp_all
  rw [hbk, hof] at x1 x2 x3
  exact ⟨x1, x2, x3⟩
theorem tok49_0 {w W : World} {ad : Addr} {l : List S49} (hC : Kd.C k49 w (some ad) l.length l) (hb : Below w.heap.size w W) (hi : 0 < l.length) :
    W.cell? ⟨ad.block, ad.off + 1, none⟩ = some (.int .i64 (rd_T49 l 0).f1) ∧ W.cell? ⟨ad.block, ad.off + 2, none⟩ = some (.string (rd_T49 l 0).f2) ∧ W.cell? ⟨ad.block, ad.off + 3, none⟩ = some (.int .i64 (rd_T49 l 0).f3) := tok49 hC hb 0 hi 0 rfl
theorem tok49_1 {w W : World} {ad : Addr} {l : List S49} (hC : Kd.C k49 w (some ad) l.length l) (hb : Below w.heap.size w W) (hi : 1 < l.length) :
    W.cell? ⟨ad.block, ad.off + 4 + 1, none⟩ = some (.int .i64 (rd_T49 l 1).f1) ∧ W.cell? ⟨ad.block, ad.off + 4 + 2, none⟩ = some (.string (rd_T49 l 1).f2) ∧ W.cell? ⟨ad.block, ad.off + 4 + 3, none⟩ = some (.int .i64 (rd_T49 l 1).f3) := tok49 hC hb 1 hi 4 rfl
theorem tok49_2 {w W : World} {ad : Addr} {l : List S49} (hC : Kd.C k49 w (some ad) l.length l) (hb : Below w.heap.size w W) (hi : 2 < l.length) :
    W.cell? ⟨ad.block, ad.off + 8 + 1, none⟩ = some (.int .i64 (rd_T49 l 2).f1) ∧ W.cell? ⟨ad.block, ad.off + 8 + 2, none⟩ = some (.string (rd_T49 l 2).f2) ∧ W.cell? ⟨ad.block, ad.off + 8 + 3, none⟩ = some (.int .i64 (rd_T49 l 2).f3) := tok49 hC hb 2 hi 8 rfl
theorem tok49_3 {w W : World} {ad : Addr} {l : List S49} (hC : Kd.C k49 w (some ad) l.length l) (hb : Below w.heap.size w W) (hi : 3 < l.length) :
    W.cell? ⟨ad.block, ad.off + 12 + 1, none⟩ = some (.int .i64 (rd_T49 l 3).f1) ∧ W.cell? ⟨ad.block, ad.off + 12 + 2, none⟩ = some (.string (rd_T49 l 3).f2) ∧ W.cell? ⟨ad.block, ad.off + 12 + 3, none⟩ = some (.int .i64 (rd_T49 l 3).f3) := tok49 hC hb 3 hi 12 rfl
set_option maxHeartbeats 8000000 in
set_option maxRecDepth 100000 in
theorem carcanetref25_line.calls (k : Nat) (A0 : Option Addr) (c0 : Nat) (l0 : List (S49)) (a1 : Int) (r1 : Int) (r2 : ByteArray) (r3 : Int) (r4 : List (S64)) (r5 : Int) (r6 : Int) (r7 : Int) (r8 : Int) (r9 : Int) (w : World) (hr0 : Kd.C k49 w A0 l0.length l0) (hc0 : l0.length ≤ c0) (h : carcanetref25_line.f k l0 a1 = some (r1, r2, r3, r4, r5, r6, r7, r8, r9)) :
    Calls Tryz.prog 13 #[.slice A0 l0.length c0, .int .i64 a1] w fun e w' => ∃ v3_ : Value, e = .returned (.tuple #[.agg #[.int .i64 r1, .string r2, .int .i64 r3, v3_, .int .i64 r5, .int .i64 r6, .int .i64 r7], .int .i64 r8, .int .i64 r9]) ∧ Kd.R k64 64 w' w.heap.size (fun _ => True) v3_ r4 ∧ Below w.heap.size w w' := by
  have hu50 := Tryz.underlying50
  have hu34 := Tryz.underlying34
  have ht3 : (Tryz.prog.info? 3).map (·.size) = some 1 := by kernel_rfl
  have ht9 : (Tryz.prog.info? 9).map (·.size) = some 1 := by kernel_rfl
  unfold carcanetref25_line.f at h
  by_cases hpos : 0 < (l0.length : Int)
  case neg => rw [if_neg hpos] at h; cases h
  rw [if_pos hpos] at h
  obtain ⟨b0, hb0, h⟩ := Option.bind_eq_some_iff.mp h
  have HG := Aside0.mk h
  have HC := Aside0.mk hr0
  have HCAP := Aside0.mk hc0
  have HB0 := Aside0.mk hb0
  have hp0 : decide (0 < (l0.length : Int)) = true := decide_eq_true hpos
  have hp1 : decide (0 < l0.length) = true := decide_eq_true (by omega)
  obtain ⟨ad, e0, _⟩ := at_T49 hr0 0 (by omega) hpos
  subst e0
  have hn0 : 0 < l0.length := by omega
  obtain ⟨y1, y2, _⟩ := tok49_0 hr0 (Below.refl _ _) hn0
  have HN0 := Aside0.mk hn0
  have qi0 : (0 < l0.length) = True := eq_true hn0
  have hbk : ad.block < w.heap.size := World.block_lt_of_cell? w ⟨ad.block, ad.off + 1, none⟩ y1
  have hr0' := hr0
  clear h hr0 hr0' hn0 hc0 hb0 hpos
  go_enter Tryz.func13, Tryz.ntmps13
  go_upto_region 2 with (fail)
  have HE : Aside0 (GL w #[.int .i64 0, .string ⟨#[]⟩, .int .i64 0, .slice none 0 0, .int .i64 0, .int .i64 (rd_T49 l0 0).f1, .int .i64 0] ((w.alloc (.cells #[.int .i64 0, .string ⟨#[]⟩, .int .i64 0, .slice none 0 0, .int .i64 0, .int .i64 0, .int .i64 0] 50)).alloc (.cells #[.int .i64 0, .string ⟨#[]⟩, .int .i64 0, .slice none 0 0, .int .i64 0, .int .i64 (rd_T49 l0 0).f1, .int .i64 0] 50))) := ⟨⟨below_alloc (below_alloc (Below.refl _ _) _) _, blk_alloc (blk_new _ _) _, by have := blk_new (w.alloc (.cells #[.int .i64 0, .string ⟨#[]⟩, .int .i64 0, .slice none 0 0, .int .i64 0, .int .i64 0, .int .i64 0] 50)) (.cells #[.int .i64 0, .string ⟨#[]⟩, .int .i64 0, .slice none 0 0, .int .i64 0, .int .i64 (rd_T49 l0 0).f1, .int .i64 0] 50); rwa [show (w.alloc (.cells #[.int .i64 0, .string ⟨#[]⟩, .int .i64 0, .slice none 0 0, .int .i64 0, .int .i64 0, .int .i64 0] 50)).heap.size = w.heap.size + 1 from Array.size_push _] at this⟩⟩
  refine gl_abs HE.out ?_
  clear y1 y2 HE
  intro W9 HE9
  have HE := Aside0.mk HE9
  clear HE9
  obtain ⟨o0, o1, o2, o3, o4, o5, o6⟩ := HE.out.ops_cells
  obtain ⟨t01, t02, _⟩ := tok49_0 HC.out HE.out.hb HN0.out
  go_upto_if 20 with (first | (go_at_call 35; refine (carcanetref25_is.calls _ _ l0 _ _ _ _ (Kd.C_below HC.out (GL.hb (by with_reducible repeat (first | exact HE.out | apply GL.alloc | apply GL.drewN | apply GL.drew)))) HCAP.out HB0.out).mono ?_; rintro e w' ⟨rfl, ⟨nd, rfl⟩⟩))
  go_cut [] (fun wc => ∃ (kq : Nat) (v : Int), Aside0 (GL w #[.int .i64 v, .string ⟨#[]⟩, .int .i64 0, .slice none 0 0, .int .i64 0, .int .i64 (rd_T49 l0 0).f1, .int .i64 0] wc) ∧ Aside0 (carcanetref25_line.j0 kq l0 a1 v (⟨#[]⟩ : ByteArray) 0 0 ((rd_T49 l0 0).f1) 0 = some (r1, r2, r3, r4, r5, r6, r7, r8, r9)))
  case first =>
    have H := HG.out
    clear HG
    by_cases hb : b0 = true
    · subst hb
      rw [if_pos rfl] at H
      obtain ⟨v, hv, H⟩ := Option.bind_eq_some_iff.mp H
      have HV := Aside0.mk hv
      clear hv
      have HG := Aside0.mk H
      clear H
      go_wp2_with (first | (go_at_call 36; refine (carcanetref25_verb.calls _ _ _ HV.out).mono ?_; rintro e w' ⟨rfl, ⟨nd, rfl⟩⟩) | ((with_reducible refine gate_ (.store 3 (.tmp 26) (.tmp 25)) rfl ?_); refine GL.set_step (by with_reducible repeat (first | exact HE.out | apply GL.alloc | apply GL.drewN | apply GL.drew)) 3 0 (.int .i64 v) [.int .i64 v] (.tmp 26) (.tmp 25) #[.int .i64 v, .string ⟨#[]⟩, .int .i64 0, .slice none 0 0, .int .i64 0, .int .i64 (rd_T49 l0 0).f1, .int .i64 0] (by simp) rfl ht3 (by simp [Value.oneCell']) rfl rfl rfl rfl rfl rfl ?_; intro W1 HE1 _; replace HE := Aside0.mk HE1; clear HE1; obtain ⟨o0, o1, o2, o3, o4, o5, o6⟩ := HE.out.ops_cells; obtain ⟨t01, t02, _⟩ := tok49_0 HC.out HE.out.hb HN0.out))
      go_meet
      case rel => exact ⟨_, v, ⟨(by with_reducible repeat (first | exact HE.out | apply GL.alloc | apply GL.drewN | apply GL.drew))⟩, HG⟩
    · replace hb := Bool.eq_false_iff.mpr hb
      subst hb
      rw [if_neg (by decide)] at H
      have HG := Aside0.mk H
      clear H
      go_wp2_with (fail)
      go_meet
      case rel => exact ⟨_, 0, ⟨(by with_reducible repeat (first | exact HE.out | apply GL.alloc | apply GL.drewN | apply GL.drew))⟩, HG⟩
  case rest =>
    obtain ⟨kq, v, HE, HG⟩ := hcut
    clear HB0
    obtain ⟨o0, o1, o2, o3, o4, o5, o6⟩ := HE.out.ops_cells
    obtain ⟨t01, t02, _⟩ := tok49_0 HC.out HE.out.hb HN0.out
    have H := HG.out
    clear HG
    cases kq with
    | zero => exact absurd H (by simp [carcanetref25_line.j0])
    | succ kq =>
    simp only [carcanetref25_line.j0] at H
    by_cases hv : v = 0
    · subst hv
      rw [if_pos rfl, if_pos (by have := HN0.out; omega)] at H
      simp only [Option.some.injEq, Prod.mk.injEq] at H
      obtain ⟨rfl, rfl, rfl, rfl, rfl, rfl, rfl, rfl, rfl⟩ := H
      go_upto_region 5 with (fail)
      refine gl_abs (by with_reducible repeat (first | exact HE.out | apply GL.alloc | apply GL.drewN | apply GL.drew)) ?_
      intro W9 HE9
      replace HE := Aside0.mk HE9
      clear HE9
      obtain ⟨q0, q1, q2, q3, q4, q5, q6⟩ := HE.out.res_cells
      have qf := fun j => blk_frozen HE.out.hR j
      obtain ⟨o0, o1, o2, o3, o4, o5, o6⟩ := HE.out.ops_cells; obtain ⟨t01, t02, _⟩ := tok49_0 HC.out HE.out.hb HN0.out
      go_region
      go_wp2
      exact line2_err HE.out.set7 rfl rfl rfl rfl
    · rw [if_neg hv] at H
      have hvb : (v == 0) = false := by simpa using hv
      clear hv
      obtain ⟨b1, hb1, H⟩ := Option.bind_eq_some_iff.mp H
      have HB1 := Aside0.mk hb1
      clear hb1
      by_cases hb : b1 = true
      case neg =>
        replace hb := Bool.eq_false_iff.mpr hb
        subst hb
        rw [if_neg (by decide)] at H
        obtain ⟨p1, hp1, H⟩ := Option.bind_eq_some_iff.mp H
        have HP1 := Aside0.mk hp1
        clear hp1
        simp only [Option.some.injEq, Prod.mk.injEq] at H
        obtain ⟨rfl, rfl, rfl, rfl, rfl, rfl, rfl, rfl, rfl⟩ := H
        go_wp2_with (first | (go_at_call 35; refine (carcanetref25_is.calls _ _ l0 _ _ _ _ (Kd.C_below HC.out (GL.hb (by with_reducible repeat (first | exact HE.out | apply GL.alloc | apply GL.drewN | apply GL.drew)))) HCAP.out HB1.out).mono ?_; rintro e w' ⟨rfl, ⟨nd, rfl⟩⟩) | (go_at_call 37; refine (carcanetref25_place.calls _ _ l0 _ _ _ _ (Kd.C_below HC.out (GL.hb (by with_reducible repeat (first | exact HE.out | apply GL.alloc | apply GL.drewN | apply GL.drew)))) HCAP.out HP1.out).mono ?_; rintro e w' ⟨rfl, ⟨nd, rfl⟩⟩) | ((with_reducible refine gate_ (.store 50 (.tmp 4) (.tmp 38)) rfl ?_); refine GL.ret_step (by with_reducible repeat (first | exact HE.out | apply GL.alloc | apply GL.drewN | apply GL.drew)) _ _ _ _ _ _ _ ⟨rfl, rfl⟩ ⟨rfl, rfl⟩ ⟨rfl, rfl⟩ ⟨rfl, rfl⟩ ⟨rfl, rfl⟩ ⟨rfl, rfl⟩ ⟨rfl, rfl⟩ (.tmp 4) (.tmp 38) rfl rfl rfl rfl rfl ?_; intro W1 hR1 hB1 hg1; have HR1 := Aside0.mk hR1; have HB1 := Aside0.mk hB1; have HG1 := Aside0.mk hg1; clear hR1 hB1 hg1))
        exact bodyPost_ret_by (results_l2 _ _ w.heap.size _ _ _ _ _ _ _ _ _ rfl rfl rfl HR1.out) rfl ⟨_, rfl, Kd.R_nil _ _ _ _ _, HB1.out⟩
      subst hb
      rw [if_pos rfl] at H
      by_cases hn1 : 1 < (l0.length : Int)
      case neg => rw [if_neg hn1] at H; cases H
      rw [if_pos hn1] at H
      have HN1 : Aside0 (1 < l0.length) := ⟨by omega⟩
      have qi1 : (1 < l0.length) = True := eq_true HN1.out
      have qj1 : (1 < (l0.length : Int)) = True := eq_true hn1
      clear hn1
      obtain ⟨t11, t12, t13⟩ := tok49_1 HC.out HE.out.hb HN1.out
      have HG := Aside0.mk H
      clear H
      go_upto_if 54 with (first | (go_at_call 35; refine (carcanetref25_is.calls _ _ l0 _ _ _ _ (Kd.C_below HC.out (GL.hb (by with_reducible repeat (first | exact HE.out | apply GL.alloc | apply GL.drewN | apply GL.drew)))) HCAP.out HB1.out).mono ?_; rintro e w' ⟨rfl, ⟨nd, rfl⟩⟩) | ((with_reducible refine gate_ (.store 9 (.tmp 46) (.tmp 45)) rfl ?_); refine GL.set_step (by with_reducible repeat (first | exact HE.out | apply GL.alloc | apply GL.drewN | apply GL.drew)) 9 1 (.string (rd_T49 l0 1).f2) [.string (rd_T49 l0 1).f2] (.tmp 46) (.tmp 45) #[.int .i64 v, .string (rd_T49 l0 1).f2, .int .i64 0, .slice none 0 0, .int .i64 0, .int .i64 (rd_T49 l0 0).f1, .int .i64 0] (by simp) rfl ht9 (by simp [Value.oneCell']) rfl rfl rfl rfl rfl rfl ?_; intro W1 HE1 _; replace HE := Aside0.mk HE1; clear HE1; obtain ⟨o0, o1, o2, o3, o4, o5, o6⟩ := HE.out.ops_cells; obtain ⟨t01, t02, _⟩ := tok49_0 HC.out HE.out.hb HN0.out; obtain ⟨t11, t12, t13⟩ := tok49_1 HC.out HE.out.hb HN1.out) | ((with_reducible refine gate_ (.store 3 (.tmp 51) (.tmp 50)) rfl ?_); refine GL.set_step (by with_reducible repeat (first | exact HE.out | apply GL.alloc | apply GL.drewN | apply GL.drew)) 3 6 (.int .i64 (rd_T49 l0 1).f1) [.int .i64 (rd_T49 l0 1).f1] (.tmp 51) (.tmp 50) #[.int .i64 v, .string (rd_T49 l0 1).f2, .int .i64 0, .slice none 0 0, .int .i64 0, .int .i64 (rd_T49 l0 0).f1, .int .i64 (rd_T49 l0 1).f1] (by simp) rfl ht3 (by simp [Value.oneCell']) rfl rfl rfl rfl rfl rfl ?_; intro W1 HE1 _; replace HE := Aside0.mk HE1; clear HE1; obtain ⟨o0, o1, o2, o3, o4, o5, o6⟩ := HE.out.ops_cells; obtain ⟨t01, t02, _⟩ := tok49_0 HC.out HE.out.hb HN0.out; obtain ⟨t11, t12, t13⟩ := tok49_1 HC.out HE.out.hb HN1.out))
      go_cut [8] (fun v8 wc => ∃ (kq : Nat) (m c : Int), v8 = .int .i64 m ∧ Aside0 (GL w #[.int .i64 v, .string (rd_T49 l0 1).f2, .int .i64 0, .slice none 0 0, .int .i64 c, .int .i64 (rd_T49 l0 0).f1, .int .i64 (rd_T49 l0 1).f1] wc) ∧ Aside0 (carcanetref25_line.j2 kq l0 a1 m v ((rd_T49 l0 1).f2) 0 c ((rd_T49 l0 0).f1) ((rd_T49 l0 1).f1) = some (r1, r2, r3, r4, r5, r6, r7, r8, r9)) ∧ (m = 2 ∨ m = 3))
      case first =>
        have H := HG.out
        clear HG
        by_cases hv2 : v = 2
        · subst hv2
          rw [if_pos rfl] at H
          obtain ⟨b2, hb2, H⟩ := Option.bind_eq_some_iff.mp H
          have HB2 := Aside0.mk hb2
          clear hb2
          by_cases hb : b2 = true
          · subst hb
            rw [if_pos rfl] at H
            by_cases hn2 : 2 < (l0.length : Int)
            case neg => rw [if_neg hn2] at H; cases H
            rw [if_pos hn2] at H
            have HN2 : Aside0 (2 < l0.length) := ⟨by omega⟩
            have qi2 : (2 < l0.length) = True := eq_true HN2.out
            have qj2 : (2 < (l0.length : Int)) = True := eq_true hn2
            clear hn2
            obtain ⟨t21, t22, t23⟩ := tok49_2 HC.out HE.out.hb HN2.out
            obtain ⟨c1, hc1, H⟩ := Option.bind_eq_some_iff.mp H
            have HC1 := Aside0.mk hc1
            clear hc1
            cases kq with
            | zero => exact absurd H (by simp [carcanetref25_line.j1])
            | succ kq =>
            simp only [carcanetref25_line.j1] at H
            by_cases hc : c1 = 0
            · subst hc
              rw [if_pos (by decide)] at H
              obtain ⟨p2, hp2, H⟩ := Option.bind_eq_some_iff.mp H
              have HP2 := Aside0.mk hp2
              clear hp2
              simp only [Option.some.injEq, Prod.mk.injEq] at H
              obtain ⟨rfl, rfl, rfl, rfl, rfl, rfl, rfl, rfl, rfl⟩ := H
              go_wp2_with (first | (go_at_call 35; refine (carcanetref25_is.calls _ _ l0 _ _ _ _ (Kd.C_below HC.out (GL.hb (by with_reducible repeat (first | exact HE.out | apply GL.alloc | apply GL.drewN | apply GL.drew)))) HCAP.out HB2.out).mono ?_; rintro e w' ⟨rfl, ⟨nd, rfl⟩⟩) | (go_at_call 38; refine (carcanetref25_class.calls _ _ _ _ HC1.out).mono ?_; rintro e w' ⟨rfl, ⟨nd, rfl⟩⟩) | (go_at_call 37; refine (carcanetref25_place.calls _ _ l0 _ _ _ _ (Kd.C_below HC.out (GL.hb (by with_reducible repeat (first | exact HE.out | apply GL.alloc | apply GL.drewN | apply GL.drew)))) HCAP.out HP2.out).mono ?_; rintro e w' ⟨rfl, ⟨nd, rfl⟩⟩) | ((with_reducible refine gate_ (.store 50 (.tmp 4) (.tmp 66)) rfl ?_); refine GL.ret_step (by with_reducible repeat (first | exact HE.out | apply GL.alloc | apply GL.drewN | apply GL.drew)) _ _ _ _ _ _ _ ⟨rfl, rfl⟩ ⟨rfl, rfl⟩ ⟨rfl, rfl⟩ ⟨rfl, rfl⟩ ⟨rfl, rfl⟩ ⟨rfl, rfl⟩ ⟨rfl, rfl⟩ (.tmp 4) (.tmp 66) rfl rfl rfl rfl rfl ?_; intro W1 hR1 hB1 hg1; have HR1 := Aside0.mk hR1; have HB1 := Aside0.mk hB1; have HG1 := Aside0.mk hg1; clear hR1 hB1 hg1))
              exact bodyPost_ret_by (results_l2 _ _ w.heap.size _ _ _ _ _ _ _ _ _ rfl rfl rfl HR1.out) rfl ⟨_, rfl, Kd.R_nil _ _ _ _ _, HB1.out⟩
            · have hcb : (c1 == 0) = false := by simpa using hc
              rw [hcb, if_neg (by decide), if_pos (by have := HN2.out; omega)] at H
              clear hc
              obtain ⟨c2, hc2, H⟩ := Option.bind_eq_some_iff.mp H
              have HC2 := Aside0.mk hc2
              clear hc2
              have HG := Aside0.mk H
              clear H
              have HTK : True := trivial
              go_wp2_with (first | (go_at_call 35; refine (carcanetref25_is.calls _ _ l0 _ _ _ _ (Kd.C_below HC.out (GL.hb (by with_reducible repeat (first | exact HE.out | apply GL.alloc | apply GL.drewN | apply GL.drew)))) HCAP.out HB2.out).mono ?_; rintro e w' ⟨rfl, ⟨nd, rfl⟩⟩) | (go_at_call 38; first | (have tok_ := HTK; clear tok_ HTK; refine (carcanetref25_class.calls _ _ _ _ HC1.out).mono ?_; rintro e w' ⟨rfl, ⟨nd, rfl⟩⟩) | (refine (carcanetref25_class.calls _ _ _ _ HC2.out).mono ?_; rintro e w' ⟨rfl, ⟨nd, rfl⟩⟩)) | ((with_reducible refine gate_ (.store 3 (.tmp 75) (.tmp 74)) rfl ?_); refine GL.set_step (by with_reducible repeat (first | exact HE.out | apply GL.alloc | apply GL.drewN | apply GL.drew)) 3 4 (.int .i64 c2) [.int .i64 c2] (.tmp 75) (.tmp 74) #[.int .i64 2, .string (rd_T49 l0 1).f2, .int .i64 0, .slice none 0 0, .int .i64 c2, .int .i64 (rd_T49 l0 0).f1, .int .i64 (rd_T49 l0 1).f1] (by simp) rfl ht3 (by simp [Value.oneCell']) rfl rfl rfl rfl rfl rfl ?_; intro W1 HE1 _; replace HE := Aside0.mk HE1; clear HE1; obtain ⟨o0, o1, o2, o3, o4, o5, o6⟩ := HE.out.ops_cells; obtain ⟨t01, t02, _⟩ := tok49_0 HC.out HE.out.hb HN0.out; obtain ⟨t11, t12, t13⟩ := tok49_1 HC.out HE.out.hb HN1.out; obtain ⟨t21, t22, t23⟩ := tok49_2 HC.out HE.out.hb HN2.out))
              go_meet
              case rel => exact ⟨_, 3, c2, rfl, ⟨(by with_reducible repeat (first | exact HE.out | apply GL.alloc | apply GL.drewN | apply GL.drew))⟩, HG, .inr rfl⟩
          · replace hb := Bool.eq_false_iff.mpr hb
            subst hb
            rw [if_neg (by decide)] at H
            cases kq with
            | zero => exact absurd H (by simp [carcanetref25_line.j1])
            | succ kq =>
            simp only [carcanetref25_line.j1] at H
            rw [if_pos trivial] at H
            obtain ⟨p2, hp2, H⟩ := Option.bind_eq_some_iff.mp H
            have HP2 := Aside0.mk hp2
            clear hp2
            simp only [Option.some.injEq, Prod.mk.injEq] at H
            obtain ⟨rfl, rfl, rfl, rfl, rfl, rfl, rfl, rfl, rfl⟩ := H
            go_wp2_with (first | (go_at_call 35; refine (carcanetref25_is.calls _ _ l0 _ _ _ _ (Kd.C_below HC.out (GL.hb (by with_reducible repeat (first | exact HE.out | apply GL.alloc | apply GL.drewN | apply GL.drew)))) HCAP.out HB2.out).mono ?_; rintro e w' ⟨rfl, ⟨nd, rfl⟩⟩) | (go_at_call 37; refine (carcanetref25_place.calls _ _ l0 _ _ _ _ (Kd.C_below HC.out (GL.hb (by with_reducible repeat (first | exact HE.out | apply GL.alloc | apply GL.drewN | apply GL.drew)))) HCAP.out HP2.out).mono ?_; rintro e w' ⟨rfl, ⟨nd, rfl⟩⟩) | ((with_reducible refine gate_ (.store 50 (.tmp 4) (.tmp 66)) rfl ?_); refine GL.ret_step (by with_reducible repeat (first | exact HE.out | apply GL.alloc | apply GL.drewN | apply GL.drew)) _ _ _ _ _ _ _ ⟨rfl, rfl⟩ ⟨rfl, rfl⟩ ⟨rfl, rfl⟩ ⟨rfl, rfl⟩ ⟨rfl, rfl⟩ ⟨rfl, rfl⟩ ⟨rfl, rfl⟩ (.tmp 4) (.tmp 66) rfl rfl rfl rfl rfl ?_; intro W1 hR1 hB1 hg1; have HR1 := Aside0.mk hR1; have HB1 := Aside0.mk hB1; have HG1 := Aside0.mk hg1; clear hR1 hB1 hg1))
            exact bodyPost_ret_by (results_l2 _ _ w.heap.size _ _ _ _ _ _ _ _ _ rfl rfl rfl HR1.out) rfl ⟨_, rfl, Kd.R_nil _ _ _ _ _, HB1.out⟩
        · rw [if_neg hv2] at H
          have hv2b : (v == 2) = false := by simpa using hv2
          clear hv2
          have HG := Aside0.mk H
          clear H
          go_wp2_with (fail)
          go_meet
          case rel => exact ⟨_, 2, 0, rfl, ⟨(by with_reducible repeat (first | exact HE.out | apply GL.alloc | apply GL.drewN | apply GL.drew))⟩, HG, .inl rfl⟩
      case rest =>
        obtain ⟨kq, m, c, rfl, HE, HG, hm⟩ := hcut
        clear HB1
        obtain ⟨o0, o1, o2, o3, o4, o5, o6⟩ := HE.out.ops_cells
        obtain ⟨t01, t02, _⟩ := tok49_0 HC.out HE.out.hb HN0.out
        obtain ⟨t11, t12, t13⟩ := tok49_1 HC.out HE.out.hb HN1.out
        have H := HG.out
        clear HG
        cases kq with
        | zero => exact absurd H (by simp [carcanetref25_line.j2])
        | succ kq =>
        simp only [carcanetref25_line.j2] at H
        by_cases hv1 : v = 1
        case neg =>
          have hv1b : (v != 1) = true := by simpa using hv1
          rw [if_neg hv1] at H
          clear hv1
          rcases hm with rfl | rfl
          · by_cases hn : 2 < (l0.length : Int)
            · rw [if_pos hn, if_pos (by decide), if_pos hn] at H
              have hn_ := hn
              have HN2 : Aside0 (2 < l0.length) := ⟨by omega⟩
              have qi2 : (2 < l0.length) = True := eq_true HN2.out
              have qj2 : (2 < (l0.length : Int)) = True := eq_true hn
              clear hn
              obtain ⟨t21, t22, t23⟩ := tok49_2 HC.out HE.out.hb HN2.out
              clear hn_
              simp only [Option.some.injEq, Prod.mk.injEq] at H
              obtain ⟨rfl, rfl, rfl, rfl, rfl, rfl, rfl, rfl, rfl⟩ := H
              go_upto_region 18 with (fail)
              refine gl_abs (by with_reducible repeat (first | exact HE.out | apply GL.alloc | apply GL.drewN | apply GL.drew)) ?_
              intro W9 HE9
              replace HE := Aside0.mk HE9
              clear HE9
              obtain ⟨q0, q1, q2, q3, q4, q5, q6⟩ := HE.out.res_cells
              have qf := fun j => blk_frozen HE.out.hR j
              obtain ⟨o0, o1, o2, o3, o4, o5, o6⟩ := HE.out.ops_cells; obtain ⟨t01, t02, _⟩ := tok49_0 HC.out HE.out.hb HN0.out; obtain ⟨t21, t22, t23⟩ := tok49_2 HC.out HE.out.hb HN2.out
              go_region
              go_wp2
              exact line2_err HE.out.set7 rfl rfl rfl rfl
            · rw [if_neg hn] at H
              have qi2 : (2 < l0.length) = False := eq_false (by omega)
              have qj2 : (2 < (l0.length : Int)) = False := eq_false hn
              clear hn
              simp only [Option.some.injEq, Prod.mk.injEq] at H
              obtain ⟨rfl, rfl, rfl, rfl, rfl, rfl, rfl, rfl, rfl⟩ := H
              have hl50 := load50 HE.out.hO
              go_wp2_with (first | ((with_reducible refine gate_ (.store 50 (.tmp 4) (.tmp 89)) rfl ?_); refine GL.ret_step (by with_reducible repeat (first | exact HE.out | apply GL.alloc | apply GL.drewN | apply GL.drew)) _ _ _ _ _ _ _ ⟨rfl, rfl⟩ ⟨rfl, rfl⟩ ⟨rfl, rfl⟩ ⟨rfl, rfl⟩ ⟨rfl, rfl⟩ ⟨rfl, rfl⟩ ⟨rfl, rfl⟩ (.tmp 4) (.tmp 89) rfl rfl rfl rfl rfl ?_; intro W1 hR1 hB1 hg1; have HR1 := Aside0.mk hR1; have HB1 := Aside0.mk hB1; clear hR1 hB1 hg1))
              exact bodyPost_ret_by (results_l2 _ _ w.heap.size _ _ _ _ _ _ _ _ _ rfl rfl rfl HR1.out) rfl ⟨_, rfl, Kd.R_nil _ _ _ _ _, HB1.out⟩
          · by_cases hn : 3 < (l0.length : Int)
            · rw [if_pos hn, if_pos (by decide), if_pos hn] at H
              have hn_ := hn
              have HN3 : Aside0 (3 < l0.length) := ⟨by omega⟩
              have qi3 : (3 < l0.length) = True := eq_true HN3.out
              have qj3 : (3 < (l0.length : Int)) = True := eq_true hn
              clear hn
              obtain ⟨t31, t32, t33⟩ := tok49_3 HC.out HE.out.hb HN3.out
              clear hn_
              simp only [Option.some.injEq, Prod.mk.injEq] at H
              obtain ⟨rfl, rfl, rfl, rfl, rfl, rfl, rfl, rfl, rfl⟩ := H
              go_upto_region 18 with (fail)
              refine gl_abs (by with_reducible repeat (first | exact HE.out | apply GL.alloc | apply GL.drewN | apply GL.drew)) ?_
              intro W9 HE9
              replace HE := Aside0.mk HE9
              clear HE9
              obtain ⟨q0, q1, q2, q3, q4, q5, q6⟩ := HE.out.res_cells
              have qf := fun j => blk_frozen HE.out.hR j
              obtain ⟨o0, o1, o2, o3, o4, o5, o6⟩ := HE.out.ops_cells; obtain ⟨t01, t02, _⟩ := tok49_0 HC.out HE.out.hb HN0.out; obtain ⟨t31, t32, t33⟩ := tok49_3 HC.out HE.out.hb HN3.out
              go_region
              go_wp2
              exact line2_err HE.out.set7 rfl rfl rfl rfl
            · rw [if_neg hn] at H
              have qi3 : (3 < l0.length) = False := eq_false (by omega)
              have qj3 : (3 < (l0.length : Int)) = False := eq_false hn
              clear hn
              simp only [Option.some.injEq, Prod.mk.injEq] at H
              obtain ⟨rfl, rfl, rfl, rfl, rfl, rfl, rfl, rfl, rfl⟩ := H
              have hl50 := load50 HE.out.hO
              go_wp2_with (first | ((with_reducible refine gate_ (.store 50 (.tmp 4) (.tmp 89)) rfl ?_); refine GL.ret_step (by with_reducible repeat (first | exact HE.out | apply GL.alloc | apply GL.drewN | apply GL.drew)) _ _ _ _ _ _ _ ⟨rfl, rfl⟩ ⟨rfl, rfl⟩ ⟨rfl, rfl⟩ ⟨rfl, rfl⟩ ⟨rfl, rfl⟩ ⟨rfl, rfl⟩ ⟨rfl, rfl⟩ (.tmp 4) (.tmp 89) rfl rfl rfl rfl rfl ?_; intro W1 hR1 hB1 hg1; have HR1 := Aside0.mk hR1; have HB1 := Aside0.mk hB1; clear hR1 hB1 hg1))
              exact bodyPost_ret_by (results_l2 _ _ w.heap.size _ _ _ _ _ _ _ _ _ rfl rfl rfl HR1.out) rfl ⟨_, rfl, Kd.R_nil _ _ _ _ _, HB1.out⟩
        rw [if_pos hv1] at H
        subst hv1
        clear hm
        obtain ⟨b3, hb3, H⟩ := Option.bind_eq_some_iff.mp H
        have HB3 := Aside0.mk hb3
        clear hb3
        by_cases hb : b3 = true
        case neg =>
          replace hb := Bool.eq_false_iff.mpr hb
          subst hb
          rw [if_neg (by decide)] at H
          obtain ⟨p2, hp2, H⟩ := Option.bind_eq_some_iff.mp H
          have HP2 := Aside0.mk hp2
          clear hp2
          simp only [Option.some.injEq, Prod.mk.injEq] at H
          obtain ⟨rfl, rfl, rfl, rfl, rfl, rfl, rfl, rfl, rfl⟩ := H
          go_wp2_with (first | (go_at_call 35; refine (carcanetref25_is.calls _ _ l0 _ _ _ _ (Kd.C_below HC.out (GL.hb (by with_reducible repeat (first | exact HE.out | apply GL.alloc | apply GL.drewN | apply GL.drew)))) HCAP.out HB3.out).mono ?_; rintro e w' ⟨rfl, ⟨nd, rfl⟩⟩) | (go_at_call 37; refine (carcanetref25_place.calls _ _ l0 _ _ _ _ (Kd.C_below HC.out (GL.hb (by with_reducible repeat (first | exact HE.out | apply GL.alloc | apply GL.drewN | apply GL.drew)))) HCAP.out HP2.out).mono ?_; rintro e w' ⟨rfl, ⟨nd, rfl⟩⟩) | ((with_reducible refine gate_ (.store 50 (.tmp 4) (.tmp 93)) rfl ?_); refine GL.ret_step (by with_reducible repeat (first | exact HE.out | apply GL.alloc | apply GL.drewN | apply GL.drew)) _ _ _ _ _ _ _ ⟨rfl, rfl⟩ ⟨rfl, rfl⟩ ⟨rfl, rfl⟩ ⟨rfl, rfl⟩ ⟨rfl, rfl⟩ ⟨rfl, rfl⟩ ⟨rfl, rfl⟩ (.tmp 4) (.tmp 93) rfl rfl rfl rfl rfl ?_; intro W1 hR1 hB1 hg1; have HR1 := Aside0.mk hR1; have HB1 := Aside0.mk hB1; have HG1 := Aside0.mk hg1; clear hR1 hB1 hg1))
          exact bodyPost_ret_by (results_l2 _ _ w.heap.size _ _ _ _ _ _ _ _ _ rfl rfl rfl HR1.out) rfl ⟨_, rfl, Kd.R_nil _ _ _ _ _, HB1.out⟩
        subst hb
        rw [if_pos rfl] at H
        by_cases hn2 : 2 < (l0.length : Int)
        case neg => rw [if_neg hn2] at H; cases H
        rw [if_pos hn2] at H
        have HN2 : Aside0 (2 < l0.length) := ⟨by omega⟩
        have qi2 : (2 < l0.length) = True := eq_true HN2.out
        have qj2 : (2 < (l0.length : Int)) = True := eq_true hn2
        clear hn2
        obtain ⟨t21, t22, t23⟩ := tok49_2 HC.out HE.out.hb HN2.out
        by_cases hbig : (rd_T49 l0 2).f3 > 1000
        · rw [if_pos hbig] at H
          have hbigb : decide (1000 < (rd_T49 l0 2).f3) = true := decide_eq_true hbig
          clear hbig
          simp only [Option.some.injEq, Prod.mk.injEq] at H
          obtain ⟨rfl, rfl, rfl, rfl, rfl, rfl, rfl, rfl, rfl⟩ := H
          go_upto_region 23 with ((go_at_call 35; refine (carcanetref25_is.calls _ _ l0 _ _ _ _ (Kd.C_below HC.out (GL.hb (by with_reducible repeat (first | exact HE.out | apply GL.alloc | apply GL.drewN | apply GL.drew)))) HCAP.out HB3.out).mono ?_; rintro e w' ⟨rfl, ⟨nd, rfl⟩⟩))
          refine gl_abs (by with_reducible repeat (first | exact HE.out | apply GL.alloc | apply GL.drewN | apply GL.drew)) ?_
          intro W9 HE9
          replace HE := Aside0.mk HE9
          clear HE9
          obtain ⟨q0, q1, q2, q3, q4, q5, q6⟩ := HE.out.res_cells
          have qf := fun j => blk_frozen HE.out.hR j
          obtain ⟨o0, o1, o2, o3, o4, o5, o6⟩ := HE.out.ops_cells; obtain ⟨t01, t02, _⟩ := tok49_0 HC.out HE.out.hb HN0.out; obtain ⟨t21, t22, t23⟩ := tok49_2 HC.out HE.out.hb HN2.out
          go_region
          go_wp2
          exact line2_err HE.out.set7 rfl rfl rfl rfl
        · rw [if_neg hbig] at H
          have hbigb : decide (1000 < (rd_T49 l0 2).f3) = false := decide_eq_false hbig
          clear hbig
          obtain ⟨bt, hbt, H⟩ := Option.bind_eq_some_iff.mp H
          have HBT0 := Aside0.mk hbt
          clear hbt
          obtain ⟨es, ep, ee⟩ := bt
          have HBT := Aside0.mk HBT0.out
          dsimp only at H
          have HG := Aside0.mk H
          clear H
          go_upto_region 25 with (first | (go_at_call 35; refine (carcanetref25_is.calls _ _ l0 _ _ _ _ (Kd.C_below HC.out (GL.hb (by with_reducible repeat (first | exact HE.out | apply GL.alloc | apply GL.drewN | apply GL.drew)))) HCAP.out HB3.out).mono ?_; rintro e w' ⟨rfl, ⟨nd, rfl⟩⟩) | (go_at_call 39; refine (carcanetref25_edges.calls _ _ _ l0 _ _ _ _ _ _ (Kd.C_below HC.out (GL.hb (by with_reducible repeat (first | exact HE.out | apply GL.alloc | apply GL.drewN | apply GL.drew)))) HCAP.out HBT.out).mono ?_; rintro e w5 ⟨v5, rfl, hR5, hB5⟩; obtain ⟨A5, c5, rfl⟩ := Kd.R_slice hR5; have HE5 := Aside0.mk (GL.below (by with_reducible repeat (first | exact HE.out | apply GL.alloc | apply GL.drewN | apply GL.drew)) hB5); have HR5 := Aside0.mk hR5; clear hR5 hB5))
          refine abs3l (GL w #[.int .i64 1, .string (rd_T49 l0 1).f2, .int .i64 0, .slice none 0 0, .int .i64 c, .int .i64 (rd_T49 l0 0).f1, .int .i64 (rd_T49 l0 1).f1]) (fun W => ∃ b, w.heap.size + 1 < b ∧ Kd.R k64 64 W b (fun _ => True) (.slice A5 es.length c5) es) (by with_reducible repeat (first | exact HE5.out | apply GL.alloc | apply GL.drewN | apply GL.drew)) ⟨_, ?_, HR5.out⟩ ?_
          · have := HE.out.lt; simp; omega
          intro W9 HE9 hR9
          obtain ⟨b5, hb5, hR9⟩ := hR9
          replace HE := Aside0.mk HE9
          replace HR5 := Aside0.mk hR9
          have HB5 := Aside0.mk hb5
          clear HE9 hR9 HE5 hb5
          obtain ⟨o0, o1, o2, o3, o4, o5, o6⟩ := HE.out.ops_cells
          obtain ⟨t01, t02, _⟩ := tok49_0 HC.out HE.out.hb HN0.out
          obtain ⟨t11, t12, t13⟩ := tok49_1 HC.out HE.out.hb HN1.out
          obtain ⟨t21, t22, t23⟩ := tok49_2 HC.out HE.out.hb HN2.out
          have H := HG.out
          clear HG
          by_cases hee : ee = 0
          case neg =>
            have heeb : (ee != 0) = true := by simpa using hee
            rw [if_neg hee] at H
            clear hee
            simp only [Option.some.injEq, Prod.mk.injEq] at H
            obtain ⟨rfl, rfl, rfl, rfl, rfl, rfl, rfl, rfl, rfl⟩ := H
            go_wp2_with (first | ((with_reducible refine gate_ (.store 50 (.tmp 4) (.tmp 120)) rfl ?_); refine GL.ret_step (by with_reducible repeat (first | exact HE.out | apply GL.alloc | apply GL.drewN | apply GL.drew)) _ _ _ _ _ _ _ ⟨rfl, rfl⟩ ⟨rfl, rfl⟩ ⟨rfl, rfl⟩ ⟨rfl, rfl⟩ ⟨rfl, rfl⟩ ⟨rfl, rfl⟩ ⟨rfl, rfl⟩ (.tmp 4) (.tmp 120) rfl rfl rfl rfl rfl ?_; intro W1 hR1 hB1 hg1; have HR1 := Aside0.mk hR1; have HB1 := Aside0.mk hB1; have HG1 := Aside0.mk hg1; clear hR1 hB1 hg1))
            exact bodyPost_ret_by (results_l2 _ _ w.heap.size _ _ _ _ _ _ _ _ _ rfl rfl rfl HR1.out) rfl ⟨_, rfl, Kd.R_nil _ _ _ _ _, HB1.out⟩
          rw [if_pos hee] at H
          have heeb : (ee != 0) = false := by simpa using hee
          clear hee
          obtain ⟨bn, hbn, H⟩ := Option.bind_eq_some_iff.mp H
          have HBN0 := Aside0.mk hbn
          clear hbn
          obtain ⟨gN, gE, ge⟩ := bn
          have HBN := Aside0.mk HBN0.out
          clear HBN0 HBT0 HBT
          dsimp only at H
          have HG := Aside0.mk H
          clear H
          go_upto_region 28 with (first | (go_at_call 40; refine (carcanetref03_Normal.calls _ _ _ _ es _ _ _ _ (Kd.C_below (Kd.R_reads' HR5.out).2.2 (by with_reducible repeat (first | exact Below.refl _ _ | apply below_alloc | apply pw_below_drewN))) (Kd.R_reads' HR5.out).2.1 HBN.out).mono ?_; rintro e w6 ⟨v6, rfl, hR6, hB6⟩; obtain ⟨A6, c6, rfl⟩ := Kd.R_slice hR6; have HE6 := Aside0.mk (GL.below (by with_reducible repeat (first | exact HE.out | apply GL.alloc | apply GL.drewN | apply GL.drew)) hB6); have HR6 := Aside0.mk hR6; clear hR6 hB6))
          refine abs4l (GL w #[.int .i64 1, .string (rd_T49 l0 1).f2, .int .i64 0, .slice none 0 0, .int .i64 c, .int .i64 (rd_T49 l0 0).f1, .int .i64 (rd_T49 l0 1).f1]) (fun W => W.heap[w6.heap.size]? = some (.cells #[.int .i64 gN, .slice A6 gE.length c6] 34 (0, 0))) (fun W => ∃ b, w.heap.size + 1 < b ∧ Kd.R k64 64 W b (fun _ => True) (.slice A6 gE.length c6) gE) (by with_reducible repeat (first | exact HE6.out | apply GL.alloc | apply GL.drewN | apply GL.drew)) (blk_new _ _) ⟨_, ?_, Kd.R_below HR6.out (below_alloc (Below.refl _ _) _)⟩ ?_
          · have := HE.out.lt; simp; omega
          intro W9 HE9 hb9 hR9
          obtain ⟨b6, hb6, hR9⟩ := hR9
          replace HE := Aside0.mk HE9
          replace HR5 := Aside0.mk hR9
          replace HB5 := Aside0.mk hb6
          have hg0 := (blk_cell hb9 0).trans rfl
          have hg1 := (blk_cell hb9 1).trans rfl
          clear HE9 hR9 HE6 HR6 hb6 hb9
          generalize w6.heap.size = bg at hg0 hg1 ⊢
          obtain ⟨o0, o1, o2, o3, o4, o5, o6⟩ := HE.out.ops_cells
          obtain ⟨t01, t02, _⟩ := tok49_0 HC.out HE.out.hb HN0.out
          have H := HG.out
          clear HG
          by_cases hge : ge = 0
          case neg =>
            have hgeb : (ge != 0) = true := by simpa using hge
            rw [if_neg hge, if_pos (by have := HN0.out; omega)] at H
            clear hge
            simp only [Option.some.injEq, Prod.mk.injEq] at H
            obtain ⟨rfl, rfl, rfl, rfl, rfl, rfl, rfl, rfl, rfl⟩ := H
            go_upto_region 29 with (fail)
            refine gl_abs (by with_reducible repeat (first | exact HE.out | apply GL.alloc | apply GL.drewN | apply GL.drew)) ?_
            intro W9 HE9
            replace HE := Aside0.mk HE9
            clear HE9
            obtain ⟨q0, q1, q2, q3, q4, q5, q6⟩ := HE.out.res_cells
            have qf := fun j => blk_frozen HE.out.hR j
            obtain ⟨o0, o1, o2, o3, o4, o5, o6⟩ := HE.out.ops_cells; obtain ⟨t01, t02, _⟩ := tok49_0 HC.out HE.out.hb HN0.out
            go_region
            go_wp2
            exact line2_err HE.out.set7 rfl rfl rfl rfl
          rw [if_pos hge] at H
          have hgeb : (ge != 0) = false := by simpa using hge
          clear hge
          simp only [Option.some.injEq, Prod.mk.injEq] at H
          obtain ⟨rfl, rfl, rfl, rfl, rfl, rfl, rfl, rfl, rfl⟩ := H
          have ht34 : (Tryz.prog.info? 34).map (·.size) = some 2 := by kernel_rfl
          go_wp2_with (first | ((with_reducible refine gate_ (.store 34 (.tmp 141) (.tmp 140)) rfl ?_); refine GL.set_step (by with_reducible repeat (first | exact HE.out | apply GL.alloc | apply GL.drewN | apply GL.drew)) 34 2 (.agg #[.int .i64 gN, .slice A6 gE.length c6]) [.int .i64 gN, .slice A6 gE.length c6] (.tmp 141) (.tmp 140) #[.int .i64 1, .string (rd_T49 l0 1).f2, .int .i64 gN, .slice A6 gE.length c6, .int .i64 c, .int .i64 (rd_T49 l0 0).f1, .int .i64 (rd_T49 l0 1).f1] (by simp) rfl ht34 (by simp [Value.oneCell']) rfl rfl rfl rfl rfl rfl ?_; intro W1 HE1 hg1; replace HE := Aside0.mk HE1; have HRF := Aside0.mk (Kd.R_grown1 HR5.out rfl hg1 (fun he => by have := Kd.R_base HR5.out _ he.symm; have := HB5.out; omega)); clear HE1 hg1; obtain ⟨o0, o1, o2, o3, o4, o5, o6⟩ := HE.out.ops_cells; obtain ⟨t01, t02, _⟩ := tok49_0 HC.out HE.out.hb HN0.out) | ((with_reducible refine gate_ (.store 50 (.tmp 4) (.tmp 142)) rfl ?_); refine GL.ret_step (by with_reducible repeat (first | exact HE.out | apply GL.alloc | apply GL.drewN | apply GL.drew)) _ _ _ _ _ _ _ ⟨rfl, rfl⟩ ⟨rfl, rfl⟩ ⟨rfl, rfl⟩ ⟨rfl, rfl⟩ ⟨rfl, rfl⟩ ⟨rfl, rfl⟩ ⟨rfl, rfl⟩ (.tmp 4) (.tmp 142) rfl rfl rfl rfl rfl ?_; intro W1 hR1 hB1 hg1; have HR1 := Aside0.mk hR1; have HB1 := Aside0.mk hB1; have HG1 := Aside0.mk hg1; clear hR1 hB1 hg1))
          exact bodyPost_ret_by (results_l2 _ _ w.heap.size _ _ _ _ _ _ _ _ _ rfl rfl rfl HR1.out) rfl ⟨_, rfl, Kd.R_lower (Kd.R_grown1 HRF.out rfl HG1.out (fun he => by have := Kd.R_base HRF.out _ he.symm; have := HB5.out; omega)) (by have := HB5.out; omega), HB1.out⟩

end Go.Proofs.YtmdmdbiinngneaaGreatDoor.Q

/- The contract of slices.Insert of one cell into a row of cells of the caller's own: for a place within it, and at most 1000 cells. -/
import Derived.Test.YtoedoakldogkhaaF
import Derived.Lib.AppendZerosOnto
import Derived.Lib.Overlaps
import Derived.Laws.NewBlocks
import Derived.Deep.RegionLaw
namespace Go.Proofs.Ytoedoakldogkhaa.Ps
open Go.RowKit Go.Proofs.YtoedoakldogkhaaW.PrintWords Go.Proofs.YtoedoakldogkhaaW.PrintLast Go.Proofs.YtoedoakldogkhaaW.PrintMore
set_option linter.unusedVariables false
set_option linter.unusedSimpArgs false

section
variable {P : Program}
/-- copy, elements of several cells: all is read before anything is written. -/
theorem copy_row (w : World) (dT sT ty elem : TypeId) (g o dLen dCap size : Nat) (a : Addr) (sLen sCap : Nat) (cur : Array Value) (t : TypeId) (cs : List Value)
    (hu : P.underlying dT = some (.slice elem)) (hs : (P.info? elem).map (·.size) = some size)
    (hg : w.heap[g]? = some (.cells cur t (0, 0))) (hn : cs.length = Nat.min sLen dLen * size)
    (hsrc : ∀ j v, cs[j]? = some v → w.cell? (a.add j) = some v) (hfit : o + cs.length ≤ cur.size) (h1 : ∀ v ∈ cs, v.oneCell' = true) :
    (Builtin.copy_ #[dT, sT] ty #[.slice (some ⟨g, o, none⟩) dLen dCap, .slice (some a) sLen sCap]).run P w =
      .ok (goInt (Nat.min sLen dLen)) (w.setRow g (cur.toList.take o ++ cs ++ cur.toList.drop (o + cs.length)).toArray) := by
  have hl := run_loadCells_list (P := P) w a cs hsrc
  have hst := run_storeCells_at P g o t cs 0 cur w hg (by simpa using hfit) h1
  cases hq : P.info? elem with
  | none => simp [hq] at hs
  | some i =>
    have hi : i.size = size := by simpa [hq] using hs
    simp [Builtin.copy_, run_underlying hu, Builtin.lenOf, Builtin.firstCells, sizeOf, typeInfo, hq, hi, ← hn, hl, hst]
theorem wp_copy_eq (w : World) {o : Oper} {a : Act} {K : Act → World → Prop} {Q : Exit → Act → World → Prop} (d s : Operand) (t t' : TypeId)
    (ho : o.op = .call { callee := .builtin .copy, args := #[d, s], argTypes := #[t, t'] }) (v u : Value) (hd : a.eval d = v) (hs : a.eval s = u) {v' : Value} {w' : World}
    (hr : (Builtin.copy_ #[t, t'] o.type #[v, u]).run P w = .ok v' w') (h : K (a.put o.dst v') w') : o.wp P a w K Q := by
  unfold Oper.wp execOp
  simp only [ho, resolve, invoke, builtin, Sem.run_bind, Sem.run_pure, Result.andThen_ok, List.map_toArray, List.map_cons, List.map_nil, hd, hs, hr]
  exact h
theorem wpList_copy_eq (w : World) {ops : Array Oper} {rest : List Oper} {o : Oper} {a : Act} {Q : Exit → Act → World → Prop} (hgd : o.guard = none) (d s : Operand) (t t' : TypeId)
    (ho : o.op = .call { callee := .builtin .copy, args := #[d, s], argTypes := #[t, t'] }) (v u : Value) (hd : a.eval d = v) (hs : a.eval s = u) {v' : Value} {w' : World}
    (hr : (Builtin.copy_ #[t, t'] o.type #[v, u]).run P w = .ok v' w') (h : wpList P ops Q rest (a.put o.dst v') w') : wpList P ops Q (o :: rest) a w :=
  wpList_plain hgd fun _ hK => wp_copy_eq w d s t t' ho v u hd hs hr (hK _ _ h)
theorem step_copy_eq {ops : Array Oper} {o : Oper} {a : Act} {w : World} {K : Act → World → Prop} {Q : Exit → Act → World → Prop} {E : Prop}
    (hg : o.guard = none) (d x : Operand) (dT sT : TypeId) (hop : o.op = Op.call { callee := Callee.builtin Builtin.copy, args := #[d, x], argTypes := #[dT, sT] })
    (v u : Value) (hd : a.eval d = v) (hx : a.eval x = u) {v' : Value} {w' : World} (hr : (Builtin.copy_ #[dT, sT] o.type #[v, u]).run P w = .ok v' w') (hK : K (a.put o.dst v') w') :
    if Region.wanted o (yielded ops a.tmps) = true then Oper.wp P o a w K Q else E := by
  have hw : Region.wanted o (yielded ops a.tmps) = true := by simp [Region.wanted, hg]
  rw [if_pos hw]
  exact wp_copy_eq w d x dT sT hop v u hd hx hr hK
end
theorem shift_list (cur x cs : List Value) (cur1 : Array Value) (i n : Nat) (hx : x.length = 3) (hi : i < n) (hl : (n + 1) * 3 ≤ cur.length) (hcs : cs = (cur.take (n * 3)).drop (i * 3))
    (h : cur1 = (cur.take ((i + 1) * 3) ++ cs ++ cur.drop ((i + 1) * 3 + cs.length)).toArray) : cur1.toList.take (i * 3) ++ x ++ cur1.toList.drop (i * 3 + 3) = cur.take (i * 3) ++ x ++ (cur.take (n * 3)).drop (i * 3) ++ cur.drop ((n + 1) * 3) := by
  have hcsl : cs.length = (n - i) * 3 := by rw [hcs, List.length_drop, List.length_take]; omega
  have h1 : (cur.take ((i + 1) * 3)).length = (i + 1) * 3 := by rw [List.length_take]; omega
  have e1 : cur1.toList.take (i * 3) = cur.take (i * 3) := by
    rw [h, List.toList_toArray, List.append_assoc, List.take_append_of_le_length (by omega), List.take_take, Nat.min_eq_left (by omega)]
  have e2 : cur1.toList.drop (i * 3 + 3) = cs ++ cur.drop ((n + 1) * 3) := by
    rw [h, List.toList_toArray, List.append_assoc, show i * 3 + 3 = (cur.take ((i + 1) * 3)).length by omega, List.drop_left, hcsl, show (i + 1) * 3 + (n - i) * 3 = (n + 1) * 3 by omega]
  rw [e1, e2, hcs, List.append_assoc, List.append_assoc, List.append_assoc]
theorem grow_list (cs x cd : List Value) (ROW ROWA ROWB : Array Value) (zs : List Value) (i n : Nat) (hx : x.length = 3) (hi : i < n) (hcl : cs.length = n * 3)
    (hR : ROW.toList = (cs.take (i * 3)).toArray.toList ++ zs) (hA : ROWA = (ROW.toList.take (i * 3) ++ x ++ ROW.toList.drop (i * 3 + 3)).toArray) (hcd : cd = cs.drop (i * 3))
    (hB : ROWB = (ROWA.toList.take ((i + 1) * 3) ++ cd ++ ROWA.toList.drop ((i + 1) * 3 + cd.length)).toArray) : ROWB.toList.take ((n + 1) * 3) = cs.take (i * 3) ++ x ++ cs.drop (i * 3) := by
  have h0 : (cs.take (i * 3)).length = i * 3 := by rw [List.length_take]; omega
  have hcdl : cd.length = (n - i) * 3 := by rw [hcd, List.length_drop]; omega
  have e1 : ROW.toList.take (i * 3) = cs.take (i * 3) := by
    rw [hR, List.toList_toArray]
    exact List.take_left' h0
  have e2 : ROWA.toList.take ((i + 1) * 3) = cs.take (i * 3) ++ x := by
    rw [hA, e1, List.toList_toArray]
    exact List.take_left' (by rw [List.length_append]; omega)
  rw [hB, e2, List.toList_toArray, hcd]
  exact List.take_left' (by rw [List.length_append, List.length_append, List.length_drop]; omega)
theorem zeroValue40 : ∀ w : World, (zeroValue 40).run Try.prog w = .ok (.agg #[.string ⟨#[]⟩, .bool false, .string ⟨#[]⟩]) w := fun _ => by kernel_rfl
theorem size40 : (Try.prog.info? 40).map (·.size) = some 3 := by kernel_rfl
theorem sizeOf40 : ∀ w : World, (Go.sizeOf 40).run Try.prog w = .ok 3 w := fun _ => by kernel_rfl

set_option maxHeartbeats 4000000 in
set_option maxRecDepth 100000 in
/-- Insert of one cell, there is room, not at the end: in place. -/
theorem insert_shift (g vb n c i vc : Nat) (cur : Array Value) (x0 x1 x2 : Value) (w : World) (hi : i < n) (hroom : n + 1 ≤ c) (hc63 : c ≤ 9223372036854775807) (hvb : vb ≠ g)
    (hg : w.heap[g]? = some (.cells cur 40 (0, 0))) (hsz : cur.size = c * 3) (hv : w.heap[vb]? = some (.cells #[x0, x1, x2] 40 (0, 0)))
    (h1 : ∀ u ∈ cur.toList.take (n * 3), u.oneCell' = true) (h10 : x0.oneCell' = true) (h11 : x1.oneCell' = true) (h12 : x2.oneCell' = true) :
    Calls Try.prog 18 #[.slice (some ⟨g, 0, none⟩) n c, .int .i64 i, .slice (some ⟨vb, 0, none⟩) 1 vc] w fun e w' =>
      e = .returned (.slice (some ⟨g, 0, none⟩) (n + 1) c) ∧ w' = w.drew.setRow g (cur.toList.take (i * 3) ++ [x0, x1, x2] ++ (cur.toList.take (n * 3)).drop (i * 3) ++ cur.toList.drop ((n + 1) * 3)).toArray := by
  have hov : ∀ lb cb, (callFunc 28 #[.slice (some ⟨vb, 0, none⟩) 1 vc, .slice (some ⟨g, (i + 1) * 3, none⟩) lb cb]).run Try.prog w = .ok (.value (.bool false)) w := fun lb cb => by
    rw [run_callFunc_extern Try.func28 (by kernel_rfl) (by kernel_rfl) (by kernel_rfl) (e := Extern.SlicesOverlaps.overlaps #[22, 22] #[4]) (by kernel_rfl),
      Lib.run_overlaps_apart w 22 4 40 Try.underlying22 3 sizeOf40 ⟨vb, 0, none⟩ ⟨g, (i + 1) * 3, none⟩ 1 vc lb cb hvb 40 40 3 cur.size (by simp [World.shape?, hv]) (by simp [World.shape?, hg]) (by omega) (by simp [World.frozen?, hv]) (by simp [World.frozen?, hv])]
    rfl
  have hcl : (cur.toList.take (n * 3)).length = n * 3 := by rw [List.length_take]; simp; omega
  obtain ⟨cs, hcs⟩ : ∃ cs, cs = (cur.toList.take (n * 3)).drop (i * 3) := ⟨_, rfl⟩
  have hcsl : cs.length = (n - i) * 3 := by rw [hcs, List.length_drop, hcl]; omega
  have hcs1 : ∀ u ∈ cs, u.oneCell' = true := fun u hu => h1 u (List.mem_of_mem_drop (by rw [← hcs]; exact hu))
  obtain ⟨cur1, hcur1⟩ : ∃ cur1, cur1 = (cur.toList.take ((i + 1) * 3) ++ cs ++ cur.toList.drop ((i + 1) * 3 + cs.length)).toArray := ⟨_, rfl⟩
  have hcur1s : cur1.size = c * 3 := by rw [hcur1]; simp [hcsl]; omega
  have hcp1 : ∀ ty dc sc, (Builtin.copy_ #[22, 22] ty #[.slice (some ⟨g, (i + 1) * 3, none⟩) (n - i) dc, .slice (some ⟨g, i * 3, none⟩) (n + 1 - i) sc]).run Try.prog w.drew = .ok (goInt (Nat.min (n + 1 - i) (n - i))) (w.drew.setRow g cur1) := fun ty dc sc => by
    rw [hcur1]
    refine copy_row w.drew 22 22 ty 40 g ((i + 1) * 3) (n - i) dc 3 ⟨g, i * 3, none⟩ (n + 1 - i) sc cur 40 cs Try.underlying22 size40 hg (by rw [hcsl, show Nat.min (n + 1 - i) (n - i) = n - i from Nat.min_eq_right (by omega)]) (fun j v hj => ?_) (by rw [hcsl]; omega) hcs1
    rw [Addr.add_lit]
    show w.cell? _ = _
    rw [cell_of_row w g _ cur 40 (0, 0) hg]
    rw [hcs, List.getElem?_drop, List.getElem?_take] at hj
    split at hj
    · simpa using hj
    · cases hj
  obtain ⟨W1, hW1⟩ : ∃ W1, W1 = w.drew.setRow g cur1 := ⟨_, rfl⟩
  have hg1 : W1.heap[g]? = some (.cells cur1 40 (0, 0)) := by rw [hW1]; exact setRow_heap w.drew g cur cur1 40 (0, 0) hg
  have hv1 : W1.heap[vb]? = some (.cells #[x0, x1, x2] 40 (0, 0)) := by rw [hW1, setRow_other _ _ _ _ hvb]; exact hv
  have hcp2 : ∀ ty dc, (Builtin.copy_ #[22, 22] ty #[.slice (some ⟨g, i * 3, none⟩) (n + 1 - i) dc, .slice (some ⟨vb, 0, none⟩) 1 vc]).run Try.prog W1 = .ok (goInt (Nat.min 1 (n + 1 - i))) (W1.setRow g (cur1.toList.take (i * 3) ++ [x0, x1, x2] ++ cur1.toList.drop (i * 3 + 3)).toArray) := fun ty dc => by
    refine copy_row W1 22 22 ty 40 g (i * 3) (n + 1 - i) dc 3 ⟨vb, 0, none⟩ 1 vc cur1 40 [x0, x1, x2] Try.underlying22 size40 hg1 (by rw [show Nat.min 1 (n + 1 - i) = 1 from Nat.min_eq_left (by omega)]; rfl) (fun j v hj => ?_) (by rw [hcur1s]; simp; omega) (by intro u hu; simp at hu; rcases hu with rfl | rfl | rfl <;> assumption)
    rw [Addr.add_lit, cell_of_row W1 vb _ _ 40 (0, 0) hv1]
    simpa using hj
  rw [← hW1] at hcp1
  have HH := Aside0.mk (And.intro hcur1 (And.intro hcs (And.intro hW1 (And.intro hcsl (And.intro hsz hcur1s)))))
  clear hcur1 hcs hW1 hcsl hsz hcur1s hcl h1 hcs1 hg1 hv1
  go_enter Try.func18, Try.ntmps18
  go_wp2_with (simp only [hov])
  have hw1 : IntKind.i64.wrap ((i : Int) + 1) = (i : Int) + 1 := by rw [IntKind.wrap_i64]; omega
  have hb1 : (0 : Int) ≤ (i : Int) + 1 := by omega
  have htn : ((i : Int) + 1).toNat = i + 1 := by omega
  have hb2 : ¬ (c = i + 1) := by omega
  have hb3 : (i : Int) + 1 ≤ (n : Int) + 1 := by omega
  have hb4 : ¬ (c = i) := by omega
  have hb5 : (i : Int) ≤ (n : Int) + 1 := by omega
  have hb6 : n + 1 - (i + 1) = n - i := by omega
  go_region_law (refine step_copy_eq rfl _ _ 22 22 rfl _ _ (by simp [Act.eval, Act.put]) (by simp [Act.eval, Act.put]) (hcp1 _ _ _) ?_)
  go_wp2_with (at_builtin; refine wpList_copy_eq _ rfl _ _ 22 22 rfl _ _ rfl rfl (hcp2 _ _) ?_)
  go_ret
  obtain ⟨hcur1, hcs, hW1, hcsl, hsz, hcur1s⟩ := HH.out
  refine ⟨rfl, ?_⟩
  have h := shift_list cur.toList [x0, x1, x2] cs cur1 i n rfl hi (by simp; omega) hcs hcur1
  simp only [List.append_assoc, List.cons_append, List.nil_append] at h ⊢
  rw [hW1, setRow_setRow, h]
theorem info40' : (Try.prog.info? 40).map (fun i => (i.zero, i.size, i.bytes)) = some (some (.agg #[(.string ⟨#[]⟩), (.bool false), (.string ⟨#[]⟩)]), 3, 40) := info40

set_option maxHeartbeats 4000000 in
set_option maxRecDepth 100000 in
/-- Insert of one cell at the end. -/
theorem insert_end (vb n c B : Nat) (A : Option Addr) (cs : List Value) (x0 x1 x2 : Value) (w : World) (hn : n ≤ 1000) (hB : B ≤ w.heap.size) (hnc : n ≤ c) (hc63 : c ≤ 9223372036854775807)
    (hown : w.ownsRow B 40 3 (.slice A n c) n cs) (hv : w.heap[vb]? = some (.cells #[x0, x1, x2] 40 (0, 0))) (h10 : x0.oneCell' = true) (h11 : x1.oneCell' = true) (h12 : x2.oneCell' = true) :
    Calls Try.prog 18 #[.slice A n c, .int .i64 n, .slice (some ⟨vb, 0, none⟩) 1 1] w fun e w' =>
      ∃ v', e = .returned v' ∧ w'.ownsRow B 40 3 v' (n + 1) (cs ++ [x0, x1, x2]) ∧ w.grownBy w' (Value.slice A n c).ownBlock := by
  obtain ⟨i0, hi0, hz0, hz1, hz2⟩ := info_parts info40'
  have hnews : ∀ j u, ([x0, x1, x2] : List Value)[j]? = some u → w.cell? ((⟨vb, 0, none⟩ : Addr).add j) = some u := fun j u hu => by
    rw [Addr.add_lit, cell_of_row w vb _ _ 40 (0, 0) hv]
    simpa using hu
  have h1 : ∀ u ∈ ([x0, x1, x2] : List Value), u.oneCell' = true := by intro u hu; simp at hu; rcases hu with rfl | rfl | rfl <;> assumption
  obtain ⟨v1, w1, hrun, ho1, hg1, _, _⟩ := run_append_own_at (P := Try.prog) w B 22 22 40 i0 _ 3 40 Try.underlying22 hi0 hz0 hz1 hz2 rfl (by omega) _ n cs hown ⟨vb, 0, none⟩ 1 1 [x0, x1, x2] rfl hnews h1 (by simp only [maxLen]; omega) (by omega) hB
  have HR := Aside0.mk hrun
  have HO := Aside0.mk ho1
  have HG := Aside0.mk hg1
  clear hown hv h10 h11 h12 hnews h1 hi0 hz0 hz1 hz2 hrun ho1 hg1
  rcases A with _ | ad
  all_goals
    go_enter Try.func18, Try.ntmps18
    go_wp2_with (at_builtin; refine Lib.wpList_append_run _ rfl _ _ _ _ rfl _ _ rfl rfl _ _ HR.out ?_)
    all_goals
      go_ret
      exact ⟨v1, rfl, HO.out, HG.out⟩

set_option maxHeartbeats 4000000 in
set_option maxRecDepth 100000 in
/-- Insert of one cell, no room, not at the end: a new row. -/
theorem insert_grow (g vb n c i B : Nat) (cur : Array Value) (x0 x1 x2 : Value) (w : World) (hi : i < n) (hn : n ≤ 1000) (hnc : n ≤ c) (hroom : c < n + 1) (hB : B ≤ w.heap.size)
    (hg : w.heap[g]? = some (.cells cur 40 (0, 0))) (hsz : cur.size = c * 3) (hv : w.heap[vb]? = some (.cells #[x0, x1, x2] 40 (0, 0)))
    (h1 : ∀ u ∈ cur.toList.take (n * 3), u.oneCell' = true) (h10 : x0.oneCell' = true) (h11 : x1.oneCell' = true) (h12 : x2.oneCell' = true) :
    Calls Try.prog 18 #[.slice (some ⟨g, 0, none⟩) n c, .int .i64 i, .slice (some ⟨vb, 0, none⟩) 1 1] w fun e w' =>
      ∃ v', e = .returned v' ∧ w'.ownsRow B 40 3 v' (n + 1) ((cur.toList.take (n * 3)).take (i * 3) ++ [x0, x1, x2] ++ (cur.toList.take (n * 3)).drop (i * 3)) ∧ w.grownBy w' none := by
  obtain ⟨i0, hi0, hz0, hzs, hzb⟩ := info_parts info40'
  obtain ⟨cs, hcs⟩ : ∃ cs, cs = cur.toList.take (n * 3) := ⟨_, rfl⟩
  have hcl : cs.length = n * 3 := by rw [hcs, List.length_take]; simp; omega
  rw [← hcs] at h1 ⊢
  have hcell : ∀ j v, cs[j]? = some v → w.cell? ⟨g, j, none⟩ = some v := fun j v hj => by
    rw [cell_of_row w g _ cur 40 (0, 0) hg]
    rw [hcs, List.getElem?_take] at hj
    split at hj
    · simpa using hj
    · cases hj
  have hbw : g < w.heap.size := (Array.getElem?_eq_some_iff.1 hg).1
  have hvw : vb < w.heap.size := (Array.getElem?_eq_some_iff.1 hv).1
  have hkk : (n : Int) + 1 - (i : Int) = ((n + 1 - i : Nat) : Int) := by omega
  have hik : i + (n + 1 - i) = n + 1 := by omega
  have hold : (Builtin.firstCells i0.size i (.slice (some ⟨g, 0, none⟩) i c)).run Try.prog w.drew = .ok (cs.take (i * 3)).toArray w.drew := by
    rw [hzs]
    exact run_firstCells_some w.drew 3 i ⟨g, 0, none⟩ i c (cs.take (i * 3)) (by rw [List.length_take]; omega) (fun j v hj => by
      rw [Addr.add_lit, Nat.zero_add]
      rw [List.getElem?_take] at hj
      split at hj
      · exact hcell j v hj
      · cases hj)
  obtain ⟨G, hG⟩ : ∃ G, G = grownCap w (n + 1) c 40 := ⟨_, rfl⟩
  obtain ⟨ROW, hROW⟩ : ∃ ROW : Array Value, ROW = (cs.take (i * 3)).toArray ++ Builtin.zeroCells (Value.agg #[(.string ⟨#[]⟩), (.bool false), (.string ⟨#[]⟩)]).cells (n + 1 - i) ++ Builtin.zeroCells (Value.agg #[(.string ⟨#[]⟩), (.bool false), (.string ⟨#[]⟩)]).cells (G - (n + 1)) := ⟨_, rfl⟩
  have hrz : (Builtin.append_ #[22, 3] 22 #[.slice (some ⟨g, 0, none⟩) i c, .int .i64 ((n : Int) + 1 - (i : Int))]).run Try.prog w =
      .ok (.slice (some ⟨w.heap.size, 0, none⟩) (n + 1) G) (w.drew.alloc (.cells ROW 40)) := by
    have h := Lib.run_append_grow_zeros w 22 3 22 40 i0 _ .i64 .i64 Try.underlying22 Try.underlying3 hi0 hz0 (some ⟨g, 0, none⟩) i c (cs.take (i * 3)) hold (n + 1 - i) (by omega) (by omega) (by omega) (by omega) (by rw [hzb]; omega) (by rw [hzb, hik]; exact growslice_fits hroom (by omega))
    rw [hik] at h
    rw [hkk, hROW, hG]
    exact h
  have hGn : n + 1 ≤ G := by rw [hG]; exact grownCap_ge w _ _ _
  have hGm : G ≤ maxLen := by rw [hG]; exact grownCap_le_maxLen w (n + 1) c 40 (by unfold maxLen; omega)
  have hG63 : G ≤ 9223372036854775807 := by unfold maxLen at hGm; exact hGm
  have hRs : ROW.size = G * 3 := by
    rw [hROW]
    simp [Builtin.zeroCells, Value.cells]
    omega
  obtain ⟨N, hN⟩ : ∃ N, N = w.heap.size := ⟨_, rfl⟩
  have hbN : g ≠ N := by omega
  have hvN : vb ≠ N := by omega
  obtain ⟨ROWA, hA⟩ : ∃ R : Array Value, R = (ROW.toList.take (i * 3) ++ [x0, x1, x2] ++ ROW.toList.drop (i * 3 + 3)).toArray := ⟨_, rfl⟩
  have hAs : ROWA.size = G * 3 := by rw [hA]; simp; omega
  obtain ⟨cd, hcd⟩ : ∃ cd, cd = cs.drop (i * 3) := ⟨_, rfl⟩
  have hcdl : cd.length = (n - i) * 3 := by rw [hcd, List.length_drop, hcl]; omega
  obtain ⟨ROWB, hBr⟩ : ∃ R : Array Value, R = (ROWA.toList.take ((i + 1) * 3) ++ cd ++ ROWA.toList.drop ((i + 1) * 3 + cd.length)).toArray := ⟨_, rfl⟩
  have hBs : ROWB.size = G * 3 := by rw [hBr]; simp [hcdl]; omega
  have hcpA : ∀ (W : World), W.heap[N]? = some (.cells ROW 40 (0, 0)) → W.heap[vb]? = some (.cells #[x0, x1, x2] 40 (0, 0)) → ∀ ty dc, (Builtin.copy_ #[22, 22] ty #[.slice (some ⟨N, i * 3, none⟩) (n + 1 - i) dc, .slice (some ⟨vb, 0, none⟩) 1 1]).run Try.prog W = .ok (goInt (Nat.min 1 (n + 1 - i))) (W.setRow N ROWA) := fun W h1 h2 ty dc => by
    rw [hA]
    refine copy_row W 22 22 ty 40 N (i * 3) (n + 1 - i) dc 3 ⟨vb, 0, none⟩ 1 1 ROW 40 [x0, x1, x2] Try.underlying22 size40 h1 (by rw [show Nat.min 1 (n + 1 - i) = 1 from Nat.min_eq_left (by omega)]; rfl) (fun j v hj => ?_) (by rw [hRs]; simp; omega) (by intro u hu; simp at hu; rcases hu with rfl | rfl | rfl <;> assumption)
    rw [Addr.add_lit, cell_of_row W vb _ _ 40 (0, 0) h2]
    simpa using hj
  have hcpB : ∀ (W : World), W.heap[N]? = some (.cells ROWA 40 (0, 0)) → W.heap[g]? = some (.cells cur 40 (0, 0)) → ∀ ty dc sc, (Builtin.copy_ #[22, 22] ty #[.slice (some ⟨N, (i + 1) * 3, none⟩) (n - i) dc, .slice (some ⟨g, i * 3, none⟩) (n - i) sc]).run Try.prog W = .ok (goInt (Nat.min (n - i) (n - i))) (W.setRow N ROWB) := fun W hw1 hw2 ty dc sc => by
    rw [hBr]
    refine copy_row W 22 22 ty 40 N ((i + 1) * 3) (n - i) dc 3 ⟨g, i * 3, none⟩ (n - i) sc ROWA 40 cd Try.underlying22 size40 hw1 (by rw [hcdl, show Nat.min (n - i) (n - i) = n - i from Nat.min_self _]) (fun j v hj => ?_) (by rw [hAs, hcdl]; omega) (fun u hu => h1 u (List.mem_of_mem_drop (by rw [← hcd]; exact hu)))
    rw [Addr.add_lit]
    show W.cell? _ = _
    rw [cell_of_row W g _ cur 40 (0, 0) hw2]
    rw [hcd, hcs, List.getElem?_drop, List.getElem?_take] at hj
    split at hj
    · simpa using hj
    · cases hj
  have e1 : ((w.alloc (.cells ROW 40)).drew).heap[N]? = some (.cells ROW 40 (0, 0)) := by rw [hN]; exact heap_alloc_new w _
  have e2 : ((w.alloc (.cells ROW 40)).drew).heap[vb]? = some (.cells #[x0, x1, x2] 40 (0, 0)) := (heap_alloc_old w _ hvw).trans hv
  have e3 : ((((w.alloc (.cells ROW 40)).drew).setRow N ROWA).drew).heap[N]? = some (.cells ROWA 40 (0, 0)) := setRow_heap _ N ROW ROWA 40 (0, 0) e1
  have e4 : ((((w.alloc (.cells ROW 40)).drew).setRow N ROWA).drew).heap[g]? = some (.cells cur 40 (0, 0)) := (setRow_other ((w.alloc (.cells ROW 40)).drew) N g ROWA hbN).trans ((heap_alloc_old w _ hbw).trans hg)
  have E := Aside0.mk (And.intro e1 (And.intro e2 (And.intro e3 e4)))
  clear e1 e2 e3 e4
  have HZ := Aside0.mk (And.intro hcs (And.intro hcl (And.intro hROW (And.intro hRs (And.intro hA (And.intro hAs (And.intro hcd (And.intro hcdl (And.intro hBr (And.intro hBs hN))))))))))
  rw [← hN] at hrz
  have HR := Aside0.mk hrz
  have HCA := Aside0.mk hcpA
  have HCB := Aside0.mk hcpB
  have HM := Aside0.mk hGm
  have HG := Aside0.mk hg
  have HV := Aside0.mk hv
  clear hcs hcl hROW hRs hA hAs hcd hcdl hBr hBs hN hrz hcpA hcpB hG hGm h1 hold hik hkk hcell hg hv hi0 hz0 hzs hzb hsz
  go_enter Try.func18, Try.ntmps18
  go_wp2_with (at_builtin; refine Lib.wpList_append_run _ rfl _ _ _ _ rfl _ _ rfl rfl _ _ HR.out ?_; have hcA := HCA.out _ E.out.1 E.out.2.1)
  have hw1 : IntKind.i64.wrap ((i : Int) + 1) = (i : Int) + 1 := by rw [IntKind.wrap_i64]; omega
  have hb1 : (0 : Int) ≤ (i : Int) + 1 := by omega
  have htn : ((i : Int) + 1).toNat = i + 1 := by omega
  have hb2 : ¬ (G = i + 1) := by omega
  have hb3 : (i : Int) + 1 ≤ (n : Int) + 1 := by omega
  have hb4 : ¬ (c = i) := by omega
  have hb5 : (i : Int) ≤ (n : Int) := by omega
  have hb6 : n + 1 - (i + 1) = n - i := by omega
  have hcB := HCB.out _ E.out.2.2.1 E.out.2.2.2
  go_region
  go_wp2
  go_ret
  obtain ⟨hcs, hcl, hROW, hRs, hA, hAs, hcd, hcdl, hBr, hBs, hN⟩ := HZ.out
  refine ⟨.slice (some ⟨N, 0, none⟩) (n + 1) G, rfl, ⟨by simp [hcl]; omega, .inr ⟨N, G, ROWB, rfl, by omega, ?_, hGn, HM.out, hBs, grow_list cs [x0, x1, x2] cd ROW ROWA ROWB _ i n rfl hi hcl (by rw [hROW, Array.append_assoc, Array.toList_append]) hA hcd hBr⟩⟩, ?_⟩
  · exact setRow_heap _ N ROWA ROWB 40 (0, 0) E.out.2.2.1
  · refine ⟨rfl, rfl, rfl, ?_, fun k hk _ => ?_⟩
    · simp
    · have hkN : k ≠ N := by omega
      rw [setRow_other _ _ _ _ hkN]
      show (World.setRow _ _ _).heap[k]? = _
      rw [setRow_other _ _ _ _ hkN]
      exact heap_alloc_old w _ hk

/-- Insert of one cell into a row of one's own. -/
theorem insert_calls (vb n c i B : Nat) (A : Option Addr) (cs : List Value) (x0 x1 x2 : Value) (w : World) (hi : i ≤ n) (hn : n ≤ 1000) (hB : B ≤ w.heap.size) (hnc : n ≤ c) (hc63 : c ≤ 9223372036854775807)
    (hown : w.ownsRow B 40 3 (.slice A n c) n cs) (hvb : (Value.slice A n c).ownBlock ≠ some vb) (hv : w.heap[vb]? = some (.cells #[x0, x1, x2] 40 (0, 0))) (h1 : ∀ u ∈ cs, u.oneCell' = true) (h10 : x0.oneCell' = true) (h11 : x1.oneCell' = true) (h12 : x2.oneCell' = true) :
    Calls Try.prog 18 #[.slice A n c, .int .i64 i, .slice (some ⟨vb, 0, none⟩) 1 1] w fun e w' =>
      ∃ v', e = .returned v' ∧ w'.ownsRow B 40 3 v' (n + 1) (cs.take (i * 3) ++ [x0, x1, x2] ++ cs.drop (i * 3)) ∧ w.grownBy w' (Value.slice A n c).ownBlock := by
  by_cases hin : i = n
  · subst hin
    refine (insert_end vb i c B A cs x0 x1 x2 w hn hB hnc hc63 hown hv h10 h11 h12).mono ?_
    rintro e w' ⟨v', he, ho, hg⟩
    refine ⟨v', he, ?_, hg⟩
    rw [List.take_of_length_le (by rw [hown.1]; omega), List.drop_eq_nil_of_le (by rw [hown.1]; omega), List.append_nil]
    exact ho
  · rcases hown.2 with ⟨_, h0⟩ | ⟨g, cap, cur, hv0, hBg, hg, hnc', hcm, hcs, htk⟩
    · omega
    · injection hv0 with hA _ hcc
      subst hA
      subst hcc
      have hvg : vb ≠ g := fun e => hvb (by rw [e]; rfl)
      by_cases hroom : n + 1 ≤ c
      · refine (insert_shift g vb n c i 1 cur x0 x1 x2 w (by omega) hroom hc63 hvg hg hcs hv (by rw [htk]; exact h1) h10 h11 h12).mono ?_
        rintro e w' ⟨he, hw⟩
        refine ⟨_, he, ?_, ?_⟩
        · rw [hw]
          have hl : cs.length = n * 3 := hown.1
          have hcl : (cs.take (i * 3)).length = i * 3 := by rw [List.length_take]; omega
          have hct : cur.toList.take (i * 3) = cs.take (i * 3) := by rw [← htk, List.take_take, Nat.min_eq_left (by omega)]
          have hsz : cur.toList.length = c * 3 := by rw [Array.length_toList]; exact hcs
          refine ⟨by simp [hl]; omega, .inr ⟨g, c, _, rfl, hBg, setRow_heap _ g cur _ 40 (0, 0) hg, hroom, hcm, ?_, ?_⟩⟩
          · rw [htk, hct]
            simp [hl]
            omega
          · rw [htk, hct, List.toList_toArray]
            exact List.take_left' (by simp [hl]; omega)
        · rw [hw]
          exact ⟨rfl, rfl, rfl, by simp, fun k hk hne => setRow_other _ _ _ _ (fun e => hne (by rw [e]; rfl))⟩
      · refine (insert_grow g vb n c i B cur x0 x1 x2 w (by omega) hn hnc (by omega) hB hg hcs hv (by rw [htk]; exact h1) h10 h11 h12).mono ?_
        rintro e w' ⟨v', he, ho, hgr⟩
        rw [htk] at ho
        exact ⟨v', he, ho, ⟨hgr.os, hgr.tape, hgr.output, hgr.size, fun k hk _ => hgr.block k hk (by simp)⟩⟩
end Go.Proofs.Ytoedoakldogkhaa.Ps

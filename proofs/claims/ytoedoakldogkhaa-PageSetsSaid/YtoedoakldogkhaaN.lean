/- The contract of trothlaw10.PageSets, where the Lean function of its name answers true. -/
import Derived.Test.YtoedoakldogkhaaM
import Derived.Test.YtoedoakldogkhaaC
import Derived.Test.YtoedoakldogkhaaD
namespace Go.Proofs.Ytoedoakldogkhaa.Ps
open Go.RowKit Go.Proofs.YtoedoakldogkhaaW.PrintWords Go.Proofs.YtoedoakldogkhaaW.PrintLast Go.Proofs.YtoedoakldogkhaaW.PrintMore
attribute [local go_sem] max2_int min2_int max_two min_two max_three min_three max_four min_four   -- for this text's walks alone
set_option linter.unusedVariables false
set_option linter.unusedSimpArgs false

attribute [local go_sem high] eqA26
/-! ### trothlaw10_PageSets: function 3 -/
def trothlaw10_PageSets.j0 : Nat → Int → ByteArray → Bool → Int → List (S40) → Bool → ByteArray → Option (Bool)
  | 0, _, _, _, _, _, _, _ => none
  | k + 1, x1, x2, x25, x202000, x202001, x203000, x203001 => if x25 = true then ((trothlaw10_awake.f k).bind fun t204 => (some t204)) else ((trothref10_Copy.f x202000 x202001).bind fun bt205 => ((page_Set.f k bt205.1 bt205.2 x1 x2 x203000 x203001).bind fun bt209 => ((trothref10_Set.f k x202000 x202001 x1 x2 x203000 x203001).bind fun bt215 => (if bt209.2.2 = bt215.2.2 then ((trothref10_Same.f k bt209.1 bt209.2.1 bt215.1 bt215.2.1).bind fun t221 => (if t221 = true then ((trothref10_Copy.f x202000 x202001).bind fun bt222 => ((page_Get.f k bt222.1 bt222.2 x2).bind fun bt226 => ((trothref10_Get.f k x202000 x202001 x2).bind fun bt228 => (if (bt226.1 == bt228.1 && (bt226.2.toList == bt228.2.toList)) = true then ((trothref10_Copy.f x202000 x202001).bind fun bt230 => ((page_Room.f k bt230.1 bt230.2 x2).bind fun t234 => ((trothref10_Room.f k x202000 x202001 x2).bind fun t235 => (if (t234 == t235) = true then ((trothlaw10_awake.f k).bind fun t236 => (some t236)) else (some false))))) else (some false))))) else (some false))) else (some false)))))
def trothlaw10_PageSets.f (k : Nat) (a0_0 : Int) (l0_1 : List (S40)) (a1 : Int) (a2 : ByteArray) (a3_0 : Bool) (a3_1 : ByteArray) : Option (Bool) := (trothref10_Great.f k a0_0 l0_1).bind fun t203 => (if t203 = true then (trothlaw10_PageSets.j0 k a1 a2 true a0_0 l0_1 a3_0 a3_1) else (if (a2.size : Int) > 100 then (trothlaw10_PageSets.j0 k a1 a2 true a0_0 l0_1 a3_0 a3_1) else (trothlaw10_PageSets.j0 k a1 a2 (decide ((a3_1.size : Int) > 100)) a0_0 l0_1 a3_0 a3_1)))
def trothlaw10_PageSets.T3 : Bool × List (List Nat × List Nat) := (true, [([], []), ([0], [0]), ([], []), ([], []), ([], []), ([1, 2, 3, 4, 1], [1, 2, 3, 4]), ([5], [5]), ([6], [6]), ([6], [6]), ([], []), ([9, 7, 5, 0, 1, 2, 3, 4, 5, 6, 7, 9], [7, 9]), ([8, 10, 0, 1, 2, 3, 4, 5, 6, 7, 8, 9, 10], [8])])
def trothlaw10_PageSets.B3 : List Nat := [0, 1, 0, 0, 0, 31, 63, 127, 127, 0, 767, 2047]
theorem trothlaw10_PageSets.tab3 : rtab .any (opsOf Try.f3 3) = trothlaw10_PageSets.T3 := by kernel_rfl
theorem trothlaw10_PageSets.bits3 : waitsOk trothlaw10_PageSets.T3.2 trothlaw10_PageSets.B3 = true := by kernel_rfl
def trothlaw10_PageSets.T5 : Bool × List (List Nat × List Nat) := (true, [([], []), ([], []), ([0, 1], [0, 1]), ([2], [2]), ([3], [3]), ([3], [3]), ([4, 5, 3, 3], [3, 4, 5]), ([3, 6], [3, 6]), ([7, 6], [7]), ([8], [8]), ([9, 8, 8], [8, 9]), ([8], [8]), ([10, 11, 10, 8], [8, 10, 11]), ([8], [8]), ([8], [8]), ([13, 14, 12, 8], [8, 13, 14]), ([12, 15, 8], [8, 12, 15]), ([8, 16], [8, 16]), ([17, 15], [17]), ([18], [18]), ([19, 18, 18], [18, 19]), ([18], [18]), ([20, 21, 20, 18], [18, 20, 21]), ([18], [18]), ([18], [18]), ([23, 24, 22, 18], [18, 23, 24]), ([22, 25, 18], [18, 22, 25]), ([18, 26], [18, 26]), ([27, 25], [27]), ([28, 28], [28]), ([28, 29], [28, 29]), ([30, 29, 0, 1, 2, 3, 4, 5, 6, 7, 8, 9, 10, 11, 12, 13, 14, 15, 16, 17, 18, 19, 20, 21, 22, 23, 24, 25, 26, 27, 28, 29, 30], [30])])
def trothlaw10_PageSets.B5 : List Nat := [0, 0, 3, 7, 15, 15, 63, 127, 255, 511, 1023, 511, 4095, 511, 511, 32767, 65535, 131071, 262143, 524287, 1048575, 524287, 4194303, 524287, 524287, 33554431, 67108863, 134217727, 268435455, 536870911, 1073741823, 2147483647]
theorem trothlaw10_PageSets.tab5 : rtab .any (opsOf Try.f3 5) = trothlaw10_PageSets.T5 := by kernel_rfl
theorem trothlaw10_PageSets.bits5 : waitsOk trothlaw10_PageSets.T5.2 trothlaw10_PageSets.B5 = true := by kernel_rfl
set_option maxHeartbeats 8000000 in
set_option maxRecDepth 100000 in
theorem trothlaw10_PageSets.calls (k : Nat) (a0_0 : Int) (A0_1 : Option Addr) (c0_1 : Nat) (l0_1 : List (S40)) (a1 : Int) (a2 : ByteArray) (a3_0 : Bool) (a3_1 : ByteArray) (r : Bool) (hrt : r = true) (w : World) (hr0_1 : Kd.C k40 w A0_1 l0_1.length l0_1) (hc0_1 : l0_1.length ≤ c0_1) (h : trothlaw10_PageSets.f k a0_0 l0_1 a1 a2 a3_0 a3_1 = some r) :
    Calls Try.prog 3 #[.agg #[.int .i64 a0_0, .slice A0_1 l0_1.length c0_1], .int .i64 a1, .string a2, .agg #[.bool a3_0, .string a3_1]] w fun e w' => e = .returned (.bool r) ∧ Below w.heap.size w w' := by
  have HRT := Aside0.mk hrt
  clear hrt
  have hu24 := Try.underlying24
  have hu26 := Try.underlying26
  have HR0_1 := Aside0.mk hr0_1
  have HC0_1 := Aside0.mk hc0_1
  clear hr0_1 hc0_1
  have HB := Aside0.mk (Below.refl w.heap.size w)
  have H : ((trothref10_Great.f k a0_0 l0_1).bind fun t203 => (if t203 = true then (trothlaw10_PageSets.j0 k a1 a2 true a0_0 l0_1 a3_0 a3_1) else (if (a2.size : Int) > 100 then (trothlaw10_PageSets.j0 k a1 a2 true a0_0 l0_1 a3_0 a3_1) else (trothlaw10_PageSets.j0 k a1 a2 (decide ((a3_1.size : Int) > 100)) a0_0 l0_1 a3_0 a3_1)))) = some r := h
  clear h
  have HC5 := Aside0.mk H
  clear H
  go_enter Try.func3, Try.ntmps3
  go_upto_region 1 with (first | ((with_reducible refine gate_dst (N := 4) rfl ?_); (try (refine gate_guard (by rfl) ?_; dsimp only)); refine box_event ?hg (N := 4) ?hd (cs := #[.int .i64 a0_0, .slice A0_1 l0_1.length c0_1]) (t := 24) ?hr ?_; (case hd => rfl); (case hg => rfl); (case hr => first | (go_simp; done) | (go_simp; rfl)); intro gb201 hg w6 hbox hb; have n0_ := Aside0.mk (below_step (by repeat (first | (with_reducible first | exact HB.out | apply below_alloc | apply pw_below_drewN | apply below_drew1) | exact HB.out)) hb); have n1_ := Aside0.mk (hbox); have n2_ := Aside0.mk ((by rw [hg]; exact (below_size (by repeat (first | (with_reducible first | exact HB.out | apply below_alloc | apply pw_below_drewN | apply below_drew1) | exact HB.out))) : w.heap.size ≤ gb201)); have n3_ := Aside0.mk ((by rw [hg]; exact (below_size (by repeat (first | (with_reducible first | exact HB.out | apply below_alloc | apply pw_below_drewN | apply below_drew1) | exact HB.out))) : w.heap.size ≤ gb201)); clear HB; have HB := n0_; have BK201 := n1_; have GW201 := n2_; have GE201 := n3_; clear n0_ n1_ n2_ n3_; clear hb hbox hg) | ((with_reducible refine gate_dst (N := 7) rfl ?_); (try (refine gate_guard (by rfl) ?_; dsimp only)); refine box_event ?hg (N := 7) ?hd (cs := #[.bool a3_0, .string a3_1]) (t := 26) ?hr ?_; (case hd => rfl); (case hg => rfl); (case hr => first | (go_simp; done) | (go_simp; rfl)); intro gb202 hg w7 hbox hb; have n0_ := Aside0.mk (blk_below (g := gb201) (o := .cells #[.int .i64 a0_0, .slice A0_1 l0_1.length c0_1] 24 (0, 0)) (by (with_reducible repeat (first | refine blk_drewN ?_ _ | refine blk_drew ?_ | refine blk_alloc ?_ _)); exact BK201.out) hb); have n1_ := Aside0.mk (below_step (by repeat (first | (with_reducible first | exact HB.out | apply below_alloc | apply pw_below_drewN | apply below_drew1 | refine below_set ?_ GE201.out) | exact HB.out)) hb); have n2_ := Aside0.mk (hbox); have n3_ := Aside0.mk ((by rw [hg]; exact (below_size (by repeat (first | (with_reducible first | exact HB.out | apply below_alloc | apply pw_below_drewN | apply below_drew1 | refine below_set ?_ GE201.out) | exact HB.out))) : w.heap.size ≤ gb202)); have n4_ := Aside0.mk ((by rw [hg]; exact (below_size (by repeat (first | (with_reducible first | exact HB.out | apply below_alloc | apply pw_below_drewN | apply below_drew1 | refine below_set ?_ GE201.out) | exact HB.out))) : w.heap.size ≤ gb202)); have n5_ := Aside0.mk ((by rw [hg]; exact Nat.ne_of_lt (blk_lt (g := gb201) (o := .cells #[.int .i64 a0_0, .slice A0_1 l0_1.length c0_1] 24 (0, 0)) (by (with_reducible repeat (first | refine blk_drewN ?_ _ | refine blk_drew ?_ | refine blk_alloc ?_ _)); exact BK201.out)) : gb201 ≠ gb202)); have n6_ := Aside0.mk ((by rw [hg]; exact Nat.ne_of_gt (blk_lt (g := gb201) (o := .cells #[.int .i64 a0_0, .slice A0_1 l0_1.length c0_1] 24 (0, 0)) (by (with_reducible repeat (first | refine blk_drewN ?_ _ | refine blk_drew ?_ | refine blk_alloc ?_ _)); exact BK201.out)) : gb202 ≠ gb201)); clear BK201; clear HB; have BK201 := n0_; have HB := n1_; have BK202 := n2_; have GW202 := n3_; have GE202 := n4_; have NB201_202 := n5_; have NB202_201 := n6_; clear n0_ n1_ n2_ n3_ n4_ n5_ n6_; clear hb hbox hg))
  (try simp only [Act.put, List.setIfInBounds_toArray, List.set_cons_zero, List.set_cons_succ])
  go_cut [25] (fun v25 wc => ∃ (kq : Nat) (x25_4 : Bool), v25 = .bool x25_4 ∧ Aside0 (trothlaw10_PageSets.j0 kq a1 a2 x25_4 a0_0 l0_1 a3_0 a3_1 = some r) ∧ Aside0 (kq ≤ k) ∧ Aside0 (wc.heap[gb201]? = some (.cells #[.int .i64 a0_0, (.slice A0_1 l0_1.length c0_1)] 24 (0, 0))) ∧ Aside0 (wc.heap[gb202]? = some (.cells #[.bool a3_0, .string a3_1] 26 (0, 0))) ∧ Aside0 (Below w.heap.size w wc))
  case first =>
    have H := HC5.out
    clear HC5
    replace H := Option.bind_eq_some_iff.mp H
    obtain ⟨t203, A80, H⟩ := H
    replace H : (if t203 = true then (trothlaw10_PageSets.j0 k a1 a2 true a0_0 l0_1 a3_0 a3_1) else (if (a2.size : Int) > 100 then (trothlaw10_PageSets.j0 k a1 a2 true a0_0 l0_1 a3_0 a3_1) else (trothlaw10_PageSets.j0 k a1 a2 (decide ((a3_1.size : Int) > 100)) a0_0 l0_1 a3_0 a3_1))) = some r := H
    have A8 := Aside0.mk A80
    clear A80
    by_cases c9 : t203 = true
    · subst c9
      have H1 : (trothlaw10_PageSets.j0 k a1 a2 true a0_0 l0_1 a3_0 a3_1) = some r := by rw [if_pos rfl] at H; exact H
      clear H
      have H := H1
      clear H1
      have H' := Aside0.mk H
      clear H
      have hnb10 := NB201_202.out
      have hnc10 := NB202_201.out
      have hcz11_0 : w7.cell? ⟨gb201, 0, none⟩ = some (.int .i64 a0_0) := (blk_cell BK201.out 0).trans rfl
      have hcz11_1 : w7.cell? ⟨gb201, 1, none⟩ = some (.slice A0_1 l0_1.length c0_1) := (blk_cell BK201.out 1).trans rfl
      have hfz11_0 := blk_frozen BK201.out 0
      have hfz11_1 := blk_frozen BK201.out 1
      go_wp2_with (first | ((with_reducible refine gate_callee (f := 4) rfl ?_); refine goesL_ (some 14) rfl rfl Try.func4 (by kernel_rfl) rfl #[.agg #[.int .i64 a0_0, .slice A0_1 l0_1.length c0_1]] rfl (by (try simp only [List.map_toArray, List.map_cons, List.map_nil]); first | done | rfl | (simp only [List.length_drop, List.length_take]; rfl)) ?_; (with_reducible refine (trothref10_Great.calls k a0_0 _ _ l0_1 true _ ?side1 ?side2 A8.out).mono ?_); (case side1 => repeat (first | exact (Kd.C_below HR0_1.out HB.out) | (with_reducible refine Kd.C_alloc ?_ _) | (with_reducible refine Kd.C_drewN ?_ _) | (with_reducible refine Kd.C_drew ?_))); (case side2 => exact HC0_1.out); rintro e w12 ⟨rfl, hb⟩; refine ⟨_, rfl, ?_⟩; have n0_ := Aside0.mk (blk_below (g := gb201) (o := .cells #[.int .i64 a0_0, .slice A0_1 l0_1.length c0_1] 24 (0, 0)) (by (with_reducible repeat (first | refine blk_drewN ?_ _ | refine blk_drew ?_ | refine blk_alloc ?_ _)); exact BK201.out) hb); have n1_ := Aside0.mk (blk_below (g := gb202) (o := .cells #[.bool a3_0, .string a3_1] 26 (0, 0)) (by (with_reducible repeat (first | refine blk_drewN ?_ _ | refine blk_drew ?_ | refine blk_alloc ?_ _)); exact BK202.out) hb); have n2_ := Aside0.mk (below_step (by repeat (first | (with_reducible first | exact HB.out | apply below_alloc | apply pw_below_drewN | apply below_drew1 | refine below_set ?_ GE201.out | refine below_set ?_ GE202.out) | exact HB.out)) hb); clear BK201; clear BK202; clear HB; have BK201 := n0_; have BK202 := n1_; have HB := n2_; clear n0_ n1_ n2_; (try clear hb); (try clear hb2); (try clear hk); (try clear hi)))
      go_meet
      case rel => exact ⟨_, (true), (by first | rfl | (simp; done) | (simp [*]; done)), H', ⟨by first | omega | exact Nat.le_refl _⟩, ⟨by (with_reducible repeat (first | refine blk_drewN ?_ _ | refine blk_drew ?_ | refine blk_alloc ?_ _)); exact BK201.out⟩, ⟨by (with_reducible repeat (first | refine blk_drewN ?_ _ | refine blk_drew ?_ | refine blk_alloc ?_ _)); exact BK202.out⟩, ⟨by repeat (first | (with_reducible first | exact HB.out | apply below_alloc | apply pw_below_drewN | apply below_drew1 | refine below_set ?_ GE201.out | refine below_set ?_ GE202.out) | exact HB.out)⟩⟩
    · replace c9 := Bool.eq_false_iff.mpr c9
      subst c9
      have H1 : (if (a2.size : Int) > 100 then (trothlaw10_PageSets.j0 k a1 a2 true a0_0 l0_1 a3_0 a3_1) else (trothlaw10_PageSets.j0 k a1 a2 (decide ((a3_1.size : Int) > 100)) a0_0 l0_1 a3_0 a3_1)) = some r := by rw [if_neg (show ¬ (false = true) by decide)] at H; exact H
      clear H
      have H := H1
      clear H1
      by_cases c13 : (a2.size : Int) > 100
      · rw [if_pos c13] at H
        have c13b0 : decide (100 < (a2.size : Int)) = true := decide_eq_true c13
        have c13b1 : decide (100 < a2.size) = true := decide_eq_true (by omega)
        clear c13
        (first | rw [c13b0] | (simp only [i64_w, i32_w]; rw [c13b0]) | skip)
        have H' := Aside0.mk H
        clear H
        have hnb14 := NB201_202.out
        have hnc14 := NB202_201.out
        have hcz15_0 : w7.cell? ⟨gb201, 0, none⟩ = some (.int .i64 a0_0) := (blk_cell BK201.out 0).trans rfl
        have hcz15_1 : w7.cell? ⟨gb201, 1, none⟩ = some (.slice A0_1 l0_1.length c0_1) := (blk_cell BK201.out 1).trans rfl
        have hfz15_0 := blk_frozen BK201.out 0
        have hfz15_1 := blk_frozen BK201.out 1
        go_wp2_with (first | ((with_reducible refine gate_callee (f := 4) rfl ?_); refine goesL_ (some 14) rfl rfl Try.func4 (by kernel_rfl) rfl #[.agg #[.int .i64 a0_0, .slice A0_1 l0_1.length c0_1]] rfl (by (try simp only [List.map_toArray, List.map_cons, List.map_nil]); first | done | rfl | (simp only [List.length_drop, List.length_take]; rfl)) ?_; (with_reducible refine (trothref10_Great.calls k a0_0 _ _ l0_1 false _ ?side1 ?side2 A8.out).mono ?_); (case side1 => repeat (first | exact (Kd.C_below HR0_1.out HB.out) | (with_reducible refine Kd.C_alloc ?_ _) | (with_reducible refine Kd.C_drewN ?_ _) | (with_reducible refine Kd.C_drew ?_))); (case side2 => exact HC0_1.out); rintro e w16 ⟨rfl, hb⟩; refine ⟨_, rfl, ?_⟩; have n0_ := Aside0.mk (blk_below (g := gb201) (o := .cells #[.int .i64 a0_0, .slice A0_1 l0_1.length c0_1] 24 (0, 0)) (by (with_reducible repeat (first | refine blk_drewN ?_ _ | refine blk_drew ?_ | refine blk_alloc ?_ _)); exact BK201.out) hb); have n1_ := Aside0.mk (blk_below (g := gb202) (o := .cells #[.bool a3_0, .string a3_1] 26 (0, 0)) (by (with_reducible repeat (first | refine blk_drewN ?_ _ | refine blk_drew ?_ | refine blk_alloc ?_ _)); exact BK202.out) hb); have n2_ := Aside0.mk (below_step (by repeat (first | (with_reducible first | exact HB.out | apply below_alloc | apply pw_below_drewN | apply below_drew1 | refine below_set ?_ GE201.out | refine below_set ?_ GE202.out) | exact HB.out)) hb); clear BK201; clear BK202; clear HB; have BK201 := n0_; have BK202 := n1_; have HB := n2_; clear n0_ n1_ n2_; (try clear hb); (try clear hb2); (try clear hk); (try clear hi)))
        go_meet
        case rel => exact ⟨_, (true), (by first | rfl | (simp; done) | (simp [*]; done)), H', ⟨by first | omega | exact Nat.le_refl _⟩, ⟨by (with_reducible repeat (first | refine blk_drewN ?_ _ | refine blk_drew ?_ | refine blk_alloc ?_ _)); exact BK201.out⟩, ⟨by (with_reducible repeat (first | refine blk_drewN ?_ _ | refine blk_drew ?_ | refine blk_alloc ?_ _)); exact BK202.out⟩, ⟨by repeat (first | (with_reducible first | exact HB.out | apply below_alloc | apply pw_below_drewN | apply below_drew1 | refine below_set ?_ GE201.out | refine below_set ?_ GE202.out) | exact HB.out)⟩⟩
      · rw [if_neg c13] at H
        have c13b0 : decide (100 < (a2.size : Int)) = false := decide_eq_false c13
        have c13b1 : decide (100 < a2.size) = false := decide_eq_false (by omega)
        clear c13
        (first | rw [c13b0] | (simp only [i64_w, i32_w]; rw [c13b0]) | skip)
        have H' := Aside0.mk H
        clear H
        have hnb17 := NB201_202.out
        have hnc17 := NB202_201.out
        have hcz18_0 : w7.cell? ⟨gb201, 0, none⟩ = some (.int .i64 a0_0) := (blk_cell BK201.out 0).trans rfl
        have hcz18_1 : w7.cell? ⟨gb201, 1, none⟩ = some (.slice A0_1 l0_1.length c0_1) := (blk_cell BK201.out 1).trans rfl
        have hfz18_0 := blk_frozen BK201.out 0
        have hfz18_1 := blk_frozen BK201.out 1
        go_wp2_with (first | ((with_reducible refine gate_callee (f := 4) rfl ?_); refine goesL_ (some 14) rfl rfl Try.func4 (by kernel_rfl) rfl #[.agg #[.int .i64 a0_0, .slice A0_1 l0_1.length c0_1]] rfl (by (try simp only [List.map_toArray, List.map_cons, List.map_nil]); first | done | rfl | (simp only [List.length_drop, List.length_take]; rfl)) ?_; (with_reducible refine (trothref10_Great.calls k a0_0 _ _ l0_1 false _ ?side1 ?side2 A8.out).mono ?_); (case side1 => repeat (first | exact (Kd.C_below HR0_1.out HB.out) | (with_reducible refine Kd.C_alloc ?_ _) | (with_reducible refine Kd.C_drewN ?_ _) | (with_reducible refine Kd.C_drew ?_))); (case side2 => exact HC0_1.out); rintro e w19 ⟨rfl, hb⟩; refine ⟨_, rfl, ?_⟩; have n0_ := Aside0.mk (blk_below (g := gb201) (o := .cells #[.int .i64 a0_0, .slice A0_1 l0_1.length c0_1] 24 (0, 0)) (by (with_reducible repeat (first | refine blk_drewN ?_ _ | refine blk_drew ?_ | refine blk_alloc ?_ _)); exact BK201.out) hb); have n1_ := Aside0.mk (blk_below (g := gb202) (o := .cells #[.bool a3_0, .string a3_1] 26 (0, 0)) (by (with_reducible repeat (first | refine blk_drewN ?_ _ | refine blk_drew ?_ | refine blk_alloc ?_ _)); exact BK202.out) hb); have n2_ := Aside0.mk (below_step (by repeat (first | (with_reducible first | exact HB.out | apply below_alloc | apply pw_below_drewN | apply below_drew1 | refine below_set ?_ GE201.out | refine below_set ?_ GE202.out) | exact HB.out)) hb); clear BK201; clear BK202; clear HB; have BK201 := n0_; have BK202 := n1_; have HB := n2_; clear n0_ n1_ n2_; (try clear hb); (try clear hb2); (try clear hk); (try clear hi); have hcz20_0 : w19.cell? ⟨gb202, 0, none⟩ = some (.bool a3_0) := (blk_cell BK202.out 0).trans rfl; have hcz20_1 : w19.cell? ⟨gb202, 1, none⟩ = some (.string a3_1) := (blk_cell BK202.out 1).trans rfl; have hfz20_0 := blk_frozen BK202.out 0; have hfz20_1 := blk_frozen BK202.out 1))
        go_meet
        case rel => exact ⟨_, (decide ((a3_1.size : Int) > 100)), (by first | rfl | (simp; done) | (simp [*]; done)), H', ⟨by first | omega | exact Nat.le_refl _⟩, ⟨by (with_reducible repeat (first | refine blk_drewN ?_ _ | refine blk_drew ?_ | refine blk_alloc ?_ _)); exact BK201.out⟩, ⟨by (with_reducible repeat (first | refine blk_drewN ?_ _ | refine blk_drew ?_ | refine blk_alloc ?_ _)); exact BK202.out⟩, ⟨by repeat (first | (with_reducible first | exact HB.out | apply below_alloc | apply pw_below_drewN | apply below_drew1 | refine below_set ?_ GE201.out | refine below_set ?_ GE202.out) | exact HB.out)⟩⟩
  case rest =>
    clear HC5
    try clear c1
    try clear p2
    try clear c3
    try clear c4
    try clear c9
    try clear c10
    try clear c13
    try clear c13b0
    try clear c13b1
    try clear c14
    try clear c17
    try clear hcz11_0
    try clear hcz11_1
    try clear hcz15_0
    try clear hcz15_1
    try clear hcz18_0
    try clear hcz18_1
    try clear hcz20_0
    try clear hcz20_1
    try clear hfz11_0
    try clear hfz11_1
    try clear hfz15_0
    try clear hfz15_1
    try clear hfz18_0
    try clear hfz18_1
    try clear hfz20_0
    try clear hfz20_1
    obtain ⟨kq, x25_4, rfl, HA, HJ4, BK201, BK202, HB⟩ := hcut
    cases kq with
    | zero => exact absurd HA.out (by simp [trothlaw10_PageSets.j0])
    | succ kj4 =>
      have H := HA.out
      clear HA
      simp only [trothlaw10_PageSets.j0] at H
      by_cases c21 : x25_4 = true
      · subst c21
        have H1 : ((trothlaw10_awake.f kj4).bind fun t204 => (some t204)) = some r := by rw [if_pos rfl] at H; exact H
        clear H
        have H := H1
        clear H1
        replace H := Option.bind_eq_some_iff.mp H
        obtain ⟨t204, A220, H⟩ := H
        replace H : (some t204) = some r := H
        have A22 := Aside0.mk A220
        clear A220
        obtain rfl := Option.some.inj H
        go_wp2_with (first | ((with_reducible refine gate_callee (f := 5) rfl ?_); refine goesL_ (some 26) rfl rfl Try.func5 (by kernel_rfl) rfl #[] rfl (by (try simp only [List.map_toArray, List.map_cons, List.map_nil]); first | done | rfl | (simp only [List.length_drop, List.length_take]; rfl)) ?_; (with_reducible refine (trothlaw10_awake.calls kj4  t204 _ A22.out).mono ?_); rintro e w23 ⟨rfl, hb⟩; refine ⟨_, rfl, ?_⟩; have n0_ := Aside0.mk (blk_below (g := gb201) (o := .cells #[.int .i64 a0_0, .slice A0_1 l0_1.length c0_1] 24 (0, 0)) (by (with_reducible repeat (first | refine blk_drewN ?_ _ | refine blk_drew ?_ | refine blk_alloc ?_ _)); exact BK201.out) hb); have n1_ := Aside0.mk (blk_below (g := gb202) (o := .cells #[.bool a3_0, .string a3_1] 26 (0, 0)) (by (with_reducible repeat (first | refine blk_drewN ?_ _ | refine blk_drew ?_ | refine blk_alloc ?_ _)); exact BK202.out) hb); have n2_ := Aside0.mk (below_step (by repeat (first | (with_reducible first | exact HB.out | apply below_alloc | apply pw_below_drewN | apply below_drew1 | refine below_set ?_ GE201.out | refine below_set ?_ GE202.out) | exact HB.out)) hb); clear BK201; clear BK202; clear HB; have BK201 := n0_; have BK202 := n1_; have HB := n2_; clear n0_ n1_ n2_; (try clear hb); (try clear hb2); (try clear hk); (try clear hi)))
        go_ret
        exact ⟨by first | rfl | (simp [errW_none, errW_some] <;> rfl) | (simp [*, errW_none, errW_some] <;> rfl), by repeat (first | (with_reducible first | exact HB.out | apply below_alloc | apply pw_below_drewN | apply below_drew1 | refine below_set ?_ GE201.out | refine below_set ?_ GE202.out) | exact HB.out)⟩
      · replace c21 := Bool.eq_false_iff.mpr c21
        subst c21
        have H1 : ((trothref10_Copy.f a0_0 l0_1).bind fun bt205 => ((page_Set.f kj4 bt205.1 bt205.2 a1 a2 a3_0 a3_1).bind fun bt209 => ((trothref10_Set.f kj4 a0_0 l0_1 a1 a2 a3_0 a3_1).bind fun bt215 => (if bt209.2.2 = bt215.2.2 then ((trothref10_Same.f kj4 bt209.1 bt209.2.1 bt215.1 bt215.2.1).bind fun t221 => (if t221 = true then ((trothref10_Copy.f a0_0 l0_1).bind fun bt222 => ((page_Get.f kj4 bt222.1 bt222.2 a2).bind fun bt226 => ((trothref10_Get.f kj4 a0_0 l0_1 a2).bind fun bt228 => (if (bt226.1 == bt228.1 && (bt226.2.toList == bt228.2.toList)) = true then ((trothref10_Copy.f a0_0 l0_1).bind fun bt230 => ((page_Room.f kj4 bt230.1 bt230.2 a2).bind fun t234 => ((trothref10_Room.f kj4 a0_0 l0_1 a2).bind fun t235 => (if (t234 == t235) = true then ((trothlaw10_awake.f kj4).bind fun t236 => (some t236)) else (some false))))) else (some false))))) else (some false))) else (some false))))) = some r := by rw [if_neg (show ¬ (false = true) by decide)] at H; exact H
        clear H
        have H := H1
        clear H1
        replace H := Option.bind_eq_some_iff.mp H
        obtain ⟨⟨t205, t206⟩, A240, H⟩ := H
        replace H : ((page_Set.f kj4 t205 t206 a1 a2 a3_0 a3_1).bind fun bt209 => ((trothref10_Set.f kj4 a0_0 l0_1 a1 a2 a3_0 a3_1).bind fun bt215 => (if bt209.2.2 = bt215.2.2 then ((trothref10_Same.f kj4 bt209.1 bt209.2.1 bt215.1 bt215.2.1).bind fun t221 => (if t221 = true then ((trothref10_Copy.f a0_0 l0_1).bind fun bt222 => ((page_Get.f kj4 bt222.1 bt222.2 a2).bind fun bt226 => ((trothref10_Get.f kj4 a0_0 l0_1 a2).bind fun bt228 => (if (bt226.1 == bt228.1 && (bt226.2.toList == bt228.2.toList)) = true then ((trothref10_Copy.f a0_0 l0_1).bind fun bt230 => ((page_Room.f kj4 bt230.1 bt230.2 a2).bind fun t234 => ((trothref10_Room.f kj4 a0_0 l0_1 a2).bind fun t235 => (if (t234 == t235) = true then ((trothlaw10_awake.f kj4).bind fun t236 => (some t236)) else (some false))))) else (some false))))) else (some false))) else (some false)))) = some r := H
        have A24 := Aside0.mk A240
        clear A240
        replace H := Option.bind_eq_some_iff.mp H
        obtain ⟨⟨t209, t210, t213⟩, A250, H⟩ := H
        replace H : ((trothref10_Set.f kj4 a0_0 l0_1 a1 a2 a3_0 a3_1).bind fun bt215 => (if t213 = bt215.2.2 then ((trothref10_Same.f kj4 t209 t210 bt215.1 bt215.2.1).bind fun t221 => (if t221 = true then ((trothref10_Copy.f a0_0 l0_1).bind fun bt222 => ((page_Get.f kj4 bt222.1 bt222.2 a2).bind fun bt226 => ((trothref10_Get.f kj4 a0_0 l0_1 a2).bind fun bt228 => (if (bt226.1 == bt228.1 && (bt226.2.toList == bt228.2.toList)) = true then ((trothref10_Copy.f a0_0 l0_1).bind fun bt230 => ((page_Room.f kj4 bt230.1 bt230.2 a2).bind fun t234 => ((trothref10_Room.f kj4 a0_0 l0_1 a2).bind fun t235 => (if (t234 == t235) = true then ((trothlaw10_awake.f kj4).bind fun t236 => (some t236)) else (some false))))) else (some false))))) else (some false))) else (some false))) = some r := H
        have A25 := Aside0.mk A250
        clear A250
        replace H := Option.bind_eq_some_iff.mp H
        obtain ⟨⟨t215, t216, t219⟩, A260, H⟩ := H
        replace H : (if t213 = t219 then ((trothref10_Same.f kj4 t209 t210 t215 t216).bind fun t221 => (if t221 = true then ((trothref10_Copy.f a0_0 l0_1).bind fun bt222 => ((page_Get.f kj4 bt222.1 bt222.2 a2).bind fun bt226 => ((trothref10_Get.f kj4 a0_0 l0_1 a2).bind fun bt228 => (if (bt226.1 == bt228.1 && (bt226.2.toList == bt228.2.toList)) = true then ((trothref10_Copy.f a0_0 l0_1).bind fun bt230 => ((page_Room.f kj4 bt230.1 bt230.2 a2).bind fun t234 => ((trothref10_Room.f kj4 a0_0 l0_1 a2).bind fun t235 => (if (t234 == t235) = true then ((trothlaw10_awake.f kj4).bind fun t236 => (some t236)) else (some false))))) else (some false))))) else (some false))) else (some false)) = some r := H
        have A26 := Aside0.mk A260
        clear A260
        by_cases c27 : t213 = t219
        · rw [if_pos c27] at H
          have c27b0 : (t213 == t219) = true := beq_iff_eq.mpr c27
          have c27b1 : (t213 != t219) = false := bne_eq_false_iff_eq.mpr c27
          clear c27
          replace H := Option.bind_eq_some_iff.mp H
          obtain ⟨t221, A280, H⟩ := H
          replace H : (if t221 = true then ((trothref10_Copy.f a0_0 l0_1).bind fun bt222 => ((page_Get.f kj4 bt222.1 bt222.2 a2).bind fun bt226 => ((trothref10_Get.f kj4 a0_0 l0_1 a2).bind fun bt228 => (if (bt226.1 == bt228.1 && (bt226.2.toList == bt228.2.toList)) = true then ((trothref10_Copy.f a0_0 l0_1).bind fun bt230 => ((page_Room.f kj4 bt230.1 bt230.2 a2).bind fun t234 => ((trothref10_Room.f kj4 a0_0 l0_1 a2).bind fun t235 => (if (t234 == t235) = true then ((trothlaw10_awake.f kj4).bind fun t236 => (some t236)) else (some false))))) else (some false))))) else (some false)) = some r := H
          have A28 := Aside0.mk A280
          clear A280
          by_cases c29 : t221 = true
          · subst c29
            have H1 : ((trothref10_Copy.f a0_0 l0_1).bind fun bt222 => ((page_Get.f kj4 bt222.1 bt222.2 a2).bind fun bt226 => ((trothref10_Get.f kj4 a0_0 l0_1 a2).bind fun bt228 => (if (bt226.1 == bt228.1 && (bt226.2.toList == bt228.2.toList)) = true then ((trothref10_Copy.f a0_0 l0_1).bind fun bt230 => ((page_Room.f kj4 bt230.1 bt230.2 a2).bind fun t234 => ((trothref10_Room.f kj4 a0_0 l0_1 a2).bind fun t235 => (if (t234 == t235) = true then ((trothlaw10_awake.f kj4).bind fun t236 => (some t236)) else (some false))))) else (some false))))) = some r := by rw [if_pos rfl] at H; exact H
            clear H
            have H := H1
            clear H1
            replace H := Option.bind_eq_some_iff.mp H
            obtain ⟨⟨t222, t223⟩, A300, H⟩ := H
            replace H : ((page_Get.f kj4 t222 t223 a2).bind fun bt226 => ((trothref10_Get.f kj4 a0_0 l0_1 a2).bind fun bt228 => (if (bt226.1 == bt228.1 && (bt226.2.toList == bt228.2.toList)) = true then ((trothref10_Copy.f a0_0 l0_1).bind fun bt230 => ((page_Room.f kj4 bt230.1 bt230.2 a2).bind fun t234 => ((trothref10_Room.f kj4 a0_0 l0_1 a2).bind fun t235 => (if (t234 == t235) = true then ((trothlaw10_awake.f kj4).bind fun t236 => (some t236)) else (some false))))) else (some false)))) = some r := H
            have A30 := Aside0.mk A300
            clear A300
            replace H := Option.bind_eq_some_iff.mp H
            obtain ⟨⟨t226, t227⟩, A310, H⟩ := H
            replace H : ((trothref10_Get.f kj4 a0_0 l0_1 a2).bind fun bt228 => (if (t226 == bt228.1 && (t227.toList == bt228.2.toList)) = true then ((trothref10_Copy.f a0_0 l0_1).bind fun bt230 => ((page_Room.f kj4 bt230.1 bt230.2 a2).bind fun t234 => ((trothref10_Room.f kj4 a0_0 l0_1 a2).bind fun t235 => (if (t234 == t235) = true then ((trothlaw10_awake.f kj4).bind fun t236 => (some t236)) else (some false))))) else (some false))) = some r := H
            have A31 := Aside0.mk A310
            clear A310
            replace H := Option.bind_eq_some_iff.mp H
            obtain ⟨⟨t228, t229⟩, A320, H⟩ := H
            replace H : (if (t226 == t228 && (t227.toList == t229.toList)) = true then ((trothref10_Copy.f a0_0 l0_1).bind fun bt230 => ((page_Room.f kj4 bt230.1 bt230.2 a2).bind fun t234 => ((trothref10_Room.f kj4 a0_0 l0_1 a2).bind fun t235 => (if (t234 == t235) = true then ((trothlaw10_awake.f kj4).bind fun t236 => (some t236)) else (some false))))) else (some false)) = some r := H
            have A32 := Aside0.mk A320
            clear A320
            by_cases c33 : (t226 == t228 && (t227.toList == t229.toList)) = true
            · rw [if_pos c33] at H
              have c33b0 : (t226 == t228 && (t227.toList == t229.toList)) = true := c33
              (try (have c33b1 : decide (t226 = t228 && (t227.toList == t229.toList)) = true := by simpa using c33))
              (try (have c33b2 : (t226 == t228 && (t227.toList == t229.toList)) = true := by simpa using c33))
              clear c33
              replace H := Option.bind_eq_some_iff.mp H
              obtain ⟨⟨t230, t231⟩, A340, H⟩ := H
              replace H : ((page_Room.f kj4 t230 t231 a2).bind fun t234 => ((trothref10_Room.f kj4 a0_0 l0_1 a2).bind fun t235 => (if (t234 == t235) = true then ((trothlaw10_awake.f kj4).bind fun t236 => (some t236)) else (some false)))) = some r := H
              have A34 := Aside0.mk A340
              clear A340
              replace H := Option.bind_eq_some_iff.mp H
              obtain ⟨t234, A350, H⟩ := H
              replace H : ((trothref10_Room.f kj4 a0_0 l0_1 a2).bind fun t235 => (if (t234 == t235) = true then ((trothlaw10_awake.f kj4).bind fun t236 => (some t236)) else (some false))) = some r := H
              have A35 := Aside0.mk A350
              clear A350
              replace H := Option.bind_eq_some_iff.mp H
              obtain ⟨t235, A360, H⟩ := H
              replace H : (if (t234 == t235) = true then ((trothlaw10_awake.f kj4).bind fun t236 => (some t236)) else (some false)) = some r := H
              have A36 := Aside0.mk A360
              clear A360
              by_cases c37 : (t234 == t235) = true
              · rw [if_pos c37] at H
                have c37b0 : (t234 == t235) = true := c37
                (try (have c37b1 : decide (t234 = t235) = true := by simpa using c37))
                (try (have c37b2 : (t234 == t235) = true := by simpa using c37))
                clear c37
                replace H := Option.bind_eq_some_iff.mp H
                obtain ⟨t236, A380, H⟩ := H
                replace H : (some t236) = some r := H
                have A38 := Aside0.mk A380
                clear A380
                obtain rfl := Option.some.inj H
                try go_wp2
                have n0_ := Aside0.mk (blk_drew BK201.out)
                have n1_ := Aside0.mk (blk_drew BK202.out)
                have n2_ := Aside0.mk (below_drew1 HB.out)
                clear BK201
                clear BK202
                clear HB
                have BK201 := n0_
                have BK202 := n1_
                have HB := n2_
                clear n0_ n1_ n2_
                refine start_ (n := 12) (S := fun w' => w'.cell? ⟨gb201, 0, none⟩ = some (.int .i64 a0_0) ∧ w'.cell? ⟨gb201, 1, none⟩ = some (.slice A0_1 l0_1.length c0_1) ∧ w'.cell? ⟨gb202, 0, none⟩ = some (.bool a3_0) ∧ w'.cell? ⟨gb202, 1, none⟩ = some (.string a3_1)) (ds := []) #[false, false, false, false, false, false, false, false, false, false, false, false] (by kernel_rfl) rfl rfl ⟨(blk_cell BK201.out 0).trans rfl, (blk_cell BK201.out 1).trans rfl, (blk_cell BK202.out 0).trans rfl, (blk_cell BK202.out 1).trans rfl⟩ (fun hHeld => ?_); refine with_tabW trothlaw10_PageSets.tab3 trothlaw10_PageSets.bits3 (fun HT_ HW_ => ?_)
                generalize wc.drew = w39 at BK201 BK202 HB hHeld ⊢
                refine pure_ (i := 2) (N := some 30) (v := ?_) (a' := ?_) #[false, false, true, false, false, false, false, false, false, false, false, false] rfl rfl (any_of HT_.out (by kernel_rfl)) (fun _ _ _ h => h) (Or.inl ⟨by rfl, ?_⟩) ?_ ?_
                rotate_left
                · intro w'
                  go_simp
                  with_reducible rfl
                rotate_left
                · simp only [Act.put, List.setIfInBounds_toArray, List.set_cons_zero, List.set_cons_succ, i64_w, i32_w]
                  rfl
                refine pure_ (i := 3) (N := some 31) (v := ?_) (a' := ?_) #[false, false, true, true, false, false, false, false, false, false, false, false] rfl rfl (any_of HT_.out (by kernel_rfl)) (fun _ _ _ h => h) (Or.inl ⟨by rfl, ?_⟩) ?_ ?_
                rotate_left
                · intro w'
                  go_simp
                  with_reducible rfl
                rotate_left
                · simp only [Act.put, List.setIfInBounds_toArray, List.set_cons_zero, List.set_cons_succ, i64_w, i32_w]
                  rfl
                refine take_ (i := 0) (N := some 28) (v := ?_) (a' := ?_) #[true, false, true, true, false, false, false, false, false, false, false, false] rfl rfl (take_ofW HT_.out HW_.out (by kernel_rfl)) (fun _ _ _ h => h) (Or.inl ⟨by rfl, ?_⟩) hHeld ?_ ?_
                rotate_left
                · rintro w' ⟨s0, s1, s2, s3⟩
                  go_simp
                  with_reducible rfl
                rotate_left
                · simp only [Act.put, List.setIfInBounds_toArray, List.set_cons_zero, List.set_cons_succ, i64_w, i32_w]
                  rfl
                refine take_ (i := 4) (N := some 32) (v := ?_) (a' := ?_) #[true, false, true, true, true, false, false, false, false, false, false, false] rfl rfl (take_ofW HT_.out HW_.out (by kernel_rfl)) (fun _ _ _ h => h) (Or.inl ⟨by rfl, ?_⟩) hHeld ?_ ?_
                rotate_left
                · rintro w' ⟨s0, s1, s2, s3⟩
                  go_simp
                  with_reducible rfl
                rotate_left
                · simp only [Act.put, List.setIfInBounds_toArray, List.set_cons_zero, List.set_cons_succ, i64_w, i32_w]
                  rfl
                refine join_ (σ := Value × Value × Nat) 2 #[true, true, true, true, true, true, true, true, true, true, false, false] (fun s_ => [(29, .agg #[.int .i64 t205, s_.1]), (33, .tuple #[.agg #[.int .i64 t209, s_.2.1], .int .i64 t213]), (9, .pointer (some ⟨s_.2.2, 0, none⟩)), (27, .tuple #[.agg #[.int .i64 t209, s_.2.1], .int .i64 t213]), (34, .agg #[.int .i64 t209, s_.2.1]), (35, .int .i64 t213)]) (fun s_ w' => (w'.cell? ⟨gb201, 0, none⟩ = some (.int .i64 a0_0) ∧ w'.cell? ⟨gb201, 1, none⟩ = some (.slice A0_1 l0_1.length c0_1) ∧ w'.cell? ⟨gb202, 0, none⟩ = some (.bool a3_0) ∧ w'.cell? ⟨gb202, 1, none⟩ = some (.string a3_1)) ∧ (Kd.R k40 40 w' w.heap.size (fun k_ => some k_ ≠ (s_.2.1 : Value).ownBlock) s_.1 t206) ∧ (Kd.R k40 40 w' w.heap.size (fun k_ => some k_ ≠ (s_.1 : Value).ownBlock) s_.2.1 t210) ∧ (w'.heap[gb201]? = some (.cells #[.int .i64 a0_0, .slice A0_1 l0_1.length c0_1] 24 (0, 0))) ∧ (w'.heap[gb202]? = some (.cells #[.bool a3_0, .string a3_1] 26 (0, 0))) ∧ (w'.heap[s_.2.2]? = some (.cells #[.int .i64 0, .slice none 0 0] 24 (0, 0))) ∧ (w.heap.size ≤ s_.2.2) ∧ (w.heap.size ≤ s_.2.2) ∧ (gb201 ≠ s_.2.2) ∧ (s_.2.2 ≠ gb201) ∧ (gb202 ≠ s_.2.2) ∧ (s_.2.2 ≠ gb202) ∧ (Below w.heap.size w w')) ?_ ?_
                rotate_left
                · intro hCont
                  refine two_ (i := 1) (j := 9) (Ni := some 29) (Nj := some 9) #[true, true, true, true, true, false, false, false, false, false, false, false] #[true, false, true, true, true, false, false, false, false, true, false, false] rfl rfl rfl rfl (two_of HT_.out (by kernel_rfl)) (by decide) (by decide) (fun K hK => ?_) (fun K hK => ?_)
                  · skip
                    refine goes_ Try.func7 (by kernel_rfl) rfl #[.agg #[.int .i64 a0_0, .slice A0_1 l0_1.length c0_1]] (by rfl) rfl rfl (by (try simp only [List.map_toArray, List.map_cons, List.map_nil]); first | done | rfl | (simp only [List.length_drop, List.length_take]; rfl)) ?_
                    with_reducible refine (trothref10_Copy.calls a0_0 _ _ l0_1 t205 t206 _ ?side1 ?side2 A24.out).mono ?_
                    (case side1 => repeat (first | exact (Kd.C_below HR0_1.out HB.out) | (with_reducible refine Kd.C_alloc ?_ _) | (with_reducible refine Kd.C_drewN ?_ _) | (with_reducible refine Kd.C_drew ?_)))
                    (case side2 => exact HC0_1.out)
                    rintro e w40 ⟨v207, rfl, ho0, hb⟩
                    refine ⟨_, rfl, ?_⟩
                    have n0_ := Aside0.mk (Kd.R_lower ho0 (below_size (by repeat (first | (with_reducible first | exact HB.out | apply below_alloc | apply pw_below_drewN | apply below_drew1 | refine below_set ?_ GE201.out | refine below_set ?_ GE202.out) | exact HB.out))))
                    have n1_ := Aside0.mk (blk_below (g := gb201) (o := .cells #[.int .i64 a0_0, .slice A0_1 l0_1.length c0_1] 24 (0, 0)) (by (with_reducible repeat (first | refine blk_drewN ?_ _ | refine blk_drew ?_ | refine blk_alloc ?_ _)); exact BK201.out) hb)
                    have n2_ := Aside0.mk (blk_below (g := gb202) (o := .cells #[.bool a3_0, .string a3_1] 26 (0, 0)) (by (with_reducible repeat (first | refine blk_drewN ?_ _ | refine blk_drew ?_ | refine blk_alloc ?_ _)); exact BK202.out) hb)
                    have n3_ := Aside0.mk (below_step (by repeat (first | (with_reducible first | exact HB.out | apply below_alloc | apply pw_below_drewN | apply below_drew1 | refine below_set ?_ GE201.out | refine below_set ?_ GE202.out) | exact HB.out)) hb)
                    clear BK201
                    clear BK202
                    clear HB
                    have HO208 := n0_
                    have BK201 := n1_
                    have BK202 := n2_
                    have HB := n3_
                    clear n0_ n1_ n2_ n3_
                    (try clear hb)
                    (try clear hb2)
                    (try clear hk)
                    (try clear hi)
                    (try clear ho0)
                    obtain ⟨Ao41, co41, eo41⟩ := Kd.R_slice HO208.out
                    (first | subst eo41 | (injection eo41 with f1_ f2_ f3_; have f4_ := f1_.symm; have f5_ := f3_.symm; clear f1_ f2_ f3_; subst f4_; subst f5_))
                    refine hK.out _ _ ⟨(blk_cell BK201.out 0).trans rfl, (blk_cell BK201.out 1).trans rfl, (blk_cell BK202.out 0).trans rfl, (blk_cell BK202.out 1).trans rfl⟩ (fun hHeld => ?_)
                    clear hK K
                    refine norm_ (a' := ?_) ?_ ?_
                    rotate_left
                    · show Act.put _ (some 29) _ = _
                      simp only [Act.put, List.setIfInBounds_toArray, List.set_cons_zero, List.set_cons_succ, i64_w, i32_w]
                      rfl
                    refine two_ (i := 5) (j := 9) (Ni := some 33) (Nj := some 9) #[true, true, true, true, true, true, false, false, false, false, false, false] #[true, true, true, true, true, false, false, false, false, true, false, false] rfl rfl rfl rfl (two_of HT_.out (by kernel_rfl)) (by decide) (by decide) (fun K hK => ?_) (fun K hK => ?_)
                    · skip
                      refine goes_ Try.func6 (by kernel_rfl) rfl #[.agg #[.int .i64 t205, .slice Ao41 t206.length co41], .int .i64 a1, .string a2, .agg #[.bool a3_0, .string a3_1]] (by rfl) rfl rfl (by (try simp only [List.map_toArray, List.map_cons, List.map_nil]); first | done | rfl | (simp only [List.length_drop, List.length_take]; rfl)) ?_
                      with_reducible refine (page_Set.calls kj4 t205 _ _ t206 a1 a2 a3_0 a3_1 t209 t210 t213 _ ?side1 ?side2 A25.out).mono ?_
                      (case side1 => repeat (first | exact (Kd.R_reads' HO208.out).2.2 | (with_reducible refine Kd.C_alloc ?_ _) | (with_reducible refine Kd.C_drewN ?_ _) | (with_reducible refine Kd.C_drew ?_)))
                      (case side2 => exact (Kd.R_reads' HO208.out).2.1)
                      rintro e w42 ⟨v211, rfl, ho0, hb⟩
                      refine ⟨_, rfl, ?_⟩
                      have n0_ := Aside0.mk (Kd.R_elder' (by (with_reducible repeat (first | apply Kd.R_alloc | apply Kd.R_drewN | apply Kd.R_drew)); exact HO208.out) (Kd.R_base ho0) hb)
                      have n1_ := Aside0.mk (Kd.R_lower (Kd.R_new' ho0 (Kd.R_lt (by (with_reducible repeat (first | apply Kd.R_alloc | apply Kd.R_drewN | apply Kd.R_drew)); exact HO208.out))) (below_size (by repeat (first | (with_reducible first | exact HB.out | apply below_alloc | apply pw_below_drewN | apply below_drew1 | refine below_set ?_ GE201.out | refine below_set ?_ GE202.out) | exact HB.out))))
                      have n2_ := Aside0.mk (blk_below (g := gb201) (o := .cells #[.int .i64 a0_0, .slice A0_1 l0_1.length c0_1] 24 (0, 0)) (by (with_reducible repeat (first | refine blk_drewN ?_ _ | refine blk_drew ?_ | refine blk_alloc ?_ _)); exact BK201.out) hb)
                      have n3_ := Aside0.mk (blk_below (g := gb202) (o := .cells #[.bool a3_0, .string a3_1] 26 (0, 0)) (by (with_reducible repeat (first | refine blk_drewN ?_ _ | refine blk_drew ?_ | refine blk_alloc ?_ _)); exact BK202.out) hb)
                      have n4_ := Aside0.mk (below_step (by repeat (first | (with_reducible first | exact HB.out | apply below_alloc | apply pw_below_drewN | apply below_drew1 | refine below_set ?_ GE201.out | refine below_set ?_ GE202.out) | exact HB.out)) hb)
                      clear HO208
                      clear BK201
                      clear BK202
                      clear HB
                      have HO208 := n0_
                      have HO212 := n1_
                      have BK201 := n2_
                      have BK202 := n3_
                      have HB := n4_
                      clear n0_ n1_ n2_ n3_ n4_
                      (try clear hb)
                      (try clear hb2)
                      (try clear hk)
                      (try clear hi)
                      (try clear ho0)
                      refine hK.out _ _ ⟨(blk_cell BK201.out 0).trans rfl, (blk_cell BK201.out 1).trans rfl, (blk_cell BK202.out 0).trans rfl, (blk_cell BK202.out 1).trans rfl⟩ (fun hHeld => ?_)
                      clear hK K
                      refine norm_ (a' := ?_) ?_ ?_
                      rotate_left
                      · show Act.put _ (some 33) _ = _
                        simp only [Act.put, List.setIfInBounds_toArray, List.set_cons_zero, List.set_cons_succ, i64_w, i32_w]
                        rfl
                      refine pure_ (i := 6) (N := some 27) (v := ?_) (a' := ?_) #[true, true, true, true, true, true, true, false, false, false, false, false] rfl rfl (any_of HT_.out (by kernel_rfl)) (fun _ _ _ h => h) (Or.inl ⟨by rfl, ?_⟩) ?_ ?_
                      rotate_left
                      · intro w'
                        go_simp
                        with_reducible rfl
                      rotate_left
                      · simp only [Act.put, List.setIfInBounds_toArray, List.set_cons_zero, List.set_cons_succ, i64_w, i32_w]
                        rfl
                      refine pure_ (i := 7) (N := some 34) (v := ?_) (a' := ?_) #[true, true, true, true, true, true, true, true, false, false, false, false] rfl rfl (any_of HT_.out (by kernel_rfl)) (fun _ _ _ h => h) (Or.inl ⟨by rfl, ?_⟩) ?_ ?_
                      rotate_left
                      · intro w'
                        go_simp
                        with_reducible rfl
                      rotate_left
                      · simp only [Act.put, List.setIfInBounds_toArray, List.set_cons_zero, List.set_cons_succ, i64_w, i32_w]
                        rfl
                      refine pure_ (i := 8) (N := some 35) (v := ?_) (a' := ?_) #[true, true, true, true, true, true, true, true, true, false, false, false] rfl rfl (any_of HT_.out (by kernel_rfl)) (fun _ _ _ h => h) (Or.inl ⟨by rfl, ?_⟩) ?_ ?_
                      rotate_left
                      · intro w'
                        go_simp
                        with_reducible rfl
                      rotate_left
                      · simp only [Act.put, List.setIfInBounds_toArray, List.set_cons_zero, List.set_cons_succ, i64_w, i32_w]
                        rfl
                      refine one_ (i := 9) (N := some 9) #[true, true, true, true, true, true, true, true, true, true, false, false] rfl rfl (one_of HT_.out (by kernel_rfl)) (by decide) (fun K hK => ?_)
                      refine box_step ?hg (N := 9) ?hd (cs := #[.int .i64 0, .slice none 0 0]) (t := 24) ?hr ?_; (case hd => rfl); (case hg => rfl); (case hr => first | (go_simp; done) | (go_simp; rfl))
                      intro gb214 hg w43 hbox hb
                      have n0_ := Aside0.mk (Kd.R_below (by (with_reducible repeat (first | apply Kd.R_alloc | apply Kd.R_drewN | apply Kd.R_drew)); exact HO208.out) hb)
                      have n1_ := Aside0.mk (Kd.R_below (by (with_reducible repeat (first | apply Kd.R_alloc | apply Kd.R_drewN | apply Kd.R_drew)); exact HO212.out) hb)
                      have n2_ := Aside0.mk (blk_below (g := gb201) (o := .cells #[.int .i64 a0_0, .slice A0_1 l0_1.length c0_1] 24 (0, 0)) (by (with_reducible repeat (first | refine blk_drewN ?_ _ | refine blk_drew ?_ | refine blk_alloc ?_ _)); exact BK201.out) hb)
                      have n3_ := Aside0.mk (blk_below (g := gb202) (o := .cells #[.bool a3_0, .string a3_1] 26 (0, 0)) (by (with_reducible repeat (first | refine blk_drewN ?_ _ | refine blk_drew ?_ | refine blk_alloc ?_ _)); exact BK202.out) hb)
                      have n4_ := Aside0.mk (below_step (by repeat (first | (with_reducible first | exact HB.out | apply below_alloc | apply pw_below_drewN | apply below_drew1 | refine below_set ?_ GE201.out | refine below_set ?_ GE202.out) | exact HB.out)) hb)
                      have n5_ := Aside0.mk (hbox)
                      have n6_ := Aside0.mk ((by rw [hg]; exact (below_size (by repeat (first | (with_reducible first | exact HB.out | apply below_alloc | apply pw_below_drewN | apply below_drew1 | refine below_set ?_ GE201.out | refine below_set ?_ GE202.out) | exact HB.out))) : w.heap.size ≤ gb214))
                      have n7_ := Aside0.mk ((by rw [hg]; exact (below_size (by repeat (first | (with_reducible first | exact HB.out | apply below_alloc | apply pw_below_drewN | apply below_drew1 | refine below_set ?_ GE201.out | refine below_set ?_ GE202.out) | exact HB.out))) : w.heap.size ≤ gb214))
                      have n8_ := Aside0.mk ((by rw [hg]; exact Nat.ne_of_lt (blk_lt (g := gb201) (o := .cells #[.int .i64 a0_0, .slice A0_1 l0_1.length c0_1] 24 (0, 0)) (by (with_reducible repeat (first | refine blk_drewN ?_ _ | refine blk_drew ?_ | refine blk_alloc ?_ _)); exact BK201.out)) : gb201 ≠ gb214))
                      have n9_ := Aside0.mk ((by rw [hg]; exact Nat.ne_of_gt (blk_lt (g := gb201) (o := .cells #[.int .i64 a0_0, .slice A0_1 l0_1.length c0_1] 24 (0, 0)) (by (with_reducible repeat (first | refine blk_drewN ?_ _ | refine blk_drew ?_ | refine blk_alloc ?_ _)); exact BK201.out)) : gb214 ≠ gb201))
                      have n10_ := Aside0.mk ((by rw [hg]; exact Nat.ne_of_lt (blk_lt (g := gb202) (o := .cells #[.bool a3_0, .string a3_1] 26 (0, 0)) (by (with_reducible repeat (first | refine blk_drewN ?_ _ | refine blk_drew ?_ | refine blk_alloc ?_ _)); exact BK202.out)) : gb202 ≠ gb214))
                      have n11_ := Aside0.mk ((by rw [hg]; exact Nat.ne_of_gt (blk_lt (g := gb202) (o := .cells #[.bool a3_0, .string a3_1] 26 (0, 0)) (by (with_reducible repeat (first | refine blk_drewN ?_ _ | refine blk_drew ?_ | refine blk_alloc ?_ _)); exact BK202.out)) : gb214 ≠ gb202))
                      clear HO208
                      clear HO212
                      clear BK201
                      clear BK202
                      clear HB
                      have HO208 := n0_
                      have HO212 := n1_
                      have BK201 := n2_
                      have BK202 := n3_
                      have HB := n4_
                      have BK214 := n5_
                      have GW214 := n6_
                      have GE214 := n7_
                      have NB201_214 := n8_
                      have NB214_201 := n9_
                      have NB202_214 := n10_
                      have NB214_202 := n11_
                      clear n0_ n1_ n2_ n3_ n4_ n5_ n6_ n7_ n8_ n9_ n10_ n11_
                      clear hb hbox hg
                      refine hK.out _ _ ⟨(blk_cell BK201.out 0).trans rfl, (blk_cell BK201.out 1).trans rfl, (blk_cell BK202.out 0).trans rfl, (blk_cell BK202.out 1).trans rfl⟩ (fun hHeld => ?_)
                      clear hK K
                      refine norm_ (a' := ?_) ?_ ?_
                      rotate_left
                      · show Act.put _ (some 9) _ = _
                        simp only [Act.put, List.setIfInBounds_toArray, List.set_cons_zero, List.set_cons_succ, i64_w, i32_w]
                        rfl
                      exact norm_ (by simp only [putAll, Act.put, List.setIfInBounds_toArray, List.set_cons_zero, List.set_cons_succ]) (hCont (.slice Ao41 t206.length co41, v211, gb214) _ ⟨hHeld, (by (with_reducible repeat (first | apply Kd.R_alloc | apply Kd.R_drewN | apply Kd.R_drew)); exact Kd.R_mono HO208.out (fun _ hk => hk.2)), (by (with_reducible repeat (first | apply Kd.R_alloc | apply Kd.R_drewN | apply Kd.R_drew)); exact Kd.R_mono HO212.out (fun _ hk => hk.2)), (by (with_reducible repeat (first | refine blk_drewN ?_ _ | refine blk_drew ?_ | refine blk_alloc ?_ _)); exact BK201.out), (by (with_reducible repeat (first | refine blk_drewN ?_ _ | refine blk_drew ?_ | refine blk_alloc ?_ _)); exact BK202.out), (by (with_reducible repeat (first | refine blk_drewN ?_ _ | refine blk_drew ?_ | refine blk_alloc ?_ _)); exact BK214.out), GW214.out, GE214.out, NB201_214.out, NB214_201.out, NB202_214.out, NB214_202.out, (by repeat (first | (with_reducible first | exact HB.out | apply below_alloc | apply pw_below_drewN | apply below_drew1 | refine below_set ?_ GE201.out | refine below_set ?_ GE202.out | refine below_set ?_ GE214.out) | exact HB.out))⟩)
                    · skip
                      refine box_step ?hg (N := 9) ?hd (cs := #[.int .i64 0, .slice none 0 0]) (t := 24) ?hr ?_; (case hd => rfl); (case hg => rfl); (case hr => first | (go_simp; done) | (go_simp; rfl))
                      intro gb214 hg w41 hbox hb
                      have n0_ := Aside0.mk (Kd.R_below (by (with_reducible repeat (first | apply Kd.R_alloc | apply Kd.R_drewN | apply Kd.R_drew)); exact HO208.out) hb)
                      have n1_ := Aside0.mk (blk_below (g := gb201) (o := .cells #[.int .i64 a0_0, .slice A0_1 l0_1.length c0_1] 24 (0, 0)) (by (with_reducible repeat (first | refine blk_drewN ?_ _ | refine blk_drew ?_ | refine blk_alloc ?_ _)); exact BK201.out) hb)
                      have n2_ := Aside0.mk (blk_below (g := gb202) (o := .cells #[.bool a3_0, .string a3_1] 26 (0, 0)) (by (with_reducible repeat (first | refine blk_drewN ?_ _ | refine blk_drew ?_ | refine blk_alloc ?_ _)); exact BK202.out) hb)
                      have n3_ := Aside0.mk (below_step (by repeat (first | (with_reducible first | exact HB.out | apply below_alloc | apply pw_below_drewN | apply below_drew1 | refine below_set ?_ GE201.out | refine below_set ?_ GE202.out) | exact HB.out)) hb)
                      have n4_ := Aside0.mk (hbox)
                      have n5_ := Aside0.mk ((by rw [hg]; exact (below_size (by repeat (first | (with_reducible first | exact HB.out | apply below_alloc | apply pw_below_drewN | apply below_drew1 | refine below_set ?_ GE201.out | refine below_set ?_ GE202.out) | exact HB.out))) : w.heap.size ≤ gb214))
                      have n6_ := Aside0.mk ((by rw [hg]; exact (below_size (by repeat (first | (with_reducible first | exact HB.out | apply below_alloc | apply pw_below_drewN | apply below_drew1 | refine below_set ?_ GE201.out | refine below_set ?_ GE202.out) | exact HB.out))) : w.heap.size ≤ gb214))
                      have n7_ := Aside0.mk ((by rw [hg]; exact Nat.ne_of_lt (blk_lt (g := gb201) (o := .cells #[.int .i64 a0_0, .slice A0_1 l0_1.length c0_1] 24 (0, 0)) (by (with_reducible repeat (first | refine blk_drewN ?_ _ | refine blk_drew ?_ | refine blk_alloc ?_ _)); exact BK201.out)) : gb201 ≠ gb214))
                      have n8_ := Aside0.mk ((by rw [hg]; exact Nat.ne_of_gt (blk_lt (g := gb201) (o := .cells #[.int .i64 a0_0, .slice A0_1 l0_1.length c0_1] 24 (0, 0)) (by (with_reducible repeat (first | refine blk_drewN ?_ _ | refine blk_drew ?_ | refine blk_alloc ?_ _)); exact BK201.out)) : gb214 ≠ gb201))
                      have n9_ := Aside0.mk ((by rw [hg]; exact Nat.ne_of_lt (blk_lt (g := gb202) (o := .cells #[.bool a3_0, .string a3_1] 26 (0, 0)) (by (with_reducible repeat (first | refine blk_drewN ?_ _ | refine blk_drew ?_ | refine blk_alloc ?_ _)); exact BK202.out)) : gb202 ≠ gb214))
                      have n10_ := Aside0.mk ((by rw [hg]; exact Nat.ne_of_gt (blk_lt (g := gb202) (o := .cells #[.bool a3_0, .string a3_1] 26 (0, 0)) (by (with_reducible repeat (first | refine blk_drewN ?_ _ | refine blk_drew ?_ | refine blk_alloc ?_ _)); exact BK202.out)) : gb214 ≠ gb202))
                      clear HO208
                      clear BK201
                      clear BK202
                      clear HB
                      have HO208 := n0_
                      have BK201 := n1_
                      have BK202 := n2_
                      have HB := n3_
                      have BK214 := n4_
                      have GW214 := n5_
                      have GE214 := n6_
                      have NB201_214 := n7_
                      have NB214_201 := n8_
                      have NB202_214 := n9_
                      have NB214_202 := n10_
                      clear n0_ n1_ n2_ n3_ n4_ n5_ n6_ n7_ n8_ n9_ n10_
                      clear hb hbox hg
                      obtain ⟨Ao42, co42, eo42⟩ := Kd.R_slice HO208.out
                      (first | subst eo42 | (injection eo42 with f1_ f2_ f3_; have f4_ := f1_.symm; have f5_ := f3_.symm; clear f1_ f2_ f3_; subst f4_; subst f5_))
                      refine hK.out _ _ ⟨(blk_cell BK201.out 0).trans rfl, (blk_cell BK201.out 1).trans rfl, (blk_cell BK202.out 0).trans rfl, (blk_cell BK202.out 1).trans rfl⟩ (fun hHeld => ?_)
                      clear hK K
                      refine norm_ (a' := ?_) ?_ ?_
                      rotate_left
                      · show Act.put _ (some 9) _ = _
                        simp only [Act.put, List.setIfInBounds_toArray, List.set_cons_zero, List.set_cons_succ, i64_w, i32_w]
                        rfl
                      refine one_ (i := 5) (N := some 33) #[true, true, true, true, true, true, false, false, false, true, false, false] rfl rfl (one_of HT_.out (by kernel_rfl)) (by decide) (fun K hK => ?_)
                      refine goes_ Try.func6 (by kernel_rfl) rfl #[.agg #[.int .i64 t205, .slice Ao42 t206.length co42], .int .i64 a1, .string a2, .agg #[.bool a3_0, .string a3_1]] (by rfl) rfl rfl (by (try simp only [List.map_toArray, List.map_cons, List.map_nil]); first | done | rfl | (simp only [List.length_drop, List.length_take]; rfl)) ?_
                      with_reducible refine (page_Set.calls kj4 t205 _ _ t206 a1 a2 a3_0 a3_1 t209 t210 t213 _ ?side1 ?side2 A25.out).mono ?_
                      (case side1 => repeat (first | exact (Kd.R_reads' HO208.out).2.2 | (with_reducible refine Kd.C_alloc ?_ _) | (with_reducible refine Kd.C_drewN ?_ _) | (with_reducible refine Kd.C_drew ?_)))
                      (case side2 => exact (Kd.R_reads' HO208.out).2.1)
                      rintro e w43 ⟨v211, rfl, ho0, hb⟩
                      refine ⟨_, rfl, ?_⟩
                      have n0_ := Aside0.mk (Kd.R_elder' (by (with_reducible repeat (first | apply Kd.R_alloc | apply Kd.R_drewN | apply Kd.R_drew)); exact HO208.out) (Kd.R_base ho0) hb)
                      have n1_ := Aside0.mk (Kd.R_lower (Kd.R_new' ho0 (Kd.R_lt (by (with_reducible repeat (first | apply Kd.R_alloc | apply Kd.R_drewN | apply Kd.R_drew)); exact HO208.out))) (below_size (by repeat (first | (with_reducible first | exact HB.out | apply below_alloc | apply pw_below_drewN | apply below_drew1 | refine below_set ?_ GE201.out | refine below_set ?_ GE202.out | refine below_set ?_ GE214.out) | exact HB.out))))
                      have n2_ := Aside0.mk (blk_below (g := gb201) (o := .cells #[.int .i64 a0_0, .slice A0_1 l0_1.length c0_1] 24 (0, 0)) (by (with_reducible repeat (first | refine blk_drewN ?_ _ | refine blk_drew ?_ | refine blk_alloc ?_ _)); exact BK201.out) hb)
                      have n3_ := Aside0.mk (blk_below (g := gb202) (o := .cells #[.bool a3_0, .string a3_1] 26 (0, 0)) (by (with_reducible repeat (first | refine blk_drewN ?_ _ | refine blk_drew ?_ | refine blk_alloc ?_ _)); exact BK202.out) hb)
                      have n4_ := Aside0.mk (blk_below (g := gb214) (o := .cells #[.int .i64 0, .slice none 0 0] 24 (0, 0)) (by (with_reducible repeat (first | refine blk_drewN ?_ _ | refine blk_drew ?_ | refine blk_alloc ?_ _)); exact BK214.out) hb)
                      have n5_ := Aside0.mk (below_step (by repeat (first | (with_reducible first | exact HB.out | apply below_alloc | apply pw_below_drewN | apply below_drew1 | refine below_set ?_ GE201.out | refine below_set ?_ GE202.out | refine below_set ?_ GE214.out) | exact HB.out)) hb)
                      clear HO208
                      clear BK201
                      clear BK202
                      clear BK214
                      clear HB
                      have HO208 := n0_
                      have HO212 := n1_
                      have BK201 := n2_
                      have BK202 := n3_
                      have BK214 := n4_
                      have HB := n5_
                      clear n0_ n1_ n2_ n3_ n4_ n5_
                      (try clear hb)
                      (try clear hb2)
                      (try clear hk)
                      (try clear hi)
                      (try clear ho0)
                      refine hK.out _ _ ⟨(blk_cell BK201.out 0).trans rfl, (blk_cell BK201.out 1).trans rfl, (blk_cell BK202.out 0).trans rfl, (blk_cell BK202.out 1).trans rfl⟩ (fun hHeld => ?_)
                      clear hK K
                      refine norm_ (a' := ?_) ?_ ?_
                      rotate_left
                      · show Act.put _ (some 33) _ = _
                        simp only [Act.put, List.setIfInBounds_toArray, List.set_cons_zero, List.set_cons_succ, i64_w, i32_w]
                        rfl
                      refine pure_ (i := 6) (N := some 27) (v := ?_) (a' := ?_) #[true, true, true, true, true, true, true, false, false, true, false, false] rfl rfl (any_of HT_.out (by kernel_rfl)) (fun _ _ _ h => h) (Or.inl ⟨by rfl, ?_⟩) ?_ ?_
                      rotate_left
                      · intro w'
                        go_simp
                        with_reducible rfl
                      rotate_left
                      · simp only [Act.put, List.setIfInBounds_toArray, List.set_cons_zero, List.set_cons_succ, i64_w, i32_w]
                        rfl
                      refine pure_ (i := 7) (N := some 34) (v := ?_) (a' := ?_) #[true, true, true, true, true, true, true, true, false, true, false, false] rfl rfl (any_of HT_.out (by kernel_rfl)) (fun _ _ _ h => h) (Or.inl ⟨by rfl, ?_⟩) ?_ ?_
                      rotate_left
                      · intro w'
                        go_simp
                        with_reducible rfl
                      rotate_left
                      · simp only [Act.put, List.setIfInBounds_toArray, List.set_cons_zero, List.set_cons_succ, i64_w, i32_w]
                        rfl
                      refine pure_ (i := 8) (N := some 35) (v := ?_) (a' := ?_) #[true, true, true, true, true, true, true, true, true, true, false, false] rfl rfl (any_of HT_.out (by kernel_rfl)) (fun _ _ _ h => h) (Or.inl ⟨by rfl, ?_⟩) ?_ ?_
                      rotate_left
                      · intro w'
                        go_simp
                        with_reducible rfl
                      rotate_left
                      · simp only [Act.put, List.setIfInBounds_toArray, List.set_cons_zero, List.set_cons_succ, i64_w, i32_w]
                        rfl
                      exact norm_ (by simp only [putAll, Act.put, List.setIfInBounds_toArray, List.set_cons_zero, List.set_cons_succ]) (hCont (.slice Ao42 t206.length co42, v211, gb214) _ ⟨hHeld, (by (with_reducible repeat (first | apply Kd.R_alloc | apply Kd.R_drewN | apply Kd.R_drew)); exact Kd.R_mono HO208.out (fun _ hk => hk.2)), (by (with_reducible repeat (first | apply Kd.R_alloc | apply Kd.R_drewN | apply Kd.R_drew)); exact Kd.R_mono HO212.out (fun _ hk => hk.2)), (by (with_reducible repeat (first | refine blk_drewN ?_ _ | refine blk_drew ?_ | refine blk_alloc ?_ _)); exact BK201.out), (by (with_reducible repeat (first | refine blk_drewN ?_ _ | refine blk_drew ?_ | refine blk_alloc ?_ _)); exact BK202.out), (by (with_reducible repeat (first | refine blk_drewN ?_ _ | refine blk_drew ?_ | refine blk_alloc ?_ _)); exact BK214.out), GW214.out, GE214.out, NB201_214.out, NB214_201.out, NB202_214.out, NB214_202.out, (by repeat (first | (with_reducible first | exact HB.out | apply below_alloc | apply pw_below_drewN | apply below_drew1 | refine below_set ?_ GE201.out | refine below_set ?_ GE202.out | refine below_set ?_ GE214.out) | exact HB.out))⟩)
                  · skip
                    refine box_step ?hg (N := 9) ?hd (cs := #[.int .i64 0, .slice none 0 0]) (t := 24) ?hr ?_; (case hd => rfl); (case hg => rfl); (case hr => first | (go_simp; done) | (go_simp; rfl))
                    intro gb214 hg w40 hbox hb
                    have n0_ := Aside0.mk (blk_below (g := gb201) (o := .cells #[.int .i64 a0_0, .slice A0_1 l0_1.length c0_1] 24 (0, 0)) (by (with_reducible repeat (first | refine blk_drewN ?_ _ | refine blk_drew ?_ | refine blk_alloc ?_ _)); exact BK201.out) hb)
                    have n1_ := Aside0.mk (blk_below (g := gb202) (o := .cells #[.bool a3_0, .string a3_1] 26 (0, 0)) (by (with_reducible repeat (first | refine blk_drewN ?_ _ | refine blk_drew ?_ | refine blk_alloc ?_ _)); exact BK202.out) hb)
                    have n2_ := Aside0.mk (below_step (by repeat (first | (with_reducible first | exact HB.out | apply below_alloc | apply pw_below_drewN | apply below_drew1 | refine below_set ?_ GE201.out | refine below_set ?_ GE202.out) | exact HB.out)) hb)
                    have n3_ := Aside0.mk (hbox)
                    have n4_ := Aside0.mk ((by rw [hg]; exact (below_size (by repeat (first | (with_reducible first | exact HB.out | apply below_alloc | apply pw_below_drewN | apply below_drew1 | refine below_set ?_ GE201.out | refine below_set ?_ GE202.out) | exact HB.out))) : w.heap.size ≤ gb214))
                    have n5_ := Aside0.mk ((by rw [hg]; exact (below_size (by repeat (first | (with_reducible first | exact HB.out | apply below_alloc | apply pw_below_drewN | apply below_drew1 | refine below_set ?_ GE201.out | refine below_set ?_ GE202.out) | exact HB.out))) : w.heap.size ≤ gb214))
                    have n6_ := Aside0.mk ((by rw [hg]; exact Nat.ne_of_lt (blk_lt (g := gb201) (o := .cells #[.int .i64 a0_0, .slice A0_1 l0_1.length c0_1] 24 (0, 0)) (by (with_reducible repeat (first | refine blk_drewN ?_ _ | refine blk_drew ?_ | refine blk_alloc ?_ _)); exact BK201.out)) : gb201 ≠ gb214))
                    have n7_ := Aside0.mk ((by rw [hg]; exact Nat.ne_of_gt (blk_lt (g := gb201) (o := .cells #[.int .i64 a0_0, .slice A0_1 l0_1.length c0_1] 24 (0, 0)) (by (with_reducible repeat (first | refine blk_drewN ?_ _ | refine blk_drew ?_ | refine blk_alloc ?_ _)); exact BK201.out)) : gb214 ≠ gb201))
                    have n8_ := Aside0.mk ((by rw [hg]; exact Nat.ne_of_lt (blk_lt (g := gb202) (o := .cells #[.bool a3_0, .string a3_1] 26 (0, 0)) (by (with_reducible repeat (first | refine blk_drewN ?_ _ | refine blk_drew ?_ | refine blk_alloc ?_ _)); exact BK202.out)) : gb202 ≠ gb214))
                    have n9_ := Aside0.mk ((by rw [hg]; exact Nat.ne_of_gt (blk_lt (g := gb202) (o := .cells #[.bool a3_0, .string a3_1] 26 (0, 0)) (by (with_reducible repeat (first | refine blk_drewN ?_ _ | refine blk_drew ?_ | refine blk_alloc ?_ _)); exact BK202.out)) : gb214 ≠ gb202))
                    clear BK201
                    clear BK202
                    clear HB
                    have BK201 := n0_
                    have BK202 := n1_
                    have HB := n2_
                    have BK214 := n3_
                    have GW214 := n4_
                    have GE214 := n5_
                    have NB201_214 := n6_
                    have NB214_201 := n7_
                    have NB202_214 := n8_
                    have NB214_202 := n9_
                    clear n0_ n1_ n2_ n3_ n4_ n5_ n6_ n7_ n8_ n9_
                    clear hb hbox hg
                    refine hK.out _ _ ⟨(blk_cell BK201.out 0).trans rfl, (blk_cell BK201.out 1).trans rfl, (blk_cell BK202.out 0).trans rfl, (blk_cell BK202.out 1).trans rfl⟩ (fun hHeld => ?_)
                    clear hK K
                    refine norm_ (a' := ?_) ?_ ?_
                    rotate_left
                    · show Act.put _ (some 9) _ = _
                      simp only [Act.put, List.setIfInBounds_toArray, List.set_cons_zero, List.set_cons_succ, i64_w, i32_w]
                      rfl
                    refine one_ (i := 1) (N := some 29) #[true, true, true, true, true, false, false, false, false, true, false, false] rfl rfl (one_of HT_.out (by kernel_rfl)) (by decide) (fun K hK => ?_)
                    refine goes_ Try.func7 (by kernel_rfl) rfl #[.agg #[.int .i64 a0_0, .slice A0_1 l0_1.length c0_1]] (by rfl) rfl rfl (by (try simp only [List.map_toArray, List.map_cons, List.map_nil]); first | done | rfl | (simp only [List.length_drop, List.length_take]; rfl)) ?_
                    with_reducible refine (trothref10_Copy.calls a0_0 _ _ l0_1 t205 t206 _ ?side1 ?side2 A24.out).mono ?_
                    (case side1 => repeat (first | exact (Kd.C_below HR0_1.out HB.out) | (with_reducible refine Kd.C_alloc ?_ _) | (with_reducible refine Kd.C_drewN ?_ _) | (with_reducible refine Kd.C_drew ?_)))
                    (case side2 => exact HC0_1.out)
                    rintro e w41 ⟨v207, rfl, ho0, hb⟩
                    refine ⟨_, rfl, ?_⟩
                    have n0_ := Aside0.mk (Kd.R_lower ho0 (below_size (by repeat (first | (with_reducible first | exact HB.out | apply below_alloc | apply pw_below_drewN | apply below_drew1 | refine below_set ?_ GE201.out | refine below_set ?_ GE202.out | refine below_set ?_ GE214.out) | exact HB.out))))
                    have n1_ := Aside0.mk (blk_below (g := gb201) (o := .cells #[.int .i64 a0_0, .slice A0_1 l0_1.length c0_1] 24 (0, 0)) (by (with_reducible repeat (first | refine blk_drewN ?_ _ | refine blk_drew ?_ | refine blk_alloc ?_ _)); exact BK201.out) hb)
                    have n2_ := Aside0.mk (blk_below (g := gb202) (o := .cells #[.bool a3_0, .string a3_1] 26 (0, 0)) (by (with_reducible repeat (first | refine blk_drewN ?_ _ | refine blk_drew ?_ | refine blk_alloc ?_ _)); exact BK202.out) hb)
                    have n3_ := Aside0.mk (blk_below (g := gb214) (o := .cells #[.int .i64 0, .slice none 0 0] 24 (0, 0)) (by (with_reducible repeat (first | refine blk_drewN ?_ _ | refine blk_drew ?_ | refine blk_alloc ?_ _)); exact BK214.out) hb)
                    have n4_ := Aside0.mk (below_step (by repeat (first | (with_reducible first | exact HB.out | apply below_alloc | apply pw_below_drewN | apply below_drew1 | refine below_set ?_ GE201.out | refine below_set ?_ GE202.out | refine below_set ?_ GE214.out) | exact HB.out)) hb)
                    clear BK201
                    clear BK202
                    clear BK214
                    clear HB
                    have HO208 := n0_
                    have BK201 := n1_
                    have BK202 := n2_
                    have BK214 := n3_
                    have HB := n4_
                    clear n0_ n1_ n2_ n3_ n4_
                    (try clear hb)
                    (try clear hb2)
                    (try clear hk)
                    (try clear hi)
                    (try clear ho0)
                    obtain ⟨Ao42, co42, eo42⟩ := Kd.R_slice HO208.out
                    (first | subst eo42 | (injection eo42 with f1_ f2_ f3_; have f4_ := f1_.symm; have f5_ := f3_.symm; clear f1_ f2_ f3_; subst f4_; subst f5_))
                    refine hK.out _ _ ⟨(blk_cell BK201.out 0).trans rfl, (blk_cell BK201.out 1).trans rfl, (blk_cell BK202.out 0).trans rfl, (blk_cell BK202.out 1).trans rfl⟩ (fun hHeld => ?_)
                    clear hK K
                    refine norm_ (a' := ?_) ?_ ?_
                    rotate_left
                    · show Act.put _ (some 29) _ = _
                      simp only [Act.put, List.setIfInBounds_toArray, List.set_cons_zero, List.set_cons_succ, i64_w, i32_w]
                      rfl
                    refine one_ (i := 5) (N := some 33) #[true, true, true, true, true, true, false, false, false, true, false, false] rfl rfl (one_of HT_.out (by kernel_rfl)) (by decide) (fun K hK => ?_)
                    refine goes_ Try.func6 (by kernel_rfl) rfl #[.agg #[.int .i64 t205, .slice Ao42 t206.length co42], .int .i64 a1, .string a2, .agg #[.bool a3_0, .string a3_1]] (by rfl) rfl rfl (by (try simp only [List.map_toArray, List.map_cons, List.map_nil]); first | done | rfl | (simp only [List.length_drop, List.length_take]; rfl)) ?_
                    with_reducible refine (page_Set.calls kj4 t205 _ _ t206 a1 a2 a3_0 a3_1 t209 t210 t213 _ ?side1 ?side2 A25.out).mono ?_
                    (case side1 => repeat (first | exact (Kd.R_reads' HO208.out).2.2 | (with_reducible refine Kd.C_alloc ?_ _) | (with_reducible refine Kd.C_drewN ?_ _) | (with_reducible refine Kd.C_drew ?_)))
                    (case side2 => exact (Kd.R_reads' HO208.out).2.1)
                    rintro e w43 ⟨v211, rfl, ho0, hb⟩
                    refine ⟨_, rfl, ?_⟩
                    have n0_ := Aside0.mk (Kd.R_elder' (by (with_reducible repeat (first | apply Kd.R_alloc | apply Kd.R_drewN | apply Kd.R_drew)); exact HO208.out) (Kd.R_base ho0) hb)
                    have n1_ := Aside0.mk (Kd.R_lower (Kd.R_new' ho0 (Kd.R_lt (by (with_reducible repeat (first | apply Kd.R_alloc | apply Kd.R_drewN | apply Kd.R_drew)); exact HO208.out))) (below_size (by repeat (first | (with_reducible first | exact HB.out | apply below_alloc | apply pw_below_drewN | apply below_drew1 | refine below_set ?_ GE201.out | refine below_set ?_ GE202.out | refine below_set ?_ GE214.out) | exact HB.out))))
                    have n2_ := Aside0.mk (blk_below (g := gb201) (o := .cells #[.int .i64 a0_0, .slice A0_1 l0_1.length c0_1] 24 (0, 0)) (by (with_reducible repeat (first | refine blk_drewN ?_ _ | refine blk_drew ?_ | refine blk_alloc ?_ _)); exact BK201.out) hb)
                    have n3_ := Aside0.mk (blk_below (g := gb202) (o := .cells #[.bool a3_0, .string a3_1] 26 (0, 0)) (by (with_reducible repeat (first | refine blk_drewN ?_ _ | refine blk_drew ?_ | refine blk_alloc ?_ _)); exact BK202.out) hb)
                    have n4_ := Aside0.mk (blk_below (g := gb214) (o := .cells #[.int .i64 0, .slice none 0 0] 24 (0, 0)) (by (with_reducible repeat (first | refine blk_drewN ?_ _ | refine blk_drew ?_ | refine blk_alloc ?_ _)); exact BK214.out) hb)
                    have n5_ := Aside0.mk (below_step (by repeat (first | (with_reducible first | exact HB.out | apply below_alloc | apply pw_below_drewN | apply below_drew1 | refine below_set ?_ GE201.out | refine below_set ?_ GE202.out | refine below_set ?_ GE214.out) | exact HB.out)) hb)
                    clear HO208
                    clear BK201
                    clear BK202
                    clear BK214
                    clear HB
                    have HO208 := n0_
                    have HO212 := n1_
                    have BK201 := n2_
                    have BK202 := n3_
                    have BK214 := n4_
                    have HB := n5_
                    clear n0_ n1_ n2_ n3_ n4_ n5_
                    (try clear hb)
                    (try clear hb2)
                    (try clear hk)
                    (try clear hi)
                    (try clear ho0)
                    refine hK.out _ _ ⟨(blk_cell BK201.out 0).trans rfl, (blk_cell BK201.out 1).trans rfl, (blk_cell BK202.out 0).trans rfl, (blk_cell BK202.out 1).trans rfl⟩ (fun hHeld => ?_)
                    clear hK K
                    refine norm_ (a' := ?_) ?_ ?_
                    rotate_left
                    · show Act.put _ (some 33) _ = _
                      simp only [Act.put, List.setIfInBounds_toArray, List.set_cons_zero, List.set_cons_succ, i64_w, i32_w]
                      rfl
                    refine pure_ (i := 6) (N := some 27) (v := ?_) (a' := ?_) #[true, true, true, true, true, true, true, false, false, true, false, false] rfl rfl (any_of HT_.out (by kernel_rfl)) (fun _ _ _ h => h) (Or.inl ⟨by rfl, ?_⟩) ?_ ?_
                    rotate_left
                    · intro w'
                      go_simp
                      with_reducible rfl
                    rotate_left
                    · simp only [Act.put, List.setIfInBounds_toArray, List.set_cons_zero, List.set_cons_succ, i64_w, i32_w]
                      rfl
                    refine pure_ (i := 7) (N := some 34) (v := ?_) (a' := ?_) #[true, true, true, true, true, true, true, true, false, true, false, false] rfl rfl (any_of HT_.out (by kernel_rfl)) (fun _ _ _ h => h) (Or.inl ⟨by rfl, ?_⟩) ?_ ?_
                    rotate_left
                    · intro w'
                      go_simp
                      with_reducible rfl
                    rotate_left
                    · simp only [Act.put, List.setIfInBounds_toArray, List.set_cons_zero, List.set_cons_succ, i64_w, i32_w]
                      rfl
                    refine pure_ (i := 8) (N := some 35) (v := ?_) (a' := ?_) #[true, true, true, true, true, true, true, true, true, true, false, false] rfl rfl (any_of HT_.out (by kernel_rfl)) (fun _ _ _ h => h) (Or.inl ⟨by rfl, ?_⟩) ?_ ?_
                    rotate_left
                    · intro w'
                      go_simp
                      with_reducible rfl
                    rotate_left
                    · simp only [Act.put, List.setIfInBounds_toArray, List.set_cons_zero, List.set_cons_succ, i64_w, i32_w]
                      rfl
                    exact norm_ (by simp only [putAll, Act.put, List.setIfInBounds_toArray, List.set_cons_zero, List.set_cons_succ]) (hCont (.slice Ao42 t206.length co42, v211, gb214) _ ⟨hHeld, (by (with_reducible repeat (first | apply Kd.R_alloc | apply Kd.R_drewN | apply Kd.R_drew)); exact Kd.R_mono HO208.out (fun _ hk => hk.2)), (by (with_reducible repeat (first | apply Kd.R_alloc | apply Kd.R_drewN | apply Kd.R_drew)); exact Kd.R_mono HO212.out (fun _ hk => hk.2)), (by (with_reducible repeat (first | refine blk_drewN ?_ _ | refine blk_drew ?_ | refine blk_alloc ?_ _)); exact BK201.out), (by (with_reducible repeat (first | refine blk_drewN ?_ _ | refine blk_drew ?_ | refine blk_alloc ?_ _)); exact BK202.out), (by (with_reducible repeat (first | refine blk_drewN ?_ _ | refine blk_drew ?_ | refine blk_alloc ?_ _)); exact BK214.out), GW214.out, GE214.out, NB201_214.out, NB214_201.out, NB202_214.out, NB214_202.out, (by repeat (first | (with_reducible first | exact HB.out | apply below_alloc | apply pw_below_drewN | apply below_drew1 | refine below_set ?_ GE201.out | refine below_set ?_ GE202.out | refine below_set ?_ GE214.out) | exact HB.out))⟩)
                rintro ⟨v207, v211, gb214⟩ w44 ⟨hS_, h0_, h1_, h2_, h3_, h4_, h5_, h6_, h7_, h8_, h9_, h10_, h11_⟩
                have n0_ : Aside0 (Kd.R k40 40 w44 w.heap.size (fun k_ => some k_ ≠ (v211 : Value).ownBlock) v207 t206) := ⟨h0_⟩
                have n1_ : Aside0 (Kd.R k40 40 w44 w.heap.size (fun k_ => some k_ ≠ (v207 : Value).ownBlock) v211 t210) := ⟨h1_⟩
                have n2_ : Aside0 (w44.heap[gb201]? = some (.cells #[.int .i64 a0_0, .slice A0_1 l0_1.length c0_1] 24 (0, 0))) := ⟨h2_⟩
                have n3_ : Aside0 (w44.heap[gb202]? = some (.cells #[.bool a3_0, .string a3_1] 26 (0, 0))) := ⟨h3_⟩
                have n4_ : Aside0 (w44.heap[gb214]? = some (.cells #[.int .i64 0, .slice none 0 0] 24 (0, 0))) := ⟨h4_⟩
                have n5_ : Aside0 (w.heap.size ≤ gb214) := ⟨h5_⟩
                have n6_ : Aside0 (w.heap.size ≤ gb214) := ⟨h6_⟩
                have n7_ : Aside0 (gb201 ≠ gb214) := ⟨h7_⟩
                have n8_ : Aside0 (gb214 ≠ gb201) := ⟨h8_⟩
                have n9_ : Aside0 (gb202 ≠ gb214) := ⟨h9_⟩
                have n10_ : Aside0 (gb214 ≠ gb202) := ⟨h10_⟩
                have n11_ : Aside0 (Below w.heap.size w w44) := ⟨h11_⟩
                clear BK201
                clear BK202
                clear HB
                clear h0_ h1_ h2_ h3_ h4_ h5_ h6_ h7_ h8_ h9_ h10_ h11_
                have HO208 := n0_
                have HO212 := n1_
                have BK201 := n2_
                have BK202 := n3_
                have BK214 := n4_
                have GW214 := n5_
                have GE214 := n6_
                have NB201_214 := n7_
                have NB214_201 := n8_
                have NB202_214 := n9_
                have NB214_202 := n10_
                have HB := n11_
                clear n0_ n1_ n2_ n3_ n4_ n5_ n6_ n7_ n8_ n9_ n10_ n11_
                have hHeld : w44.cell? ⟨gb201, 0, none⟩ = some (.int .i64 a0_0) ∧ w44.cell? ⟨gb201, 1, none⟩ = some (.slice A0_1 l0_1.length c0_1) ∧ w44.cell? ⟨gb202, 0, none⟩ = some (.bool a3_0) ∧ w44.cell? ⟨gb202, 1, none⟩ = some (.string a3_1) := hS_
                obtain ⟨Ao46, co46, eo46⟩ := Kd.R_slice HO212.out
                (first | subst eo46 | (injection eo46 with f1_ f2_ f3_; have f4_ := f1_.symm; have f5_ := f3_.symm; clear f1_ f2_ f3_; subst f4_; subst f5_))
                refine norm_ (a' := ?_) ?_ ?_
                rotate_left
                · simp only [putAll, Act.put, List.setIfInBounds_toArray, List.set_cons_zero, List.set_cons_succ]
                  rfl
                refine one_ (i := 10) (N := none) #[true, true, true, true, true, true, true, true, true, true, true, false] rfl rfl (one_of HT_.out (by kernel_rfl)) (by decide) (fun K hK => ?_)
                have hs45 : w44.cell? ⟨gb214, 0, none⟩ = some (.int .i64 0) := (blk_cell BK214.out 0).trans rfl
                have hfs45 := blk_frozen BK214.out 0
                have hns45_0 := NB201_214.out
                have hns45_1 := NB202_214.out
                have hms45_0 := NB214_201.out
                have hms45_1 := NB214_202.out
                have hs47 : w44.cell? ⟨gb214, 1, none⟩ = some (.slice none 0 0) := (blk_cell BK214.out 1).trans rfl
                have hfs47 := blk_frozen BK214.out 1
                have hns47_0 := NB201_214.out
                have hns47_1 := NB202_214.out
                have hms47_0 := NB214_201.out
                have hms47_1 := NB214_202.out
                refine skip_ (w1 := ?_) (by rfl) rfl ?_ ?_
                rotate_left
                · go_simp
                  rfl
                refine hK.out _ _ ⟨((cell_far (p := ⟨gb214, _, none⟩) NB201_214.out _).trans (((cell_far (p := ⟨gb214, _, none⟩) NB201_214.out _).trans (hHeld.1)))), ((cell_far (p := ⟨gb214, _, none⟩) NB201_214.out _).trans (((cell_far (p := ⟨gb214, _, none⟩) NB201_214.out _).trans (hHeld.2.1)))), ((cell_far (p := ⟨gb214, _, none⟩) NB202_214.out _).trans (((cell_far (p := ⟨gb214, _, none⟩) NB202_214.out _).trans (hHeld.2.2.1)))), ((cell_far (p := ⟨gb214, _, none⟩) NB202_214.out _).trans (((cell_far (p := ⟨gb214, _, none⟩) NB202_214.out _).trans (hHeld.2.2.2))))⟩ (fun hHeld => ?_)
                clear hK K
                refine pure_ (i := 11) (N := some 10) (v := ?_) (a' := ?_) #[true, true, true, true, true, true, true, true, true, true, true, true] rfl rfl (any_of HT_.out (by kernel_rfl)) (fun _ _ _ h => h) (Or.inl ⟨by rfl, ?_⟩) ?_ ?_
                rotate_left
                · intro w'
                  go_simp
                  with_reducible rfl
                rotate_left
                · simp only [Act.put, List.setIfInBounds_toArray, List.set_cons_zero, List.set_cons_succ, i64_w, i32_w]
                  rfl
                refine done_ (done_of HT_.out (by kernel_rfl)) ?_
                have hnb48 := NB201_202.out
                have hnc48 := NB202_201.out
                have hnb49 := NB201_214.out
                have hnc49 := NB214_201.out
                have hcz50_0 : w44.cell? ⟨gb201, 0, none⟩ = some (.int .i64 a0_0) := (blk_cell BK201.out 0).trans rfl
                have hcz50_1 : w44.cell? ⟨gb201, 1, none⟩ = some (.slice A0_1 l0_1.length c0_1) := (blk_cell BK201.out 1).trans rfl
                have hfz50_0 := blk_frozen BK201.out 0
                have hfz50_1 := blk_frozen BK201.out 1
                have hnb51 := NB202_214.out
                have hnc51 := NB214_202.out
                have hcz52_0 : w44.cell? ⟨gb202, 0, none⟩ = some (.bool a3_0) := (blk_cell BK202.out 0).trans rfl
                have hcz52_1 : w44.cell? ⟨gb202, 1, none⟩ = some (.string a3_1) := (blk_cell BK202.out 1).trans rfl
                have hfz52_0 := blk_frozen BK202.out 0
                have hfz52_1 := blk_frozen BK202.out 1
                try go_wp2_with (first | ((with_reducible refine gate_callee (f := 8) rfl ?_); refine goesL_ (some 41) rfl rfl Try.func8 (by kernel_rfl) rfl #[.agg #[.int .i64 a0_0, .slice A0_1 l0_1.length c0_1], .int .i64 a1, .string a2, .agg #[.bool a3_0, .string a3_1]] rfl (by (try simp only [List.map_toArray, List.map_cons, List.map_nil]); first | done | rfl | (simp only [List.length_drop, List.length_take]; rfl)) ?_; (with_reducible refine (trothref10_Set.calls kj4 a0_0 _ _ l0_1 a1 a2 a3_0 a3_1 t215 t216 t219 _ ?side1 ?side2 A26.out).mono ?_); (case side1 => exact Kd.C_below HR0_1.out (by repeat (first | (with_reducible first | exact HB.out | apply below_alloc | apply pw_below_drewN | apply below_drew1 | refine below_set ?_ GE201.out | refine below_set ?_ GE202.out | refine below_set ?_ GE214.out) | exact HB.out))); (case side2 => exact HC0_1.out); rintro e w53 ⟨v217, rfl, ho0, hb⟩; refine ⟨_, rfl, ?_⟩; have n0_ := Aside0.mk (Kd.R_elder' (by (with_reducible repeat (first | apply Kd.R_alloc | apply Kd.R_drewN | apply Kd.R_drew)); exact (Kd.R_mono (Kd.R_far (p := ⟨gb214, 1, none⟩) (Kd.R_far (p := ⟨gb214, 0, none⟩) (Kd.R_types HO208.out BK214.out (by decide)) (fun _ hk => hk.2) (.int .i64 t209)) (fun _ hk => hk.2) (.slice Ao46 t210.length co46)) (fun _ h_ => h_.1))) (Kd.R_base ho0) hb); have n1_ := Aside0.mk (Kd.R_elder' (by (with_reducible repeat (first | apply Kd.R_alloc | apply Kd.R_drewN | apply Kd.R_drew)); exact (Kd.R_mono (Kd.R_far (p := ⟨gb214, 1, none⟩) (Kd.R_far (p := ⟨gb214, 0, none⟩) (Kd.R_types HO212.out BK214.out (by decide)) (fun _ hk => hk.2) (.int .i64 t209)) (fun _ hk => hk.2) (.slice Ao46 t210.length co46)) (fun _ h_ => h_.1))) (Kd.R_base ho0) hb); have n2_ := Aside0.mk (Kd.R_lower (Kd.R_new' (Kd.R_new' ho0 (Kd.R_lt (by (with_reducible repeat (first | apply Kd.R_alloc | apply Kd.R_drewN | apply Kd.R_drew)); exact (Kd.R_mono (Kd.R_far (p := ⟨gb214, 1, none⟩) (Kd.R_far (p := ⟨gb214, 0, none⟩) (Kd.R_types HO208.out BK214.out (by decide)) (fun _ hk => hk.2) (.int .i64 t209)) (fun _ hk => hk.2) (.slice Ao46 t210.length co46)) (fun _ h_ => h_.1))))) (Kd.R_lt (by (with_reducible repeat (first | apply Kd.R_alloc | apply Kd.R_drewN | apply Kd.R_drew)); exact (Kd.R_mono (Kd.R_far (p := ⟨gb214, 1, none⟩) (Kd.R_far (p := ⟨gb214, 0, none⟩) (Kd.R_types HO212.out BK214.out (by decide)) (fun _ hk => hk.2) (.int .i64 t209)) (fun _ hk => hk.2) (.slice Ao46 t210.length co46)) (fun _ h_ => h_.1))))) (below_size (by repeat (first | (with_reducible first | exact HB.out | apply below_alloc | apply pw_below_drewN | apply below_drew1 | refine below_set ?_ GE201.out | refine below_set ?_ GE202.out | refine below_set ?_ GE214.out) | exact HB.out)))); have n3_ := Aside0.mk (blk_below (g := gb201) (o := .cells #[.int .i64 a0_0, .slice A0_1 l0_1.length c0_1] 24 (0, 0)) (by (with_reducible repeat (first | refine blk_drewN ?_ _ | refine blk_drew ?_ | refine blk_alloc ?_ _)); refine blk_far ?_ NB201_214.out _; (with_reducible repeat (first | refine blk_drewN ?_ _ | refine blk_drew ?_ | refine blk_alloc ?_ _)); refine blk_far ?_ NB201_214.out _; (with_reducible repeat (first | refine blk_drewN ?_ _ | refine blk_drew ?_ | refine blk_alloc ?_ _)); exact BK201.out) hb); have n4_ := Aside0.mk (blk_below (g := gb202) (o := .cells #[.bool a3_0, .string a3_1] 26 (0, 0)) (by (with_reducible repeat (first | refine blk_drewN ?_ _ | refine blk_drew ?_ | refine blk_alloc ?_ _)); refine blk_far ?_ NB202_214.out _; (with_reducible repeat (first | refine blk_drewN ?_ _ | refine blk_drew ?_ | refine blk_alloc ?_ _)); refine blk_far ?_ NB202_214.out _; (with_reducible repeat (first | refine blk_drewN ?_ _ | refine blk_drew ?_ | refine blk_alloc ?_ _)); exact BK202.out) hb); have n5_ := Aside0.mk (blk_below (g := gb214) (o := .cells #[.int .i64 t209, .slice Ao46 t210.length co46] 24 (0, 0)) (by (with_reducible repeat (first | refine blk_drewN ?_ _ | refine blk_drew ?_ | refine blk_alloc ?_ _)); refine blk_put (cs := #[.int .i64 t209, .slice none 0 0]) ?_ 1 _ rfl; (with_reducible repeat (first | refine blk_drewN ?_ _ | refine blk_drew ?_ | refine blk_alloc ?_ _)); refine blk_put (cs := #[.int .i64 0, .slice none 0 0]) ?_ 0 _ rfl; (with_reducible repeat (first | refine blk_drewN ?_ _ | refine blk_drew ?_ | refine blk_alloc ?_ _)); exact BK214.out) hb); have n6_ := Aside0.mk (below_step (by repeat (first | (with_reducible first | exact HB.out | apply below_alloc | apply pw_below_drewN | apply below_drew1 | refine below_set ?_ GE201.out | refine below_set ?_ GE202.out | refine below_set ?_ GE214.out) | exact HB.out)) hb); clear HO208; clear HO212; clear BK201; clear BK202; clear BK214; clear HB; have HO208 := n0_; have HO212 := n1_; have HO218 := n2_; have BK201 := n3_; have BK202 := n4_; have BK214 := n5_; have HB := n6_; clear n0_ n1_ n2_ n3_ n4_ n5_ n6_; (try clear hb); (try clear hb2); (try clear hk); (try clear hi); (try clear ho0)) | ((with_reducible refine gate_dst (N := 11) rfl ?_); (try (refine gate_guard (by rfl) ?_; dsimp only)); refine box_event ?hg (N := 11) ?hd (cs := #[.int .i64 0, .slice none 0 0]) (t := 24) ?hr ?_; (case hd => rfl); (case hg => rfl); (case hr => first | (go_simp; done) | (go_simp; rfl)); intro gb220 hg w54 hbox hb; have n0_ := Aside0.mk (Kd.R_below (by (with_reducible repeat (first | apply Kd.R_alloc | apply Kd.R_drewN | apply Kd.R_drew)); exact HO208.out) hb); have n1_ := Aside0.mk (Kd.R_below (by (with_reducible repeat (first | apply Kd.R_alloc | apply Kd.R_drewN | apply Kd.R_drew)); exact HO212.out) hb); have n2_ := Aside0.mk (Kd.R_below (by (with_reducible repeat (first | apply Kd.R_alloc | apply Kd.R_drewN | apply Kd.R_drew)); exact HO218.out) hb); have n3_ := Aside0.mk (blk_below (g := gb201) (o := .cells #[.int .i64 a0_0, .slice A0_1 l0_1.length c0_1] 24 (0, 0)) (by (with_reducible repeat (first | refine blk_drewN ?_ _ | refine blk_drew ?_ | refine blk_alloc ?_ _)); exact BK201.out) hb); have n4_ := Aside0.mk (blk_below (g := gb202) (o := .cells #[.bool a3_0, .string a3_1] 26 (0, 0)) (by (with_reducible repeat (first | refine blk_drewN ?_ _ | refine blk_drew ?_ | refine blk_alloc ?_ _)); exact BK202.out) hb); have n5_ := Aside0.mk (blk_below (g := gb214) (o := .cells #[.int .i64 t209, .slice Ao46 t210.length co46] 24 (0, 0)) (by (with_reducible repeat (first | refine blk_drewN ?_ _ | refine blk_drew ?_ | refine blk_alloc ?_ _)); exact BK214.out) hb); have n6_ := Aside0.mk (below_step (by repeat (first | (with_reducible first | exact HB.out | apply below_alloc | apply pw_below_drewN | apply below_drew1 | refine below_set ?_ GE201.out | refine below_set ?_ GE202.out | refine below_set ?_ GE214.out) | exact HB.out)) hb); have n7_ := Aside0.mk (hbox); have n8_ := Aside0.mk ((by rw [hg]; exact (below_size (by repeat (first | (with_reducible first | exact HB.out | apply below_alloc | apply pw_below_drewN | apply below_drew1 | refine below_set ?_ GE201.out | refine below_set ?_ GE202.out | refine below_set ?_ GE214.out) | exact HB.out))) : w.heap.size ≤ gb220)); have n9_ := Aside0.mk ((by rw [hg]; exact (below_size (by repeat (first | (with_reducible first | exact HB.out | apply below_alloc | apply pw_below_drewN | apply below_drew1 | refine below_set ?_ GE201.out | refine below_set ?_ GE202.out | refine below_set ?_ GE214.out) | exact HB.out))) : w.heap.size ≤ gb220)); have n10_ := Aside0.mk ((by rw [hg]; exact Nat.ne_of_lt (blk_lt (g := gb201) (o := .cells #[.int .i64 a0_0, .slice A0_1 l0_1.length c0_1] 24 (0, 0)) (by (with_reducible repeat (first | refine blk_drewN ?_ _ | refine blk_drew ?_ | refine blk_alloc ?_ _)); exact BK201.out)) : gb201 ≠ gb220)); have n11_ := Aside0.mk ((by rw [hg]; exact Nat.ne_of_gt (blk_lt (g := gb201) (o := .cells #[.int .i64 a0_0, .slice A0_1 l0_1.length c0_1] 24 (0, 0)) (by (with_reducible repeat (first | refine blk_drewN ?_ _ | refine blk_drew ?_ | refine blk_alloc ?_ _)); exact BK201.out)) : gb220 ≠ gb201)); have n12_ := Aside0.mk ((by rw [hg]; exact Nat.ne_of_lt (blk_lt (g := gb202) (o := .cells #[.bool a3_0, .string a3_1] 26 (0, 0)) (by (with_reducible repeat (first | refine blk_drewN ?_ _ | refine blk_drew ?_ | refine blk_alloc ?_ _)); exact BK202.out)) : gb202 ≠ gb220)); have n13_ := Aside0.mk ((by rw [hg]; exact Nat.ne_of_gt (blk_lt (g := gb202) (o := .cells #[.bool a3_0, .string a3_1] 26 (0, 0)) (by (with_reducible repeat (first | refine blk_drewN ?_ _ | refine blk_drew ?_ | refine blk_alloc ?_ _)); exact BK202.out)) : gb220 ≠ gb202)); have n14_ := Aside0.mk ((by rw [hg]; exact Nat.ne_of_lt (blk_lt (g := gb214) (o := .cells #[.int .i64 t209, .slice Ao46 t210.length co46] 24 (0, 0)) (by (with_reducible repeat (first | refine blk_drewN ?_ _ | refine blk_drew ?_ | refine blk_alloc ?_ _)); exact BK214.out)) : gb214 ≠ gb220)); have n15_ := Aside0.mk ((by rw [hg]; exact Nat.ne_of_gt (blk_lt (g := gb214) (o := .cells #[.int .i64 t209, .slice Ao46 t210.length co46] 24 (0, 0)) (by (with_reducible repeat (first | refine blk_drewN ?_ _ | refine blk_drew ?_ | refine blk_alloc ?_ _)); exact BK214.out)) : gb220 ≠ gb214)); clear HO208; clear HO212; clear HO218; clear BK201; clear BK202; clear BK214; clear HB; have HO208 := n0_; have HO212 := n1_; have HO218 := n2_; have BK201 := n3_; have BK202 := n4_; have BK214 := n5_; have HB := n6_; have BK220 := n7_; have GW220 := n8_; have GE220 := n9_; have NB201_220 := n10_; have NB220_201 := n11_; have NB202_220 := n12_; have NB220_202 := n13_; have NB214_220 := n14_; have NB220_214 := n15_; clear n0_ n1_ n2_ n3_ n4_ n5_ n6_ n7_ n8_ n9_ n10_ n11_ n12_ n13_ n14_ n15_; clear hb hbox hg; have hnb55 := NB220_201.out; have hnc55 := NB201_220.out; have hnb56 := NB220_202.out; have hnc56 := NB202_220.out; have hnb57 := NB220_214.out; have hnc57 := NB214_220.out; have hcz58_0 : w54.cell? ⟨gb220, 0, none⟩ = some (.int .i64 0) := (blk_cell BK220.out 0).trans rfl; have hcz58_1 : w54.cell? ⟨gb220, 1, none⟩ = some (.slice none 0 0) := (blk_cell BK220.out 1).trans rfl; have hfz58_0 := blk_frozen BK220.out 0; have hfz58_1 := blk_frozen BK220.out 1; obtain ⟨Ao59, co59, eo59⟩ := Kd.R_slice HO218.out; subst eo59))
                have n0_ : Aside0 (Kd.R k40 40 ((w54.setCell ⟨gb220, 0, none⟩ (.int .i64 t215)).setCell ⟨gb220, 1, none⟩ (.slice Ao59 t216.length co59)) w.heap.size (fun k_ => some k_ ≠ (.slice Ao46 t210.length co46 : Value).ownBlock ∧ some k_ ≠ (.slice Ao59 t216.length co59 : Value).ownBlock) v207 t206) := ⟨by (with_reducible repeat (first | apply Kd.R_alloc | apply Kd.R_drewN | apply Kd.R_drew)); exact Kd.R_mono (Kd.R_far (p := ⟨gb220, 1, none⟩) (Kd.R_far (p := ⟨gb220, 0, none⟩) (Kd.R_types HO208.out BK220.out (by decide)) (fun _ hk => hk.2) (.int .i64 t215)) (fun _ hk => hk.2) (.slice Ao59 t216.length co59)) (fun _ hk => ⟨hk.1.1, hk.1.2⟩)⟩
                have n1_ : Aside0 (Kd.R k40 40 ((w54.setCell ⟨gb220, 0, none⟩ (.int .i64 t215)).setCell ⟨gb220, 1, none⟩ (.slice Ao59 t216.length co59)) w.heap.size (fun k_ => some k_ ≠ (v207 : Value).ownBlock ∧ some k_ ≠ (.slice Ao59 t216.length co59 : Value).ownBlock) (.slice Ao46 t210.length co46) t210) := ⟨by (with_reducible repeat (first | apply Kd.R_alloc | apply Kd.R_drewN | apply Kd.R_drew)); exact Kd.R_mono (Kd.R_far (p := ⟨gb220, 1, none⟩) (Kd.R_far (p := ⟨gb220, 0, none⟩) (Kd.R_types HO212.out BK220.out (by decide)) (fun _ hk => hk.2) (.int .i64 t215)) (fun _ hk => hk.2) (.slice Ao59 t216.length co59)) (fun _ hk => ⟨hk.1.1, hk.1.2⟩)⟩
                have n2_ : Aside0 (Kd.R k40 40 ((w54.setCell ⟨gb220, 0, none⟩ (.int .i64 t215)).setCell ⟨gb220, 1, none⟩ (.slice Ao59 t216.length co59)) w.heap.size (fun k_ => some k_ ≠ (v207 : Value).ownBlock ∧ some k_ ≠ (.slice Ao46 t210.length co46 : Value).ownBlock) (.slice Ao59 t216.length co59) t216) := ⟨by (with_reducible repeat (first | apply Kd.R_alloc | apply Kd.R_drewN | apply Kd.R_drew)); exact Kd.R_mono (Kd.R_far (p := ⟨gb220, 1, none⟩) (Kd.R_far (p := ⟨gb220, 0, none⟩) (Kd.R_types HO218.out BK220.out (by decide)) (fun _ hk => hk.2) (.int .i64 t215)) (fun _ hk => hk.2) (.slice Ao59 t216.length co59)) (fun _ hk => ⟨hk.1.1.2, hk.1.2⟩)⟩
                have n3_ : Aside0 (((w54.setCell ⟨gb220, 0, none⟩ (.int .i64 t215)).setCell ⟨gb220, 1, none⟩ (.slice Ao59 t216.length co59)).heap[gb201]? = some (.cells #[.int .i64 a0_0, .slice A0_1 l0_1.length c0_1] 24 (0, 0))) := ⟨by (with_reducible repeat (first | refine blk_drewN ?_ _ | refine blk_drew ?_ | refine blk_alloc ?_ _)); refine blk_far ?_ NB201_220.out _; (with_reducible repeat (first | refine blk_drewN ?_ _ | refine blk_drew ?_ | refine blk_alloc ?_ _)); refine blk_far ?_ NB201_220.out _; (with_reducible repeat (first | refine blk_drewN ?_ _ | refine blk_drew ?_ | refine blk_alloc ?_ _)); exact BK201.out⟩
                have n4_ : Aside0 (((w54.setCell ⟨gb220, 0, none⟩ (.int .i64 t215)).setCell ⟨gb220, 1, none⟩ (.slice Ao59 t216.length co59)).heap[gb202]? = some (.cells #[.bool a3_0, .string a3_1] 26 (0, 0))) := ⟨by (with_reducible repeat (first | refine blk_drewN ?_ _ | refine blk_drew ?_ | refine blk_alloc ?_ _)); refine blk_far ?_ NB202_220.out _; (with_reducible repeat (first | refine blk_drewN ?_ _ | refine blk_drew ?_ | refine blk_alloc ?_ _)); refine blk_far ?_ NB202_220.out _; (with_reducible repeat (first | refine blk_drewN ?_ _ | refine blk_drew ?_ | refine blk_alloc ?_ _)); exact BK202.out⟩
                have n5_ : Aside0 (((w54.setCell ⟨gb220, 0, none⟩ (.int .i64 t215)).setCell ⟨gb220, 1, none⟩ (.slice Ao59 t216.length co59)).heap[gb214]? = some (.cells #[.int .i64 t209, .slice Ao46 t210.length co46] 24 (0, 0))) := ⟨by (with_reducible repeat (first | refine blk_drewN ?_ _ | refine blk_drew ?_ | refine blk_alloc ?_ _)); refine blk_far ?_ NB214_220.out _; (with_reducible repeat (first | refine blk_drewN ?_ _ | refine blk_drew ?_ | refine blk_alloc ?_ _)); refine blk_far ?_ NB214_220.out _; (with_reducible repeat (first | refine blk_drewN ?_ _ | refine blk_drew ?_ | refine blk_alloc ?_ _)); exact BK214.out⟩
                have n6_ : Aside0 (((w54.setCell ⟨gb220, 0, none⟩ (.int .i64 t215)).setCell ⟨gb220, 1, none⟩ (.slice Ao59 t216.length co59)).heap[gb220]? = some (.cells #[.int .i64 t215, .slice Ao59 t216.length co59] 24 (0, 0))) := ⟨by (with_reducible repeat (first | refine blk_drewN ?_ _ | refine blk_drew ?_ | refine blk_alloc ?_ _)); refine blk_put (cs := #[.int .i64 t215, .slice none 0 0]) ?_ 1 _ rfl; (with_reducible repeat (first | refine blk_drewN ?_ _ | refine blk_drew ?_ | refine blk_alloc ?_ _)); refine blk_put (cs := #[.int .i64 0, .slice none 0 0]) ?_ 0 _ rfl; (with_reducible repeat (first | refine blk_drewN ?_ _ | refine blk_drew ?_ | refine blk_alloc ?_ _)); exact BK220.out⟩
                have n7_ : Aside0 (Below w.heap.size w ((w54.setCell ⟨gb220, 0, none⟩ (.int .i64 t215)).setCell ⟨gb220, 1, none⟩ (.slice Ao59 t216.length co59))) := ⟨by repeat (first | (with_reducible first | exact HB.out | apply below_alloc | apply pw_below_drewN | apply below_drew1 | refine below_set ?_ GE201.out | refine below_set ?_ GE202.out | refine below_set ?_ GE214.out | refine below_set ?_ GE220.out) | exact HB.out)⟩
                (try clear HO208)
                (try clear HO212)
                (try clear HO218)
                (try clear BK201)
                (try clear BK202)
                (try clear BK214)
                (try clear BK220)
                (try clear HB)
                generalize ((w54.setCell ⟨gb220, 0, none⟩ (.int .i64 t215)).setCell ⟨gb220, 1, none⟩ (.slice Ao59 t216.length co59)) = w60 at n0_ n1_ n2_ n3_ n4_ n5_ n6_ n7_ ⊢
                have HO208 := n0_
                have HO212 := n1_
                have HO218 := n2_
                have BK201 := n3_
                have BK202 := n4_
                have BK214 := n5_
                have BK220 := n6_
                have HB := n7_
                clear n0_ n1_ n2_ n3_ n4_ n5_ n6_ n7_
                have n0_ := Aside0.mk (Kd.R_drew HO208.out)
                have n1_ := Aside0.mk (Kd.R_drew HO212.out)
                have n2_ := Aside0.mk (Kd.R_drew HO218.out)
                have n3_ := Aside0.mk (blk_drew BK201.out)
                have n4_ := Aside0.mk (blk_drew BK202.out)
                have n5_ := Aside0.mk (blk_drew BK214.out)
                have n6_ := Aside0.mk (blk_drew BK220.out)
                have n7_ := Aside0.mk (below_drew1 HB.out)
                clear HO208
                clear HO212
                clear HO218
                clear BK201
                clear BK202
                clear BK214
                clear BK220
                clear HB
                have HO208 := n0_
                have HO212 := n1_
                have HO218 := n2_
                have BK201 := n3_
                have BK202 := n4_
                have BK214 := n5_
                have BK220 := n6_
                have HB := n7_
                clear n0_ n1_ n2_ n3_ n4_ n5_ n6_ n7_
                refine start_ (n := 32) (S := fun w' => w'.cell? ⟨gb214, 0, none⟩ = some (.int .i64 t209) ∧ w'.cell? ⟨gb214, 1, none⟩ = some (.slice Ao46 t210.length co46) ∧ w'.cell? ⟨gb220, 0, none⟩ = some (.int .i64 t215) ∧ w'.cell? ⟨gb220, 1, none⟩ = some (.slice Ao59 t216.length co59) ∧ w'.cell? ⟨gb201, 0, none⟩ = some (.int .i64 a0_0) ∧ w'.cell? ⟨gb201, 1, none⟩ = some (.slice A0_1 l0_1.length c0_1)) (ds := []) #[false, false, false, false, false, false, false, false, false, false, false, false, false, false, false, false, false, false, false, false, false, false, false, false, false, false, false, false, false, false, false, false] (by kernel_rfl) rfl rfl ⟨(blk_cell BK214.out 0).trans rfl, (blk_cell BK214.out 1).trans rfl, (blk_cell BK220.out 0).trans rfl, (blk_cell BK220.out 1).trans rfl, (blk_cell BK201.out 0).trans rfl, (blk_cell BK201.out 1).trans rfl⟩ (fun hHeld => ?_); refine with_tabW trothlaw10_PageSets.tab5 trothlaw10_PageSets.bits5 (fun HT_ HW_ => ?_)
                generalize w60.drew = w61 at HO208 HO212 HO218 BK201 BK202 BK214 BK220 HB hHeld ⊢
                refine pure_ (i := 0) (N := some 44) (v := ?_) (a' := ?_) #[true, false, false, false, false, false, false, false, false, false, false, false, false, false, false, false, false, false, false, false, false, false, false, false, false, false, false, false, false, false, false, false] rfl rfl (any_of HT_.out (by kernel_rfl)) (fun _ _ _ h => h) (Or.inl ⟨by rfl, ?_⟩) ?_ ?_
                rotate_left
                · intro w'
                  go_simp
                  with_reducible rfl
                rotate_left
                · simp only [Act.put, List.setIfInBounds_toArray, List.set_cons_zero, List.set_cons_succ, i64_w, i32_w]
                  rfl
                refine pure_ (i := 1) (N := some 45) (v := ?_) (a' := ?_) #[true, true, false, false, false, false, false, false, false, false, false, false, false, false, false, false, false, false, false, false, false, false, false, false, false, false, false, false, false, false, false, false] rfl rfl (any_of HT_.out (by kernel_rfl)) (fun _ _ _ h => h) (Or.inl ⟨by rfl, ?_⟩) ?_ ?_
                rotate_left
                · intro w'
                  go_simp
                  with_reducible rfl
                rotate_left
                · simp only [Act.put, List.setIfInBounds_toArray, List.set_cons_zero, List.set_cons_succ, i64_w, i32_w]
                  rfl
                refine pure_ (i := 2) (N := some 46) (v := ?_) (a' := ?_) #[true, true, true, false, false, false, false, false, false, false, false, false, false, false, false, false, false, false, false, false, false, false, false, false, false, false, false, false, false, false, false, false] rfl rfl (any_of HT_.out (by kernel_rfl)) (fun _ _ _ h => h) (Or.inl ⟨by rfl, ?_⟩) ?_ ?_
                rotate_left
                · intro w'
                  go_simp
                  with_reducible rfl
                rotate_left
                · simp only [Act.put, List.setIfInBounds_toArray, List.set_cons_zero, List.set_cons_succ, i64_w, i32_w]
                  rfl
                refine pure_ (i := 3) (N := some 47) (v := ?_) (a' := ?_) #[true, true, true, true, false, false, false, false, false, false, false, false, false, false, false, false, false, false, false, false, false, false, false, false, false, false, false, false, false, false, false, false] rfl rfl (any_of HT_.out (by kernel_rfl)) (fun _ _ _ h => h) (Or.inl ⟨by rfl, ?_⟩) ?_ ?_
                rotate_left
                · intro w'
                  go_simp
                  with_reducible rfl
                rotate_left
                · simp only [Act.put, List.setIfInBounds_toArray, List.set_cons_zero, List.set_cons_succ, i64_w, i32_w]
                  rfl
                refine take_ (i := 4) (N := some 48) (v := ?_) (a' := ?_) #[true, true, true, true, true, false, false, false, false, false, false, false, false, false, false, false, false, false, false, false, false, false, false, false, false, false, false, false, false, false, false, false] rfl rfl (take_ofW HT_.out HW_.out (by kernel_rfl)) (fun _ _ _ h => h) (Or.inl ⟨by rfl, ?_⟩) hHeld ?_ ?_
                rotate_left
                · rintro w' ⟨s0, s1, s2, s3, s4, s5⟩
                  go_simp
                  with_reducible rfl
                rotate_left
                · simp only [Act.put, List.setIfInBounds_toArray, List.set_cons_zero, List.set_cons_succ, i64_w, i32_w]
                  rfl
                refine take_ (i := 5) (N := some 49) (v := ?_) (a' := ?_) #[true, true, true, true, true, true, false, false, false, false, false, false, false, false, false, false, false, false, false, false, false, false, false, false, false, false, false, false, false, false, false, false] rfl rfl (take_ofW HT_.out HW_.out (by kernel_rfl)) (fun _ _ _ h => h) (Or.inl ⟨by rfl, ?_⟩) hHeld ?_ ?_
                rotate_left
                · rintro w' ⟨s0, s1, s2, s3, s4, s5⟩
                  go_simp
                  with_reducible rfl
                rotate_left
                · simp only [Act.put, List.setIfInBounds_toArray, List.set_cons_zero, List.set_cons_succ, i64_w, i32_w]
                  rfl
                refine one_ (i := 6) (N := some 50) #[true, true, true, true, true, true, true, false, false, false, false, false, false, false, false, false, false, false, false, false, false, false, false, false, false, false, false, false, false, false, false, false] rfl rfl (one_of HT_.out (by kernel_rfl)) (by decide) (fun K hK => ?_)
                refine goes_ Try.func9 (by kernel_rfl) rfl #[.agg #[.int .i64 t209, .slice Ao46 t210.length co46], .agg #[.int .i64 t215, .slice Ao59 t216.length co59]] (by rfl) rfl rfl (by (try simp only [List.map_toArray, List.map_cons, List.map_nil]); first | done | rfl | (simp only [List.length_drop, List.length_take]; rfl)) ?_
                with_reducible refine (trothref10_Same.calls kj4 t209 _ _ t210 t215 _ _ t216 true _ ?side1 ?side2 ?side3 ?side4 A28.out).mono ?_
                (case side1 => repeat (first | exact (Kd.R_reads' HO212.out).2.2 | (with_reducible refine Kd.C_alloc ?_ _) | (with_reducible refine Kd.C_drewN ?_ _) | (with_reducible refine Kd.C_drew ?_)))
                (case side2 => exact (Kd.R_reads' HO212.out).2.1)
                (case side3 => repeat (first | exact (Kd.R_reads' HO218.out).2.2 | (with_reducible refine Kd.C_alloc ?_ _) | (with_reducible refine Kd.C_drewN ?_ _) | (with_reducible refine Kd.C_drew ?_)))
                (case side4 => exact (Kd.R_reads' HO218.out).2.1)
                rintro e w62 ⟨rfl, hb⟩
                refine ⟨_, rfl, ?_⟩
                have n0_ := Aside0.mk (Kd.R_below (by (with_reducible repeat (first | apply Kd.R_alloc | apply Kd.R_drewN | apply Kd.R_drew)); exact HO208.out) hb)
                have n1_ := Aside0.mk (Kd.R_below (by (with_reducible repeat (first | apply Kd.R_alloc | apply Kd.R_drewN | apply Kd.R_drew)); exact HO212.out) hb)
                have n2_ := Aside0.mk (Kd.R_below (by (with_reducible repeat (first | apply Kd.R_alloc | apply Kd.R_drewN | apply Kd.R_drew)); exact HO218.out) hb)
                have n3_ := Aside0.mk (blk_below (g := gb201) (o := .cells #[.int .i64 a0_0, .slice A0_1 l0_1.length c0_1] 24 (0, 0)) (by (with_reducible repeat (first | refine blk_drewN ?_ _ | refine blk_drew ?_ | refine blk_alloc ?_ _)); exact BK201.out) hb)
                have n4_ := Aside0.mk (blk_below (g := gb202) (o := .cells #[.bool a3_0, .string a3_1] 26 (0, 0)) (by (with_reducible repeat (first | refine blk_drewN ?_ _ | refine blk_drew ?_ | refine blk_alloc ?_ _)); exact BK202.out) hb)
                have n5_ := Aside0.mk (blk_below (g := gb214) (o := .cells #[.int .i64 t209, .slice Ao46 t210.length co46] 24 (0, 0)) (by (with_reducible repeat (first | refine blk_drewN ?_ _ | refine blk_drew ?_ | refine blk_alloc ?_ _)); exact BK214.out) hb)
                have n6_ := Aside0.mk (blk_below (g := gb220) (o := .cells #[.int .i64 t215, .slice Ao59 t216.length co59] 24 (0, 0)) (by (with_reducible repeat (first | refine blk_drewN ?_ _ | refine blk_drew ?_ | refine blk_alloc ?_ _)); exact BK220.out) hb)
                have n7_ := Aside0.mk (below_step (by repeat (first | (with_reducible first | exact HB.out | apply below_alloc | apply pw_below_drewN | apply below_drew1 | refine below_set ?_ GE201.out | refine below_set ?_ GE202.out | refine below_set ?_ GE214.out | refine below_set ?_ GE220.out) | exact HB.out)) hb)
                clear HO208
                clear HO212
                clear HO218
                clear BK201
                clear BK202
                clear BK214
                clear BK220
                clear HB
                have HO208 := n0_
                have HO212 := n1_
                have HO218 := n2_
                have BK201 := n3_
                have BK202 := n4_
                have BK214 := n5_
                have BK220 := n6_
                have HB := n7_
                clear n0_ n1_ n2_ n3_ n4_ n5_ n6_ n7_
                (try clear hb)
                (try clear hb2)
                (try clear hk)
                (try clear hi)
                refine hK.out _ _ ⟨(blk_cell BK214.out 0).trans rfl, (blk_cell BK214.out 1).trans rfl, (blk_cell BK220.out 0).trans rfl, (blk_cell BK220.out 1).trans rfl, (blk_cell BK201.out 0).trans rfl, (blk_cell BK201.out 1).trans rfl⟩ (fun hHeld => ?_)
                clear hK K
                refine norm_ (a' := ?_) ?_ ?_
                rotate_left
                · show Act.put _ (some 50) _ = _
                  simp only [Act.put, List.setIfInBounds_toArray, List.set_cons_zero, List.set_cons_succ, i64_w, i32_w]
                  rfl
                refine pure_ (i := 7) (N := some 51) (v := ?_) (a' := ?_) #[true, true, true, true, true, true, true, true, false, false, false, false, false, false, false, false, false, false, false, false, false, false, false, false, false, false, false, false, false, false, false, false] rfl rfl (any_of HT_.out (by kernel_rfl)) (fun _ _ _ h => h) (Or.inl ⟨by rfl, ?_⟩) ?_ ?_
                rotate_left
                · intro w'
                  go_simp
                  with_reducible rfl
                rotate_left
                · simp only [Act.put, List.setIfInBounds_toArray, List.set_cons_zero, List.set_cons_succ, i64_w, i32_w]
                  rfl
                refine pure_ (i := 8) (N := some 52) (v := ?_) (a' := ?_) #[true, true, true, true, true, true, true, true, true, false, false, false, false, false, false, false, false, false, false, false, false, false, false, false, false, false, false, false, false, false, false, false] rfl rfl (any_of HT_.out (by kernel_rfl)) (fun _ _ _ h => h) (Or.inl ⟨by rfl, ?_⟩) ?_ ?_
                rotate_left
                · intro w'
                  go_simp
                  with_reducible rfl
                rotate_left
                · simp only [Act.put, List.setIfInBounds_toArray, List.set_cons_zero, List.set_cons_succ, i64_w, i32_w]
                  rfl
                refine pure_ (i := 11) (N := some 55) (v := ?_) (a' := ?_) #[true, true, true, true, true, true, true, true, true, false, false, true, false, false, false, false, false, false, false, false, false, false, false, false, false, false, false, false, false, false, false, false] rfl rfl (any_of HT_.out (by kernel_rfl)) (fun _ _ _ h => h) (Or.inl ⟨by rfl, ?_⟩) ?_ ?_
                rotate_left
                · intro w'
                  go_simp
                  with_reducible rfl
                rotate_left
                · simp only [Act.put, List.setIfInBounds_toArray, List.set_cons_zero, List.set_cons_succ, i64_w, i32_w]
                  rfl
                refine pure_ (i := 14) (N := some 58) (v := ?_) (a' := ?_) #[true, true, true, true, true, true, true, true, true, false, false, true, false, false, true, false, false, false, false, false, false, false, false, false, false, false, false, false, false, false, false, false] rfl rfl (any_of HT_.out (by kernel_rfl)) (fun _ _ _ h => h) (Or.inl ⟨by rfl, ?_⟩) ?_ ?_
                rotate_left
                · intro w'
                  go_simp
                  with_reducible rfl
                rotate_left
                · simp only [Act.put, List.setIfInBounds_toArray, List.set_cons_zero, List.set_cons_succ, i64_w, i32_w]
                  rfl
                refine take_ (i := 9) (N := some 53) (v := ?_) (a' := ?_) #[true, true, true, true, true, true, true, true, true, true, false, true, false, false, true, false, false, false, false, false, false, false, false, false, false, false, false, false, false, false, false, false] rfl rfl (take_ofW HT_.out HW_.out (by kernel_rfl)) (fun _ _ _ h => h) (Or.inl ⟨by rfl, ?_⟩) hHeld ?_ ?_
                rotate_left
                · rintro w' ⟨s0, s1, s2, s3, s4, s5⟩
                  go_simp
                  with_reducible rfl
                rotate_left
                · simp only [Act.put, List.setIfInBounds_toArray, List.set_cons_zero, List.set_cons_succ, i64_w, i32_w]
                  rfl
                refine take_ (i := 13) (N := some 57) (v := ?_) (a' := ?_) #[true, true, true, true, true, true, true, true, true, true, false, true, false, true, true, false, false, false, false, false, false, false, false, false, false, false, false, false, false, false, false, false] rfl rfl (take_ofW HT_.out HW_.out (by kernel_rfl)) (fun _ _ _ h => h) (Or.inl ⟨by rfl, ?_⟩) hHeld ?_ ?_
                rotate_left
                · rintro w' ⟨s0, s1, s2, s3, s4, s5⟩
                  go_simp
                  with_reducible rfl
                rotate_left
                · simp only [Act.put, List.setIfInBounds_toArray, List.set_cons_zero, List.set_cons_succ, i64_w, i32_w]
                  rfl
                refine one_ (i := 10) (N := some 54) #[true, true, true, true, true, true, true, true, true, true, true, true, false, true, true, false, false, false, false, false, false, false, false, false, false, false, false, false, false, false, false, false] rfl rfl (one_of HT_.out (by kernel_rfl)) (by decide) (fun K hK => ?_)
                refine goes_ Try.func7 (by kernel_rfl) rfl #[.agg #[.int .i64 a0_0, .slice A0_1 l0_1.length c0_1]] (by rfl) rfl rfl (by (try simp only [List.map_toArray, List.map_cons, List.map_nil]); first | done | rfl | (simp only [List.length_drop, List.length_take]; rfl)) ?_
                with_reducible refine (trothref10_Copy.calls a0_0 _ _ l0_1 t222 t223 _ ?side1 ?side2 A30.out).mono ?_
                (case side1 => repeat (first | exact (Kd.C_below HR0_1.out HB.out) | (with_reducible refine Kd.C_alloc ?_ _) | (with_reducible refine Kd.C_drewN ?_ _) | (with_reducible refine Kd.C_drew ?_)))
                (case side2 => exact HC0_1.out)
                rintro e w63 ⟨v224, rfl, ho0, hb⟩
                refine ⟨_, rfl, ?_⟩
                have n0_ := Aside0.mk (Kd.R_elder' (by (with_reducible repeat (first | apply Kd.R_alloc | apply Kd.R_drewN | apply Kd.R_drew)); exact HO208.out) (Kd.R_base ho0) hb)
                have n1_ := Aside0.mk (Kd.R_elder' (by (with_reducible repeat (first | apply Kd.R_alloc | apply Kd.R_drewN | apply Kd.R_drew)); exact HO212.out) (Kd.R_base ho0) hb)
                have n2_ := Aside0.mk (Kd.R_elder' (by (with_reducible repeat (first | apply Kd.R_alloc | apply Kd.R_drewN | apply Kd.R_drew)); exact HO218.out) (Kd.R_base ho0) hb)
                have n3_ := Aside0.mk (Kd.R_lower (Kd.R_new' (Kd.R_new' (Kd.R_new' ho0 (Kd.R_lt (by (with_reducible repeat (first | apply Kd.R_alloc | apply Kd.R_drewN | apply Kd.R_drew)); exact HO208.out))) (Kd.R_lt (by (with_reducible repeat (first | apply Kd.R_alloc | apply Kd.R_drewN | apply Kd.R_drew)); exact HO212.out))) (Kd.R_lt (by (with_reducible repeat (first | apply Kd.R_alloc | apply Kd.R_drewN | apply Kd.R_drew)); exact HO218.out))) (below_size (by repeat (first | (with_reducible first | exact HB.out | apply below_alloc | apply pw_below_drewN | apply below_drew1 | refine below_set ?_ GE201.out | refine below_set ?_ GE202.out | refine below_set ?_ GE214.out | refine below_set ?_ GE220.out) | exact HB.out))))
                have n4_ := Aside0.mk (blk_below (g := gb201) (o := .cells #[.int .i64 a0_0, .slice A0_1 l0_1.length c0_1] 24 (0, 0)) (by (with_reducible repeat (first | refine blk_drewN ?_ _ | refine blk_drew ?_ | refine blk_alloc ?_ _)); exact BK201.out) hb)
                have n5_ := Aside0.mk (blk_below (g := gb202) (o := .cells #[.bool a3_0, .string a3_1] 26 (0, 0)) (by (with_reducible repeat (first | refine blk_drewN ?_ _ | refine blk_drew ?_ | refine blk_alloc ?_ _)); exact BK202.out) hb)
                have n6_ := Aside0.mk (blk_below (g := gb214) (o := .cells #[.int .i64 t209, .slice Ao46 t210.length co46] 24 (0, 0)) (by (with_reducible repeat (first | refine blk_drewN ?_ _ | refine blk_drew ?_ | refine blk_alloc ?_ _)); exact BK214.out) hb)
                have n7_ := Aside0.mk (blk_below (g := gb220) (o := .cells #[.int .i64 t215, .slice Ao59 t216.length co59] 24 (0, 0)) (by (with_reducible repeat (first | refine blk_drewN ?_ _ | refine blk_drew ?_ | refine blk_alloc ?_ _)); exact BK220.out) hb)
                have n8_ := Aside0.mk (below_step (by repeat (first | (with_reducible first | exact HB.out | apply below_alloc | apply pw_below_drewN | apply below_drew1 | refine below_set ?_ GE201.out | refine below_set ?_ GE202.out | refine below_set ?_ GE214.out | refine below_set ?_ GE220.out) | exact HB.out)) hb)
                clear HO208
                clear HO212
                clear HO218
                clear BK201
                clear BK202
                clear BK214
                clear BK220
                clear HB
                have HO208 := n0_
                have HO212 := n1_
                have HO218 := n2_
                have HO225 := n3_
                have BK201 := n4_
                have BK202 := n5_
                have BK214 := n6_
                have BK220 := n7_
                have HB := n8_
                clear n0_ n1_ n2_ n3_ n4_ n5_ n6_ n7_ n8_
                (try clear hb)
                (try clear hb2)
                (try clear hk)
                (try clear hi)
                (try clear ho0)
                obtain ⟨Ao64, co64, eo64⟩ := Kd.R_slice HO225.out
                (first | subst eo64 | (injection eo64 with f1_ f2_ f3_; have f4_ := f1_.symm; have f5_ := f3_.symm; clear f1_ f2_ f3_; subst f4_; subst f5_))
                refine hK.out _ _ ⟨(blk_cell BK214.out 0).trans rfl, (blk_cell BK214.out 1).trans rfl, (blk_cell BK220.out 0).trans rfl, (blk_cell BK220.out 1).trans rfl, (blk_cell BK201.out 0).trans rfl, (blk_cell BK201.out 1).trans rfl⟩ (fun hHeld => ?_)
                clear hK K
                refine norm_ (a' := ?_) ?_ ?_
                rotate_left
                · show Act.put _ (some 54) _ = _
                  simp only [Act.put, List.setIfInBounds_toArray, List.set_cons_zero, List.set_cons_succ, i64_w, i32_w]
                  rfl
                refine one_ (i := 12) (N := some 56) #[true, true, true, true, true, true, true, true, true, true, true, true, true, true, true, false, false, false, false, false, false, false, false, false, false, false, false, false, false, false, false, false] rfl rfl (one_of HT_.out (by kernel_rfl)) (by decide) (fun K hK => ?_)
                refine goes_ Try.func10 (by kernel_rfl) rfl #[.agg #[.int .i64 t222, .slice Ao64 t223.length co64], .string a2] (by rfl) rfl rfl (by (try simp only [List.map_toArray, List.map_cons, List.map_nil]); first | done | rfl | (simp only [List.length_drop, List.length_take]; rfl)) ?_
                with_reducible refine (page_Get.calls kj4 t222 _ _ t223 a2 t226 t227 _ ?side1 ?side2 A31.out).mono ?_
                (case side1 => repeat (first | exact (Kd.R_reads' HO225.out).2.2 | (with_reducible refine Kd.C_alloc ?_ _) | (with_reducible refine Kd.C_drewN ?_ _) | (with_reducible refine Kd.C_drew ?_)))
                (case side2 => exact (Kd.R_reads' HO225.out).2.1)
                rintro e w65 ⟨rfl, hb⟩
                refine ⟨_, rfl, ?_⟩
                have n0_ := Aside0.mk (Kd.R_below (by (with_reducible repeat (first | apply Kd.R_alloc | apply Kd.R_drewN | apply Kd.R_drew)); exact HO208.out) hb)
                have n1_ := Aside0.mk (Kd.R_below (by (with_reducible repeat (first | apply Kd.R_alloc | apply Kd.R_drewN | apply Kd.R_drew)); exact HO212.out) hb)
                have n2_ := Aside0.mk (Kd.R_below (by (with_reducible repeat (first | apply Kd.R_alloc | apply Kd.R_drewN | apply Kd.R_drew)); exact HO218.out) hb)
                have n3_ := Aside0.mk (Kd.R_below (by (with_reducible repeat (first | apply Kd.R_alloc | apply Kd.R_drewN | apply Kd.R_drew)); exact HO225.out) hb)
                have n4_ := Aside0.mk (blk_below (g := gb201) (o := .cells #[.int .i64 a0_0, .slice A0_1 l0_1.length c0_1] 24 (0, 0)) (by (with_reducible repeat (first | refine blk_drewN ?_ _ | refine blk_drew ?_ | refine blk_alloc ?_ _)); exact BK201.out) hb)
                have n5_ := Aside0.mk (blk_below (g := gb202) (o := .cells #[.bool a3_0, .string a3_1] 26 (0, 0)) (by (with_reducible repeat (first | refine blk_drewN ?_ _ | refine blk_drew ?_ | refine blk_alloc ?_ _)); exact BK202.out) hb)
                have n6_ := Aside0.mk (blk_below (g := gb214) (o := .cells #[.int .i64 t209, .slice Ao46 t210.length co46] 24 (0, 0)) (by (with_reducible repeat (first | refine blk_drewN ?_ _ | refine blk_drew ?_ | refine blk_alloc ?_ _)); exact BK214.out) hb)
                have n7_ := Aside0.mk (blk_below (g := gb220) (o := .cells #[.int .i64 t215, .slice Ao59 t216.length co59] 24 (0, 0)) (by (with_reducible repeat (first | refine blk_drewN ?_ _ | refine blk_drew ?_ | refine blk_alloc ?_ _)); exact BK220.out) hb)
                have n8_ := Aside0.mk (below_step (by repeat (first | (with_reducible first | exact HB.out | apply below_alloc | apply pw_below_drewN | apply below_drew1 | refine below_set ?_ GE201.out | refine below_set ?_ GE202.out | refine below_set ?_ GE214.out | refine below_set ?_ GE220.out) | exact HB.out)) hb)
                clear HO208
                clear HO212
                clear HO218
                clear HO225
                clear BK201
                clear BK202
                clear BK214
                clear BK220
                clear HB
                have HO208 := n0_
                have HO212 := n1_
                have HO218 := n2_
                have HO225 := n3_
                have BK201 := n4_
                have BK202 := n5_
                have BK214 := n6_
                have BK220 := n7_
                have HB := n8_
                clear n0_ n1_ n2_ n3_ n4_ n5_ n6_ n7_ n8_
                (try clear hb)
                (try clear hb2)
                (try clear hk)
                (try clear hi)
                refine hK.out _ _ ⟨(blk_cell BK214.out 0).trans rfl, (blk_cell BK214.out 1).trans rfl, (blk_cell BK220.out 0).trans rfl, (blk_cell BK220.out 1).trans rfl, (blk_cell BK201.out 0).trans rfl, (blk_cell BK201.out 1).trans rfl⟩ (fun hHeld => ?_)
                clear hK K
                refine norm_ (a' := ?_) ?_ ?_
                rotate_left
                · show Act.put _ (some 56) _ = _
                  simp only [Act.put, List.setIfInBounds_toArray, List.set_cons_zero, List.set_cons_succ, i64_w, i32_w]
                  rfl
                refine one_ (i := 15) (N := some 59) #[true, true, true, true, true, true, true, true, true, true, true, true, true, true, true, true, false, false, false, false, false, false, false, false, false, false, false, false, false, false, false, false] rfl rfl (one_of HT_.out (by kernel_rfl)) (by decide) (fun K hK => ?_)
                refine goes_ Try.func11 (by kernel_rfl) rfl #[.agg #[.int .i64 a0_0, .slice A0_1 l0_1.length c0_1], .string a2] (by rfl) rfl rfl (by (try simp only [List.map_toArray, List.map_cons, List.map_nil]); first | done | rfl | (simp only [List.length_drop, List.length_take]; rfl)) ?_
                with_reducible refine (trothref10_Get.calls kj4 a0_0 _ _ l0_1 a2 t228 t229 _ ?side1 ?side2 A32.out).mono ?_
                (case side1 => repeat (first | exact (Kd.C_below HR0_1.out HB.out) | (with_reducible refine Kd.C_alloc ?_ _) | (with_reducible refine Kd.C_drewN ?_ _) | (with_reducible refine Kd.C_drew ?_)))
                (case side2 => exact HC0_1.out)
                rintro e w66 ⟨rfl, hb⟩
                refine ⟨_, rfl, ?_⟩
                have n0_ := Aside0.mk (Kd.R_below (by (with_reducible repeat (first | apply Kd.R_alloc | apply Kd.R_drewN | apply Kd.R_drew)); exact HO208.out) hb)
                have n1_ := Aside0.mk (Kd.R_below (by (with_reducible repeat (first | apply Kd.R_alloc | apply Kd.R_drewN | apply Kd.R_drew)); exact HO212.out) hb)
                have n2_ := Aside0.mk (Kd.R_below (by (with_reducible repeat (first | apply Kd.R_alloc | apply Kd.R_drewN | apply Kd.R_drew)); exact HO218.out) hb)
                have n3_ := Aside0.mk (Kd.R_below (by (with_reducible repeat (first | apply Kd.R_alloc | apply Kd.R_drewN | apply Kd.R_drew)); exact HO225.out) hb)
                have n4_ := Aside0.mk (blk_below (g := gb201) (o := .cells #[.int .i64 a0_0, .slice A0_1 l0_1.length c0_1] 24 (0, 0)) (by (with_reducible repeat (first | refine blk_drewN ?_ _ | refine blk_drew ?_ | refine blk_alloc ?_ _)); exact BK201.out) hb)
                have n5_ := Aside0.mk (blk_below (g := gb202) (o := .cells #[.bool a3_0, .string a3_1] 26 (0, 0)) (by (with_reducible repeat (first | refine blk_drewN ?_ _ | refine blk_drew ?_ | refine blk_alloc ?_ _)); exact BK202.out) hb)
                have n6_ := Aside0.mk (blk_below (g := gb214) (o := .cells #[.int .i64 t209, .slice Ao46 t210.length co46] 24 (0, 0)) (by (with_reducible repeat (first | refine blk_drewN ?_ _ | refine blk_drew ?_ | refine blk_alloc ?_ _)); exact BK214.out) hb)
                have n7_ := Aside0.mk (blk_below (g := gb220) (o := .cells #[.int .i64 t215, .slice Ao59 t216.length co59] 24 (0, 0)) (by (with_reducible repeat (first | refine blk_drewN ?_ _ | refine blk_drew ?_ | refine blk_alloc ?_ _)); exact BK220.out) hb)
                have n8_ := Aside0.mk (below_step (by repeat (first | (with_reducible first | exact HB.out | apply below_alloc | apply pw_below_drewN | apply below_drew1 | refine below_set ?_ GE201.out | refine below_set ?_ GE202.out | refine below_set ?_ GE214.out | refine below_set ?_ GE220.out) | exact HB.out)) hb)
                clear HO208
                clear HO212
                clear HO218
                clear HO225
                clear BK201
                clear BK202
                clear BK214
                clear BK220
                clear HB
                have HO208 := n0_
                have HO212 := n1_
                have HO218 := n2_
                have HO225 := n3_
                have BK201 := n4_
                have BK202 := n5_
                have BK214 := n6_
                have BK220 := n7_
                have HB := n8_
                clear n0_ n1_ n2_ n3_ n4_ n5_ n6_ n7_ n8_
                (try clear hb)
                (try clear hb2)
                (try clear hk)
                (try clear hi)
                refine hK.out _ _ ⟨(blk_cell BK214.out 0).trans rfl, (blk_cell BK214.out 1).trans rfl, (blk_cell BK220.out 0).trans rfl, (blk_cell BK220.out 1).trans rfl, (blk_cell BK201.out 0).trans rfl, (blk_cell BK201.out 1).trans rfl⟩ (fun hHeld => ?_)
                clear hK K
                refine norm_ (a' := ?_) ?_ ?_
                rotate_left
                · show Act.put _ (some 59) _ = _
                  simp only [Act.put, List.setIfInBounds_toArray, List.set_cons_zero, List.set_cons_succ, i64_w, i32_w]
                  rfl
                refine pure_ (i := 16) (N := some 60) (v := ?_) (a' := ?_) #[true, true, true, true, true, true, true, true, true, true, true, true, true, true, true, true, true, false, false, false, false, false, false, false, false, false, false, false, false, false, false, false] rfl rfl (any_of HT_.out (by kernel_rfl)) (fun _ _ _ h => h) (Or.inl ⟨by rfl, ?_⟩) ?_ ?_
                rotate_left
                · intro w'
                  go_simp
                  with_reducible rfl
                rotate_left
                · simp only [Act.put, List.setIfInBounds_toArray, List.set_cons_zero, List.set_cons_succ, i64_w, i32_w]
                  rfl
                refine pure_ (i := 17) (N := some 61) (v := ?_) (a' := ?_) #[true, true, true, true, true, true, true, true, true, true, true, true, true, true, true, true, true, true, false, false, false, false, false, false, false, false, false, false, false, false, false, false] rfl rfl (any_of HT_.out (by kernel_rfl)) (fun _ _ _ h => h) (Or.inl ⟨by rfl, ?_⟩) ?_ ?_
                rotate_left
                · intro w'
                  go_simp
                  with_reducible rfl
                rotate_left
                · simp only [Act.put, List.setIfInBounds_toArray, List.set_cons_zero, List.set_cons_succ, i64_w, i32_w]
                  rfl
                refine pure_ (i := 18) (N := some 62) (v := ?_) (a' := ?_) #[true, true, true, true, true, true, true, true, true, true, true, true, true, true, true, true, true, true, true, false, false, false, false, false, false, false, false, false, false, false, false, false] rfl rfl (any_of HT_.out (by kernel_rfl)) (fun _ _ _ h => h) (Or.inl ⟨by rfl, ?_⟩) ?_ ?_
                rotate_left
                · intro w'
                  go_simp
                  with_reducible rfl
                rotate_left
                · simp only [Act.put, List.setIfInBounds_toArray, List.set_cons_zero, List.set_cons_succ, i64_w, i32_w]
                  rfl
                refine pure_ (i := 21) (N := some 65) (v := ?_) (a' := ?_) #[true, true, true, true, true, true, true, true, true, true, true, true, true, true, true, true, true, true, true, false, false, true, false, false, false, false, false, false, false, false, false, false] rfl rfl (any_of HT_.out (by kernel_rfl)) (fun _ _ _ h => h) (Or.inl ⟨by rfl, ?_⟩) ?_ ?_
                rotate_left
                · intro w'
                  go_simp
                  with_reducible rfl
                rotate_left
                · simp only [Act.put, List.setIfInBounds_toArray, List.set_cons_zero, List.set_cons_succ, i64_w, i32_w]
                  rfl
                refine pure_ (i := 24) (N := some 68) (v := ?_) (a' := ?_) #[true, true, true, true, true, true, true, true, true, true, true, true, true, true, true, true, true, true, true, false, false, true, false, false, true, false, false, false, false, false, false, false] rfl rfl (any_of HT_.out (by kernel_rfl)) (fun _ _ _ h => h) (Or.inl ⟨by rfl, ?_⟩) ?_ ?_
                rotate_left
                · intro w'
                  go_simp
                  with_reducible rfl
                rotate_left
                · simp only [Act.put, List.setIfInBounds_toArray, List.set_cons_zero, List.set_cons_succ, i64_w, i32_w]
                  rfl
                refine take_ (i := 19) (N := some 63) (v := ?_) (a' := ?_) #[true, true, true, true, true, true, true, true, true, true, true, true, true, true, true, true, true, true, true, true, false, true, false, false, true, false, false, false, false, false, false, false] rfl rfl (take_ofW HT_.out HW_.out (by kernel_rfl)) (fun _ _ _ h => h) (Or.inl ⟨by rfl, ?_⟩) hHeld ?_ ?_
                rotate_left
                · rintro w' ⟨s0, s1, s2, s3, s4, s5⟩
                  go_simp
                  with_reducible rfl
                rotate_left
                · simp only [Act.put, List.setIfInBounds_toArray, List.set_cons_zero, List.set_cons_succ, i64_w, i32_w]
                  rfl
                refine take_ (i := 23) (N := some 67) (v := ?_) (a' := ?_) #[true, true, true, true, true, true, true, true, true, true, true, true, true, true, true, true, true, true, true, true, false, true, false, true, true, false, false, false, false, false, false, false] rfl rfl (take_ofW HT_.out HW_.out (by kernel_rfl)) (fun _ _ _ h => h) (Or.inl ⟨by rfl, ?_⟩) hHeld ?_ ?_
                rotate_left
                · rintro w' ⟨s0, s1, s2, s3, s4, s5⟩
                  go_simp
                  with_reducible rfl
                rotate_left
                · simp only [Act.put, List.setIfInBounds_toArray, List.set_cons_zero, List.set_cons_succ, i64_w, i32_w]
                  rfl
                refine one_ (i := 20) (N := some 64) #[true, true, true, true, true, true, true, true, true, true, true, true, true, true, true, true, true, true, true, true, true, true, false, true, true, false, false, false, false, false, false, false] rfl rfl (one_of HT_.out (by kernel_rfl)) (by decide) (fun K hK => ?_)
                refine goes_ Try.func7 (by kernel_rfl) rfl #[.agg #[.int .i64 a0_0, .slice A0_1 l0_1.length c0_1]] (by rfl) rfl rfl (by (try simp only [List.map_toArray, List.map_cons, List.map_nil]); first | done | rfl | (simp only [List.length_drop, List.length_take]; rfl)) ?_
                with_reducible refine (trothref10_Copy.calls a0_0 _ _ l0_1 t230 t231 _ ?side1 ?side2 A34.out).mono ?_
                (case side1 => repeat (first | exact (Kd.C_below HR0_1.out HB.out) | (with_reducible refine Kd.C_alloc ?_ _) | (with_reducible refine Kd.C_drewN ?_ _) | (with_reducible refine Kd.C_drew ?_)))
                (case side2 => exact HC0_1.out)
                rintro e w67 ⟨v232, rfl, ho0, hb⟩
                refine ⟨_, rfl, ?_⟩
                have n0_ := Aside0.mk (Kd.R_elder' (by (with_reducible repeat (first | apply Kd.R_alloc | apply Kd.R_drewN | apply Kd.R_drew)); exact HO208.out) (Kd.R_base ho0) hb)
                have n1_ := Aside0.mk (Kd.R_elder' (by (with_reducible repeat (first | apply Kd.R_alloc | apply Kd.R_drewN | apply Kd.R_drew)); exact HO212.out) (Kd.R_base ho0) hb)
                have n2_ := Aside0.mk (Kd.R_elder' (by (with_reducible repeat (first | apply Kd.R_alloc | apply Kd.R_drewN | apply Kd.R_drew)); exact HO218.out) (Kd.R_base ho0) hb)
                have n3_ := Aside0.mk (Kd.R_elder' (by (with_reducible repeat (first | apply Kd.R_alloc | apply Kd.R_drewN | apply Kd.R_drew)); exact HO225.out) (Kd.R_base ho0) hb)
                have n4_ := Aside0.mk (Kd.R_lower (Kd.R_new' (Kd.R_new' (Kd.R_new' (Kd.R_new' ho0 (Kd.R_lt (by (with_reducible repeat (first | apply Kd.R_alloc | apply Kd.R_drewN | apply Kd.R_drew)); exact HO208.out))) (Kd.R_lt (by (with_reducible repeat (first | apply Kd.R_alloc | apply Kd.R_drewN | apply Kd.R_drew)); exact HO212.out))) (Kd.R_lt (by (with_reducible repeat (first | apply Kd.R_alloc | apply Kd.R_drewN | apply Kd.R_drew)); exact HO218.out))) (Kd.R_lt (by (with_reducible repeat (first | apply Kd.R_alloc | apply Kd.R_drewN | apply Kd.R_drew)); exact HO225.out))) (below_size (by repeat (first | (with_reducible first | exact HB.out | apply below_alloc | apply pw_below_drewN | apply below_drew1 | refine below_set ?_ GE201.out | refine below_set ?_ GE202.out | refine below_set ?_ GE214.out | refine below_set ?_ GE220.out) | exact HB.out))))
                have n5_ := Aside0.mk (blk_below (g := gb201) (o := .cells #[.int .i64 a0_0, .slice A0_1 l0_1.length c0_1] 24 (0, 0)) (by (with_reducible repeat (first | refine blk_drewN ?_ _ | refine blk_drew ?_ | refine blk_alloc ?_ _)); exact BK201.out) hb)
                have n6_ := Aside0.mk (blk_below (g := gb202) (o := .cells #[.bool a3_0, .string a3_1] 26 (0, 0)) (by (with_reducible repeat (first | refine blk_drewN ?_ _ | refine blk_drew ?_ | refine blk_alloc ?_ _)); exact BK202.out) hb)
                have n7_ := Aside0.mk (blk_below (g := gb214) (o := .cells #[.int .i64 t209, .slice Ao46 t210.length co46] 24 (0, 0)) (by (with_reducible repeat (first | refine blk_drewN ?_ _ | refine blk_drew ?_ | refine blk_alloc ?_ _)); exact BK214.out) hb)
                have n8_ := Aside0.mk (blk_below (g := gb220) (o := .cells #[.int .i64 t215, .slice Ao59 t216.length co59] 24 (0, 0)) (by (with_reducible repeat (first | refine blk_drewN ?_ _ | refine blk_drew ?_ | refine blk_alloc ?_ _)); exact BK220.out) hb)
                have n9_ := Aside0.mk (below_step (by repeat (first | (with_reducible first | exact HB.out | apply below_alloc | apply pw_below_drewN | apply below_drew1 | refine below_set ?_ GE201.out | refine below_set ?_ GE202.out | refine below_set ?_ GE214.out | refine below_set ?_ GE220.out) | exact HB.out)) hb)
                clear HO208
                clear HO212
                clear HO218
                clear HO225
                clear BK201
                clear BK202
                clear BK214
                clear BK220
                clear HB
                have HO208 := n0_
                have HO212 := n1_
                have HO218 := n2_
                have HO225 := n3_
                have HO233 := n4_
                have BK201 := n5_
                have BK202 := n6_
                have BK214 := n7_
                have BK220 := n8_
                have HB := n9_
                clear n0_ n1_ n2_ n3_ n4_ n5_ n6_ n7_ n8_ n9_
                (try clear hb)
                (try clear hb2)
                (try clear hk)
                (try clear hi)
                (try clear ho0)
                obtain ⟨Ao68, co68, eo68⟩ := Kd.R_slice HO233.out
                (first | subst eo68 | (injection eo68 with f1_ f2_ f3_; have f4_ := f1_.symm; have f5_ := f3_.symm; clear f1_ f2_ f3_; subst f4_; subst f5_))
                refine hK.out _ _ ⟨(blk_cell BK214.out 0).trans rfl, (blk_cell BK214.out 1).trans rfl, (blk_cell BK220.out 0).trans rfl, (blk_cell BK220.out 1).trans rfl, (blk_cell BK201.out 0).trans rfl, (blk_cell BK201.out 1).trans rfl⟩ (fun hHeld => ?_)
                clear hK K
                refine norm_ (a' := ?_) ?_ ?_
                rotate_left
                · show Act.put _ (some 64) _ = _
                  simp only [Act.put, List.setIfInBounds_toArray, List.set_cons_zero, List.set_cons_succ, i64_w, i32_w]
                  rfl
                refine one_ (i := 22) (N := some 66) #[true, true, true, true, true, true, true, true, true, true, true, true, true, true, true, true, true, true, true, true, true, true, true, true, true, false, false, false, false, false, false, false] rfl rfl (one_of HT_.out (by kernel_rfl)) (by decide) (fun K hK => ?_)
                refine goes_ Try.func12 (by kernel_rfl) rfl #[.agg #[.int .i64 t230, .slice Ao68 t231.length co68], .string a2] (by rfl) rfl rfl (by (try simp only [List.map_toArray, List.map_cons, List.map_nil]); first | done | rfl | (simp only [List.length_drop, List.length_take]; rfl)) ?_
                with_reducible refine (page_Room.calls kj4 t230 _ _ t231 a2 t234 _ ?side1 ?side2 A35.out).mono ?_
                (case side1 => repeat (first | exact (Kd.R_reads' HO233.out).2.2 | (with_reducible refine Kd.C_alloc ?_ _) | (with_reducible refine Kd.C_drewN ?_ _) | (with_reducible refine Kd.C_drew ?_)))
                (case side2 => exact (Kd.R_reads' HO233.out).2.1)
                rintro e w69 ⟨rfl, hb⟩
                refine ⟨_, rfl, ?_⟩
                have n0_ := Aside0.mk (Kd.R_below (by (with_reducible repeat (first | apply Kd.R_alloc | apply Kd.R_drewN | apply Kd.R_drew)); exact HO208.out) hb)
                have n1_ := Aside0.mk (Kd.R_below (by (with_reducible repeat (first | apply Kd.R_alloc | apply Kd.R_drewN | apply Kd.R_drew)); exact HO212.out) hb)
                have n2_ := Aside0.mk (Kd.R_below (by (with_reducible repeat (first | apply Kd.R_alloc | apply Kd.R_drewN | apply Kd.R_drew)); exact HO218.out) hb)
                have n3_ := Aside0.mk (Kd.R_below (by (with_reducible repeat (first | apply Kd.R_alloc | apply Kd.R_drewN | apply Kd.R_drew)); exact HO225.out) hb)
                have n4_ := Aside0.mk (Kd.R_below (by (with_reducible repeat (first | apply Kd.R_alloc | apply Kd.R_drewN | apply Kd.R_drew)); exact HO233.out) hb)
                have n5_ := Aside0.mk (blk_below (g := gb201) (o := .cells #[.int .i64 a0_0, .slice A0_1 l0_1.length c0_1] 24 (0, 0)) (by (with_reducible repeat (first | refine blk_drewN ?_ _ | refine blk_drew ?_ | refine blk_alloc ?_ _)); exact BK201.out) hb)
                have n6_ := Aside0.mk (blk_below (g := gb202) (o := .cells #[.bool a3_0, .string a3_1] 26 (0, 0)) (by (with_reducible repeat (first | refine blk_drewN ?_ _ | refine blk_drew ?_ | refine blk_alloc ?_ _)); exact BK202.out) hb)
                have n7_ := Aside0.mk (blk_below (g := gb214) (o := .cells #[.int .i64 t209, .slice Ao46 t210.length co46] 24 (0, 0)) (by (with_reducible repeat (first | refine blk_drewN ?_ _ | refine blk_drew ?_ | refine blk_alloc ?_ _)); exact BK214.out) hb)
                have n8_ := Aside0.mk (blk_below (g := gb220) (o := .cells #[.int .i64 t215, .slice Ao59 t216.length co59] 24 (0, 0)) (by (with_reducible repeat (first | refine blk_drewN ?_ _ | refine blk_drew ?_ | refine blk_alloc ?_ _)); exact BK220.out) hb)
                have n9_ := Aside0.mk (below_step (by repeat (first | (with_reducible first | exact HB.out | apply below_alloc | apply pw_below_drewN | apply below_drew1 | refine below_set ?_ GE201.out | refine below_set ?_ GE202.out | refine below_set ?_ GE214.out | refine below_set ?_ GE220.out) | exact HB.out)) hb)
                clear HO208
                clear HO212
                clear HO218
                clear HO225
                clear HO233
                clear BK201
                clear BK202
                clear BK214
                clear BK220
                clear HB
                have HO208 := n0_
                have HO212 := n1_
                have HO218 := n2_
                have HO225 := n3_
                have HO233 := n4_
                have BK201 := n5_
                have BK202 := n6_
                have BK214 := n7_
                have BK220 := n8_
                have HB := n9_
                clear n0_ n1_ n2_ n3_ n4_ n5_ n6_ n7_ n8_ n9_
                (try clear hb)
                (try clear hb2)
                (try clear hk)
                (try clear hi)
                refine hK.out _ _ ⟨(blk_cell BK214.out 0).trans rfl, (blk_cell BK214.out 1).trans rfl, (blk_cell BK220.out 0).trans rfl, (blk_cell BK220.out 1).trans rfl, (blk_cell BK201.out 0).trans rfl, (blk_cell BK201.out 1).trans rfl⟩ (fun hHeld => ?_)
                clear hK K
                refine norm_ (a' := ?_) ?_ ?_
                rotate_left
                · show Act.put _ (some 66) _ = _
                  simp only [Act.put, List.setIfInBounds_toArray, List.set_cons_zero, List.set_cons_succ, i64_w, i32_w]
                  rfl
                refine one_ (i := 25) (N := some 69) #[true, true, true, true, true, true, true, true, true, true, true, true, true, true, true, true, true, true, true, true, true, true, true, true, true, true, false, false, false, false, false, false] rfl rfl (one_of HT_.out (by kernel_rfl)) (by decide) (fun K hK => ?_)
                refine goes_ Try.func13 (by kernel_rfl) rfl #[.agg #[.int .i64 a0_0, .slice A0_1 l0_1.length c0_1], .string a2] (by rfl) rfl rfl (by (try simp only [List.map_toArray, List.map_cons, List.map_nil]); first | done | rfl | (simp only [List.length_drop, List.length_take]; rfl)) ?_
                with_reducible refine (trothref10_Room.calls kj4 a0_0 _ _ l0_1 a2 t235 _ ?side1 ?side2 A36.out).mono ?_
                (case side1 => repeat (first | exact (Kd.C_below HR0_1.out HB.out) | (with_reducible refine Kd.C_alloc ?_ _) | (with_reducible refine Kd.C_drewN ?_ _) | (with_reducible refine Kd.C_drew ?_)))
                (case side2 => exact HC0_1.out)
                rintro e w70 ⟨rfl, hb⟩
                refine ⟨_, rfl, ?_⟩
                have n0_ := Aside0.mk (Kd.R_below (by (with_reducible repeat (first | apply Kd.R_alloc | apply Kd.R_drewN | apply Kd.R_drew)); exact HO208.out) hb)
                have n1_ := Aside0.mk (Kd.R_below (by (with_reducible repeat (first | apply Kd.R_alloc | apply Kd.R_drewN | apply Kd.R_drew)); exact HO212.out) hb)
                have n2_ := Aside0.mk (Kd.R_below (by (with_reducible repeat (first | apply Kd.R_alloc | apply Kd.R_drewN | apply Kd.R_drew)); exact HO218.out) hb)
                have n3_ := Aside0.mk (Kd.R_below (by (with_reducible repeat (first | apply Kd.R_alloc | apply Kd.R_drewN | apply Kd.R_drew)); exact HO225.out) hb)
                have n4_ := Aside0.mk (Kd.R_below (by (with_reducible repeat (first | apply Kd.R_alloc | apply Kd.R_drewN | apply Kd.R_drew)); exact HO233.out) hb)
                have n5_ := Aside0.mk (blk_below (g := gb201) (o := .cells #[.int .i64 a0_0, .slice A0_1 l0_1.length c0_1] 24 (0, 0)) (by (with_reducible repeat (first | refine blk_drewN ?_ _ | refine blk_drew ?_ | refine blk_alloc ?_ _)); exact BK201.out) hb)
                have n6_ := Aside0.mk (blk_below (g := gb202) (o := .cells #[.bool a3_0, .string a3_1] 26 (0, 0)) (by (with_reducible repeat (first | refine blk_drewN ?_ _ | refine blk_drew ?_ | refine blk_alloc ?_ _)); exact BK202.out) hb)
                have n7_ := Aside0.mk (blk_below (g := gb214) (o := .cells #[.int .i64 t209, .slice Ao46 t210.length co46] 24 (0, 0)) (by (with_reducible repeat (first | refine blk_drewN ?_ _ | refine blk_drew ?_ | refine blk_alloc ?_ _)); exact BK214.out) hb)
                have n8_ := Aside0.mk (blk_below (g := gb220) (o := .cells #[.int .i64 t215, .slice Ao59 t216.length co59] 24 (0, 0)) (by (with_reducible repeat (first | refine blk_drewN ?_ _ | refine blk_drew ?_ | refine blk_alloc ?_ _)); exact BK220.out) hb)
                have n9_ := Aside0.mk (below_step (by repeat (first | (with_reducible first | exact HB.out | apply below_alloc | apply pw_below_drewN | apply below_drew1 | refine below_set ?_ GE201.out | refine below_set ?_ GE202.out | refine below_set ?_ GE214.out | refine below_set ?_ GE220.out) | exact HB.out)) hb)
                clear HO208
                clear HO212
                clear HO218
                clear HO225
                clear HO233
                clear BK201
                clear BK202
                clear BK214
                clear BK220
                clear HB
                have HO208 := n0_
                have HO212 := n1_
                have HO218 := n2_
                have HO225 := n3_
                have HO233 := n4_
                have BK201 := n5_
                have BK202 := n6_
                have BK214 := n7_
                have BK220 := n8_
                have HB := n9_
                clear n0_ n1_ n2_ n3_ n4_ n5_ n6_ n7_ n8_ n9_
                (try clear hb)
                (try clear hb2)
                (try clear hk)
                (try clear hi)
                refine hK.out _ _ ⟨(blk_cell BK214.out 0).trans rfl, (blk_cell BK214.out 1).trans rfl, (blk_cell BK220.out 0).trans rfl, (blk_cell BK220.out 1).trans rfl, (blk_cell BK201.out 0).trans rfl, (blk_cell BK201.out 1).trans rfl⟩ (fun hHeld => ?_)
                clear hK K
                refine norm_ (a' := ?_) ?_ ?_
                rotate_left
                · show Act.put _ (some 69) _ = _
                  simp only [Act.put, List.setIfInBounds_toArray, List.set_cons_zero, List.set_cons_succ, i64_w, i32_w]
                  rfl
                refine pure_ (i := 26) (N := some 70) (v := ?_) (a' := ?_) #[true, true, true, true, true, true, true, true, true, true, true, true, true, true, true, true, true, true, true, true, true, true, true, true, true, true, true, false, false, false, false, false] rfl rfl (any_of HT_.out (by kernel_rfl)) (fun _ _ _ h => h) (Or.inl ⟨by rfl, ?_⟩) ?_ ?_
                rotate_left
                · intro w'
                  go_simp
                  with_reducible rfl
                rotate_left
                · simp only [Act.put, List.setIfInBounds_toArray, List.set_cons_zero, List.set_cons_succ, i64_w, i32_w]
                  rfl
                refine pure_ (i := 27) (N := some 71) (v := ?_) (a' := ?_) #[true, true, true, true, true, true, true, true, true, true, true, true, true, true, true, true, true, true, true, true, true, true, true, true, true, true, true, true, false, false, false, false] rfl rfl (any_of HT_.out (by kernel_rfl)) (fun _ _ _ h => h) (Or.inl ⟨by rfl, ?_⟩) ?_ ?_
                rotate_left
                · intro w'
                  go_simp
                  with_reducible rfl
                rotate_left
                · simp only [Act.put, List.setIfInBounds_toArray, List.set_cons_zero, List.set_cons_succ, i64_w, i32_w]
                  rfl
                refine pure_ (i := 28) (N := some 72) (v := ?_) (a' := ?_) #[true, true, true, true, true, true, true, true, true, true, true, true, true, true, true, true, true, true, true, true, true, true, true, true, true, true, true, true, true, false, false, false] rfl rfl (any_of HT_.out (by kernel_rfl)) (fun _ _ _ h => h) (Or.inl ⟨by rfl, ?_⟩) ?_ ?_
                rotate_left
                · intro w'
                  go_simp
                  with_reducible rfl
                rotate_left
                · simp only [Act.put, List.setIfInBounds_toArray, List.set_cons_zero, List.set_cons_succ, i64_w, i32_w]
                  rfl
                refine one_ (i := 29) (N := some 73) #[true, true, true, true, true, true, true, true, true, true, true, true, true, true, true, true, true, true, true, true, true, true, true, true, true, true, true, true, true, true, false, false] rfl rfl (one_of HT_.out (by kernel_rfl)) (by decide) (fun K hK => ?_)
                refine goes_ Try.func5 (by kernel_rfl) rfl #[] (by rfl) rfl rfl (by (try simp only [List.map_toArray, List.map_cons, List.map_nil]); first | done | rfl | (simp only [List.length_drop, List.length_take]; rfl)) ?_
                with_reducible refine (trothlaw10_awake.calls kj4  t236 _ A38.out).mono ?_
                rintro e w71 ⟨rfl, hb⟩
                refine ⟨_, rfl, ?_⟩
                have n0_ := Aside0.mk (Kd.R_below (by (with_reducible repeat (first | apply Kd.R_alloc | apply Kd.R_drewN | apply Kd.R_drew)); exact HO208.out) hb)
                have n1_ := Aside0.mk (Kd.R_below (by (with_reducible repeat (first | apply Kd.R_alloc | apply Kd.R_drewN | apply Kd.R_drew)); exact HO212.out) hb)
                have n2_ := Aside0.mk (Kd.R_below (by (with_reducible repeat (first | apply Kd.R_alloc | apply Kd.R_drewN | apply Kd.R_drew)); exact HO218.out) hb)
                have n3_ := Aside0.mk (Kd.R_below (by (with_reducible repeat (first | apply Kd.R_alloc | apply Kd.R_drewN | apply Kd.R_drew)); exact HO225.out) hb)
                have n4_ := Aside0.mk (Kd.R_below (by (with_reducible repeat (first | apply Kd.R_alloc | apply Kd.R_drewN | apply Kd.R_drew)); exact HO233.out) hb)
                have n5_ := Aside0.mk (blk_below (g := gb201) (o := .cells #[.int .i64 a0_0, .slice A0_1 l0_1.length c0_1] 24 (0, 0)) (by (with_reducible repeat (first | refine blk_drewN ?_ _ | refine blk_drew ?_ | refine blk_alloc ?_ _)); exact BK201.out) hb)
                have n6_ := Aside0.mk (blk_below (g := gb202) (o := .cells #[.bool a3_0, .string a3_1] 26 (0, 0)) (by (with_reducible repeat (first | refine blk_drewN ?_ _ | refine blk_drew ?_ | refine blk_alloc ?_ _)); exact BK202.out) hb)
                have n7_ := Aside0.mk (blk_below (g := gb214) (o := .cells #[.int .i64 t209, .slice Ao46 t210.length co46] 24 (0, 0)) (by (with_reducible repeat (first | refine blk_drewN ?_ _ | refine blk_drew ?_ | refine blk_alloc ?_ _)); exact BK214.out) hb)
                have n8_ := Aside0.mk (blk_below (g := gb220) (o := .cells #[.int .i64 t215, .slice Ao59 t216.length co59] 24 (0, 0)) (by (with_reducible repeat (first | refine blk_drewN ?_ _ | refine blk_drew ?_ | refine blk_alloc ?_ _)); exact BK220.out) hb)
                have n9_ := Aside0.mk (below_step (by repeat (first | (with_reducible first | exact HB.out | apply below_alloc | apply pw_below_drewN | apply below_drew1 | refine below_set ?_ GE201.out | refine below_set ?_ GE202.out | refine below_set ?_ GE214.out | refine below_set ?_ GE220.out) | exact HB.out)) hb)
                clear HO208
                clear HO212
                clear HO218
                clear HO225
                clear HO233
                clear BK201
                clear BK202
                clear BK214
                clear BK220
                clear HB
                have HO208 := n0_
                have HO212 := n1_
                have HO218 := n2_
                have HO225 := n3_
                have HO233 := n4_
                have BK201 := n5_
                have BK202 := n6_
                have BK214 := n7_
                have BK220 := n8_
                have HB := n9_
                clear n0_ n1_ n2_ n3_ n4_ n5_ n6_ n7_ n8_ n9_
                (try clear hb)
                (try clear hb2)
                (try clear hk)
                (try clear hi)
                refine hK.out _ _ ⟨(blk_cell BK214.out 0).trans rfl, (blk_cell BK214.out 1).trans rfl, (blk_cell BK220.out 0).trans rfl, (blk_cell BK220.out 1).trans rfl, (blk_cell BK201.out 0).trans rfl, (blk_cell BK201.out 1).trans rfl⟩ (fun hHeld => ?_)
                clear hK K
                refine norm_ (a' := ?_) ?_ ?_
                rotate_left
                · show Act.put _ (some 73) _ = _
                  simp only [Act.put, List.setIfInBounds_toArray, List.set_cons_zero, List.set_cons_succ, i64_w, i32_w]
                  rfl
                refine pure_ (i := 30) (N := some 74) (v := ?_) (a' := ?_) #[true, true, true, true, true, true, true, true, true, true, true, true, true, true, true, true, true, true, true, true, true, true, true, true, true, true, true, true, true, true, true, false] rfl rfl (any_of HT_.out (by kernel_rfl)) (fun _ _ _ h => h) (Or.inl ⟨by rfl, ?_⟩) ?_ ?_
                rotate_left
                · intro w'
                  go_simp
                  with_reducible rfl
                rotate_left
                · simp only [Act.put, List.setIfInBounds_toArray, List.set_cons_zero, List.set_cons_succ, i64_w, i32_w]
                  rfl
                refine pure_ (i := 31) (N := some 8) (v := ?_) (a' := ?_) #[true, true, true, true, true, true, true, true, true, true, true, true, true, true, true, true, true, true, true, true, true, true, true, true, true, true, true, true, true, true, true, true] rfl rfl (any_of HT_.out (by kernel_rfl)) (fun _ _ _ h => h) (Or.inl ⟨by rfl, ?_⟩) ?_ ?_
                rotate_left
                · intro w'
                  go_simp
                  with_reducible rfl
                rotate_left
                · simp only [Act.put, List.setIfInBounds_toArray, List.set_cons_zero, List.set_cons_succ, i64_w, i32_w]
                  rfl
                refine done_ (done_of HT_.out (by kernel_rfl)) ?_
                try go_wp2
                go_ret
                exact ⟨by first | rfl | (simp [errW_none, errW_some] <;> rfl) | (simp [*, errW_none, errW_some] <;> rfl), by repeat (first | (with_reducible first | exact HB.out | apply below_alloc | apply pw_below_drewN | apply below_drew1 | refine below_set ?_ GE201.out | refine below_set ?_ GE202.out | refine below_set ?_ GE214.out | refine below_set ?_ GE220.out) | exact HB.out)⟩
              · rw [if_neg c37] at H
                exact absurd ((Option.some.inj H).trans HRT.out) (by decide)
            · rw [if_neg c33] at H
              exact absurd ((Option.some.inj H).trans HRT.out) (by decide)
          · rw [if_neg c29] at H
            exact absurd ((Option.some.inj H).trans HRT.out) (by decide)
        · rw [if_neg c27] at H
          exact absurd ((Option.some.inj H).trans HRT.out) (by decide)end Go.Proofs.Ytoedoakldogkhaa.Ps

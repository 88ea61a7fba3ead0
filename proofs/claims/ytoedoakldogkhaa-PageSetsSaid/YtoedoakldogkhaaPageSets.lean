/-
  Of any page, key and value: what page.Set, Get and Room answer is the reference's answer, and the example holds: trothlaw10.PageSets answers true, and its arguments read as they did.
  No condition: every input.
-/
import Derived.Test.YtoedoakldogkhaaQ
import Derived.Test.YtoedoakldogkhaaRows
import Derived.WalkKit
import Derived.ProofKit
import Derived.OpenShut
import Derived.ChangeSame
import Derived.JoinedOf
import Derived.JoinedAt
import Derived.RowKit3
import Derived.Lib.SmallJoins
import Derived.Deep.Slices
import Derived.WideKeyArgs
import Derived.ChangeMaps5
namespace Go.Proofs.Ytoedoakldogkhaa.Ps
open Go.ChangeShapes Go.WideShapes Go.ChangeAt Go.RowKit Go.Joins Go.Deep Go.Proofs.YtoedoakldogkhaaW.PrintWords
set_option linter.unusedVariables false
set_option linter.unusedSimpArgs false

section
variable {H : Type} {enc : TypeId × Value → H} {P : Program}
theorem post_of_below {f : Func} {s : ChangeSpec} {apart fresh handsOn again : Bool} {W W' : World} {args : Array Value} {v : Value} {ds gs : List (DataW H)} {before pa pv : List MemPlace}
    (hW : DataW.Whole enc P f.params.toList s.vars apart W args.toList ds gs before)
    (hres : ∀ (b : Nat) (sp : Nat → Bool) (hd : Bool), DataW.TrodAll enc P W' b sp hd f.resultTypes.toList (v.resultList f.resultTypes.size) (s.fn H (ds ++ gs)).results [])
    (hargs : ∀ sp : Nat → Bool, (∀ p ∈ before, sp p.block = true) → DataW.TrodAll enc P W' 0 sp true f.params.toList args.toList (s.fn H (ds ++ gs)).args pa)
    (hvars : ∀ sp : Nat → Bool, (∀ p ∈ before, sp p.block = true) → DataW.TrodVars enc P W' sp s.vars (s.fn H (ds ++ gs)).vars pv)
    (hps : before = pa ++ pv) (hb : Below W.heap.size W W')
    (hok : ∀ (j : Nat) (t : TypeId) (r : Value), f.resultTypes[j]? = some t → (v.resultList f.resultTypes.size)[j]? = some r → Value.okWide P W' .any 0 t r) :
    s.post enc P f apart fresh handsOn again W args v W' := by
  have hlt : ∀ p ∈ before, p.block < W.heap.size := fun p hp => hW.lt p hp
  have hold : ∀ p ∈ before, (fun b => decide (b < W.heap.size)) p.block = true := fun p hp => by simpa using hlt p hp
  refine ⟨ds, gs, before, [], pa, pv, hW, hres _ _ _, hargs _ hold, hvars _ hold, World.keptBut_mono (fun p hp => ⟨hp, ?_⟩) (hb.frame (· ∈ before)), fun _ => ?_⟩
  · rw [hps, List.mem_append] at hp
    exact Or.inr hp
  · obtain ⟨_, _, _, _, _, hz, hn⟩ := hW
    refine ⟨hok, _, _, ([] ++ pa) ++ pv, ⟨[] ++ pa, pv, trodAll_append (hargs _ (fun _ _ => rfl)) (hres _ _ _), hvars _ (fun _ _ => rfl), rfl, ?_, ?_⟩, ?_⟩
    · intro b off hp
      have hin : MemPlace.cell b off ∈ before := by rw [hps]; simpa using hp
      rw [hb.frozen (hlt _ hin)]
      exact hz b off hin
    · intro ha
      have := hn ha
      rw [hps] at this
      simpa using this
    · intro p hp _
      rw [hps]
      simpa using hp
end

theorem own : ownKnob Try.prog.godebug = none := by kernel_rfl
theorem laidOut_ : laidOutB Try.prog = true := by kernel_rfl
theorem cells24 : Try.prog.cellsOf 24 = 2 := by kernel_rfl
theorem cells26 : Try.prog.cellsOf 26 = 2 := by kernel_rfl
theorem cells40 : Try.prog.cellsOf 40 = 3 := by kernel_rfl
theorem cells9 : Try.prog.cellsOf 9 = 1 := by kernel_rfl
theorem cells4 : Try.prog.cellsOf 4 = 1 := by kernel_rfl

section
variable {H : Type} {enc : TypeId × Value → H} {w : World} {base : Nat} {spare : Nat → Bool} {held : Bool}
theorem value_shape {fuel : Nat} {cs : List Value} {x : DataW H × List MemPlace} (h : DataW.trod enc Try.prog w base spare held fuel 26 cs = some x) : ∃ v : S26, cs = [.bool v.f0, .string v.f1] := by
  obtain ⟨ys, n, _, _, hlen, hyl, hf⟩ := DataW.trod_struct Try.underlying26 h
  rw [cells26] at hlen
  match cs, hlen with
  | [a, b], _ =>
    have hys : ys.length = 2 := hyl
    have h0 : DataW.trod enc Try.prog w base spare held n 4 (([a, b].drop 0).take (Try.prog.cellsOf 4)) = ys[0]? := hf 0 _ rfl
    have h1 : DataW.trod enc Try.prog w base spare held n 9 (([a, b].drop 1).take (Try.prog.cellsOf 9)) = ys[1]? := hf 1 _ rfl
    rw [cells4] at h0
    rw [cells9] at h1
    have g0 : ys[0]? = some (ys[0]'(by omega)) := List.getElem?_eq_getElem (by omega)
    have g1 : ys[1]? = some (ys[1]'(by omega)) := List.getElem?_eq_getElem (by omega)
    obtain ⟨q, e0, _⟩ := DataW.trod_bool Try.underlying4 (h0.trans g0)
    obtain ⟨s, e1, _⟩ := DataW.trod_string Try.underlying9 (h1.trans g1)
    simp at e0 e1
    exact ⟨⟨q, s⟩, by rw [e0, e1]⟩
theorem cell_shape {fuel : Nat} {cs : List Value} {x : DataW H × List MemPlace} (h : DataW.trod enc Try.prog w base spare held fuel 40 cs = some x) : ∃ v : S40, cs = encs1 v := by
  obtain ⟨ys, n, _, _, hlen, hyl, hf⟩ := DataW.trod_struct Try.underlying40 h
  rw [cells40] at hlen
  match cs, hlen with
  | [a, b, c], _ =>
    have hys : ys.length = 2 := hyl
    have h0 : DataW.trod enc Try.prog w base spare held n 9 (([a, b, c].drop 0).take (Try.prog.cellsOf 9)) = ys[0]? := hf 0 _ rfl
    have h1 : DataW.trod enc Try.prog w base spare held n 26 (([a, b, c].drop 1).take (Try.prog.cellsOf 26)) = ys[1]? := hf 1 _ rfl
    rw [cells9] at h0
    rw [cells26] at h1
    have g0 : ys[0]? = some (ys[0]'(by omega)) := List.getElem?_eq_getElem (by omega)
    have g1 : ys[1]? = some (ys[1]'(by omega)) := List.getElem?_eq_getElem (by omega)
    obtain ⟨s, e0, _⟩ := DataW.trod_string Try.underlying9 (h0.trans g0)
    obtain ⟨v, e1⟩ := value_shape (h1.trans g1)
    simp at e0 e1
    obtain ⟨e1, e2⟩ := e1
    exact ⟨⟨s, v⟩, by rw [e0, e1, e2]; rfl⟩
theorem slice_shape {fuel : Nat} {cs : List Value} {x : DataW H × List MemPlace} (h : DataW.trod enc Try.prog w base spare held fuel 22 cs = some x) :
    ∃ (A : Option Addr) (c : Nat) (l : List S40), cs = [.slice A l.length c] ∧ l.length ≤ c ∧ Kd.C k40 w A l.length l := by
  rcases open_slice Try.underlying22 h with ⟨rfl, _⟩ | ⟨a, len, cap, m, n, D, Pl, rfl, hb, hlc, hcm, hm, _, hi⟩
  · exact ⟨none, 0, [], rfl, Nat.le_refl _, rfl, by simp, fun h => absurd h (by simp)⟩
  · have hlm : len ≤ m := by rw [hm]; split <;> omega
    have hex : ∀ i, i < len → ∃ v : S40, ∀ j u, (encs1 v)[j]? = some u → w.cell? (a.add (i * 3 + j)) = some u := fun i hil => by
      obtain ⟨cs', hc, ht⟩ := hi i (by omega)
      rw [cells40] at hc
      obtain ⟨v, hv⟩ := cell_shape ht
      subst hv
      obtain ⟨_, _, hat⟩ := World.cells?_some hc
      refine ⟨v, fun j u hu => ?_⟩
      have hj : j < 3 := (List.getElem?_eq_some_iff.1 hu).1
      rw [← Go.Deep.add_add, hat j hj]
      exact hu
    haveI : Inhabited S40 := ⟨z40⟩
    obtain ⟨X, hX⟩ := choose_lt hex
    have hl : ((List.range len).map X).length = len := by simp
    refine ⟨some a, cap, (List.range len).map X, by rw [hl], by rw [hl]; exact hlc, ?_⟩
    rw [hl]
    refine ⟨hl, by unfold maxLen at hcm; omega, fun _ => ⟨a, rfl, fun j p hj => ?_⟩⟩
    have hjl : j < len := by
      have := (List.getElem?_eq_some_iff.1 hj).1
      omega
    have hp : p = X j := by
      rw [List.getElem?_map, List.getElem?_range hjl] at hj
      simpa using hj.symm
    subst hp
    exact ⟨encs1 (X j), rfl, k40_mk w (X j), hX j hjl⟩
end

set_option maxRecDepth 100000 in
theorem lifted (os : Os) (started : os.Started) (H : Type) (enc : TypeId × Value → H) :
    ReturnsInHanded {} Try.checked os 3 .any (Rows.pageSetsSpec.pre6 enc Try.prog Try.f3 Rows.pageSetsRow.domain false) (Rows.pageSetsSpec.post enc Try.prog Try.f3 false true false false) := by
  refine returnsInHanded_of_change (C := Try.checked) own started (by kernel_rfl) Try.func3
    (ChangeSpec.witness6 (enc := enc) (C := Try.checked) false ⟨#[], #[.agg #[.int .i64 0, .slice none 0 0], .int .i64 0, .string ⟨#[]⟩, .agg #[.bool false, .string ⟨#[]⟩]], []⟩ 8 (by kernel_rfl) (by kernel_rfl) (by kernel_rfl) (by kernel_rfl)) ?_
  intro W base args ds gs before hval0 hW _ _
  have hval : ∀ (j : Nat) t v, Try.f3.params[j]? = some t → args[j]? = some v → Value.okWide Try.prog W .any base t v := hval0
  have hW' := hW
  obtain ⟨p, q, hA0, hV, rfl, _, _⟩ := hW
  have hA : DataW.TrodAll enc Try.prog W 0 (fun _ => true) true Try.f3.params.toList args.toList ds p := hA0
  rw [Try.params3] at hA hval
  obtain ⟨v0, vs0, d0, ds0, p0, q0, hargs, rfl, rfl, h0, r0⟩ := trodAll_cons hA
  obtain ⟨v1, vs1, d1, ds1, p1, q1, rfl, rfl, rfl, h1, r1⟩ := trodAll_cons r0
  obtain ⟨v2, vs2, d2, ds2, p2, q2, rfl, rfl, rfl, h2, r2⟩ := trodAll_cons r1
  obtain ⟨v3, vs3, d3, ds3, p3, q3, rfl, rfl, rfl, h3, r3⟩ := trodAll_cons r2
  obtain ⟨rfl, rfl, rfl⟩ := trodAll_nil r3
  obtain rfl : args = #[v0, v1, v2, v3] := by cases args; simp_all
  obtain ⟨rfl, rfl⟩ := trodVars_none hV
  have hlt : ∀ x ∈ p0 ++ (p1 ++ (p2 ++ (p3 ++ []))), x.block < W.heap.size := fun x hx => hW'.lt x (by simpa using hx)
  obtain ⟨c0, c1, y0, y1, m, e0, _, _, hy0, hy1⟩ := open_agg2 Try.underlying24 (by kernel_rfl) cells24 (hval 0 24 v0 rfl rfl) h0
  obtain ⟨n, en, _, _⟩ := DataW.trod_int Try.underlying3 hy0
  obtain ⟨A, c, l, es, hlc, hC⟩ := slice_shape hy1
  obtain ⟨lsn, e1, _, _, _⟩ := open_int Try.underlying3 (hval 1 3 v1 rfl rfl) h1
  obtain ⟨y, e2, _, _, _⟩ := Go.ChangeMaps.open_string Try.underlying9 (hval 2 9 v2 rfl rfl) h2
  obtain ⟨c2, c3, y2, y3, m2, e3, _, _, hy2, hy3⟩ := open_agg2 Try.underlying26 (by kernel_rfl) cells26 (hval 3 26 v3 rfl rfl) h3
  obtain ⟨h, eh, _⟩ := DataW.trod_bool Try.underlying4 hy2
  obtain ⟨d, ed, _⟩ := DataW.trod_string Try.underlying9 hy3
  simp only [List.cons.injEq, and_true] at en es eh ed
  have ea : v0 = .agg #[.int .i64 n, .slice A l.length c] := by rw [e0, en, es]
  have eb : v3 = .agg #[.bool h, .string d] := by rw [e3, eh, ed]
  obtain ⟨k, hk⟩ := law_eq n l lsn y h d
  have hw := trothlaw10_PageSets.calls k n A c l lsn y h d true rfl W hC hlc hk
  rw [← ea, ← eb, ← e1, ← e2] at hw
  refine hw.mono fun e W' ⟨he, hb⟩ => ?_
  refine ⟨_, he, post_of_below (pa := p0 ++ (p1 ++ (p2 ++ (p3 ++ [])))) (pv := []) hW' (fun _ _ _ => trodAll_mk1 (shut_bool Try.underlying4 _)) (fun sp hsp => ?_) (fun _ _ => rfl) rfl hb (ok_one (by kernel_rfl) rfl (okWide_bool_mk Try.underlying4 _))⟩
  have stays : ∀ {t : TypeId} {v : Value} {dd : DataW H} {ps : List MemPlace} (hr : Try.prog.readableRec t = true) (hrow : t < Try.prog.types.size), DataW.Trod enc Try.prog W 0 (fun _ => true) true t v dd ps → (∀ x ∈ ps, x ∈ p0 ++ (p1 ++ (p2 ++ (p3 ++ [])))) → DataW.Trod enc Try.prog W' 0 sp true t v dd ps := fun hr hrow ht hin =>
    WideElems.Trod_stays (P := Try.prog) laidOut_ hr hrow ht (fun x hx => hb.same (hlt x (hin x hx))) (fun x hx => hsp x (by simpa using hin x hx))
  rw [Try.params3]
  exact trodAll_cons_mk (stays (by kernel_rfl) (of_decide_eq_true (by kernel_rfl)) h0 (fun x hx => by simp [hx])) (trodAll_cons_mk (stays (by kernel_rfl) (of_decide_eq_true (by kernel_rfl)) h1 (fun x hx => by simp [hx]))
    (trodAll_cons_mk (stays (by kernel_rfl) (of_decide_eq_true (by kernel_rfl)) h2 (fun x hx => by simp [hx])) (trodAll_cons_mk (stays (by kernel_rfl) (of_decide_eq_true (by kernel_rfl)) h3 (fun x hx => by simp [hx])) trodAll_mk0)))

theorem holds : Rows.PageSetsSaid :=
  OpenClaim.holds_of_wide 3 Try.f3 rfl rfl rfl rfl rfl rfl rfl ⟨rfl, rfl, rfl, rfl, rfl⟩ rfl rfl rfl rfl rfl (by kernel_rfl) Try.func3 (by kernel_rfl)
    (of_decide_eq_true (by kernel_rfl)) (by unfold Func.isWrapper; first | (rw [if_pos (by decide +kernel)]; kernel_rfl) | (rw [if_neg (by decide +kernel)]; exact ⟨rfl, rfl⟩))
    (fun os started H enc _ => lifted os started H enc)

end Go.Proofs.Ytoedoakldogkhaa.Ps

namespace Go.Proofs.Ytoedoakldogkhaa
theorem pageSets_holds : Rows.PageSetsSaid := Ps.holds

#print axioms pageSets_holds
end Go.Proofs.Ytoedoakldogkhaa

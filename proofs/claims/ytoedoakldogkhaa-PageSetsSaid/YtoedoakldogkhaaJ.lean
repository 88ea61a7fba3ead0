/- The contract of page.Set where the key has a cell: of at most 1000 cells. -/
import Derived.Test.YtoedoakldogkhaaI
namespace Go.Proofs.Ytoedoakldogkhaa.Ps
open Go.RowKit Go.Proofs.YtoedoakldogkhaaW.PrintWords Go.Proofs.YtoedoakldogkhaaW.PrintLast Go.Proofs.YtoedoakldogkhaaW.PrintMore
set_option linter.unusedVariables false
set_option linter.unusedSimpArgs false

theorem boxes3 (w : World) (o1 o2 o3 : Obj) : (((w.alloc o1).alloc o2).alloc o3).heap[w.heap.size + 1]? = some o2 ∧ (((w.alloc o1).alloc o2).alloc o3).heap[w.heap.size + 1 + 1]? = some o3 := by
  have h1 : (w.alloc o1).heap.size = w.heap.size + 1 := by simp
  have h2 : ((w.alloc o1).alloc o2).heap.size = w.heap.size + 1 + 1 := by simp
  refine ⟨(heap_alloc_old _ _ (by simp)).trans ?_, ?_⟩
  · have := heap_alloc_new (w.alloc o1) o2
    rwa [h1] at this
  · have := heap_alloc_new ((w.alloc o1).alloc o2) o3
    rwa [h2] at this
def encs1 (x : S40) : List Value := [.string x.f0, .bool x.f1.f0, .string x.f1.f1]
/-- The cells of a list of cells. -/
def encl (l : List S40) : List Value := l.flatMap encs1
theorem isOf_lt {l : List S40} {y : ByteArray} (h : isOf l y = true) : fdOf l y < l.length := by
  unfold isOf at h
  rw [Bool.and_eq_true] at h
  exact of_decide_eq_true h.1
theorem encl_length (l : List S40) : (encl l).length = l.length * 3 := by
  induction l with
  | nil => rfl
  | cons x l ih => simp only [encl, List.flatMap_cons, List.length_append] at *; rw [ih]; simp [encs1]; omega
theorem encl_append (l m : List S40) : encl (l ++ m) = encl l ++ encl m := by simp [encl]
theorem encl_take (l : List S40) (i : Nat) (hi : i ≤ l.length) : (encl l).take (i * 3) = encl (l.take i) := by
  have h : encl l = encl (l.take i) ++ encl (l.drop i) := by rw [← encl_append, List.take_append_drop]
  rw [h]
  exact List.take_left' (by rw [encl_length, List.length_take]; omega)
theorem encl_drop (l : List S40) (i : Nat) (hi : i ≤ l.length) : (encl l).drop (i * 3) = encl (l.drop i) := by
  have h : encl l = encl (l.take i) ++ encl (l.drop i) := by rw [← encl_append, List.take_append_drop]
  rw [h]
  exact List.drop_left' (by rw [encl_length, List.length_take]; omega)
theorem encl_one (l : List S40) : ∀ u ∈ encl l, u.oneCell' = true := by
  intro u hu
  simp only [encl, List.mem_flatMap] at hu
  obtain ⟨x, _, hx⟩ := hu
  simp [encs1] at hx
  rcases hx with rfl | rfl | rfl <;> rfl
theorem encl_at (l : List S40) (i : Nat) (hi : i < l.length) : ((encl l).drop (i * 3)).take 3 = encs1 l[i] := by
  rw [encl_drop l i (by omega), List.drop_eq_getElem_cons hi]
  exact List.take_left' (l₂ := encl (l.drop (i + 1))) rfl
theorem reps_encl {R : S40 → List Value → Prop} (hR : ∀ x cs, R x cs → cs = encs1 x) : ∀ (l : List S40) (cs : List Value), Reps R 3 l cs → cs = encl l := by
  intro l
  induction l with
  | nil => intro cs h; exact List.eq_nil_of_length_eq_zero (by simpa using h.1)
  | cons x l ih =>
    intro cs h
    have hl : cs.length = (l.length + 1) * 3 := by simpa using h.1
    have h0 := hR _ _ (h.2 0 x rfl)
    have h1 : Reps R 3 l (cs.drop 3) := ⟨by rw [List.length_drop, hl]; omega, fun j p hj => by
      have := h.2 (j + 1) p (by simpa using hj)
      rw [List.drop_drop, show 3 + j * 3 = (j + 1) * 3 by omega]
      exact this⟩
    have h2 := ih _ h1
    rw [Nat.zero_mul, List.drop_zero] at h0
    show cs = encs1 x ++ encl l
    rw [← h2, ← h0, List.take_append_drop]
theorem encl_set (l : List S40) (i : Nat) (hi : i < l.length) (v : S26) : ((encl l).set (i * 3 + 1) (.bool v.f0)).set (i * 3 + 1 + 1) (.string v.f1) = encl (l.set i ⟨l[i].f0, v⟩) := by
  have hl : encl l = encl (l.take i) ++ (encs1 l[i] ++ encl (l.drop (i + 1))) := by
    rw [← encl_take l i (by omega), show encs1 l[i] ++ encl (l.drop (i + 1)) = encl (l.drop i) by rw [List.drop_eq_getElem_cons hi]; rfl, ← encl_drop l i (by omega), List.take_append_drop]
  have h0 : (encl (l.take i)).length = i * 3 := by rw [encl_length, List.length_take]; omega
  rw [hl, List.set_append_right _ _ (by omega), List.set_append_right _ _ (by omega), h0, show i * 3 + 1 - i * 3 = 1 by omega, show i * 3 + 1 + 1 - i * 3 = 2 by omega]
  have hs : l.set i ⟨l[i].f0, v⟩ = l.take i ++ ⟨l[i].f0, v⟩ :: l.drop (i + 1) := by rw [List.set_eq_take_append_cons_drop, if_pos hi]
  rw [hs, encl_append]
  rfl
/-- What a call of page.Set leaves where it sets. -/
def Sets (w : World) (lsn : Int) (r : List S40) (e : Ending) (w' : World) : Prop :=
  ∃ A c, e = .returned (.tuple #[.agg #[.int .i64 lsn, .slice A r.length c], .int .i64 0]) ∧ r.length ≤ c ∧ w'.ownsRow w.heap.size 40 3 (.slice A r.length c) r.length (encl r) ∧ Below w.heap.size w w'
theorem R_of_encl {w : World} {B : Nat} {v : Value} {l : List S40} (h : w.ownsRow B 40 3 v l.length (encl l)) : Kd.R k40 40 w B (fun _ => True) v l :=
  ⟨fun _ _ => trivial, encl l, h, by
    refine ⟨by rw [encl_length]; rfl, fun j p hj => ?_⟩
    obtain ⟨hjl, rfl⟩ := List.getElem?_eq_some_iff.1 hj
    have e := encl_at l j hjl
    show k40.M _ _ _ _ ((List.drop (j * 3) (encl l)).take 3)
    rw [e]
    exact k40_mkM _ _ _ _⟩
theorem sets_R {w : World} {lsn : Int} {r : List S40} {e : Ending} {w' : World} (h : Sets w lsn r e w') : ∃ v1_ : Value, e = .returned (.tuple #[.agg #[.int .i64 lsn, v1_], .int .i64 0]) ∧ Kd.R k40 40 w' w.heap.size (fun _ => True) v1_ r ∧ Below w.heap.size w w' := by
  obtain ⟨A, c, he, _, ho, hb⟩ := h
  exact ⟨_, he, R_of_encl ho, hb⟩
theorem R_encl {w : World} {B : Nat} {ok : Nat → Prop} {v : Value} {l : List S40} (h : Kd.R k40 40 w B ok v l) : w.ownsRow B 40 3 v l.length (encl l) := by
  obtain ⟨_, inner, ho, hr⟩ := h
  have := reps_encl (fun x cs hx => k40_openM hx) l inner hr
  subst this
  exact ho
theorem C_encl {w : World} {B n c : Nat} {A : Option Addr} {l : List S40} (h : w.ownsRow B 40 3 (.slice A n c) n (encl l)) (hn : l.length = n) : Kd.C k40 w A n l := by
  have hR : Reps (k40.K w) 3 l (encl l) := ⟨by rw [encl_length], fun j p hj => by
    obtain ⟨hjl, rfl⟩ := List.getElem?_eq_some_iff.1 hj
    rw [encl_at l j hjl]
    exact k40_mk w _⟩
  obtain ⟨A', c', e, hr⟩ := own_reads_row h hR hn
  injection e with e1 e2 e3
  subst e1
  exact hr


set_option maxHeartbeats 2000000 in
theorem set_is (k : Nat) (n : Int) (A : Option Addr) (c : Nat) (l : List S40) (lsn : Int) (y : ByteArray) (h : Bool) (d : ByteArray) (w : World) (hr : Kd.C k40 w A l.length l) (hc : l.length ≤ c) (hm : page_may.f k n l = some true) (hf : page_fits.f y h d = some true) (hl : decide (lsn < 1) = false) (hg : decide (1099511627776 < lsn) = false) (hrm : roomOf l y = true) (hln : l.length ≤ 1000) (his : isOf l y = true) :
    Calls Try.prog 6 #[.agg #[.int .i64 n, .slice A l.length c], .int .i64 lsn, .string y, .agg #[.bool h, .string d]] w (Sets w lsn (l.set (fdOf l y) ⟨(rd_T40 l (fdOf l y)).f0, ⟨h, d⟩⟩)) := by
  have HR := Aside0.mk hr
  have HC := Aside0.mk hc
  have HM := Aside0.mk hm
  have HF := Aside0.mk hf
  have HRM := Aside0.mk hrm
  have HL := Aside0.mk hln
  have HIS := Aside0.mk his
  clear hr hc hm hf hrm hln his
  have HB := Aside0.mk ((((Below.refl w.heap.size w).alloc (Nat.le_refl _) (.cells #[.int .i64 n, .slice A l.length c] 24)).alloc (by simp) (.cells #[.bool h, .string d] 26)).alloc (by simp; omega) (.cells #[.int .i64 0, .slice none 0 0] 24))
  go_enter Try.func6, Try.ntmps6
  go_wp2_with (first
    | (go_at_call 14; refine (page_may.calls k _ _ _ _ _ _ (Kd.C_below HR.out HB.out) HC.out HM.out).mono ?_; rintro e w1 ⟨rfl, hb1⟩; obtain ⟨hc1, hf1⟩ := bcell hb1; have HB1 := Aside0.mk (HB.out.trans (hb1.mono HB.out.size)); obtain ⟨z0, z1, z2⟩ := sizes3 hb1.size; have hb1K := Aside0.mk hb1; clear hb1)
    | (go_at_call 15; refine (page_fits.calls _ _ _ _ _ HF.out).mono ?_; rintro e w2 ⟨rfl, hb2⟩; obtain ⟨hc2, hf2⟩ := bcell hb2; have HB2 := Aside0.mk (HB1.out.trans (hb2.mono HB1.out.size)); obtain ⟨y0, y1, y2⟩ : w.heap.size < w2.heap.size ∧ w.heap.size + 1 < w2.heap.size ∧ w.heap.size + 1 + 1 < w2.heap.size := ⟨Nat.lt_of_lt_of_le z0 hb2.size, Nat.lt_of_lt_of_le z1 hb2.size, Nat.lt_of_lt_of_le z2 hb2.size⟩; have hb2K := Aside0.mk (hb1K.out.trans (hb2.mono hb1K.out.size)); clear hb2)
    | (go_at_call 12; refine (room_calls _ _ _ _ _ _ (Kd.C_below HR.out HB2.out) _ HRM.out).mono ?_; rintro e w3 ⟨rfl, hb3⟩; obtain ⟨hc3, hf3⟩ := bcell hb3; have HB3 := Aside0.mk (HB2.out.trans (hb3.mono HB2.out.size)); obtain ⟨x0, x1, x2⟩ : w.heap.size < w3.heap.size ∧ w.heap.size + 1 < w3.heap.size ∧ w.heap.size + 1 + 1 < w3.heap.size := ⟨Nat.lt_of_lt_of_le y0 hb3.size, Nat.lt_of_lt_of_le y1 hb3.size, Nat.lt_of_lt_of_le y2 hb3.size⟩; have hb3K := Aside0.mk (hb2K.out.trans (hb3.mono hb2K.out.size)); clear hb3))
  have BW := Aside0.mk (hb3K.out)
  refine (clone_any _ _ _ _ (Kd.C_below HR.out HB3.out) HL.out).mono ?_
  rintro e w4 ⟨v4, rfl, hr4, hb4⟩
  have BW4 := BW.out.trans (hb4.mono BW.out.size)
  obtain ⟨A4, c4, rfl, hlc, hC4⟩ := Kd.R_reads hr4
  have HO4 := Aside0.mk (R_encl hr4)
  have HC4 := Aside0.mk hC4
  have HB4 := Aside0.mk (HB.out.trans (BW4.mono (by simp; omega)))
  have HLC := Aside0.mk hlc
  have HZ3 := Aside0.mk BW.out.size
  have HZ := Aside0.mk (Nat.le_trans BW.out.size hb4.size)
  have K1 : Aside0 (w4.heap[w.heap.size + 1]? = some (.cells #[.bool h, .string d] 26 (0, 0))) := ⟨(BW4.block _ (by simp)).trans (boxes3 w _ _ _).1⟩
  have K2 : Aside0 (w4.heap[w.heap.size + 1 + 1]? = some (.cells #[.int .i64 0, .slice none 0 0] 24 (0, 0))) := ⟨(BW4.block _ (by simp)).trans (boxes3 w _ _ _).2⟩
  clear hr4 hb4 BW4 hC4 hlc hc1 hf1 hc2 hf2 hc3 hf3 z0 z1 z2 y0 y1 y2 x0 x1 x2 HB1 HB2 HB3 BW hb3K hb1K hb2K
  go_wp2_with fail
  have hlt := (isOf_lt HIS.out)
  obtain ⟨fd, hfd⟩ : ∃ fd, fdOf l y = fd := ⟨_, rfl⟩
  rw [hfd] at hlt
  have HFD := Aside0.mk hfd
  clear hfd
  refine (find_calls _ _ _ _ _ _ (Kd.C_alloc HC4.out _) fd true HFD.out HIS.out).mono ?_
  rintro e w5 ⟨rfl, hb5⟩
  have hs5 : (w4.alloc (.cells #[.int .i64 lsn, .slice A4 l.length c4] 24)).heap.size = w4.heap.size + 1 := by simp
  have hz4 : w.heap.size + 1 + 1 < w4.heap.size := by have := HZ.out; simp at this; omega
  have k1 : w5.heap[w.heap.size + 1]? = _ := (hb5.block _ (by omega)).trans ((heap_alloc_old w4 _ (by omega)).trans K1.out)
  have k2 : w5.heap[w.heap.size + 1 + 1]? = _ := (hb5.block _ (by omega)).trans ((heap_alloc_old w4 _ (by omega)).trans K2.out)
  have k3 : w5.heap[w4.heap.size]? = _ := (hb5.block _ (by omega)).trans (heap_alloc_new w4 _)
  have ho5 := own_move HO4.out (w1 := w5) (fun k hk => (hb5.block k (by have := own_lt HO4.out k hk; omega)).trans (heap_alloc_old w4 _ (own_lt HO4.out k hk)))
  have hB5 : Below w.heap.size w w5 := (HB4.out.alloc HB4.out.size _).trans (hb5.mono (by have := HB4.out.size; omega))
  rcases ho5.2 with ⟨_, h0⟩ | ⟨g, cap, cur, hv0, hBg, hg5, hnc5, hcm5, hcs5, htk5⟩
  · omega
  injection hv0 with hA _ hcc
  subst hA
  subst hcc
  have hgl : g < w4.heap.size := own_lt HO4.out g rfl
  have hgb : w.heap.size + 1 + 1 < g := by have := HZ3.out; simp at this; omega
  have c10 : w5.cell? ⟨w.heap.size + 1, 0, none⟩ = some (.bool h) := (blk_cell k1 0).trans rfl
  have c11 : w5.cell? ⟨w.heap.size + 1, 1, none⟩ = some (.string d) := (blk_cell k1 1).trans rfl
  have c20 : w5.cell? ⟨w.heap.size + 1 + 1, 0, none⟩ = some (.int .i64 0) := (blk_cell k2 0).trans rfl
  have c21 : w5.cell? ⟨w.heap.size + 1 + 1, 1, none⟩ = some (.slice none 0 0) := (blk_cell k2 1).trans rfl
  have f20 := blk_frozen k2 0
  have f21 := blk_frozen k2 1
  have c30 : w5.cell? ⟨w4.heap.size, 0, none⟩ = some (.int .i64 lsn) := (blk_cell k3 0).trans rfl
  have c31 : w5.cell? ⟨w4.heap.size, 1, none⟩ = some (.slice (some ⟨g, 0, none⟩) l.length c4) := (blk_cell k3 1).trans rfl
  have hfc : fd * 3 + 2 < cur.size := by omega
  obtain ⟨q1, cg1⟩ : ∃ q, w5.cell? ⟨g, fd * 3 + 1, none⟩ = some q := ⟨_, (blk_cell hg5 (fd * 3 + 1)).trans (Array.getElem?_eq_getElem (by omega))⟩
  obtain ⟨q2, cg2⟩ : ∃ q, w5.cell? ⟨g, fd * 3 + 1 + 1, none⟩ = some q := ⟨_, (blk_cell hg5 (fd * 3 + 2)).trans (Array.getElem?_eq_getElem (by omega))⟩
  have fg1 := blk_frozen hg5 (fd * 3 + 1)
  have fg2 := blk_frozen hg5 (fd * 3 + 1 + 1)
  have ne1 : ¬ (w4.heap.size = g) := by omega
  have ne2 : ¬ (w.heap.size + 1 + 1 = g) := by omega
  have ne3 : ¬ (w.heap.size + 1 + 1 = w4.heap.size) := by omega
  have ne4 : ¬ (g = w4.heap.size) := by omega
  have ne5 : ¬ (g = w.heap.size + 1 + 1) := by omega
  have hm : l.length ≤ 9223372036854775807 := by have := HL.out; omega
  have ALL := Aside0.mk (And.intro hcs5 (And.intro htk5 (And.intro hcm5 (And.intro hnc5 (And.intro hg5 (And.intro hB5 (And.intro hBg hfc)))))))
  clear hcs5 htk5 hcm5 hnc5 hg5 hB5 hBg hfc k1 k2 k3 ho5 hb5 hs5 HO4
  go_wp2
  obtain ⟨hcs5, htk5, hcm5, hnc5, hg5, hB5, hBg, hfc⟩ := ALL.out
  rw [HFD.out]
  refine bodyPost_ret (v := .tuple #[.agg #[.int .i64 lsn, .slice (some ⟨g, 0, none⟩) l.length c4], .int .i64 0]) (by simp [results, Try.results6, go_sem, c20, c21, f20, f21]) rfl ?_
  have hlen : (l.set fd ⟨(rd_T40 l fd).f0, ⟨h, d⟩⟩).length = l.length := List.length_set
  have h1 := setRow_heap w5 g cur (cur.setIfInBounds (fd * 3 + 1) (.bool h)) 40 (0, 0) hg5
  rw [← setCell_eq_setRow w5 g (fd * 3 + 1) cur 40 (0, 0) (.bool h) hg5] at h1
  have h2 := setRow_heap _ g _ ((cur.setIfInBounds (fd * 3 + 1) (.bool h)).setIfInBounds (fd * 3 + 1 + 1) (.string d)) 40 (0, 0) h1
  rw [← setCell_eq_setRow _ g (fd * 3 + 1 + 1) _ 40 (0, 0) (.string d) h1] at h2
  refine ⟨some ⟨g, 0, none⟩, c4, by rw [hlen], by rw [hlen]; exact hnc5, ?_, ?_⟩
  · rw [hlen]
    refine ⟨by rw [encl_length, hlen], .inr ⟨g, c4, (cur.setIfInBounds (fd * 3 + 1) (.bool h)).setIfInBounds (fd * 3 + 1 + 1) (.string d), rfl, by omega, ?_, hnc5, hcm5, ?_, ?_⟩⟩
    · refine (Below.heap_setCell _ _ _ g (by show g ≠ w.heap.size + 1 + 1; omega)).trans ((Below.heap_setCell _ _ _ g (by show g ≠ w.heap.size + 1 + 1; omega)).trans ?_)
      exact h2
    · simp [hcs5]
    · rw [Array.toList_setIfInBounds, Array.toList_setIfInBounds, List.take_set, List.take_set, htk5]
      have := encl_set l fd hlt ⟨h, d⟩
      rw [rd_at hlt]
      exact this
  · exact (((hB5.setCell (p := ⟨g, fd * 3 + 1, none⟩) (by show w.heap.size ≤ g; omega) _).setCell (p := ⟨g, fd * 3 + 1 + 1, none⟩) (by show w.heap.size ≤ g; omega) _).setCell (p := ⟨w.heap.size + 1 + 1, 0, none⟩) (by show w.heap.size ≤ w.heap.size + 1 + 1; omega) _).setCell (p := ⟨w.heap.size + 1 + 1, 1, none⟩) (by show w.heap.size ≤ w.heap.size + 1 + 1; omega) _
end Go.Proofs.Ytoedoakldogkhaa.Ps

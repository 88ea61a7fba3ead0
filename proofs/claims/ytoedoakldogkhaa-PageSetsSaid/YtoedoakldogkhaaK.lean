/- The contract of page.Set where the key has no cell: of at most 1000 cells. -/
import Derived.Test.YtoedoakldogkhaaJ
namespace Go.Proofs.Ytoedoakldogkhaa.Ps
open Go.RowKit Go.Proofs.YtoedoakldogkhaaW.PrintWords Go.Proofs.YtoedoakldogkhaaW.PrintLast Go.Proofs.YtoedoakldogkhaaW.PrintMore
set_option linter.unusedVariables false
set_option linter.unusedSimpArgs false

theorem blk_apart {w : World} {g b t1 t2 : Nat} {c1 c2 : Array Value} (h1 : w.heap[g]? = some (.cells c1 t1 (0, 0))) (h2 : w.heap[b]? = some (.cells c2 t2 (0, 0))) (ht : t1 ≠ t2) : g ≠ b := by
  rintro rfl
  rw [h1] at h2
  injection h2 with h2
  injection h2 with _ h2
  exact ht h2
theorem get_new (l l1 : List S40) (i : Nat) (x : S40) (h : l1 = l.take i ++ x :: l.drop i) (hi : i ≤ l.length) (hj : i < l1.length) : l1[i] = x := by
  have e : l1[i]? = some x := by
    rw [h, List.getElem?_append_right (by simp; omega), show i - (l.take i).length = 0 by simp; omega]
    rfl
  exact (List.getElem?_eq_some_iff.1 e).2
theorem encl_new (l : List S40) (i : Nat) (y : ByteArray) (hi : i ≤ l.length) : encl (l.take i ++ ⟨y, z26⟩ :: l.drop i) = (encl l).take (i * 3) ++ [.string y, .bool false, .string ⟨#[]⟩] ++ (encl l).drop (i * 3) := by
  rw [encl_take l i hi, encl_drop l i hi, encl_append, List.append_assoc]
  rfl
set_option maxHeartbeats 2000000 in
theorem set_new (k : Nat) (n : Int) (A : Option Addr) (c : Nat) (l : List S40) (lsn : Int) (y : ByteArray) (h : Bool) (d : ByteArray) (w : World) (hr : Kd.C k40 w A l.length l) (hc : l.length ≤ c) (hm : page_may.f k n l = some true) (hf : page_fits.f y h d = some true) (hl : decide (lsn < 1) = false) (hg : decide (1099511627776 < lsn) = false) (hrm : roomOf l y = true) (hln : l.length ≤ 1000) (his : isOf l y = false) :
    Calls Try.prog 6 #[.agg #[.int .i64 n, .slice A l.length c], .int .i64 lsn, .string y, .agg #[.bool h, .string d]] w (Sets w lsn (l.take (fdOf l y) ++ ⟨y, ⟨h, d⟩⟩ :: l.drop (fdOf l y))) := by
  have HR := Aside0.mk hr
  have HC := Aside0.mk hc
  have HM := Aside0.mk hm
  have HF := Aside0.mk hf
  have HRM := Aside0.mk hrm
  have HL := Aside0.mk hln
  have HIS := Aside0.mk his
  clear hr hc hm hf hrm hln his
  have HB := Aside0.mk ((((Below.refl w.heap.size w).alloc (Nat.le_refl _) (.cells #[.int .i64 n, .slice A l.length c] 24)).alloc (by simp) (.cells #[.bool h, .string d] 26)).alloc (by simp; omega) (.cells #[.int .i64 0, .slice none 0 0] 24))
  go_enter Try.func6, Try.ntmps6
  go_wp2_with (first
    | (go_at_call 14; refine (page_may.calls k _ _ _ _ _ _ (Kd.C_below HR.out HB.out) HC.out HM.out).mono ?_; rintro e w1 ⟨rfl, hb1⟩; obtain ⟨hc1, hf1⟩ := bcell hb1; have HB1 := Aside0.mk (HB.out.trans (hb1.mono HB.out.size)); obtain ⟨z0, z1, z2⟩ := sizes3 hb1.size; have hb1K := Aside0.mk hb1; clear hb1)
    | (go_at_call 15; refine (page_fits.calls _ _ _ _ _ HF.out).mono ?_; rintro e w2 ⟨rfl, hb2⟩; obtain ⟨hc2, hf2⟩ := bcell hb2; have HB2 := Aside0.mk (HB1.out.trans (hb2.mono HB1.out.size)); obtain ⟨y0, y1, y2⟩ : w.heap.size < w2.heap.size ∧ w.heap.size + 1 < w2.heap.size ∧ w.heap.size + 1 + 1 < w2.heap.size := ⟨Nat.lt_of_lt_of_le z0 hb2.size, Nat.lt_of_lt_of_le z1 hb2.size, Nat.lt_of_lt_of_le z2 hb2.size⟩; have hb2K := Aside0.mk (hb1K.out.trans (hb2.mono hb1K.out.size)); clear hb2)
    | (go_at_call 12; refine (room_calls _ _ _ _ _ _ (Kd.C_below HR.out HB2.out) _ HRM.out).mono ?_; rintro e w3 ⟨rfl, hb3⟩; obtain ⟨hc3, hf3⟩ := bcell hb3; have HB3 := Aside0.mk (HB2.out.trans (hb3.mono HB2.out.size)); obtain ⟨x0, x1, x2⟩ : w.heap.size < w3.heap.size ∧ w.heap.size + 1 < w3.heap.size ∧ w.heap.size + 1 + 1 < w3.heap.size := ⟨Nat.lt_of_lt_of_le y0 hb3.size, Nat.lt_of_lt_of_le y1 hb3.size, Nat.lt_of_lt_of_le y2 hb3.size⟩; have hb3K := Aside0.mk (hb2K.out.trans (hb3.mono hb2K.out.size)); clear hb3))
  have BW := Aside0.mk (hb3K.out)
  refine (clone_any _ _ _ _ (Kd.C_below HR.out HB3.out) HL.out).mono ?_
  rintro e w4 ⟨v4, rfl, hr4, hb4⟩
  have BW4 := BW.out.trans (hb4.mono BW.out.size)
  obtain ⟨A4, c4, rfl, hlc, hC4⟩ := Kd.R_reads hr4
  have HO4 := Aside0.mk (R_encl hr4)
  have HC4 := Aside0.mk hC4
  have HB4 := Aside0.mk (HB.out.trans (BW4.mono (by simp; omega)))
  have HLC := Aside0.mk hlc
  have HZ3 := Aside0.mk BW.out.size
  have HZ := Aside0.mk (Nat.le_trans BW.out.size hb4.size)
  have K1 : Aside0 (w4.heap[w.heap.size + 1]? = some (.cells #[.bool h, .string d] 26 (0, 0))) := ⟨(BW4.block _ (by simp)).trans (boxes3 w _ _ _).1⟩
  have K2 : Aside0 (w4.heap[w.heap.size + 1 + 1]? = some (.cells #[.int .i64 0, .slice none 0 0] 24 (0, 0))) := ⟨(BW4.block _ (by simp)).trans (boxes3 w _ _ _).2⟩
  clear hr4 hb4 BW4 hC4 hlc hc1 hf1 hc2 hf2 hc3 hf3 z0 z1 z2 y0 y1 y2 x0 x1 x2 HB1 HB2 HB3 BW hb3K hb1K hb2K
  go_wp2_with fail
  have hlt := fd_le l y
  obtain ⟨fd, hfd⟩ : ∃ fd, fdOf l y = fd := ⟨_, rfl⟩
  rw [hfd] at hlt
  have HFD := Aside0.mk hfd
  clear hfd
  refine (find_calls _ _ _ _ _ _ (Kd.C_alloc HC4.out _) fd false HFD.out HIS.out).mono ?_
  rintro e w5 ⟨rfl, hb5⟩
  have hs5 : (w4.alloc (.cells #[.int .i64 lsn, .slice A4 l.length c4] 24)).heap.size = w4.heap.size + 1 := by simp
  have hz4 : w.heap.size + 1 + 1 < w4.heap.size := by have := HZ.out; simp at this; omega
  have k1 : w5.heap[w.heap.size + 1]? = _ := (hb5.block _ (by omega)).trans ((heap_alloc_old w4 _ (by omega)).trans K1.out)
  have k2 : w5.heap[w.heap.size + 1 + 1]? = _ := (hb5.block _ (by omega)).trans ((heap_alloc_old w4 _ (by omega)).trans K2.out)
  have k3 : w5.heap[w4.heap.size]? = _ := (hb5.block _ (by omega)).trans (heap_alloc_new w4 _)
  have ho5 := own_move HO4.out (w1 := w5) (fun k hk => (hb5.block k (by have := own_lt HO4.out k hk; omega)).trans (heap_alloc_old w4 _ (own_lt HO4.out k hk)))
  have hB5 : Below w.heap.size w w5 := (HB4.out.alloc HB4.out.size _).trans (hb5.mono (by have := HB4.out.size; omega))
  have c10 : w5.cell? ⟨w.heap.size + 1, 0, none⟩ = some (.bool h) := (blk_cell k1 0).trans rfl
  have c11 : w5.cell? ⟨w.heap.size + 1, 1, none⟩ = some (.string d) := (blk_cell k1 1).trans rfl
  have c30 : w5.cell? ⟨w4.heap.size, 0, none⟩ = some (.int .i64 lsn) := (blk_cell k3 0).trans rfl
  have c31 : w5.cell? ⟨w4.heap.size, 1, none⟩ = some (.slice A4 l.length c4) := (blk_cell k3 1).trans rfl
  have hm : l.length ≤ 9223372036854775807 := by have := HL.out; omega
  have HK := Aside0.mk (And.intro k1 (And.intro k2 k3))
  have HO5 := Aside0.mk ho5
  have HOW4 := Aside0.mk HO4.out
  have HB5 := Aside0.mk hB5
  have HB45 := Aside0.mk hb5
  clear k1 k2 k3 ho5 hB5 HO4 hb5
  go_wp2_with fail
  have hz3 : w.heap.size + 1 + 1 < w3.heap.size := by have := HZ3.out; simp at this; omega
  have hown3 := own_weaken HO5.out (Nat.le_of_lt (Nat.lt_of_le_of_lt (by omega) hz3) : w.heap.size ≤ w3.heap.size)
  have hc63 : c4 ≤ 9223372036854775807 := by
    rcases hown3.2 with ⟨e0, _⟩ | ⟨g, cap, cur, e0, _, _, _, hcm, _⟩
    · injection e0 with _ _ e1
      omega
    · injection e0 with _ _ e1
      unfold maxLen at hcm
      omega
  have hown4 : ∀ q, (Value.slice A4 l.length c4).ownBlock = some q → w3.heap.size ≤ q ∧ q < w4.heap.size := fun q hq => ⟨own_base HO5.out q hq, by
    have h1 := own_lt HOW4.out q hq
    exact h1⟩
  have hz45 : w4.heap.size < w5.heap.size := by have := HB45.out.size; simp at this; omega
  refine (insert_calls w5.heap.size l.length c4 fd w.heap.size A4 (encl l) _ _ _ _ hlt HL.out (by have := HB5.out.size; simp; omega) HLC.out hc63 (hown3.alloc _) (fun e => by have := hown4 _ e; omega) (heap_alloc_new w5 _) (encl_one l) rfl rfl rfl).mono ?_
  rintro e w6 ⟨v6, rfl, ho6, hg6⟩
  have hs6 : (w5.alloc (.cells #[.string y, .bool false, .string ⟨#[]⟩] 40)).heap.size = w5.heap.size + 1 := by simp
  have kk : ∀ q, q < w5.heap.size → (q < w3.heap.size ∨ w4.heap.size ≤ q) → w6.heap[q]? = w5.heap[q]? := fun q hq hq2 =>
    (hg6.block q (by omega) (fun e => by have := hown4 q e.symm; omega)).trans (heap_alloc_old w5 _ hq)
  obtain ⟨k1, k2, k3⟩ := HK.out
  have k1 := (kk _ (by omega) (.inl (by omega))).trans k1
  have k2 := (kk _ (by omega) (.inl (by omega))).trans k2
  have k3 := (kk _ (by omega) (.inr (by omega))).trans k3
  have hB6 : Below w.heap.size w w6 := (HB5.out.alloc HB5.out.size _).grown hg6 (by have := HB5.out.size; omega) (fun q hq => by have := hown4 q hq; omega)
  rw [← encl_new l fd y hlt] at ho6
  obtain ⟨l1, hl1⟩ : ∃ l1, l1 = l.take fd ++ ⟨y, z26⟩ :: l.drop fd := ⟨_, rfl⟩
  rw [← hl1] at ho6
  have hln1 : l1.length = l.length + 1 := by rw [hl1]; simp; omega
  rcases ho6.2 with ⟨_, h0⟩ | ⟨g, cap, cur, hv0, hBg, hg5, hnc5, hcm5, hcs5, htk5⟩
  · omega
  subst hv0
  have ne2 : ¬ (w.heap.size + 1 + 1 = g) := fun e => blk_apart hg5 k2 (by decide) e.symm
  have ne1 : ¬ (w4.heap.size = g) := fun e => blk_apart hg5 k3 (by decide) e.symm
  have ne0 : ¬ (w.heap.size + 1 = g) := fun e => blk_apart hg5 k1 (by decide) e.symm
  have ne3 : ¬ (w.heap.size + 1 + 1 = w4.heap.size) := by omega
  have ne4 : ¬ (g = w4.heap.size) := fun e => ne1 e.symm
  have ne5 : ¬ (g = w.heap.size + 1 + 1) := fun e => ne2 e.symm
  have ne6 : ¬ (w.heap.size + 1 = w4.heap.size) := by omega
  clear c10 c11 c30 c31
  have c10 : w6.cell? ⟨w.heap.size + 1, 0, none⟩ = some (.bool h) := (blk_cell k1 0).trans rfl
  have c11 : w6.cell? ⟨w.heap.size + 1, 1, none⟩ = some (.string d) := (blk_cell k1 1).trans rfl
  have c20 : w6.cell? ⟨w.heap.size + 1 + 1, 0, none⟩ = some (.int .i64 0) := (blk_cell k2 0).trans rfl
  have c21 : w6.cell? ⟨w.heap.size + 1 + 1, 1, none⟩ = some (.slice none 0 0) := (blk_cell k2 1).trans rfl
  have f20 := blk_frozen k2 0
  have f21 := blk_frozen k2 1
  have c30 : w6.cell? ⟨w4.heap.size, 0, none⟩ = some (.int .i64 lsn) := (blk_cell k3 0).trans rfl
  have c31 : w6.cell? ⟨w4.heap.size, 1, none⟩ = some (.slice A4 l.length c4) := (blk_cell k3 1).trans rfl
  have f31 := blk_frozen k3 1
  have hfc : fd * 3 + 2 < cur.size := by omega
  obtain ⟨q1, cg1⟩ : ∃ q, w6.cell? ⟨g, fd * 3 + 1, none⟩ = some q := ⟨_, (blk_cell hg5 (fd * 3 + 1)).trans (Array.getElem?_eq_getElem (by omega))⟩
  obtain ⟨q2, cg2⟩ : ∃ q, w6.cell? ⟨g, fd * 3 + 1 + 1, none⟩ = some q := ⟨_, (blk_cell hg5 (fd * 3 + 2)).trans (Array.getElem?_eq_getElem (by omega))⟩
  have fg1 := blk_frozen hg5 (fd * 3 + 1)
  have fg2 := blk_frozen hg5 (fd * 3 + 1 + 1)
  have hfi : (fd : Int) < (l.length : Int) + 1 := by omega
  have ALL := Aside0.mk (And.intro hcs5 (And.intro htk5 (And.intro hcm5 (And.intro hnc5 (And.intro hg5 (And.intro hB6 (And.intro hBg (And.intro hfc (And.intro hl1 (And.intro hln1 hlt))))))))))
  clear hcs5 htk5 hcm5 hnc5 hg5 hB6 hBg hfc k1 k2 k3 kk hs6 hs5 hown3 hown4 hc63 hg6 ho6 hl1 hln1
  go_wp2
  obtain ⟨hcs5, htk5, hcm5, hnc5, hg5, hB6, hBg, hfc, hl1, hln1, hlt⟩ := ALL.out
  rw [HFD.out]
  refine bodyPost_ret (v := .tuple #[.agg #[.int .i64 lsn, .slice (some ⟨g, 0, none⟩) (l.length + 1) cap], .int .i64 0]) (by simp [results, Try.results6, go_sem, c20, c21, f20, f21]) rfl ?_
  have hget : l1[fd]'(by omega) = ⟨y, z26⟩ := get_new l l1 fd ⟨y, z26⟩ hl1 hlt (by omega)
  have hset : l1.set fd ⟨y, ⟨h, d⟩⟩ = l.take fd ++ ⟨y, ⟨h, d⟩⟩ :: l.drop fd := by
    rw [hl1, List.set_append_right _ _ (by simp; omega), show fd - (l.take fd).length = 0 by simp; omega]
    rfl
  rw [← hset]
  have hlen : (l1.set fd ⟨y, ⟨h, d⟩⟩).length = l.length + 1 := by rw [List.length_set, hln1]
  have h0 := (Below.heap_setCell w6 ⟨w4.heap.size, 1, none⟩ (.slice (some ⟨g, 0, none⟩) (l.length + 1) cap) g (by show g ≠ w4.heap.size; exact ne4)).trans hg5
  have h1 := setRow_heap _ g cur (cur.setIfInBounds (fd * 3 + 1) (.bool h)) 40 (0, 0) h0
  rw [← setCell_eq_setRow _ g (fd * 3 + 1) cur 40 (0, 0) (.bool h) h0] at h1
  have h2 := setRow_heap _ g _ ((cur.setIfInBounds (fd * 3 + 1) (.bool h)).setIfInBounds (fd * 3 + 1 + 1) (.string d)) 40 (0, 0) h1
  rw [← setCell_eq_setRow _ g (fd * 3 + 1 + 1) _ 40 (0, 0) (.string d) h1] at h2
  refine ⟨some ⟨g, 0, none⟩, cap, by rw [hlen], by rw [hlen]; exact hnc5, ?_, ?_⟩
  · rw [hlen]
    refine ⟨by rw [encl_length, hlen], .inr ⟨g, cap, (cur.setIfInBounds (fd * 3 + 1) (.bool h)).setIfInBounds (fd * 3 + 1 + 1) (.string d), rfl, hBg, ?_, hnc5, hcm5, ?_, ?_⟩⟩
    · exact (Below.heap_setCell _ _ _ g (by show g ≠ w.heap.size + 1 + 1; exact ne5)).trans ((Below.heap_setCell _ _ _ g (by show g ≠ w.heap.size + 1 + 1; exact ne5)).trans h2)
    · simp [hcs5]
    · rw [Array.toList_setIfInBounds, Array.toList_setIfInBounds, List.take_set, List.take_set, htk5]
      have := encl_set l1 fd (by omega) ⟨h, d⟩
      rw [hget] at this
      exact this
  · have hz : w.heap.size ≤ w4.heap.size := by omega
    exact ((((hB6.setCell (p := ⟨w4.heap.size, 1, none⟩) hz _).setCell (p := ⟨g, fd * 3 + 1, none⟩) hBg _).setCell (p := ⟨g, fd * 3 + 1 + 1, none⟩) hBg _).setCell (p := ⟨w.heap.size + 1 + 1, 0, none⟩) (by show w.heap.size ≤ w.heap.size + 1 + 1; omega) _).setCell (p := ⟨w.heap.size + 1 + 1, 1, none⟩) (by show w.heap.size ≤ w.heap.size + 1 + 1; omega) _
end Go.Proofs.Ytoedoakldogkhaa.Ps

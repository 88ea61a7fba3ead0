/- The contracts of page.find, and of slices.Clone at cells: for every page that is read from memory (Clone: of at most 1000 cells). -/
import Derived.Test.YtoedoakldogkhaaG
import Derived.Test.YtoedoakldogkhaaE
import Derived.WalkSpells
namespace Go.Proofs.Ytoedoakldogkhaa.Ps
open Go.RowKit Go.Proofs.YtoedoakldogkhaaW.PrintWords Go.Proofs.YtoedoakldogkhaaW.PrintLast Go.Proofs.YtoedoakldogkhaaW.PrintMore
set_option linter.unusedVariables false
set_option linter.unusedSimpArgs false

def geK (y : ByteArray) (x : S40) : Bool := decide (0 ≤ Lib.compareBytes x.f0.data.toList y.data.toList)
/-- The first cell whose key is not below a key; the length: there is none. -/
def fdOf (l : List S40) (y : ByteArray) : Nat := (l.findIdx? (geK y)).getD l.length
def isOf (l : List S40) (y : ByteArray) : Bool := decide (fdOf l y < l.length) && ((rd_T40 l (fdOf l y)).f0.toList == y.toList)
theorem rd_at {l : List S40} {k : Nat} (hk : k < l.length) : rd_T40 l (k : Int) = l[k] := by
  simp [rd_T40, List.getD_eq_getElem?_getD, List.getElem?_eq_getElem hk]
theorem fd_found {l : List S40} {y : ByteArray} {k : Nat} (hk : k < l.length) (hb : geK y (rd_T40 l k) = true) (hn : ∀ j : Nat, j < k → geK y (rd_T40 l j) = false) : fdOf l y = k := by
  have h : l.findIdx? (geK y) = some k := by
    rw [List.findIdx?_eq_some_iff_getElem]
    refine ⟨hk, by rw [← rd_at hk]; exact hb, fun j hj => ?_⟩
    have h1 := hn j hj
    rw [rd_at (by omega)] at h1
    simp [h1]
  rw [fdOf, h]
  rfl
theorem fd_none {l : List S40} {y : ByteArray} (hn : ∀ j : Nat, j < l.length → geK y (rd_T40 l j) = false) : fdOf l y = l.length := by
  have h : l.findIdx? (geK y) = none := by
    rw [List.findIdx?_eq_none_iff]
    intro x hx
    obtain ⟨j, hj, rfl⟩ := List.getElem_of_mem hx
    have h1 := hn j hj
    rwa [rd_at hj] at h1
  rw [fdOf, h]
  rfl
theorem fd_le (l : List S40) (y : ByteArray) : fdOf l y ≤ l.length := by
  unfold fdOf
  cases h : l.findIdx? (geK y) with
  | none => simp
  | some k => exact Nat.le_of_lt (List.findIdx?_eq_some_iff_getElem.1 h).1

set_option maxHeartbeats 2000000 in
theorem find_calls (n : Int) (A : Option Addr) (c : Nat) (l : List S40) (y : ByteArray) (w : World) (hr : Kd.C k40 w A l.length l) (fd : Nat) (b : Bool) (hfd : fdOf l y = fd) (hbb : isOf l y = b) :
    Calls Try.prog 17 #[.agg #[.int .i64 n, .slice A l.length c], .string y] w fun e w' => e = .returned (.tuple #[.int .i64 fd, .bool b]) ∧ Below w.heap.size w w' := by
  have HR := Aside0.mk hr
  have HF := Aside0.mk hfd
  have HBB := Aside0.mk hbb
  have hm : l.length ≤ 9223372036854775807 := hr.2.1
  clear hr hfd hbb
  go_enter Try.func17, Try.ntmps17
  go_wp2
  go_loopw [11] (fun i wr => ∃ k : Nat, k ≤ l.length ∧ i = .int .i64 k ∧ Aside0 (wr.heap[w.heap.size]? = some (.cells #[.int .i64 n, .slice A l.length c] 24 (0, 0))) ∧ Aside0 (Below w.heap.size w wr) ∧ Aside0 (∀ j : Nat, j < k → geK y (rd_T40 l j) = false)) (fun i _ => l.length - (intOf i).toNat)
  case atStart => exact ⟨0, Nat.zero_le _, rfl, ⟨heap_alloc_new w _⟩, ⟨(Below.refl _ _).alloc (Nat.le_refl _) _⟩, ⟨fun j hj => absurd hj (by omega)⟩⟩
  case round =>
    obtain ⟨k, hkl, rfl, HK, HB, HN⟩ := hrel
    by_cases hlt : k < l.length
    · obtain ⟨ad, e1, hx0, hx1, hx2⟩ := at_T40 HR.out (k : Int) (by omega) (by omega)
      rw [Int.toNat_natCast] at hx0 hx1 hx2
      cases e1
      replace hx0 := (HB.out.cell (World.block_lt_of_cell? w _ hx0)).trans hx0
      replace hx1 := (HB.out.cell (World.block_lt_of_cell? w _ hx1)).trans hx1
      replace hx2 := (HB.out.cell (World.block_lt_of_cell? w _ hx2)).trans hx2
      cases hE : geK y (rd_T40 l (k : Int)) with
      | true =>
        have HE := Aside0.mk hE
        have hd : decide (0 ≤ Lib.compareBytes (rd_T40 l (k : Int)).f0.data.toList y.data.toList) = true := hE
        clear hE
        go_wp2_with (go_at_call 27; refine (order_calls _ _ _ y _).mono ?_; rintro e w1 ⟨rfl, hb1⟩; obtain ⟨hc, hf⟩ := bcell hb1; have HB1 := Aside0.mk hb1; clear hb1)
        have hz := HB.out.size
        have HBT := Aside0.mk ((HB.out.alloc hz _).trans (HB1.out.mono (by simp; omega)))
        have hfk : fd = k := by rw [← HF.out]; exact fd_found hlt HE.out HN.out
        have HFK := Aside0.mk hfk
        have hbk : b = ((rd_T40 l (k : Int)).f0.toList == y.toList) := by rw [← HBB.out, isOf, HF.out, hfk, decide_eq_true hlt, Bool.true_and]
        have HBK := Aside0.mk hbk
        clear hfk hbk hz
        go_quiet (fail)
        go_wp2
        go_ret2
        exact ⟨by rw [HFK.out, HBK.out]; rfl, by apply pw_below_drewN; exact HBT.out⟩
      | false =>
        have HE := Aside0.mk hE
        have hd : decide (0 ≤ Lib.compareBytes (rd_T40 l (k : Int)).f0.data.toList y.data.toList) = false := hE
        clear hE
        go_wp2_with (go_at_call 27; refine (order_calls _ _ _ y _).mono ?_; rintro e w1 ⟨rfl, hb1⟩; have HB1 := Aside0.mk hb1; clear hb1)
        go_roundw
        case rel =>
          have hz := HB.out.size
          have hlt2 : w.heap.size < wr.heap.size := (Array.getElem?_eq_some_iff.1 HK.out).1
          refine ⟨k + 1, by omega, by go_num, ⟨?_⟩, ⟨?_⟩, ⟨fun j hj => ?_⟩⟩
          · exact (HB1.out.block _ (by simp; omega)).trans ((heap_alloc_old wr _ hlt2).trans HK.out)
          · exact (HB.out.alloc hz _).trans (HB1.out.mono (by simp; omega))
          · rcases Nat.lt_or_ge j k with h1 | h1
            · exact HN.out j h1
            · obtain rfl : j = k := by omega
              exact HE.out
        case measure => simp [intOf]; omega
    · have hbx : wr.cell? ⟨w.heap.size, 1, none⟩ = some (.slice A l.length c) := (cell_of_row wr _ _ _ 24 (0, 0) HK.out).trans rfl
      obtain rfl : k = l.length := by omega
      have hfd : fd = l.length := by rw [← HF.out]; exact fd_none HN.out
      have hbf : b = false := by rw [← HBB.out, isOf, HF.out, hfd]; simp
      subst hbf
      have HFD := Aside0.mk hfd
      clear hfd
      go_wp2
      go_ret2
      exact ⟨by rw [HFD.out]; rfl, HB.out⟩

set_option maxHeartbeats 2000000 in
theorem clone_nil (c : Nat) (w : World) : Calls Try.prog 16 #[.slice none 0 c] w fun e w' => e = .returned (.slice none 0 0) ∧ w = w' := by
  have he : ∀ W : World, (binOp .eql 22 (.slice none 0 c) (.slice none 0 0)).run Try.prog W = .ok (.bool true) W := fun W => Lib.run_eql_slice_nil W 22 40 _ _ _ _ _ Try.underlying22
  go_enter Try.func16, Try.ntmps16
  go_wp2
  go_ret
  exact ⟨rfl, rfl⟩

set_option maxHeartbeats 2000000 in
theorem clone_calls (ad : Addr) (c : Nat) (l : List S40) (w : World) (hr : Kd.C k40 w (some ad) l.length l) (hl : l.length ≤ 1000) :
    Calls Try.prog 16 #[.slice (some ad) l.length c] w fun e w' => ∃ v, e = .returned v ∧ Kd.R k40 40 w' w.heap.size (fun _ => True) v l ∧ Below w.heap.size w w' := by
  have HR := Aside0.mk hr
  have hm : l.length ≤ 9223372036854775807 := hr.2.1
  have he : ∀ W : World, (binOp .eql 22 (.slice (some ad) l.length c) (.slice none 0 0)).run Try.prog W = .ok (.bool false) W := fun W => Lib.run_eql_slice_nil W 22 40 _ _ _ _ _ Try.underlying22
  have HB := Aside0.mk (Below.refl w.heap.size w)
  clear hr
  go_enter Try.func16, Try.ntmps16
  go_wp2_with (first
    | ((with_reducible refine gate_dst (N := 5) rfl ?_); refine Kd.R_lit k40 (w0 := w) w.heap.size 40 (by rfl) (N := 5) rfl (xs := ([] : List (S40))) (inner := []) (ok := fun _ => True) (okp := fun _ => True) ?hr (Reps.none _ _) (fun _ hk => hk) trivial (Below.refl _ _) (Nat.le_refl _) (by simp) ?_; (case hr => first | (go_simp; done) | (go_simp; rfl)); intro v1 w1 ho1 hb1 hg1 hn1; have HO1 := Aside0.mk ho1; have HB1 := Aside0.mk hb1; clear ho1 hb1 hg1 hn1)
    | (at_builtin; refine Kd.R_append_rows k40 (w0 := w) w.heap.size (by rfl) (.tmp 5) (.tmp 6) 22 40 (.agg #[(.string ⟨#[]⟩), (.bool false), (.string ⟨#[]⟩)]) 40 rfl Try.underlying22 info40 rfl (by decide) (by omega) v1 [] l _ _ _ (fun _ => True) (fun _ => False) rfl rfl HO1.out (Kd.C_below HR.out HB1.out) (fun _ _ h => h) (fun _ h => h.elim) (fun _ _ => trivial) HB1.out HB1.out.size (by simp; omega) ?_; intro v2 w2 ho2 hb2 hg2 hn2; have HO2 := Aside0.mk ho2; have HB2 := Aside0.mk hb2; clear ho2 hb2 hg2 hn2))
  go_ret
  exact ⟨v2, rfl, HO2.out, HB2.out⟩
theorem clone_any (A : Option Addr) (c : Nat) (l : List S40) (w : World) (hr : Kd.C k40 w A l.length l) (hl : l.length ≤ 1000) :
    Calls Try.prog 16 #[.slice A l.length c] w fun e w' => ∃ v, e = .returned v ∧ Kd.R k40 40 w' w.heap.size (fun _ => True) v l ∧ Below w.heap.size w w' := by
  rcases A with _ | ad
  · have hl0 : l = [] := by
      rcases Nat.eq_zero_or_pos l.length with h | h
      · exact List.eq_nil_of_length_eq_zero h
      · obtain ⟨_, e, _⟩ := hr.2.2 h
        cases e
    subst hl0
    refine (clone_nil c w).mono ?_
    rintro e w' ⟨rfl, rfl⟩
    exact ⟨_, rfl, Kd.R_nil _ _ _ _ _, Below.refl _ _⟩
  · exact clone_calls ad c l w hr hl
end Go.Proofs.Ytoedoakldogkhaa.Ps

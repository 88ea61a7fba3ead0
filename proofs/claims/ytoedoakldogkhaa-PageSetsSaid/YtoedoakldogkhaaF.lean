/- The contracts of page.order, page.Get, page.Room and of slices.IndexFunc and ContainsFunc at their closures: for every page that is read from memory, and every key. -/
import Derived.Test.YtoedoakldogkhaaA
import Derived.Test.YtoedoakldogkhaaShelf
namespace Go.Proofs.Ytoedoakldogkhaa.Ps
open Go.RowKit Go.Proofs.YtoedoakldogkhaaW.PrintWords Go.Proofs.YtoedoakldogkhaaW.PrintLast Go.Proofs.YtoedoakldogkhaaW.PrintMore
set_option linter.unusedVariables false
set_option linter.unusedSimpArgs false

/-- The first cell of a key; -1: there is none. -/
def ixOf (l : List S40) (y : ByteArray) : Int :=
  match l.findIdx? (fun x => x.f0.toList == y.toList) with
  | some k => (k : Int)
  | none => -1
theorem ix_found {l : List S40} {y : ByteArray} {k : Nat} (hk : k < l.length) (hb : ((rd_T40 l k).f0.toList == y.toList) = true) (hn : ∀ j : Nat, j < k → ((rd_T40 l j).f0.toList == y.toList) = false) : ixOf l y = k := by
  have h : l.findIdx? (fun x => x.f0.toList == y.toList) = some k := by
    rw [List.findIdx?_eq_some_iff_getElem]
    refine ⟨hk, ?_, fun j hj => ?_⟩
    · simpa [rd_T40, List.getD_eq_getElem?_getD, List.getElem?_eq_getElem hk] using hb
    · have h1 := hn j hj
      have hjl : j < l.length := by omega
      simpa [rd_T40, List.getD_eq_getElem?_getD, List.getElem?_eq_getElem hjl] using h1
  simp [ixOf, h]
theorem ix_none {l : List S40} {y : ByteArray} (hn : ∀ j : Nat, j < l.length → ((rd_T40 l j).f0.toList == y.toList) = false) : ixOf l y = -1 := by
  have h : l.findIdx? (fun x => x.f0.toList == y.toList) = none := by
    rw [List.findIdx?_eq_none_iff]
    intro x hx
    obtain ⟨j, hj, rfl⟩ := List.getElem_of_mem hx
    have h1 := hn j hj
    simpa [rd_T40, List.getD_eq_getElem?_getD, List.getElem?_eq_getElem hj] using h1
  simp [ixOf, h]
theorem bcell {W w1 : World} (hb : Below W.heap.size W w1) : (∀ b o, b < W.heap.size → w1.cell? ⟨b, o, none⟩ = W.cell? ⟨b, o, none⟩) ∧ (∀ b o, b < W.heap.size → w1.frozen? ⟨b, o, none⟩ = W.frozen? ⟨b, o, none⟩) :=
  ⟨fun b o h => hb.cell (p := ⟨b, o, none⟩) h, fun b o h => hb.frozen (p := ⟨b, o, none⟩) h⟩
theorem ret_int {k : IntKind} {a b : Int} (h : a = b) : Ending.returned (.int k a) = .returned (.int k b) := by rw [h]

set_option maxHeartbeats 1000000 in
theorem order_calls (k d : ByteArray) (h : Bool) (y : ByteArray) (w : World) : Calls Try.prog 27 #[.agg #[.string k, .bool h, .string d], .string y] w fun e w' => e = .returned (.int .i64 (Lib.compareBytes k.data.toList y.data.toList)) ∧ Below w.heap.size w w' := by
  go_enter Try.func27, Try.ntmps27
  go_wp2_with (go_at_call 30; refine (Try.strings_Compare _ _ _).mono ?_; rintro e w' ⟨rfl, rfl⟩)
  go_ret
  exact ⟨rfl, (Below.refl _ _).alloc (Nat.le_refl _) _⟩

set_option maxHeartbeats 1000000 in
theorem same23_calls (k d : ByteArray) (h : Bool) (y : ByteArray) (kb : Nat) (w : World) (hk : w.cell? ⟨kb, 0, none⟩ = some (.string y)) (b : Bool) (hE : (k.toList == y.toList) = b) :
    Calls Try.prog 23 #[.agg #[.string k, .bool h, .string d], .pointer (some ⟨kb, 0, none⟩)] w fun e w' => e = .returned (.bool b) ∧ Below w.heap.size w w' := by
  subst hE
  have hb := World.block_lt_of_cell? w _ hk
  have hk' : (w.alloc (.cells #[.string k, .bool h, .string d] 40)).cell? ⟨kb, 0, none⟩ = some (.string y) := by rw [World.cell?_alloc_lt _ _ _ hb]; exact hk
  clear hk
  go_enter Try.func23, Try.ntmps23
  go_wp2
  go_ret
  exact ⟨rfl, (Below.refl _ _).alloc (Nat.le_refl _) _⟩

set_option maxHeartbeats 2000000 in
theorem index23_calls (A : Option Addr) (c : Nat) (l : List S40) (y : ByteArray) (kb : Nat) (w : World) (hr : Kd.C k40 w A l.length l) (hk : w.cell? ⟨kb, 0, none⟩ = some (.string y)) :
    Calls Try.prog 22 #[.slice A l.length c, .func (.func 23) #[] #[.pointer (some ⟨kb, 0, none⟩)]] w fun e w' => e = .returned (.int .i64 (ixOf l y)) ∧ Below w.heap.size w w' := by
  have HR := Aside0.mk hr
  have HK := Aside0.mk hk
  have hm : l.length ≤ 9223372036854775807 := hr.2.1
  clear hr hk
  go_enter Try.func22, Try.ntmps22
  go_wp2
  go_loopw [8] (fun i wr => ∃ k : Nat, k ≤ l.length ∧ i = .int .i64 k ∧ Aside0 (Below w.heap.size w wr) ∧ Aside0 (∀ j : Nat, j < k → ((rd_T40 l j).f0.toList == y.toList) = false)) (fun i _ => l.length - (intOf i).toNat)
  case atStart => exact ⟨0, Nat.zero_le _, rfl, ⟨Below.refl _ _⟩, ⟨fun j hj => absurd hj (by omega)⟩⟩
  case round =>
    obtain ⟨k, hkl, rfl, HB, HN⟩ := hrel
    by_cases hlt : k < l.length
    · obtain ⟨ad, e1, hx0, hx1, hx2⟩ := at_T40 HR.out (k : Int) (by omega) (by omega)
      rw [Int.toNat_natCast] at hx0 hx1 hx2
      cases e1
      replace hx0 := (HB.out.cell (World.block_lt_of_cell? w _ hx0)).trans hx0
      replace hx1 := (HB.out.cell (World.block_lt_of_cell? w _ hx1)).trans hx1
      replace hx2 := (HB.out.cell (World.block_lt_of_cell? w _ hx2)).trans hx2
      have HK1 := Aside0.mk ((HB.out.cell (World.block_lt_of_cell? w _ HK.out)).trans HK.out)
      clear HK
      cases hE : ((rd_T40 l (k : Int)).f0.toList == y.toList) with
      | true =>
        have HE := Aside0.mk hE
        clear hE
        go_wp2_with (go_at_call 23; refine (same23_calls _ _ _ y kb _ HK1.out _ HE.out).mono ?_; rintro e w1 ⟨rfl, hb1⟩; have HB1 := Aside0.mk hb1; clear hb1)
        go_ret
        exact ⟨ret_int (ix_found hlt HE.out HN.out).symm, HB.out.trans (HB1.out.mono HB.out.size)⟩
      | false =>
        have HE := Aside0.mk hE
        clear hE
        go_wp2_with (go_at_call 23; refine (same23_calls _ _ _ y kb _ HK1.out _ HE.out).mono ?_; rintro e w1 ⟨rfl, hb1⟩; have HB1 := Aside0.mk hb1; clear hb1)
        go_roundw
        case rel =>
          refine ⟨k + 1, by omega, by go_num, ⟨HB.out.trans (HB1.out.mono HB.out.size)⟩, ⟨fun j hj => ?_⟩⟩
          rcases Nat.lt_or_ge j k with h1 | h1
          · exact HN.out j h1
          · obtain rfl : j = k := by omega
            exact HE.out
        case measure => simp [intOf]; omega
    · go_wp2
      go_ret
      obtain rfl : k = l.length := by omega
      exact ⟨ret_int (ix_none HN.out).symm, HB.out⟩

set_option maxHeartbeats 1000000 in
theorem same25_calls (k d : ByteArray) (h : Bool) (y : ByteArray) (kb : Nat) (w : World) (hk : w.cell? ⟨kb, 0, none⟩ = some (.string y)) (b : Bool) (hE : (k.toList == y.toList) = b) :
    Calls Try.prog 25 #[.agg #[.string k, .bool h, .string d], .pointer (some ⟨kb, 0, none⟩)] w fun e w' => e = .returned (.bool b) ∧ Below w.heap.size w w' := by
  subst hE
  have hb := World.block_lt_of_cell? w _ hk
  have hk' : (w.alloc (.cells #[.string k, .bool h, .string d] 40)).cell? ⟨kb, 0, none⟩ = some (.string y) := by rw [World.cell?_alloc_lt _ _ _ hb]; exact hk
  clear hk
  go_enter Try.func25, Try.ntmps25
  go_wp2
  go_ret
  exact ⟨rfl, (Below.refl _ _).alloc (Nat.le_refl _) _⟩

set_option maxHeartbeats 2000000 in
theorem index25_calls (A : Option Addr) (c : Nat) (l : List S40) (y : ByteArray) (kb : Nat) (w : World) (hr : Kd.C k40 w A l.length l) (hk : w.cell? ⟨kb, 0, none⟩ = some (.string y)) :
    Calls Try.prog 22 #[.slice A l.length c, .func (.func 25) #[] #[.pointer (some ⟨kb, 0, none⟩)]] w fun e w' => e = .returned (.int .i64 (ixOf l y)) ∧ Below w.heap.size w w' := by
  have HR := Aside0.mk hr
  have HK := Aside0.mk hk
  have hm : l.length ≤ 9223372036854775807 := hr.2.1
  clear hr hk
  go_enter Try.func22, Try.ntmps22
  go_wp2
  go_loopw [8] (fun i wr => ∃ k : Nat, k ≤ l.length ∧ i = .int .i64 k ∧ Aside0 (Below w.heap.size w wr) ∧ Aside0 (∀ j : Nat, j < k → ((rd_T40 l j).f0.toList == y.toList) = false)) (fun i _ => l.length - (intOf i).toNat)
  case atStart => exact ⟨0, Nat.zero_le _, rfl, ⟨Below.refl _ _⟩, ⟨fun j hj => absurd hj (by omega)⟩⟩
  case round =>
    obtain ⟨k, hkl, rfl, HB, HN⟩ := hrel
    by_cases hlt : k < l.length
    · obtain ⟨ad, e1, hx0, hx1, hx2⟩ := at_T40 HR.out (k : Int) (by omega) (by omega)
      rw [Int.toNat_natCast] at hx0 hx1 hx2
      cases e1
      replace hx0 := (HB.out.cell (World.block_lt_of_cell? w _ hx0)).trans hx0
      replace hx1 := (HB.out.cell (World.block_lt_of_cell? w _ hx1)).trans hx1
      replace hx2 := (HB.out.cell (World.block_lt_of_cell? w _ hx2)).trans hx2
      have HK1 := Aside0.mk ((HB.out.cell (World.block_lt_of_cell? w _ HK.out)).trans HK.out)
      clear HK
      cases hE : ((rd_T40 l (k : Int)).f0.toList == y.toList) with
      | true =>
        have HE := Aside0.mk hE
        clear hE
        go_wp2_with (go_at_call 25; refine (same25_calls _ _ _ y kb _ HK1.out _ HE.out).mono ?_; rintro e w1 ⟨rfl, hb1⟩; have HB1 := Aside0.mk hb1; clear hb1)
        go_ret
        exact ⟨ret_int (ix_found hlt HE.out HN.out).symm, HB.out.trans (HB1.out.mono HB.out.size)⟩
      | false =>
        have HE := Aside0.mk hE
        clear hE
        go_wp2_with (go_at_call 25; refine (same25_calls _ _ _ y kb _ HK1.out _ HE.out).mono ?_; rintro e w1 ⟨rfl, hb1⟩; have HB1 := Aside0.mk hb1; clear hb1)
        go_roundw
        case rel =>
          refine ⟨k + 1, by omega, by go_num, ⟨HB.out.trans (HB1.out.mono HB.out.size)⟩, ⟨fun j hj => ?_⟩⟩
          rcases Nat.lt_or_ge j k with h1 | h1
          · exact HN.out j h1
          · obtain rfl : j = k := by omega
            exact HE.out
        case measure => simp [intOf]; omega
    · go_wp2
      go_ret
      obtain rfl : k = l.length := by omega
      exact ⟨ret_int (ix_none HN.out).symm, HB.out⟩

theorem ix_lt {l : List S40} {y : ByteArray} : ixOf l y < (l.length : Int) := by
  unfold ixOf
  split
  · rename_i k h
    have := (List.findIdx?_eq_some_iff_getElem.1 h).1
    omega
  · omega
def getOf (l : List S40) (y : ByteArray) : S26 := if ixOf l y < 0 then z26 else (rd_T40 l (ixOf l y)).f1
def roomOf (l : List S40) (y : ByteArray) : Bool := decide (l.length < 4) || decide (0 ≤ ixOf l y)

set_option maxHeartbeats 1000000 in
theorem contains_calls (A : Option Addr) (c : Nat) (l : List S40) (y : ByteArray) (kb : Nat) (w : World) (hr : Kd.C k40 w A l.length l) (hk : w.cell? ⟨kb, 0, none⟩ = some (.string y)) (b : Bool) (hb : decide (0 ≤ ixOf l y) = b) :
    Calls Try.prog 24 #[.slice A l.length c, .func (.func 25) #[] #[.pointer (some ⟨kb, 0, none⟩)]] w fun e w' => e = .returned (.bool b) ∧ Below w.heap.size w w' := by
  have HR := Aside0.mk hr
  have HK := Aside0.mk hk
  have H := Aside0.mk hb
  clear hr hk hb
  go_enter Try.func24, Try.ntmps24
  go_wp2_with (go_at_call 22; refine (index25_calls _ _ _ y kb _ HR.out HK.out).mono ?_; rintro e w1 ⟨rfl, hb1⟩; have HB1 := Aside0.mk hb1; clear hb1)
  go_ret
  exact ⟨by rw [← H.out]; rfl, HB1.out⟩

set_option maxHeartbeats 1000000 in
theorem room_calls (n : Int) (A : Option Addr) (c : Nat) (l : List S40) (y : ByteArray) (w : World) (hr : Kd.C k40 w A l.length l) (b : Bool) (hb : roomOf l y = b) :
    Calls Try.prog 12 #[.agg #[.int .i64 n, .slice A l.length c], .string y] w fun e w' => e = .returned (.bool b) ∧ Below w.heap.size w w' := by
  have HR := Aside0.mk hr
  have H := Aside0.mk hb
  have hm : l.length ≤ 9223372036854775807 := hr.2.1
  clear hr hb
  by_cases h4 : l.length < 4
  · go_enter Try.func12, Try.ntmps12
    go_wp2
    go_ret
    exact ⟨by rw [← H.out]; simp [roomOf, h4], ((Below.refl _ _).alloc (Nat.le_refl _) _).alloc (by simp) _⟩
  · have hd : decide ((l.length : Int) < 4) = false := by simp; omega
    have HD := Aside0.mk h4
    clear h4
    go_enter Try.func12, Try.ntmps12
    go_wp2_with (go_at_call 24; refine (contains_calls _ _ _ y _ _ (Kd.C_below HR.out (((Below.refl _ _).alloc (Nat.le_refl _) _).alloc (by simp) _)) (by simp [World.cell?_alloc_new]) _ rfl).mono ?_; rintro e w1 ⟨rfl, hb1⟩; have HB1 := Aside0.mk hb1; clear hb1)
    go_ret
    exact ⟨by rw [← H.out]; simp [roomOf, HD.out], (((Below.refl _ _).alloc (Nat.le_refl _) _).alloc (by simp) _).trans (HB1.out.mono (by simp; omega))⟩

set_option maxHeartbeats 1000000 in
theorem get_calls (n : Int) (A : Option Addr) (c : Nat) (l : List S40) (y : ByteArray) (w : World) (hr : Kd.C k40 w A l.length l) (v : S26) (hv : getOf l y = v) :
    Calls Try.prog 10 #[.agg #[.int .i64 n, .slice A l.length c], .string y] w fun e w' => e = .returned (.agg #[.bool v.f0, .string v.f1]) ∧ Below w.heap.size w w' := by
  have HR := Aside0.mk hr
  have H := Aside0.mk hv
  have hm : l.length ≤ 9223372036854775807 := hr.2.1
  clear hr hv
  have HL := Aside0.mk (@ix_lt l y)
  by_cases hneg : ixOf l y < 0
  · have HV : v = z26 := by rw [← H.out, getOf, if_pos hneg]
    subst HV
    have hd : decide (ixOf l y < 0) = true := decide_eq_true hneg
    clear hneg
    go_enter Try.func10, Try.ntmps10
    go_wp2_with (go_at_call 22; refine (index23_calls _ _ _ y _ _ (Kd.C_below HR.out ((((Below.refl _ _).alloc (Nat.le_refl _) _).alloc (by simp) _).alloc (by simp; omega) _)) (by simp [World.cell?_alloc_new, World.cell?_alloc_lt]) ).mono ?_; rintro e w1 ⟨rfl, hb1⟩; have HB1 := Aside0.mk hb1; obtain ⟨hc, hf⟩ := bcell hb1; clear hb1)
    exact bodyPost_ret (v := .agg #[.bool z26.f0, .string z26.f1]) (by simp [results, Try.results10, go_sem, hc, z26]) rfl ⟨rfl, (((((Below.refl w.heap.size w).alloc (Nat.le_refl _) _).alloc (by simp) _).alloc (by simp; omega) _).trans (HB1.out.mono (by simp; omega))).setCell (p := ⟨w.heap.size + 1 + 1, 0, none⟩) (by show w.heap.size ≤ w.heap.size + 1 + 1; omega) _ |>.setCell (p := ⟨w.heap.size + 1 + 1, 1, none⟩) (by show w.heap.size ≤ w.heap.size + 1 + 1; omega) _⟩
  · have HV : v = (rd_T40 l (ixOf l y)).f1 := by rw [← H.out, getOf, if_neg hneg]
    subst HV
    have hd : decide (ixOf l y < 0) = false := decide_eq_false hneg
    have hge : 0 ≤ ixOf l y := by omega
    have hlt : ixOf l y < (l.length : Int) := HL.out
    obtain ⟨ad, e1, hx0, hx1, hx2⟩ := at_T40 HR.out (ixOf l y) hge hlt
    cases e1
    have HX1 := Aside0.mk hx1
    have HX2 := Aside0.mk hx2
    clear hneg hx0 hx1 hx2
    go_enter Try.func10, Try.ntmps10
    go_wp2_with (go_at_call 22; refine (index23_calls _ _ _ y _ _ (Kd.C_below HR.out ((((Below.refl _ _).alloc (Nat.le_refl _) _).alloc (by simp) _).alloc (by simp; omega) _)) (by simp [World.cell?_alloc_new, World.cell?_alloc_lt]) ).mono ?_; rintro e w1 ⟨rfl, hb1⟩; have HB1 := Aside0.mk hb1; obtain ⟨hc, hf⟩ := bcell hb1; clear hb1; have HBT := Aside0.mk (((((Below.refl w.heap.size w).alloc (Nat.le_refl _) _).alloc (by simp) _).alloc (by simp; omega) _).trans (HB1.out.mono (by simp; omega))); have hy1 := (HBT.out.cell (World.block_lt_of_cell? w _ HX1.out)).trans HX1.out; have hy2 : w1.cell? ⟨(ad.add ((ixOf l y).toNat * 3)).block, (ad.add ((ixOf l y).toNat * 3)).off + 1 + 1, none⟩ = _ := (HBT.out.cell (World.block_lt_of_cell? w _ HX2.out)).trans HX2.out)
    exact bodyPost_ret (v := .agg #[.bool (rd_T40 l (ixOf l y)).f1.f0, .string (rd_T40 l (ixOf l y)).f1.f1]) (by simp [results, Try.results10, go_sem, hc]) rfl ⟨rfl, (HBT.out.setCell (p := ⟨w.heap.size + 1 + 1, 0, none⟩) (by show w.heap.size ≤ w.heap.size + 1 + 1; omega) _).setCell (p := ⟨w.heap.size + 1 + 1, 1, none⟩) (by show w.heap.size ≤ w.heap.size + 1 + 1; omega) _⟩
end Go.Proofs.Ytoedoakldogkhaa.Ps

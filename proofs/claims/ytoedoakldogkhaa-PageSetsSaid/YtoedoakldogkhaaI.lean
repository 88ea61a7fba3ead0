/- The contract of page.Set where it refuses: a page, key, value or number that may not be, or no room. -/
import Derived.Test.YtoedoakldogkhaaH
namespace Go.Proofs.Ytoedoakldogkhaa.Ps
open Go.RowKit Go.Proofs.YtoedoakldogkhaaW.PrintWords Go.Proofs.YtoedoakldogkhaaW.PrintLast Go.Proofs.YtoedoakldogkhaaW.PrintMore
set_option linter.unusedVariables false
set_option linter.unusedSimpArgs false

/-- What a call of page.Set leaves where it refuses: the zero page and an error's number. -/
def Refused (w : World) (n : Int) (e : Ending) (w' : World) : Prop :=
  e = .returned (.tuple #[.agg #[.int .i64 0, .slice none 0 0], .int .i64 n]) ∧ Below w.heap.size w w'

theorem sizes3 {w w1 : World} {o1 o2 o3 : Obj} (h : (((w.alloc o1).alloc o2).alloc o3).heap.size ≤ w1.heap.size) : w.heap.size < w1.heap.size ∧ w.heap.size + 1 < w1.heap.size ∧ w.heap.size + 1 + 1 < w1.heap.size := by
  simp at h
  omega


set_option maxHeartbeats 2000000 in
theorem set_may (k : Nat) (n : Int) (A : Option Addr) (c : Nat) (l : List S40) (lsn : Int) (y : ByteArray) (h : Bool) (d : ByteArray) (w : World) (hr : Kd.C k40 w A l.length l) (hc : l.length ≤ c) (hm : page_may.f k n l = some false) :
    Calls Try.prog 6 #[.agg #[.int .i64 n, .slice A l.length c], .int .i64 lsn, .string y, .agg #[.bool h, .string d]] w (Refused w 1) := by
  have HR := Aside0.mk hr
  have HC := Aside0.mk hc
  have HM := Aside0.mk hm
  clear hr hc hm
  have HB := Aside0.mk ((((Below.refl w.heap.size w).alloc (Nat.le_refl _) (.cells #[.int .i64 n, .slice A l.length c] 24)).alloc (by simp) (.cells #[.bool h, .string d] 26)).alloc (by simp; omega) (.cells #[.int .i64 0, .slice none 0 0] 24))
  go_enter Try.func6, Try.ntmps6
  go_wp2_with (first
    | (go_at_call 14; refine (page_may.calls k _ _ _ _ _ _ (Kd.C_below HR.out HB.out) HC.out HM.out).mono ?_; rintro e w1 ⟨rfl, hb1⟩; obtain ⟨hc1, hf1⟩ := bcell hb1; have HB1 := Aside0.mk (HB.out.trans (hb1.mono HB.out.size)); obtain ⟨z0, z1, z2⟩ := sizes3 hb1.size; clear hb1))
  exact bodyPost_ret (v := .tuple #[.agg #[.int .i64 0, .slice none 0 0], .int .i64 1]) (by simp [results, Try.results6, go_sem, hc1, hf1, z2]) rfl ⟨rfl, (HB1.out.setCell (p := ⟨w.heap.size + 1 + 1, 0, none⟩) (by show w.heap.size ≤ w.heap.size + 1 + 1; omega) _).setCell (p := ⟨w.heap.size + 1 + 1, 1, none⟩) (by show w.heap.size ≤ w.heap.size + 1 + 1; omega) _⟩

set_option maxHeartbeats 2000000 in
theorem set_fits (k : Nat) (n : Int) (A : Option Addr) (c : Nat) (l : List S40) (lsn : Int) (y : ByteArray) (h : Bool) (d : ByteArray) (w : World) (hr : Kd.C k40 w A l.length l) (hc : l.length ≤ c) (hm : page_may.f k n l = some true) (hf : page_fits.f y h d = some false) :
    Calls Try.prog 6 #[.agg #[.int .i64 n, .slice A l.length c], .int .i64 lsn, .string y, .agg #[.bool h, .string d]] w (Refused w 1) := by
  have HR := Aside0.mk hr
  have HC := Aside0.mk hc
  have HM := Aside0.mk hm
  have HF := Aside0.mk hf
  clear hr hc hm hf
  have HB := Aside0.mk ((((Below.refl w.heap.size w).alloc (Nat.le_refl _) (.cells #[.int .i64 n, .slice A l.length c] 24)).alloc (by simp) (.cells #[.bool h, .string d] 26)).alloc (by simp; omega) (.cells #[.int .i64 0, .slice none 0 0] 24))
  go_enter Try.func6, Try.ntmps6
  go_wp2_with (first
    | (go_at_call 14; refine (page_may.calls k _ _ _ _ _ _ (Kd.C_below HR.out HB.out) HC.out HM.out).mono ?_; rintro e w1 ⟨rfl, hb1⟩; obtain ⟨hc1, hf1⟩ := bcell hb1; have HB1 := Aside0.mk (HB.out.trans (hb1.mono HB.out.size)); obtain ⟨z0, z1, z2⟩ := sizes3 hb1.size; clear hb1)
    | (go_at_call 15; refine (page_fits.calls _ _ _ _ _ HF.out).mono ?_; rintro e w2 ⟨rfl, hb2⟩; obtain ⟨hc2, hf2⟩ := bcell hb2; have HB2 := Aside0.mk (HB1.out.trans (hb2.mono HB1.out.size)); obtain ⟨y0, y1, y2⟩ : w.heap.size < w2.heap.size ∧ w.heap.size + 1 < w2.heap.size ∧ w.heap.size + 1 + 1 < w2.heap.size := ⟨Nat.lt_of_lt_of_le z0 hb2.size, Nat.lt_of_lt_of_le z1 hb2.size, Nat.lt_of_lt_of_le z2 hb2.size⟩; clear hb2))
  exact bodyPost_ret (v := .tuple #[.agg #[.int .i64 0, .slice none 0 0], .int .i64 1]) (by simp [results, Try.results6, go_sem, hc1, hf1, hc2, hf2, z2, y2]) rfl ⟨rfl, (HB2.out.setCell (p := ⟨w.heap.size + 1 + 1, 0, none⟩) (by show w.heap.size ≤ w.heap.size + 1 + 1; omega) _).setCell (p := ⟨w.heap.size + 1 + 1, 1, none⟩) (by show w.heap.size ≤ w.heap.size + 1 + 1; omega) _⟩

set_option maxHeartbeats 2000000 in
theorem set_low (k : Nat) (n : Int) (A : Option Addr) (c : Nat) (l : List S40) (lsn : Int) (y : ByteArray) (h : Bool) (d : ByteArray) (w : World) (hr : Kd.C k40 w A l.length l) (hc : l.length ≤ c) (hm : page_may.f k n l = some true) (hf : page_fits.f y h d = some true) (hl : decide (lsn < 1) = true) :
    Calls Try.prog 6 #[.agg #[.int .i64 n, .slice A l.length c], .int .i64 lsn, .string y, .agg #[.bool h, .string d]] w (Refused w 1) := by
  have HR := Aside0.mk hr
  have HC := Aside0.mk hc
  have HM := Aside0.mk hm
  have HF := Aside0.mk hf
  clear hr hc hm hf
  have HB := Aside0.mk ((((Below.refl w.heap.size w).alloc (Nat.le_refl _) (.cells #[.int .i64 n, .slice A l.length c] 24)).alloc (by simp) (.cells #[.bool h, .string d] 26)).alloc (by simp; omega) (.cells #[.int .i64 0, .slice none 0 0] 24))
  go_enter Try.func6, Try.ntmps6
  go_wp2_with (first
    | (go_at_call 14; refine (page_may.calls k _ _ _ _ _ _ (Kd.C_below HR.out HB.out) HC.out HM.out).mono ?_; rintro e w1 ⟨rfl, hb1⟩; obtain ⟨hc1, hf1⟩ := bcell hb1; have HB1 := Aside0.mk (HB.out.trans (hb1.mono HB.out.size)); obtain ⟨z0, z1, z2⟩ := sizes3 hb1.size; clear hb1)
    | (go_at_call 15; refine (page_fits.calls _ _ _ _ _ HF.out).mono ?_; rintro e w2 ⟨rfl, hb2⟩; obtain ⟨hc2, hf2⟩ := bcell hb2; have HB2 := Aside0.mk (HB1.out.trans (hb2.mono HB1.out.size)); obtain ⟨y0, y1, y2⟩ : w.heap.size < w2.heap.size ∧ w.heap.size + 1 < w2.heap.size ∧ w.heap.size + 1 + 1 < w2.heap.size := ⟨Nat.lt_of_lt_of_le z0 hb2.size, Nat.lt_of_lt_of_le z1 hb2.size, Nat.lt_of_lt_of_le z2 hb2.size⟩; clear hb2))
  exact bodyPost_ret (v := .tuple #[.agg #[.int .i64 0, .slice none 0 0], .int .i64 1]) (by simp [results, Try.results6, go_sem, hc1, hf1, hc2, hf2, z2, y2]) rfl ⟨rfl, (HB2.out.setCell (p := ⟨w.heap.size + 1 + 1, 0, none⟩) (by show w.heap.size ≤ w.heap.size + 1 + 1; omega) _).setCell (p := ⟨w.heap.size + 1 + 1, 1, none⟩) (by show w.heap.size ≤ w.heap.size + 1 + 1; omega) _⟩

set_option maxHeartbeats 2000000 in
theorem set_high (k : Nat) (n : Int) (A : Option Addr) (c : Nat) (l : List S40) (lsn : Int) (y : ByteArray) (h : Bool) (d : ByteArray) (w : World) (hr : Kd.C k40 w A l.length l) (hc : l.length ≤ c) (hm : page_may.f k n l = some true) (hf : page_fits.f y h d = some true) (hl : decide (lsn < 1) = false) (hg : decide (1099511627776 < lsn) = true) :
    Calls Try.prog 6 #[.agg #[.int .i64 n, .slice A l.length c], .int .i64 lsn, .string y, .agg #[.bool h, .string d]] w (Refused w 1) := by
  have HR := Aside0.mk hr
  have HC := Aside0.mk hc
  have HM := Aside0.mk hm
  have HF := Aside0.mk hf
  clear hr hc hm hf
  have HB := Aside0.mk ((((Below.refl w.heap.size w).alloc (Nat.le_refl _) (.cells #[.int .i64 n, .slice A l.length c] 24)).alloc (by simp) (.cells #[.bool h, .string d] 26)).alloc (by simp; omega) (.cells #[.int .i64 0, .slice none 0 0] 24))
  go_enter Try.func6, Try.ntmps6
  go_wp2_with (first
    | (go_at_call 14; refine (page_may.calls k _ _ _ _ _ _ (Kd.C_below HR.out HB.out) HC.out HM.out).mono ?_; rintro e w1 ⟨rfl, hb1⟩; obtain ⟨hc1, hf1⟩ := bcell hb1; have HB1 := Aside0.mk (HB.out.trans (hb1.mono HB.out.size)); obtain ⟨z0, z1, z2⟩ := sizes3 hb1.size; clear hb1)
    | (go_at_call 15; refine (page_fits.calls _ _ _ _ _ HF.out).mono ?_; rintro e w2 ⟨rfl, hb2⟩; obtain ⟨hc2, hf2⟩ := bcell hb2; have HB2 := Aside0.mk (HB1.out.trans (hb2.mono HB1.out.size)); obtain ⟨y0, y1, y2⟩ : w.heap.size < w2.heap.size ∧ w.heap.size + 1 < w2.heap.size ∧ w.heap.size + 1 + 1 < w2.heap.size := ⟨Nat.lt_of_lt_of_le z0 hb2.size, Nat.lt_of_lt_of_le z1 hb2.size, Nat.lt_of_lt_of_le z2 hb2.size⟩; clear hb2))
  exact bodyPost_ret (v := .tuple #[.agg #[.int .i64 0, .slice none 0 0], .int .i64 1]) (by simp [results, Try.results6, go_sem, hc1, hf1, hc2, hf2, z2, y2]) rfl ⟨rfl, (HB2.out.setCell (p := ⟨w.heap.size + 1 + 1, 0, none⟩) (by show w.heap.size ≤ w.heap.size + 1 + 1; omega) _).setCell (p := ⟨w.heap.size + 1 + 1, 1, none⟩) (by show w.heap.size ≤ w.heap.size + 1 + 1; omega) _⟩

set_option maxHeartbeats 2000000 in
theorem set_full (k : Nat) (n : Int) (A : Option Addr) (c : Nat) (l : List S40) (lsn : Int) (y : ByteArray) (h : Bool) (d : ByteArray) (w : World) (hr : Kd.C k40 w A l.length l) (hc : l.length ≤ c) (hm : page_may.f k n l = some true) (hf : page_fits.f y h d = some true) (hl : decide (lsn < 1) = false) (hg : decide (1099511627776 < lsn) = false) (hrm : roomOf l y = false) :
    Calls Try.prog 6 #[.agg #[.int .i64 n, .slice A l.length c], .int .i64 lsn, .string y, .agg #[.bool h, .string d]] w (Refused w 100) := by
  have HR := Aside0.mk hr
  have HC := Aside0.mk hc
  have HM := Aside0.mk hm
  have HF := Aside0.mk hf
  have HRM := Aside0.mk hrm
  clear hr hc hm hf hrm
  have HB := Aside0.mk ((((Below.refl w.heap.size w).alloc (Nat.le_refl _) (.cells #[.int .i64 n, .slice A l.length c] 24)).alloc (by simp) (.cells #[.bool h, .string d] 26)).alloc (by simp; omega) (.cells #[.int .i64 0, .slice none 0 0] 24))
  go_enter Try.func6, Try.ntmps6
  go_wp2_with (first
    | (go_at_call 14; refine (page_may.calls k _ _ _ _ _ _ (Kd.C_below HR.out HB.out) HC.out HM.out).mono ?_; rintro e w1 ⟨rfl, hb1⟩; obtain ⟨hc1, hf1⟩ := bcell hb1; have HB1 := Aside0.mk (HB.out.trans (hb1.mono HB.out.size)); obtain ⟨z0, z1, z2⟩ := sizes3 hb1.size; clear hb1)
    | (go_at_call 15; refine (page_fits.calls _ _ _ _ _ HF.out).mono ?_; rintro e w2 ⟨rfl, hb2⟩; obtain ⟨hc2, hf2⟩ := bcell hb2; have HB2 := Aside0.mk (HB1.out.trans (hb2.mono HB1.out.size)); obtain ⟨y0, y1, y2⟩ : w.heap.size < w2.heap.size ∧ w.heap.size + 1 < w2.heap.size ∧ w.heap.size + 1 + 1 < w2.heap.size := ⟨Nat.lt_of_lt_of_le z0 hb2.size, Nat.lt_of_lt_of_le z1 hb2.size, Nat.lt_of_lt_of_le z2 hb2.size⟩; clear hb2)
    | (go_at_call 12; refine (room_calls _ _ _ _ _ _ (Kd.C_below HR.out HB2.out) _ HRM.out).mono ?_; rintro e w3 ⟨rfl, hb3⟩; obtain ⟨hc3, hf3⟩ := bcell hb3; have HB3 := Aside0.mk (HB2.out.trans (hb3.mono HB2.out.size)); obtain ⟨x0, x1, x2⟩ : w.heap.size < w3.heap.size ∧ w.heap.size + 1 < w3.heap.size ∧ w.heap.size + 1 + 1 < w3.heap.size := ⟨Nat.lt_of_lt_of_le y0 hb3.size, Nat.lt_of_lt_of_le y1 hb3.size, Nat.lt_of_lt_of_le y2 hb3.size⟩; clear hb3))
  exact bodyPost_ret (v := .tuple #[.agg #[.int .i64 0, .slice none 0 0], .int .i64 100]) (by simp [results, Try.results6, go_sem, hc1, hf1, hc2, hf2, hc3, hf3, z2, y2, x2]) rfl ⟨rfl, (HB3.out.setCell (p := ⟨w.heap.size + 1 + 1, 0, none⟩) (by show w.heap.size ≤ w.heap.size + 1 + 1; omega) _).setCell (p := ⟨w.heap.size + 1 + 1, 1, none⟩) (by show w.heap.size ≤ w.heap.size + 1 + 1; omega) _⟩
end Go.Proofs.Ytoedoakldogkhaa.Ps

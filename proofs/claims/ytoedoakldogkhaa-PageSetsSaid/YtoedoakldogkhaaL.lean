/- The contracts of page.Set, Get and Room, each over one Lean function. -/
import Derived.Test.YtoedoakldogkhaaK
namespace Go.Proofs.Ytoedoakldogkhaa.Ps
open Go.RowKit Go.Proofs.YtoedoakldogkhaaW.PrintWords Go.Proofs.YtoedoakldogkhaaW.PrintLast Go.Proofs.YtoedoakldogkhaaW.PrintMore
set_option linter.unusedVariables false
set_option linter.unusedSimpArgs false

/-! ### page's functions in the printed functions' form -/
def page_Room.f (k : Nat) (a0_0 : Int) (l0_1 : List (S40)) (a1 : ByteArray) : Option (Bool) := some (roomOf l0_1 a1)
theorem page_Room.calls (k : Nat) (a0_0 : Int) (A0_1 : Option Addr) (c0_1 : Nat) (l0_1 : List (S40)) (a1 : ByteArray) (r : Bool) (w : World) (hr0_1 : Kd.C k40 w A0_1 l0_1.length l0_1) (hc0_1 : l0_1.length ≤ c0_1) (h : page_Room.f k a0_0 l0_1 a1 = some r) :
    Calls Try.prog 12 #[.agg #[.int .i64 a0_0, .slice A0_1 l0_1.length c0_1], .string a1] w fun e w' => e = .returned (.bool r) ∧ Below w.heap.size w w' :=
  room_calls _ _ _ _ _ _ hr0_1 r (Option.some.inj h)
def page_Get.f (k : Nat) (a0_0 : Int) (l0_1 : List (S40)) (a1 : ByteArray) : Option (Bool × ByteArray) := some ((getOf l0_1 a1).f0, (getOf l0_1 a1).f1)
theorem page_Get.calls (k : Nat) (a0_0 : Int) (A0_1 : Option Addr) (c0_1 : Nat) (l0_1 : List (S40)) (a1 : ByteArray) (r1 : Bool) (r2 : ByteArray) (w : World) (hr0_1 : Kd.C k40 w A0_1 l0_1.length l0_1) (hc0_1 : l0_1.length ≤ c0_1) (h : page_Get.f k a0_0 l0_1 a1 = some (r1, r2)) :
    Calls Try.prog 10 #[.agg #[.int .i64 a0_0, .slice A0_1 l0_1.length c0_1], .string a1] w fun e w' => e = .returned (.agg #[.bool r1, .string r2]) ∧ Below w.heap.size w w' := by
  have h1 := Option.some.inj h
  injection h1 with h1 h2
  subst h1
  subst h2
  exact get_calls _ _ _ _ _ _ hr0_1 _ rfl

def fitsB (y : ByteArray) (h : Bool) (d : ByteArray) : Bool := !(y.toList == []) && decide (y.size ≤ 16) && decide (d.size ≤ 32) && (h || d.toList == [])
theorem fits_eq (y : ByteArray) (h : Bool) (d : ByteArray) : page_fits.f y h d = some (fitsB y h d) := by
  unfold page_fits.f fitsB
  by_cases h1 : y.toList = []
  · simp [h1]
  · rw [if_neg h1]
    by_cases h2 : (y.size : Int) ≤ 16
    · rw [if_pos h2]
      by_cases h3 : (d.size : Int) ≤ 32
      · rw [if_pos h3]
        have h2' : y.size ≤ 16 := by omega
        have h3' : d.size ≤ 32 := by omega
        cases h <;> simp [h1, h2', h3']
      · rw [if_neg h3]
        have h3' : ¬ d.size ≤ 32 := by omega
        simp [h3']
    · rw [if_neg h2]
      have h2' : ¬ y.size ≤ 16 := by omega
      simp [h2']
/-- What page.Set leaves of cells where it sets. -/
def putOf (l : List S40) (y : ByteArray) (v : S26) : List S40 :=
  if isOf l y = true then l.set (fdOf l y) ⟨(rd_T40 l (fdOf l y)).f0, v⟩ else l.take (fdOf l y) ++ ⟨y, v⟩ :: l.drop (fdOf l y)
def setOf (m : Bool) (l : List S40) (lsn : Int) (y : ByteArray) (h : Bool) (d : ByteArray) : Int × List S40 × Int :=
  if m = false then (0, [], 1) else if fitsB y h d = false then (0, [], 1) else if lsn < 1 then (0, [], 1) else if 1099511627776 < lsn then (0, [], 1)
  else if roomOf l y = false then (0, [], 100) else (lsn, putOf l y ⟨h, d⟩, 0)
def page_Set.f (k : Nat) (a0_0 : Int) (l0_1 : List (S40)) (a1 : Int) (a2 : ByteArray) (a3_0 : Bool) (a3_1 : ByteArray) : Option (Int × (List (S40)) × Int) :=
  (page_may.f k a0_0 l0_1).bind fun m => if l0_1.length ≤ 1000 then some (setOf m l0_1 a1 a2 a3_0 a3_1) else none
theorem refused_R {w : World} {n : Int} {e : Ending} {w' : World} (h : Refused w n e w') : ∃ v1_ : Value, e = .returned (.tuple #[.agg #[.int .i64 0, v1_], .int .i64 n]) ∧ Kd.R k40 40 w' w.heap.size (fun _ => True) v1_ [] ∧ Below w.heap.size w w' :=
  ⟨.slice none 0 0, h.1, Kd.R_nil _ _ _ _ _, h.2⟩
theorem page_Set.calls (k : Nat) (a0_0 : Int) (A0_1 : Option Addr) (c0_1 : Nat) (l0_1 : List (S40)) (a1 : Int) (a2 : ByteArray) (a3_0 : Bool) (a3_1 : ByteArray) (r1 : Int) (r2 : List (S40)) (r3 : Int) (w : World) (hr0_1 : Kd.C k40 w A0_1 l0_1.length l0_1) (hc0_1 : l0_1.length ≤ c0_1) (h : page_Set.f k a0_0 l0_1 a1 a2 a3_0 a3_1 = some (r1, r2, r3)) :
    Calls Try.prog 6 #[.agg #[.int .i64 a0_0, .slice A0_1 l0_1.length c0_1], .int .i64 a1, .string a2, .agg #[.bool a3_0, .string a3_1]] w fun e w' => ∃ v1_ : Value, e = .returned (.tuple #[.agg #[.int .i64 r1, v1_], .int .i64 r3]) ∧ Kd.R k40 40 w' w.heap.size (fun _ => True) v1_ r2 ∧ Below w.heap.size w w' := by
  unfold page_Set.f at h
  replace h := Option.bind_eq_some_iff.1 h
  obtain ⟨m, hm, h⟩ := h
  by_cases hl : l0_1.length ≤ 1000
  · rw [if_pos hl] at h
    replace h := Option.some.inj h
    unfold setOf at h
    have hf := fits_eq a2 a3_0 a3_1
    by_cases h1 : m = false
    · rw [if_pos h1] at h
      injection h with e1 h
      injection h with e2 e3
      subst e1 e2 e3 h1
      exact (set_may k _ _ _ _ _ _ _ _ _ hr0_1 hc0_1 hm).mono fun _ _ => refused_R
    rw [if_neg h1] at h
    replace h1 : m = true := by cases hh : m with
      | true => rfl
      | false => exact absurd hh h1
    subst h1
    by_cases h2 : fitsB a2 a3_0 a3_1 = false
    · rw [if_pos h2] at h
      rw [h2] at hf
      injection h with e1 h
      injection h with e2 e3
      subst e1 e2 e3
      exact (set_fits k _ _ _ _ _ _ _ _ _ hr0_1 hc0_1 hm hf).mono fun _ _ => refused_R
    rw [if_neg h2] at h
    replace h2 : fitsB a2 a3_0 a3_1 = true := by simpa using h2
    rw [h2] at hf
    by_cases h3 : a1 < 1
    · rw [if_pos h3] at h
      injection h with e1 h
      injection h with e2 e3
      subst e1 e2 e3
      exact (set_low k _ _ _ _ _ _ _ _ _ hr0_1 hc0_1 hm hf (decide_eq_true h3)).mono fun _ _ => refused_R
    rw [if_neg h3] at h
    by_cases h4 : 1099511627776 < a1
    · rw [if_pos h4] at h
      injection h with e1 h
      injection h with e2 e3
      subst e1 e2 e3
      exact (set_high k _ _ _ _ _ _ _ _ _ hr0_1 hc0_1 hm hf (decide_eq_false h3) (decide_eq_true h4)).mono fun _ _ => refused_R
    rw [if_neg h4] at h
    by_cases h5 : roomOf l0_1 a2 = false
    · rw [if_pos h5] at h
      injection h with e1 h
      injection h with e2 e3
      subst e1 e2 e3
      exact (set_full k _ _ _ _ _ _ _ _ _ hr0_1 hc0_1 hm hf (decide_eq_false h3) (decide_eq_false h4) h5).mono fun _ _ => refused_R
    rw [if_neg h5] at h
    replace h5 : roomOf l0_1 a2 = true := by simpa using h5
    injection h with e1 h
    injection h with e2 e3
    subst e1 e2 e3
    unfold putOf
    by_cases h6 : isOf l0_1 a2 = true
    · rw [if_pos h6]
      exact (set_is k _ _ _ _ _ _ _ _ _ hr0_1 hc0_1 hm hf (decide_eq_false h3) (decide_eq_false h4) h5 hl h6).mono fun _ _ => sets_R
    · rw [if_neg h6]
      replace h6 : isOf l0_1 a2 = false := by simpa using h6
      exact (set_new k _ _ _ _ _ _ _ _ _ hr0_1 hc0_1 hm hf (decide_eq_false h3) (decide_eq_false h4) h5 hl h6).mono fun _ _ => sets_R
  · rw [if_neg hl] at h
    cases h
end Go.Proofs.Ytoedoakldogkhaa.Ps

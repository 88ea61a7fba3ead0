/- What page.may and the reference's Key and Value come to, in plain Lean: for pages of at most 100 cells. -/
import Derived.Test.YtoedoakldogkhaaN
namespace Go.Proofs.Ytoedoakldogkhaa.Ps
open Go.RowKit Go.Proofs.YtoedoakldogkhaaW.PrintWords Go.Proofs.YtoedoakldogkhaaW.PrintLast Go.Proofs.YtoedoakldogkhaaW.PrintMore
set_option linter.unusedVariables false
set_option linter.unusedSimpArgs false

/-! ### The plain law: what page's functions and the reference's come to -/
theorem wrap_up {i : Int} (h0 : 0 ≤ i) (h : i ≤ 1000) : wrap64 (i + 1) = i + 1 := by
  unfold wrap64
  omega
theorem wrap_down {i : Int} (h0 : 0 ≤ i) (h : i ≤ 1000) : wrap64 (i - 1) = i - 1 := by
  unfold wrap64
  omega
theorem bytes_ext {a b : ByteArray} (h : a.toList = b.toList) : a = b := by
  rw [Lib.toList_data, Lib.toList_data] at h
  cases a
  cases b
  simp at h
  rw [h]
theorem bytes_len (a : ByteArray) : a.toList.length = a.size := by
  rw [Lib.toList_data]
  rfl

/-! #### keys in order -/
theorem cmp_ge : ∀ (a b : List UInt8), decide (0 ≤ Lib.compareBytes a b) = !(Op.bytesLess a b) := by
  intro a
  induction a with
  | nil => intro b; cases b <;> simp [Lib.compareBytes, Op.bytesLess]
  | cons x a ih =>
    intro b
    cases b with
    | nil => simp [Lib.compareBytes, Op.bytesLess]
    | cons y b =>
      have ih := ih b
      simp only [Lib.compareBytes, Op.bytesLess]
      by_cases h1 : x < y
      · simp [h1]
      · by_cases h2 : y < x
        · have h3 : ¬ x = y := by rintro rfl; exact h1 h2
          simp [h1, h2, h3]
        · have h3 : x = y := UInt8.le_antisymm (UInt8.not_lt.1 h2) (UInt8.not_lt.1 h1)
          subst h3
          simp [h1, ih]
theorem geK_eq (y : ByteArray) (x : S40) : geK y x = !(Op.bytesLess x.f0.toList y.toList) := by
  unfold geK
  rw [cmp_ge, Lib.toList_data, Lib.toList_data]

/-! #### which pages may be -/
def mayL (prev : ByteArray) : List S40 → Bool
  | [] => true
  | x :: r => fitsB x.f0 x.f1.f0 x.f1.f1 && Op.bytesLess prev.toList x.f0.toList && mayL x.f0 r
def mayB (n : Int) (l : List S40) : Bool := mayL ⟨#[]⟩ l && decide (0 ≤ n) && decide (n ≤ 1099511627776) && decide (l.length ≤ 4)
theorem rd_nat {l : List S40} {k : Nat} (hk : k < l.length) : rd_T40 l (k : Int) = l[k] := rd_at hk
theorem may_loop (n : Int) (l : List S40) (hl : l.length ≤ 100) : ∀ (d : Nat) (k i : Nat) (prev : ByteArray), i ≤ l.length → l.length - i = d → d < k →
    page_may.l0 k prev l (l.length : Int) (i : Int) n l = some (mayL prev (l.drop i) && decide (0 ≤ n) && decide (n ≤ 1099511627776) && decide (l.length ≤ 4)) := by
  intro d
  induction d with
  | zero =>
    intro k i prev hi hd hk
    obtain ⟨k, rfl⟩ : ∃ m, k = m + 1 := ⟨k - 1, by omega⟩
    obtain rfl : i = l.length := by omega
    simp only [page_may.l0]
    rw [if_neg (by omega), List.drop_length]
    by_cases h1 : n ≥ 0
    · rw [if_pos h1]
      have h1' : 0 ≤ n := h1
      by_cases h2 : n ≤ 1099511627776
      · rw [if_pos h2]
        by_cases h3 : l.length ≤ 4
        · have h3' : (l.length : Int) ≤ 4 := by omega
          simp [mayL, h1', h2, h3, h3']
        · have h3' : ¬ (l.length : Int) ≤ 4 := by omega
          simp [h3, h3']
      · rw [if_neg h2]
        simp [h2]
    · rw [if_neg h1]
      have h1' : ¬ 0 ≤ n := h1
      simp [h1']
  | succ d ih =>
    intro k i prev hi hd hk
    obtain ⟨k, rfl⟩ : ∃ m, k = m + 1 := ⟨k - 1, by omega⟩
    have hlt : i < l.length := by omega
    simp only [page_may.l0]
    rw [if_pos (by omega), if_pos (by omega), if_pos (by omega), rd_nat hlt, fits_eq]
    simp only [Option.bind_some]
    rw [List.drop_eq_getElem_cons hlt, wrap_up (by omega) (by omega)]
    simp only [mayL]
    cases h1 : fitsB l[i].f0 l[i].f1.f0 l[i].f1.f1 with
    | false => simp
    | true =>
      rw [if_pos rfl]
      cases h2 : Op.bytesLess prev.toList l[i].f0.toList with
      | false => simp
      | true =>
        rw [if_pos rfl, show ((i : Int) + 1) = ((i + 1 : Nat) : Int) by omega, ih k (i + 1) _ (by omega) (by omega) (by omega)]
        simp
theorem may_eq (n : Int) (l : List S40) (hl : l.length ≤ 100) (k : Nat) (hk : l.length < k) : page_may.f k n l = some (mayB n l) := by
  unfold page_may.f mayB
  have := may_loop n l hl l.length k 0 ⟨#[]⟩ (by omega) (by omega) hk
  simpa using this

theorem key_eq (y : ByteArray) : trothref07_Key.f y = some (!(y.toList == []) && decide (y.size ≤ 16)) := by
  unfold trothref07_Key.f
  have hl := bytes_len y
  by_cases h1 : (y.size : Int) ≥ 1
  · rw [if_pos h1]
    have h2 : ¬ y.toList = [] := fun e => by rw [e] at hl; simp at hl; omega
    by_cases h3 : y.size ≤ 16
    · have h3' : (y.size : Int) ≤ 16 := by omega
      simp [h2, h3, h3']
    · have h3' : ¬ (y.size : Int) ≤ 16 := by omega
      simp [h2, h3, h3']
  · rw [if_neg h1]
    have h2 : y.toList = [] := List.eq_nil_of_length_eq_zero (by omega)
    simp [h2]
theorem value_eq (h : Bool) (d : ByteArray) : trothref07_Value.f h d = some (decide (d.size ≤ 32) && (h || d.toList == [])) := by
  unfold trothref07_Value.f
  have hl := bytes_len d
  cases h with
  | true =>
    rw [if_pos rfl]
    by_cases h3 : d.size ≤ 32
    · have h3' : (d.size : Int) ≤ 32 := by omega
      simp [h3, h3']
    · have h3' : ¬ (d.size : Int) ≤ 32 := by omega
      simp [h3, h3']
  | false =>
    rw [if_neg (by decide)]
    by_cases h2 : d.toList = []
    · have h3 : d.size ≤ 32 := by rw [h2] at hl; simp at hl; omega
      simp [h2, h3]
    · simp [h2]
theorem fits_split (y : ByteArray) (h : Bool) (d : ByteArray) : fitsB y h d = ((!(y.toList == []) && decide (y.size ≤ 16)) && (decide (d.size ≤ 32) && (h || d.toList == []))) := by
  unfold fitsB
  simp [Bool.and_assoc]
end Go.Proofs.Ytoedoakldogkhaa.Ps

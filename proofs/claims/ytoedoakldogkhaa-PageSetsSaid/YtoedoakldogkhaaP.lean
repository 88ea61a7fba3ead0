/- What the reference's May, Room, Get and Same come to, in plain Lean: for pages of at most 100 cells. -/
import Derived.Test.YtoedoakldogkhaaO
namespace Go.Proofs.Ytoedoakldogkhaa.Ps
open Go.RowKit Go.Proofs.YtoedoakldogkhaaW.PrintWords Go.Proofs.YtoedoakldogkhaaW.PrintLast Go.Proofs.YtoedoakldogkhaaW.PrintMore
set_option linter.unusedVariables false
set_option linter.unusedSimpArgs false

theorem less_nil {a : List UInt8} (h : a ≠ []) : Op.bytesLess [] a = true := by
  cases a with
  | nil => exact absurd rfl h
  | cons x a => simp [Op.bytesLess]
theorem fits_key {y : ByteArray} {h : Bool} {d : ByteArray} (hf : fitsB y h d = true) : y.toList ≠ [] := by
  rw [fits_split] at hf
  simp at hf
  exact hf.1.1
theorem rmay_loop (n : Int) (l : List S40) (hl : l.length ≤ 100) : ∀ (d : Nat) (k i : Nat) (prev : ByteArray), i ≤ l.length → l.length - i = d → d < k → (i = 0 → prev = ⟨#[]⟩) → (0 < i → prev = (rd_T40 l ((i : Int) - 1)).f0) →
    trothref10_May.l0 k (i : Int) n l = some (mayL prev (l.drop i)) := by
  intro d
  induction d with
  | zero =>
    intro k i prev hi hd hk hp0 hp1
    obtain ⟨k, rfl⟩ : ∃ m, k = m + 1 := ⟨k - 1, by omega⟩
    obtain rfl : i = l.length := by omega
    simp only [trothref10_May.l0]
    rw [if_neg (by omega), List.drop_length]
    rfl
  | succ d ih =>
    intro k i prev hi hd hk hp0 hp1
    obtain ⟨k, rfl⟩ : ∃ m, k = m + 1 := ⟨k - 1, by omega⟩
    have hlt : i < l.length := by omega
    simp only [trothref10_May.l0]
    rw [if_pos (by omega), if_pos (by omega), rd_nat hlt, key_eq]
    simp only [Option.bind_some]
    rw [List.drop_eq_getElem_cons hlt, wrap_up (by omega) (by omega), wrap_down (by omega) (by omega), value_eq]
    simp only [mayL, Option.bind_some]
    rw [fits_split]
    cases h1 : (!(l[i].f0.toList == []) && decide (l[i].f0.size ≤ 16)) with
    | false => simp
    | true =>
      rw [if_pos rfl]
      cases h2 : (decide (l[i].f1.f1.size ≤ 32) && (l[i].f1.f0 || l[i].f1.f1.toList == [])) with
      | false => simp
      | true =>
        rw [if_pos rfl]
        have hne : l[i].f0.toList ≠ [] := by
          simp at h1
          exact h1.1
        have hnext : trothref10_May.l0 k ((i : Int) + 1) n l = some (mayL l[i].f0 (l.drop (i + 1))) := by
          rw [show ((i : Int) + 1) = ((i + 1 : Nat) : Int) by omega]
          refine ih k (i + 1) _ (by omega) (by omega) (by omega) (fun h => by omega) (fun _ => ?_)
          rw [show (((i + 1 : Nat) : Int) - 1) = ((i : Nat) : Int) by omega, rd_nat hlt]
        by_cases h3 : (i : Int) > 0
        · rw [if_pos h3, if_pos (by omega), if_pos (by omega), hp1 (by omega)]
          cases h4 : Op.bytesLess (rd_T40 l ((i : Int) - 1)).f0.toList l[i].f0.toList with
          | false => simp
          | true => rw [if_pos rfl, hnext]; simp
        · rw [if_neg h3, hnext, hp0 (by omega)]
          have h4 : Op.bytesLess (⟨#[]⟩ : ByteArray).toList l[i].f0.toList = true := by
            rw [show (⟨#[]⟩ : ByteArray).toList = [] by rw [Lib.toList_data]]
            exact less_nil hne
          rw [h4]
          simp
theorem rmay_eq (n : Int) (l : List S40) (hl : l.length ≤ 100) (k : Nat) (hk : l.length + 1 < k) : trothref10_May.f k n l = some (mayB n l) := by
  obtain ⟨k, rfl⟩ : ∃ m, k = m + 1 := ⟨k - 1, by omega⟩
  unfold trothref10_May.f mayB
  have hloop := rmay_loop n l hl l.length k 0 ⟨#[]⟩ (by omega) (by omega) (by omega) (fun _ => rfl) (fun h => by omega)
  rw [List.drop_zero] at hloop
  by_cases h1 : n < 0
  · rw [if_pos h1]
    have h1' : ¬ 0 ≤ n := by omega
    simp [trothref10_May.j0, h1']
  · rw [if_neg h1]
    have h1' : 0 ≤ n := by omega
    by_cases h2 : n > 1099511627776
    · rw [if_pos h2]
      have h2' : ¬ n ≤ 1099511627776 := by omega
      simp [trothref10_May.j0, h2']
    · rw [if_neg h2]
      have h2' : n ≤ 1099511627776 := by omega
      simp only [trothref10_May.j0]
      by_cases h3 : (l.length : Int) > 4
      · have h3' : ¬ l.length ≤ 4 := by omega
        rw [if_pos (decide_eq_true h3)]
        simp [h3']
      · have h3' : l.length ≤ 4 := by omega
        rw [if_neg (by simp; omega)]
        have e0 : ((0 : Nat) : Int) = 0 := rfl
        rw [e0] at hloop
        rw [hloop]
        simp [h1', h2', h3']

/-! #### is there a cell of a key -/
theorem eq_tl (a b : ByteArray) : (a.toList = b.toList) = ((a.toList == b.toList) = true) := by simp
theorem has_loop (n : Int) (l : List S40) (y : ByteArray) (hl : l.length ≤ 100) : ∀ (d : Nat) (k i : Nat), i ≤ l.length → l.length - i = d → d < k →
    trothref10_has.l0 k y (i : Int) n l = some ((l.drop i).any fun x => x.f0.toList == y.toList) := by
  intro d
  induction d with
  | zero =>
    intro k i hi hd hk
    obtain ⟨k, rfl⟩ : ∃ m, k = m + 1 := ⟨k - 1, by omega⟩
    obtain rfl : i = l.length := by omega
    simp only [trothref10_has.l0]
    rw [if_neg (by omega), List.drop_length]
    rfl
  | succ d ih =>
    intro k i hi hd hk
    obtain ⟨k, rfl⟩ : ∃ m, k = m + 1 := ⟨k - 1, by omega⟩
    have hlt : i < l.length := by omega
    simp only [trothref10_has.l0]
    rw [if_pos (by omega), if_pos (by omega), rd_nat hlt, List.drop_eq_getElem_cons hlt, wrap_up (by omega) (by omega), List.any_cons]
    by_cases h1 : l[i].f0.toList = y.toList
    · rw [if_pos h1]
      simp [h1]
    · rw [if_neg h1, show ((i : Int) + 1) = ((i + 1 : Nat) : Int) by omega, ih k (i + 1) (by omega) (by omega) (by omega)]
      simp [h1]
theorem ix_any (l : List S40) (y : ByteArray) : decide (0 ≤ ixOf l y) = l.any fun x => x.f0.toList == y.toList := by
  unfold ixOf
  cases h : l.findIdx? (fun x => x.f0.toList == y.toList) with
  | none =>
    rw [List.findIdx?_eq_none_iff] at h
    symm
    simp only [Int.reduceNeg, Int.reduceLE, decide_false, List.any_eq_false]
    intro x hx
    rw [h x hx]
    simp
  | some k =>
    obtain ⟨hk, hb, _⟩ := List.findIdx?_eq_some_iff_getElem.1 h
    symm
    have : decide (0 ≤ (k : Int)) = true := by simp
    rw [this, List.any_eq_true]
    exact ⟨l[k], List.getElem_mem hk, hb⟩
theorem room_eq (n : Int) (l : List S40) (y : ByteArray) (hl : l.length ≤ 100) (k : Nat) (hk : l.length < k) : trothref10_Room.f k n l y = some (roomOf l y) := by
  unfold trothref10_Room.f trothref10_has.f roomOf
  have h := has_loop n l y hl l.length k 0 (by omega) (by omega) hk
  rw [List.drop_zero] at h
  have e0 : ((0 : Nat) : Int) = 0 := rfl
  rw [e0] at h
  rw [h, ix_any]
  simp only [Option.bind_some]
  cases hb : l.any fun x => x.f0.toList == y.toList with
  | true => simp
  | false =>
    rw [if_neg (by decide)]
    by_cases h4 : l.length < 4
    · have h4' : (l.length : Int) < 4 := by omega
      simp [h4, h4']
    · have h4' : ¬ (l.length : Int) < 4 := by omega
      simp [h4, h4']

/-! #### a key's value -/
theorem get_loop (n : Int) (l : List S40) (y : ByteArray) (hl : l.length ≤ 100) : ∀ (d : Nat) (k i : Nat), i ≤ l.length → l.length - i = d → d < k →
    trothref10_Get.l0 k y (i : Int) n l = some (match (l.drop i).find? fun x => x.f0.toList == y.toList with | some x => (x.f1.f0, x.f1.f1) | none => (false, ⟨#[]⟩)) := by
  intro d
  induction d with
  | zero =>
    intro k i hi hd hk
    obtain ⟨k, rfl⟩ : ∃ m, k = m + 1 := ⟨k - 1, by omega⟩
    obtain rfl : i = l.length := by omega
    simp only [trothref10_Get.l0]
    rw [if_neg (by omega), List.drop_length]
    rfl
  | succ d ih =>
    intro k i hi hd hk
    obtain ⟨k, rfl⟩ : ∃ m, k = m + 1 := ⟨k - 1, by omega⟩
    have hlt : i < l.length := by omega
    simp only [trothref10_Get.l0]
    rw [if_pos (by omega), if_pos (by omega), rd_nat hlt, List.drop_eq_getElem_cons hlt, wrap_up (by omega) (by omega), List.find?_cons]
    by_cases h1 : l[i].f0.toList = y.toList
    · rw [if_pos h1]
      simp [h1]
    · rw [if_neg h1, show ((i : Int) + 1) = ((i + 1 : Nat) : Int) by omega, ih k (i + 1) (by omega) (by omega) (by omega)]
      have h2 : (l[i].f0.toList == y.toList) = false := by simpa using h1
      rw [h2]
theorem getOf_eq (l : List S40) (y : ByteArray) : ((getOf l y).f0, (getOf l y).f1) = (match l.find? fun x => x.f0.toList == y.toList with | some x => (x.f1.f0, x.f1.f1) | none => (false, ⟨#[]⟩)) := by
  unfold getOf ixOf
  cases h : l.findIdx? (fun x => x.f0.toList == y.toList) with
  | none =>
    have h2 : l.find? (fun x => x.f0.toList == y.toList) = none := by
      rw [List.find?_eq_none]
      rw [List.findIdx?_eq_none_iff] at h
      intro x hx
      rw [h x hx]
      decide
    rw [h2]
    rfl
  | some k =>
    obtain ⟨hk, hb, hn⟩ := List.findIdx?_eq_some_iff_getElem.1 h
    have h2 : l.find? (fun x => x.f0.toList == y.toList) = some l[k] := by
      rw [List.find?_eq_some_iff_getElem]
      exact ⟨hb, k, hk, rfl, fun j hj => by simpa using hn j hj⟩
    rw [h2]
    simp only [if_neg (show ¬ (k : Int) < 0 by omega), rd_nat hk]
theorem get_eq (n : Int) (l : List S40) (y : ByteArray) (hl : l.length ≤ 100) (k : Nat) (hk : l.length < k) : trothref10_Get.f k n l y = some ((getOf l y).f0, (getOf l y).f1) := by
  unfold trothref10_Get.f
  have h := get_loop n l y hl l.length k 0 (by omega) (by omega) hk
  rw [List.drop_zero] at h
  have e0 : ((0 : Nat) : Int) = 0 := rfl
  rw [e0] at h
  rw [h, getOf_eq]

/-! #### the same page -/
theorem same_loop (n : Int) (l : List S40) (hl : l.length ≤ 100) : ∀ (d : Nat) (k i : Nat), i ≤ l.length → l.length - i = d → d < k →
    trothref10_Same.l0 k (i : Int) n l n l = some true := by
  intro d
  induction d with
  | zero =>
    intro k i hi hd hk
    obtain ⟨k, rfl⟩ : ∃ m, k = m + 1 := ⟨k - 1, by omega⟩
    obtain rfl : i = l.length := by omega
    simp only [trothref10_Same.l0]
    rw [if_neg (by omega)]
  | succ d ih =>
    intro k i hi hd hk
    obtain ⟨k, rfl⟩ : ∃ m, k = m + 1 := ⟨k - 1, by omega⟩
    have hlt : i < l.length := by omega
    simp only [trothref10_Same.l0]
    rw [if_pos (by omega), if_pos (by omega), if_pos (by omega), if_neg (by simp), wrap_up (by omega) (by omega), show ((i : Int) + 1) = ((i + 1 : Nat) : Int) by omega]
    exact ih k (i + 1) (by omega) (by omega) (by omega)
theorem same_eq (n : Int) (l : List S40) (hl : l.length ≤ 100) (k : Nat) (hk : l.length + 1 < k) : trothref10_Same.f k n l n l = some true := by
  obtain ⟨k, rfl⟩ : ∃ m, k = m + 1 := ⟨k - 1, by omega⟩
  unfold trothref10_Same.f
  rw [if_pos rfl]
  simp only [trothref10_Same.j0]
  rw [if_neg (by simp)]
  exact same_loop n l hl l.length k 0 (by omega) (by omega) (by omega)
end Go.Proofs.Ytoedoakldogkhaa.Ps

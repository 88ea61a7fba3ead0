/- The plain law: the Lean function of trothlaw10.PageSets answers true at every input. -/
import Derived.Test.YtoedoakldogkhaaP
namespace Go.Proofs.Ytoedoakldogkhaa.Ps
open Go.RowKit Go.Proofs.YtoedoakldogkhaaW.PrintWords Go.Proofs.YtoedoakldogkhaaW.PrintLast Go.Proofs.YtoedoakldogkhaaW.PrintMore
set_option linter.unusedVariables false
set_option linter.unusedSimpArgs false

/-! #### a key is set -/
/-- A key is put into a list of cells, one cell after the other. -/
def putR (y : ByteArray) (v : S26) : List S40 → List S40
  | [] => [⟨y, v⟩]
  | x :: r => if Op.bytesLess x.f0.toList y.toList = true then x :: putR y v r else if x.f0.toList = y.toList then ⟨y, v⟩ :: r else ⟨y, v⟩ :: x :: r
theorem fd_cons (x : S40) (r : List S40) (y : ByteArray) : fdOf (x :: r) y = if Op.bytesLess x.f0.toList y.toList = true then fdOf r y + 1 else 0 := by
  unfold fdOf
  rw [List.findIdx?_cons, geK_eq]
  cases h : Op.bytesLess x.f0.toList y.toList with
  | false => simp
  | true =>
    simp only [Bool.not_true, if_true]
    rw [if_neg (by decide)]
    cases h2 : r.findIdx? (geK y) with
    | none => simp
    | some k => simp
theorem rd_succ (x : S40) (r : List S40) (k : Nat) : rd_T40 (x :: r) ((k + 1 : Nat) : Int) = rd_T40 r (k : Int) := by
  simp [rd_T40]
theorem put_eq (y : ByteArray) (v : S26) : ∀ l : List S40, putOf l y v = putR y v l := by
  intro l
  induction l with
  | nil => rfl
  | cons x r ih =>
    unfold putR
    cases h : Op.bytesLess x.f0.toList y.toList with
    | true =>
      rw [if_pos rfl, ← ih]
      have hf : fdOf (x :: r) y = fdOf r y + 1 := by rw [fd_cons, if_pos h]
      have hi : isOf (x :: r) y = isOf r y := by
        unfold isOf
        rw [hf, rd_succ]
        simp
      unfold putOf
      rw [hi, hf]
      cases isOf r y with
      | true =>
        rw [if_pos rfl, if_pos rfl, List.set_cons_succ, rd_succ]
      | false =>
        rw [if_neg (by decide), if_neg (by decide)]
        rfl
    | false =>
      rw [if_neg (by decide)]
      have hf : fdOf (x :: r) y = 0 := by rw [fd_cons, if_neg (by rw [h]; decide)]
      unfold putOf isOf
      rw [hf]
      have e0 : rd_T40 (x :: r) ((0 : Nat) : Int) = x := rfl
      rw [e0]
      by_cases he : x.f0.toList = y.toList
      · have hb : (x.f0.toList == y.toList) = true := by simpa using he
        rw [hb, if_pos (by simp), if_pos he, List.set_cons_zero, bytes_ext he]
      · have hb : (x.f0.toList == y.toList) = false := by simpa using he
        rw [hb, if_neg (by simp), if_neg he]
        rfl

theorem bl_trans {a b c : List UInt8} (h1 : Op.bytesLess a b = true) (h2 : Op.bytesLess b c = true) : Op.bytesLess a c = true := by
  rw [bless_iff] at *
  exact List.lt_trans h1 h2
/-- Behind a cell whose key is not below a key no cell has that key. -/
theorem after_ne {y : ByteArray} : ∀ {l : List S40} {p : ByteArray}, mayL p l = true → Op.bytesLess p.toList y.toList = false → ∀ x ∈ l, x.f0.toList ≠ y.toList := by
  intro l
  induction l with
  | nil => intro p _ _ x hx; cases hx
  | cons z r ih =>
    intro p hm hb x hx
    simp only [mayL, Bool.and_eq_true] at hm
    obtain ⟨⟨_, h1⟩, h2⟩ := hm
    have hz : Op.bytesLess z.f0.toList y.toList = false := by
      cases h : Op.bytesLess z.f0.toList y.toList with
      | false => rfl
      | true => rw [bl_trans h1 h] at hb; cases hb
    rcases List.mem_cons.1 hx with rfl | hx
    · intro e
      rw [e] at h1
      rw [h1] at hb
      cases hb
    · exact ih h2 hz x hx
/-- Behind the place where it was put the reference's loop takes what is left, but for cells of that key. -/
theorem rset_done (n : Int) (l : List S40) (y : ByteArray) (h : Bool) (d0 : ByteArray) (lsn : Int) (hl : l.length ≤ 100) (K : Nat) : ∀ (d : Nat) (k i : Nat) (acc : List S40), i ≤ l.length → l.length - i = d → 2 * d < k → acc.length ≤ i + 1 → (∀ x ∈ l.drop i, x.f0.toList ≠ y.toList) →
    trothref10_Set.l0 k y true (i : Int) n l h d0 lsn acc = some (lsn, acc ++ l.drop i, 0) := by
  intro d
  induction d with
  | zero =>
    intro k i acc hi hd hk ha hne
    obtain ⟨k, rfl⟩ : ∃ m, k = m + 1 := ⟨k - 1, by omega⟩
    obtain rfl : i = l.length := by omega
    simp only [trothref10_Set.l0]
    rw [if_neg (by omega), if_pos trivial, List.drop_length, List.append_nil]
  | succ d ih =>
    intro k i acc hi hd hk ha hne
    obtain ⟨k, rfl⟩ : ∃ m, k = m + 2 := ⟨k - 2, by omega⟩
    have hlt : i < l.length := by omega
    have hdr := List.drop_eq_getElem_cons hlt
    rw [hdr] at hne ⊢
    have h1 : l[i].f0.toList ≠ y.toList := hne _ List.mem_cons_self
    have h2 : ∀ x ∈ l.drop (i + 1), x.f0.toList ≠ y.toList := fun x hx => hne x (List.mem_cons_of_mem _ hx)
    simp only [trothref10_Set.l0]
    rw [if_pos (by omega), if_pos trivial]
    simp only [trothref10_Set.j2]
    rw [if_neg (by decide), if_pos (by omega), if_pos (by omega), rd_nat hlt, if_neg h1, if_pos (by omega), wrap_up (by omega) (by omega), show ((i : Int) + 1) = ((i + 1 : Nat) : Int) by omega]
    rw [ih k (i + 1) _ (by omega) (by omega) (by omega) (by simp; omega) h2]
    simp
    exact hdr.symm
theorem rset_loop (n : Int) (l : List S40) (y : ByteArray) (h : Bool) (d0 : ByteArray) (lsn : Int) (hl : l.length ≤ 100) : ∀ (d : Nat) (k i : Nat) (acc : List S40) (prev : ByteArray), i ≤ l.length → l.length - i = d → 2 * d < k → acc.length ≤ i → mayL prev (l.drop i) = true →
    trothref10_Set.l0 k y false (i : Int) n l h d0 lsn acc = some (lsn, acc ++ putR y ⟨h, d0⟩ (l.drop i), 0) := by
  intro d
  induction d with
  | zero =>
    intro k i acc prev hi hd hk ha hm
    obtain ⟨k, rfl⟩ : ∃ m, k = m + 1 := ⟨k - 1, by omega⟩
    obtain rfl : i = l.length := by omega
    simp only [trothref10_Set.l0]
    rw [if_neg (by omega), if_neg (by decide), if_pos (by omega), List.drop_length]
    rfl
  | succ d ih =>
    intro k i acc prev hi hd hk ha hm
    obtain ⟨k, rfl⟩ : ∃ m, k = m + 2 := ⟨k - 2, by omega⟩
    have hlt : i < l.length := by omega
    have hdr := List.drop_eq_getElem_cons hlt
    rw [hdr] at hm ⊢
    simp only [mayL, Bool.and_eq_true] at hm
    obtain ⟨⟨_, _⟩, hm⟩ := hm
    simp only [trothref10_Set.l0]
    rw [if_pos (by omega), if_neg (by decide), if_pos (by omega), rd_nat hlt]
    simp only [trothref10_Set.j2]
    cases hb : Op.bytesLess l[i].f0.toList y.toList with
    | true =>
      have hne : l[i].f0.toList ≠ y.toList := fun e => by
        have := bl_ne hb
        rw [e] at this
        simp at this
      have hput : putR y ⟨h, d0⟩ (l[i] :: l.drop (i + 1)) = l[i] :: putR y ⟨h, d0⟩ (l.drop (i + 1)) := by
        rw [putR, if_pos hb]
      rw [hput, if_neg (by decide), if_pos (by omega), if_pos (by omega), rd_nat hlt, if_neg hne, if_pos (by omega), wrap_up (by omega) (by omega), show ((i : Int) + 1) = ((i + 1 : Nat) : Int) by omega]
      rw [ih k (i + 1) _ _ (by omega) (by omega) (by omega) (by simp; omega) hm]
      simp
    | false =>
      have hafter : ∀ x ∈ l.drop (i + 1), x.f0.toList ≠ y.toList := after_ne hm hb
      rw [if_pos (by decide), if_pos (by omega)]
      simp only [Option.bind_some]
      rw [if_pos (by omega), if_pos (by omega), rd_nat hlt]
      by_cases he : l[i].f0.toList = y.toList
      · have hput : putR y ⟨h, d0⟩ (l[i] :: l.drop (i + 1)) = ⟨y, ⟨h, d0⟩⟩ :: l.drop (i + 1) := by
          rw [putR, hb, if_neg (by decide), if_pos he]
        rw [hput, if_pos he, wrap_up (by omega) (by omega), show ((i : Int) + 1) = ((i + 1 : Nat) : Int) by omega]
        rw [rset_done n l y h d0 lsn hl 0 d k (i + 1) _ (by omega) (by omega) (by omega) (by simp; omega) hafter]
        simp
      · have hput : putR y ⟨h, d0⟩ (l[i] :: l.drop (i + 1)) = ⟨y, ⟨h, d0⟩⟩ :: l[i] :: l.drop (i + 1) := by
          rw [putR, hb, if_neg (by decide), if_neg he]
        rw [hput, if_neg he, if_pos (by simp; omega), wrap_up (by omega) (by omega), show ((i : Int) + 1) = ((i + 1 : Nat) : Int) by omega]
        rw [rset_done n l y h d0 lsn hl 0 d k (i + 1) _ (by omega) (by omega) (by omega) (by simp; omega) hafter]
        simp
        exact hdr.symm

theorem rset_eq (n : Int) (l : List S40) (lsn : Int) (y : ByteArray) (h : Bool) (d : ByteArray) (hl : l.length ≤ 20) (k : Nat) (hk : 60 < k) : trothref10_Set.f k n l lsn y h d = some (setOf (mayB n l) l lsn y h d) := by
  have hm := rmay_eq n l (by omega) k (by omega)
  obtain ⟨k, rfl⟩ : ∃ m, k = m + 1 := ⟨k - 1, by omega⟩
  have hbad : trothref10_Set.j0 (k + 1) lsn y true n l h d = some (0, [], 1) := by simp [trothref10_Set.j0]
  unfold trothref10_Set.f setOf
  rw [hm, fits_split, key_eq, value_eq]
  simp only [Option.bind_some]
  cases h1 : mayB n l with
  | false => simp [hbad]
  | true =>
    rw [if_pos rfl, if_neg (show ¬ true = false by decide)]
    cases h2 : (!(y.toList == []) && decide (y.size ≤ 16)) with
    | false => simp [hbad]
    | true =>
      rw [if_pos rfl]
      cases h3 : (decide (d.size ≤ 32) && (h || d.toList == [])) with
      | false => simp [hbad]
      | true =>
        rw [if_pos rfl, if_neg (show ¬ (true && true) = false by decide)]
        by_cases h4 : lsn < 1
        · rw [if_pos h4, if_pos h4, hbad]
        · rw [if_neg h4, if_neg h4]
          by_cases h5 : 1099511627776 < lsn
          · have h5' : lsn > 1099511627776 := h5
            rw [if_pos h5, decide_eq_true h5', hbad]
          · have h5' : ¬ lsn > 1099511627776 := h5
            rw [if_neg h5, decide_eq_false h5']
            simp only [trothref10_Set.j0]
            rw [if_neg (by decide), room_eq n l y (by omega) k (by omega)]
            simp only [Option.bind_some]
            cases h6 : roomOf l y with
            | false => simp
            | true =>
              rw [if_pos rfl, if_neg (show ¬ true = false by decide), put_eq]
              have hm2 : mayL ⟨#[]⟩ l = true := by
                unfold mayB at h1
                simp only [Bool.and_eq_true] at h1
                exact h1.1.1.1
              have hloop := rset_loop n l y h d lsn (by omega) l.length k 0 [] ⟨#[]⟩ (by omega) (by omega) (by omega) (by simp) (by rw [List.drop_zero]; exact hm2)
              have e0 : ((0 : Nat) : Int) = 0 := rfl
              rw [e0] at hloop
              rw [hloop]
              simp
theorem pset_eq (n : Int) (l : List S40) (lsn : Int) (y : ByteArray) (h : Bool) (d : ByteArray) (hl : l.length ≤ 20) (k : Nat) (hk : 60 < k) : page_Set.f k n l lsn y h d = some (setOf (mayB n l) l lsn y h d) := by
  unfold page_Set.f
  rw [may_eq n l (by omega) k (by omega)]
  simp only [Option.bind_some]
  rw [if_pos (by omega)]
theorem copy_eq (n : Int) (l : List S40) (hl : l.length ≤ 20) : trothref10_Copy.f n l = some (n, l) := by
  unfold trothref10_Copy.f
  simp only [Option.bind_some]
  rw [if_pos (by simp; omega)]
  simp
theorem great_loop (n : Int) (l : List S40) (hl : l.length ≤ 100) : ∀ (d : Nat) (k i : Nat), i ≤ l.length → l.length - i = d → d < k → ∃ b, trothref10_Great.l0 k (i : Int) n l = some b := by
  intro d
  induction d with
  | zero =>
    intro k i hi hd hk
    obtain ⟨k, rfl⟩ : ∃ m, k = m + 1 := ⟨k - 1, by omega⟩
    exact ⟨false, by simp only [trothref10_Great.l0]; rw [if_neg (by omega)]⟩
  | succ d ih =>
    intro k i hi hd hk
    obtain ⟨k, rfl⟩ : ∃ m, k = m + 1 := ⟨k - 1, by omega⟩
    obtain ⟨b, hb⟩ := ih k (i + 1) (by omega) (by omega) (by omega)
    simp only [trothref10_Great.l0]
    rw [if_pos (by omega), if_pos (by omega), wrap_up (by omega) (by omega), show ((i : Int) + 1) = ((i + 1 : Nat) : Int) by omega, hb]
    split
    · exact ⟨_, rfl⟩
    · split
      · exact ⟨_, rfl⟩
      · exact ⟨_, rfl⟩
theorem great_eq (n : Int) (l : List S40) (k : Nat) (hk : 60 < k) : ∃ b, trothref10_Great.f k n l = some b ∧ (b = false → l.length ≤ 20) := by
  unfold trothref10_Great.f
  by_cases h : (l.length : Int) > 20
  · rw [if_pos h]
    exact ⟨true, rfl, fun e => by cases e⟩
  · rw [if_neg h]
    obtain ⟨b, hb⟩ := great_loop n l (by omega) l.length k 0 (by omega) (by omega) (by omega)
    exact ⟨b, hb, fun _ => by omega⟩
theorem awake_eq (k : Nat) (hk : 60 < k) : trothlaw10_awake.f k = some true := by
  unfold trothlaw10_awake.f
  rw [pset_eq 0 [] 7 _ true _ (by simp) k hk]
  have e1 : (⟨#[97]⟩ : ByteArray).toList = [97] := by rw [Lib.toList_data]
  have e2 : (⟨#[49]⟩ : ByteArray).toList = [49] := by rw [Lib.toList_data]
  have hs : setOf (mayB 0 []) [] 7 (⟨#[97]⟩ : ByteArray) true (⟨#[49]⟩ : ByteArray) = (7, [⟨⟨#[97]⟩, ⟨true, ⟨#[49]⟩⟩⟩], 0) := by
    have hf : fitsB (⟨#[97]⟩ : ByteArray) true (⟨#[49]⟩ : ByteArray) = true := by
      unfold fitsB
      rw [e1, e2]
      rfl
    have hr : roomOf [] (⟨#[97]⟩ : ByteArray) = true := rfl
    have hm : mayB 0 [] = true := rfl
    unfold setOf
    rw [hm, hf, hr, put_eq]
    rfl
  rw [hs]
  simp only [Option.bind_some, if_pos]
  have hg : getOf [⟨⟨#[97]⟩, ⟨true, ⟨#[49]⟩⟩⟩] (⟨#[97]⟩ : ByteArray) = ⟨true, ⟨#[49]⟩⟩ := by
    have h1 := getOf_eq [⟨⟨#[97]⟩, ⟨true, ⟨#[49]⟩⟩⟩] (⟨#[97]⟩ : ByteArray)
    rw [List.find?_cons] at h1
    simp only [beq_self_eq_true] at h1
    injection h1 with h1 h2
    cases hh : getOf [⟨⟨#[97]⟩, ⟨true, ⟨#[49]⟩⟩⟩] (⟨#[97]⟩ : ByteArray)
    rw [hh] at h1 h2
    simp only at h1 h2
    rw [h1, h2]
  rw [if_pos (by rfl)]
  unfold page_Get.f
  rw [hg]
  simp [e2]
theorem law_eq (n : Int) (l : List S40) (lsn : Int) (y : ByteArray) (h : Bool) (d : ByteArray) : ∃ k, trothlaw10_PageSets.f k n l lsn y h d = some true := by
  refine ⟨101, ?_⟩
  obtain ⟨b, hb, hlen⟩ := great_eq n l 101 (by omega)
  have hbad : trothlaw10_PageSets.j0 101 lsn y true n l h d = some true := by
    simp only [trothlaw10_PageSets.j0]
    rw [if_pos trivial, awake_eq 100 (by omega)]
    rfl
  unfold trothlaw10_PageSets.f
  rw [hb]
  simp only [Option.bind_some]
  cases b with
  | true => rw [if_pos rfl, hbad]
  | false =>
    have hl := hlen rfl
    rw [if_neg (by decide)]
    by_cases h1 : (y.size : Int) > 100
    · rw [if_pos h1, hbad]
    · rw [if_neg h1]
      cases h2 : decide ((d.size : Int) > 100) with
      | true => exact hbad
      | false =>
        have hput : (setOf (mayB n l) l lsn y h d).2.1.length ≤ 21 := by
          unfold setOf
          split
          · simp
          · split
            · simp
            · split
              · simp
              · split
                · simp
                · split
                  · simp
                  · simp only [putOf]
                    split
                    · simp; omega
                    · have := fd_le l y
                      simp
                      omega
        simp only [trothlaw10_PageSets.j0]
        rw [if_neg (by decide), copy_eq n l hl]
        simp only [Option.bind_some]
        rw [pset_eq n l lsn y h d hl 100 (by omega), rset_eq n l lsn y h d hl 100 (by omega)]
        simp only [Option.bind_some]
        rw [if_pos trivial, same_eq _ _ (by omega) 100 (by omega)]
        simp only [Option.bind_some]
        rw [if_pos trivial, get_eq n l y (by omega) 100 (by omega)]
        unfold page_Get.f page_Room.f
        simp only [Option.bind_some]
        rw [if_pos (by simp), room_eq n l y (by omega) 100 (by omega)]
        simp only [Option.bind_some]
        rw [if_pos (by simp), awake_eq 100 (by omega)]
        rfl
end Go.Proofs.Ytoedoakldogkhaa.Ps

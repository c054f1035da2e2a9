/- The plain law of parsing, its second half: the reference's list of labels. -/
import Derived.Test.YtiooenmbondflaaHParse0
namespace Go.Proofs.Ytiooenmbondflaa.H
open Go Go.RowKit Go.Proofs.YtiooenmbondflaaW.PrintWords Go.Proofs.YtiooenmbondflaaW.PrintLast Go.Proofs.YtiooenmbondflaaW.PrintMore Go.Proofs.Ytiooenmbondflaa.PAll
set_option linter.unusedVariables false
set_option linter.unusedSimpArgs false

/-- A label at the begin of a text, and what is behind it. -/
def lblP (l : List UInt8) : Option (S32 × List UInt8) :=
  if l.takeWhile nb = [] then none else
  match l.dropWhile nb with
  | c :: d :: r => if c.toNat = 61 ∧ d.toNat = 34 then (unq r).map fun y => (⟨ofB (l.takeWhile nb), ofB y.1⟩, r.drop y.2) else none
  | _ => none
/-- Labels with commas between them, and a brace that ends them. -/
def items : Nat → List UInt8 → Option L32
  | 0, _ => none
  | f + 1, l => match lblP l with
    | none => none
    | some (x, r) => match r with
      | [] => none
      | c :: r' => if c.toNat = 44 then (items f r').map (x :: ·) else if c.toNat = 125 ∧ r' = [] then some [x] else none
def parseT (s : List UInt8) : Option L32 :=
  if s = [123, 125] then some [] else match s with
  | [] => none
  | c :: r => if c.toNat = 123 then items (r.length + 2) r else none

theorem tw_dw (l : List UInt8) : l.takeWhile nb ++ l.dropWhile nb = l := List.takeWhile_append_dropWhile
theorem tw_len (l : List UInt8) : (l.takeWhile nb).length + (l.dropWhile nb).length = l.length := by
  have := congrArg List.length (tw_dw l); rwa [List.length_append] at this
theorem drop_tw (l : List UInt8) : l.drop (l.takeWhile nb).length = l.dropWhile nb := by
  have h := tw_dw l
  calc l.drop (l.takeWhile nb).length = (l.takeWhile nb ++ l.dropWhile nb).drop (l.takeWhile nb).length := by rw [h]
    _ = l.dropWhile nb := List.drop_left
theorem take_tw (l : List UInt8) : l.take (l.takeWhile nb).length = l.takeWhile nb := by
  have h := tw_dw l
  calc l.take (l.takeWhile nb).length = (l.takeWhile nb ++ l.dropWhile nb).take (l.takeWhile nb).length := by rw [h]
    _ = l.takeWhile nb := List.take_left

theorem lblP_len {l r : List UInt8} {x : S32} (h : lblP l = some (x, r)) : r.length + (l.takeWhile nb).length + 3 ≤ l.length ∧ x.f0.size ≤ l.length ∧ x.f1.size ≤ l.length := by
  unfold lblP at h
  have ht := tw_len l
  split at h
  · simp at h
  · rename_i hne
    have : 0 < (l.takeWhile nb).length := List.length_pos_iff.2 hne
    split at h
    · rename_i c d r' hd
      split at h
      · obtain ⟨⟨v, n⟩, h1, h2⟩ := Option.map_eq_some_iff.1 h
        have := unq_le r' v n h1
        simp only [Prod.mk.injEq] at h2
        obtain ⟨rfl, rfl⟩ := h2
        rw [hd] at ht
        simp only [List.length_cons, List.length_drop, ofB_size] at *
        omega
      · simp at h
    · simp at h

theorem ab_extract (s : ByteArray) (i j : Nat) (hj : j ≤ s.size) : ab (s.extract i j) = ((ab s).take j).drop i := by
  unfold ab
  rw [ByteArray.data_extract, Array.toList_extract]
  simp [List.extract_eq_take_drop, List.drop_take]

theorem list_l1 (s : ByteArray) (hs : s.size ≤ 1000000) (out : L32) (from_ : Int) : ∀ (n k i : Nat), i ≤ (ab s).length → (((ab s).drop i).takeWhile nb).length = n → n < k →
    lookoutref05_list.l1 k s out (i : Int) from_ = lookoutref05_list.j4 (k - n - 1) s out ((i + n : Nat) : Int) from_ := by
  intro n
  have hl := ab_length s
  induction n with
  | zero =>
    intro k i hi hn hk
    obtain ⟨k, rfl⟩ : ∃ m, k = m + 1 := ⟨k - 1, by omega⟩
    simp only [lookoutref05_list.l1]
    by_cases hj : i < (ab s).length
    · rw [if_pos (by omega), if_pos (by omega), bt_ab s i hj, letter_f]
      rw [List.drop_eq_getElem_cons hj, List.takeWhile_cons] at hn
      cases hc : nb (ab s)[i]
      · simp
      · rw [hc] at hn; simp at hn
    · rw [if_neg (by omega)]
      simp
  | succ n ih =>
    intro k i hi hn hk
    obtain ⟨k, rfl⟩ : ∃ m, k = m + 1 := ⟨k - 1, by omega⟩
    have hj : i < (ab s).length := by
      apply Nat.lt_of_not_le; intro hge
      rw [List.drop_eq_nil_of_le hge] at hn; simp at hn
    simp only [lookoutref05_list.l1]
    rw [if_pos (by omega), if_pos (by omega), bt_ab s i hj, letter_f]
    rw [List.drop_eq_getElem_cons hj, List.takeWhile_cons] at hn
    cases hc : nb (ab s)[i]
    · rw [hc] at hn; simp at hn
    · rw [hc] at hn
      simp only [if_true, List.length_cons] at hn
      simp only [Option.bind_some, if_true]
      rw [wrap1 i (by omega), ih k (i + 1) (by omega) (by omega) (by omega)]
      congr 1
      · omega
      · congr 1; omega

theorem e2_aux (size a m len : Nat) (h1 : a ≤ size) (h2 : len = size) (h3 : m ≤ len - a) : ((a + m : Nat) : Int) = ((size - (len - a - m) : Nat) : Int) := by omega

set_option maxHeartbeats 2000000 in
/-- One label of the reference's loop. -/
theorem list_item (s : ByteArray) (hs : s.size ≤ 1000000) (out : L32) (ho : out.length ≤ 1000000) (k p : Nat) (hp : p ≤ (ab s).length) (hk : 3 * s.size + 10 < k) :
    lookoutref05_list.l1 k s out (p : Int) (p : Int) = match lblP ((ab s).drop p) with
      | none => some (out, false)
      | some (x, r) => lookoutref05_list.l0 (k - (((ab s).drop p).takeWhile nb).length - 3) s (out ++ [x]) ((s.size - r.length : Nat) : Int) := by
  have hl := ab_length s
  have ht := tw_len ((ab s).drop p)
  rw [List.length_drop] at ht
  rw [list_l1 s hs out p _ k p hp rfl (by omega)]
  obtain ⟨n, hn⟩ : ∃ n, (((ab s).drop p).takeWhile nb).length = n := ⟨_, rfl⟩
  rw [hn] at ht ⊢
  obtain ⟨k, rfl⟩ : ∃ m, k = m + n + 3 := ⟨k - n - 3, by omega⟩
  rw [show k + n + 3 - n - 1 = k + 2 by omega, show k + n + 3 - n - 3 = k by omega]
  have hk2 : 2 * s.size + 2 < k := by omega
  have hname : ab (s.extract p (p + n)) = ((ab s).drop p).takeWhile nb := by
    rw [ab_extract s p (p + n) (by omega), List.drop_take, show p + n - p = n by omega, ← hn, take_tw]
  have hrest : (ab s).drop (p + n) = ((ab s).drop p).dropWhile nb := by
    rw [← List.drop_drop, ← hn, drop_tw]
  have j5t : ∀ nm, lookoutref05_list.j5 (k + 1) s out ((p + n : Nat) : Int) nm true = some (out, false) := fun nm => by simp only [lookoutref05_list.j5, if_true]
  rw [lookoutref05_list.j4]
  rw [if_pos (by omega), if_pos (by omega), if_pos (by omega)]
  simp only [Int.toNat_natCast, toList_ab]
  rw [hname]
  unfold lblP
  by_cases h0 : ((ab s).drop p).takeWhile nb = []
  · rw [if_pos h0, if_pos h0, j5t]
  · rw [if_neg h0, if_neg h0, wrap1 (p + n) (by omega), ← hrest]
    by_cases h1 : ((p + n + 1 : Nat) : Int) ≥ (s.size : Int)
    · rw [if_pos h1, j5t]
      have : ((ab s).drop (p + n)).length ≤ 1 := by rw [List.length_drop]; omega
      generalize (ab s).drop (p + n) = q at *
      match q, this with
      | [], _ => rfl
      | [_], _ => rfl
    · have hj0 : p + n < (ab s).length := by omega
      have hj1 : p + n + 1 < (ab s).length := by omega
      rw [if_neg h1, if_pos (by omega), if_pos (by omega), bt_ab s (p + n) hj0, List.drop_eq_getElem_cons hj0, List.drop_eq_getElem_cons hj1]
      generalize hc : (ab s)[p + n] = c
      generalize hd : (ab s)[p + n + 1] = d
      simp only []
      by_cases h2 : (c.toNat : Int) = 61
      · rw [if_pos h2, if_pos (by omega), if_pos (by omega), bt_ab s (p + n + 1) hj1, hd]
        by_cases h3 : (d.toNat : Int) = 34
        · have hb : ((d.toNat : Int) != 34) = false := by simpa using h3
          have hw2 : wrap64 (((p + n : Nat) : Int) + 2) = ((p + n + 2 : Nat) : Int) := by unfold wrap64; omega
          rw [hb, if_pos (show c.toNat = 61 ∧ d.toNat = 34 by omega)]
          simp only [lookoutref05_list.j5, Bool.false_eq_true, if_false]
          have hpn : p + n + 2 ≤ s.size := hl ▸ hj1
          rw [hw2, value_f s k (p + n + 2) hs hk2 hpn]
          simp only [Option.bind_some]
          cases hu : unq ((ab s).drop (p + n + 1 + 1)) with
          | none =>
            simp [resU]
          | some y =>
            obtain ⟨v, m⟩ := y
            have hle := unq_le _ v m hu
            rw [show p + n + 1 + 1 = p + n + 2 by omega] at hle ⊢
            simp only [resU, if_true, Option.map_some, List.nil_append]
            rw [if_pos (by omega), str_ints]
            rw [List.length_drop] at hle
            have e1 : s.extract p (p + n) = ofB (((ab s).drop p).takeWhile nb) := ab_inj (by rw [hname]; rfl)
            have e2 : ((p + n + 2 + m : Nat) : Int) = ((s.size - (((ab s).drop (p + n + 2)).drop m).length : Nat) : Int) := by
              rw [List.length_drop, List.length_drop]
              exact e2_aux s.size (p + n + 2) m (ab s).length hpn hl hle.2
            rw [e1, e2]
        · have hb : ((d.toNat : Int) != 34) = true := by simpa using h3
          rw [hb, if_neg (show ¬ (c.toNat = 61 ∧ d.toNat = 34) by omega), j5t]
      · rw [if_neg h2, if_neg (show ¬ (c.toNat = 61 ∧ d.toNat = 34) by omega), j5t]

set_option maxHeartbeats 2000000 in
theorem list_l0 (s : ByteArray) (hs : s.size ≤ 1000000) : ∀ (n k i f : Nat) (out : L32), i ≤ (ab s).length → (ab s).length - i ≤ n → n < f → 4 * s.size + 20 + 10 * n < k → out.length + n ≤ 1000000 → (i = 0 ∨ ∃ c r, (ab s).drop i = c :: r ∧ c.toNat = 44) → i < (ab s).length →
    ∃ r, lookoutref05_list.l0 k s out (i : Int) = some r ∧ r.2 = (items f ((ab s).drop (i + 1))).isSome ∧ ∀ l, items f ((ab s).drop (i + 1)) = some l → r.1 = out ++ l := by
  intro n
  have hl := ab_length s
  induction n using Nat.strongRecOn with
  | _ n ih =>
    intro k i f out hi hn hf hk ho hst hlt
    obtain ⟨k, rfl⟩ : ∃ m, k = m + 2 := ⟨k - 2, by omega⟩
    obtain ⟨f, rfl⟩ : ∃ m, f = m + 1 := ⟨f - 1, by omega⟩
    have hin : lookoutref05_list.l0 (k + 2) s out (i : Int) = lookoutref05_list.l1 k s out ((i + 1 : Nat) : Int) ((i + 1 : Nat) : Int) := by
      simp only [lookoutref05_list.l0]
      rw [if_pos (by omega)]
      by_cases h0 : (i : Int) = 0
      · rw [if_pos h0]
        simp only [lookoutref05_list.j2, if_true]
        rw [wrap1 i (by omega)]
      · rw [if_neg h0, if_pos (by omega), bt_ab s i hlt]
        have hb : (((ab s)[i].toNat : Int) == 44) = true := by
          rcases hst with h | ⟨c, r, h1, h2⟩
          · omega
          · rw [List.drop_eq_getElem_cons hlt] at h1
            injection h1 with h1 _
            rw [h1, h2]; rfl
        rw [hb]
        simp only [lookoutref05_list.j2, if_true]
        rw [wrap1 i (by omega)]
    clear hst
    rw [hin, list_item s hs out (by omega) k (i + 1) (by omega) (by omega)]
    simp only [items]
    have htw := tw_len ((ab s).drop (i + 1))
    rw [List.length_drop] at htw
    cases hL : lblP ((ab s).drop (i + 1)) with
    | none => exact ⟨_, rfl, rfl, fun l h => by simp at h⟩
    | some y =>
      obtain ⟨x, r⟩ := y
      have hlen := lblP_len hL
      rw [List.length_drop] at hlen
      have hdrop : (ab s).drop (s.size - r.length) = r := by
        unfold lblP at hL
        split at hL
        · simp at hL
        · split at hL
          · rename_i c d r' hd
            split at hL
            · obtain ⟨⟨v, m⟩, h1, h2⟩ := Option.map_eq_some_iff.1 hL
              simp only [Prod.mk.injEq] at h2
              obtain ⟨_, rfl⟩ := h2
              have e : r' = (ab s).drop (i + 1 + (((ab s).drop (i + 1)).takeWhile nb).length + 2) := by
                have h3 : (ab s).drop (i + 1 + (((ab s).drop (i + 1)).takeWhile nb).length) = c :: d :: r' := by rw [← List.drop_drop, drop_tw, hd]
                rw [← List.drop_drop, h3]; rfl
              have hm := unq_le _ v m h1
              have hlr := congrArg List.length e
              rw [List.length_drop] at hlr
              rw [hd] at htw
              simp only [List.length_cons] at htw
              rw [e, List.drop_drop]
              congr 1
              rw [List.length_drop]; omega
            · simp at hL
          · simp at hL
      simp only []
      obtain ⟨i', hi'⟩ : ∃ i', s.size - r.length = i' := ⟨_, rfl⟩
      rw [hi'] at hdrop ⊢
      obtain ⟨k', hk'⟩ : ∃ k', k - (((ab s).drop (i + 1)).takeWhile nb).length - 3 = k' := ⟨_, rfl⟩
      rw [hk']
      cases r with
      | nil =>
        obtain ⟨k', rfl⟩ : ∃ m, k' = m + 2 := ⟨k' - 2, by omega⟩
        simp only [lookoutref05_list.l0]
        rw [if_neg (by simp at hi'; omega)]
        simp only [lookoutref05_list.j2, Bool.false_eq_true, if_false]
        have hw : wrap64 ((s.size : Int) - 1) = ((s.size - 1 : Nat) : Int) := by unfold wrap64; omega
        rw [hw, if_neg (by simp at hi'; omega)]
        exact ⟨_, rfl, rfl, fun l h => by simp at h⟩
      | cons c r' =>
        simp only [List.length_cons] at hlen hi'
        have hi2 : i' + (r'.length + 1) = s.size := by omega
        have hk3 : 4 * s.size + 20 + 10 * ((ab s).length - i') < k' := by omega
        clear hi' hk' htw
        by_cases hc : c.toNat = 44
        · simp only [hc, if_true]
          have hd1 : (ab s).drop (i' + 1) = r' := by rw [← List.drop_drop, hdrop]; rfl
          obtain ⟨res, h1, h2, h3⟩ := ih ((ab s).length - i') (by omega) k' i' f (out ++ [x]) (by omega) (by omega) (by omega) (by omega) (by simp; omega) (.inr ⟨c, r', hdrop, hc⟩) (by omega)
          rw [hd1] at h2 h3
          refine ⟨res, h1, ?_, fun l h => ?_⟩
          · rw [h2]; simp
          · obtain ⟨l', h4, rfl⟩ := Option.map_eq_some_iff.1 h
            rw [h3 l' h4]; simp
        · simp only [hc, if_false]
          obtain ⟨k', rfl⟩ : ∃ m, k' = m + 2 := ⟨k' - 2, by omega⟩
          have hlt' : i' < (ab s).length := by omega
          have hcc : (ab s)[i'] = c := by
            rw [List.drop_eq_getElem_cons hlt'] at hdrop
            injection hdrop
          have hz1 : ((i' : Nat) : Int) < (s.size : Int) := by omega
          have hz2 : ¬ ((i' : Nat) : Int) = 0 := by omega
          have hz3 : (0 : Int) ≤ ((i' : Nat) : Int) := by omega
          simp only [lookoutref05_list.l0]
          rw [if_pos hz1, if_neg hz2, if_pos hz3, bt_ab s i' hlt', hcc]
          have hb : ((c.toNat : Int) == 44) = false := by
            have : ¬ ((c.toNat : Int) = 44) := by omega
            simpa using this
          rw [hb]
          simp only [lookoutref05_list.j2, Bool.false_eq_true, if_false]
          have hw : wrap64 ((s.size : Int) - 1) = ((s.size - 1 : Nat) : Int) := by unfold wrap64; omega
          rw [hw, bt_ab s i' hlt', hcc]
          by_cases hr : r' = []
          · subst hr
            simp only [List.length_nil] at hi2
            rw [if_pos (by omega), if_pos (by omega), if_pos (by omega)]
            refine ⟨_, rfl, ?_, fun l h => ?_⟩
            · by_cases h125 : c.toNat = 125
              · simp [h125]
              · have : ¬ ((c.toNat : Int) = 125) := by omega
                simp [h125, this]
            · by_cases h125 : c.toNat = 125
              · simp [h125] at h; rw [← h]
              · simp [h125] at h
          · have : 0 < r'.length := List.length_pos_iff.2 hr
            rw [if_neg (by omega)]
            exact ⟨_, rfl, by simp [hr], fun l h => by simp [hr] at h⟩

theorem list_f (s : ByteArray) (hs : s.size ≤ 90000) (k : Nat) (hk : 14 * s.size + 30 < k) :
    ∃ r, lookoutref05_list.f k s = some r ∧ r.2 = (parseT (ab s)).isSome ∧ ∀ l, parseT (ab s) = some l → r.1 = l := by
  have hl := ab_length s
  unfold lookoutref05_list.f parseT
  simp only [Option.bind_some, toList_ab]
  by_cases h0 : ab s = [123, 125]
  · rw [if_pos h0, if_pos h0]
    exact ⟨_, rfl, rfl, fun l h => by simpa using h⟩
  · rw [if_neg h0, if_neg h0]
    obtain ⟨k, rfl⟩ : ∃ m, k = m + 1 := ⟨k - 1, by omega⟩
    cases hab : ab s with
    | nil =>
      rw [if_pos rfl]
      simp only [lookoutref05_list.j0, if_true]
      exact ⟨_, rfl, rfl, fun l h => by simp at h⟩
    | cons c r =>
      have h1 : 0 < (ab s).length := by rw [hab]; simp
      rw [if_neg (by simp), if_pos (by omega), head_bt s h1, hab]
      simp only [List.headD_cons]
      by_cases hc : c.toNat = 123
      · have hb : ((c.toNat : Int) != 123) = false := by simp [hc]
        rw [hb, if_pos hc]
        simp only [lookoutref05_list.j0, Bool.false_eq_true, if_false]
        have hlr : (ab s).length = r.length + 1 := by rw [hab]; rfl
        obtain ⟨res, h2, h3, h4⟩ := list_l0 s (by omega) (ab s).length k 0 (r.length + 2) [] (by omega) (by omega) (by omega) (by omega) (by simp; omega) (.inl rfl) h1
        have hd : (ab s).drop (0 + 1) = r := by rw [hab]; rfl
        rw [hd] at h3 h4
        exact ⟨res, h2, h3, fun l h => by simpa using h4 l h⟩
      · have hb : ((c.toNat : Int) != 123) = true := by
          have : ¬ ((c.toNat : Int) = 123) := by omega
          simpa using this
        rw [hb, if_neg hc]
        simp only [lookoutref05_list.j0, if_true]
        exact ⟨_, rfl, rfl, fun l h => by simp at h⟩
end Go.Proofs.Ytiooenmbondflaa.H

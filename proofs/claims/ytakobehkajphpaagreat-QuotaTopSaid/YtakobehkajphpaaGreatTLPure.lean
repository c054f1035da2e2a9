/- What the printed functions of labels come to: names, Check, quoting. -/
import Derived.Test.YtakobehkajphpaaGreatTPF1
import Derived.Test.YtakobehkajphpaaGreatTPF3
namespace Go.Proofs.YtakobehkajphpaaGreat.H
open Go Go.RowKit Go.Proofs.YtakobehkajphpaaGreatW.PrintWords Go.Proofs.YtakobehkajphpaaGreatW.PrintLast Go.Proofs.YtakobehkajphpaaGreatW.PrintMore Go.Proofs.YtakobehkajphpaaGreat.PAll
set_option linter.unusedVariables false
set_option linter.unusedSimpArgs false

abbrev L94 := List S94
/-- A string's bytes. -/
def ab (s : ByteArray) : List UInt8 := s.data.toList
theorem toList_ab (s : ByteArray) : s.toList = ab s := ByteArray.toList_eq s
theorem ab_length (s : ByteArray) : (ab s).length = s.size := data_length s
theorem ab_inj {a b : ByteArray} (h : ab a = ab b) : a = b := by
  cases a; cases b; simp [ab] at h; rw [h]
theorem ab_iff {a b : ByteArray} : ab a = ab b ↔ a = b := ⟨ab_inj, fun h => by rw [h]⟩
theorem bt_ab (s : ByteArray) (j : Nat) (h : j < (ab s).length) : bt s (j : Int) = ((ab s)[j].toNat : Int) := by
  have h' : j < s.size := by rw [← ab_length]; exact h
  unfold bt
  rw [dif_pos (by simpa using h')]
  rfl
theorem wrap1 (i : Nat) (h : i ≤ 4611686018427387904) : wrap64 ((i : Int) + 1) = ((i + 1 : Nat) : Int) := by unfold wrap64; omega
theorem rdT_get (l : L94) (j : Nat) (h : j < l.length) : rd_T94 l (j : Int) = l[j] := by
  simp [rd_T94, List.getD_eq_getElem?_getD, List.getElem?_eq_getElem h]
theorem rdOf_get (l : List ByteArray) (j : Nat) (h : j < l.length) : rdOf ByteArray.empty l (j : Int) = l[j] := by
  simp [rdOf, List.getD_eq_getElem?_getD, List.getElem?_eq_getElem h]
/-! ### names -/
def nbN (n : Nat) : Bool := decide (97 ≤ n ∧ n ≤ 122) || decide (65 ≤ n ∧ n ≤ 90) || decide (48 ≤ n ∧ n ≤ 57) || n == 95
def nb (c : UInt8) : Bool := nbN c.toNat
theorem isNameByte_f (c : UInt8) : labels_isNameByte.f (c.toNat : Int) = some (nb c) := by
  have h : ∀ n : Fin 256, labels_isNameByte.f (n.val : Int) = some (nbN n.val) := by decide +kernel
  exact h ⟨c.toNat, c.toNat_lt⟩
theorem letter_f (c : UInt8) : lookoutref05_letter.f (c.toNat : Int) = some (nb c) := by
  have h : ∀ n : Fin 256, lookoutref05_letter.f (n.val : Int) = some (nbN n.val) := by decide +kernel
  exact h ⟨c.toNat, c.toNat_lt⟩
/-- Is it a name? -/
def isNm (l : List UInt8) : Bool := decide (1 ≤ l.length ∧ l.length ≤ 60) && !(decide (48 ≤ (l.headD 0).toNat ∧ (l.headD 0).toNat ≤ 57)) && l.all nb

theorem isName_l0 (s : ByteArray) (hs : s.size ≤ 4611686018427387904) : ∀ (n k j : Nat), (ab s).length - j = n → n < k → labels_isName.l0 k s (j : Int) = some (((ab s).drop j).all nb) := by
  intro n
  induction n with
  | zero =>
    intro k j hn hk
    obtain ⟨k, rfl⟩ : ∃ m, k = m + 1 := ⟨k - 1, by omega⟩
    have := ab_length s
    simp only [labels_isName.l0]
    rw [if_neg (by omega), List.drop_eq_nil_of_le (by omega)]
    rfl
  | succ n ih =>
    intro k j hn hk
    obtain ⟨k, rfl⟩ : ∃ m, k = m + 1 := ⟨k - 1, by omega⟩
    have hl := ab_length s
    have hj : j < (ab s).length := by omega
    simp only [labels_isName.l0]
    rw [if_pos (by omega), if_pos (by omega), bt_ab s j hj, isNameByte_f, List.drop_eq_getElem_cons hj, wrap1 j (by omega), ih k (j + 1) (by omega) (by omega)]
    simp only [Option.bind_some, List.all_cons]
    cases nb (ab s)[j] <;> simp

theorem hd0 : ∀ (l : List UInt8) (h : 0 < l.length), l[0] = l.headD 0
  | _ :: _, _ => rfl
theorem head_bt (s : ByteArray) (h : 0 < (ab s).length) : bt s 0 = (((ab s).headD 0).toNat : Int) := by
  have := bt_ab s 0 h
  rw [hd0] at this
  exact this

theorem isName_f (s : ByteArray) (k : Nat) (hs : s.size ≤ 4611686018427387904) (hk : s.size + 2 < k) : labels_isName.f k s = some (isNm (ab s)) := by
  obtain ⟨k, rfl⟩ : ∃ m, k = m + 1 := ⟨k - 1, by omega⟩
  have hl := ab_length s
  have h0 := isName_l0 s hs (ab s).length k 0 (by omega) (by omega)
  rw [List.drop_zero, show ((0 : Nat) : Int) = 0 from rfl] at h0
  unfold labels_isName.f
  by_cases h1 : (s.size : Int) < 1
  · rw [if_pos h1]
    simp only [labels_isName.j0, if_true]
    have : ¬ (1 ≤ (ab s).length ∧ (ab s).length ≤ 60) := by omega
    simp [isNm, this]
  · rw [if_neg h1]
    by_cases h2 : (s.size : Int) > 60
    · rw [if_pos h2]
      simp only [labels_isName.j0, if_true]
      have : ¬ (1 ≤ (ab s).length ∧ (ab s).length ≤ 60) := by omega
      simp [isNm, this]
    · rw [if_neg h2, if_pos (by omega), head_bt s (by omega)]
      have h3 : 1 ≤ (ab s).length ∧ (ab s).length ≤ 60 := by omega
      have h6 : decide (1 ≤ (ab s).length ∧ (ab s).length ≤ 60) = true := decide_eq_true h3
      unfold isNm
      rw [h6]
      by_cases h4 : (48 : Int) ≤ (((ab s).headD 0).toNat : Int)
      · rw [if_pos h4]
        by_cases h5 : (((ab s).headD 0).toNat : Int) ≤ 57
        · have h7 : decide (48 ≤ ((ab s).headD 0).toNat ∧ ((ab s).headD 0).toNat ≤ 57) = true := decide_eq_true (by omega)
          rw [h7, decide_eq_true h5]
          simp [labels_isName.j0]
        · have h7 : decide (48 ≤ ((ab s).headD 0).toNat ∧ ((ab s).headD 0).toNat ≤ 57) = false := decide_eq_false (by omega)
          rw [h7]
          simp only [h5, decide_false, labels_isName.j0, Bool.false_eq_true, if_false]
          rw [h0]; rfl
      · have h7 : decide (48 ≤ ((ab s).headD 0).toNat ∧ ((ab s).headD 0).toNat ≤ 57) = false := decide_eq_false (by omega)
        rw [if_neg h4, h7]
        simp only [labels_isName.j0, Bool.false_eq_true, if_false]
        rw [h0]; rfl

theorem Name_l0 (s : ByteArray) (hs : s.size ≤ 4611686018427387904) : ∀ (n k j : Nat), (ab s).length - j = n → n < k →
    lookoutref05_Name.l0 k s (j : Int) = some (((ab s).drop j).all nb && decide (1 ≤ (ab s).length ∧ (ab s).length ≤ 60) && !(decide (48 ≤ ((ab s).headD 0).toNat ∧ ((ab s).headD 0).toNat ≤ 57))) := by
  intro n
  have hl := ab_length s
  induction n with
  | zero =>
    intro k j hn hk
    obtain ⟨k, rfl⟩ : ∃ m, k = m + 1 := ⟨k - 1, by omega⟩
    simp only [lookoutref05_Name.l0]
    rw [if_neg (by omega), List.drop_eq_nil_of_le (by omega)]
    by_cases h1 : (s.size : Int) > 0
    · rw [if_pos h1]
      by_cases h2 : (s.size : Int) ≤ 60
      · rw [if_pos h2, if_pos (by omega), head_bt s (by omega)]
        have h6 : decide (1 ≤ (ab s).length ∧ (ab s).length ≤ 60) = true := decide_eq_true (by omega)
        rw [h6]
        by_cases h3 : (((ab s).headD 0).toNat : Int) < 48
        · rw [if_pos h3]
          have h7 : decide (48 ≤ ((ab s).headD 0).toNat ∧ ((ab s).headD 0).toNat ≤ 57) = false := decide_eq_false (by omega)
          rw [h7]; rfl
        · rw [if_neg h3]
          by_cases h4 : (((ab s).headD 0).toNat : Int) > 57
          · have h7 : decide (48 ≤ ((ab s).headD 0).toNat ∧ ((ab s).headD 0).toNat ≤ 57) = false := decide_eq_false (by omega)
            rw [h7, decide_eq_true h4]; rfl
          · have h7 : decide (48 ≤ ((ab s).headD 0).toNat ∧ ((ab s).headD 0).toNat ≤ 57) = true := decide_eq_true (by omega)
            rw [h7, decide_eq_false h4]; rfl
      · rw [if_neg h2]
        have h6 : decide (1 ≤ (ab s).length ∧ (ab s).length ≤ 60) = false := decide_eq_false (by omega)
        rw [h6]; simp
    · rw [if_neg h1]
      have h6 : decide (1 ≤ (ab s).length ∧ (ab s).length ≤ 60) = false := decide_eq_false (by omega)
      rw [h6]; simp
  | succ n ih =>
    intro k j hn hk
    obtain ⟨k, rfl⟩ : ∃ m, k = m + 1 := ⟨k - 1, by omega⟩
    have hj : j < (ab s).length := by omega
    simp only [lookoutref05_Name.l0]
    rw [if_pos (by omega), if_pos (by omega), bt_ab s j hj, letter_f, List.drop_eq_getElem_cons hj, wrap1 j (by omega), ih k (j + 1) (by omega) (by omega)]
    simp only [Option.bind_some, List.all_cons]
    cases nb (ab s)[j] <;> simp

theorem Name_f (s : ByteArray) (k : Nat) (hs : s.size ≤ 4611686018427387904) (hk : s.size < k) : lookoutref05_Name.f k s = some (isNm (ab s)) := by
  have hl := ab_length s
  unfold lookoutref05_Name.f
  have := Name_l0 s hs (ab s).length k 0 (by omega) (by omega)
  rw [show ((0 : Nat) : Int) = 0 from rfl] at this
  rw [this, List.drop_zero]
  unfold isNm
  congr 1
  cases (ab s).all nb <;> simp

/-! ### Check -/
/-- The order of bytes of two names. -/
def ltN (a b : ByteArray) : Bool := Op.bytesLess (ab a) (ab b)
def chkL : Option S94 → L94 → Int
  | _, [] => 0
  | p, x :: r => if isNm (ab x.f0) = false then 5 else if ab x.f1 = [] then 1 else if 200 < x.f1.size then 4 else
    match p with
    | none => chkL (some x) r
    | some q => if ltN q.f0 x.f0 then chkL (some x) r else 9
def chk (l : L94) : Int := if 16 < l.length then 4 else chkL none l
/-- The sizes that no counter passes. -/
def Sz (B : Nat) (l : L94) : Prop := ∀ x ∈ l, x.f0.size ≤ B ∧ x.f1.size ≤ B

theorem prev_eq (l : L94) (j : Nat) (hj : j < l.length) (h0 : 0 < j) : (l.take j).getLast? = some (rd_T94 l ((j - 1 : Nat) : Int)) := by
  rw [rdT_get l (j - 1) (by omega), List.getLast?_eq_getElem?, List.length_take, List.getElem?_take]
  rw [if_pos (by omega), Nat.min_eq_left (by omega), List.getElem?_eq_getElem (by omega)]

theorem Check_l0 (l : L94) (B : Nat) (hB : B ≤ 4611686018427387904) (hl : l.length ≤ 4611686018427387904) (hS : Sz B l) : ∀ (n k j : Nat), l.length - j = n → n + B + 3 < k →
    labels_Check.l0 k l l (l.length : Int) (j : Int) = some (chkL ((l.take j).getLast?) (l.drop j)) := by
  intro n
  induction n with
  | zero =>
    intro k j hn hk
    obtain ⟨k, rfl⟩ : ∃ m, k = m + 1 := ⟨k - 1, by omega⟩
    simp only [labels_Check.l0]
    rw [if_neg (by omega), List.drop_eq_nil_of_le (by omega)]
    simp [chkL]
  | succ n ih =>
    intro k j hn hk
    obtain ⟨k, rfl⟩ : ∃ m, k = m + 1 := ⟨k - 1, by omega⟩
    have hj : j < l.length := by omega
    have hx := hS l[j] (List.getElem_mem hj)
    simp only [labels_Check.l0]
    rw [if_pos (by omega), if_pos (by omega), if_pos (by omega), rdT_get l j hj, isName_f _ k (by omega) (by omega), List.drop_eq_getElem_cons hj]
    simp only [Option.bind_some, chkL, toList_ab]
    have ih' := ih k (j + 1) (by omega) (by omega)
    rw [wrap1 j (by omega)]
    rw [List.take_succ_eq_append_getElem hj, List.getLast?_concat] at ih'
    by_cases h1 : isNm (ab l[j].f0) = true
    · rw [if_pos h1, if_neg (show ¬ isNm (ab l[j].f0) = false by rw [h1]; decide)]
      by_cases h2 : ab l[j].f1 = []
      · rw [if_pos h2, if_pos h2]
      · rw [if_neg h2, if_neg h2]
        by_cases h3 : (l[j].f1.size : Int) > 200
        · rw [if_pos h3, if_pos (by omega)]
        · rw [if_neg h3, if_neg (show ¬ 200 < l[j].f1.size by omega)]
          by_cases h4 : (j : Int) > 0
          · have hw : wrap64 ((j : Int) - 1) = ((j - 1 : Nat) : Int) := by unfold wrap64; omega
            rw [if_pos h4, hw, if_pos (by omega), if_pos (by omega), prev_eq l j hj (by omega)]
            simp only [ltN]
            by_cases hq : Op.bytesLess (ab (rd_T94 l ((j - 1 : Nat) : Int)).f0) (ab l[j].f0) = true
            · simp only [hq, if_true]; exact ih'
            · simp only [hq, if_false, Bool.false_eq_true]
          · have : j = 0 := by omega
            subst this
            rw [if_neg h4]
            simpa using ih'
    · rw [if_neg h1, if_pos (by simpa using h1)]

theorem Check_f (l : L94) (B k : Nat) (hB : B ≤ 4611686018427387904) (hl : l.length ≤ 4611686018427387904) (hS : Sz B l) (hk : l.length + B + 3 < k) : labels_Check.f k l = some (chk l) := by
  unfold labels_Check.f chk
  by_cases h : (l.length : Int) > 16
  · rw [if_pos h, if_pos (by omega)]
  · rw [if_neg h, if_neg (by omega)]
    have := Check_l0 l B hB hl hS l.length k 0 (by omega) (by omega)
    simpa using this

theorem rCheck_l0 (l : L94) (B : Nat) (hB : B ≤ 4611686018427387904) (hl : l.length ≤ 4611686018427387904) (hS : Sz B l) : ∀ (n k j : Nat), l.length - j = n → n + B + 3 < k →
    lookoutref05_Check.l0 k l (j : Int) = some (chkL ((l.take j).getLast?) (l.drop j)) := by
  intro n
  induction n with
  | zero =>
    intro k j hn hk
    obtain ⟨k, rfl⟩ : ∃ m, k = m + 1 := ⟨k - 1, by omega⟩
    simp only [lookoutref05_Check.l0]
    rw [if_neg (by omega), List.drop_eq_nil_of_le (by omega)]
    simp [chkL]
  | succ n ih =>
    intro k j hn hk
    obtain ⟨k, rfl⟩ : ∃ m, k = m + 1 := ⟨k - 1, by omega⟩
    have hj : j < l.length := by omega
    have hx := hS l[j] (List.getElem_mem hj)
    simp only [lookoutref05_Check.l0]
    rw [if_pos (by omega), if_pos (by omega), rdT_get l j hj, Name_f _ k (by omega) (by omega), List.drop_eq_getElem_cons hj]
    simp only [Option.bind_some, chkL, toList_ab]
    have ih' := ih k (j + 1) (by omega) (by omega)
    rw [wrap1 j (by omega)]
    rw [List.take_succ_eq_append_getElem hj, List.getLast?_concat] at ih'
    by_cases h1 : isNm (ab l[j].f0) = true
    · rw [if_pos h1, if_neg (show ¬ isNm (ab l[j].f0) = false by rw [h1]; decide)]
      by_cases h2 : ab l[j].f1 = []
      · rw [if_pos h2, if_pos h2]
      · rw [if_neg h2, if_neg h2]
        by_cases h3 : (l[j].f1.size : Int) > 200
        · rw [if_pos h3, if_pos (by omega)]
        · rw [if_neg h3, if_neg (show ¬ 200 < l[j].f1.size by omega)]
          by_cases h4 : (j : Int) > 0
          · have hw : wrap64 ((j : Int) - 1) = ((j - 1 : Nat) : Int) := by unfold wrap64; omega
            rw [if_pos h4, hw, if_pos (by omega), if_pos (by omega), prev_eq l j hj (by omega)]
            simp only [ltN]
            by_cases hq : Op.bytesLess (ab (rd_T94 l ((j - 1 : Nat) : Int)).f0) (ab l[j].f0) = true
            · simp only [hq, if_true]; exact ih'
            · simp only [hq, if_false, Bool.false_eq_true]
          · have : j = 0 := by omega
            subst this
            rw [if_neg h4]
            simpa using ih'
    · rw [if_neg h1, if_pos (by simpa using h1)]

theorem rCheck_f (l : L94) (B k : Nat) (hB : B ≤ 4611686018427387904) (hl : l.length ≤ 4611686018427387904) (hS : Sz B l) (hk : l.length + B + 3 < k) : lookoutref05_Check.f k l = some (chk l) := by
  unfold lookoutref05_Check.f chk
  by_cases h : (l.length : Int) > 16
  · rw [if_pos h, if_pos (by omega)]
  · rw [if_neg h, if_neg (by omega)]
    have := rCheck_l0 l B hB hl hS l.length k 0 (by omega) (by omega)
    simpa using this
end Go.Proofs.YtakobehkajphpaaGreat.H

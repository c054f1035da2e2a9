/- What the printed functions of labels come to: quoting, the text, hashes. -/
import Derived.Test.YtiooenmbondflaaHPure1
namespace Go.Proofs.Ytiooenmbondflaa.H
open Go Go.RowKit Go.Proofs.YtiooenmbondflaaW.PrintWords Go.Proofs.YtiooenmbondflaaW.PrintLast Go.Proofs.YtiooenmbondflaaW.PrintMore Go.Proofs.Ytiooenmbondflaa.PAll
set_option linter.unusedVariables false
set_option linter.unusedSimpArgs false

/-! ### quoting -/
def qb (c : UInt8) : List UInt8 := if c.toNat = 92 ∨ c.toNat = 34 then [92, c] else if c.toNat = 10 then [92, 110] else [c]
def quote (l : List UInt8) : List UInt8 := l.flatMap qb
theorem qb_len (c : UInt8) : (qb c).length ≤ 2 := by unfold qb; split <;> (try split) <;> simp
theorem quote_len (l : List UInt8) : (quote l).length ≤ 2 * l.length := by
  induction l with
  | nil => simp [quote]
  | cons c l ih =>
    have := qb_len c
    simp only [quote, List.flatMap_cons, List.length_append, List.length_cons] at *
    omega
theorem ints_92 (c : UInt8) : ([92, (c.toNat : Int)] : List Int) = ints [92, c] := rfl
theorem ints_92110 : ([92, 110] : List Int) = ints [92, 110] := rfl
theorem ints_one (c : UInt8) : ([(c.toNat : Int)] : List Int) = ints [c] := rfl

theorem appendQuoted_l0 (s : ByteArray) (hs : s.size ≤ 4611686018427387904) : ∀ (n k j : Nat) (xs : List Int), (ab s).length - j = n → 2 * n < k → xs.length + 2 * n < 140737488355328 →
    labels_appendQuoted.l0 k xs s (j : Int) = some (xs ++ ints (quote ((ab s).drop j))) := by
  intro n
  have hl := ab_length s
  induction n with
  | zero =>
    intro k j xs hn hk hb
    obtain ⟨k, rfl⟩ : ∃ m, k = m + 1 := ⟨k - 1, by omega⟩
    simp only [labels_appendQuoted.l0]
    rw [if_neg (by omega), List.drop_eq_nil_of_le (by omega)]
    simp [quote, ints]
  | succ n ih =>
    intro k j xs hn hk hb
    obtain ⟨k, rfl⟩ : ∃ m, k = m + 2 := ⟨k - 2, by omega⟩
    have hj : j < (ab s).length := by omega
    have e : quote ((ab s).drop j) = qb (ab s)[j] ++ quote ((ab s).drop (j + 1)) := by rw [List.drop_eq_getElem_cons hj]; rfl
    simp only [labels_appendQuoted.l0]
    rw [if_pos (by omega), if_pos (by omega), bt_ab s j hj, e, ints_append, ← List.append_assoc]
    generalize hc : (ab s)[j] = c
    have hcl := c.toNat_lt
    by_cases h1 : (c.toNat : Int) = 92
    · rw [if_pos h1]
      have hq : qb c = [92, c] := by unfold qb; rw [if_pos (.inl (by omega))]
      have hb1 : ((c.toNat : Int) == 92) = true := by simpa using h1
      simp only [labels_appendQuoted.j1, hb1, if_true]
      rw [if_pos (by omega), if_pos (by omega), bt_ab s j hj, hc]
      simp only [Option.bind_some, List.length_cons, List.length_nil]
      rw [if_pos (by omega), wrap1 j (by omega), ih k (j + 1) _ (by omega) (by omega) (by simp; omega), hq, ints_92]
    · rw [if_neg h1]
      by_cases h2 : (c.toNat : Int) = 34
      · have hq : qb c = [92, c] := by unfold qb; rw [if_pos (.inr (by omega))]
        have hb1 : ((c.toNat : Int) == 34) = true := by simpa using h2
        simp only [labels_appendQuoted.j1, hb1, if_true]
        rw [if_pos (by omega), if_pos (by omega), bt_ab s j hj, hc]
        simp only [Option.bind_some, List.length_cons, List.length_nil]
        rw [if_pos (by omega), wrap1 j (by omega), ih k (j + 1) _ (by omega) (by omega) (by simp; omega), hq, ints_92]
      · have hb1 : ((c.toNat : Int) == 34) = false := by simpa using h2
        simp only [labels_appendQuoted.j1, hb1, Bool.false_eq_true, if_false]
        by_cases h3 : (c.toNat : Int) = 10
        · have hq : qb c = [92, 110] := by unfold qb; rw [if_neg (by omega), if_pos (by omega)]
          rw [if_pos h3]
          simp only [Option.bind_some, List.length_cons, List.length_nil]
          rw [if_pos (by omega), wrap1 j (by omega), ih k (j + 1) _ (by omega) (by omega) (by simp; omega), hq, ints_92110]
        · have hq : qb c = [c] := by unfold qb; rw [if_neg (by omega), if_neg (by omega)]
          rw [if_neg h3, if_pos (by omega), if_pos (by omega), if_pos (by omega), bt_ab s j hj, hc, wrap1 j (by omega), ih k (j + 1) _ (by omega) (by omega) (by simp; omega), hq, ints_one]

theorem appendQuoted_f (s : ByteArray) (k : Nat) (xs : List Int) (hs : s.size ≤ 4611686018427387904) (hk : 2 * s.size < k) (hb : xs.length + 2 * s.size < 140737488355328) :
    labels_appendQuoted.f k xs s = some (xs ++ ints (quote (ab s))) := by
  have hl := ab_length s
  have := appendQuoted_l0 s hs (ab s).length k 0 xs (by omega) (by omega) (by omega)
  unfold labels_appendQuoted.f
  simpa using this

theorem quoted_l0 (s : ByteArray) (hs : s.size ≤ 4611686018427387904) : ∀ (n k j : Nat) (xs : List Int), (ab s).length - j = n → n < k → xs.length + 2 * n < 140737488355328 →
    lookoutref05_quoted.l0 k s xs (j : Int) = some (strOfNums (xs ++ ints (quote ((ab s).drop j)))) := by
  intro n
  have hl := ab_length s
  induction n with
  | zero =>
    intro k j xs hn hk hb
    obtain ⟨k, rfl⟩ : ∃ m, k = m + 1 := ⟨k - 1, by omega⟩
    simp only [lookoutref05_quoted.l0]
    rw [if_neg (by omega), List.drop_eq_nil_of_le (by omega)]
    simp [quote, ints]
  | succ n ih =>
    intro k j xs hn hk hb
    obtain ⟨k, rfl⟩ : ∃ m, k = m + 1 := ⟨k - 1, by omega⟩
    have hj : j < (ab s).length := by omega
    have e : quote ((ab s).drop j) = qb (ab s)[j] ++ quote ((ab s).drop (j + 1)) := by rw [List.drop_eq_getElem_cons hj]; rfl
    simp only [lookoutref05_quoted.l0]
    rw [if_pos (by omega), if_pos (by omega), bt_ab s j hj, e, ints_append, ← List.append_assoc]
    generalize hc : (ab s)[j] = c
    have hcl := c.toNat_lt
    by_cases h3 : (c.toNat : Int) = 10
    · have hq : qb c = [92, 110] := by unfold qb; rw [if_neg (by omega), if_pos (by omega)]
      rw [if_pos h3]
      simp only [Option.bind_some, List.length_cons, List.length_nil]
      rw [if_pos (by omega), wrap1 j (by omega), ih k (j + 1) _ (by omega) (by omega) (by simp; omega), hq, ints_92110]
    · rw [if_neg h3]
      by_cases h1 : (c.toNat : Int) = 92
      · have hq : qb c = [92, c] := by unfold qb; rw [if_pos (.inl (by omega))]
        rw [if_pos h1, if_pos (by omega)]
        simp only [Option.bind_some, List.length_append, List.length_cons, List.length_nil]
        rw [if_pos (by omega), wrap1 j (by omega), ih k (j + 1) _ (by omega) (by omega) (by simp; omega), hq]
        simp [ints]
      · rw [if_neg h1]
        by_cases h2 : (c.toNat : Int) = 34
        · have hq : qb c = [92, c] := by unfold qb; rw [if_pos (.inr (by omega))]
          rw [if_pos h2, if_pos (by omega)]
          simp only [Option.bind_some, List.length_append, List.length_cons, List.length_nil]
          rw [if_pos (by omega), wrap1 j (by omega), ih k (j + 1) _ (by omega) (by omega) (by simp; omega), hq]
          simp [ints]
        · have hq : qb c = [c] := by unfold qb; rw [if_neg (by omega), if_neg (by omega)]
          rw [if_neg h2, if_pos (by omega), wrap1 j (by omega), ih k (j + 1) _ (by omega) (by omega) (by simp; omega), hq, ints_one]

theorem quoted_f (s : ByteArray) (k : Nat) (hs : s.size ≤ 1000000) (hk : s.size < k) : lookoutref05_quoted.f k s = some (ofB (quote (ab s))) := by
  have hl := ab_length s
  have := quoted_l0 s (by omega) (ab s).length k 0 [] (by omega) (by omega) (by simp; omega)
  unfold lookoutref05_quoted.f
  simpa [str_ints] using this

/-! ### the text -/
def lab (x : S32) : List UInt8 := ab x.f0 ++ [61, 34] ++ quote (ab x.f1) ++ [34]
/-- The labels ahead of one: a comma ahead of all but the first. -/
def bodyT : Bool → L32 → List UInt8
  | _, [] => []
  | first, x :: r => (if first then [] else [44]) ++ lab x ++ bodyT false r
def fmtL (l : L32) : List UInt8 := 123 :: bodyT true l ++ [125]
theorem bodyT_snoc : ∀ (l : L32) (b : Bool) (x : S32), bodyT b (l ++ [x]) = bodyT b l ++ ((if (b && l.isEmpty) then [] else [44]) ++ lab x)
  | [], b, x => by cases b <;> simp [bodyT]
  | y :: l, b, x => by
    simp only [List.cons_append, bodyT, bodyT_snoc l false x]
    simp
theorem lab_len (x : S32) (B : Nat) (h : x.f0.size ≤ B ∧ x.f1.size ≤ B) : (lab x).length ≤ 3 * B + 3 := by
  have h1 := quote_len (ab x.f1)
  have h2 := ab_length x.f0
  have h3 := ab_length x.f1
  simp only [lab, List.length_append, List.length_cons, List.length_nil]
  omega
theorem bodyT_len (B : Nat) : ∀ (l : L32) (b : Bool), Sz B l → (bodyT b l).length ≤ l.length * (3 * B + 4)
  | [], b, h => by simp [bodyT]
  | x :: l, b, h => by
    have h1 := lab_len x B (h x (by simp))
    have h2 := bodyT_len B l false (fun y hy => h y (by simp [hy]))
    have h3 : (if b = true then [] else [(44 : UInt8)]).length ≤ 1 := by split <;> simp
    simp only [bodyT, List.length_append, List.length_cons, Nat.succ_mul] at *
    omega
theorem ofB_append (a b : List UInt8) : ofB a ++ ofB b = ofB (a ++ b) := by
  apply ab_inj
  rw [ab_ofB]
  show (ofB a ++ ofB b).data.toList = _
  simp [ofB, ByteArray.data_append]

theorem rFormat_l0 (l : L32) (hl : l.length ≤ 1000) (hS : Sz 1000 l) : ∀ (n k j : Nat), l.length - j = n → n + 1001 < k →
    lookoutref05_Format.l0 k l (ofB (123 :: bodyT true (l.take j))) (j : Int) = some (ofB (123 :: bodyT true (l.take j) ++ (bodyT (decide (j = 0)) (l.drop j)) ++ [125])) := by
  intro n
  induction n with
  | zero =>
    intro k j hn hk
    obtain ⟨k, rfl⟩ : ∃ m, k = m + 1 := ⟨k - 1, by omega⟩
    have hb := bodyT_len 1000 (l.take j) true (fun x hx => hS x (List.mem_of_mem_take hx))
    have hm : (l.take j).length * (3 * 1000 + 4) ≤ 1000 * 3004 := Nat.mul_le_mul_right _ (by rw [List.length_take]; omega)
    simp only [lookoutref05_Format.l0]
    rw [if_neg (by omega), if_pos (by rw [ofB_size]; simp only [List.length_cons]; omega), List.drop_eq_nil_of_le (by omega)]
    rw [show (⟨#[125]⟩ : ByteArray) = ofB [125] from rfl, ofB_append]
    simp [bodyT]
  | succ n ih =>
    intro k j hn hk
    obtain ⟨k, rfl⟩ : ∃ m, k = m + 1 := ⟨k - 1, by omega⟩
    have hj : j < l.length := by omega
    have hb := bodyT_len 1000 (l.take j) true (fun x hx => hS x (List.mem_of_mem_take hx))
    have hm : (l.take j).length * (3 * 1000 + 4) ≤ 1000 * 3004 := Nat.mul_le_mul_right _ (by rw [List.length_take]; omega)
    have hx := hS l[j] (List.getElem_mem hj)
    have hq := quote_len (ab l[j].f1)
    have ha := ab_length l[j].f0
    have ha1 := ab_length l[j].f1
    have ih' := ih k (j + 1) (by omega) (by omega)
    rw [List.take_succ_eq_append_getElem hj, bodyT_snoc] at ih'
    have hd : decide (j + 1 = 0) = false := by simp
    rw [hd] at ih'
    rw [List.drop_eq_getElem_cons hj]
    have hx0 : l[j].f0 = ofB (ab l[j].f0) := (ofB_ab _).symm
    simp only [lookoutref05_Format.l0]
    rw [if_pos (by omega)]
    rw [rdT_get l j hj, show (⟨#[44]⟩ : ByteArray) = ofB [44] from rfl, show (⟨#[61, 34]⟩ : ByteArray) = ofB [61, 34] from rfl, show (⟨#[34]⟩ : ByteArray) = ofB [34] from rfl]
    by_cases h0 : (j : Int) > 0
    · rw [if_pos h0]
      have hne : (true && (l.take j).isEmpty) = false := by
        cases hh : l.take j with
        | nil => have := congrArg List.length hh; rw [List.length_take, List.length_nil] at this; omega
        | cons => rfl
      have hj0 : decide (j = 0) = false := decide_eq_false (by omega)
      rw [hj0]
      simp only [hne, if_false, Bool.false_eq_true] at ih'
      rw [hx0, quoted_f _ k (by omega) (by omega)]
      simp only [ofB_append, ofB_size, Option.bind_some, List.length_append, List.length_cons, List.length_nil]
      rw [if_pos (by omega), if_pos (by omega), if_pos (by omega), if_pos (by omega), if_pos (by omega), if_pos (by omega), wrap1 j (by omega)]
      simp only [bodyT, lab, Bool.false_eq_true, if_false, List.cons_append, List.append_assoc, List.nil_append, ab_ofB] at ih' ⊢
      exact ih'
    · rw [if_neg h0]
      have h00 : j = 0 := by omega
      subst h00
      simp only [List.take_zero, List.isEmpty_nil, Bool.and_self, if_true, bodyT, List.nil_append] at ih' hb ⊢
      rw [hx0, quoted_f _ k (by omega) (by omega)]
      simp only [ofB_append, ofB_size, Option.bind_some, List.length_append, List.length_cons, List.length_nil]
      rw [if_pos (by omega), if_pos (by omega), if_pos (by omega), if_pos (by omega), if_pos (by omega), wrap1 0 (by omega)]
      simp only [bodyT, lab, decide_true, if_true, List.cons_append, List.append_assoc, List.nil_append, ab_ofB] at ih' ⊢
      exact ih'

theorem rFormat_f (l : L32) (k : Nat) (hl : l.length ≤ 1000) (hS : Sz 1000 l) (hk : l.length + 1001 < k) : lookoutref05_Format.f k l = some (ofB (fmtL l)) := by
  unfold lookoutref05_Format.f
  have := rFormat_l0 l hl hS l.length k 0 (by omega) hk
  show lookoutref05_Format.l0 k l (ofB [123]) 0 = _
  simpa [bodyT, fmtL] using this

/-! ### hashes -/
def hstep (h : Int) (c : UInt8) : Int := ((Go.bits .xor .u32 h ((c.toNat : Int) % 4294967296)) * 16777619) % 4294967296
def hsh (l : List UInt8) : Int := l.foldl hstep 2166136261
theorem HashString_l0 (s : ByteArray) (hs : s.size ≤ 4611686018427387904) : ∀ (n k j : Nat) (h : Int), (ab s).length - j = n → n < k →
    labels_HashString.l0 k s h (j : Int) = some (wrap64 (((ab s).drop j).foldl hstep h)) := by
  intro n
  have hl := ab_length s
  induction n with
  | zero =>
    intro k j h hn hk
    obtain ⟨k, rfl⟩ : ∃ m, k = m + 1 := ⟨k - 1, by omega⟩
    simp only [labels_HashString.l0]
    rw [if_neg (by omega), List.drop_eq_nil_of_le (by omega)]
    rfl
  | succ n ih =>
    intro k j h hn hk
    obtain ⟨k, rfl⟩ : ∃ m, k = m + 1 := ⟨k - 1, by omega⟩
    have hj : j < (ab s).length := by omega
    simp only [labels_HashString.l0]
    rw [if_pos (by omega), if_pos (by omega), bt_ab s j hj, wrap1 j (by omega), ih k (j + 1) _ (by omega) (by omega), List.drop_eq_getElem_cons hj]
    rfl
theorem rHashString_l0 (s : ByteArray) : ∀ (k : Nat) (h i : Int), lookoutref05_HashString.l0 k s h i = labels_HashString.l0 k s h i := by
  intro k
  induction k with
  | zero => intro h i; rfl
  | succ k ih => intro h i; simp only [lookoutref05_HashString.l0, labels_HashString.l0, ih]
theorem HashString_f (s : ByteArray) (k : Nat) (hs : s.size ≤ 4611686018427387904) (hk : s.size < k) : labels_HashString.f k s = some (wrap64 (hsh (ab s))) := by
  have hl := ab_length s
  unfold labels_HashString.f
  have := HashString_l0 s hs (ab s).length k 0 2166136261 (by omega) (by omega)
  simpa [hsh] using this
theorem rHashString_f (s : ByteArray) (k : Nat) (hs : s.size ≤ 4611686018427387904) (hk : s.size < k) : lookoutref05_HashString.f k s = some (wrap64 (hsh (ab s))) := by
  rw [← HashString_f s k hs hk]
  exact rHashString_l0 s k _ _
theorem hsh_range (l : List UInt8) : 0 ≤ hsh l ∧ hsh l < 4294967296 := by
  unfold hsh
  have : ∀ (l : List UInt8) (h : Int), 0 ≤ h → h < 4294967296 → 0 ≤ l.foldl hstep h ∧ l.foldl hstep h < 4294967296 := by
    intro l
    induction l with
    | nil => intro h h0 h1; exact ⟨h0, h1⟩
    | cons c l ih => intro h h0 h1; exact ih _ (by unfold hstep; omega) (by unfold hstep; omega)
  exact this l _ (by omega) (by omega)
theorem hsh_wrap (l : List UInt8) : wrap64 (hsh l) = hsh l := by have := hsh_range l; unfold wrap64; omega
theorem hsh_snoc (l : List UInt8) (c : UInt8) : hsh (l ++ [c]) = hstep (hsh l) c := by simp [hsh]
end Go.Proofs.Ytiooenmbondflaa.H

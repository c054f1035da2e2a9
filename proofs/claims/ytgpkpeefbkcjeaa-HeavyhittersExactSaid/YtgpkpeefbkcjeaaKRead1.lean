/- What Check, New, Above, Same and the law's own truth come to. -/
import Derived.Test.YtgpkpeefbkcjeaaKCmp
import Derived.Test.YtgpkpeefbkcjeaaPF1
namespace Go.Proofs.Ytgpkpeefbkcjeaa.H
open Go Go.RowKit Go.Proofs.YtgpkpeefbkcjeaaW.PrintWords Go.Proofs.YtgpkpeefbkcjeaaW.PrintLast Go.Proofs.YtgpkpeefbkcjeaaW.PrintMore Go.Proofs.Ytgpkpeefbkcjeaa.PAll
set_option linter.unusedVariables false
set_option linter.unusedSimpArgs false

theorem toList_iff (a b : ByteArray) : a.toList = b.toList ↔ a = b := by rw [toList_ab, toList_ab]; exact ab_iff
/-- Below the limit for lengths. -/
abbrev LB : Nat := 1000000
/-- The check of the items, and of the sum behind it. -/
def finC (T acc : Int) (p : Option ByteArray) (l : L58) : Int := if chkI p l ≠ 0 then chkI p l else if T < acc + sumI l then 10 else 0
theorem finC_nil (T acc : Int) (p : Option ByteArray) : finC T acc p [] = if T < acc then 10 else 0 := by
  have : chkI p [] = 0 := by cases p <;> rfl
  unfold finC; rw [this]; simp [sumI]
theorem finC_cons (T acc : Int) (p : Option ByteArray) (x : S58) (l : L58) : finC T acc p (x :: l) = if 200 < x.f0.size then 4 else if bdK p x.f0 = true then 9 else if x.f1 < 1 ∨ 1099511627776 < x.f1 then 2 else finC T (acc + x.f1) (some x.f0) l := by
  unfold finC
  rw [sumI_cons]
  simp only [chkI]
  by_cases h1 : 200 < x.f0.size
  · simp [h1]
  · by_cases h2 : bdK p x.f0 = true
    · simp [h1, h2]
    · by_cases h3 : x.f1 < 1 ∨ 1099511627776 < x.f1
      · simp [h1, h2, h3]
      · simp only [h1, h2, h3, if_false]
        rw [Int.add_assoc]
        rfl
def prevK (l : L58) (j : Nat) : Option ByteArray := (l.take j).getLast?.map (·.f0)
theorem prevK_zero (l : L58) : prevK l 0 = none := by simp [prevK]
theorem prevK_succ (l : L58) (j : Nat) (h : j < l.length) : prevK l (j + 1) = some l[j].f0 := by
  unfold prevK
  rw [List.take_succ_eq_append_getElem h, List.getLast?_concat]
  rfl
theorem Check_l0 (K T L : Int) (l : L58) (hl : l.length ≤ LB) : ∀ (n k j : Nat) (acc : Int), l.length - j = n → 2 * n + 1 < k → j ≤ l.length → 0 ≤ acc → acc ≤ 219902325555200 + j * 1099511627776 →
    heavyhitters_Check.l0 k acc l (l.length : Int) (j : Int) K T L l = some (finC T acc (prevK l j) (l.drop j)) := by
  intro n
  induction n with
  | zero =>
    intro k j acc hn hk hj h0 h1
    obtain ⟨k, rfl⟩ : ∃ m, k = m + 1 := ⟨k - 1, by omega⟩
    simp only [heavyhitters_Check.l0]
    rw [if_neg (by omega), List.drop_eq_nil_of_le (by omega), finC_nil]
    split <;> simp_all
  | succ n ih =>
    intro k j acc hn hk hj h0 h1
    obtain ⟨k, rfl⟩ : ∃ m, k = m + 2 := ⟨k - 2, by omega⟩
    have hlt : j < l.length := by omega
    have hlb : l.length ≤ 1000000 := hl
    have key : ∀ b : Bool, b = bdK (prevK l j) l[j].f0 → ¬ 200 < l[j].f0.size → heavyhitters_Check.j3 (k + 1) acc l (l.length : Int) (j : Int) b K T L l l[j].f0 l[j].f1 = some (finC T acc (prevK l j) (l.drop j)) := by
      intro b hb hs
      simp only [heavyhitters_Check.j3]
      rw [List.drop_eq_getElem_cons hlt, finC_cons, if_neg hs, hb]
      by_cases h2 : bdK (prevK l j) l[j].f0 = true
      · rw [if_pos h2, if_pos h2]
      · rw [if_neg h2, if_neg h2]
        by_cases h3 : l[j].f1 < 1
        · rw [if_pos h3, if_pos (.inl h3)]
        · rw [if_neg h3]
          by_cases h4 : l[j].f1 > 1099511627776
          · rw [if_pos h4, if_pos (.inr h4)]
          · rw [if_neg h4, if_neg (by omega), wrap1 j (by omega), show wrap64 (acc + l[j].f1) = acc + l[j].f1 by unfold wrap64; omega, ih k (j + 1) _ (by omega) (by omega) (by omega) (by omega) (by omega), prevK_succ l j hlt]
    simp only [heavyhitters_Check.l0]
    rw [if_pos (by omega), if_pos (by omega), if_pos (by omega), rdT_get l j hlt]
    by_cases hs : (l[j].f0.size : Int) > 200
    · rw [if_pos hs, List.drop_eq_getElem_cons hlt, finC_cons, if_pos (by omega)]
    · rw [if_neg hs]
      by_cases hj0 : j = 0
      · subst hj0
        rw [if_neg (by simp)]
        exact key false (by rw [prevK_zero]; rfl) (by omega)
      · rw [if_pos (by omega), wrapm1 j (by omega) (by omega), if_pos (by omega), if_pos (by omega), rdT_get l (j - 1) (by omega)]
        refine key _ ?_ (by omega)
        obtain ⟨m, rfl⟩ : ∃ m, j = m + 1 := ⟨j - 1, by omega⟩
        rw [prevK_succ l m (by omega), toList_ab, toList_ab]
        rfl
theorem Check_f (x : HV) (k : Nat) (hl : x.f3.length ≤ LB) (hk : 2 * x.f3.length + 9 < k) : heavyhitters_Check.f k x.f0 x.f1 x.f2 x.f3 = some (chkH x) := by
  obtain ⟨K, T, L, l⟩ := x
  simp only at *
  obtain ⟨k, rfl⟩ : ∃ m, k = m + 4 := ⟨k - 4, by omega⟩
  have hlb : l.length ≤ 1000000 := hl
  unfold chkH
  simp only
  have hj1 : ∀ b : Bool, b = decide (T < 0 ∨ 1099511627776 < T ∨ L < 0 ∨ 1099511627776 < L) → 2 ≤ K → K ≤ 100 → heavyhitters_Check.j1 (k + 3) b K T L l = some (if T < 0 ∨ 1099511627776 < T ∨ L < 0 ∨ 1099511627776 < L then 2 else if K - 1 < l.length then 4 else if chkI none l ≠ 0 then chkI none l else if T < K * L + sumI l then 10 else 0) := by
    intro b hb hK hK1
    simp only [heavyhitters_Check.j1]
    by_cases h2 : T < 0 ∨ 1099511627776 < T ∨ L < 0 ∨ 1099511627776 < L
    · rw [if_pos h2, hb, if_pos (by simpa using h2)]
    · rw [if_neg h2, hb, if_neg (by simpa using h2), show wrap64 (K - 1) = K - 1 by unfold wrap64; omega]
      by_cases h3 : (l.length : Int) > K - 1
      · rw [if_pos h3, if_pos (by omega)]
      · have h4 : 0 ≤ K * L := Int.mul_nonneg (by omega) (by omega)
        have h5 : K * L ≤ 100 * 1099511627776 := by
          have := Int.mul_le_mul_of_nonneg_right hK1 (show 0 ≤ L by omega)
          omega
        rw [if_neg h3, if_neg (by omega), show wrap64 (K * L) = K * L by unfold wrap64; omega]
        have := Check_l0 K T L l hl l.length (k + 2) 0 (K * L) (by omega) (by omega) (by omega) h4 (by omega)
        rw [prevK_zero, List.drop_zero] at this
        simpa [finC] using this
  have hj0 : ∀ b : Bool, b = decide (K < 2 ∨ 100 < K) → heavyhitters_Check.j0 (k + 4) b K T L l = some (if K < 2 ∨ 100 < K then 2 else if T < 0 ∨ 1099511627776 < T ∨ L < 0 ∨ 1099511627776 < L then 2 else if K - 1 < l.length then 4 else if chkI none l ≠ 0 then chkI none l else if T < K * L + sumI l then 10 else 0) := by
    intro b hb
    simp only [heavyhitters_Check.j0]
    by_cases h1 : K < 2 ∨ 100 < K
    · rw [if_pos h1, hb, if_pos (by simpa using h1)]
    · rw [if_neg h1, hb, if_neg (by simpa using h1)]
      by_cases a1 : T < 0
      · rw [if_pos a1, hj1 _ (by simp [a1]) (by omega) (by omega)]
      · rw [if_neg a1]
        by_cases a2 : T > 1099511627776
        · rw [if_pos a2, hj1 _ (by simp [show 1099511627776 < T from a2]) (by omega) (by omega)]
        · rw [if_neg a2]
          by_cases a3 : L < 0
          · rw [if_pos a3, hj1 _ (by simp [a3]) (by omega) (by omega)]
          · rw [if_neg a3, hj1 _ (by
              have b1 : ¬ T < 0 := a1
              have b2 : ¬ 1099511627776 < T := by omega
              simp only [b1, b2, a3, false_or]) (by omega) (by omega)]
  unfold heavyhitters_Check.f
  by_cases h1 : K < 2
  · rw [if_pos h1]; exact hj0 true (by simp [h1])
  · rw [if_neg h1]; exact hj0 _ (by simp only [h1, false_or])

theorem Check_calls (x : HV) (A : Option Addr) (c : Nat) (w : World) (hr : Kd.C k58 w A x.f3.length x.f3) (hc : x.f3.length ≤ c) (hl : x.f3.length ≤ LB) :
    Calls Try.prog 16 #[.agg #[.int .i64 x.f0, .int .i64 x.f1, .int .i64 x.f2, .slice A x.f3.length c]] w fun e w' => e = .returned (.int .i64 (chkH x)) ∧ Below w.heap.size w w' :=
  heavyhitters_Check.calls (2 * x.f3.length + 10) _ _ _ A c _ _ w hr hc (Check_f x _ hl (by omega))
theorem Great_calls (x : HV) (A : Option Addr) (c : Nat) (w : World) (hr : Kd.C k58 w A x.f3.length x.f3) (hc : x.f3.length ≤ c) :
    Calls Try.prog 10 #[.agg #[.int .i64 x.f0, .int .i64 x.f1, .int .i64 x.f2, .slice A x.f3.length c]] w fun e w' => e = .returned (.bool (decide (20 < x.f3.length))) ∧ Below w.heap.size w w' :=
  lookoutref32_Great.calls _ _ _ A c _ _ w hr hc (by unfold lookoutref32_Great.f; congr 1; simp; omega)

/-- A slice that reads as a list. -/
def CH (w : World) (v : Value) (l : L58) : Prop := ∃ A c, v = .slice A l.length c ∧ l.length ≤ c ∧ Kd.C k58 w A l.length l
theorem CH.below {w w' : World} {v : Value} {l : L58} (h : CH w v l) (hb : Below w.heap.size w w') : CH w' v l := by
  obtain ⟨A, c, e, hc, hC⟩ := h
  exact ⟨A, c, e, hc, Kd.C_below hC hb⟩
theorem CH.of_R {w : World} {base : Nat} {ok : Nat → Prop} {v : Value} {l : L58} (h : Kd.R k58 58 w base ok v l) : CH w v l := Kd.R_reads h
theorem CH.nil (w : World) : CH w (.slice none 0 0) [] := ⟨none, 0, rfl, Nat.le_refl _, rfl, by simp, fun h => absurd h (by simp)⟩
theorem CH.own {w : World} {base : Nat} {v : Value} {l : L58} (h : w.ownsRow base 58 2 v l.length (lcells l)) : CH w v l := CH.of_R (R_of_lcells h)
/-- A summary as a value. -/
def hv (x : HV) (v : Value) : Value := .agg #[.int .i64 x.f0, .int .i64 x.f1, .int .i64 x.f2, v]
/-- What a function that hands back a summary and an error leaves. -/
def RH (W : World) (r : HV × Int) (e : Ending) (w' : World) : Prop := ∃ v, e = .returned (.tuple #[.agg #[.int .i64 r.1.f0, .int .i64 r.1.f1, .int .i64 r.1.f2, v], .int .i64 r.2]) ∧ Kd.R k58 58 w' W.heap.size (fun _ => True) v r.1.f3 ∧ Below W.heap.size W w'

def newF (K : Int) : HV × Int := if K < 2 ∨ 100 < K then (zH, 2) else (⟨K, 0, 0, []⟩, 0)
theorem New_calls (K : Int) (w : World) : Calls Try.prog 14 #[.int .i64 K] w (RH w (newF K)) := by
  refine (heavyhitters_New.calls K (newF K).1.f0 (newF K).1.f1 (newF K).1.f2 (newF K).1.f3 (newF K).2 w ?_).mono ?_
  · unfold heavyhitters_New.f newF
    by_cases h1 : K < 2
    · rw [if_pos h1, if_pos (.inl h1)]; rfl
    · rw [if_neg h1]
      by_cases h2 : K > 100
      · rw [if_pos h2, if_pos (.inr h2)]; rfl
      · rw [if_neg h2, if_neg (by omega)]
  · rintro e w' ⟨v, rfl, hR, hb⟩
    exact ⟨v, rfl, hR, hb⟩

theorem Same_l0 (K T L : Int) (l : L58) (hl : l.length ≤ LB) : ∀ (n k j : Nat), l.length - j = n → n < k → j ≤ l.length → lookoutref32_Same.l0 k (j : Int) K T L l K T L l = some true := by
  intro n
  induction n with
  | zero =>
    intro k j hn hk hj
    obtain ⟨k, rfl⟩ : ∃ m, k = m + 1 := ⟨k - 1, by omega⟩
    simp only [lookoutref32_Same.l0]
    rw [if_neg (by omega)]
  | succ n ih =>
    intro k j hn hk hj
    obtain ⟨k, rfl⟩ : ∃ m, k = m + 1 := ⟨k - 1, by omega⟩
    have hlb : l.length ≤ 1000000 := hl
    simp only [lookoutref32_Same.l0]
    rw [if_pos (by omega), if_pos (by omega), if_pos (by omega), rdT_get l j (by omega), if_neg (by simp), wrap1 j (by omega)]
    exact ih k (j + 1) (by omega) (by omega) (by omega)
theorem Same_f (x : HV) (k : Nat) (hl : x.f3.length ≤ LB) (hk : x.f3.length + 2 < k) : lookoutref32_Same.f k x.f0 x.f1 x.f2 x.f3 x.f0 x.f1 x.f2 x.f3 = some true := by
  obtain ⟨k, rfl⟩ : ∃ m, k = m + 1 := ⟨k - 1, by omega⟩
  unfold lookoutref32_Same.f
  rw [if_pos rfl, if_pos rfl, if_pos rfl]
  simp only [lookoutref32_Same.j0]
  rw [if_neg (by simp)]
  exact Same_l0 x.f0 x.f1 x.f2 x.f3 hl x.f3.length k 0 (by omega) (by omega) (by omega)
theorem Same_calls (x : HV) (v v' : Value) (w : World) (h1 : CH w v x.f3) (h2 : CH w v' x.f3) (hl : x.f3.length ≤ LB) :
    Calls Try.prog 18 #[.agg #[.int .i64 x.f0, .int .i64 x.f1, .int .i64 x.f2, v], .agg #[.int .i64 x.f0, .int .i64 x.f1, .int .i64 x.f2, v']] w fun e w' => e = .returned (.bool true) ∧ Below w.heap.size w w' := by
  obtain ⟨A, c, rfl, hc, hC⟩ := h1
  obtain ⟨A', c', rfl, hc', hC'⟩ := h2
  exact lookoutref32_Same.calls (x.f3.length + 3) _ _ _ A c _ _ _ _ A' c' _ _ w hC hc hC' hc' (Same_f x _ hl (by omega))

/-- The keys that may have been added so often, and those that have. -/
def abvH (x : HV) (n : Int) : List ByteArray × List ByteArray × Int := if chkH x ≠ 0 then ([], [], 1) else if n ≤ x.f2 then ([], [], 2) else (abv x.f3 (fun y => decide (n ≤ y.f1 + x.f2)), abv x.f3 (fun y => decide (n ≤ y.f1)), 0)
theorem abv_snoc (l : L58) (x : S58) (p : S58 → Bool) : abv (l ++ [x]) p = if p x = true then abv l p ++ [x.f0] else abv l p := by
  unfold abv
  rw [List.filter_append, List.map_append]
  by_cases h : p x = true
  · rw [if_pos h]; simp [h]
  · rw [if_neg h]; simp [h]
theorem abv_len (l : L58) (p : S58 → Bool) : (abv l p).length ≤ l.length := by unfold abv; rw [List.length_map]; exact List.length_filter_le _ _
theorem Above_l0 (n : Int) (K T L : Int) (l : L58) (hl : l.length ≤ LB) (hb : ∀ y ∈ l, 0 ≤ y.f1 ∧ y.f1 ≤ 1099511627776) (hL : 0 ≤ L ∧ L ≤ 1099511627776) : ∀ (d k j : Nat), l.length - j = d → d < k → j ≤ l.length →
    heavyhitters_Above.l0 k n (abv (l.take j) (fun y => decide (n ≤ y.f1 + L))) (abv (l.take j) (fun y => decide (n ≤ y.f1))) l (l.length : Int) (j : Int) K T L l = some (abv l (fun y => decide (n ≤ y.f1 + L)), abv l (fun y => decide (n ≤ y.f1)), 0) := by
  intro d
  induction d with
  | zero =>
    intro k j hn hk hj
    obtain ⟨k, rfl⟩ : ∃ m, k = m + 1 := ⟨k - 1, by omega⟩
    simp only [heavyhitters_Above.l0]
    rw [if_neg (by omega), List.take_of_length_le (by omega)]
  | succ d ih =>
    intro k j hn hk hj
    obtain ⟨k, rfl⟩ : ∃ m, k = m + 1 := ⟨k - 1, by omega⟩
    have hlb : l.length ≤ 1000000 := hl
    have hlt : j < l.length := by omega
    have hx := hb l[j] (List.getElem_mem hlt)
    have hih := ih k (j + 1) (by omega) (by omega) (by omega)
    rw [List.take_succ_eq_append_getElem hlt, abv_snoc, abv_snoc] at hih
    have l1 := abv_len (l.take j) (fun y => decide (n ≤ y.f1 + L))
    have l2 := abv_len (l.take j) (fun y => decide (n ≤ y.f1))
    rw [List.length_take] at l1 l2
    simp only [heavyhitters_Above.l0]
    rw [if_pos (by omega), if_pos (by omega), if_pos (by omega), rdT_get l j hlt, wrap1 j (by omega), show wrap64 (l[j].f1 + L) = l[j].f1 + L by unfold wrap64; omega]
    by_cases h1 : n ≤ l[j].f1 + L
    · rw [if_pos h1, if_pos (by omega)]
      simp only [Option.bind_some]
      rw [if_pos (by simpa using h1)] at hih
      by_cases h2 : n ≤ l[j].f1
      · rw [if_pos h2, if_pos (by omega)]
        rw [if_pos (by simpa using h2)] at hih
        exact hih
      · rw [if_neg h2]
        rw [if_neg (by simpa using h2)] at hih
        exact hih
    · rw [if_neg h1]
      rw [if_neg (by simpa using h1)] at hih
      by_cases h2 : n ≤ l[j].f1
      · rw [if_pos h2, if_pos (by omega)]
        rw [if_pos (by simpa using h2)] at hih
        exact hih
      · rw [if_neg h2]
        rw [if_neg (by simpa using h2)] at hih
        exact hih
theorem ValH.le {x : HV} (V : ValH x) : ∀ y ∈ x.f3, 0 ≤ y.f1 ∧ y.f1 ≤ 1099511627776 := fun y hy => by
  have h1 := V.pos y hy
  have h2 := le_sumI V.pos hy
  have h3 := V.sum
  have h4 := V.t1
  have h5 : 0 ≤ x.f0 * x.f2 := Int.mul_nonneg (by have := V.k0; omega) V.l0
  omega
theorem Above_f (x : HV) (n : Int) (k : Nat) (hl : x.f3.length ≤ LB) (hk : 2 * x.f3.length + 9 < k) : heavyhitters_Above.f k x.f0 x.f1 x.f2 x.f3 n = some (abvH x n) := by
  unfold heavyhitters_Above.f abvH
  rw [Check_f x k hl hk]
  simp only [Option.bind_some]
  by_cases h1 : chkH x = 0
  · have V := (chkH_iff x).1 h1
    rw [if_pos h1, if_neg (show ¬ chkH x ≠ 0 by simpa using h1)]
    by_cases h2 : n ≤ x.f2
    · rw [if_pos h2, if_pos h2]
    · rw [if_neg h2, if_neg h2]
      have := Above_l0 n x.f0 x.f1 x.f2 x.f3 hl V.le ⟨V.l0, V.l1⟩ x.f3.length k 0 (by omega) (by omega) (by omega)
      simpa [abv] using this
  · rw [if_neg h1, if_pos h1]

/-- A slice of strings that reads as a list. -/
def CS (w : World) (v : Value) (l : List ByteArray) : Prop := ∃ A c, v = .slice A l.length c ∧ l.length ≤ c ∧ Kd.C Kd.string w A l.length l
theorem CS.below {w w' : World} {v : Value} {l : List ByteArray} (h : CS w v l) (hb : Below w.heap.size w w') : CS w' v l := by
  obtain ⟨A, c, e, hc, hC⟩ := h
  exact ⟨A, c, e, hc, Kd.C_below hC hb⟩
theorem Above_calls (x : HV) (n : Int) (A : Option Addr) (c : Nat) (w : World) (hr : Kd.C k58 w A x.f3.length x.f3) (hc : x.f3.length ≤ c) (hl : x.f3.length ≤ LB) :
    Calls Try.prog 21 #[.agg #[.int .i64 x.f0, .int .i64 x.f1, .int .i64 x.f2, .slice A x.f3.length c], .int .i64 n] w fun e w' => ∃ v0 v1, e = .returned (.tuple #[v0, v1, .int .i64 (abvH x n).2.2]) ∧ CS w' v0 (abvH x n).1 ∧ CS w' v1 (abvH x n).2.1 ∧ Below w.heap.size w w' := by
  refine (heavyhitters_Above.calls (2 * x.f3.length + 10) _ _ _ A c _ n (abvH x n).1 (abvH x n).2.1 (abvH x n).2.2 w hr hc (Above_f x n _ hl (by omega))).mono ?_
  rintro e w' ⟨v0, v1, rfl, h0, h1, hb⟩
  exact ⟨v0, v1, rfl, Kd.R_reads h0, Kd.R_reads h1, hb⟩

theorem truth_l0 (l : List S49) (key : ByteArray) (hl : l.length ≤ LB) (hb : ∀ m ∈ l, 0 ≤ m.f1 ∧ m.f1 ≤ 1000000) : ∀ (d k j : Nat), l.length - j = d → d < k → j ≤ l.length →
    lookoutlaw32_truth.l0 k key (truth (l.take j) key) l (l.length : Int) (j : Int) = some (truth l key) := by
  intro d
  induction d with
  | zero =>
    intro k j hn hk hj
    obtain ⟨k, rfl⟩ : ∃ m, k = m + 1 := ⟨k - 1, by omega⟩
    simp only [lookoutlaw32_truth.l0]
    rw [if_neg (by omega), List.take_of_length_le (by omega)]
  | succ d ih =>
    intro k j hn hk hj
    obtain ⟨k, rfl⟩ : ∃ m, k = m + 1 := ⟨k - 1, by omega⟩
    have hlb : l.length ≤ 1000000 := hl
    have hlt : j < l.length := by omega
    have hx := hb l[j] (List.getElem_mem hlt)
    have hih := ih k (j + 1) (by omega) (by omega) (by omega)
    have ht1 := truth_le (l := l.take j) (fun m hm => (hb m (List.mem_of_mem_take hm)).1) key
    have ht0 := truth_nonneg (l := l.take j) (fun m hm => (hb m (List.mem_of_mem_take hm)).1) key
    have ht2 := sumN_le (l := l.take j) (fun m hm => (hb m (List.mem_of_mem_take hm)).2)
    rw [List.length_take] at ht2
    rw [List.take_succ_eq_append_getElem hlt, truth_append] at hih
    simp only [truth, List.map_cons, List.map_nil, List.sum_cons, List.sum_nil, Int.add_zero] at hih ht1 ht0
    simp only [lookoutlaw32_truth.l0, truth]
    have hg : rd_T49 l (j : Int) = l[j] := by simp [rd_T49, List.getD_eq_getElem?_getD, List.getElem?_eq_getElem hlt]
    rw [if_pos (by omega), if_pos (by omega), if_pos (by omega), hg, wrap1 j (by omega)]
    generalize hs : ((l.take j).map fun x => if x.f0 = key then x.f1 else 0).sum = s at *
    by_cases h : l[j].f0 = key
    · rw [if_pos ((toList_iff _ _).2 h), show wrap64 (s + l[j].f1) = s + l[j].f1 by unfold wrap64; omega]
      rw [if_pos h] at hih
      exact hih
    · rw [if_neg (fun e => h ((toList_iff _ _).1 e))]
      rw [if_neg h, Int.add_zero] at hih
      exact hih
theorem truth_calls (l : List S49) (key : ByteArray) (A : Option Addr) (c : Nat) (w : World) (hr : Kd.C k49 w A l.length l) (hc : l.length ≤ c) (hl : l.length ≤ LB) (hb : ∀ m ∈ l, 0 ≤ m.f1 ∧ m.f1 ≤ 1000000) :
    Calls Try.prog 28 #[.slice A l.length c, .string key] w fun e w' => e = .returned (.int .i64 (truth l key)) ∧ Below w.heap.size w w' := by
  refine lookoutlaw32_truth.calls (l.length + 1) A c l key _ w hr hc ?_
  unfold lookoutlaw32_truth.f
  have := truth_l0 l key hl hb l.length (l.length + 1) 0 (by omega) (by omega) (by omega)
  simpa [truth] using this
theorem rdS_get (l : List ByteArray) (j : Nat) (h : j < l.length) : rdOf ByteArray.empty l (j : Int) = l[j] := by simp [rdOf, List.getD_eq_getElem?_getD, List.getElem?_eq_getElem h]
theorem EqualS_l0 (l : List ByteArray) (hl : l.length ≤ LB) : ∀ (d k j : Nat), l.length - j = d → d < k → j ≤ l.length → slices_Equal_string_string.l0 k l l (l.length : Int) (j : Int) = some true := by
  intro d
  induction d with
  | zero =>
    intro k j hn hk hj
    obtain ⟨k, rfl⟩ : ∃ m, k = m + 1 := ⟨k - 1, by omega⟩
    simp only [slices_Equal_string_string.l0]
    rw [if_neg (by omega)]
  | succ d ih =>
    intro k j hn hk hj
    obtain ⟨k, rfl⟩ : ∃ m, k = m + 1 := ⟨k - 1, by omega⟩
    have hlb : l.length ≤ 1000000 := hl
    simp only [slices_Equal_string_string.l0]
    rw [if_pos (by omega), if_pos (by omega), if_pos (by omega), if_pos (by omega), wrap1 j (by omega)]
    simp only [if_true]
    exact ih k (j + 1) (by omega) (by omega) (by omega)
theorem EqualS_calls (l : List ByteArray) (v v' : Value) (w : World) (h1 : CS w v l) (h2 : CS w v' l) (hl : l.length ≤ LB) :
    Calls Try.prog 23 #[v, v'] w fun e w' => e = .returned (.bool true) ∧ Drawn0 w w' := by
  obtain ⟨A, c, rfl, hc, hC⟩ := h1
  obtain ⟨A', c', rfl, hc', hC'⟩ := h2
  refine slices_Equal_string_string.calls (l.length + 1) A c l A' c' l true w hC hc hC' hc' ?_
  unfold slices_Equal_string_string.f
  rw [if_pos rfl]
  exact EqualS_l0 l hl l.length _ 0 (by omega) (by omega) (by omega)
theorem IndexS_l0 (l : List ByteArray) (key : ByteArray) (hl : l.length ≤ LB) : ∀ (d k j : Nat), l.length - j = d → d < k → j ≤ l.length → ∃ r, slices_Index_string_string.l0 k l key (l.length : Int) (j : Int) = some r ∧ (0 ≤ r ↔ key ∈ l.drop j) := by
  intro d
  induction d with
  | zero =>
    intro k j hn hk hj
    obtain ⟨k, rfl⟩ : ∃ m, k = m + 1 := ⟨k - 1, by omega⟩
    simp only [slices_Index_string_string.l0]
    rw [if_neg (by omega), List.drop_eq_nil_of_le (by omega)]
    exact ⟨_, rfl, by simp⟩
  | succ d ih =>
    intro k j hn hk hj
    obtain ⟨k, rfl⟩ : ∃ m, k = m + 1 := ⟨k - 1, by omega⟩
    have hlb : l.length ≤ 1000000 := hl
    have hlt : j < l.length := by omega
    obtain ⟨r, h1, h2⟩ := ih k (j + 1) (by omega) (by omega) (by omega)
    simp only [slices_Index_string_string.l0]
    rw [if_pos (by omega), if_pos (by omega), if_pos (by omega), rdS_get l j hlt, wrap1 j (by omega), List.drop_eq_getElem_cons hlt]
    by_cases h : key = l[j]
    · rw [if_pos ((toList_iff _ _).2 h)]
      exact ⟨_, rfl, ⟨fun _ => by rw [h]; exact List.mem_cons_self, fun _ => by omega⟩⟩
    · rw [if_neg (fun e => h ((toList_iff _ _).1 e))]
      exact ⟨r, h1, by rw [h2, List.mem_cons]; exact ⟨.inr, fun hh => hh.resolve_left h⟩⟩
theorem ContainsS_calls (l : List ByteArray) (key : ByteArray) (v : Value) (w : World) (h1 : CS w v l) (hl : l.length ≤ LB) (b : Bool) (hb : b = true ↔ key ∈ l) :
    Calls Try.prog 33 #[v, .string key] w fun e w' => e = .returned (.bool b) ∧ Drawn0 w w' := by
  obtain ⟨A, c, rfl, hc, hC⟩ := h1
  refine slices_Contains_string_string.calls (l.length + 1) A c l key b w hC hc ?_
  unfold slices_Contains_string_string.f slices_Index_string_string.f
  obtain ⟨r, h1, h2⟩ := IndexS_l0 l key hl l.length (l.length + 1) 0 (by omega) (by omega) (by omega)
  rw [show ((0 : Nat) : Int) = 0 from rfl] at h1
  rw [h1]
  simp only [Option.bind_some]
  rw [List.drop_zero, ← hb] at h2
  congr 1
  cases b
  · simp at h2 ⊢; omega
  · simp at h2 ⊢; exact h2
end Go.Proofs.Ytgpkpeefbkcjeaa.H

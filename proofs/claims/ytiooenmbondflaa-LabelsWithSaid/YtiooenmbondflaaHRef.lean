/- What the reference's Get, Has, Keep, Drop come to. -/
import Derived.Test.YtiooenmbondflaaHWith2
namespace Go.Proofs.Ytiooenmbondflaa.H
open Go Go.RowKit Go.Proofs.YtiooenmbondflaaW.PrintWords Go.Proofs.YtiooenmbondflaaW.PrintLast Go.Proofs.YtiooenmbondflaaW.PrintMore Go.Proofs.Ytiooenmbondflaa.PAll
set_option linter.unusedVariables false
set_option linter.unusedSimpArgs false

/-- The value of the first label with a name. -/
def getL : L32 → ByteArray → ByteArray
  | [], _ => ⟨#[]⟩
  | x :: l, n => if ab x.f0 = ab n then x.f1 else getL l n

theorem rGet_l0 (l : L32) (name : ByteArray) (hl : l.length ≤ 4611686018427387904) : ∀ (n k j : Nat), l.length - j = n → n < k → lookoutref05_Get.l0 k l name (j : Int) = some (getL (l.drop j) name) := by
  intro n
  induction n with
  | zero =>
    intro k j hn hk
    obtain ⟨k, rfl⟩ : ∃ m, k = m + 1 := ⟨k - 1, by omega⟩
    simp only [lookoutref05_Get.l0]
    rw [if_neg (by omega), List.drop_eq_nil_of_le (by omega)]
    rfl
  | succ n ih =>
    intro k j hn hk
    obtain ⟨k, rfl⟩ : ∃ m, k = m + 1 := ⟨k - 1, by omega⟩
    have hj : j < l.length := by omega
    simp only [lookoutref05_Get.l0]
    rw [if_pos (by omega), if_pos (by omega), rdT_get l j hj, List.drop_eq_getElem_cons hj, toList_ab, toList_ab, wrap1 j (by omega), ih k (j + 1) (by omega) (by omega)]
    simp only [getL]
    split <;> rfl
theorem rGet_calls (A0 : Option Addr) (c0 : Nat) (l : L32) (name : ByteArray) (w : World) (hr0 : Kd.C k32 w A0 l.length l) (hc0 : l.length ≤ c0) (hl : l.length ≤ 4611686018427387904) :
    Calls Try.prog 28 #[.slice A0 l.length c0, .string name] w fun e w' => e = .returned (.string (getL l name)) ∧ Drawn0 w w' :=
  lookoutref05_Get.calls (l.length + 1) A0 c0 l name _ w hr0 hc0 (by
    have := rGet_l0 l name hl l.length (l.length + 1) 0 (by omega) (by omega)
    simpa [lookoutref05_Get.f] using this)

theorem rHas_l0 (l : List ByteArray) (s : ByteArray) (hl : l.length ≤ 4611686018427387904) : ∀ (n k j : Nat), l.length - j = n → n < k → lookoutref05_Has.l0 k l s (j : Int) = some (hasN (l.drop j) s) := by
  intro n
  induction n with
  | zero =>
    intro k j hn hk
    obtain ⟨k, rfl⟩ : ∃ m, k = m + 1 := ⟨k - 1, by omega⟩
    simp only [lookoutref05_Has.l0]
    rw [if_neg (by omega), List.drop_eq_nil_of_le (by omega)]
    rfl
  | succ n ih =>
    intro k j hn hk
    obtain ⟨k, rfl⟩ : ∃ m, k = m + 1 := ⟨k - 1, by omega⟩
    have hj : j < l.length := by omega
    simp only [lookoutref05_Has.l0]
    rw [if_pos (by omega), if_pos (by omega), rdOf_get l j hj, List.drop_eq_getElem_cons hj, toList_ab, toList_ab, wrap1 j (by omega), ih k (j + 1) (by omega) (by omega)]
    generalize l.drop (j + 1) = t
    generalize l[j] = y
    by_cases h : ab y = ab s
    · rw [if_pos h]; simp [hasN, h]
    · rw [if_neg h]
      have : ¬ ab s = ab y := fun e => h e.symm
      simp [hasN, this]
theorem rHas_f (l : List ByteArray) (s : ByteArray) (k : Nat) (hl : l.length ≤ 4611686018427387904) (hk : l.length < k) : lookoutref05_Has.f k l s = some (hasN l s) := by
  have := rHas_l0 l s hl l.length k 0 (by omega) hk
  simpa [lookoutref05_Has.f] using this

theorem rKeep_l0 (l : L32) (names : List ByteArray) (hl : l.length ≤ 1000000) (hn : names.length ≤ 1000000) : ∀ (n k j : Nat) (out : L32), l.length - j = n → n + names.length + 2 < k → out.length + n ≤ 2000000 →
    lookoutref05_Keep.l0 k l names out (j : Int) = some (out ++ sel names true (l.drop j)) := by
  intro n
  induction n with
  | zero =>
    intro k j out hj hk ho
    obtain ⟨k, rfl⟩ : ∃ m, k = m + 1 := ⟨k - 1, by omega⟩
    simp only [lookoutref05_Keep.l0]
    rw [if_neg (by omega), List.drop_eq_nil_of_le (by omega)]
    simp [sel]
  | succ n ih =>
    intro k j out hj hk ho
    obtain ⟨k, rfl⟩ : ∃ m, k = m + 1 := ⟨k - 1, by omega⟩
    have hlt : j < l.length := by omega
    simp only [lookoutref05_Keep.l0]
    rw [if_pos (by omega), if_pos (by omega), rdT_get l j hlt, rHas_f names _ k (by omega) (by omega), List.drop_eq_getElem_cons hlt, wrap1 j (by omega)]
    simp only [Option.bind_some]
    have i1 := ih k (j + 1) (out ++ [⟨l[j].f0, l[j].f1⟩]) (by omega) (by omega) (by simp; omega)
    have i2 := ih k (j + 1) out (by omega) (by omega) (by omega)
    generalize l.drop (j + 1) = t at *
    generalize l[j] = y at *
    by_cases h : hasN names y.f0 = true
    · rw [if_pos h, if_pos (by omega), i1]
      cases y
      simp [sel, h]
    · rw [if_neg h, i2]
      simp [sel, h]
theorem rDrop_l0 (l : L32) (names : List ByteArray) (hl : l.length ≤ 1000000) (hn : names.length ≤ 1000000) : ∀ (n k j : Nat) (out : L32), l.length - j = n → n + names.length + 2 < k → out.length + n ≤ 2000000 →
    lookoutref05_Drop.l0 k l names out (j : Int) = some (out ++ sel names false (l.drop j)) := by
  intro n
  induction n with
  | zero =>
    intro k j out hj hk ho
    obtain ⟨k, rfl⟩ : ∃ m, k = m + 1 := ⟨k - 1, by omega⟩
    simp only [lookoutref05_Drop.l0]
    rw [if_neg (by omega), List.drop_eq_nil_of_le (by omega)]
    simp [sel]
  | succ n ih =>
    intro k j out hj hk ho
    obtain ⟨k, rfl⟩ : ∃ m, k = m + 1 := ⟨k - 1, by omega⟩
    have hlt : j < l.length := by omega
    simp only [lookoutref05_Drop.l0]
    rw [if_pos (by omega), if_pos (by omega), rdT_get l j hlt, rHas_f names _ k (by omega) (by omega), List.drop_eq_getElem_cons hlt, wrap1 j (by omega)]
    simp only [Option.bind_some]
    have i1 := ih k (j + 1) (out ++ [⟨l[j].f0, l[j].f1⟩]) (by omega) (by omega) (by simp; omega)
    have i2 := ih k (j + 1) out (by omega) (by omega) (by omega)
    generalize l.drop (j + 1) = t at *
    generalize l[j] = y at *
    by_cases h : hasN names y.f0 = true
    · rw [if_pos h, i2]
      simp [sel, h]
    · rw [if_neg h, if_pos (by omega), i1]
      cases y
      simp [sel, h]
theorem rDrop_f (l : L32) (names : List ByteArray) (k : Nat) (hl : l.length ≤ 1000000) (hn : names.length ≤ 1000000) (hk : l.length + names.length + 2 < k) : lookoutref05_Drop.f k l names = some (sel names false l) := by
  have := rDrop_l0 l names hl hn l.length k 0 [] (by omega) hk (by simp; omega)
  simpa [lookoutref05_Drop.f] using this
theorem rKeep_calls (A0 A1 : Option Addr) (c0 c1 : Nat) (l : L32) (names : List ByteArray) (w : World) (hr0 : Kd.C k32 w A0 l.length l) (hc0 : l.length ≤ c0) (hr1 : Kd.C Kd.string w A1 names.length names) (hc1 : names.length ≤ c1) (hl : l.length ≤ 1000000) (hn : names.length ≤ 1000000) :
    Calls Try.prog 32 #[.slice A0 l.length c0, .slice A1 names.length c1] w fun e w' => ∃ v, e = .returned v ∧ Kd.R k32 32 w' w.heap.size (fun _ => True) v (sel names true l) ∧ Below w.heap.size w w' :=
  lookoutref05_Keep.calls (l.length + names.length + 3) A0 c0 l A1 c1 names _ w hr0 hc0 hr1 hc1 (by
    have := rKeep_l0 l names hl hn l.length (l.length + names.length + 3) 0 [] (by omega) (by omega) (by simp; omega)
    simpa [lookoutref05_Keep.f] using this)
theorem rDrop_calls (A0 A1 : Option Addr) (c0 c1 : Nat) (l : L32) (names : List ByteArray) (w : World) (hr0 : Kd.C k32 w A0 l.length l) (hc0 : l.length ≤ c0) (hr1 : Kd.C Kd.string w A1 names.length names) (hc1 : names.length ≤ c1) (hl : l.length ≤ 1000000) (hn : names.length ≤ 1000000) :
    Calls Try.prog 33 #[.slice A0 l.length c0, .slice A1 names.length c1] w fun e w' => ∃ v, e = .returned v ∧ Kd.R k32 32 w' w.heap.size (fun _ => True) v (sel names false l) ∧ Below w.heap.size w w' :=
  lookoutref05_Drop.calls (l.length + names.length + 3) A0 c0 l A1 c1 names _ w hr0 hc0 hr1 hc1 (rDrop_f l names _ hl hn (by omega))

/-- The place in a list without the name: all ahead of it have lesser names, the label at it has no lesser one. -/
theorem atL_at (name : ByteArray) (r : L32) (j : Nat) (hj : j < r.length) (h1 : ∀ x ∈ r.take j, ltN name x.f0 = false) (h2 : ltN name r[j].f0 = true) : atL name r = j := by
  have h := idx_drop (fun x : S32 => ltN name x.f0) r j h1 (by omega)
  rw [List.drop_eq_getElem_cons hj] at h
  simp only [idx, h2, if_true] at h
  rw [if_neg (by omega)] at h
  unfold atL
  rw [h, if_neg (by omega)]
  omega
theorem atL_end (name : ByteArray) (r : L32) (h1 : ∀ x ∈ r, ltN name x.f0 = false) : atL name r = r.length := by
  have h : idx (fun x : S32 => ltN name x.f0) r < 0 := by
    have h := idx_any (fun x : S32 => ltN name x.f0) r
    have h2 : r.any (fun x : S32 => ltN name x.f0) = false := by simpa using h1
    rw [h2] at h
    have := of_decide_eq_false h
    omega
  unfold atL
  rw [if_pos h]

theorem rWith_l0 (r : L32) (name value : ByteArray) (hl : r.length ≤ 1000000) (hne : ∀ x ∈ r, ab x.f0 ≠ ab name) : ∀ (n k j : Nat), r.length - j = n → n < k → j ≤ r.length → (∀ x ∈ r.take j, ltN name x.f0 = false) →
    lookoutref05_With.l0 k r name value (j : Int) = some (insL r (atL name r) ⟨name, value⟩) := by
  intro n
  induction n with
  | zero =>
    intro k j hn hk hj hF
    obtain ⟨k, rfl⟩ : ∃ m, k = m + 1 := ⟨k - 1, by omega⟩
    have e : j = r.length := by omega
    subst e
    rw [List.take_length] at hF
    simp only [lookoutref05_With.l0, Option.bind_some]
    rw [if_neg (by omega), if_pos (by omega), if_pos (by omega), if_pos (by simp; omega), if_pos (by simp; omega), if_pos (by simp; omega), atL_end name r hF]
    simp [insL]
  | succ n ih =>
    intro k j hn hk hj hF
    obtain ⟨k, rfl⟩ : ∃ m, k = m + 1 := ⟨k - 1, by omega⟩
    have hlt : j < r.length := by omega
    simp only [lookoutref05_With.l0, Option.bind_some]
    rw [if_pos (by omega), if_pos (by omega), rdT_get r j hlt, wrap1 j (by omega), toList_ab, toList_ab]
    by_cases h : Op.bytesLess (ab r[j].f0) (ab name) = true
    · rw [if_pos h]
      refine ih k (j + 1) (by omega) (by omega) (by omega) (fun x hx => ?_)
      rw [List.take_succ_eq_append_getElem hlt] at hx
      rcases List.mem_append.1 hx with hx | hx
      · exact hF x hx
      · rw [List.mem_singleton.1 hx]
        exact bl_asym _ _ h
    · rw [if_neg h]
      have h2 : ltN name r[j].f0 = true := by
        cases hh : ltN name r[j].f0
        · exact absurd (bl_total _ _ (by simpa using h) hh) (hne _ (List.getElem_mem hlt))
        · rfl
      rw [if_pos (by omega), if_pos (by simp; omega), if_pos (by simp; omega), if_pos (by simp; omega), atL_at name r j hlt hF h2]
      simp [insL]
theorem rWith_calls (A0 : Option Addr) (c0 : Nat) (l : L32) (name value : ByteArray) (w : World) (hr0 : Kd.C k32 w A0 l.length l) (hc0 : l.length ≤ c0) (hl : l.length ≤ 1000000) :
    Calls Try.prog 30 #[.slice A0 l.length c0, .string name, .string value] w fun e w' => ∃ v, e = .returned v ∧ Kd.R k32 32 w' w.heap.size (fun _ => True) v (withL l name value) ∧ Below w.heap.size w w' :=
  lookoutref05_With.calls (l.length + 10) A0 c0 l name value _ w hr0 hc0 (by
    unfold lookoutref05_With.f withL
    have hs : (sel [name] false l).length ≤ l.length := List.length_filter_le _ _
    rw [rDrop_f l [name] _ hl (by simp) (by simp)]
    simp only [Option.bind_some, toList_ab]
    split
    · rfl
    · have := rWith_l0 (sel [name] false l) name value (by omega) (fun x hx => by
        have h := (List.mem_filter.1 hx).2
        intro e
        simp [hasN, e] at h) (sel [name] false l).length (l.length + 10) 0 (by omega) (by omega) (by omega) (by simp)
      simpa using this)
end Go.Proofs.Ytiooenmbondflaa.H

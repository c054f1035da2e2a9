/- Great of the reference at a tenant; a tenant as an argument. -/
import Derived.Test.YtakobehkajphpaaGreatTPF3
import Derived.Test.YtakobehkajphpaaGreatTQSame
import Derived.Test.YtakobehkajphpaaGreatTQFill
import Derived.Test.YtakobehkajphpaaGreatTQRest
import Derived.Test.YtakobehkajphpaaGreatTHOpn
import Derived.Test.YtakobehkajphpaaGreatTGOpn2
namespace Go.Proofs.YtakobehkajphpaaGreat.H
open Go Go.RowKit Go.Proofs.YtakobehkajphpaaGreatW.PrintWords Go.Proofs.YtakobehkajphpaaGreatW.PrintLast Go.Proofs.YtakobehkajphpaaGreatW.PrintMore Go.Proofs.YtakobehkajphpaaGreat.PAll
set_option linter.unusedVariables false
set_option linter.unusedSimpArgs false

def big (x : S94) : Bool := decide (61 < x.f0.size) || decide (201 < x.f1.size)
def greatB (l : List S94) : Bool := l.any big || decide (17 < l.length)

theorem great_l0 (l : List S94) (hl : l.length ≤ 9223372036854775807) : ∀ (n k : Nat) (i : Int), 0 ≤ i → l.length - i.toNat = n → n < k → lookoutref05_Great.l0 k l i = some ((l.drop i.toNat).any big || decide (17 < l.length)) := by
  intro n
  induction n with
  | zero =>
    intro k i h0 hn hk
    obtain ⟨k, rfl⟩ : ∃ m, k = m + 1 := ⟨k - 1, by omega⟩
    simp only [lookoutref05_Great.l0]
    rw [if_neg (by omega), List.drop_eq_nil_of_le (by omega)]
    simp; omega
  | succ n ih =>
    intro k i h0 hn hk
    obtain ⟨k, rfl⟩ : ∃ m, k = m + 1 := ⟨k - 1, by omega⟩
    have hi : i.toNat < l.length := by omega
    simp only [lookoutref05_Great.l0]
    rw [if_pos (by omega), if_pos h0, List.drop_eq_getElem_cons hi]
    have hr : rd_T94 l i = l[i.toNat] := by simp [rd_T94, List.getD_eq_getElem?_getD, List.getElem?_eq_getElem hi]
    rw [hr]
    have hw : wrap64 (i + 1) = i + 1 := by unfold wrap64; omega
    simp only [List.any_cons, big]
    by_cases h1 : ((l[i.toNat]).f0.size : Int) > 61
    · rw [if_pos h1]; have : 61 < (l[i.toNat]).f0.size := by omega
      simp [this]
    · rw [if_neg h1]; have h1' : ¬ 61 < (l[i.toNat]).f0.size := by omega
      by_cases h2 : ((l[i.toNat]).f1.size : Int) > 201
      · rw [if_pos h2]; have : 201 < (l[i.toNat]).f1.size := by omega
        simp [this]
      · rw [if_neg h2]; have h2' : ¬ 201 < (l[i.toNat]).f1.size := by omega
        rw [hw, ih k (i + 1) (by omega) (by omega) (by omega)]
        have : (i + 1).toNat = i.toNat + 1 := by omega
        rw [this]
        simp [h1', h2']

theorem great_f (l : List S94) (hl : l.length ≤ 9223372036854775807) (k : Nat) (hk : l.length < k) : lookoutref05_Great.f k l = some (greatB l) := by
  have := great_l0 l hl l.length k 0 (by omega) (by simp) hk
  simpa [lookoutref05_Great.f, greatB] using this
/-- What is not great is small. -/
theorem small_of {l : L94} (h : greatB l = false) : l.length ≤ 17 ∧ Sz 1000 l := by
  unfold greatB at h
  simp only [Bool.or_eq_false_iff, decide_eq_false_iff_not, List.any_eq_false] at h
  exact ⟨by omega, fun x hx => by
    have := h.1 x hx
    simp [big] at this
    omega⟩
def grT (t : TV) : Bool := t.ser.any greatB || (decide (12 < t.ser.length) || decide (100 < t.nm.size))
theorem grT_small {t : TV} (h : grT t = false) : SmallT t ∧ t.ser.length ≤ 12 := by
  unfold grT at h
  simp only [Bool.or_eq_false_iff, decide_eq_false_iff_not, List.any_eq_false] at h
  obtain ⟨h1, h2, h3⟩ := h
  exact ⟨⟨by omega, by omega, fun l hl => by
    have := small_of (by simpa using h1 l hl)
    exact ⟨by omega, this.2⟩⟩, by omega⟩
def sumL (s : List L94) : Nat := (s.map List.length).sum
theorem sumL_mem {s : List L94} {l : L94} (h : l ∈ s) : l.length ≤ sumL s := by
  induction s with
  | nil => cases h
  | cons x s ih =>
    have e : sumL (x :: s) = x.length + sumL s := by simp [sumL]
    rcases List.mem_cons.1 h with rfl | h
    · omega
    · have := ih h; omega
theorem rGreat_l0 (t : TV) (hl : t.ser.length ≤ 9223372036854775807) (hm : ∀ l ∈ t.ser, l.length ≤ 9223372036854775807) : ∀ (n k : Nat) (i : Int), 0 ≤ i → t.ser.length - i.toNat = n → n + sumL t.ser < k →
    lookoutref55_Great.l0 k i t.nm t.rate t.burst t.level t.clock t.mx t.ser t.acc t.rr t.rs = some ((t.ser.drop i.toNat).any greatB || (decide (12 < t.ser.length) || decide (100 < t.nm.size))) := by
  intro n
  induction n with
  | zero =>
    intro k i h0 hn hk
    obtain ⟨k, rfl⟩ : ∃ m, k = m + 1 := ⟨k - 1, by omega⟩
    simp only [lookoutref55_Great.l0]
    rw [if_neg (by omega), List.drop_eq_nil_of_le (by omega)]
    by_cases h1 : 12 < t.ser.length
    · rw [if_pos (by omega)]; simp [h1]
    · rw [if_neg (by omega)]; simp [h1]; omega
  | succ n ih =>
    intro k i h0 hn hk
    obtain ⟨k, rfl⟩ : ∃ m, k = m + 1 := ⟨k - 1, by omega⟩
    have hi : i.toNat < t.ser.length := by omega
    simp only [lookoutref55_Great.l0]
    rw [if_pos (by omega), if_pos h0, List.drop_eq_getElem_cons hi]
    have hr : rd_L2 t.ser i = t.ser[i.toNat] := by simp [rd_L2, List.getD_eq_getElem?_getD, List.getElem?_eq_getElem hi]
    have hmm := List.getElem_mem hi
    have hs := sumL_mem hmm
    rw [hr, great_f _ (hm _ hmm) k (by omega)]
    have hw : wrap64 (i + 1) = i + 1 := by unfold wrap64; omega
    simp only [Option.bind_some, List.any_cons]
    by_cases h1 : greatB t.ser[i.toNat] = true
    · rw [if_pos h1]; simp [h1]
    · rw [if_neg h1, hw, ih k (i + 1) (by omega) (by omega) (by omega), show (i + 1).toNat = i.toNat + 1 by omega]
      simp [h1]
theorem rGreat_calls (t : TV) (A : Option Addr) (c : Nat) (w : World) (hr : Kd.C kLL w A t.ser.length t.ser) (hc : t.ser.length ≤ c) :
    Calls Tryz.prog 5 #[tv t (.slice A t.ser.length c)] w fun e w' => e = .returned (.bool (grT t)) ∧ Below w.heap.size w w' := by
  refine lookoutref55_Great.calls (t.ser.length + sumL t.ser + 1) _ _ _ _ _ _ A c t.ser _ _ _ (grT t) w hr hc ?_
  have := rGreat_l0 t (Kd.C_max hr) (fun l hl => by
    obtain ⟨j, hj, rfl⟩ := List.getElem_of_mem hl
    obtain ⟨_, _, _, _, _, _, hC⟩ := slice_at hr j hj
    exact Kd.C_max hC) t.ser.length (t.ser.length + sumL t.ser + 1) 0 (by omega) (by simp) (by omega)
  simpa [lookoutref55_Great.f, grT] using this

theorem opn_Label : Opn 94 k94 (fun x => x.f0.size ≤ maxLen ∧ x.f1.size ≤ maxLen) :=
  opn_struct (fun x : S94 => (x.f0, x.f1)) (fun p => ⟨p.1, p.2⟩) (fun _ => rfl) Tryz.underlying94 (by kernel_rfl)
    (opnF_cons (opn_str Tryz.underlying9 (by kernel_rfl)) (opnF_one (opn_str Tryz.underlying9 (by kernel_rfl))))
theorem opn_Labels : Opn 25 (Kd.slice 94 k94) (fun l => ∀ x ∈ l, x.f0.size ≤ maxLen ∧ x.f1.size ≤ maxLen) := opn_slice 94 Tryz.underlying25 (by kernel_rfl) opn_Label
theorem opn_LabelsL : Opn 22 (Kd.slice 25 kLL) (fun s => ∀ l ∈ s, ∀ x ∈ l, x.f0.size ≤ maxLen ∧ x.f1.size ≤ maxLen) := opn_slice 25 Tryz.underlying22 (by kernel_rfl) opn_Labels
def kTV : Kd TV := Kd.iso (Kd.pair Kd.string (Kd.pair (Kd.int .i64) (Kd.pair (Kd.int .i64) (Kd.pair (Kd.int .i64) (Kd.pair (Kd.int .i64) (Kd.pair (Kd.int .i64) (Kd.pair (Kd.slice 25 kLL) (Kd.pair (Kd.int .i64) (Kd.pair (Kd.int .i64) ((Kd.int .i64))))))))))) (fun x => (x.nm, x.rate, x.burst, x.level, x.clock, x.mx, x.ser, x.acc, x.rr, x.rs))
theorem kTV_open {w : World} {x : TV} {cs : List Value} (h : kTV.K w x cs) : ∃ A c, cs = [.string x.nm, .int .i64 x.rate, .int .i64 x.burst, .int .i64 x.level, .int .i64 x.clock, .int .i64 x.mx, .slice A x.ser.length c, .int .i64 x.acc, .int .i64 x.rr, .int .i64 x.rs] ∧ x.ser.length ≤ c ∧ Kd.C kLL w A x.ser.length x.ser := by
  obtain ⟨c0, d0, rfl, h0, c1, d1, rfl, h1, c2, d2, rfl, h2, c3, d3, rfl, h3, c4, d4, rfl, h4, c5, d5, rfl, h5, c6, d6, rfl, ⟨A, c, rfl, hl, hC⟩, c7, d7, rfl, h7, c8, d8, rfl, h8, h9⟩ := h
  cases h0; cases h1; cases h2; cases h3; cases h4; cases h5; cases h7; cases h8; cases h9
  exact ⟨A, c, rfl, hl, hC⟩
theorem opn_Tenant : Opn 24 kTV (fun x => x.nm.size ≤ maxLen ∧ (Lit.int .i64 x.rate).wf = true ∧ (Lit.int .i64 x.burst).wf = true ∧ (Lit.int .i64 x.level).wf = true ∧ (Lit.int .i64 x.clock).wf = true ∧ (Lit.int .i64 x.mx).wf = true ∧ (∀ l ∈ x.ser, ∀ y ∈ l, y.f0.size ≤ maxLen ∧ y.f1.size ≤ maxLen) ∧ (Lit.int .i64 x.acc).wf = true ∧ (Lit.int .i64 x.rr).wf = true ∧ (Lit.int .i64 x.rs).wf = true) :=
  opn_struct (fun x : TV => (x.nm, x.rate, x.burst, x.level, x.clock, x.mx, x.ser, x.acc, x.rr, x.rs)) (fun p => ⟨p.1, p.2.1, p.2.2.1, p.2.2.2.1, p.2.2.2.2.1, p.2.2.2.2.2.1, p.2.2.2.2.2.2.1, p.2.2.2.2.2.2.2.1, p.2.2.2.2.2.2.2.2.1, p.2.2.2.2.2.2.2.2.2⟩) (fun _ => rfl) Tryz.underlying24 (by kernel_rfl)
    (opnF_cons (opn_str Tryz.underlying9 (by kernel_rfl)) (opnF_cons (opn_int Tryz.underlying3 (by kernel_rfl)) (opnF_cons (opn_int Tryz.underlying3 (by kernel_rfl)) (opnF_cons (opn_int Tryz.underlying3 (by kernel_rfl)) (opnF_cons (opn_int Tryz.underlying3 (by kernel_rfl)) (opnF_cons (opn_int Tryz.underlying3 (by kernel_rfl)) (opnF_cons opn_LabelsL (opnF_cons (opn_int Tryz.underlying3 (by kernel_rfl)) (opnF_cons (opn_int Tryz.underlying3 (by kernel_rfl)) (opnF_one (opn_int Tryz.underlying3 (by kernel_rfl))))))))))))
end Go.Proofs.YtakobehkajphpaaGreat.H

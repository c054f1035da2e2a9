/- Tenants: plain words. -/
import Derived.Test.YtakobehkajphpaaGreatTLCmp
namespace Go.Proofs.YtakobehkajphpaaGreat.H
open Go Go.RowKit Go.Proofs.YtakobehkajphpaaGreatW.PrintWords Go.Proofs.YtakobehkajphpaaGreatW.PrintLast Go.Proofs.YtakobehkajphpaaGreatW.PrintMore Go.Proofs.YtakobehkajphpaaGreat.PAll
set_option linter.unusedVariables false
set_option linter.unusedSimpArgs false

/-- A tenant. -/
structure TV where
  nm : ByteArray
  rate : Int
  burst : Int
  level : Int
  clock : Int
  mx : Int
  ser : List L94
  acc : Int
  rr : Int
  rs : Int
def rngB (rate burst mx now : Int) : Bool := decide (0 ≤ rate ∧ rate ≤ 1000000 ∧ 1 ≤ burst ∧ burst ≤ 1000000 ∧ 0 ≤ mx ∧ mx ≤ 1000 ∧ 1 ≤ now ∧ now ≤ 1099511627776)
theorem rng_iff {rate burst mx now : Int} : rngB rate burst mx now = true ↔ 0 ≤ rate ∧ rate ≤ 1000000 ∧ 1 ≤ burst ∧ burst ≤ 1000000 ∧ 0 ≤ mx ∧ mx ≤ 1000 ∧ 1 ≤ now ∧ now ≤ 1099511627776 := by unfold rngB; rw [decide_eq_true_iff]
def cnB (n : Int) : Bool := decide (0 ≤ n ∧ n ≤ 1152921504606846976)
theorem cn_iff {n : Int} : cnB n = true ↔ 0 ≤ n ∧ n ≤ 1152921504606846976 := by unfold cnB; rw [decide_eq_true_iff]
/-- The first of some label sets behind another one. -/
def hdB : Option L94 → L94 → Bool
  | none, l => decide (chk l = 0)
  | some q, l => decide (chk l = 0) && decide (cmpLL q l < 0)
/-- Label sets in order. -/
def serL : Option L94 → List L94 → Bool
  | _, [] => true
  | p, l :: r => hdB p l && serL (some l) r
def pvS (s : List L94) (i : Nat) : Option L94 := if i = 0 then none else s[i - 1]?
theorem serL_at (s : List L94) (i : Nat) (h : i < s.length) : serL (pvS s i) (s.drop i) = (hdB (pvS s i) s[i] && serL (pvS s (i + 1)) (s.drop (i + 1))) := by
  rw [List.drop_eq_getElem_cons h]
  show (hdB (pvS s i) s[i] && serL (some s[i]) (s.drop (i + 1))) = _
  unfold pvS
  rw [if_neg (show ¬ (i + 1 = 0) by omega), show i + 1 - 1 = i by omega, List.getElem?_eq_getElem h]
theorem serL_end (s : List L94) (i : Nat) (h : s.length ≤ i) : serL (pvS s i) (s.drop i) = true := by rw [List.drop_eq_nil_of_le h]; cases pvS s i <;> rfl
def valB (t : TV) : Bool := isNm (ab t.nm) && (rngB t.rate t.burst t.mx t.clock && (decide (0 ≤ t.level ∧ t.level ≤ 1000 * t.burst) && (decide ((t.ser.length : Int) ≤ t.mx) && (serL none t.ser && (cnB t.acc && (cnB t.rr && cnB t.rs))))))
structure ValT (t : TV) : Prop where
  nm : isNm (ab t.nm) = true
  r0 : 0 ≤ t.rate
  r1 : t.rate ≤ 1000000
  b0 : 1 ≤ t.burst
  b1 : t.burst ≤ 1000000
  m0 : 0 ≤ t.mx
  m1 : t.mx ≤ 1000
  c0 : 1 ≤ t.clock
  c1 : t.clock ≤ 1099511627776
  l0 : 0 ≤ t.level
  l1 : t.level ≤ 1000 * t.burst
  len : (t.ser.length : Int) ≤ t.mx
  ser : serL none t.ser = true
  a0 : 0 ≤ t.acc
  a1 : t.acc ≤ 1152921504606846976
  rr0 : 0 ≤ t.rr
  rr1 : t.rr ≤ 1152921504606846976
  rs0 : 0 ≤ t.rs
  rs1 : t.rs ≤ 1152921504606846976
theorem val_iff (t : TV) : valB t = true ↔ ValT t := by
  unfold valB
  simp only [Bool.and_eq_true, rng_iff, cn_iff, decide_eq_true_iff]
  constructor
  · rintro ⟨h1, ⟨h2, h3, h4, h5, h6, h7, h8, h9⟩, ⟨h10, h11⟩, h12, h13, ⟨h14, h15⟩, ⟨h16, h17⟩, h18, h19⟩
    exact ⟨h1, h2, h3, h4, h5, h6, h7, h8, h9, h10, h11, h12, h13, h14, h15, h16, h17, h18, h19⟩
  · rintro ⟨h1, h2, h3, h4, h5, h6, h7, h8, h9, h10, h11, h12, h13, h14, h15, h16, h17, h18, h19⟩
    exact ⟨h1, ⟨h2, h3, h4, h5, h6, h7, h8, h9⟩, ⟨h10, h11⟩, h12, h13, ⟨h14, h15⟩, ⟨h16, h17⟩, h18, h19⟩
def chkT (t : TV) : Int := if valB t = true then 0 else 1
theorem chkT_val {t : TV} (h : ValT t) : chkT t = 0 := if_pos ((val_iff t).2 h)
theorem chkT_no {t : TV} (h : ¬ ValT t) : chkT t = 1 := if_neg (fun e => h ((val_iff t).1 e))
/-- What the statements speak of. -/
structure SmallT (t : TV) : Prop where
  nm : t.nm.size ≤ 1000
  len : t.ser.length ≤ 1000
  ser : ∀ l ∈ t.ser, l.length ≤ 1000 ∧ Sz 1000 l
def zT : TV := ⟨⟨#[]⟩, 0, 0, 0, 0, 0, [], 0, 0, 0⟩
/-- The tenant at a later time. -/
def fillT (t : TV) (now : Int) : TV := { t with level := if t.level + t.rate * (now - t.clock) ≤ 1000 * t.burst then t.level + t.rate * (now - t.clock) else 1000 * t.burst, clock := now }
def newT (nm : ByteArray) (rate burst mx now : Int) : TV × Int := if isNm (ab nm) = true then (if rngB rate burst mx now = true then (⟨nm, rate, burst, 1000 * burst, now, mx, [], 0, 0, 0⟩, 0) else (zT, 2)) else (zT, 5)
/-- The bounds of a refill. -/
theorem fill_bounds {t : TV} (h : ValT t) {now : Int} (h0 : t.clock ≤ now) (h1 : now ≤ 1099511627776) : 0 ≤ t.rate * (now - t.clock) ∧ t.rate * (now - t.clock) ≤ 1000000 * 1099511627776 :=
  ⟨Int.mul_nonneg h.r0 (by omega), Int.mul_le_mul h.r1 (by have := h.c0; omega) (by omega) (by omega)⟩
theorem fill_val {t : TV} (h : ValT t) {now : Int} (h0 : t.clock ≤ now) (h1 : now ≤ 1099511627776) : ValT (fillT t now) := by
  have hb := fill_bounds h h0 h1
  obtain ⟨n1, h2, h3, h4, h5, h6, h7, h8, h9, h10, h11, h12, h13, h14, h15, h16, h17, h18, h19⟩ := h
  refine ⟨n1, h2, h3, h4, h5, h6, h7, ?_, h1, ?_, ?_, h12, h13, h14, h15, h16, h17, h18, h19⟩
  · show 1 ≤ now; omega
  · simp only [fillT]; split <;> omega
  · simp only [fillT]; split <;> omega
def offT (t : TV) : Int := if valB t = true then (if t.acc + t.rr + t.rs ≤ 1152921504606846976 then t.acc + t.rr + t.rs else 1152921504606846976) else 0
def cntI (n : Int) : Int := if n + 1 ≤ 1152921504606846976 then n + 1 else 1152921504606846976
theorem nm_chk (s : ByteArray) : chk [⟨s, ⟨#[120]⟩⟩] = if isNm (ab s) = true then 0 else 5 := by
  unfold chk
  rw [if_neg (by simp)]
  simp only [chkL]
  by_cases h : isNm (ab s) = true
  · rw [if_neg (by rw [h]; simp), if_neg (by decide), if_neg (by decide), if_pos h]
  · rw [if_pos (by simpa using h), if_neg h]
theorem isNm_chk (s : ByteArray) : decide (chk [⟨s, ⟨#[120]⟩⟩] = 0) = isNm (ab s) := by
  have h := nm_chk s
  by_cases e : isNm (ab s) = true
  · rw [if_pos e] at h
    rw [e]; exact decide_eq_true h
  · rw [if_neg e] at h
    have e' : isNm (ab s) = false := by simpa using e
    rw [e']; exact decide_eq_false (by rw [h]; decide)
end Go.Proofs.YtakobehkajphpaaGreat.H

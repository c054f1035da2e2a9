/- Contracts of slices.IndexFunc, slices.ContainsFunc and great over lists of labels. -/
import Derived.Test.YtiooenmbondflaaPF3
import Derived.WalkLawsBesides
namespace Go.Proofs.Ytiooenmbondflaa.H
set_option linter.unusedVariables false
set_option linter.unusedSimpArgs false
open Go.RowKit Go.Proofs.YtiooenmbondflaaW.PrintWords Go.Proofs.YtiooenmbondflaaW.PrintLast Go.Proofs.YtiooenmbondflaaW.PrintMore Go.Proofs.Ytiooenmbondflaa.PAll

def big (x : S32) : Bool := decide (61 < x.f0.size) || decide (201 < x.f1.size)
def greatB (l : List S32) : Bool := l.any big || decide (17 < l.length)

theorem great_l0 (l : List S32) (hl : l.length ≤ 9223372036854775807) : ∀ (n k : Nat) (i : Int), 0 ≤ i → l.length - i.toNat = n → n < k → lookoutref05_Great.l0 k l i = some ((l.drop i.toNat).any big || decide (17 < l.length)) := by
  intro n
  induction n with
  | zero =>
    intro k i h0 hn hk
    obtain ⟨k, rfl⟩ : ∃ m, k = m + 1 := ⟨k - 1, by omega⟩
    simp only [lookoutref05_Great.l0]
    rw [if_neg (by omega), List.drop_eq_nil_of_le (by omega)]
    simp; omega
  | succ n ih =>
    intro k i h0 hn hk
    obtain ⟨k, rfl⟩ : ∃ m, k = m + 1 := ⟨k - 1, by omega⟩
    have hi : i.toNat < l.length := by omega
    simp only [lookoutref05_Great.l0]
    rw [if_pos (by omega), if_pos h0, List.drop_eq_getElem_cons hi]
    have hr : rd_T32 l i = l[i.toNat] := by simp [rd_T32, List.getD_eq_getElem?_getD, List.getElem?_eq_getElem hi]
    rw [hr]
    have hw : wrap64 (i + 1) = i + 1 := by unfold wrap64; omega
    simp only [List.any_cons, big]
    by_cases h1 : ((l[i.toNat]).f0.size : Int) > 61
    · rw [if_pos h1]; have : 61 < (l[i.toNat]).f0.size := by omega
      simp [this]
    · rw [if_neg h1]; have h1' : ¬ 61 < (l[i.toNat]).f0.size := by omega
      by_cases h2 : ((l[i.toNat]).f1.size : Int) > 201
      · rw [if_pos h2]; have : 201 < (l[i.toNat]).f1.size := by omega
        simp [this]
      · rw [if_neg h2]; have h2' : ¬ 201 < (l[i.toNat]).f1.size := by omega
        rw [hw, ih k (i + 1) (by omega) (by omega) (by omega)]
        have : (i + 1).toNat = i.toNat + 1 := by omega
        rw [this]
        simp [h1', h2']

theorem Great_calls (A0 : Option Addr) (c0 : Nat) (l : List S32) (w : World) (hr0 : Kd.C k32 w A0 l.length l) (hc0 : l.length ≤ c0) (hm : l.length ≤ 9223372036854775807) :
    Calls Try.prog 35 #[.slice A0 l.length c0] w fun e w' => e = .returned (.bool (greatB l)) ∧ Drawn0 w w' := by
  refine lookoutref05_Great.calls (l.length + 1) A0 c0 l (greatB l) w hr0 hc0 ?_
  unfold lookoutref05_Great.f
  rw [great_l0 l hm l.length (l.length + 1) 0 (by omega) (by omega) (by omega)]
  simp [greatB]

/-- The first index of which p holds, else -1. -/
def idx {α : Type} (p : α → Bool) : List α → Int
  | [] => -1
  | x :: xs => if p x then 0 else if idx p xs < 0 then -1 else idx p xs + 1

theorem idx_drop {α : Type} (p : α → Bool) : ∀ (l : List α) (j : Nat), (∀ x ∈ l.take j, p x = false) → j ≤ l.length → idx p l = if idx p (l.drop j) < 0 then -1 else idx p (l.drop j) + j
  | l, 0, _, _ => by
    have : -1 ≤ idx p l := by
      induction l with
      | nil => simp [idx]
      | cons x xs ih => simp only [idx]; split <;> (try split) <;> omega
    simp only [List.drop_zero]
    split <;> omega
  | [], j + 1, _, h => by simp at h
  | x :: xs, j + 1, h, hj => by
    have h0 : p x = false := h x (by simp)
    have ih := idx_drop p xs j (fun y hy => h y (by simp [hy])) (by simpa using hj)
    simp only [idx, h0, List.drop_succ_cons, Bool.false_eq_true, if_false]
    rw [ih]
    split <;> split <;> (try split) <;> omega

theorem slice_at {α : Type} {d : Kd α} {e : Nat} {w : World} {A : Option Addr} {ls : List (List α)} (h : Kd.C (Kd.slice e d) w A ls.length ls) (j : Nat) (hj : j < ls.length) :
    ∃ ad A' c', A = some ad ∧ w.cell? (ad.add j) = some (.slice A' ls[j].length c') ∧ ls[j].length ≤ c' ∧ Kd.C d w A' ls[j].length ls[j] := by
  obtain ⟨ad, c, e1, _, ⟨A', c', rfl, hl, hC⟩, hc0⟩ := Kd.C_get h [] (j : Int) (by omega) (by omega)
  have hg : ls.getD (j : Int).toNat [] = ls[j] := by simp [List.getD_eq_getElem?_getD, List.getElem?_eq_getElem hj]
  rw [hg] at hC hl hc0
  refine ⟨ad, A', c', e1, ?_, hl, hC⟩
  have := hc0 0 _ rfl
  simpa [Kd.slice] using this

set_option maxRecDepth 100000 in
set_option maxHeartbeats 1000000 in
theorem IndexFunc_great (A0 : Option Addr) (c0 : Nat) (ls : List (List S32)) (w : World) (hr0 : Kd.C (Kd.slice 32 k32) w A0 ls.length ls) (hc0 : ls.length ≤ c0) (hm : ∀ l ∈ ls, l.length ≤ 9223372036854775807) :
    Calls Try.prog 54 #[.slice A0 ls.length c0, .func (.func 35) #[] #[]] w fun e w' => e = .returned (.int .i64 (idx greatB ls)) ∧ Drawn0 w w' := by
  have HR0 := Aside0.mk hr0
  have HM := Aside0.mk hm
  have hmax := Kd.C_max hr0
  clear hr0 hm
  go_enter Try.func54, Try.ntmps54
  go_wp2_with fail
  go_loopg [8] (ls.length) (fun kq v8 w' => ∃ j : Nat, v8 = .int .i64 j ∧ j ≤ ls.length ∧ Aside0 (kq = ls.length - j) ∧ Drawn0 w w' ∧ Aside0 (∀ x ∈ ls.take j, greatB x = false))
  case atStart => exact ⟨0, rfl, by omega, ⟨rfl⟩, Drawn0.refl _, ⟨by simp⟩⟩
  case round =>
    obtain ⟨j, rfl, hj, HK, ⟨n, rfl⟩, HF⟩ := hrel
    by_cases hlt : j < ls.length
    · obtain ⟨ad, A', c', rfl, hcell, hl', hC⟩ := slice_at HR0.out j hlt
      have HG := Aside0.mk (Great_calls A' c' ls[j] (w.drewN n) (Kd.C_drewN hC n) hl' (HM.out _ (List.getElem_mem hlt)))
      clear hl'
      have HC := Aside0.mk hC
      clear hC
      generalize hx : ls[j] = x at *
      have HX := Aside0.mk hx
      clear hx
      go_wp2_with (go_at_call 35; refine HG.out.mono ?_; rintro e w' ⟨rfl, ⟨m, rfl⟩⟩)
      · have hg : greatB x = true := by assumption
        go_ret
        refine ⟨?_, ⟨⟨_, rfl⟩⟩⟩
        have h1 := idx_drop greatB ls j HF.out hj
        rw [List.drop_eq_getElem_cons hlt, HX.out] at h1
        simp only [idx, hg, if_true] at h1
        rw [h1]; simp
      · have hg : greatB x = false := by assumption
        go_roundg (ls.length - (j + 1))
        case measure => have := HK.out; omega
        case rel =>
          refine ⟨j + 1, by simp, by omega, ⟨rfl⟩, ⟨⟨_, rfl⟩⟩, ⟨fun y hy => ?_⟩⟩
          rw [List.take_succ_eq_append_getElem hlt, HX.out] at hy
          rcases List.mem_append.1 hy with hy | hy
          · exact HF.out y hy
          · rw [List.mem_singleton.1 hy]; exact hg
    · go_wp2
      go_ret
      refine ⟨?_, ⟨⟨n, rfl⟩⟩⟩
      have h1 := idx_drop greatB ls j HF.out hj
      rw [List.drop_eq_nil_of_le (by omega)] at h1
      simp [idx] at h1
      rw [h1]; rfl

theorem idx_any {α : Type} (p : α → Bool) : ∀ (l : List α), decide (0 ≤ idx p l) = l.any p
  | [] => by simp [idx]
  | x :: xs => by
    have ih := idx_any p xs
    simp only [idx, List.any_cons]
    by_cases hx : p x = true
    · simp [hx]
    · have hx' : p x = false := by simpa using hx
      simp only [hx', Bool.false_eq_true, if_false, Bool.false_or]
      rw [← ih]
      split
      · rename_i h; have : ¬ 0 ≤ idx p xs := by omega
        simp [this]
      · rename_i h; have : 0 ≤ idx p xs := by omega
        have h2 : 0 ≤ idx p xs + 1 := by omega
        simp [this, h2]

set_option maxHeartbeats 1000000 in
theorem ContainsFunc_great (A0 : Option Addr) (c0 : Nat) (ls : List (List S32)) (w : World) (hr0 : Kd.C (Kd.slice 32 k32) w A0 ls.length ls) (hc0 : ls.length ≤ c0) (hm : ∀ l ∈ ls, l.length ≤ 9223372036854775807) :
    Calls Try.prog 34 #[.slice A0 ls.length c0, .func (.func 35) #[] #[]] w fun e w' => e = .returned (.bool (ls.any greatB)) ∧ Drawn0 w w' := by
  have H := Aside0.mk (IndexFunc_great A0 c0 ls w hr0 hc0 hm)
  have hx := idx_any greatB ls
  generalize ls.any greatB = b at *
  have HX := Aside0.mk hx
  clear hr0 hm hx
  go_enter Try.func34, Try.ntmps34
  go_wp2_with (go_at_call 54; refine H.out.mono ?_; rintro e w' ⟨rfl, ⟨m, rfl⟩⟩)
  go_ret
  exact ⟨by rw [HX.out]; rfl, ⟨⟨m, rfl⟩⟩⟩

set_option maxHeartbeats 1000000 in
theorem great_calls (A0 : Option Addr) (c0 : Nat) (ls : List (List S32)) (w : World) (hr0 : Kd.C (Kd.slice 32 k32) w A0 ls.length ls) (hc0 : ls.length ≤ c0) (hm : ∀ l ∈ ls, l.length ≤ 9223372036854775807) :
    Calls Try.prog 10 #[.slice A0 ls.length c0] w fun e w' => e = .returned (.bool (ls.any greatB)) ∧ Drawn0 w w' := by
  have H := Aside0.mk (ContainsFunc_great A0 c0 ls w hr0 hc0 hm)
  generalize ls.any greatB = b at *
  clear hr0 hm
  go_enter Try.func10, Try.ntmps10
  go_wp2_with (go_at_call 34; refine H.out.mono ?_; rintro e w' ⟨rfl, ⟨m, rfl⟩⟩)
  go_ret
  exact ⟨rfl, ⟨⟨m, rfl⟩⟩⟩
end Go.Proofs.Ytiooenmbondflaa.H

/- What the laws ask of their lists first: great of a literal row of lists; the opening of arguments. -/
import Derived.Test.YtjgkcgfbkcbjfaaSPure
import Derived.Test.YtjgkcgfbkcbjfaaHOpn
import Derived.WalkLawsBesides
namespace Go.Proofs.Ytjgkcgfbkcbjfaa.H
open Go Go.RowKit Go.Proofs.YtjgkcgfbkcbjfaaW.PrintWords Go.Proofs.YtjgkcgfbkcbjfaaW.PrintLast Go.Proofs.YtjgkcgfbkcbjfaaW.PrintMore Go.Proofs.Ytjgkcgfbkcbjfaa.PAll
set_option linter.unusedVariables false
set_option linter.unusedSimpArgs false

def greatB (l : List S29) : Bool := decide (24 < l.length)
theorem Great_calls (A0 : Option Addr) (c0 : Nat) (l : List S29) (w : World) (hr0 : Kd.C k29 w A0 l.length l) (hc0 : l.length ≤ c0) (hm : l.length ≤ 9223372036854775807) :
    Calls Try.prog 32 #[.slice A0 l.length c0] w fun e w' => e = .returned (.bool (greatB l)) ∧ Drawn0 w w' := by
  refine lookoutref11_Great.calls A0 c0 l (greatB l) w hr0 hc0 ?_
  unfold lookoutref11_Great.f greatB
  simp
  omega

/-- The first index of which p holds, else -1. -/
def idx {α : Type} (p : α → Bool) : List α → Int
  | [] => -1
  | x :: xs => if p x then 0 else if idx p xs < 0 then -1 else idx p xs + 1

theorem idx_drop {α : Type} (p : α → Bool) : ∀ (l : List α) (j : Nat), (∀ x ∈ l.take j, p x = false) → j ≤ l.length → idx p l = if idx p (l.drop j) < 0 then -1 else idx p (l.drop j) + j
  | l, 0, _, _ => by
    have : -1 ≤ idx p l := by
      induction l with
      | nil => simp [idx]
      | cons x xs ih => simp only [idx]; split <;> (try split) <;> omega
    simp only [List.drop_zero]
    split <;> omega
  | [], j + 1, _, h => by simp at h
  | x :: xs, j + 1, h, hj => by
    have h0 : p x = false := h x (by simp)
    have ih := idx_drop p xs j (fun y hy => h y (by simp [hy])) (by simpa using hj)
    simp only [idx, h0, List.drop_succ_cons, Bool.false_eq_true, if_false]
    rw [ih]
    split <;> split <;> (try split) <;> omega

theorem slice_at {α : Type} {d : Kd α} {e : Nat} {w : World} {A : Option Addr} {ls : List (List α)} (h : Kd.C (Kd.slice e d) w A ls.length ls) (j : Nat) (hj : j < ls.length) :
    ∃ ad A' c', A = some ad ∧ w.cell? (ad.add j) = some (.slice A' ls[j].length c') ∧ ls[j].length ≤ c' ∧ Kd.C d w A' ls[j].length ls[j] := by
  obtain ⟨ad, c, e1, _, ⟨A', c', rfl, hl, hC⟩, hc0⟩ := Kd.C_get h [] (j : Int) (by omega) (by omega)
  have hg : ls.getD (j : Int).toNat [] = ls[j] := by simp [List.getD_eq_getElem?_getD, List.getElem?_eq_getElem hj]
  rw [hg] at hC hl hc0
  refine ⟨ad, A', c', e1, ?_, hl, hC⟩
  have := hc0 0 _ rfl
  simpa [Kd.slice] using this

set_option maxRecDepth 100000 in
set_option maxHeartbeats 1000000 in
theorem IndexFunc_great (A0 : Option Addr) (c0 : Nat) (ls : List (List S29)) (w : World) (hr0 : Kd.C (Kd.slice 29 k29) w A0 ls.length ls) (hc0 : ls.length ≤ c0) (hm : ∀ l ∈ ls, l.length ≤ 9223372036854775807) :
    Calls Try.prog 50 #[.slice A0 ls.length c0, .func (.func 32) #[] #[]] w fun e w' => e = .returned (.int .i64 (idx greatB ls)) ∧ Drawn0 w w' := by
  have HR0 := Aside0.mk hr0
  have HM := Aside0.mk hm
  have hmax := Kd.C_max hr0
  clear hr0 hm
  go_enter Try.func50, Try.ntmps50
  go_wp2_with fail
  go_loopg [8] (ls.length) (fun kq v8 w' => ∃ j : Nat, v8 = .int .i64 j ∧ j ≤ ls.length ∧ Aside0 (kq = ls.length - j) ∧ Drawn0 w w' ∧ Aside0 (∀ x ∈ ls.take j, greatB x = false))
  case atStart => exact ⟨0, rfl, by omega, ⟨rfl⟩, Drawn0.refl _, ⟨by simp⟩⟩
  case round =>
    obtain ⟨j, rfl, hj, HK, ⟨n, rfl⟩, HF⟩ := hrel
    by_cases hlt : j < ls.length
    · obtain ⟨ad, A', c', rfl, hcell, hl', hC⟩ := slice_at HR0.out j hlt
      have HG := Aside0.mk (Great_calls A' c' ls[j] (w.drewN n) (Kd.C_drewN hC n) hl' (HM.out _ (List.getElem_mem hlt)))
      clear hl'
      have HC := Aside0.mk hC
      clear hC
      generalize hx : ls[j] = x at *
      have HX := Aside0.mk hx
      clear hx
      go_wp2_with (go_at_call 32; refine HG.out.mono ?_; rintro e w' ⟨rfl, ⟨m, rfl⟩⟩)
      · have hg : greatB x = true := by assumption
        go_ret
        refine ⟨?_, ⟨⟨_, rfl⟩⟩⟩
        have h1 := idx_drop greatB ls j HF.out hj
        rw [List.drop_eq_getElem_cons hlt, HX.out] at h1
        simp only [idx, hg, if_true] at h1
        rw [h1]; simp
      · have hg : greatB x = false := by assumption
        go_roundg (ls.length - (j + 1))
        case measure => have := HK.out; omega
        case rel =>
          refine ⟨j + 1, by simp, by omega, ⟨rfl⟩, ⟨⟨_, rfl⟩⟩, ⟨fun y hy => ?_⟩⟩
          rw [List.take_succ_eq_append_getElem hlt, HX.out] at hy
          rcases List.mem_append.1 hy with hy | hy
          · exact HF.out y hy
          · rw [List.mem_singleton.1 hy]; exact hg
    · go_wp2
      go_ret
      refine ⟨?_, ⟨⟨n, rfl⟩⟩⟩
      have h1 := idx_drop greatB ls j HF.out hj
      rw [List.drop_eq_nil_of_le (by omega)] at h1
      simp [idx] at h1
      rw [h1]; rfl

theorem idx_any {α : Type} (p : α → Bool) : ∀ (l : List α), decide (0 ≤ idx p l) = l.any p
  | [] => by simp [idx]
  | x :: xs => by
    have ih := idx_any p xs
    simp only [idx, List.any_cons]
    by_cases hx : p x = true
    · simp [hx]
    · have hx' : p x = false := by simpa using hx
      simp only [hx', Bool.false_eq_true, if_false, Bool.false_or]
      rw [← ih]
      split
      · rename_i h; have : ¬ 0 ≤ idx p xs := by omega
        simp [this]
      · rename_i h; have : 0 ≤ idx p xs := by omega
        have h2 : 0 ≤ idx p xs + 1 := by omega
        simp [this, h2]

set_option maxHeartbeats 1000000 in
theorem ContainsFunc_great (A0 : Option Addr) (c0 : Nat) (ls : List (List S29)) (w : World) (hr0 : Kd.C (Kd.slice 29 k29) w A0 ls.length ls) (hc0 : ls.length ≤ c0) (hm : ∀ l ∈ ls, l.length ≤ 9223372036854775807) :
    Calls Try.prog 31 #[.slice A0 ls.length c0, .func (.func 32) #[] #[]] w fun e w' => e = .returned (.bool (ls.any greatB)) ∧ Drawn0 w w' := by
  have H := Aside0.mk (IndexFunc_great A0 c0 ls w hr0 hc0 hm)
  have hx := idx_any greatB ls
  generalize ls.any greatB = b at *
  have HX := Aside0.mk hx
  clear hr0 hm hx
  go_enter Try.func31, Try.ntmps31
  go_wp2_with (go_at_call 50; refine H.out.mono ?_; rintro e w' ⟨rfl, ⟨m, rfl⟩⟩)
  go_ret
  exact ⟨by rw [HX.out]; rfl, ⟨⟨m, rfl⟩⟩⟩

set_option maxHeartbeats 1000000 in
theorem great_calls (A0 : Option Addr) (c0 : Nat) (ls : List (List S29)) (w : World) (hr0 : Kd.C (Kd.slice 29 k29) w A0 ls.length ls) (hc0 : ls.length ≤ c0) (hm : ∀ l ∈ ls, l.length ≤ 9223372036854775807) :
    Calls Try.prog 10 #[.slice A0 ls.length c0] w fun e w' => e = .returned (.bool (ls.any greatB)) ∧ Drawn0 w w' := by
  have H := Aside0.mk (ContainsFunc_great A0 c0 ls w hr0 hc0 hm)
  generalize ls.any greatB = b at *
  clear hr0 hm
  go_enter Try.func10, Try.ntmps10
  go_wp2_with (go_at_call 31; refine H.out.mono ?_; rintro e w' ⟨rfl, ⟨m, rfl⟩⟩)
  go_ret
  exact ⟨rfl, ⟨⟨m, rfl⟩⟩⟩
/-- A literal row of slices reads as it stands. -/
theorem C_slices {α : Type} {d : Kd α} (E e : Nat) (W : World) (n : Nat) (hn : n = W.heap.size) (hd : Array Value) (ls : List (List α)) (hlen : ls.length ≤ 1000)
    (h : ∀ (j : Nat) (l : List α), ls[j]? = some l → ∃ A c, hd[j]? = some (.slice A l.length c) ∧ l.length ≤ c ∧ Kd.C d W A l.length l) :
    Kd.C (Kd.slice E d) (W.alloc (.cells hd e)) (some ⟨n, 0, none⟩) ls.length ls := by
  subst hn
  refine ⟨rfl, by omega, fun _ => ⟨_, rfl, fun j p hj => ?_⟩⟩
  obtain ⟨A, c, h1, h2, h3⟩ := h j p hj
  refine ⟨[.slice A p.length c], rfl, ⟨A, c, rfl, h2, Kd.C_below h3 ((Below.refl _ W).alloc (Nat.le_refl _) _)⟩, fun i u hu => ?_⟩
  rcases i with _ | i
  · simp at hu; subst hu
    rw [add_plain]
    exact cell_of_heap (heap_alloc_new W _) _ _ (by simpa [Kd.slice] using h1)
  · simp at hu

theorem great1 (W : World) (n : Nat) (hn : n = W.heap.size) (A0 : Option Addr) (c0 : Nat) (l : L29) (hr0 : Kd.C k29 W A0 l.length l) (hc0 : l.length ≤ c0) :
    Calls Try.prog 10 #[.slice (some ⟨n, 0, none⟩) 1 1] (W.alloc (.cells #[.slice A0 l.length c0] 22)) fun e w' => e = .returned (.bool (greatB l)) ∧ Drawn0 (W.alloc (.cells #[.slice A0 l.length c0] 22)) w' := by
  have h := great_calls (some ⟨n, 0, none⟩) 1 [l] (W.alloc (.cells #[.slice A0 l.length c0] 22)) (C_slices 29 22 W n hn #[.slice A0 l.length c0] [l] (by simp) (fun j x hj => by
    rcases j with _ | j
    · simp at hj; subst hj; exact ⟨A0, c0, rfl, hc0, hr0⟩
    · simp at hj)) (by simp) (fun x hx => by simp at hx; subst hx; exact Kd.C_max hr0)
  simpa using h

theorem great3 (W : World) (n : Nat) (hn : n = W.heap.size) (A0 A1 A2 : Option Addr) (c0 c1 c2 : Nat) (l0 l1 l2 : L29) (hr0 : Kd.C k29 W A0 l0.length l0) (hc0 : l0.length ≤ c0) (hr1 : Kd.C k29 W A1 l1.length l1) (hc1 : l1.length ≤ c1) (hr2 : Kd.C k29 W A2 l2.length l2) (hc2 : l2.length ≤ c2) :
    Calls Try.prog 10 #[.slice (some ⟨n, 0, none⟩) 3 3] (W.alloc (.cells #[.slice A0 l0.length c0, .slice A1 l1.length c1, .slice A2 l2.length c2] 22)) fun e w' => e = .returned (.bool (greatB l0 || greatB l1 || greatB l2)) ∧ Drawn0 (W.alloc (.cells #[.slice A0 l0.length c0, .slice A1 l1.length c1, .slice A2 l2.length c2] 22)) w' := by
  have h := great_calls (some ⟨n, 0, none⟩) 3 [l0, l1, l2] (W.alloc (.cells #[.slice A0 l0.length c0, .slice A1 l1.length c1, .slice A2 l2.length c2] 22)) (C_slices 29 22 W n hn #[.slice A0 l0.length c0, .slice A1 l1.length c1, .slice A2 l2.length c2] [l0, l1, l2] (by simp) (fun j x hj => by
    rcases j with _ | _ | _ | j
    · simp at hj; subst hj; exact ⟨A0, c0, rfl, hc0, hr0⟩
    · simp at hj; subst hj; exact ⟨A1, c1, rfl, hc1, hr1⟩
    · simp at hj; subst hj; exact ⟨A2, c2, rfl, hc2, hr2⟩
    · simp at hj)) (by simp) (fun x hx => by simp at hx; rcases hx with rfl | rfl | rfl <;> first | exact Kd.C_max hr0 | exact Kd.C_max hr1 | exact Kd.C_max hr2)
  simpa [Bool.or_assoc] using h

theorem great2 (W : World) (n : Nat) (hn : n = W.heap.size) (A0 A1 : Option Addr) (c0 c1 : Nat) (l0 l1 : L29) (hr0 : Kd.C k29 W A0 l0.length l0) (hc0 : l0.length ≤ c0) (hr1 : Kd.C k29 W A1 l1.length l1) (hc1 : l1.length ≤ c1) :
    Calls Try.prog 10 #[.slice (some ⟨n, 0, none⟩) 2 2] (W.alloc (.cells #[.slice A0 l0.length c0, .slice A1 l1.length c1] 22)) fun e w' => e = .returned (.bool (greatB l0 || greatB l1)) ∧ Drawn0 (W.alloc (.cells #[.slice A0 l0.length c0, .slice A1 l1.length c1] 22)) w' := by
  have h := great_calls (some ⟨n, 0, none⟩) 2 [l0, l1] (W.alloc (.cells #[.slice A0 l0.length c0, .slice A1 l1.length c1] 22)) (C_slices 29 22 W n hn #[.slice A0 l0.length c0, .slice A1 l1.length c1] [l0, l1] (by simp) (fun j x hj => by
    rcases j with _ | _ | j
    · simp at hj; subst hj; exact ⟨A0, c0, rfl, hc0, hr0⟩
    · simp at hj; subst hj; exact ⟨A1, c1, rfl, hc1, hr1⟩
    · simp at hj)) (by simp) (fun x hx => by simp at hx; rcases hx with rfl | rfl <;> first | exact Kd.C_max hr0 | exact Kd.C_max hr1)
  simpa [Bool.or_assoc] using h

theorem opn_Sample : Opn 29 k29 (fun x => (Lit.int .i64 x.f0).wf = true ∧ (Lit.int .i64 x.f1).wf = true) :=
  opn_struct (fun x : S29 => (x.f0, x.f1)) (fun p => ⟨p.1, p.2⟩) (fun _ => rfl) Try.underlying29 (by kernel_rfl)
    (opnF_cons (opn_int Try.underlying3 (by kernel_rfl)) (opnF_one (opn_int Try.underlying3 (by kernel_rfl))))
theorem opn_Samples : Opn 22 (Kd.slice 29 k29) (fun l => ∀ x ∈ l, (Lit.int .i64 x.f0).wf = true ∧ (Lit.int .i64 x.f1).wf = true) := opn_slice 29 Try.underlying22 (by kernel_rfl) opn_Sample
end Go.Proofs.Ytjgkcgfbkcbjfaa.H

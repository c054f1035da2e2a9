/- slices.ContainsFunc with the closures of QuotaAccount; and what QuotaAccount asks of an operation, in plain words. -/
import Derived.Test.YtakobehkajphpaaQLg
import Derived.WalkLawsBesides
namespace Go.Proofs.Ytakobehkajphpaa.H
open Go Go.RowKit Go.Proofs.YtakobehkajphpaaW.PrintWords Go.Proofs.YtakobehkajphpaaW.PrintLast Go.Proofs.YtakobehkajphpaaW.PrintMore Go.Proofs.Ytakobehkajphpaa.PAll
set_option linter.unusedVariables false
set_option linter.unusedSimpArgs false

/-- The first index of which p holds, else -1. -/
def idx {α : Type} (p : α → Bool) : List α → Int
  | [] => -1
  | x :: xs => if p x then 0 else if idx p xs < 0 then -1 else idx p xs + 1
theorem idx_ge {α : Type} (p : α → Bool) : ∀ l : List α, -1 ≤ idx p l
  | [] => by simp [idx]
  | x :: xs => by simp only [idx]; split <;> (try split) <;> omega
theorem idx_drop {α : Type} (p : α → Bool) : ∀ (l : List α) (j : Nat), (∀ x ∈ l.take j, p x = false) → j ≤ l.length → idx p l = if idx p (l.drop j) < 0 then -1 else idx p (l.drop j) + j
  | l, 0, _, _ => by
    have := idx_ge p l
    simp only [List.drop_zero]
    split <;> omega
  | [], j + 1, _, h => by simp at h
  | x :: xs, j + 1, h, hj => by
    have h0 : p x = false := h x (by simp)
    have ih := idx_drop p xs j (fun y hy => h y (by simp [hy])) (by simpa using hj)
    simp only [idx, h0, List.drop_succ_cons, Bool.false_eq_true, if_false]
    rw [ih]
    split <;> split <;> (try split) <;> omega
theorem idx_any {α : Type} (p : α → Bool) : ∀ (l : List α), decide (0 ≤ idx p l) = l.any p
  | [] => by simp [idx]
  | x :: xs => by
    have ih := idx_any p xs
    simp only [idx, List.any_cons]
    by_cases hx : p x = true
    · simp [hx]
    · have hx' : p x = false := by simpa using hx
      simp only [hx', Bool.false_eq_true, if_false, Bool.false_or]
      rw [← ih]
      split
      · rename_i h; have : ¬ 0 ≤ idx p xs := by omega
        simp [this]
      · rename_i h; have h1 : 0 ≤ idx p xs := by omega
        have h2 : 0 ≤ idx p xs + 1 := by omega
        simp [h1, h2]
def hasB (ls : List L72) (t : L72) : Bool := ls.any fun x => eqLB x t
theorem hasB_iff {ls : List L72} {t : L72} : hasB ls t = true ↔ t ∈ ls := by
  unfold hasB
  rw [List.any_eq_true]
  constructor
  · rintro ⟨x, h1, h2⟩; rw [← (eqLB_iff x t).1 h2]; exact h1
  · intro h; exact ⟨t, h, (eqLB_iff t t).2 rfl⟩

set_option maxRecDepth 100000 in
set_option maxHeartbeats 1000000 in
theorem Acc1_calls (A : Option Addr) (c : Nat) (l : L72) (B : Nat) (At : Option Addr) (ct : Nat) (t : L72) (w : World) (hr : Kd.C k72 w A l.length l) (hc : l.length ≤ c) (hl : l.length ≤ 1000) (hb : w.heap[B]? = some (.cells #[.slice At t.length ct] 35 (0, 0))) (hrt : Kd.C k72 w At t.length t) (hct : t.length ≤ ct) :
    Calls Try.prog 22 #[.slice A l.length c, .pointer (some ⟨B, 0, none⟩)] w fun e w' => e = .returned (.bool (eqLB l t)) ∧ Below w.heap.size w w' := by
  have HE := Aside0.mk (Equal_calls A At c ct l t w hr hc hrt hct (by omega))
  have b0 := (blk_cell hb 0).trans rfl
  simp only [List.getElem?_toArray, List.getElem?_cons_zero] at b0
  clear hr hrt hb
  go_enter Try.func22, Try.ntmps22
  go_wp2_with (go_at_call 23; (with_reducible refine HE.out.mono ?_); rintro e w1 ⟨rfl, ⟨m, rfl⟩⟩)
  go_ret
  exact ⟨rfl, pw_below_drewN (Below.refl _ _) _⟩
set_option maxRecDepth 100000 in
set_option maxHeartbeats 2000000 in
theorem IndexAcc1 (A0 : Option Addr) (c0 : Nat) (ls : List L72) (B : Nat) (At : Option Addr) (ct : Nat) (t : L72) (w : World) (hr0 : Kd.C kLL w A0 ls.length ls) (hc0 : ls.length ≤ c0) (hm : ∀ l ∈ ls, l.length ≤ 1000) (hb : w.heap[B]? = some (.cells #[.slice At t.length ct] 35 (0, 0))) (hrt : Kd.C k72 w At t.length t) (hct : t.length ≤ ct) :
    Calls Try.prog 39 #[.slice A0 ls.length c0, .func (.func 22) #[] #[.pointer (some ⟨B, 0, none⟩)]] w fun e w' => e = .returned (.int .i64 (idx (fun x => eqLB x t) ls)) ∧ Below w.heap.size w w' := by
  have HR0 := Aside0.mk hr0
  have HM := Aside0.mk hm
  have HBX := Aside0.mk hb
  have HRT := Aside0.mk hrt
  have hmax := Kd.C_max hr0
  clear hr0 hm hb hrt
  go_enter Try.func39, Try.ntmps39
  go_wp2_with fail
  go_loopg [8] (ls.length) (fun kq v8 w' => ∃ j : Nat, v8 = .int .i64 j ∧ j ≤ ls.length ∧ Aside0 (kq = ls.length - j) ∧ Aside0 (Below w.heap.size w w') ∧ Aside0 (∀ x ∈ ls.take j, eqLB x t = false))
  case atStart => exact ⟨0, rfl, by omega, ⟨rfl⟩, ⟨Below.refl _ _⟩, ⟨by simp⟩⟩
  case round =>
    obtain ⟨j, rfl, hj, HK, HB, HF⟩ := hrel
    by_cases hlt : j < ls.length
    · obtain ⟨ad, A', c', HE0⟩ : ∃ ad A' c', Aside0 (A0 = some ad ∧ wr.cell? (ad.add j) = some (.slice A' ls[j].length c') ∧ Calls Try.prog 22 #[.slice A' ls[j].length c', .pointer (some ⟨B, 0, none⟩)] wr fun e w' => e = .returned (.bool (eqLB ls[j] t)) ∧ Below wr.heap.size wr w') := by
        obtain ⟨ad, A', c', rfl, hcell, hl', hC⟩ := slice_at (Kd.C_below HR0.out HB.out) j hlt
        exact ⟨ad, A', c', ⟨rfl, hcell, Acc1_calls A' c' ls[j] B At ct t wr hC hl' (HM.out _ (List.getElem_mem hlt)) ((HB.out.block B (heap_lt HBX.out)).trans HBX.out) (Kd.C_below HRT.out HB.out) hct⟩⟩
      obtain ⟨rfl, hcell, hG⟩ := HE0.out
      have HG := Aside0.mk hG
      clear hG HE0
      generalize hx : ls[j] = x at *
      have HX2 := Aside0.mk hx
      clear hx
      cases hg : eqLB x t with
      | true =>
        rw [hg] at HG
        have HGG := Aside0.mk hg
        clear hg
        go_wp2_with (go_at_call 22; refine HG.out.mono ?_; rintro e w1 ⟨rfl, hb1⟩)
        go_ret
        refine ⟨?_, HB.out.trans (hb1.mono HB.out.size)⟩
        have h1 := idx_drop (fun x => eqLB x t) ls j HF.out hj
        rw [List.drop_eq_getElem_cons hlt, HX2.out] at h1
        simp only [idx, HGG.out, if_true] at h1
        rw [h1]; simp
      | false =>
        rw [hg] at HG
        have HGG := Aside0.mk hg
        clear hg
        go_wp2_with (go_at_call 22; refine HG.out.mono ?_; rintro e w1 ⟨rfl, hb1⟩; have HB1 := Aside0.mk (HB.out.trans (hb1.mono HB.out.size)); clear hb1)
        go_roundg (ls.length - (j + 1))
        case measure => have := HK.out; omega
        case rel =>
          refine ⟨j + 1, by simp, by omega, ⟨rfl⟩, HB1, ⟨fun y hy => ?_⟩⟩
          rw [List.take_succ_eq_append_getElem hlt, HX2.out] at hy
          rcases List.mem_append.1 hy with hy | hy
          · exact HF.out y hy
          · rw [List.mem_singleton.1 hy]; exact HGG.out
    · go_wp2
      go_ret
      refine ⟨?_, HB.out⟩
      have h1 := idx_drop (fun x => eqLB x t) ls j HF.out hj
      rw [List.drop_eq_nil_of_le (by omega)] at h1
      simp [idx] at h1
      rw [h1]; rfl
set_option maxRecDepth 100000 in
theorem ContainsAcc1 (A0 : Option Addr) (c0 : Nat) (ls : List L72) (B : Nat) (At : Option Addr) (ct : Nat) (t : L72) (w : World) (hr0 : Kd.C kLL w A0 ls.length ls) (hc0 : ls.length ≤ c0) (hm : ∀ l ∈ ls, l.length ≤ 1000) (hb : w.heap[B]? = some (.cells #[.slice At t.length ct] 35 (0, 0))) (hrt : Kd.C k72 w At t.length t) (hct : t.length ≤ ct) :
    Calls Try.prog 21 #[.slice A0 ls.length c0, .func (.func 22) #[] #[.pointer (some ⟨B, 0, none⟩)]] w fun e w' => e = .returned (.bool (hasB ls t)) ∧ Below w.heap.size w w' := by
  have HI := Aside0.mk (IndexAcc1 A0 c0 ls B At ct t w hr0 hc0 hm hb hrt hct)
  have HE := Aside0.mk (idx_any (fun x => eqLB x t) ls)
  clear hr0 hm hb hrt
  go_enter Try.func21, Try.ntmps21
  go_wp2_with (go_at_call 39; (with_reducible refine HI.out.mono ?_); rintro e w1 ⟨rfl, hb⟩; have HB := Aside0.mk hb; clear hb)
  go_ret
  exact ⟨by unfold hasB; rw [← HE.out]; rfl, HB.out⟩

set_option maxRecDepth 100000 in
set_option maxHeartbeats 1000000 in
theorem Acc2_calls (A : Option Addr) (c : Nat) (l : L72) (B : Nat) (At : Option Addr) (ct : Nat) (t : L72) (w : World) (hr : Kd.C k72 w A l.length l) (hc : l.length ≤ c) (hl : l.length ≤ 1000) (hb : w.heap[B]? = some (.cells #[.slice At t.length ct] 35 (0, 0))) (hrt : Kd.C k72 w At t.length t) (hct : t.length ≤ ct) :
    Calls Try.prog 24 #[.slice A l.length c, .pointer (some ⟨B, 0, none⟩)] w fun e w' => e = .returned (.bool (eqLB l t)) ∧ Below w.heap.size w w' := by
  have HE := Aside0.mk (Equal_calls A At c ct l t w hr hc hrt hct (by omega))
  have b0 := (blk_cell hb 0).trans rfl
  simp only [List.getElem?_toArray, List.getElem?_cons_zero] at b0
  clear hr hrt hb
  go_enter Try.func24, Try.ntmps24
  go_wp2_with (go_at_call 23; (with_reducible refine HE.out.mono ?_); rintro e w1 ⟨rfl, ⟨m, rfl⟩⟩)
  go_ret
  exact ⟨rfl, pw_below_drewN (Below.refl _ _) _⟩
set_option maxRecDepth 100000 in
set_option maxHeartbeats 2000000 in
theorem IndexAcc2 (A0 : Option Addr) (c0 : Nat) (ls : List L72) (B : Nat) (At : Option Addr) (ct : Nat) (t : L72) (w : World) (hr0 : Kd.C kLL w A0 ls.length ls) (hc0 : ls.length ≤ c0) (hm : ∀ l ∈ ls, l.length ≤ 1000) (hb : w.heap[B]? = some (.cells #[.slice At t.length ct] 35 (0, 0))) (hrt : Kd.C k72 w At t.length t) (hct : t.length ≤ ct) :
    Calls Try.prog 39 #[.slice A0 ls.length c0, .func (.func 24) #[] #[.pointer (some ⟨B, 0, none⟩)]] w fun e w' => e = .returned (.int .i64 (idx (fun x => eqLB x t) ls)) ∧ Below w.heap.size w w' := by
  have HR0 := Aside0.mk hr0
  have HM := Aside0.mk hm
  have HBX := Aside0.mk hb
  have HRT := Aside0.mk hrt
  have hmax := Kd.C_max hr0
  clear hr0 hm hb hrt
  go_enter Try.func39, Try.ntmps39
  go_wp2_with fail
  go_loopg [8] (ls.length) (fun kq v8 w' => ∃ j : Nat, v8 = .int .i64 j ∧ j ≤ ls.length ∧ Aside0 (kq = ls.length - j) ∧ Aside0 (Below w.heap.size w w') ∧ Aside0 (∀ x ∈ ls.take j, eqLB x t = false))
  case atStart => exact ⟨0, rfl, by omega, ⟨rfl⟩, ⟨Below.refl _ _⟩, ⟨by simp⟩⟩
  case round =>
    obtain ⟨j, rfl, hj, HK, HB, HF⟩ := hrel
    by_cases hlt : j < ls.length
    · obtain ⟨ad, A', c', HE0⟩ : ∃ ad A' c', Aside0 (A0 = some ad ∧ wr.cell? (ad.add j) = some (.slice A' ls[j].length c') ∧ Calls Try.prog 24 #[.slice A' ls[j].length c', .pointer (some ⟨B, 0, none⟩)] wr fun e w' => e = .returned (.bool (eqLB ls[j] t)) ∧ Below wr.heap.size wr w') := by
        obtain ⟨ad, A', c', rfl, hcell, hl', hC⟩ := slice_at (Kd.C_below HR0.out HB.out) j hlt
        exact ⟨ad, A', c', ⟨rfl, hcell, Acc2_calls A' c' ls[j] B At ct t wr hC hl' (HM.out _ (List.getElem_mem hlt)) ((HB.out.block B (heap_lt HBX.out)).trans HBX.out) (Kd.C_below HRT.out HB.out) hct⟩⟩
      obtain ⟨rfl, hcell, hG⟩ := HE0.out
      have HG := Aside0.mk hG
      clear hG HE0
      generalize hx : ls[j] = x at *
      have HX2 := Aside0.mk hx
      clear hx
      cases hg : eqLB x t with
      | true =>
        rw [hg] at HG
        have HGG := Aside0.mk hg
        clear hg
        go_wp2_with (go_at_call 24; refine HG.out.mono ?_; rintro e w1 ⟨rfl, hb1⟩)
        go_ret
        refine ⟨?_, HB.out.trans (hb1.mono HB.out.size)⟩
        have h1 := idx_drop (fun x => eqLB x t) ls j HF.out hj
        rw [List.drop_eq_getElem_cons hlt, HX2.out] at h1
        simp only [idx, HGG.out, if_true] at h1
        rw [h1]; simp
      | false =>
        rw [hg] at HG
        have HGG := Aside0.mk hg
        clear hg
        go_wp2_with (go_at_call 24; refine HG.out.mono ?_; rintro e w1 ⟨rfl, hb1⟩; have HB1 := Aside0.mk (HB.out.trans (hb1.mono HB.out.size)); clear hb1)
        go_roundg (ls.length - (j + 1))
        case measure => have := HK.out; omega
        case rel =>
          refine ⟨j + 1, by simp, by omega, ⟨rfl⟩, HB1, ⟨fun y hy => ?_⟩⟩
          rw [List.take_succ_eq_append_getElem hlt, HX2.out] at hy
          rcases List.mem_append.1 hy with hy | hy
          · exact HF.out y hy
          · rw [List.mem_singleton.1 hy]; exact HGG.out
    · go_wp2
      go_ret
      refine ⟨?_, HB.out⟩
      have h1 := idx_drop (fun x => eqLB x t) ls j HF.out hj
      rw [List.drop_eq_nil_of_le (by omega)] at h1
      simp [idx] at h1
      rw [h1]; rfl
set_option maxRecDepth 100000 in
theorem ContainsAcc2 (A0 : Option Addr) (c0 : Nat) (ls : List L72) (B : Nat) (At : Option Addr) (ct : Nat) (t : L72) (w : World) (hr0 : Kd.C kLL w A0 ls.length ls) (hc0 : ls.length ≤ c0) (hm : ∀ l ∈ ls, l.length ≤ 1000) (hb : w.heap[B]? = some (.cells #[.slice At t.length ct] 35 (0, 0))) (hrt : Kd.C k72 w At t.length t) (hct : t.length ≤ ct) :
    Calls Try.prog 21 #[.slice A0 ls.length c0, .func (.func 24) #[] #[.pointer (some ⟨B, 0, none⟩)]] w fun e w' => e = .returned (.bool (hasB ls t)) ∧ Below w.heap.size w w' := by
  have HI := Aside0.mk (IndexAcc2 A0 c0 ls B At ct t w hr0 hc0 hm hb hrt hct)
  have HE := Aside0.mk (idx_any (fun x => eqLB x t) ls)
  clear hr0 hm hb hrt
  go_enter Try.func21, Try.ntmps21
  go_wp2_with (go_at_call 39; (with_reducible refine HI.out.mono ?_); rintro e w1 ⟨rfl, hb⟩; have HB := Aside0.mk hb; clear hb)
  go_ret
  exact ⟨by unfold hasB; rw [← HE.out]; rfl, HB.out⟩

/-! ### QuotaAccount in plain words -/
structure InvA (M : Int) (n : Nat) (t : TV) (now : Int) : Prop where
  val : ValT t
  small : SmallT t
  clk : t.clock = now
  mx : t.mx = M
  n1 : now ≤ 1 + 65535 * n
  sum : t.acc + t.rr + t.rs = n
/-- What one offer asks: the tenant before, refilled, behind it; the code; the labels of the operation. -/
structure StepA (t f t' : TV) (cd : Int) (lb : L72) : Prop where
  off : offT t' = offT t + 1
  ok : cd = 0 → t'.acc = t.acc + 1 ∧ t'.level = f.level - 1000 ∧ (lb ≠ [] → hasB t'.ser lb = true)
  no : cd = 22 → (t'.rs ≤ t.rs ∨ (t.rs < t'.rs ∧ hasB t.ser lb = false ∧ lb ≠ [])) ∧ t'.acc = t.acc ∧ ({ t' with rr := t.rr, rs := t.rs } : TV) = f
theorem InvA.step {M : Int} {n : Nat} {t : TV} {now : Int} (h : InvA M n t now) (hn : n < 30) {a : Int} (a0 : 0 ≤ a) (a1 : a ≤ 65535) (o : Option L72) (ho : ∀ l, o = some l → chk l = 0) (ho' : ∀ l, o = some l → l.length ≤ 1000 ∧ Sz 1000 l) (ho2 : ∀ l, o = some l → l ≠ []) :
    InvA M (n + 1) (admT (fillT t (now + a)) o).1 (now + a) ∧ StepA t (fillT t (now + a)) (admT (fillT t (now + a)) o).1 (admT (fillT t (now + a)) o).2 (o.getD []) := by
  have hv := h.val
  have hc := h.clk
  have n1 := h.n1
  have hc0 := hv.c0
  have hF : ValT (fillT t (now + a)) := fill_val hv (by omega) (by omega)
  have hA := adm_val hF ho
  have hS := adm_small hF (fill_small h.small (now + a)) ho'
  have hsum := h.sum
  have ha0 := hv.a0
  have hrr0 := hv.rr0
  have hrs0 := hv.rs0
  have e1 : cntI t.acc = t.acc + 1 := cnt_lt (by omega)
  have e2 : cntI t.rr = t.rr + 1 := cnt_lt (by omega)
  have e3 : cntI t.rs = t.rs + 1 := cnt_lt (by omega)
  have hof : ∀ {x : TV}, ValT x → x.acc + x.rr + x.rs ≤ 31 → offT x = x.acc + x.rr + x.rs := fun hx hb => by
    unfold offT
    rw [if_pos ((val_iff _).2 hx), if_pos (by omega)]
  have ho1 : offT t = n := by rw [hof hv (by omega)]; exact hsum
  have fin : ∀ t' : TV, ValT t' → t'.acc + t'.rr + t'.rs = (n : Int) + 1 → offT t' = offT t + 1 := fun t' hv' hs => by rw [hof hv' (by omega), ho1]; exact hs
  obtain ⟨hs1, hs2⟩ := (serL_iff _).1 hF.ser
  rcases adm_cases (fillT t (now + a)) o with ⟨h1, e⟩ | ⟨h1, h2, e⟩ | ⟨l, h0, h1, h2, h3, e⟩ | ⟨l, h0, h1, h2, h3, e⟩
  all_goals rw [e] at hA hS ⊢
  · skip
    refine ⟨⟨hA, hS, rfl, h.mx, by push_cast; omega, by show t.acc + cntI t.rr + t.rs = ((n + 1 : Nat) : Int); omega⟩, ⟨?_, fun hz => ?_, fun _ => ⟨.inl (Int.le_refl _), rfl, rfl⟩⟩⟩
    · exact fin _ hA (by show t.acc + cntI t.rr + t.rs = (n : Int) + 1; omega)
    · exact absurd hz (show ¬ (22 : Int) = 0 by omega)
  · skip
    refine ⟨⟨hA, hS, rfl, h.mx, by push_cast; omega, by show cntI t.acc + t.rr + t.rs = ((n + 1 : Nat) : Int); omega⟩, ⟨?_, fun _ => ⟨e1, rfl, fun hb => ?_⟩, fun hz => ?_⟩⟩
    · exact fin _ hA (by show cntI t.acc + t.rr + t.rs = (n : Int) + 1; omega)
    · rcases o with _ | l
      · exact absurd rfl hb
      · exact hasB_iff.2 ((hasS_iff hs2 l).1 (h2 l rfl))
    · exact absurd hz (show ¬ (0 : Int) = 22 by omega)
  · subst h0
    refine ⟨⟨hA, hS, rfl, h.mx, by push_cast; omega, by show t.acc + t.rr + cntI t.rs = ((n + 1 : Nat) : Int); omega⟩, ⟨?_, fun hz => ?_, fun _ => ⟨.inr ⟨?_, ?_, ho2 l rfl⟩, rfl, rfl⟩⟩⟩
    · exact fin _ hA (by show t.acc + t.rr + cntI t.rs = (n : Int) + 1; omega)
    · exact absurd hz (show ¬ (22 : Int) = 0 by omega)
    · show t.rs < cntI t.rs; omega
    · have hb : ¬ hasB t.ser l = true := fun hh => h2 ((hasS_iff hs2 l).2 (hasB_iff.1 hh))
      simpa using hb
  · subst h0
    refine ⟨⟨hA, hS, rfl, h.mx, by push_cast; omega, by show cntI t.acc + t.rr + t.rs = ((n + 1 : Nat) : Int); omega⟩, ⟨?_, fun _ => ⟨e1, rfl, fun hb => hasB_iff.2 (insS_mem.2 (.inr rfl))⟩, fun hz => ?_⟩⟩
    · exact fin _ hA (by show cntI t.acc + t.rr + t.rs = (n : Int) + 1; omega)
    · exact absurd hz (show ¬ (0 : Int) = 22 by omega)
theorem InvA.start {M : Int} (t : TV) (hv : ValT t) (hS : SmallT t) (hc : t.clock = 1) (hm : t.mx = M) (h0 : t.acc = 0) (h1 : t.rr = 0) (h2 : t.rs = 0) : InvA M 0 t 1 := ⟨hv, hS, hc, hm, by omega, by rw [h0, h1, h2]; rfl⟩
end Go.Proofs.Ytakobehkajphpaa.H

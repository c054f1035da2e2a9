/- Contracts of IndexFunc under With's closure, and of With. -/
import Derived.Test.YtiooenmbondflaaHInsert2
import Derived.Test.YtiooenmbondflaaHOrd
import Derived.Test.YtiooenmbondflaaH1
import Derived.Test.YtiooenmbondflaaHParse2
namespace Go.Proofs.Ytiooenmbondflaa.H
open Go Go.RowKit Go.Proofs.YtiooenmbondflaaW.PrintWords Go.Proofs.YtiooenmbondflaaW.PrintLast Go.Proofs.YtiooenmbondflaaW.PrintMore Go.Proofs.Ytiooenmbondflaa.PAll
set_option linter.unusedVariables false
set_option linter.unusedSimpArgs false
attribute [local go_sem] HS.run_gtr HS.run_leq HS.run_geq

theorem reps_eq : ∀ (l : L32) (cs : List Value) {R : S32 → List Value → Prop}, (∀ x c, R x c → c = [.string x.f0, .string x.f1]) → Reps R 2 l cs → cs = lcells l
  | [], cs, R, hR, h => by
    have := h.1
    simp at this
    rw [this]; rfl
  | x :: l, cs, R, hR, h => by
    have h0 := hR _ _ (h.2 0 x rfl)
    have hr : Reps R 2 l (cs.drop 2) := ⟨by rw [List.length_drop, h.1]; simp; omega, fun j p hj => by
      have := h.2 (j + 1) p (by simpa using hj)
      rwa [show (j + 1) * 2 = 2 + j * 2 by omega, ← List.drop_drop] at this⟩
    have ih := reps_eq l (cs.drop 2) hR hr
    have e : cs = cs.take 2 ++ cs.drop 2 := (List.take_append_drop 2 cs).symm
    rw [e, ih]
    have h1 : cs.take 2 = [.string x.f0, .string x.f1] := by simpa using h0
    rw [h1]
    simp [lcells]
theorem own_of_RL {W : World} {base : Nat} {ok : Nat → Prop} {v : Value} {l : L32} (h : Kd.R k32 32 W base ok v l) : W.ownsRow base 32 2 v l.length (lcells l) := by
  obtain ⟨_, inner, ho, hr⟩ := h
  have e := reps_eq l inner (fun x c h => k32_openM h) hr
  rw [← e]; exact ho

theorem gtr_eq (a b : List UInt8) : (!Op.bytesLess a b && !(a == b)) = Op.bytesLess b a := by
  cases h1 : Op.bytesLess a b with
  | true => rw [bl_asym a b h1]; rfl
  | false =>
    cases h2 : Op.bytesLess b a with
    | true =>
      have : ¬ a = b := fun e => by rw [e, bl_irr] at h2; cases h2
      simp [this]
    | false =>
      have := bl_total a b h1 h2
      simp [this]

set_option maxRecDepth 100000 in
set_option maxHeartbeats 1000000 in
theorem With1_calls (x : S32) (name : ByteArray) (B : Nat) (w : World) (hb : Boxed w B 9 (.string name)) :
    Calls Try.prog 50 #[.agg #[.string x.f0, .string x.f1], .pointer (some ⟨B, 0, none⟩)] w fun e w' => e = .returned (.bool (ltN name x.f0)) ∧ Below w.heap.size w w' := by
  have hc := (hb.alloc (.cells #[.string x.f0, .string x.f1] 32)).cell
  have HL := Aside0.mk (show (!Op.bytesLess x.f0.toList name.toList && !(x.f0.toList == name.toList)) = ltN name x.f0 by rw [gtr_eq, toList_ab, toList_ab]; rfl)
  have hu := Try.underlying32
  go_enter Try.func50, Try.ntmps50
  go_wp2_with fail
  go_ret
  exact ⟨by rw [← HL.out]; rfl, below_alloc (Below.refl _ _) _⟩

set_option maxRecDepth 100000 in
set_option maxHeartbeats 1000000 in
theorem IndexFunc_with (A0 : Option Addr) (c0 : Nat) (l : L32) (name : ByteArray) (B : Nat) (w : World) (hr0 : Kd.C k32 w A0 l.length l) (hc0 : l.length ≤ c0) (hb : Boxed w B 9 (.string name)) :
    Calls Try.prog 49 #[.slice A0 l.length c0, .func (.func 50) #[] #[.pointer (some ⟨B, 0, none⟩)]] w fun e w' => e = .returned (.int .i64 (idx (fun x => ltN name x.f0) l)) ∧ Below w.heap.size w w' := by
  have HR0 := Aside0.mk hr0
  have HBX := Aside0.mk hb
  have hmax := Kd.C_max hr0
  clear hr0 hb
  have hu := Try.underlying32
  go_enter Try.func49, Try.ntmps49
  go_wp2_with fail
  go_loopg [8] (l.length) (fun kq v8 w' => ∃ j : Nat, v8 = .int .i64 j ∧ j ≤ l.length ∧ Aside0 (kq = l.length - j) ∧ Aside0 (Below w.heap.size w w') ∧ Aside0 (∀ x ∈ l.take j, ltN name x.f0 = false))
  case atStart => exact ⟨0, rfl, by omega, ⟨rfl⟩, ⟨Below.refl _ _⟩, ⟨by simp⟩⟩
  case round =>
    obtain ⟨j, rfl, hj, HK, HB, HF⟩ := hrel
    by_cases hlt : j < l.length
    · obtain ⟨ad, e1, hd0, hd1⟩ := at_T32 (Kd.C_below HR0.out (show Below w.heap.size w wr from HB.out)) (j : Int) (by omega) (by omega)
      cases e1
      rw [rdT_get l j hlt] at hd0 hd1
      simp only [Int.toNat_natCast] at hd0 hd1
      have dl : decide (j < l.length) = true := decide_eq_true hlt
      have ql : ((j : Int) < (l.length : Int)) = True := eq_true (by omega)
      have pl : (0 ≤ (j : Int)) = True := eq_true (by omega)
      have HG := Aside0.mk (With1_calls l[j] name B wr (HBX.out.kept (grown_of_below HB.out none) (by simp)))
      have HX := Aside0.mk (show l[j] = l[j] from rfl)
      generalize hx : l[j] = x at *
      have HX2 := Aside0.mk hx
      clear hx HX
      cases hg : ltN name x.f0 with
      | true =>
        rw [hg] at HG
        have HGG := Aside0.mk hg
        clear hg
        go_wp2_with (go_at_call 50; refine HG.out.mono ?_; rintro e w1 ⟨rfl, hb1⟩)
        go_ret
        refine ⟨?_, HB.out.trans (hb1.mono HB.out.size)⟩
        have h1 := idx_drop (fun x : S32 => ltN name x.f0) l j HF.out hj
        rw [List.drop_eq_getElem_cons hlt, HX2.out] at h1
        simp only [idx, HGG.out, if_true] at h1
        rw [h1]; simp
      | false =>
        rw [hg] at HG
        have HGG := Aside0.mk hg
        clear hg
        go_wp2_with (go_at_call 50; refine HG.out.mono ?_; rintro e w1 ⟨rfl, hb1⟩; have HB1 := Aside0.mk (HB.out.trans (hb1.mono HB.out.size)); clear hb1)
        go_roundg (l.length - (j + 1))
        case measure => have := HK.out; omega
        case rel =>
          refine ⟨j + 1, by simp, by omega, ⟨rfl⟩, HB1, ⟨fun y hy => ?_⟩⟩
          rw [List.take_succ_eq_append_getElem hlt, HX2.out] at hy
          rcases List.mem_append.1 hy with hy | hy
          · exact HF.out y hy
          · rw [List.mem_singleton.1 hy]; exact HGG.out
    · have dl : decide (j < l.length) = false := decide_eq_false hlt
      go_wp2
      go_ret
      refine ⟨?_, HB.out⟩
      have h1 := idx_drop (fun x : S32 => ltN name x.f0) l j HF.out hj
      rw [List.drop_eq_nil_of_le (by omega)] at h1
      simp [idx] at h1
      rw [h1]; rfl
end Go.Proofs.Ytiooenmbondflaa.H

/- The contract of With. -/
import Derived.Test.YtiooenmbondflaaHWith
import Derived.Test.YtiooenmbondflaaHAwake
namespace Go.Proofs.Ytiooenmbondflaa.H
open Go Go.RowKit Go.Proofs.YtiooenmbondflaaW.PrintWords Go.Proofs.YtiooenmbondflaaW.PrintLast Go.Proofs.YtiooenmbondflaaW.PrintMore Go.Proofs.Ytiooenmbondflaa.PAll
set_option linter.unusedVariables false
set_option linter.unusedSimpArgs false

/-- Where the label comes to stand. -/
def atL (name : ByteArray) (r : L32) : Nat := if idx (fun x : S32 => ltN name x.f0) r < 0 then r.length else (idx (fun x : S32 => ltN name x.f0) r).toNat
def withL (l : L32) (name value : ByteArray) : L32 := if ab value = [] then sel [name] false l else insL (sel [name] false l) (atL name (sel [name] false l)) ⟨name, value⟩
theorem idx_le {α : Type} (p : α → Bool) : ∀ l : List α, -1 ≤ idx p l ∧ idx p l < l.length
  | [] => by simp [idx]
  | x :: l => by
    have := idx_le p l
    simp only [idx, List.length_cons]
    split <;> (try split) <;> omega
theorem atL_le (name : ByteArray) (r : L32) : atL name r ≤ r.length := by
  have := idx_le (fun x : S32 => ltN name x.f0) r
  unfold atL; split <;> omega
theorem own_ne {W : World} {base : Nat} {e : TypeId} {sz n : Nat} {v : Value} {xs : List Value} (h : W.ownsRow base e sz v n xs) : v.ownBlock ≠ some W.heap.size := by
  rcases h.2 with ⟨rfl, _⟩ | ⟨g, cap, cur, rfl, _, hg, _⟩
  · simp [Value.ownBlock]
  · intro he
    have := heap_lt hg
    simp [Value.ownBlock] at he
    omega

set_option maxRecDepth 100000 in
set_option maxHeartbeats 4000000 in
theorem With_calls (A0 : Option Addr) (c0 : Nat) (l : L32) (name value : ByteArray) (w : World) (hr0 : Kd.C k32 w A0 l.length l) (hc0 : l.length ≤ c0) (hl : l.length ≤ 1000000) :
    Calls Try.prog 29 #[.slice A0 l.length c0, .string name, .string value] w fun e w' => ∃ v, e = .returned v ∧ Kd.R k32 32 w' w.heap.size (fun _ => True) v (withL l name value) ∧ Below w.heap.size w w' := by
  have HD := Aside0.mk (fun W An (hC : Kd.C Kd.string W An 1 [name]) (h : Below w.heap.size w W) => Drop_calls A0 An c0 1 l [name] W hc0 (by simp) (by simp) (by omega) (Kd.C_below hr0 h) hC)
  have hsl : (sel [name] false l).length ≤ l.length := List.length_filter_le _ _
  have hbx := Boxed.new w 9 (.string name)
  have hcell := hbx.cell
  have HBX := Aside0.mk hbx
  clear hr0 hc0 hbx
  by_cases he : ab value = []
  · have e1 : (value.toList == []) = true := by rw [toList_ab, he]; rfl
    have HW := Aside0.mk (show withL l name value = sel [name] false l by unfold withL; rw [if_pos he])
    clear he
    go_enter Try.func29, Try.ntmps29
    go_wp2_with (go_at_call 23; refine (HD.out _ _ (C_lit_str _ _ (by simp) _) (by repeat (first | exact Below.refl _ _ | apply below_alloc | apply pw_below_drewN | apply below_drew))).mono ?_; rintro e w1 ⟨v, rfl, hR, hb⟩)
    go_ret
    refine ⟨_, rfl, ?_, (show Below w.heap.size w _ by repeat (first | exact Below.refl _ _ | apply below_alloc)).trans (hb.mono (by simp; omega))⟩
    rw [HW.out]
    exact R_of_lcells (own_less (own_of_RL hR) (by simp; omega))
  · have e1 : (value.toList == []) = false := by rw [toList_ab]; simpa using he
    have HW := Aside0.mk (show withL l name value = insL (sel [name] false l) (atL name (sel [name] false l)) ⟨name, value⟩ by unfold withL; rw [if_neg he])
    have HSL := Aside0.mk (show (sel [name] false l).length ≤ 1000000 by omega)
    clear he hsl
    generalize sel [name] false l = r at *
    have hix : idx (fun x : S32 => ltN name x.f0) r < 0 ∧ atL name r = r.length ∨ ∃ k : Nat, idx (fun x : S32 => ltN name x.f0) r = (k : Int) ∧ atL name r = k ∧ k ≤ r.length := by
      have h1 := idx_le (fun x : S32 => ltN name x.f0) r
      by_cases h : idx (fun x : S32 => ltN name x.f0) r < 0
      · exact .inl ⟨h, by unfold atL; rw [if_pos h]⟩
      · exact .inr ⟨(idx (fun x : S32 => ltN name x.f0) r).toNat, by omega, by unfold atL; rw [if_neg h], by omega⟩
    have HIF := Aside0.mk (fun A c W (h1 : Kd.C k32 W A r.length r) (h2 : r.length ≤ c) (h3 : Boxed W w.heap.size 9 (.string name)) => IndexFunc_with A c r name w.heap.size W h1 h2 h3)
    have HIS := Aside0.mk (fun W vb i A c (h1 : w.heap.size ≤ W.heap.size) (h2 : W.ownsRow w.heap.size 32 2 (.slice A r.length c) r.length (lcells r)) (h3 : W.heap[vb]? = some (.cells #[.string name, .string value] 32 (0, 0))) (h4 : (Value.slice A r.length c).ownBlock ≠ some vb) (h5 : i ≤ r.length) => Insert_calls vb w.heap.size i (.slice A r.length c) r ⟨name, value⟩ W h5 (by have := HSL.out; omega) h1 h2 h3 h4)
    rcases hix with ⟨hz, ha⟩ | ⟨k, hz, ha, hk⟩
    · rw [ha] at HW
      generalize idx (fun x : S32 => ltN name x.f0) r = z at *
      have dz : decide (z < 0) = true := decide_eq_true hz
      clear ha
      go_enter Try.func29, Try.ntmps29
      go_wp2_with (first
        | (go_at_call 23; refine (HD.out _ _ (C_lit_str _ _ (by simp) _) (by repeat (first | exact Below.refl _ _ | apply below_alloc | apply pw_below_drewN | apply below_drew))).mono ?_; rintro e w1 ⟨v, rfl, hR, hb⟩; have hO := own_less (base := w.heap.size) (own_of_RL hR) (by simp; omega); obtain ⟨A, c, rfl, hlc, hC⟩ := Kd.R_reads hR; have HO := Aside0.mk hO; have HC := Aside0.mk (And.intro hlc hC); have hbx1 := (HBX.out.alloc (.cells #[.string name] 9)).kept (grown_of_below hb none) (by simp); have HBX1 := Aside0.mk hbx1; have HB1 := Aside0.mk ((show Below w.heap.size w _ by repeat (first | exact Below.refl _ _ | apply below_alloc)).trans (hb.mono (by simp; omega))); clear hb hR hO hlc hC hbx1)
        | (go_at_call 49; refine (HIF.out _ _ _ HC.out.2 HC.out.1 HBX1.out).mono ?_; rintro e w2 ⟨rfl, hb⟩; have hc2 := (HBX1.out.kept (grown_of_below hb none) (by simp)).cell; have HO2 := Aside0.mk (pw_own_below HO.out hb); have HB2 := Aside0.mk (HB1.out.trans (hb.mono HB1.out.size)); clear hb)
        | (go_at_call 51; refine (HIS.out _ w2.heap.size r.length _ _ (by have := HB2.out.size; simp; omega) (HO2.out.alloc _) (heap_alloc_new w2 _) (own_ne HO2.out) (Nat.le_refl _)).mono ?_; rintro e w5 ⟨v5, rfl, hb, ho⟩; have HO5 := Aside0.mk ho; have HB5 := Aside0.mk ((below_alloc HB2.out _).trans hb); clear hb ho))
      go_ret
      rw [HW.out]
      exact ⟨_, rfl, R_of_lcells HO5.out, HB5.out⟩
    · rw [ha] at HW
      have HK := Aside0.mk hk
      rw [hz] at HIF
      have dz : decide ((k : Int) < 0) = false := decide_eq_false (by omega)
      clear ha hz hk
      go_enter Try.func29, Try.ntmps29
      go_wp2_with (first
        | (go_at_call 23; refine (HD.out _ _ (C_lit_str _ _ (by simp) _) (by repeat (first | exact Below.refl _ _ | apply below_alloc | apply pw_below_drewN | apply below_drew))).mono ?_; rintro e w1 ⟨v, rfl, hR, hb⟩; have hO := own_less (base := w.heap.size) (own_of_RL hR) (by simp; omega); obtain ⟨A, c, rfl, hlc, hC⟩ := Kd.R_reads hR; have HO := Aside0.mk hO; have HC := Aside0.mk (And.intro hlc hC); have hbx1 := (HBX.out.alloc (.cells #[.string name] 9)).kept (grown_of_below hb none) (by simp); have HBX1 := Aside0.mk hbx1; have HB1 := Aside0.mk ((show Below w.heap.size w _ by repeat (first | exact Below.refl _ _ | apply below_alloc)).trans (hb.mono (by simp; omega))); clear hb hR hO hlc hC hbx1)
        | (go_at_call 49; refine (HIF.out _ _ _ HC.out.2 HC.out.1 HBX1.out).mono ?_; rintro e w2 ⟨rfl, hb⟩; have hc2 := (HBX1.out.kept (grown_of_below hb none) (by simp)).cell; have HO2 := Aside0.mk (pw_own_below HO.out hb); have HB2 := Aside0.mk (HB1.out.trans (hb.mono HB1.out.size)); clear hb)
        | (go_at_call 51; refine (HIS.out _ w2.heap.size k _ _ (by have := HB2.out.size; simp; omega) (HO2.out.alloc _) (heap_alloc_new w2 _) (own_ne HO2.out) HK.out).mono ?_; rintro e w5 ⟨v5, rfl, hb, ho⟩; have HO5 := Aside0.mk ho; have HB5 := Aside0.mk ((below_alloc HB2.out _).trans hb); clear hb ho))
      go_ret
      rw [HW.out]
      exact ⟨_, rfl, R_of_lcells HO5.out, HB5.out⟩
end Go.Proofs.Ytiooenmbondflaa.H

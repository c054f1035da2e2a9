/- Rows of slices of the call's own: slices.Clone and slices.Reverse of a slice of slices. -/
import Derived.Test.YtgpkpeefbkcjeaaKTree
import Derived.OwnWalk
import Derived.WalkSpells
import Derived.Lib.LazyBuf
import Derived.Maps.AppendAt
import Derived.RegionTactic
import Derived.ChangeAlike
namespace Go.Proofs.Ytgpkpeefbkcjeaa.H
open Go Go.RowKit Go.Proofs.YtgpkpeefbkcjeaaW.PrintWords Go.Proofs.YtgpkpeefbkcjeaaW.PrintLast Go.Proofs.YtgpkpeefbkcjeaaW.PrintMore Go.Proofs.Ytgpkpeefbkcjeaa.PAll
set_option linter.unusedVariables false
set_option linter.unusedSimpArgs false

/-- Values that are slices which read as some lists. -/
def RawS (w : World) (vs : List Value) (ls : List L49) : Prop := vs.length = ls.length ∧ ∀ i (h : i < ls.length), ∃ A c, vs[i]? = some (.slice A ls[i].length c) ∧ ls[i].length ≤ c ∧ Kd.C k49 w A ls[i].length ls[i]
theorem RawS.below {w w' : World} {vs : List Value} {ls : List L49} (h : RawS w vs ls) (hb : Below w.heap.size w w') : RawS w' vs ls :=
  ⟨h.1, fun i hi => by obtain ⟨A, c, e, hl, hC⟩ := h.2 i hi; exact ⟨A, c, e, hl, Kd.C_below hC hb⟩⟩
theorem RawS.reverse {w : World} {vs : List Value} {ls : List L49} (h : RawS w vs ls) : RawS w vs.reverse ls.reverse :=
  ⟨by simp [h.1], fun i hi => by
    rw [List.length_reverse] at hi
    obtain ⟨A, c, e, hl, hC⟩ := h.2 (ls.length - 1 - i) (by omega)
    have e1 : ls.reverse[i]'(by simpa using hi) = ls[ls.length - 1 - i] := by rw [List.getElem_reverse]
    rw [e1]
    refine ⟨A, c, ?_, hl, hC⟩
    rw [List.getElem?_reverse (by rw [h.1]; exact hi), h.1]
    exact e⟩
theorem raw_of_C {w : World} {ad : Addr} {ls : List L49} (h : Kd.C kLM w (some ad) ls.length ls) : ∃ vs, RawS w vs ls ∧ ∀ j u, vs[j]? = some u → w.cell? (ad.add j) = some u := by
  have key : ∀ i : Fin ls.length, ∃ v, w.cell? (ad.add i) = some v ∧ ∃ A c, v = .slice A (ls[i.1]'i.2).length c ∧ (ls[i.1]'i.2).length ≤ c ∧ Kd.C k49 w A (ls[i.1]'i.2).length (ls[i.1]'i.2) := fun i => by
    obtain ⟨ad', A', c', e1, hcell, hle, hC⟩ := slice_at h i.1 i.2
    cases e1
    exact ⟨_, hcell, A', c', rfl, hle, hC⟩
  refine ⟨List.ofFn fun i => Classical.choose (key i), ⟨by simp, fun i hi => ?_⟩, fun j u hj => ?_⟩
  · obtain ⟨_, A, c, e, hl, hC⟩ := Classical.choose_spec (key ⟨i, hi⟩)
    refine ⟨A, c, ?_, hl, hC⟩
    rw [List.getElem?_ofFn, dif_pos hi, e]
  · rw [List.getElem?_ofFn] at hj
    by_cases hi : j < ls.length
    · rw [dif_pos hi] at hj
      obtain ⟨h1, _⟩ := Classical.choose_spec (key ⟨j, hi⟩)
      rw [← Option.some.inj hj]
      exact h1
    · rw [dif_neg hi] at hj; cases hj
theorem C_of_raw {w : World} {base : Nat} {v : Value} {vs : List Value} {ls : List L49} (hown : w.ownsRow base 45 1 v ls.length vs) (h : RawS w vs ls) : ∃ A c, v = .slice A ls.length c ∧ ls.length ≤ c ∧ Kd.C kLM w A ls.length ls := by
  rcases hown.2 with ⟨rfl, h0⟩ | ⟨g, cap, cur, rfl, hbg, hg, hle, hcm, hsz, htk⟩
  · have e : ls = [] := List.eq_nil_of_length_eq_zero h0
    subst e
    exact ⟨none, 0, rfl, Nat.le_refl _, Kd.C_nil _ _⟩
  · refine ⟨_, _, rfl, hle, rfl, by unfold maxLen at hcm; omega, fun _ => ⟨_, rfl, fun j p hj => ?_⟩⟩
    obtain ⟨hlt, hp⟩ := List.getElem?_eq_some_iff.1 hj
    obtain ⟨A, c, e, hl, hC⟩ := h.2 j hlt
    rw [hp] at e hl hC
    refine ⟨[.slice A p.length c], rfl, ⟨A, c, rfl, hl, hC⟩, fun i u hu => ?_⟩
    rcases i with _ | i
    · simp at hu
      subst hu
      rw [add_plain]
      refine cell_of_heap hg _ _ ?_
      rw [← Array.getElem?_toList, ← e, ← htk, List.getElem?_take]
      show _ = if j < ls.length * 1 then _ else _
      rw [if_pos (by omega)]
      congr 1
      show _ = _
      simp [kLM, Kd.slice]
    · simp at hu
theorem raw_one {w : World} {vs : List Value} {ls : List L49} (h : RawS w vs ls) : ∀ v ∈ vs, v.oneCell' = true := fun v hv => by
  obtain ⟨i, hi, e⟩ := List.mem_iff_getElem.1 hv
  obtain ⟨A, c, e2, _⟩ := h.2 i (by rw [← h.1]; exact hi)
  rw [List.getElem?_eq_getElem hi, e] at e2
  cases e2
  rfl
theorem own_emptyT (w : World) (T : TypeId) : (w.alloc (.cells #[] T)).ownsRow w.heap.size T 1 (.slice (some ⟨w.heap.size, 0, none⟩) 0 0) 0 [] :=
  ⟨by simp, .inr ⟨w.heap.size, 0, #[], rfl, Nat.le_refl _, heap_alloc_new w _, Nat.le_refl _, by unfold maxLen; omega, by simp, by simp⟩⟩
theorem infoLL : (Try.prog.info? 45).map (fun i => (i.zero, i.size, i.bytes)) = some (some (.slice none 0 0), 1, 24) := by kernel_rfl

set_option maxRecDepth 100000 in
set_option maxHeartbeats 4000000 in
theorem CloneLL_calls (A : Option Addr) (c : Nat) (ls : List L49) (w : World) (hr : Kd.C kLM w A ls.length ls) (hc : ls.length ≤ c) (hp : 0 < ls.length) (hl : ls.length ≤ 1000) :
    Calls Try.prog 29 #[.slice A ls.length c] w fun e w' => ∃ v vs, e = .returned v ∧ w'.ownsRow w.heap.size 45 1 v ls.length vs ∧ RawS w vs ls ∧ Below w.heap.size w w' := by
  obtain ⟨i0, hi, hz0, hz1, hz2⟩ := info_parts infoLL
  obtain ⟨ad, A', c', rfl, _⟩ := slice_at hr 0 hp
  obtain ⟨vs, hraw, hcell⟩ := raw_of_C hr
  have hcs := Aside0.mk hcell
  have HRW := Aside0.mk hraw
  have hnil : ∀ w, (binOp .eql 43 (.slice (some ad) ls.length c) (.slice none 0 0)).run Try.prog w = .ok (.bool false) w := fun w => Lib.run_eql_slice_nil w 43 45 (some ad) ls.length c 0 0 Try.underlying43
  have HLN := Aside0.mk hraw.1
  clear hr hcell hraw
  go_enter Try.func29, Try.ntmps29
  go_wp2_with (at_builtin; refine wpList_append_own _ rfl _ _ 43 rfl w.heap.size 45 i0 (.slice none 0 0) 1 24 Try.underlying43 hi hz0 hz1 hz2 rfl (by decide) _ 0 [] rfl (own_emptyT w _) ad ls.length c vs rfl (by rw [HLN.out]; simp) (fun j u hu => ((below_alloc (Below.refl _ w) _).cell (World.block_lt_of_cell? w _ (hcs.out j u hu))).trans (hcs.out j u hu)) (raw_one HRW.out) (by unfold maxLen; omega) (by omega) (by simp) ?_; intro v' w1 hown' hgrow _)
  go_ret
  have hB := (below_alloc (Below.refl _ w) _).grown hgrow (by simp) (fun k hk => by cases hk; exact Nat.le_refl _)
  exact ⟨_, vs, rfl, by simpa using hown', HRW.out, hB⟩

/-- How far a row has been turned round. -/
def Turned (vs us : List Value) (i j : Nat) : Prop := us.length = vs.length ∧ ∀ k, k < vs.length → us[k]? = if k < i ∨ j < k then vs[vs.length - 1 - k]? else vs[k]?
theorem Turned.start (vs : List Value) (h : 0 < vs.length) : Turned vs vs 0 (vs.length - 1) := ⟨rfl, fun k hk => by rw [if_neg (by omega)]⟩
theorem Turned.step {vs us : List Value} {i j : Nat} (h : Turned vs us i j) (he : i + j + 1 = vs.length) (hij : i < j) {a b : Value} (ha : us[i]? = some a) (hb : us[j]? = some b) : Turned vs ((us.set i b).set j a) (i + 1) (j - 1) := by
  have ha' := h.2 i (by omega)
  rw [if_neg (by omega), ha] at ha'
  have hb' := h.2 j (by omega)
  rw [if_neg (by omega), hb] at hb'
  refine ⟨by simp [h.1], fun k hk => ?_⟩
  by_cases e1 : k = j
  · subst e1
    rw [List.getElem?_set_self (by simp [h.1]; omega), if_pos (by omega), ha', show vs.length - 1 - k = i by omega]
  · rw [List.getElem?_set_ne (by omega)]
    by_cases e2 : k = i
    · subst e2
      rw [List.getElem?_set_self (by rw [h.1]; omega), if_pos (by omega), hb', show vs.length - 1 - k = j by omega]
    · rw [List.getElem?_set_ne (by omega), h.2 k hk]
      by_cases e3 : k < i ∨ j < k
      · rw [if_pos e3, if_pos (by omega)]
      · rw [if_neg e3, if_neg (by omega)]
theorem Turned.done {vs us : List Value} {i j : Nat} (h : Turned vs us i j) (he : i + j + 1 = vs.length) (hij : ¬ i < j) : us = vs.reverse := by
  refine List.ext_getElem? fun k => ?_
  by_cases hk : k < vs.length
  · rw [h.2 k hk, List.getElem?_reverse hk]
    by_cases e3 : k < i ∨ j < k
    · rw [if_pos e3]
    · rw [if_neg e3, show vs.length - 1 - k = k by omega]
  · rw [List.getElem?_eq_none (by rw [h.1]; omega), List.getElem?_eq_none (by simp; omega)]

theorem own_cellT {W : World} {base g n cap : Nat} {T : TypeId} {us : List Value} (h : W.ownsRow base T 1 (.slice (some ⟨g, 0, none⟩) n cap) n us) (i : Nat) (hi : i < n) : ∃ a, us[i]? = some a ∧ W.cell? ⟨g, i, none⟩ = some a ∧ W.frozen? ⟨g, i, none⟩ = false := by
  rcases h.2 with ⟨e, _⟩ | ⟨g', cap', cur, e, hbg, hg, hle, hcm, hsz, htk⟩
  · cases e
  · cases e
    have hlen := h.1
    have hlt : i < us.length := by omega
    refine ⟨us[i], List.getElem?_eq_getElem hlt, cell_of_heap hg _ _ ?_, by simp [World.frozen?, hg]⟩
    rw [← Array.getElem?_toList, ← List.getElem?_eq_getElem hlt, ← htk, List.getElem?_take, if_pos (by omega)]

theorem raw_sl {w : World} {vs : List Value} {ls : List L49} (h : RawS w vs ls) : ∀ v ∈ vs, ∃ A l c, v = .slice A l c := fun v hv => by
  obtain ⟨i, hi, e⟩ := List.mem_iff_getElem.1 hv
  obtain ⟨A, c, e2, _⟩ := h.2 i (by rw [← h.1]; exact hi)
  rw [List.getElem?_eq_getElem hi, e] at e2
  cases e2
  exact ⟨_, _, _, rfl⟩
set_option maxRecDepth 100000 in
set_option maxHeartbeats 4000000 in
theorem ReverseLL_calls (g n cap base : Nat) (vs : List Value) (w : World) (h : w.ownsRow base 45 1 (.slice (some ⟨g, 0, none⟩) n cap) n vs) (hn : 0 < n) (hn1 : n ≤ 1000) (hc : n ≤ cap) (hsl : ∀ v ∈ vs, ∃ A l c, v = .slice A l c) :
    Calls Try.prog 30 #[.slice (some ⟨g, 0, none⟩) n cap] w fun e w' => (∃ v, e = .returned v) ∧ w'.ownsRow base 45 1 (.slice (some ⟨g, 0, none⟩) n cap) n vs.reverse ∧ w.grownBy w' (some g) := by
  have HR := Aside0.mk h
  have HSL := Aside0.mk hsl
  clear hsl
  have HLV := Aside0.mk (show vs.length = n by have := h.1; omega)
  clear h
  go_enter Try.func30, Try.ntmps30
  go_wp2_with fail
  go_loopg [2, 3] (n) (fun kq v2 v3 w' => ∃ (i j : Nat) (us : List Value), v2 = .int .i64 i ∧ v3 = .int .i64 j ∧ i ≤ n ∧ j ≤ n ∧ Aside0 (i + j + 1 = n) ∧ Aside0 (kq = n - i) ∧ Aside0 (w'.ownsRow base 45 1 (.slice (some ⟨g, 0, none⟩) n cap) n us) ∧ Aside0 (Turned vs us i j) ∧ Aside0 (w.grownBy w' (some g)))
  case atStart => exact ⟨0, n - 1, vs, rfl, by rw [show ((n - 1 : Nat) : Int) = (n : Int) - 1 by omega], by omega, by omega, ⟨by omega⟩, ⟨rfl⟩, HR, ⟨by have := Turned.start vs (by rw [HLV.out]; exact hn); rwa [HLV.out] at this⟩, ⟨World.grownBy.refl _ _⟩⟩
  case round =>
    obtain ⟨i, j, us, rfl, rfl, hi, hj, HE, HK, HRW, HT, HG⟩ := hrel
    by_cases hlt : i < j
    · have hjn : j < n := by have := HE.out; omega
      have hin : i < n := by omega
      obtain ⟨a, ha, hca, hfa⟩ := own_cellT HRW.out i hin
      obtain ⟨b, hb, hcb, hfb⟩ := own_cellT HRW.out j hjn
      obtain ⟨A1, l1, c1, rfl⟩ := HSL.out a (by
        have h1 := HT.out.2 i (by rw [HLV.out]; exact hin)
        rw [if_neg (by omega), ha] at h1
        exact List.mem_of_getElem? h1.symm)
      obtain ⟨A2, l2, c2, rfl⟩ := HSL.out b (by
        have h1 := HT.out.2 j (by rw [HLV.out]; exact hjn)
        rw [if_neg (by omega), hb] at h1
        exact List.mem_of_getElem? h1.symm)
      have HS := Aside0.mk (HT.out.step (by rw [HLV.out]; exact HE.out) hlt ha hb)
      have dl : decide ((i : Int) < (j : Int)) = true := decide_eq_true (by omega)
      have dl2 : decide (i < j) = true := decide_eq_true (by omega)
      have p0 : (0 ≤ (i : Int)) = True := eq_true (by omega)
      have p1 : (0 ≤ (j : Int)) = True := eq_true (by omega)
      have p2 : ((i : Int) < (n : Int)) = True := eq_true (by omega)
      have p3 : ((j : Int) < (n : Int)) = True := eq_true (by omega)
      have q1 := HRW.out.stored i (.slice A2 l2 c2)
      have q2 := q1.1.stored j (.slice A1 l1 c1)
      have HQ1 := Aside0.mk q1
      have HQ2 := Aside0.mk q2
      obtain ⟨z, _, hz, hfb2⟩ := own_cellT q1.1 j hjn
      have hcb2 : (wr.setCell ⟨g, i, none⟩ (.slice A2 l2 c2)).cell? ⟨g, j, none⟩ = some (.slice A2 l2 c2) := by
        rw [World.cell?_setCell_other _ _ _ _ (by intro e; injection e; omega)]
        exact hcb
      clear ha hb q1 q2
      go_wp2_with fail
      go_region
      go_wp2
      go_roundg (n - (i + 1))
      case measure => have := HK.out; omega
      case rel => exact ⟨i + 1, j - 1, _, by simp, by rw [show ((j - 1 : Nat) : Int) = (j : Int) - 1 by omega], by omega, by omega, ⟨by have := HE.out; omega⟩, ⟨rfl⟩, ⟨HQ2.out.1⟩, HS, ⟨(HG.out.trans (HQ1.out.2.trans HQ2.out.2)).trans (grown_of_below (below_drew (Below.refl _ _)) _)⟩⟩
    · have HD := Aside0.mk (HT.out.done (by rw [HLV.out]; exact HE.out) hlt)
      have dl : decide ((i : Int) < (j : Int)) = false := decide_eq_false (by omega)
      have dl2 : decide (i < j) = false := decide_eq_false hlt
      go_wp2_with fail
      go_end0
      exact ⟨⟨_, rfl⟩, by rw [← HD.out]; exact HRW.out, HG.out⟩
theorem own_formT {w : World} {base n : Nat} {T : TypeId} {v : Value} {us : List Value} (h : w.ownsRow base T 1 v n us) (hp : 0 < n) : ∃ g cap, v = .slice (some ⟨g, 0, none⟩) n cap ∧ base ≤ g ∧ n ≤ cap := by
  rcases h.2 with ⟨_, h0⟩ | ⟨g, cap, cur, rfl, hbg, hg, hle, _⟩
  · omega
  · exact ⟨g, cap, rfl, hbg, hle⟩
theorem C_rev {w : World} {base g cap : Nat} {vs : List Value} {ls : List L49} (hown : w.ownsRow base 45 1 (.slice (some ⟨g, 0, none⟩) ls.length cap) ls.length vs.reverse) (h : RawS w vs ls) : Kd.C kLM w (some ⟨g, 0, none⟩) ls.length ls.reverse := by
  have e : ls.reverse.length = ls.length := List.length_reverse
  obtain ⟨A, c, e1, _, hC⟩ := C_of_raw (ls := ls.reverse) (by rw [e]; exact hown) h.reverse
  rw [e] at e1 hC
  cases e1
  exact hC
end Go.Proofs.Ytgpkpeefbkcjeaa.H

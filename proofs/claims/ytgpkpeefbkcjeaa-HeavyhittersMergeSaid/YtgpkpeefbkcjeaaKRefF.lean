/- What the reference's put, greatest and shortened come to. -/
import Derived.Test.YtgpkpeefbkcjeaaKRead2
import Derived.Test.YtgpkpeefbkcjeaaPF4
namespace Go.Proofs.Ytgpkpeefbkcjeaa.H
open Go Go.RowKit Go.Proofs.YtgpkpeefbkcjeaaW.PrintWords Go.Proofs.YtgpkpeefbkcjeaaW.PrintLast Go.Proofs.YtgpkpeefbkcjeaaW.PrintMore Go.Proofs.Ytgpkpeefbkcjeaa.PAll
set_option linter.unusedVariables false
set_option linter.unusedSimpArgs false

theorem rput_l0 (l : L58) (key : ByteArray) (n : Int) (hl : l.length ≤ 1000) (hb : ∀ y ∈ l, 0 ≤ y.f1 ∧ y.f1 ≤ 4398046511104) (hn : 0 ≤ n ∧ n ≤ 4398046511104) : ∀ (d k j : Nat), l.length - j = d → d < k → j ≤ l.length →
    lookoutref32_put.l0 k l key n (j : Int) = some (l.take j ++ putK (l.drop j) key n) := by
  intro d
  induction d with
  | zero =>
    intro k j hd hk hj
    obtain ⟨k, rfl⟩ : ∃ m, k = m + 1 := ⟨k - 1, by omega⟩
    simp only [lookoutref32_put.l0, Option.bind_some]
    have hjl : j = l.length := by omega
    rw [if_neg (by omega), if_pos (by omega), if_pos (by omega), if_pos (by simp; omega), if_pos (by simp; omega), if_pos (by simp; omega)]
    simp [hjl, putK]
  | succ d ih =>
    intro k j hd hk hj
    obtain ⟨k, rfl⟩ : ∃ m, k = m + 1 := ⟨k - 1, by omega⟩
    have hlt : j < l.length := by omega
    have hx := hb l[j] (List.getElem_mem hlt)
    simp only [lookoutref32_put.l0, Option.bind_some]
    rw [if_pos (by omega), if_pos (by omega), rdT_get l j hlt, toList_ab, toList_ab, List.drop_eq_getElem_cons hlt]
    simp only [putK]
    by_cases h1 : ltK l[j].f0 key = true
    · rw [if_pos (show Op.bytesLess (ab l[j].f0) (ab key) = true from h1), if_pos h1, wrap1 j (by omega), ih k (j + 1) (by omega) (by omega) (by omega), List.take_succ_eq_append_getElem hlt, List.append_assoc]
      rfl
    · rw [if_neg (show ¬ Op.bytesLess (ab l[j].f0) (ab key) = true from h1), if_neg h1]
      by_cases h2 : l[j].f0 = key
      · rw [if_pos (ab_iff.2 h2), if_pos h2, if_pos (by simp; omega), if_pos (by simp; omega)]
        simp only [List.nil_append, Int.toNat_natCast]
        rw [rdT_get l j hlt, show wrap64 (l[j].f1 + n) = l[j].f1 + n by unfold wrap64; omega]
        congr 1
        rw [List.set_eq_take_append_cons_drop, if_pos hlt]
      · rw [if_neg (fun e => h2 (ab_iff.1 e)), if_neg h2, if_pos (by omega), if_pos (by simp; omega), if_pos (by simp; omega), if_pos (by simp; omega)]
        simp only [List.nil_append, Int.toNat_natCast, List.append_assoc, List.singleton_append]
        rw [List.drop_eq_getElem_cons hlt]
theorem rput_f (l : L58) (key : ByteArray) (n : Int) (hl : l.length ≤ 1000) (hb : ∀ y ∈ l, 0 ≤ y.f1 ∧ y.f1 ≤ 4398046511104) (hn : 0 ≤ n ∧ n ≤ 4398046511104) : lookoutref32_put.f (l.length + 1) l key n = some (putK l key n) := by
  have := rput_l0 l key n hl hb hn l.length (l.length + 1) 0 (by omega) (by omega) (by omega)
  simpa [lookoutref32_put.f] using this

theorem rd_nat (l : List Int) (j : Nat) (h : j < l.length) : rd l (j : Int) = l[j] := by simp [rd, List.getD_eq_getElem?_getD, List.getElem?_eq_getElem h]
theorem rgreat_l1 (l : L58) (p : Int) (counts : List Int) (i : Nat) (r : Int) (hl : l.length ≤ 1000) (hcl : counts.length ≤ 1000) (hi : i < l.length) : ∀ (d j : Nat), counts.length - j = d → j ≤ counts.length →
    (∃ N, ∀ k, N ≤ k → lookoutref32_greatest.l0 k l p (counts.take j ++ insD l[i].f1 (counts.drop j)) ((i : Int) + 1) = some r) → ∃ N, ∀ k, N ≤ k → lookoutref32_greatest.l1 k l p counts (i : Int) (j : Int) = some r := by
  intro d
  induction d with
  | zero =>
    intro j hd hj h
    obtain ⟨N, hN⟩ := h
    refine ⟨N + 1, fun k hk => ?_⟩
    obtain ⟨k, rfl⟩ : ∃ m, k = m + 1 := ⟨k - 1, by omega⟩
    have hjl : j = counts.length := by omega
    have := hN k (by omega)
    simp only [lookoutref32_greatest.l1, Option.bind_some]
    rw [if_neg (by omega), if_pos (by omega), if_pos (by omega), if_pos (by simp; omega), if_pos (by omega), if_pos (by omega), if_pos (by simp; omega), if_pos (by simp; omega), rdT_get l i hi, show wrap64 ((i : Int) + 1) = (i : Int) + 1 by unfold wrap64; omega]
    simpa [hjl, insD] using this
  | succ d ih =>
    intro j hd hj h
    have hlt : j < counts.length := by omega
    rw [List.drop_eq_getElem_cons hlt] at h
    simp only [insD] at h
    by_cases hc : l[i].f1 ≤ counts[j]
    · rw [if_pos hc] at h
      obtain ⟨N, hN⟩ := ih (j + 1) (by omega) (by omega) (by
        rw [List.take_succ_eq_append_getElem hlt, List.append_assoc]
        exact h)
      refine ⟨N + 1, fun k hk => ?_⟩
      obtain ⟨k, rfl⟩ : ∃ m, k = m + 1 := ⟨k - 1, by omega⟩
      simp only [lookoutref32_greatest.l1]
      rw [if_pos (by omega), if_pos (by omega), if_pos (by omega), if_pos (by omega), rd_nat counts j hlt, rdT_get l i hi, if_pos (by omega), wrap1 j (by omega)]
      exact hN k (by omega)
    · rw [if_neg hc, ← List.drop_eq_getElem_cons hlt] at h
      obtain ⟨N, hN⟩ := h
      refine ⟨N + 1, fun k hk => ?_⟩
      obtain ⟨k, rfl⟩ : ∃ m, k = m + 1 := ⟨k - 1, by omega⟩
      have := hN k (by omega)
      simp only [lookoutref32_greatest.l1, Option.bind_some]
      rw [if_pos (by omega), if_pos (by omega), if_pos (by omega), if_pos (by omega), rd_nat counts j hlt, rdT_get l i hi, if_neg (by omega), if_pos (by omega), if_pos (by simp; omega), if_pos (by simp; omega), if_pos (by simp; omega), show wrap64 ((i : Int) + 1) = (i : Int) + 1 by unfold wrap64; omega]
      simpa using this
theorem insD_len (c : Int) (l : List Int) : (insD c l).length = l.length + 1 := (insD_perm c l).length_eq
theorem rgreat_l0 (l : L58) (p : Nat) (hl : l.length ≤ 1000) (hp : p < l.length) : ∀ (d i : Nat) (counts : List Int), l.length - i = d → i ≤ l.length → counts.length = i →
    ∃ N, ∀ k, N ≤ k → lookoutref32_greatest.l0 k l (p : Int) counts (i : Int) = some (((l.drop i).foldl (fun a x => insD x.f1 a) counts)[p]?.getD 0) := by
  intro d
  induction d with
  | zero =>
    intro i counts hd hi hc
    refine ⟨1, fun k hk => ?_⟩
    obtain ⟨k, rfl⟩ : ∃ m, k = m + 1 := ⟨k - 1, by omega⟩
    simp only [lookoutref32_greatest.l0]
    rw [if_neg (by omega), if_pos (by omega), if_pos (by omega), rd_nat counts p (by omega), List.drop_eq_nil_of_le (by omega)]
    simp [List.getElem?_eq_getElem (show p < counts.length by omega)]
  | succ d ih =>
    intro i counts hd hi hc
    have hlt : i < l.length := by omega
    obtain ⟨N, hN⟩ := rgreat_l1 l (p : Int) counts i _ hl (by omega) hlt counts.length 0 (by omega) (by omega) (by
      have := ih (i + 1) (insD l[i].f1 counts) (by omega) (by omega) (by rw [insD_len]; omega)
      simpa using this)
    refine ⟨N + 1, fun k hk => ?_⟩
    obtain ⟨k, rfl⟩ : ∃ m, k = m + 1 := ⟨k - 1, by omega⟩
    simp only [lookoutref32_greatest.l0]
    rw [if_pos (by omega), List.drop_eq_getElem_cons hlt]
    exact hN k (by omega)
theorem rgreat_f (l : L58) (p : Nat) (hl : l.length ≤ 1000) (hp : p < l.length) : ∃ N, ∀ k, N ≤ k → lookoutref32_greatest.f k l (p : Int) = some (gr l p) := by
  have := rgreat_l0 l p hl hp l.length 0 [] (by omega) (by omega) rfl
  simpa [lookoutref32_greatest.f, gr, srtD] using this

theorem cutI_snoc (v : Int) (l : L58) (x : S58) : cutI v (l ++ [x]) = if v < x.f1 then cutI v l ++ [⟨x.f0, x.f1 - v⟩] else cutI v l := by
  unfold cutI
  rw [List.filter_append, List.map_append]
  by_cases h : v < x.f1
  · rw [if_pos h]; simp [h]
  · rw [if_neg h]; simp [h]
theorem rshort_l1 (v K T L : Int) (l : L58) (r : Int × Int × Int × L58) (hl : l.length ≤ 1000) (hv : 1 ≤ v ∧ v ≤ 4398046511104) (hb : ∀ y ∈ l, 0 ≤ y.f1 ∧ y.f1 ≤ 4398046511104) (hL : 0 ≤ L ∧ L ≤ 4398046511104)
    (h : ∃ N, ∀ k, N ≤ k → lookoutref32_shortened.l0 k K T (L + v) (cutI v l) = some r) : ∀ (d j : Nat), l.length - j = d → j ≤ l.length → ∃ N, ∀ k, N ≤ k → lookoutref32_shortened.l1 k v (cutI v (l.take j)) (j : Int) K T L l = some r := by
  intro d
  induction d with
  | zero =>
    intro j hd hj
    obtain ⟨N, hN⟩ := h
    refine ⟨N + 1, fun k hk => ?_⟩
    obtain ⟨k, rfl⟩ : ∃ m, k = m + 1 := ⟨k - 1, by omega⟩
    simp only [lookoutref32_shortened.l1]
    rw [if_neg (by omega), List.take_of_length_le (by omega), show wrap64 (L + v) = L + v by unfold wrap64; omega]
    exact hN k (by omega)
  | succ d ih =>
    intro j hd hj
    have hlt : j < l.length := by omega
    have hx := hb l[j] (List.getElem_mem hlt)
    obtain ⟨N, hN⟩ := ih (j + 1) (by omega) (by omega)
    rw [List.take_succ_eq_append_getElem hlt, cutI_snoc] at hN
    have hcl : (cutI v (l.take j)).length ≤ 1000 := by
      rw [cutI_len]
      have := List.countP_le_length (p := fun x : S58 => decide (v < x.f1)) (l := l.take j)
      rw [List.length_take] at this
      omega
    refine ⟨N + 1, fun k hk => ?_⟩
    obtain ⟨k, rfl⟩ : ∃ m, k = m + 1 := ⟨k - 1, by omega⟩
    have := hN k (by omega)
    simp only [lookoutref32_shortened.l1]
    rw [if_pos (by omega), if_pos (by omega), rdT_get l j hlt, wrap1 j (by omega)]
    by_cases hc : v < l[j].f1
    · rw [if_pos hc] at this
      rw [if_pos hc, if_pos (by omega), show wrap64 (l[j].f1 - v) = l[j].f1 - v by unfold wrap64; omega]
      exact this
    · rw [if_neg hc] at this
      rw [if_neg hc]
      exact this
theorem rshort_f (K T L : Int) (l : L58) (hK : 2 ≤ K) (hK1 : K ≤ 100) (hs : Srt l) (hp : Pos l) (hl : l.length ≤ 1000) (hb : ∀ y ∈ l, 0 ≤ y.f1 ∧ y.f1 ≤ 4398046511104) (hL : 0 ≤ L ∧ L ≤ 4398046511104) :
    ∃ N, ∀ k, N ≤ k → lookoutref32_shortened.f k K T L l = some (K, T, (shrt K l L).2, (shrt K l L).1) := by
  have S := shrt_spec hK hs hp L
  have hlen := S.len
  unfold shrt at *
  by_cases hc : K ≤ l.length
  · rw [if_pos hc] at *
    have hpl : (K - 1).toNat < l.length := by omega
    have hv1 := gr_pos hp hpl
    have hv2 : gr l (K - 1).toNat ≤ 4398046511104 := by
      have e := gr_isGr hpl
      have h0 : 0 < l.countP (fun x => decide (gr l (K - 1).toNat ≤ x.f1)) := by have := e.2; omega
      obtain ⟨y, hy, hh⟩ := List.countP_pos_iff.1 h0
      have := hb y hy
      have hh' := of_decide_eq_true hh
      omega
    obtain ⟨N1, h1⟩ := rgreat_f l (K - 1).toNat hl hpl
    generalize gr l (K - 1).toNat = v at *
    obtain ⟨N2, h2⟩ := rshort_l1 v K T L l (K, T, L + v, cutI v l) hl ⟨hv1, hv2⟩ hb hL (by
      refine ⟨1, fun k hk => ?_⟩
      obtain ⟨k, rfl⟩ : ∃ m, k = m + 1 := ⟨k - 1, by omega⟩
      simp only [lookoutref32_shortened.l0]
      simp only at hlen
      rw [if_neg (by omega)]) l.length 0 (by omega) (by omega)
    refine ⟨N1 + N2 + 1, fun k hk => ?_⟩
    obtain ⟨k, rfl⟩ : ∃ m, k = m + 1 := ⟨k - 1, by omega⟩
    simp only [lookoutref32_shortened.f, lookoutref32_shortened.l0]
    have h3 := h1 k (by omega)
    rw [show (((K - 1).toNat : Nat) : Int) = K - 1 by omega] at h3
    rw [if_pos hc, show wrap64 (K - 1) = K - 1 by unfold wrap64; omega, h3]
    simp only [Option.bind_some]
    have h4 := h2 k (by omega)
    simpa [cutI] using h4
  · rw [if_neg hc] at *
    refine ⟨1, fun k hk => ?_⟩
    obtain ⟨k, rfl⟩ : ∃ m, k = m + 1 := ⟨k - 1, by omega⟩
    simp only [lookoutref32_shortened.f, lookoutref32_shortened.l0]
    rw [if_neg (by omega)]
end Go.Proofs.Ytgpkpeefbkcjeaa.H

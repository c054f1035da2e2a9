/- The walk of HeavyhittersExact. -/
import Derived.Test.YtgpkpeefbkcjeaaKRowL
import Derived.Test.YtgpkpeefbkcjeaaKAwake
namespace Go.Proofs.Ytgpkpeefbkcjeaa.H
open Go Go.RowKit Go.WideMaps Go.Proofs.YtgpkpeefbkcjeaaW.PrintWords Go.Proofs.YtgpkpeefbkcjeaaW.PrintLast Go.Proofs.YtgpkpeefbkcjeaaW.PrintMore Go.Proofs.Ytgpkpeefbkcjeaa.PAll
set_option linter.unusedVariables false
set_option linter.unusedSimpArgs false

/-- The keys of a map. -/
structure KeySet (D : DataW Unit) (S : List ByteArray) : Prop where
  tidy : Maps.Tidy D
  has : ∀ s, Maps.has D (kL s) = true ↔ s ∈ S
  size : Maps.size D = S.length
theorem KeySet.nil : KeySet (.map []) [] := ⟨Maps.tidy_empty, fun s => by simp [Maps.has], rfl⟩
theorem KeySet.put {D : DataW Unit} {S : List ByteArray} (h : KeySet D S) (x : ByteArray) (d : DataW Unit) : ∃ S', KeySet (D.put (kL x) d) S' ∧ ∀ s, s ∈ S' ↔ s ∈ S ∨ s = x := by
  have hs := Maps.size_put (k := kL x) h.tidy d
  have hh : ∀ s, Maps.has (D.put (kL x) d) (kL s) = true ↔ s ∈ S ∨ s = x := fun s => by
    by_cases e : s = x
    · subst e
      rw [Maps.has_put_same h.tidy.isMap (kL_key _)]
      simp
    · rw [Maps.has_put_other (fun e' => e (kL_inj e')), h.has]
      simp [e]
  by_cases hx : Maps.has D (kL x) = true
  · rw [if_pos hx] at hs
    have hm := (h.has x).1 hx
    refine ⟨S, ⟨h.tidy.put (kL_key x) d, fun s => ?_, hs.trans h.size⟩, fun s => ⟨.inl, ?_⟩⟩
    · rw [hh]
      exact ⟨fun q => q.elim id (fun e => by rw [e]; exact hm), .inl⟩
    · rintro (q | rfl)
      · exact q
      · exact hm
  · rw [if_neg hx] at hs
    refine ⟨S ++ [x], ⟨h.tidy.put (kL_key x) d, fun s => ?_, by rw [hs, h.size]; simp⟩, fun s => by simp⟩
    rw [hh]; simp
/-- A map that holds the keys that were added. -/
def KeysOf (w : World) (B n : Nat) (l : List S49) : Prop := ∃ D S, w.ownsMap Try.prog 9 (plainElem (H := Unit) Try.prog 4) B n D ∧ KeySet D S ∧ ∀ s, s ∈ S ↔ ∃ m ∈ l, 0 < m.f1 ∧ m.f0 = s
theorem run_makeMapB (w : World) : (Instr.makeMap 54 none).run Try.prog w = .ok (.map (some w.heap.size)) (w.alloc (.map #[] 0)) := by
  have hu := Try.underlying54
  simp [Instr.makeMap, run_underlying hu, asInt, asIntOf]
theorem plainElem_bool_inv {v : Value} {z : DataW Unit × List MemPlace} (h : plainElem Try.prog 4 v = some z) : ∃ b : Bool, v = .bool b := by
  have hu := Try.underlying4
  cases v <;> simp_all [plainElem]

/-- As long as there are few keys all counts are right, and the order counts for nothing. -/
theorem exact_of {K : Int} {x y : HV} {ls : List L49} (h : Of K x ls.flatten) (g : Of K y ls.reverse.flatten) {S : List ByteArray} (hS : ∀ s, s ∈ S ↔ ∃ m ∈ ls.flatten, 0 < m.f1 ∧ m.f0 = s) (hl : (S.length : Int) < K) (h0 : ∀ m ∈ ls.flatten, 0 ≤ m.f1) : x = y ∧ x.f2 = 0 ∧ ∀ k, bndH x k = (truth ls.flatten k, truth ls.flatten k, 0) := by
  have hS' : ∀ m ∈ ls.flatten, 0 < m.f1 → m.f0 ∈ S := fun m hm hp => (hS _).2 ⟨m, hm, hp, rfl⟩
  obtain ⟨e1, e2⟩ := h.exactly hS' hl
  refine ⟨h.same g (List.Perm.flatten (List.reverse_perm ls).symm) hS' hl, e1, fun k => ?_⟩
  unfold bndH
  rw [if_neg (by rw [(chkH_iff x).2 h.val]; simp)]
  have hb := (h.bounds h0 k).2
  have ht := truth_le h0 k
  have ha := h.all
  have e3 : hiH x k = truth ls.flatten k := by
    unfold hiH
    rw [e2, e1, if_neg (by rw [ha]; omega)]
    omega
  rw [e2, e3]

theorem fill_below {W5 W : World} {B : Nat} (h : Fill (W5.alloc (.map #[] 0)) W B) (hB : W5.heap.size = B) : Below W5.heap.size W5 W := (below_alloc (Below.refl _ W5) (.map #[] 0)).trans (h.below (by simp) (by omega))
theorem keys_step {l : List S49} {m : S49} {S S' : List ByteArray} (hS : ∀ s, s ∈ S ↔ ∃ m ∈ l, 0 < m.f1 ∧ m.f0 = s) (h' : ∀ s, s ∈ S' ↔ s ∈ S ∨ s = m.f0) (hp : 0 < m.f1) : ∀ s, s ∈ S' ↔ ∃ q ∈ l ++ [m], 0 < q.f1 ∧ q.f0 = s := fun s => by
  rw [h', hS]
  constructor
  · rintro (⟨q, h1, h2⟩ | rfl)
    · exact ⟨q, by simp [h1], h2⟩
    · exact ⟨m, by simp, hp, rfl⟩
  · rintro ⟨q, h1, h2, h3⟩
    rcases List.mem_append.1 h1 with h1 | h1
    · exact .inl ⟨q, h1, h2, h3⟩
    · simp at h1; subst h1; exact .inr h3.symm
theorem keys_skip {l : List S49} {m : S49} {S : List ByteArray} (hS : ∀ s, s ∈ S ↔ ∃ m ∈ l, 0 < m.f1 ∧ m.f0 = s) (hp : ¬ 0 < m.f1) : ∀ s, s ∈ S ↔ ∃ q ∈ l ++ [m], 0 < q.f1 ∧ q.f0 = s := fun s => by
  rw [hS]
  constructor
  · rintro ⟨q, h1, h2⟩
    exact ⟨q, by simp [h1], h2⟩
  · rintro ⟨q, h1, h2, h3⟩
    rcases List.mem_append.1 h1 with h1 | h1
    · exact ⟨q, h1, h2, h3⟩
    · simp at h1; subst h1; exact absurd h2 hp
theorem Same_two (x y : HV) (e : x = y) (v v' : Value) (w : World) (h1 : CH w v x.f3) (h2 : CH w v' y.f3) (hl : x.f3.length ≤ LB) :
    Calls Try.prog 18 #[.agg #[.int .i64 x.f0, .int .i64 x.f1, .int .i64 x.f2, v], .agg #[.int .i64 y.f0, .int .i64 y.f1, .int .i64 y.f2, v']] w fun e w' => e = .returned (.bool true) ∧ Below w.heap.size w w' := by
  subst e
  exact Same_calls x v v' w h1 h2 hl

set_option maxRecDepth 100000 in
set_option maxHeartbeats 16000000 in
theorem Exact_row (w : World) (k : Nat) (hk : k < 256) (ls : List L49) (A : Option Addr) (c : Nat) (hr : Kd.C kLM w A ls.length ls) (hc : ls.length ≤ c) :
    Calls Try.prog 8 #[.int .u8 (k : Int), .slice A ls.length c] w fun e w' => e = .returned (.bool true) ∧ Below w.heap.size w w' := by
  have HFI := Aside0.mk (fits_calls A c ls w hr hc)
  have HA := Aside0.mk (fun W => awake_calls W)
  have hu := Try.underlying45
  have hu2 := Try.underlying24
  have hu3 := Try.underlying49
  have hn : IntKind.i64.wrap (k : Int) = (k : Int) := by rw [IntKind.wrap_i64]; omega
  cases hfi : fitsL ls
  · rw [hfi] at HFI
    clear hfi hr
    go_enter Try.func8, Try.ntmps8
    go_wp2_with (first
      | (go_at_call 26; (with_reducible refine HFI.out.mono ?_); rintro e w1 ⟨rfl, hb⟩; have HB1 := Aside0.mk hb; clear hb)
      | (go_at_call 11; (with_reducible refine (HA.out _).mono ?_); rintro e w2 ⟨rfl, hb⟩; have HB2 := Aside0.mk (HB1.out.trans (hb.mono HB1.out.size)); clear hb))
    go_ret
    exact ⟨rfl, HB2.out⟩
  · rw [hfi] at HFI
    have HF := Aside0.mk (fits_of hfi)
    clear hfi
    have HTR := Aside0.mk (fun W (h : Below w.heap.size w W) => tree_calls (2 + (k : Int) % 11) (by omega) (by omega) ls HF.out A c W (Kd.C_below hr h) hc)
    have HTB := Aside0.mk (fun A' c' W (h : Kd.C kLM W A' ls.length ls.reverse) (hc' : ls.length ≤ c') => show Calls Try.prog 27 #[.int .i64 (2 + (k : Int) % 11), .slice A' ls.length c'] W (fun e w' => ∃ (x : HV) (v va : Value), e = .returned (.tuple #[.agg #[.int .i64 x.f0, .int .i64 x.f1, .int .i64 x.f2, v], va, .bool true]) ∧ Of (2 + (k : Int) % 11) x ls.reverse.flatten ∧ CH w' v x.f3 ∧ Below W.heap.size W w') by
      have := tree_calls (2 + (k : Int) % 11) (by omega) (by omega) ls.reverse ⟨by rw [List.length_reverse]; exact HF.out.1, by rw [List.length_reverse]; exact HF.out.2.1, fun l hl => HF.out.2.2 l (List.mem_reverse.1 hl)⟩ A' c' W (by rw [List.length_reverse]; exact h) (by rw [List.length_reverse]; exact hc')
      rw [List.length_reverse] at this
      exact this.mono fun e w' ⟨x, v, va, h1, h2, h3, _, h5⟩ => ⟨x, v, va, h1, h2, h3, h5⟩)
    have HCL := Aside0.mk (fun W (h : Below w.heap.size w W) => CloneLL_calls A c ls W (Kd.C_below hr h) hc HF.out.1 (by have := HF.out.2.1; omega))
    have hk0 : 2 ≤ 2 + (k : Int) % 11 := by omega
    have hk1 : 2 + (k : Int) % 11 ≤ 12 := by omega
    have HFL := Aside0.mk (flat_few ls HF.out.2.2)
    have HPT := Aside0.mk (show ∀ m ∈ ls.flatten, 0 ≤ m.f1 ∧ m.f1 ≤ 1000000 from fun m hm => by
      obtain ⟨l, hl, hml⟩ := List.mem_flatten.1 hm
      exact ((HF.out.2.2 l hl).2 m hml).2)
    have HKM := Aside0.mk (show ∀ m ∈ ls.flatten, m.f0.size ≤ 20 from fun m hm => by
      obtain ⟨l, hl, hml⟩ := List.mem_flatten.1 hm
      exact ((HF.out.2.2 l hl).2 m hml).1)
    have hfl := HFL.out.2.2
    have hls := HF.out.2.1
    have hpos := HF.out.1
    have hfn : ls.flatten.length ≤ 100 := by omega
    have HXO := Aside0.mk (fun x y S (h : Of (2 + (k : Int) % 11) x ls.flatten) (g : Of (2 + (k : Int) % 11) y ls.reverse.flatten) (hS : ∀ s, s ∈ S ↔ ∃ m ∈ ls.flatten, 0 < m.f1 ∧ m.f0 = s) (hl : (S.length : Int) < 2 + (k : Int) % 11) => exact_of h g hS hl (fun m hm => (HPT.out m hm).1))
    clear hr hfl HF HFL
    generalize ls.flatten = all at *
    have hmm := run_makeMapB
    go_enter Try.func8, Try.ntmps8
    go_wp2_with (first
      | (go_at_call 26; (with_reducible refine HFI.out.mono ?_); rintro e w1 ⟨rfl, hb⟩; have HB1 := Aside0.mk hb; clear hb)
      | (go_at_call 27; (refine (HTR.out _ HB1.out).mono ?_); rintro e w2 ⟨x, v, va, rfl, hof, ⟨A2, c2, rfl, hl2, hC2⟩, hown, hb⟩; have HB2 := Aside0.mk (HB1.out.trans (hb.mono HB1.out.size)); obtain ⟨Aa, ca, rfl⟩ := own_slice hown; have HOF := Aside0.mk hof; have hC := Kd.C_below hC2 (below_alloc (Below.refl _ w2) (.cells #[.int .i64 x.f0, .int .i64 x.f1, .int .i64 x.f2, .slice A2 x.f3.length c2] 24)); have HCX := Aside0.mk hC; have HL2 := Aside0.mk hl2; have HRA := Aside0.mk (Kd.R_reads' (mR_of_lcells hown)); have hxn := hof.val.len; have hx1 := hof.val.k1; have HLN := Aside0.mk (show x.f3.length ≤ 100 by omega); have HBX := Aside0.mk (heap_alloc_new w2 (.cells #[.int .i64 x.f0, .int .i64 x.f1, .int .i64 x.f2, .slice A2 x.f3.length c2] 24)); clear hb hof hC hC2 hl2 hown HTR hxn hx1))
    have HWA := Aside0.mk (below_alloc HB2.out (.cells #[.int .i64 x.f0, .int .i64 x.f1, .int .i64 x.f2, .slice A2 x.f3.length c2] 24))
    have HS2 := Aside0.mk (show w2.heap.size < (w2.alloc (.cells #[.int .i64 x.f0, .int .i64 x.f1, .int .i64 x.f2, .slice A2 x.f3.length c2] 24)).heap.size by simp)
    have HRB := Aside0.mk (Kd.C_below HRA.out.2.2 (below_alloc (Below.refl _ w2) (.cells #[.int .i64 x.f0, .int .i64 x.f1, .int .i64 x.f2, .slice A2 x.f3.length c2] 24)))
    generalize hWW : w2.alloc (.cells #[.int .i64 x.f0, .int .i64 x.f1, .int .i64 x.f2, .slice A2 x.f3.length c2] 24) = W2 at *
    clear hWW
    go_wp2_with (first
      | (go_at_call 29; (with_reducible refine (HCL.out _ HWA.out).mono ?_); rintro e w3 ⟨v3, vs, rfl, hown3, hraw, hb⟩; have HB3 := Aside0.mk hb; have HRW := Aside0.mk hraw; obtain ⟨g, c3, rfl, hg3⟩ := own_formT hown3 hpos; have HG3 := Aside0.mk hg3; have HO3 := Aside0.mk hown3; clear hb hraw hown3 hg3)
      | (go_at_call 30; (with_reducible refine (ReverseLL_calls g ls.length c3 W2.heap.size vs _ HO3.out hpos (by omega) HG3.out.2 (raw_sl HRW.out)).mono ?_); rintro e w4 ⟨⟨v4, rfl⟩, hown4, hgr⟩; have HB4 := Aside0.mk (HB3.out.grown hgr HB3.out.size (fun k hk => by cases hk; exact HG3.out.1)); have HC4 := Aside0.mk (C_rev hown4 (HRW.out.below HB4.out)); clear hown4 hgr)
      | (go_at_call 27; (with_reducible refine (HTB.out _ _ _ HC4.out HG3.out.2).mono ?_); rintro e w5 ⟨y, v5, va5, rfl, hog, ⟨A5, c5, rfl, hl5, hC5⟩, hb⟩; have HB5 := Aside0.mk (HB4.out.trans (hb.mono HB4.out.size)); have HOG := Aside0.mk hog; have HL5 := Aside0.mk hl5; have HC5 := Aside0.mk (Kd.C_below hC5 (below_alloc (Below.refl _ w5) (.cells #[.int .i64 y.f0, .int .i64 y.f1, .int .i64 y.f2, .slice A5 y.f3.length c5] 24))); have HBY := Aside0.mk (heap_alloc_new w5 (.cells #[.int .i64 y.f0, .int .i64 y.f1, .int .i64 y.f2, .slice A5 y.f3.length c5] 24)); have hyn := hog.val.len; have hy1 := hog.val.k1; have HLY := Aside0.mk (show y.f3.length ≤ 100 by omega); clear hb hog hl5 hC5 hyn hy1))
    have HB5' := Aside0.mk (below_alloc HB5.out (.cells #[.int .i64 y.f0, .int .i64 y.f1, .int .i64 y.f2, .slice A5 y.f3.length c5] 24))
    have HX5 := Aside0.mk ((HB5'.out.block w2.heap.size HS2.out).trans HBX.out)
    have HC5X := Aside0.mk (Kd.C_below HCX.out HB5'.out)
    have HC5R := Aside0.mk (Kd.C_below HRB.out HB5'.out)
    have HW5 := Aside0.mk (HWA.out.trans (HB5'.out.mono HWA.out.size))
    have HS5 := Aside0.mk (show w2.heap.size < (w5.alloc (.cells #[.int .i64 y.f0, .int .i64 y.f1, .int .i64 y.f2, .slice A5 y.f3.length c5] 24)).heap.size from Nat.lt_of_lt_of_le HS2.out HB5'.out.size)
    have HS5' := Aside0.mk (show w5.heap.size < (w5.alloc (.cells #[.int .i64 y.f0, .int .i64 y.f1, .int .i64 y.f2, .slice A5 y.f3.length c5] 24)).heap.size by simp)
    clear HB5 HB5' HB4 HB3 HC4 HRW HO3 HG3 HCX HRB HWA HBX HTB HCL HB1 HB2 HFI
    have hBW : (w5.alloc (.cells #[.int .i64 y.f0, .int .i64 y.f1, .int .i64 y.f2, .slice A5 y.f3.length c5] 24)).heap.size = w5.heap.size + 1 := by simp
    generalize hWW5 : w5.alloc (.cells #[.int .i64 y.f0, .int .i64 y.f1, .int .i64 y.f2, .slice A5 y.f3.length c5] 24) = W5 at *
    clear hWW5
    obtain ⟨B, hB⟩ : ∃ B, B = w5.heap.size + 1 := ⟨_, rfl⟩
    rw [← hB] at hBW ⊢
    have HBW := Aside0.mk hBW
    clear hB hBW
    have HF0 := Aside0.mk (Fill.refl (W5.alloc (.map #[] 0)) B)
    have HK0 := Aside0.mk (show KeysOf (W5.alloc (.map #[] 0)) B 0 [] from ⟨_, [], by rw [← HBW.out]; exact World.ownsMap_made (H := Unit) W5 Try.prog 9 (plainElem Try.prog 4), KeySet.nil, fun s => by simp⟩)
    go_loopg [55] (all.length) (fun kq v55 w' => ∃ j : Nat, v55 = .int .i64 j ∧ j ≤ all.length ∧ Aside0 (kq = all.length - j) ∧ Aside0 (Fill (W5.alloc (.map #[] 0)) w' B) ∧ Aside0 (KeysOf w' B j (all.take j)))
    case atStart => exact ⟨0, rfl, by omega, ⟨rfl⟩, HF0, by simpa using HK0⟩
    case round =>
      clear HF0 HK0
      obtain ⟨j, rfl, hj, HKQ, HF, HKS⟩ := hrel
      have HFB := Aside0.mk (fill_below HF.out HBW.out)
      by_cases hlt : j < all.length
      · obtain ⟨ad, e1, g0, g1⟩ := at_T49 (Kd.C_below HC5R.out HFB.out) (j : Int) (by omega) (by omega)
        cases e1
        rw [rdM_get all j hlt] at g0 g1
        simp only [Int.toNat_natCast] at g0 g1
        have pl : (0 ≤ (j : Int)) = True := eq_true (by omega)
        have dl : decide (j < all.length) = true := decide_eq_true hlt
        have HTK := Aside0.mk (show all.take (j + 1) = all.take j ++ [all[j]] from List.take_succ_eq_append_getElem hlt)
        have HSZ := Aside0.mk (show all[j].f0.size ≤ maxLen by have := HKM.out _ (List.getElem_mem hlt); unfold maxLen; omega)
        have HLN := Aside0.mk (show j < maxLen by unfold maxLen; omega)
        generalize all[j] = m at *
        obtain ⟨D, S, hown, hks, hS⟩ := HKS.out
        have HO := Aside0.mk hown
        have HQ := Aside0.mk (And.intro hks hS)
        clear hown hks hS HKS
        have hmn := heap_alloc_new wr (.cells #[.string m.f0, .int .i64 m.f1] 49)
        have n0 := (blk_cell hmn 0).trans rfl; have n1 := (blk_cell hmn 1).trans rfl; simp only [List.getElem?_toArray, List.getElem?_cons_zero, List.getElem?_cons_succ] at n0 n1
        clear hmn
        by_cases hp : 0 < m.f1
        · have d1 : decide (0 < m.f1) = true := decide_eq_true hp
          obtain ⟨S', hks', hS'⟩ := HQ.out.1.put m.f0 (.lit (.bool true))
          have HQ' := Aside0.mk (And.intro hks' (keys_step HQ.out.2 hS' hp))
          clear hks' hS'
          go_wp2_with (at_mapUpdate; refine wpList_mapUpdate_own _ rfl _ _ _ 54 rfl 9 4 lawS Try.underlying54 _ B j D rfl (HO.out.alloc _) HLN.out _ _ _ rfl rfl (keyOf_string_mk Try.underlying9 HSZ.out) _ [] (plainElem_bool Try.underlying4 true) ?_; intro w1 hown1 hgrow1; go_frame)
          have HF2 := (HF.out.alloc (.cells #[.string m.f0, .int .i64 m.f1] 49)).grown hgrow1 (fun r e => by cases e; exact .inl rfl)
          go_roundg (all.length - (j + 1))
          case measure => have := HKQ.out; omega
          case rel => exact ⟨j + 1, by simp, by omega, ⟨rfl⟩, ⟨HF2⟩, ⟨by rw [HTK.out]; exact ⟨_, S', hown1, HQ'.out.1, HQ'.out.2⟩⟩⟩
        · have d1 : decide (0 < m.f1) = false := decide_eq_false hp
          have HQ' := Aside0.mk (keys_skip HQ.out.2 hp)
          go_wp2_with fail
          go_roundg (all.length - (j + 1))
          case measure => have := HKQ.out; omega
          case rel => exact ⟨j + 1, by simp, by omega, ⟨rfl⟩, ⟨HF.out.alloc (.cells #[.string m.f0, .int .i64 m.f1] 49)⟩, ⟨by rw [HTK.out]; exact ⟨D, S, (HO.out.alloc _).mono (by omega), HQ.out.1, HQ'.out⟩⟩⟩
      · have hjl : j = all.length := by omega
        subst hjl
        have dl : decide (all.length < all.length) = false := decide_eq_false (by omega)
        rw [List.take_length] at HKS
        obtain ⟨D, S, hown, hks, hS⟩ := HKS.out
        have HO := Aside0.mk hown
        have HSS := Aside0.mk hS
        have HSD := Aside0.mk hks.size
        clear hown hks hS HKS
        by_cases hcmp : 2 + (k : Int) % 11 ≤ (Maps.size D : Int)
        · have d1 : decide (2 + (k : Int) % 11 ≤ (Maps.size D : Int)) = true := decide_eq_true hcmp
          go_wp2_with (first
            | (at_len; refine wpList_len_own _ rfl _ 54 rfl 9 4 Try.underlying54 _ B all.length D rfl HO.out ?_)
            | (go_at_call 11; (with_reducible refine (HA.out _).mono ?_); rintro e w8 ⟨rfl, hb⟩; have HB8 := Aside0.mk ((HW5.out.trans (HFB.out.mono HW5.out.size)).trans (hb.mono (HW5.out.trans (HFB.out.mono HW5.out.size)).size)); clear hb))
          go_ret
          exact ⟨rfl, HB8.out⟩
        · have d1 : decide (2 + (k : Int) % 11 ≤ (Maps.size D : Int)) = false := decide_eq_false hcmp
          obtain ⟨hxy, hx2, hbd⟩ := HXO.out x y S HOF.out HOG.out HSS.out (by have := HSD.out; omega)
          have HBD := Aside0.mk hbd
          have hz : (x.f2 == 0) = true := by rw [hx2]; rfl
          have HSM := Aside0.mk (fun W (h : Below W5.heap.size W5 W) => Same_two x y hxy (.slice A2 x.f3.length c2) (.slice A5 y.f3.length c5) W ⟨A2, c2, rfl, HL2.out, Kd.C_below HC5X.out h⟩ ⟨A5, c5, rfl, HL5.out, Kd.C_below HC5.out h⟩ (by have := HLN.out; simp only [LB]; omega))
          have HBC := Aside0.mk (fun kk W (h : Below W5.heap.size W5 W) => Bounds_calls x kk A2 c2 W (Kd.C_below HC5X.out h) HL2.out (by have := HLN.out; omega))
          have HTC := Aside0.mk (fun kk W (h : Below W5.heap.size W5 W) => truth_calls all kk _ ca W (Kd.C_below HC5R.out h) HRA.out.2.1 (by simp only [LB]; omega) HPT.out)
          clear hxy hbd hx2
          go_wp2_with (first
            | (at_len; refine wpList_len_own _ rfl _ 54 rfl 9 4 Try.underlying54 _ B all.length D rfl HO.out ?_)
            | (at_range; refine wpList_range_own _ rfl _ 54 rfl 9 4 lawS Try.underlying54 _ B all.length D rfl HO.out ?_; intro w0 hrg0 hg0 hs0))
          try go_frame
          have HF1 := HF.out.grown hg0 (fun r e => by cases e)
          have HR0 := Aside0.mk (show (W5.alloc (.map #[] 0)).heap.size ≤ wr.heap.size from HF.out.size)
          have HRG0 := Aside0.mk hrg0
          clear hrg0 hg0 hs0 HO
          go_loopg [16] (Maps.size D) (fun kq v16 w' => ∃ left : Lit → Bool, Aside0 (w'.ranges Try.prog 9 (plainElem (H := Unit) Try.prog 4) B wr.heap.size all.length D left kq) ∧ Aside0 (Fill (W5.alloc (.map #[] 0)) w' B))
          case atStart => exact ⟨_, HRG0, ⟨HF1⟩⟩
          case round =>
            clear HRG0 HF1 HF HFB
            obtain ⟨left, HRG, HF⟩ := hrel
            have hxr := ((fill_below HF.out HBW.out).block w2.heap.size HS5.out).trans HX5.out
            have hyr := ((fill_below HF.out HBW.out).block w5.heap.size HS5'.out).trans HBY.out
            go_wp2_with (at_next; refine wpList_next_ranges _ rfl _ rfl 9 lawS (plainElem (H := Unit) Try.prog 4) Value.string (fun v : Value => v) (fun key kl hk => by obtain ⟨x, hx, _⟩ := keyOf_strB hk; exact ⟨x, hx⟩) (fun v y hv => ⟨v, rfl⟩) B _ all.length _ _ _ rfl HRG.out ?_ ?_)
            · intro hc0 hl0
              have HFB := Aside0.mk (fill_below HF.out HBW.out)
              have x0 := (blk_cell hxr 0).trans rfl; have x1 := (blk_cell hxr 1).trans rfl; have x2 := (blk_cell hxr 2).trans rfl; have x3 := (blk_cell hxr 3).trans rfl; simp only [List.getElem?_toArray, List.getElem?_cons_zero, List.getElem?_cons_succ] at x0 x1 x2 x3
              have y0 := (blk_cell hyr 0).trans rfl; have y1 := (blk_cell hyr 1).trans rfl; have y2 := (blk_cell hyr 2).trans rfl; have y3 := (blk_cell hyr 3).trans rfl; simp only [List.getElem?_toArray, List.getElem?_cons_zero, List.getElem?_cons_succ] at y0 y1 y2 y3
              clear hxr hyr hc0 hl0
              go_wp2_with (first
                | (go_at_call 18; (with_reducible refine (HSM.out _ HFB.out).mono ?_); rintro e w7 ⟨rfl, hb⟩; have HB7 := Aside0.mk (HFB.out.trans (hb.mono HFB.out.size)); clear hb)
                | (go_at_call 11; (with_reducible refine (HA.out _).mono ?_); rintro e w8 ⟨rfl, hb⟩; have HB8 := Aside0.mk (HW5.out.trans ((HB7.out.trans (hb.mono HB7.out.size)).mono HW5.out.size)); clear hb))
              go_ret
              exact ⟨rfl, HB8.out⟩
            · intro key cb kl yd yp w6 cnt2 hkey hlk hv hat hrg2 hlt2 hg2 hs2 hen
              have HRG2 := Aside0.mk hrg2
              have HF2 := Aside0.mk (HF.out.grown hg2 (fun r e => by cases e; exact .inr HR0.out))
              have hx6 := ((fill_below HF2.out HBW.out).block w2.heap.size HS5.out).trans HX5.out
              have HFB2 := Aside0.mk (fill_below HF2.out HBW.out)
              have HLT := Aside0.mk hlt2
              have x0 := (blk_cell hx6 0).trans rfl; have x1 := (blk_cell hx6 1).trans rfl; have x2 := (blk_cell hx6 2).trans rfl; have x3 := (blk_cell hx6 3).trans rfl; simp only [List.getElem?_toArray, List.getElem?_cons_zero, List.getElem?_cons_succ] at x0 x1 x2 x3
              have HBC1 := Aside0.mk (fun W h => HBC.out key W h)
              have HTC1 := Aside0.mk (fun W h => HTC.out key W h)
              rw [HBD.out key] at HBC1
              generalize truth all key = tr at *
              clear hxr hyr hkey hlk hv hat hrg2 hlt2 hg2 hs2 hx6
              go_wp2_with (first
                | (go_at_call 19; (with_reducible refine (HBC1.out _ HFB2.out).mono ?_); rintro e w7 ⟨rfl, hb⟩; have HB7 := Aside0.mk (HFB2.out.trans (hb.mono HFB2.out.size)); have HG7 := Aside0.mk (grown_of_below hb none); clear hb x0 x1 x2 x3)
                | (go_at_call 28; (with_reducible refine (HTC1.out _ HB7.out).mono ?_); rintro e w8 ⟨rfl, hb⟩; have HG8 := Aside0.mk (HG7.out.trans (grown_of_below hb none)); clear hb))
              go_roundg cnt2
              case measure => exact HLT.out
              case rel => exact ⟨_, ⟨HRG2.out.kept HG8.out (by simp) (by simp)⟩, ⟨HF2.out.grown HG8.out (fun r e => by cases e)⟩⟩
theorem Exact_rowc (w : World) (a : Int) (ha : (Lit.int .u8 a).wf = true) (A : Option Addr) (ls : List L49) (c : Nat) (hr : Kd.C kLM w A ls.length ls) (hc : ls.length ≤ c) (_ : ∀ l ∈ ls, ∀ x ∈ l, x.f0.size ≤ maxLen ∧ (Lit.int .i64 x.f1).wf = true) :
    Calls Try.prog 8 #[.int .u8 a, .slice A ls.length c] w fun e w' => e = .returned (.bool true) ∧ Below w.heap.size w w' := by
  have h : IntKind.u8.min ≤ a ∧ a ≤ IntKind.u8.max := by simpa [Lit.wf] using ha
  simp [IntKind.min, IntKind.max, IntKind.signed, IntKind.bits] at h
  obtain ⟨k, rfl⟩ : ∃ k : Nat, a = (k : Int) := ⟨a.toNat, by omega⟩
  exact Exact_row w k (by omega) ls A c hr hc
end Go.Proofs.Ytgpkpeefbkcjeaa.H

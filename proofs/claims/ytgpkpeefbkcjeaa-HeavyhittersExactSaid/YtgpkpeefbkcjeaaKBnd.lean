/- heavyhitters.Bounds: the count of a key by slices.BinarySearchFunc. -/
import Derived.Test.YtgpkpeefbkcjeaaKRead1
import Derived.BigQuiet
import Derived.Deep.QuietTactic
namespace Go.Proofs.Ytgpkpeefbkcjeaa.H
open Go Go.RowKit Go.Proofs.YtgpkpeefbkcjeaaW.PrintWords Go.Proofs.YtgpkpeefbkcjeaaW.PrintLast Go.Proofs.YtgpkpeefbkcjeaaW.PrintMore Go.Proofs.Ytgpkpeefbkcjeaa.PAll
attribute [local go_sem] max2_int min2_int max_two min_two max_three min_three max_four min_four
set_option linter.unusedVariables false
set_option linter.unusedSimpArgs false

set_option maxHeartbeats 1000000 in
theorem Bounds1_calls (x : S58) (t : ByteArray) (w : World) : Calls Try.prog 41 #[.agg #[Value.string x.f0, Value.int .i64 x.f1], .string t] w fun e w' => e = .returned (.int .i64 (cmpK x.f0 t)) ∧ w' = w.alloc (.cells #[Value.string x.f0, Value.int .i64 x.f1] 58) := by
  have hc := cell_of_heap (heap_alloc_new w (.cells #[Value.string x.f0, Value.int .i64 x.f1] 58)) 0 _ rfl
  have hu := Try.underlying58
  have HC := Aside0.mk (fun W => cmpS_calls x.f0 t W)
  generalize cmpK x.f0 t = r at *
  go_enter Try.func41, Try.ntmps41
  go_wp2_with (go_at_call 42; refine (HC.out _).mono ?_; rintro e w' ⟨rfl, rfl⟩)
  go_ret
  exact ⟨rfl, rfl⟩

/-- The index of the first item that is not before a key. -/
def plcK (l : L58) (t : ByteArray) : Nat := (l.takeWhile fun x => ltK x.f0 t).length
theorem plcK_le (l : L58) (t : ByteArray) : plcK l t ≤ l.length := (List.takeWhile_sublist _).length_le
theorem plcK_eq (t : ByteArray) : ∀ (l : L58) (i : Nat), i ≤ l.length → (∀ k (h : k < l.length), k < i → ltK l[k].f0 t = true) → (∀ (h : i < l.length), ltK l[i].f0 t = false) → plcK l t = i
  | [], i, hi, _, _ => by simp at hi; subst hi; rfl
  | x :: l, 0, _, _, h2 => by
    have := h2 (by simp)
    simp only [List.getElem_cons_zero] at this
    simp [plcK, List.takeWhile_cons, this]
  | x :: l, i + 1, hi, h1, h2 => by
    have h0 := h1 0 (by simp) (by omega)
    simp only [List.getElem_cons_zero] at h0
    have ih := plcK_eq t l i (by simpa using hi) (fun k h hk => by have := h1 (k + 1) (by simpa using h) (by omega); simpa using this) (fun h => by have := h2 (by simpa using h); simpa using this)
    have e : plcK (x :: l) t = plcK l t + 1 := by simp [plcK, List.takeWhile_cons, h0]
    rw [e, ih]
/-- Is there one with the key? -/
def hasK (l : L58) (t : ByteArray) : Bool := match l[plcK l t]? with
  | some x => cmpK x.f0 t == 0
  | none => false
theorem hasK_tot {l : L58} (hs : Srt l) (t : ByteArray) : (hasK l t = true → ∃ h : plcK l t < l.length, l[plcK l t].f1 = tot l t) ∧ (hasK l t = false → tot l t = 0) := by
  induction l with
  | nil => exact ⟨fun h => by simp [hasK, plcK] at h, fun _ => rfl⟩
  | cons x l ih =>
    have ih := ih hs.tail
    by_cases h : ltK x.f0 t = true
    · have e : plcK (x :: l) t = plcK l t + 1 := by simp [plcK, List.takeWhile_cons, h]
      have e2 : hasK (x :: l) t = hasK l t := by unfold hasK; rw [e]; rfl
      rw [e2, tot_cons, if_neg (ltK_ne h), Int.zero_add]
      refine ⟨fun hh => ?_, ih.2⟩
      obtain ⟨h1, h2⟩ := ih.1 hh
      exact ⟨by rw [e]; simpa using h1, by simpa [e] using h2⟩
    · have h' : ltK x.f0 t = false := by simpa using h
      have e : plcK (x :: l) t = 0 := by simp [plcK, List.takeWhile_cons, h']
      have e2 : hasK (x :: l) t = (cmpK x.f0 t == 0) := by unfold hasK; rw [e]; rfl
      rw [e2, tot_cons]
      constructor
      · intro hh
        have hx : x.f0 = t := (cmpK_zero _ _).1 (by simpa using hh)
        refine ⟨by rw [e]; simp, ?_⟩
        have h0 : tot l t = 0 := tot_none (fun y hy => by rw [← hx]; exact hs.ne y hy)
        simp only [e, List.getElem_cons_zero]
        rw [if_pos hx, h0]; omega
      · intro hh
        have hx : x.f0 ≠ t := fun e => by rw [(cmpK_zero _ _).2 e] at hh; simp at hh
        have h0 : tot l t = 0 := tot_none (fun y hy e => by
          have h1 := hs.head y hy
          rw [e] at h1
          rw [h1] at h'; cases h')
        rw [if_neg hx, h0]; rfl
theorem Srt.lt {l : L58} (h : Srt l) {i j : Nat} (hi : i < l.length) (hj : j < l.length) (hij : i < j) : ltK l[i].f0 l[j].f0 = true := List.pairwise_iff_getElem.1 h i j hi hj hij
theorem cmpK_neg {a b : ByteArray} (h : ltK a b = true) : cmpK a b = -1 := by unfold cmpK; rw [if_pos h]
theorem cmpK_nonneg {a b : ByteArray} (h : ltK a b = false) : 0 ≤ cmpK a b := by unfold cmpK; rw [if_neg (by rw [h]; decide)]; split <;> omega

set_option maxRecDepth 100000 in
set_option maxHeartbeats 4000000 in
theorem BSearch_calls (A : Option Addr) (c : Nat) (l : L58) (t : ByteArray) (w : World) (hr : Kd.C k58 w A l.length l) (hc : l.length ≤ c) (hl : l.length ≤ 1000000) (ha : Srt l) :
    Calls Try.prog 40 #[.slice A l.length c, .string t, .func (.func 41) #[] #[]] w fun e w' => e = .returned (.tuple #[.int .i64 (plcK l t), .bool (hasK l t)]) ∧ Below w.heap.size w w' := by
  have HR := Aside0.mk hr
  have HAS := Aside0.mk ha
  clear hr ha
  have hu := Try.underlying58
  go_enter Try.func40, Try.ntmps40
  go_wp2_with fail
  go_loopg [9, 10] (l.length) (fun kq v9 v10 w' => ∃ i j : Nat, v9 = .int .i64 i ∧ v10 = .int .i64 j ∧ i ≤ j ∧ j ≤ l.length ∧ Aside0 (kq = j - i) ∧ Aside0 (Below w.heap.size w w') ∧ Aside0 (∀ k (h : k < l.length), k < i → ltK l[k].f0 t = true) ∧ Aside0 (∀ k (h : k < l.length), j ≤ k → ltK l[k].f0 t = false))
  case atStart => exact ⟨0, l.length, rfl, rfl, by omega, by omega, ⟨by omega⟩, ⟨Below.refl _ _⟩, ⟨fun k h hk => by omega⟩, ⟨fun k h hk => by omega⟩⟩
  case round =>
    obtain ⟨i, j, rfl, rfl, hij, hj, HK, HB, HL, HU⟩ := hrel
    by_cases hlt : i < j
    · obtain ⟨m, hm⟩ : ∃ m : Nat, (i + j) / 2 = m := ⟨_, rfl⟩
      have him : i ≤ m := by omega
      have hmj : m < j := by omega
      have hmd : ((i : Int) + (j : Int)) / 2 = (m : Int) := by omega
      have hml : m < l.length := by omega
      obtain ⟨ad, e1, hc0, hc1⟩ := at_T58 (Kd.C_below HR.out HB.out) (m : Int) (by omega) (by omega)
      cases e1
      rw [rdT_get l m hml] at hc0 hc1
      simp only [Int.toNat_natCast] at hc0 hc1
      have pl : (0 ≤ (m : Int)) = True := eq_true (by omega)
      clear hm
      by_cases hx : ltK l[m].f0 t = true
      · have HF := Aside0.mk (Bounds1_calls l[m] t wr)
        rw [cmpK_neg hx] at HF
        have HX := Aside0.mk (show ∀ k (h : k < l.length), k < m + 1 → ltK l[k].f0 t = true from fun k h hk => by
          by_cases e : k = m
          · subst e; exact hx
          · exact ltK_trans (HAS.out.lt h hml (by omega)) hx)
        clear hx
        generalize l[m] = x at *
        go_wp2_with (go_at_call 41; refine HF.out.mono ?_; rintro e w1 ⟨rfl, rfl⟩)
        go_roundg (j - (m + 1))
        case measure => have := HK.out; omega
        case rel => exact ⟨m + 1, j, by simp, rfl, by omega, hj, ⟨rfl⟩, ⟨below_alloc HB.out _⟩, HX, HU⟩
      · have hx' : ltK l[m].f0 t = false := by simpa using hx
        have HF := Aside0.mk (Bounds1_calls l[m] t wr)
        obtain ⟨cv, hcv⟩ : ∃ cv, cmpK l[m].f0 t = cv := ⟨_, rfl⟩
        have hcv0 : 0 ≤ cv := by rw [← hcv]; exact cmpK_nonneg hx'
        rw [hcv] at HF
        have HX := Aside0.mk (show ∀ k (h : k < l.length), m ≤ k → ltK l[k].f0 t = false from fun k h hk => by
          by_cases e : m = k
          · subst e; exact hx'
          · cases hh : ltK l[k].f0 t
            · rfl
            · rw [ltK_trans (HAS.out.lt hml h (by omega)) hh] at hx'; cases hx')
        clear hx hx' hcv
        have dcv : decide (cv < 0) = false := decide_eq_false (by omega)
        generalize l[m] = x at *
        go_wp2_with (go_at_call 41; refine HF.out.mono ?_; rintro e w1 ⟨rfl, rfl⟩)
        go_roundg (m - i)
        case measure => have := HK.out; omega
        case rel => exact ⟨i, m, rfl, rfl, him, by omega, ⟨rfl⟩, ⟨below_alloc HB.out _⟩, HL, HX⟩
    · have hij' : i = j := by omega
      subst hij'
      have HP := Aside0.mk (plcK_eq t l i hj HL.out (fun h => HU.out i h (Nat.le_refl _)))
      by_cases hlen : i < l.length
      · obtain ⟨ad, e1, hc0, hc1⟩ := at_T58 (Kd.C_below HR.out HB.out) (i : Int) (by omega) (by omega)
        cases e1
        rw [rdT_get l i hlen] at hc0 hc1
        simp only [Int.toNat_natCast] at hc0 hc1
        have pl : (0 ≤ (i : Int)) = True := eq_true (by omega)
        have dl : decide (i < l.length) = true := decide_eq_true hlen
        have HH := Aside0.mk (show hasK l t = (cmpK l[i].f0 t == 0) by
          unfold hasK
          rw [HP.out, List.getElem?_eq_getElem hlen])
        have HF := Aside0.mk (Bounds1_calls l[i] t wr)
        generalize l[i] = x at *
        generalize cmpK x.f0 t = cv at *
        go_wp2_with (go_at_call 41; refine HF.out.mono ?_; rintro e w1 ⟨rfl, rfl⟩)
        go_ret2
        exact ⟨by rw [HH.out, HP.out]; rfl, below_alloc HB.out _⟩
      · have dl : decide (i < l.length) = false := decide_eq_false hlen
        have HH := Aside0.mk (show hasK l t = false by
          unfold hasK
          rw [HP.out, List.getElem?_eq_none (by omega)])
        go_wp2
        go_ret2
        exact ⟨by rw [HH.out, HP.out]; rfl, HB.out⟩

def bndH (x : HV) (k : ByteArray) : Int × Int × Int := if chkH x ≠ 0 then (0, 0, 1) else (tot x.f3 k, hiH x k, 0)
set_option maxRecDepth 100000 in
set_option maxHeartbeats 4000000 in
theorem Bounds_calls (x : HV) (key : ByteArray) (A : Option Addr) (c : Nat) (w : World) (hr : Kd.C k58 w A x.f3.length x.f3) (hc : x.f3.length ≤ c) (hl : x.f3.length ≤ 1000) :
    Calls Try.prog 19 #[.agg #[.int .i64 x.f0, .int .i64 x.f1, .int .i64 x.f2, .slice A x.f3.length c], .string key] w fun e w' => e = .returned (.tuple #[.int .i64 (bndH x key).1, .int .i64 (bndH x key).2.1, .int .i64 (bndH x key).2.2]) ∧ Below w.heap.size w w' := by
  obtain ⟨K, T, L, l⟩ := x
  simp only at *
  have HC := Aside0.mk (fun W (h : Below w.heap.size w W) => Check_calls ⟨K, T, L, l⟩ A c W (Kd.C_below hr h) hc (by simp only [LB]; omega))
  have HR := Aside0.mk hr
  have hu1 := Try.underlying58
  have hu2 := Try.underlying24
  by_cases hz : chkH ⟨K, T, L, l⟩ = 0
  · have V := (chkH_iff _).1 hz
    have ht0 : 0 ≤ T := V.t0
    have ht1 : T ≤ 1099511627776 := V.t1
    have hl0 : 0 ≤ L := V.l0
    have hl1 : L ≤ 1099511627776 := V.l1
    have HE := Aside0.mk (show bndH ⟨K, T, L, l⟩ key = (tot l key, if T < tot l key + L then T else tot l key + L, 0) by unfold bndH; rw [if_neg (by simpa using hz)]; rfl)
    have HBS := Aside0.mk (fun W (h : Below w.heap.size w W) => BSearch_calls A c l key W (Kd.C_below hr h) hc (by omega) V.srt)
    obtain ⟨hh1, hh2⟩ := hasK_tot V.srt key
    have hle := V.le
    simp only at hle hh1 hh2
    rw [hz] at HC
    simp only at HC
    clear hr hz V
    cases hk : hasK l key with
    | true =>
      obtain ⟨hp, hcnt⟩ := hh1 hk
      have hcb := hle _ (List.getElem_mem hp)
      rw [hk] at HBS
      have HXC := Aside0.mk (fun W (h : Below w.heap.size w W) => at_T58 (Kd.C_below HR.out h) (plcK l key : Int) (by omega) (by omega))
      rw [rdT_get l (plcK l key) hp] at HXC
      obtain ⟨c0, c1⟩ := hcb
      rw [hcnt] at c0 c1 HXC
      clear hh1 hh2 hk hle hcnt
      generalize plcK l key = p at *
      generalize tot l key = tt at *
      have hs1 : IntKind.i64.wrap (tt + L) = tt + L := by rw [IntKind.wrap_i64]; omega
      have pl : (0 ≤ (p : Int)) = True := eq_true (by omega)
      go_enter Try.func19, Try.ntmps19
      go_wp2_with fail
      have hW0 := Aside0.mk (show Below w.heap.size w (w.alloc (.cells #[.int .i64 K, .int .i64 T, .int .i64 L, .slice A l.length c] 24)) by repeat (first | exact Below.refl _ _ | apply below_alloc))
      have BX := Aside0.mk (heap_alloc_new w (.cells #[.int .i64 K, .int .i64 T, .int .i64 L, .slice A l.length c] 24))
      have HS := Aside0.mk (show w.heap.size < (w.alloc (.cells #[.int .i64 K, .int .i64 T, .int .i64 L, .slice A l.length c] 24)).heap.size by simp)
      go_wp2_with (first
        | (go_at_call 16; (with_reducible refine (HC.out _ hW0.out).mono ?_); rintro e w1 ⟨rfl, hb⟩; have BX1 := Aside0.mk ((hb.block w.heap.size HS.out).trans BX.out); have HB1 := Aside0.mk (hW0.out.trans (hb.mono hW0.out.size)); have HS1 := Aside0.mk (Nat.lt_of_lt_of_le HS.out hb.size); clear hb; have x3 := (blk_cell BX1.out 3).trans rfl; simp only [List.getElem?_toArray, List.getElem?_cons_zero, List.getElem?_cons_succ] at x3)
        | (go_at_call 40; (with_reducible refine (HBS.out _ HB1.out).mono ?_); rintro e w2 ⟨rfl, hb⟩; have BX2 := Aside0.mk ((hb.block w.heap.size HS1.out).trans BX1.out); have HB2 := Aside0.mk (HB1.out.trans (hb.mono HB1.out.size)); clear hb x3; have x1 := (blk_cell BX2.out 1).trans rfl; have x2 := (blk_cell BX2.out 2).trans rfl; have x3 := (blk_cell BX2.out 3).trans rfl; simp only [List.getElem?_toArray, List.getElem?_cons_zero, List.getElem?_cons_succ] at x1 x2 x3; obtain ⟨ad, rfl, hc0, hc1⟩ := HXC.out _ HB2.out; simp only [Int.toNat_natCast] at hc0 hc1))
      go_quiet (fail)
      go_wp2
      all_goals
        go_ret3
        exact ⟨by first | (rw [HE.out, if_pos (by omega)]; rfl) | (rw [HE.out, if_neg (by omega)]; rfl), by repeat (first | exact HB2.out | apply pw_below_drewN | apply below_drew)⟩
    | false =>
      have h0 := hh2 hk
      rw [hk] at HBS
      rw [h0] at HE
      have hs1 : IntKind.i64.wrap (0 + L) = L := by rw [IntKind.wrap_i64]; omega
      have hs2 : IntKind.i64.wrap L = L := by rw [IntKind.wrap_i64]; omega
      clear hh1 hh2 hk hle h0
      generalize plcK l key = p at *
      go_enter Try.func19, Try.ntmps19
      go_wp2_with fail
      have hW0 := Aside0.mk (show Below w.heap.size w (w.alloc (.cells #[.int .i64 K, .int .i64 T, .int .i64 L, .slice A l.length c] 24)) by repeat (first | exact Below.refl _ _ | apply below_alloc))
      have BX := Aside0.mk (heap_alloc_new w (.cells #[.int .i64 K, .int .i64 T, .int .i64 L, .slice A l.length c] 24))
      have HS := Aside0.mk (show w.heap.size < (w.alloc (.cells #[.int .i64 K, .int .i64 T, .int .i64 L, .slice A l.length c] 24)).heap.size by simp)
      go_wp2_with (first
        | (go_at_call 16; (with_reducible refine (HC.out _ hW0.out).mono ?_); rintro e w1 ⟨rfl, hb⟩; have BX1 := Aside0.mk ((hb.block w.heap.size HS.out).trans BX.out); have HB1 := Aside0.mk (hW0.out.trans (hb.mono hW0.out.size)); have HS1 := Aside0.mk (Nat.lt_of_lt_of_le HS.out hb.size); clear hb; have x3 := (blk_cell BX1.out 3).trans rfl; simp only [List.getElem?_toArray, List.getElem?_cons_zero, List.getElem?_cons_succ] at x3)
        | (go_at_call 40; (with_reducible refine (HBS.out _ HB1.out).mono ?_); rintro e w2 ⟨rfl, hb⟩; have BX2 := Aside0.mk ((hb.block w.heap.size HS1.out).trans BX1.out); have HB2 := Aside0.mk (HB1.out.trans (hb.mono HB1.out.size)); clear hb x3; have x1 := (blk_cell BX2.out 1).trans rfl; have x2 := (blk_cell BX2.out 2).trans rfl; simp only [List.getElem?_toArray, List.getElem?_cons_zero, List.getElem?_cons_succ] at x1 x2))
      go_quiet (fail)
      go_wp2
      all_goals
        go_ret3
        exact ⟨by first | (rw [HE.out, Int.zero_add, if_pos (by omega)]; rfl) | (rw [HE.out, Int.zero_add, if_neg (by omega)]; rfl), by repeat (first | exact HB2.out | apply pw_below_drewN | apply below_drew)⟩
  · have hd : (chkH ⟨K, T, L, l⟩ != 0) = true := by simpa using hz
    have HE := Aside0.mk (show bndH ⟨K, T, L, l⟩ key = (0, 0, 1) by unfold bndH; rw [if_pos hz])
    clear hr hz
    simp only at HC
    generalize chkH ⟨K, T, L, l⟩ = r at *
    go_enter Try.func19, Try.ntmps19
    go_wp2_with fail
    have hW0 := Aside0.mk (show Below w.heap.size w (w.alloc (.cells #[.int .i64 K, .int .i64 T, .int .i64 L, .slice A l.length c] 24)) by repeat (first | exact Below.refl _ _ | apply below_alloc))
    go_wp2_with (go_at_call 16; (with_reducible refine (HC.out _ hW0.out).mono ?_); rintro e w1 ⟨rfl, hb⟩; have HB1 := Aside0.mk (hW0.out.trans (hb.mono hW0.out.size)); clear hb)
    go_ret3
    exact ⟨by rw [HE.out]; rfl, HB1.out⟩
end Go.Proofs.Ytgpkpeefbkcjeaa.H

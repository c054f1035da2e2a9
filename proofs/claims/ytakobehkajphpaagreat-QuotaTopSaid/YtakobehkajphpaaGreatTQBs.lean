/- Label sets in order: the place of one, slices.BinarySearchFunc, slices.Clone. -/
import Derived.Test.YtakobehkajphpaaGreatTQRef
import Derived.Test.YtakobehkajphpaaGreatTRIns
import Derived.BigQuiet
import Derived.Deep.QuietTactic
import Derived.WalkSpells
import Derived.Lib.LazyBuf
namespace Go.Proofs.YtakobehkajphpaaGreat.H
open Go Go.RowKit Go.Proofs.YtakobehkajphpaaGreatW.PrintWords Go.Proofs.YtakobehkajphpaaGreatW.PrintLast Go.Proofs.YtakobehkajphpaaGreatW.PrintMore Go.Proofs.YtakobehkajphpaaGreat.PAll
attribute [local go_sem] max2_int min2_int max_two min_two max_three min_three max_four min_four
set_option linter.unusedVariables false
set_option linter.unusedSimpArgs false

def ltS (a b : L94) : Bool := decide (cmpLL a b < 0)
theorem lt_trans' {a b d : L94} (h1 : cmpLL a b < 0) (h2 : cmpLL b d < 0) : cmpLL a d < 0 := by
  have h := cmpLL_cm.trans a b d (by omega) (by omega)
  by_cases e : cmpLL a d = 0
  · have e' := (cmpLL_cm.zero a d).1 e
    subst e'
    have := cmpLL_cm.anti a b
    omega
  · omega
theorem ltS_trans {a b d : L94} (h1 : ltS a b = true) (h2 : ltS b d = true) : ltS a d = true := decide_eq_true (lt_trans' (of_decide_eq_true h1) (of_decide_eq_true h2))
abbrev SrtS (s : List L94) : Prop := s.Pairwise fun a b => ltS a b = true
theorem SrtS.lt {l : List L94} (h : SrtS l) {i j : Nat} (hi : i < l.length) (hj : j < l.length) (hij : i < j) : ltS l[i] l[j] = true := List.pairwise_iff_getElem.1 h i j hi hj hij
theorem serL_some : ∀ (s : List L94) (q : L94), serL (some q) s = true ↔ (∀ l ∈ s, chk l = 0) ∧ SrtS (q :: s)
  | [], q => by simp [serL]
  | l :: s, q => by
    simp only [serL, hdB, Bool.and_eq_true, decide_eq_true_iff, serL_some s l]
    constructor
    · rintro ⟨⟨h1, h2⟩, h3, h4⟩
      refine ⟨fun x hx => ?_, List.pairwise_cons.2 ⟨fun x hx => ?_, h4⟩⟩
      · rcases List.mem_cons.1 hx with rfl | hx
        · exact h1
        · exact h3 x hx
      · rcases List.mem_cons.1 hx with rfl | hx
        · exact decide_eq_true h2
        · exact ltS_trans (decide_eq_true h2) ((List.pairwise_cons.1 h4).1 x hx)
    · rintro ⟨h1, h2⟩
      obtain ⟨h3, h4⟩ := List.pairwise_cons.1 h2
      exact ⟨⟨h1 l (by simp), of_decide_eq_true (h3 l (by simp))⟩, fun x hx => h1 x (by simp [hx]), h4⟩
theorem serL_iff (s : List L94) : serL none s = true ↔ (∀ l ∈ s, chk l = 0) ∧ SrtS s := by
  cases s with
  | nil => simp [serL]
  | cons l s =>
    simp only [serL, hdB, Bool.and_eq_true, decide_eq_true_iff, serL_some s l]
    constructor
    · rintro ⟨h1, h3, h4⟩
      exact ⟨fun x hx => by rcases List.mem_cons.1 hx with rfl | hx; exact h1; exact h3 x hx, h4⟩
    · rintro ⟨h1, h4⟩
      exact ⟨h1 l (by simp), fun x hx => h1 x (by simp [hx]), h4⟩
/-- The index of the first item that is not before a key. -/
def plcS (l : List L94) (t : L94) : Nat := (l.takeWhile fun x => ltS x t).length
theorem plcS_le (l : List L94) (t : L94) : plcS l t ≤ l.length := (List.takeWhile_sublist _).length_le
theorem plcS_eq (t : L94) : ∀ (l : List L94) (i : Nat), i ≤ l.length → (∀ k (h : k < l.length), k < i → ltS l[k] t = true) → (∀ (h : i < l.length), ltS l[i] t = false) → plcS l t = i
  | [], i, hi, _, _ => by simp at hi; subst hi; rfl
  | x :: l, 0, _, _, h2 => by
    have := h2 (by simp)
    simp only [List.getElem_cons_zero] at this
    simp [plcS, List.takeWhile_cons, this]
  | x :: l, i + 1, hi, h1, h2 => by
    have h0 := h1 0 (by simp) (by omega)
    simp only [List.getElem_cons_zero] at h0
    have ih := plcS_eq t l i (by simpa using hi) (fun k h hk => by have := h1 (k + 1) (by simpa using h) (by omega); simpa using this) (fun h => by have := h2 (by simpa using h); simpa using this)
    have e : plcS (x :: l) t = plcS l t + 1 := by simp [plcS, List.takeWhile_cons, h0]
    rw [e, ih]

/-- Is it there? -/
def hasS (l : List L94) (t : L94) : Bool := match l[plcS l t]? with
  | some x => cmpLL x t == 0
  | none => false
def insS (s : List L94) (i : Nat) (l : L94) : List L94 := s.take i ++ l :: s.drop i
theorem insS_len (s : List L94) (i : Nat) (l : L94) : (insS s i l).length = s.length + 1 := by simp [insS]; omega
set_option maxRecDepth 100000 in
set_option maxHeartbeats 4000000 in
theorem BSearch_calls (A : Option Addr) (c : Nat) (l : List L94) (A' : Option Addr) (c' : Nat) (t : L94) (w : World) (hr : Kd.C kLL w A l.length l) (hc : l.length ≤ c) (hl : l.length ≤ 1000) (hL : ∀ x ∈ l, x.length ≤ 1000) (ha : SrtS l) (hr' : Kd.C k94 w A' t.length t) (hc' : t.length ≤ c') :
    Calls Tryz.prog 53 #[.slice A l.length c, .slice A' t.length c', .func (.func 45) #[] #[]] w fun e w' => e = .returned (.tuple #[.int .i64 (plcS l t), .bool (hasS l t)]) ∧ Below w.heap.size w w' := by
  have HR := Aside0.mk hr
  have HAS := Aside0.mk ha
  have HT := Aside0.mk hr'
  have HLN := Aside0.mk hL
  clear hr ha hr' hL
  have hu := Tryz.underlying25
  go_enter Tryz.func53, Tryz.ntmps53
  go_wp2_with fail
  go_loopg [9, 10] (l.length) (fun kq v9 v10 w' => ∃ i j : Nat, v9 = .int .i64 i ∧ v10 = .int .i64 j ∧ i ≤ j ∧ j ≤ l.length ∧ Aside0 (kq = j - i) ∧ Aside0 (Below w.heap.size w w') ∧ Aside0 (∀ k (h : k < l.length), k < i → ltS l[k] t = true) ∧ Aside0 (∀ k (h : k < l.length), j ≤ k → ltS l[k] t = false))
  case atStart => exact ⟨0, l.length, rfl, rfl, by omega, by omega, ⟨by omega⟩, ⟨Below.refl _ _⟩, ⟨fun k h hk => by omega⟩, ⟨fun k h hk => by omega⟩⟩
  case round =>
    obtain ⟨i, j, rfl, rfl, hij, hj, HK, HB, HL, HU⟩ := hrel
    by_cases hlt : i < j
    · obtain ⟨m, hm⟩ : ∃ m : Nat, (i + j) / 2 = m := ⟨_, rfl⟩
      have him : i ≤ m := by omega
      have hmj : m < j := by omega
      have hmd : ((i : Int) + (j : Int)) / 2 = (m : Int) := by omega
      have hml : m < l.length := by omega
      obtain ⟨ad, A1, c1, e1, hcell, hle, hC⟩ := slice_at (Kd.C_below HR.out HB.out) m hml
      cases e1
      have pl : (0 ≤ (m : Int)) = True := eq_true (by omega)
      clear hm
      by_cases hx : ltS l[m] t = true
      · have HF := Aside0.mk (Compare_calls A1 A' c1 c' l[m] t wr hC hle (Kd.C_below HT.out HB.out) hc' (by have := HLN.out l[m] (List.getElem_mem (by omega)); omega))
        clear hC
        obtain ⟨cv, hcv⟩ : ∃ cv, cmpLL l[m] t = cv := ⟨_, rfl⟩
        have hcv0 : cv < 0 := by rw [← hcv]; exact of_decide_eq_true hx
        rw [hcv] at HF
        have dcv : decide (cv < 0) = true := decide_eq_true hcv0
        clear hcv hcv0
        have HX := Aside0.mk (show ∀ k (h : k < l.length), k < m + 1 → ltS l[k] t = true from fun k h hk => by
          by_cases e : k = m
          · subst e; exact hx
          · exact ltS_trans (HAS.out.lt h hml (by omega)) hx)
        clear hx
        generalize l[m] = x at *
        go_wp2_with (go_at_call 45; (with_reducible refine HF.out.mono ?_); rintro e w1 ⟨rfl, hb⟩; have HB1 := Aside0.mk (HB.out.trans (hb.mono HB.out.size)); clear hb)
        go_roundg (j - (m + 1))
        case measure => have := HK.out; omega
        case rel => exact ⟨m + 1, j, by simp, rfl, by omega, hj, ⟨rfl⟩, HB1, HX, HU⟩
      · have hx' : ltS l[m] t = false := by simpa using hx
        have HF := Aside0.mk (Compare_calls A1 A' c1 c' l[m] t wr hC hle (Kd.C_below HT.out HB.out) hc' (by have := HLN.out l[m] (List.getElem_mem (by omega)); omega))
        clear hC
        obtain ⟨cv, hcv⟩ : ∃ cv, cmpLL l[m] t = cv := ⟨_, rfl⟩
        have hcv0 : ¬ cv < 0 := by rw [← hcv]; exact of_decide_eq_false hx'
        rw [hcv] at HF
        have HX := Aside0.mk (show ∀ k (h : k < l.length), m ≤ k → ltS l[k] t = false from fun k h hk => by
          by_cases e : m = k
          · subst e; exact hx'
          · cases hh : ltS l[k] t
            · rfl
            · rw [ltS_trans (HAS.out.lt hml h (by omega)) hh] at hx'; cases hx')
        clear hx hx' hcv
        have dcv : decide (cv < 0) = false := decide_eq_false (by omega)
        generalize l[m] = x at *
        go_wp2_with (go_at_call 45; (with_reducible refine HF.out.mono ?_); rintro e w1 ⟨rfl, hb⟩; have HB1 := Aside0.mk (HB.out.trans (hb.mono HB.out.size)); clear hb)
        go_roundg (m - i)
        case measure => have := HK.out; omega
        case rel => exact ⟨i, m, rfl, rfl, him, by omega, ⟨rfl⟩, HB1, HL, HX⟩
    · have hij' : i = j := by omega
      subst hij'
      have HP := Aside0.mk (plcS_eq t l i hj HL.out (fun h => HU.out i h (Nat.le_refl _)))
      by_cases hlen : i < l.length
      · obtain ⟨ad, A1, c1, e1, hcell, hle, hC⟩ := slice_at (Kd.C_below HR.out HB.out) i hlen
        cases e1
        have pl : (0 ≤ (i : Int)) = True := eq_true (by omega)
        have dl : decide (i < l.length) = true := decide_eq_true hlen
        have HH := Aside0.mk (show hasS l t = (cmpLL l[i] t == 0) by
          unfold hasS
          rw [HP.out, List.getElem?_eq_getElem hlen])
        have HF := Aside0.mk (Compare_calls A1 A' c1 c' l[i] t wr hC hle (Kd.C_below HT.out HB.out) hc' (by have := HLN.out l[i] (List.getElem_mem (by omega)); omega))
        clear hC
        generalize cmpLL l[i] t = cv at *
        generalize l[i] = x at *
        go_wp2_with (go_at_call 45; (with_reducible refine HF.out.mono ?_); rintro e w1 ⟨rfl, hb⟩; have HB1 := Aside0.mk (HB.out.trans (hb.mono HB.out.size)); clear hb)
        go_ret2
        exact ⟨by rw [HH.out, HP.out]; rfl, HB1.out⟩
      · have dl : decide (i < l.length) = false := decide_eq_false hlen
        have HH := Aside0.mk (show hasS l t = false by
          unfold hasS
          rw [HP.out, List.getElem?_eq_none (by omega)])
        go_wp2
        go_ret2
        exact ⟨by rw [HH.out, HP.out]; rfl, HB.out⟩

/-- Headers that read as some lists, wherever nothing but what is not ok has turned. -/
def RawS (w : World) (ok : Nat → Prop) (vs : List RS.SL) (ls : List L94) : Prop := vs.length = ls.length ∧ ∀ i (h : i < ls.length), ∃ A c, vs[i]? = some (A, ls[i].length, c) ∧ ls[i].length ≤ c ∧ Kd.F k94 w ok A ls[i].length ls[i]
theorem RawS.step {w w' : World} {ok : Nat → Prop} {vs : List RS.SL} {ls : List L94} (h : RawS w ok vs ls) (hm : ∀ k, ok k → k < w.heap.size → w'.heap[k]? = w.heap[k]?) : RawS w' ok vs ls :=
  ⟨h.1, fun i hi => by obtain ⟨A, c, e, hl, hC⟩ := h.2 i hi; exact ⟨A, c, e, hl, Kd.F_step hC hm⟩⟩
theorem RawS.below {w w' : World} {ok : Nat → Prop} {vs : List RS.SL} {ls : List L94} (h : RawS w ok vs ls) (hb : Below w.heap.size w w') : RawS w' ok vs ls := h.step (fun k _ hlt => hb.block k hlt)
theorem raw_of_C {w : World} {ok : Nat → Prop} {ad : Addr} {ls : List L94} (h : Kd.F kLL w ok (some ad) ls.length ls) : ∃ vs, RawS w ok vs ls ∧ ∀ j u, (RS.lcells vs)[j]? = some u → w.cell? (ad.add j) = some u := by
  have key : ∀ i : Fin ls.length, ∃ v : RS.SL, w.cell? (ad.add i) = some (RS.svl v) ∧ ∃ A c, v = (A, (ls[i.1]'i.2).length, c) ∧ (ls[i.1]'i.2).length ≤ c ∧ Kd.F k94 w ok A (ls[i.1]'i.2).length (ls[i.1]'i.2) := fun i => by
    have hi := i.2
    obtain ⟨ad', cs, he, hcl, hK, hcc, _⟩ := Kd.F_get h [] (i.1 : Int) (by omega) (by omega)
    cases he
    have hg : ls.getD ((i.1 : Int)).toNat [] = ls[i.1] := by simp [List.getD_eq_getElem?_getD, List.getElem?_eq_getElem hi]
    rw [hg] at hK
    obtain ⟨A', c', rfl, hl, hF⟩ := Kd.FK_slice_open hK
    have h0 := hcc 0 _ rfl
    exact ⟨(A', (ls[i.1]'i.2).length, c'), by simpa [Kd.slice, kLL] using h0, A', c', rfl, hl, hF⟩
  refine ⟨List.ofFn fun i => Classical.choose (key i), ⟨by simp, fun i hi => ?_⟩, fun j u hj => ?_⟩
  · obtain ⟨_, A, c, e, hl, hC⟩ := Classical.choose_spec (key ⟨i, hi⟩)
    refine ⟨A, c, ?_, hl, hC⟩
    rw [List.getElem?_ofFn, dif_pos hi, e]
  · unfold RS.lcells at hj
    rw [List.getElem?_map, List.getElem?_ofFn] at hj
    by_cases hi : j < ls.length
    · rw [dif_pos hi] at hj
      obtain ⟨h1, _⟩ := Classical.choose_spec (key ⟨j, hi⟩)
      rw [← Option.some.inj hj]
      exact h1
    · rw [dif_neg hi] at hj; cases hj
theorem C_of_raw {w : World} {base : Nat} {v : Value} {vs : List RS.SL} {ls : List L94} (hown : w.ownsRow base 25 1 v ls.length (RS.lcells vs)) {ok : Nat → Prop} (h : RawS w ok vs ls) : ∃ A c, v = .slice A ls.length c ∧ ls.length ≤ c ∧ Kd.C kLL w A ls.length ls := by
  rcases hown.2 with ⟨rfl, h0⟩ | ⟨g, cap, cur, rfl, hbg, hg, hle, hcm, hsz, htk⟩
  · have e : ls = [] := List.eq_nil_of_length_eq_zero h0
    subst e
    exact ⟨none, 0, rfl, Nat.le_refl _, Kd.C_nil _ _⟩
  · refine ⟨_, _, rfl, hle, rfl, by unfold maxLen at hcm; omega, fun _ => ⟨_, rfl, fun j p hj => ?_⟩⟩
    obtain ⟨hlt, hp⟩ := List.getElem?_eq_some_iff.1 hj
    obtain ⟨A, c, e, hl, hF⟩ := h.2 j hlt
    have hC := Kd.F_now hF
    rw [hp] at e hl hC
    refine ⟨[.slice A p.length c], rfl, ⟨A, c, rfl, hl, hC⟩, fun i u hu => ?_⟩
    rcases i with _ | i
    · simp at hu
      subst hu
      rw [add_plain]
      refine cell_of_heap hg _ _ ?_
      have e2 : (RS.lcells vs)[j]? = some (.slice A p.length c) := by unfold RS.lcells; rw [List.getElem?_map, e]; rfl
      rw [← Array.getElem?_toList, ← e2, ← htk, List.getElem?_take]
      show _ = if j < ls.length * 1 then _ else _
      rw [if_pos (by omega)]
      congr 1
      show _ = _
      simp [kLL, Kd.slice]
    · simp at hu
theorem RawS.ins {w : World} {ok : Nat → Prop} {vs : List RS.SL} {ls : List L94} (h : RawS w ok vs ls) {i : Nat} (hi : i ≤ ls.length) {A : Option Addr} {c : Nat} {l : L94} (hl : l.length ≤ c) (hC : Kd.F k94 w ok A l.length l) : RawS w ok (RS.insL vs i (A, l.length, c)) (insS ls i l) := by
  have hvi : (vs.take i).length = i := by rw [List.length_take, h.1]; omega
  have hli : (ls.take i).length = i := by rw [List.length_take]; omega
  refine ⟨by rw [RS.insL_length, insS_len, h.1], fun k hk => ?_⟩
  unfold RS.insL insS at *
  rw [List.length_append, List.length_cons, hli, List.length_drop] at hk
  rcases Nat.lt_trichotomy k i with hlt | heq | hgt
  · obtain ⟨A', c', e, h1, h2⟩ := h.2 k (by omega)
    have e1 : (ls.take i ++ l :: ls.drop i)[k]'(by simp; omega) = ls[k] := by rw [List.getElem_append_left (by omega), List.getElem_take]
    rw [e1, List.getElem?_append_left (by omega), List.getElem?_take, if_pos hlt]
    exact ⟨A', c', e, h1, h2⟩
  · subst heq
    have e1 : (ls.take k ++ l :: ls.drop k)[k]'(by simp; omega) = l := by
      rw [List.getElem_append_right (by omega)]
      simp [hli]
    rw [e1, List.getElem?_append_right (by omega), hvi, Nat.sub_self]
    exact ⟨A, c, rfl, hl, hC⟩
  · obtain ⟨m, rfl⟩ : ∃ m, k = i + 1 + m := ⟨k - (i + 1), by omega⟩
    obtain ⟨A', c', e, h1, h2⟩ := h.2 (i + m) (by omega)
    have e1 : (ls.take i ++ l :: ls.drop i)[i + 1 + m]'(by simp; omega) = ls[i + m] := by
      rw [List.getElem_append_right (by omega)]
      simp only [hli, show i + 1 + m - i = m + 1 by omega, List.getElem_cons_succ, List.getElem_drop]
    rw [e1, List.getElem?_append_right (by omega), hvi, show i + 1 + m - i = m + 1 by omega, List.getElem?_cons_succ, List.getElem?_drop]
    exact ⟨A', c', e, h1, h2⟩
theorem lc_one (vs : List RS.SL) : ∀ v ∈ RS.lcells vs, v.oneCell' = true := fun v hv => by
  simp only [RS.lcells, List.mem_map] at hv
  obtain ⟨y, _, rfl⟩ := hv
  rfl
theorem own_emptyT (w : World) (T : TypeId) : (w.alloc (.cells #[] T)).ownsRow w.heap.size T 1 (.slice (some ⟨w.heap.size, 0, none⟩) 0 0) 0 [] :=
  ⟨by simp, .inr ⟨w.heap.size, 0, #[], rfl, Nat.le_refl _, heap_alloc_new w _, Nat.le_refl _, by unfold maxLen; omega, by simp, by simp⟩⟩

set_option maxRecDepth 100000 in
set_option maxHeartbeats 4000000 in
theorem CloneLL_calls (A : Option Addr) (c : Nat) (ls : List L94) (w : World) (ok : Nat → Prop) (hr : Kd.F kLL w ok A ls.length ls) (hc : ls.length ≤ c) (hl : ls.length ≤ 1000) :
    Calls Tryz.prog 54 #[.slice A ls.length c] w fun e w' => ∃ v vs, e = .returned v ∧ w'.ownsRow w.heap.size 25 1 v ls.length (RS.lcells vs) ∧ RawS w ok vs ls ∧ Below w.heap.size w w' := by
  obtain ⟨i0, hi, hz0, hz1, hz2⟩ := info_parts RS.infoL
  cases A with
  | none =>
    have h0 : ls.length = 0 := by
      rcases Nat.eq_zero_or_pos ls.length with h | h
      · exact h
      · obtain ⟨ad, _, _, e1, _⟩ := slice_at (Kd.F_now hr) 0 h
        cases e1
    have e : ls = [] := List.eq_nil_of_length_eq_zero h0
    subst e
    have hnil : ∀ w, (binOp .eql 22 (.slice none 0 c) (.slice none 0 0)).run Tryz.prog w = .ok (.bool true) w := fun w => Lib.run_eql_slice_nil w 22 25 none 0 c 0 0 Tryz.underlying22
    simp only [List.length_nil]
    go_enter Tryz.func54, Tryz.ntmps54
    go_wp2
    go_ret
    exact ⟨_, [], rfl, World.ownsRow_nil _ _ _ _, ⟨rfl, fun i hi => by simp at hi⟩, Below.refl _ _⟩
  | some ad =>
    obtain ⟨vs, hraw, hcell⟩ := raw_of_C hr
    have hcs := Aside0.mk hcell
    have HRW := Aside0.mk hraw
    have hnil : ∀ w, (binOp .eql 22 (.slice (some ad) ls.length c) (.slice none 0 0)).run Tryz.prog w = .ok (.bool false) w := fun w => Lib.run_eql_slice_nil w 22 25 (some ad) ls.length c 0 0 Tryz.underlying22
    have HLN := Aside0.mk hraw.1
    clear hr hcell hraw
    go_enter Tryz.func54, Tryz.ntmps54
    go_wp2_with (at_builtin; refine wpList_append_own _ rfl _ _ 22 rfl w.heap.size 25 i0 (.slice none 0 0) 1 24 Tryz.underlying22 hi hz0 hz1 hz2 rfl (by decide) _ 0 [] rfl (own_emptyT w _) ad ls.length c (RS.lcells vs) rfl (by rw [RS.lcells_length, HLN.out]; simp) (fun j u hu => ((below_alloc (Below.refl _ w) _).cell (World.block_lt_of_cell? w _ (hcs.out j u hu))).trans (hcs.out j u hu)) (lc_one vs) (by unfold maxLen; omega) (by omega) (by simp) ?_; intro v' w1 hown' hgrow _)
    go_ret
    have hB := (below_alloc (Below.refl _ w) _).grown hgrow (by simp) (fun k hk => by cases hk; exact Nat.le_refl _)
    exact ⟨_, vs, rfl, by simpa using hown', HRW.out, hB⟩
end Go.Proofs.YtakobehkajphpaaGreat.H

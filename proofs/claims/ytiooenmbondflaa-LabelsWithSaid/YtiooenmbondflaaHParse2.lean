/- labels.parse: its two closures, skip and label, and the loop. -/
import Derived.Test.YtiooenmbondflaaHParse1
import Derived.Test.YtiooenmbondflaaHSelected
namespace Go.Proofs.Ytiooenmbondflaa.H
open Go Go.RowKit Go.Proofs.YtiooenmbondflaaW.PrintWords Go.Proofs.YtiooenmbondflaaW.PrintLast Go.Proofs.YtiooenmbondflaaW.PrintMore Go.Proofs.Ytiooenmbondflaa.PAll
set_option linter.unusedVariables false
set_option linter.unusedSimpArgs false

/-- Does a text have the sign at its begin? -/
def preB (sign l : List UInt8) : Bool := l.take sign.length == sign

set_option maxHeartbeats 1000000 in
theorem skip_calls (s sign : ByteArray) (i Bs Ba : Nat) (w : World) (hs : Boxed w Bs 9 (.string s)) (ha : Boxed w Ba 3 (.int .i64 (i : Int))) (hi : i ≤ s.size) (hsz : s.size ≤ 1000000) (hg : sign.size ≤ 100) :
    Calls Try.prog 55 #[.string sign, .pointer (some ⟨Bs, 0, none⟩), .pointer (some ⟨Ba, 0, none⟩)] w fun e w' => e = .returned (.bool (preB (ab sign) ((ab s).drop i))) ∧
      Boxed w' Ba 3 (.int .i64 ((if preB (ab sign) ((ab s).drop i) then i + sign.size else i : Nat) : Int)) ∧ w.grownBy w' (some Ba) := by
  have hl := ab_length s
  have hlg := ab_length sign
  have c1 := hs.cell
  have c2 := ha.cell
  have f2 := ha.frozen
  have hu9 := Try.underlying9
  by_cases h1 : (s.size : Int) - (i : Int) < (sign.size : Int)
  · have hp : preB (ab sign) ((ab s).drop i) = false := by
      unfold preB
      apply beq_eq_false_iff_ne.2
      intro h
      have := congrArg List.length h
      rw [List.length_take, List.length_drop] at this
      omega
    rw [hp]
    have HA := Aside0.mk ha
    clear hp ha hs
    have hd : decide ((s.size : Int) - (i : Int) < (sign.size : Int)) = true := decide_eq_true h1
    go_enter Try.func55, Try.ntmps55
    go_wp2
    go_ret
    exact ⟨rfl, HA.out, World.grownBy.refl _ _⟩
  · have hd : decide ((s.size : Int) - (i : Int) < (sign.size : Int)) = false := decide_eq_false h1
    have he : ab (s.extract i (i + sign.size)) = ((ab s).drop i).take (ab sign).length := by
      rw [ab_extract s i (i + sign.size) (by omega), List.drop_take, show i + sign.size - i = (ab sign).length by omega]
    have hsl : ∀ w, (Instr.slice 9 (.string s) (some (.int .i64 (i : Int))) (some (.int .i64 ((i : Int) + (sign.size : Int)))) none).run Try.prog w = .ok (.string (s.extract i (i + sign.size))) w := fun w => by
      have := run_slice_string (P := Try.prog) w 9 s .i64 .i64 (i : Int) ((i : Int) + (sign.size : Int)) Try.underlying9 (by omega) (by omega) (by omega)
      rw [this, Int.toNat_natCast, show ((i : Int) + (sign.size : Int)).toNat = i + sign.size by omega]
    cases hp : preB (ab sign) ((ab s).drop i) with
    | false =>
      have hq : ((s.extract i (i + sign.size)).toList == sign.toList) = false := by
        rw [toList_ab, toList_ab, he]; exact hp
      have HA := Aside0.mk ha
      clear hp ha hs he
      go_enter Try.func55, Try.ntmps55
      go_wp2
      go_ret
      exact ⟨rfl, HA.out, World.grownBy.refl _ _⟩
    | true =>
      have hq : ((s.extract i (i + sign.size)).toList == sign.toList) = true := by
        rw [toList_ab, toList_ab, he]; exact hp
      have HA := Aside0.mk (ha.set (.int .i64 ((i + sign.size : Nat) : Int)))
      clear hp ha hs he
      go_enter Try.func55, Try.ntmps55
      go_wp2
      go_ret
      exact ⟨rfl, by simpa using HA.out, grownBy_setCell' _ _ _⟩

theorem dw_head : ∀ (l : List UInt8) (c : UInt8) (r : List UInt8), l.dropWhile nb = c :: r → nb c = false
  | [], c, r, h => by simp at h
  | x :: l, c, r, h => by
    rw [List.dropWhile_cons] at h
    cases hx : nb x
    · rw [hx] at h
      simp at h
      rw [← h.1]; exact hx
    · rw [hx] at h
      exact dw_head l c r (by simpa using h)
theorem preB_len (l : List UInt8) (h : preB [61, 34] l = true) : 2 ≤ l.length := by
  unfold preB at h
  have := congrArg List.length (beq_iff_eq.1 h)
  rw [List.length_take] at this
  simp at this; omega
theorem nopre_none (l : List UInt8) {α : Type} (g : List UInt8 → Option α) (h : preB [61, 34] l = false) : (match (generalizing := false) l with
  | c :: d :: r => if c.toNat = 61 ∧ d.toNat = 34 then g r else none
  | _ => none) = none := by
  match l, h with
  | [], _ => rfl
  | [_], _ => rfl
  | c :: d :: r, h =>
    simp only []
    rw [if_neg]
    rintro ⟨h1, h2⟩
    have e1 : c = 61 := UInt8.toNat_inj.1 h1
    have e2 : d = 34 := UInt8.toNat_inj.1 h2
    subst e1; subst e2
    simp [preB] at h
theorem pre_some (l : List UInt8) {α : Type} (g : List UInt8 → Option α) (h : preB [61, 34] l = true) : (match (generalizing := false) l with
  | c :: d :: r => if c.toNat = 61 ∧ d.toNat = 34 then g r else none
  | _ => none) = g (l.drop 2) := by
  match l, h with
  | [], h => simp [preB] at h
  | [_], h => simp [preB] at h
  | c :: d :: r, h =>
    simp [preB] at h
    obtain ⟨rfl, rfl⟩ := h
    rfl
theorem pre_some' (l : List UInt8) {α : Type} (g : List UInt8 → Option α) (h : preB [61, 34] l = true) : (match (generalizing := false) l with
  | c :: d :: r => if c.toNat = 61 ∧ d.toNat = 34 then g r else none
  | _ => none) = g (l.drop 2) := by
  cases l with
  | nil => simp [preB] at h
  | cons c l =>
    cases l with
    | nil => simp [preB] at h
    | cons d r =>
      simp [preB] at h
      obtain ⟨rfl, rfl⟩ := h
      rfl
theorem frozen_of_heap {W : World} {g : Nat} {cs : Array Value} {e : Nat} (h : W.heap[g]? = some (.cells cs e (0, 0))) (o : Nat) : W.frozen? ⟨g, o, none⟩ = false := by
  simp [World.frozen?, h]
theorem run_slice_string_l' {P : Program} (w : World) (t : TypeId) (s : ByteArray) (k : IntKind) (i : Int) (h : P.underlying t = some .string) (h0 : 0 ≤ i) (h1 : i ≤ s.size) :
    (Instr.slice t (.string s) (some (.int k i)) none none).run P w = .ok (.string (s.extract i.toNat s.size)) w := by
  rw [run_slice_string_from_if w t s k i h, if_pos ⟨h0, h1⟩]
theorem tw_all : ∀ (l : List UInt8) (c : UInt8), c ∈ l.takeWhile nb → nb c = true
  | [], c, h => by simp at h
  | x :: l, c, h => by
    rw [List.takeWhile_cons] at h
    cases hx : nb x
    · rw [hx] at h; simp at h
    · rw [hx] at h
      simp only [if_true, List.mem_cons] at h
      rcases h with rfl | h
      · exact hx
      · exact tw_all l c h
theorem bt_at' (s : ByteArray) (j : Nat) : ∀ h : j < s.size, ((s[j]'h).toNat : Int) = bt s (j : Int) := fun h => by
  have := bt_at s (j : Int) (by simpa using h)
  simpa using this

/-- What stands in memory while a label is read: the place, the text, the closure skip, the label's own cells. -/
structure LS (w0 : World) (s : ByteArray) (Ba Bs Bk B3 : Nat) (W : World) (j : Nat) : Prop where
  a : Boxed W Ba 3 (.int .i64 (j : Int))
  s : Boxed W Bs 9 (.string s)
  k : Boxed W Bk 55 (.func (.func 55) #[] #[.pointer (some ⟨Bs, 0, none⟩), .pointer (some ⟨Ba, 0, none⟩)])
  r : ∃ x y, W.heap[B3]? = some (.cells #[.string x, .string y] 32 (0, 0))
  g : w0.grownBy W (some Ba)

theorem grownBy_trans {a b c : World} {row : Option Nat} (h : a.grownBy b row) (k : b.grownBy c row) : a.grownBy c row :=
  ⟨k.os.trans h.os, k.tape.trans h.tape, k.output.trans h.output, Nat.le_trans h.size k.size, fun i hi hr => (k.block i (Nat.lt_of_lt_of_le hi h.size) hr).trans (h.block i hi hr)⟩

theorem LS.step {w0 W W' : World} {s : ByteArray} {Ba Bs Bk B3 j j' : Nat} (h : LS w0 s Ba Bs Bk B3 W j) (h1 : Bs ≠ Ba) (h2 : Bk ≠ Ba) (h3 : B3 ≠ Ba) (ha : Boxed W' Ba 3 (.int .i64 (j' : Int))) (hg : W.grownBy W' (some Ba)) : LS w0 s Ba Bs Bk B3 W' j' :=
  ⟨ha, h.s.kept hg (by simp [h1]), h.k.kept hg (by simp [h2]), by
    obtain ⟨x, y, hr⟩ := h.r
    exact ⟨x, y, (hg.block B3 (Array.getElem?_eq_some_iff.1 hr).1 (by simp [h3])).trans hr⟩, grownBy_trans h.g hg⟩
theorem LS.below {w0 W W' : World} {s : ByteArray} {Ba Bs Bk B3 j : Nat} (h : LS w0 s Ba Bs Bk B3 W j) (hb : Below W.heap.size W W') : LS w0 s Ba Bs Bk B3 W' j :=
  have hg := grown_of_below hb none
  ⟨h.a.kept hg (by simp), h.s.kept hg (by simp), h.k.kept hg (by simp), by
    obtain ⟨x, y, hr⟩ := h.r
    exact ⟨x, y, (hb.block B3 (Array.getElem?_eq_some_iff.1 hr).1).trans hr⟩, grownBy_trans h.g (grown_of_below hb _)⟩
theorem LS.drewN {w0 W : World} {s : ByteArray} {Ba Bs Bk B3 j : Nat} (h : LS w0 s Ba Bs Bk B3 W j) (n : Nat) : LS w0 s Ba Bs Bk B3 (W.drewN n) j :=
  ⟨h.a, h.s, h.k, h.r, grownBy_trans h.g (grown_of_below (pw_below_drewN (Below.refl _ _) n) _)⟩

theorem two_set {W : World} {g t : Nat} {x y : Value} (u v : Value) (h : W.heap[g]? = some (.cells #[x, y] t (0, 0))) :
    (W.setCell ⟨g, 0, none⟩ u).cell? ⟨g, 0, none⟩ = some u ∧ ((W.setCell ⟨g, 0, none⟩ u).setCell ⟨g, 1, none⟩ v).cell? ⟨g, 1, none⟩ = some v ∧
    ((W.setCell ⟨g, 0, none⟩ u).setCell ⟨g, 1, none⟩ v).heap[g]? = some (.cells #[u, v] t (0, 0)) ∧ W.grownBy ((W.setCell ⟨g, 0, none⟩ u).setCell ⟨g, 1, none⟩ v) (some g) := by
  have h0 : (W.setCell ⟨g, 0, none⟩ u).heap[g]? = some (.cells #[u, y] t (0, 0)) := by
    show (W.heap.modify g _)[g]? = _
    obtain ⟨hlt, hk⟩ := Array.getElem?_eq_some_iff.1 h
    rw [Array.getElem?_eq_getElem (by rw [Array.size_modify]; exact hlt), Array.getElem_modify_self, hk]
    rfl
  have h1 : ((W.setCell ⟨g, 0, none⟩ u).setCell ⟨g, 1, none⟩ v).heap[g]? = some (.cells #[u, v] t (0, 0)) := by
    show ((W.setCell ⟨g, 0, none⟩ u).heap.modify g _)[g]? = _
    obtain ⟨hlt, hk⟩ := Array.getElem?_eq_some_iff.1 h0
    rw [Array.getElem?_eq_getElem (by rw [Array.size_modify]; exact hlt), Array.getElem_modify_self, hk]
    rfl
  refine ⟨cell_of_heap h0 0 _ rfl, cell_of_heap h1 1 _ rfl, h1, ⟨rfl, rfl, rfl, by simp [World.setCell], fun k hk hne => ?_⟩⟩
  have hkg : k ≠ g := fun e => hne (by rw [e])
  rw [Below.heap_setCell _ _ _ k hkg, Below.heap_setCell _ _ _ k hkg]
theorem grown_far {w W W' : World} {row : Option Nat} {g : Nat} (h : w.grownBy W row) (k : W.grownBy W' (some g)) (hg : w.heap.size ≤ g) : w.grownBy W' row :=
  ⟨k.os.trans h.os, k.tape.trans h.tape, k.output.trans h.output, Nat.le_trans h.size k.size, fun i hi hr => (k.block i (Nat.lt_of_lt_of_le hi h.size) (fun e => by cases e; omega)).trans (h.block i hi hr)⟩

/-- What label comes to. -/
def LblPost (w0 : World) (s : ByteArray) (Ba : Nat) (o : Option (S32 × List UInt8)) (e : Ending) (w' : World) : Prop :=
  w0.grownBy w' (some Ba) ∧ match o with
  | none => ∃ x y, e = .returned (.tuple #[.agg #[.string x, .string y], .bool false])
  | some (x, r) => e = .returned (.tuple #[.agg #[.string x.f0, .string x.f1], .bool true]) ∧ Boxed w' Ba 3 (.int .i64 ((s.size - r.length : Nat) : Int))

set_option maxRecDepth 100000 in
set_option maxHeartbeats 4000000 in
theorem label_calls (s : ByteArray) (i Ba Bs Bk : Nat) (w : World) (ha : Boxed w Ba 3 (.int .i64 (i : Int))) (hs : Boxed w Bs 9 (.string s))
    (hk : Boxed w Bk 55 (.func (.func 55) #[] #[.pointer (some ⟨Bs, 0, none⟩), .pointer (some ⟨Ba, 0, none⟩)])) (hi : i ≤ s.size) (hsz : s.size ≤ 1000000) :
    Calls Try.prog 56 #[.pointer (some ⟨Ba, 0, none⟩), .pointer (some ⟨Bs, 0, none⟩), .pointer (some ⟨Bk, 0, none⟩)] w (LblPost w s Ba (lblP ((ab s).drop i))) := by
  have hl := ab_length s
  have hn1 : Bs ≠ Ba := fun e => by subst e; have := hs.symm.trans ha; simp at this
  have hn2 : Bk ≠ Ba := fun e => by subst e; have := hk.symm.trans ha; simp at this
  have hn3 : w.heap.size ≠ Ba := by have := ha.lt; omega
  have HL := Aside0.mk (show LS w s Ba Bs Bk w.heap.size (w.alloc (.cells #[.string ⟨#[]⟩, .string ⟨#[]⟩] 32)) i from
    ⟨ha.alloc _, hs.alloc _, hk.alloc _, ⟨_, _, heap_alloc_new w _⟩, World.grownBy_alloc w _ _⟩)
  have hca := HL.out.a.cell
  have HTW := Aside0.mk (tw_len ((ab s).drop i))
  have HDT := Aside0.mk (drop_tw ((ab s).drop i))
  have HTT := Aside0.mk (take_tw ((ab s).drop i))
  obtain ⟨m, hm⟩ : ∃ m, (((ab s).drop i).takeWhile nb).length = m := ⟨_, rfl⟩
  have HM := Aside0.mk hm
  have hml : i + m ≤ s.size := by
    have := HTW.out
    rw [hm, List.length_drop] at this; omega
  clear hm hs hk ha
  have hu32 := Try.underlying32
  have hu9 := Try.underlying9
  go_enter Try.func56, Try.ntmps56
  go_wp2
  clear hca
  go_loopg [] (m) (fun kq w' => ∃ t : Nat, t ≤ m ∧ Aside0 (kq = m - t) ∧ Aside0 (LS w s Ba Bs Bk w.heap.size w' (i + t)))
  case atStart => exact ⟨0, by omega, ⟨rfl⟩, HL⟩
  case round =>
    clear HL
    obtain ⟨t, ht, HK, HL⟩ := hrel
    have c1 := HL.out.a.cell
    have f1 := HL.out.a.frozen
    have c2 := HL.out.s.cell
    by_cases hlt : t < m
    · have hj : i + t < (ab s).length := by omega
      have hnb : nb (ab s)[i + t] = true := by
        have h1 := HTT.out
        rw [HM.out] at h1
        have h2 : ((ab s).drop i).takeWhile nb = ((ab s).drop i).take m := h1.symm
        have h3 : (ab s)[i + t] ∈ ((ab s).drop i).takeWhile nb := by
          rw [h2]
          refine List.mem_iff_getElem.2 ⟨t, by rw [List.length_take, List.length_drop]; omega, ?_⟩
          simp
        exact tw_all _ _ h3
      have hcall := fun W => labels_isNameByte.calls (bt s ((i + t : Nat) : Int)) true W (by rw [bt_ab s (i + t) hj, isNameByte_f, hnb])
      have HC := Aside0.mk hcall
      have hbt := bt_at' s (i + t)
      have d1 : decide (((i + t : Nat) : Int) < (s.size : Int)) = true := decide_eq_true (by omega)
      clear hcall hnb
      generalize hjj : i + t = j at *
      have HJJ := Aside0.mk hjj
      clear hjj
      have p1 : (0 ≤ (j : Int)) = True := eq_true (by omega)
      have p2 : ((j : Int) < (s.size : Int)) = True := eq_true (by omega)
      go_wp2_with (go_at_call 57; with_reducible (refine (HC.out _).mono ?_); rintro e w' ⟨rfl, ⟨q, rfl⟩⟩; have HL2 := Aside0.mk (HL.out.drewN q); have c3 := HL2.out.a.cell; have f3 := HL2.out.a.frozen)
      --ROUND
      go_roundg (m - (t + 1))
      case measure => have := HK.out; omega
      case rel =>
        refine ⟨t + 1, by omega, ⟨rfl⟩, ⟨?_⟩⟩
        have e : i + (t + 1) = j + 1 := by have := HJJ.out; omega
        rw [e]
        exact HL2.out.step hn1 hn2 hn3 (by simpa using HL2.out.a.set (.int .i64 ((j : Int) + 1))) (grownBy_setCell' _ _ _)
    · have htm : t = m := by omega
      subst htm
      obtain ⟨j, hjj⟩ : ∃ j, i + t = j := ⟨_, rfl⟩
      rw [hjj] at HL c1 hml
      have hNM : ab (s.extract i j) = ((ab s).drop i).takeWhile nb := by
        have h1 := HTT.out
        rw [HM.out] at h1
        rw [ab_extract s i j hml, List.drop_take, show j - i = t by omega]
        exact h1
      have hREST : (ab s).drop j = ((ab s).drop i).dropWhile nb := by
        have h1 := HDT.out
        rw [HM.out, List.drop_drop, hjj] at h1
        exact h1
      have hsl : ∀ w, (Instr.slice 9 (.string s) (some (.int .i64 (i : Int))) (some (.int .i64 (j : Int))) none).run Try.prog w = .ok (.string (s.extract i j)) w := fun w => by
        have := run_slice_string (P := Try.prog) w 9 s .i64 .i64 (i : Int) (j : Int) Try.underlying9 (by omega) (by omega) (by omega)
        rw [this, Int.toNat_natCast, Int.toNat_natCast]
      have hnmlen : t = (((ab s).drop i).takeWhile nb).length := HM.out.symm
      have HNB := Aside0.mk (fun (h : j < (ab s).length) => (show nb (ab s)[j] = false by
        have h1 := hREST
        rw [List.drop_eq_getElem_cons h] at h1
        have h2 := dw_head ((ab s).drop i)
        rw [← h1] at h2
        exact h2 _ _ rfl))
      have HREST := Aside0.mk hREST
      have HNM := Aside0.mk hNM
      have HJ := Aside0.mk hjj
      have HT := Aside0.mk hnmlen
      clear hREST hjj hnmlen HTW HDT HTT HM hlt ht
      generalize hnm : s.extract i j = nm at *
      have hz := toList_ab nm
      have HNMM := Aside0.mk hnm
      clear hnm
      have e0 : ∀ b : Bool, (nm.toList == ([] : List UInt8)) = b → Aside0 ((nm.toList == ([] : List UInt8)) = b) := fun b h => ⟨h⟩
      by_cases h0 : t = 0
      · by_cases hje : j < s.size
        · skip
          have hL : lblP ((ab s).drop i) = none := by
            unfold lblP; rw [if_pos (List.eq_nil_of_length_eq_zero (by have := HT.out; omega))]
          have HLL := Aside0.mk hL
          clear hL
          have hq0 : (nm.toList == ([] : List UInt8)) = true := by rw [hz, HNM.out, List.eq_nil_of_length_eq_zero (l := ((ab s).drop i).takeWhile nb) (by have := HT.out; omega)]; rfl
          clear hz
          have hj : j < (ab s).length := by omega
          have HC := Aside0.mk (fun W => labels_isNameByte.calls (bt s (j : Int)) false W (by rw [bt_ab s j hj, isNameByte_f, HNB.out hj]))
          have hbt := bt_at' s j
          have d1 : decide ((j : Int) < (s.size : Int)) = true := decide_eq_true (by omega)
          have p1 : (0 ≤ (j : Int)) = True := eq_true (by omega)
          have p2 : ((j : Int) < (s.size : Int)) = True := eq_true (by omega)
          go_wp2_with (first | (go_at_call 57; with_reducible (refine (HC.out _).mono ?_); rintro e w' ⟨rfl, ⟨q, rfl⟩⟩; have HL2 := Aside0.mk (HL.out.drewN q); have c3 := HL2.out.a.cell; have c4 := HL2.out.s.cell; have ck := HL2.out.k.cell; obtain ⟨rx, ry, hrr⟩ := HL2.out.r; have cr0 := cell_of_heap hrr 0 _ rfl; have cr1 := cell_of_heap hrr 1 _ rfl; have fr0 := frozen_of_heap hrr 0; have fr1 := frozen_of_heap hrr 1; have HRR := Aside0.mk hrr; clear hrr))
          obtain ⟨s0, s1, s2, s3⟩ := two_set (.string ⟨#[]⟩) (.string ⟨#[]⟩) HRR.out
          refine bodyPost_ret (v := .tuple #[.agg #[.string ⟨#[]⟩, .string ⟨#[]⟩], .bool false]) (by simp [results, Try.results56, go_sem, s0, s1]) rfl ?_
          unfold LblPost
          rw [HLL.out]
          refine ⟨?_, _, _, rfl⟩
          exact grown_far HL2.out.g s3 (Nat.le_refl _)
        · skip
          have hL : lblP ((ab s).drop i) = none := by
            unfold lblP; rw [if_pos (List.eq_nil_of_length_eq_zero (by have := HT.out; omega))]
          have HLL := Aside0.mk hL
          clear hL
          have hq0 : (nm.toList == ([] : List UInt8)) = true := by rw [hz, HNM.out, List.eq_nil_of_length_eq_zero (l := ((ab s).drop i).takeWhile nb) (by have := HT.out; omega)]; rfl
          clear hz
          have d1 : decide ((j : Int) < (s.size : Int)) = false := decide_eq_false (by omega)
          have HL2 := HL
          have c3 := HL2.out.a.cell
          have ck := HL2.out.k.cell
          obtain ⟨rx, ry, hrr⟩ := HL2.out.r
          have cr0 := cell_of_heap hrr 0 _ rfl
          have cr1 := cell_of_heap hrr 1 _ rfl
          have fr0 := frozen_of_heap hrr 0
          have fr1 := frozen_of_heap hrr 1
          have HRR := Aside0.mk hrr
          clear hrr
          go_wp2
          obtain ⟨s0, s1, s2, s3⟩ := two_set (.string ⟨#[]⟩) (.string ⟨#[]⟩) HRR.out
          refine bodyPost_ret (v := .tuple #[.agg #[.string ⟨#[]⟩, .string ⟨#[]⟩], .bool false]) (by simp [results, Try.results56, go_sem, s0, s1]) rfl ?_
          unfold LblPost
          rw [HLL.out]
          refine ⟨?_, _, _, rfl⟩
          exact grown_far HL2.out.g s3 (Nat.le_refl _)
      · cases hpre : preB [61, 34] ((ab s).drop j) with
        | false =>
          by_cases hje : j < s.size
          · skip
            have hne : ((ab s).drop i).takeWhile nb ≠ [] := by intro h; have := HT.out; rw [h] at this; simp at this; omega
            have hq0 : (nm.toList == ([] : List UInt8)) = false := by rw [hz, HNM.out]; exact beq_eq_false_iff_ne.2 hne
            have hL : lblP ((ab s).drop i) = none := by
              unfold lblP; rw [if_neg hne, ← HREST.out]; exact nopre_none _ _ hpre
            have HLL := Aside0.mk hL
            clear hL
            have HP := Aside0.mk (show preB (ab ⟨#[61, 34]⟩) ((ab s).drop j) = false from hpre)
            clear hz hne hpre
            have hj : j < (ab s).length := by omega
            have HC := Aside0.mk (fun W => labels_isNameByte.calls (bt s (j : Int)) false W (by rw [bt_ab s j hj, isNameByte_f, HNB.out hj]))
            have hbt := bt_at' s j
            have d1 : decide ((j : Int) < (s.size : Int)) = true := decide_eq_true (by omega)
            have p1 : (0 ≤ (j : Int)) = True := eq_true (by omega)
            have p2 : ((j : Int) < (s.size : Int)) = True := eq_true (by omega)
            go_wp2_with (first | (go_at_call 57; with_reducible (refine (HC.out _).mono ?_); rintro e w' ⟨rfl, ⟨q, rfl⟩⟩; have HL2 := Aside0.mk (HL.out.drewN q); have c3 := HL2.out.a.cell; have c4 := HL2.out.s.cell; have ck := HL2.out.k.cell; obtain ⟨rx, ry, hrr⟩ := HL2.out.r; have cr0 := cell_of_heap hrr 0 _ rfl; have cr1 := cell_of_heap hrr 1 _ rfl; have fr0 := frozen_of_heap hrr 0; have fr1 := frozen_of_heap hrr 1; have HRR := Aside0.mk hrr; clear hrr) | (go_at_call 55; refine (skip_calls s ⟨#[61, 34]⟩ j Bs Ba _ HL2.out.s HL2.out.a hml hsz (show 2 ≤ 100 by omega)).mono ?_; rintro e w' ⟨rfl, ha', hg'⟩; rw [HP.out] at ha'; have HL3 := Aside0.mk (HL2.out.step hn1 hn2 hn3 ha' hg'); clear ha' hg'; simp only [HP.out]; have d3 := HL3.out.a.cell; have g3 := HL3.out.a.frozen; have d4 := HL3.out.s.cell; obtain ⟨sx, sy, hss⟩ := HL3.out.r; have ds0 := cell_of_heap hss 0 _ rfl; have ds1 := cell_of_heap hss 1 _ rfl; have gs0 := frozen_of_heap hss 0; have gs1 := frozen_of_heap hss 1; have HSS := Aside0.mk hss; clear hss))
            obtain ⟨s0, s1, s2, s3⟩ := two_set (.string ⟨#[]⟩) (.string ⟨#[]⟩) HSS.out
            refine bodyPost_ret (v := .tuple #[.agg #[.string ⟨#[]⟩, .string ⟨#[]⟩], .bool false]) (by simp [results, Try.results56, go_sem, s0, s1]) rfl ?_
            unfold LblPost
            rw [HLL.out]
            refine ⟨?_, _, _, rfl⟩
            exact grown_far HL3.out.g s3 (Nat.le_refl _)
          · skip
            have hne : ((ab s).drop i).takeWhile nb ≠ [] := by intro h; have := HT.out; rw [h] at this; simp at this; omega
            have hq0 : (nm.toList == ([] : List UInt8)) = false := by rw [hz, HNM.out]; exact beq_eq_false_iff_ne.2 hne
            have hL : lblP ((ab s).drop i) = none := by
              unfold lblP; rw [if_neg hne, ← HREST.out]; exact nopre_none _ _ hpre
            have HLL := Aside0.mk hL
            clear hL
            have HP := Aside0.mk (show preB (ab ⟨#[61, 34]⟩) ((ab s).drop j) = false from hpre)
            clear hz hne hpre
            have d1 : decide ((j : Int) < (s.size : Int)) = false := decide_eq_false (by omega)
            have HL2 := HL
            have c3 := HL2.out.a.cell
            have ck := HL2.out.k.cell
            obtain ⟨rx, ry, hrr⟩ := HL2.out.r
            have cr0 := cell_of_heap hrr 0 _ rfl
            have cr1 := cell_of_heap hrr 1 _ rfl
            have fr0 := frozen_of_heap hrr 0
            have fr1 := frozen_of_heap hrr 1
            have HRR := Aside0.mk hrr
            clear hrr
            go_wp2_with (first | (go_at_call 55; refine (skip_calls s ⟨#[61, 34]⟩ j Bs Ba _ HL2.out.s HL2.out.a hml hsz (show 2 ≤ 100 by omega)).mono ?_; rintro e w' ⟨rfl, ha', hg'⟩; rw [HP.out] at ha'; have HL3 := Aside0.mk (HL2.out.step hn1 hn2 hn3 ha' hg'); clear ha' hg'; simp only [HP.out]; have d3 := HL3.out.a.cell; have g3 := HL3.out.a.frozen; have d4 := HL3.out.s.cell; obtain ⟨sx, sy, hss⟩ := HL3.out.r; have ds0 := cell_of_heap hss 0 _ rfl; have ds1 := cell_of_heap hss 1 _ rfl; have gs0 := frozen_of_heap hss 0; have gs1 := frozen_of_heap hss 1; have HSS := Aside0.mk hss; clear hss))
            obtain ⟨s0, s1, s2, s3⟩ := two_set (.string ⟨#[]⟩) (.string ⟨#[]⟩) HSS.out
            refine bodyPost_ret (v := .tuple #[.agg #[.string ⟨#[]⟩, .string ⟨#[]⟩], .bool false]) (by simp [results, Try.results56, go_sem, s0, s1]) rfl ?_
            unfold LblPost
            rw [HLL.out]
            refine ⟨?_, _, _, rfl⟩
            exact grown_far HL3.out.g s3 (Nat.le_refl _)
        | true =>
          have hje : j < s.size := by have := preB_len _ hpre; rw [List.length_drop] at this; omega
          cases hu : unq (((ab s).drop j).drop 2) with
          | none =>
            have hne : ((ab s).drop i).takeWhile nb ≠ [] := by intro h; have := HT.out; rw [h] at this; simp at this; omega
            have hq0 : (nm.toList == ([] : List UInt8)) = false := by rw [hz, HNM.out]; exact beq_eq_false_iff_ne.2 hne
            have hlen2 := preB_len _ hpre
            rw [List.length_drop] at hlen2
            have HP := Aside0.mk (show preB (ab ⟨#[61, 34]⟩) ((ab s).drop j) = true from hpre)
            have hL0 : lblP ((ab s).drop i) = (unq (((ab s).drop j).drop 2)).map fun y => (⟨ofB (((ab s).drop i).takeWhile nb), ofB y.1⟩, (((ab s).drop j).drop 2).drop y.2) := by
              unfold lblP; rw [if_neg hne, ← HREST.out]; exact pre_some' _ _ hpre
            have hsl2 : ∀ w, (Instr.slice 9 (.string s) (some (.int .i64 ((j : Int) + 2))) none none).run Try.prog w = .ok (.string (s.extract (j + 2) s.size)) w := fun w => by
              have := run_slice_string_l' (P := Try.prog) w 9 s .i64 ((j : Int) + 2) Try.underlying9 (by omega) (by omega)
              rw [this, show ((j : Int) + 2).toNat = j + 2 by omega]
            have hx2 : ab (s.extract (j + 2) s.size) = ((ab s).drop j).drop 2 := by
              rw [ab_extract s (j + 2) s.size (Nat.le_refl _), List.take_of_length_le (by omega), List.drop_drop]
            have hs2 : (s.extract (j + 2) s.size).size ≤ 1000000 := by rw [← ab_length, hx2, List.length_drop, List.length_drop]; omega
            have hL : lblP ((ab s).drop i) = none := by rw [hL0, hu]; rfl
            have HLL := Aside0.mk hL
            clear hL
            have HU := Aside0.mk (fun W => labels_unquoted.calls ((s.extract (j + 2) s.size).size + 3) (s.extract (j + 2) s.size) ⟨#[]⟩ 0 false W (by rw [unquoted_f _ _ hs2 (by omega), hx2, hu]; rfl))
            clear hz hne hpre hL0 hx2 hs2 hu
            generalize s.extract (j + 2) s.size = s2 at *
            have hj : j < (ab s).length := by omega
            have HC := Aside0.mk (fun W => labels_isNameByte.calls (bt s (j : Int)) false W (by rw [bt_ab s j hj, isNameByte_f, HNB.out hj]))
            have hbt := bt_at' s j
            have d1 : decide ((j : Int) < (s.size : Int)) = true := decide_eq_true (by omega)
            have p1 : (0 ≤ (j : Int)) = True := eq_true (by omega)
            have p2 : ((j : Int) < (s.size : Int)) = True := eq_true (by omega)
            go_wp2_with (first | (go_at_call 57; with_reducible (refine (HC.out _).mono ?_); rintro e w' ⟨rfl, ⟨q, rfl⟩⟩; have HL2 := Aside0.mk (HL.out.drewN q); have c3 := HL2.out.a.cell; have c4 := HL2.out.s.cell; have ck := HL2.out.k.cell; obtain ⟨rx, ry, hrr⟩ := HL2.out.r; have cr0 := cell_of_heap hrr 0 _ rfl; have cr1 := cell_of_heap hrr 1 _ rfl; have fr0 := frozen_of_heap hrr 0; have fr1 := frozen_of_heap hrr 1; have HRR := Aside0.mk hrr; clear hrr) | (go_at_call 55; refine (skip_calls s ⟨#[61, 34]⟩ j Bs Ba _ HL2.out.s HL2.out.a hml hsz (show 2 ≤ 100 by omega)).mono ?_; rintro e w' ⟨rfl, ha', hg'⟩; rw [HP.out] at ha'; have HL3 := Aside0.mk (HL2.out.step hn1 hn2 hn3 ha' hg'); clear ha' hg'; simp only [HP.out]; have d3 := HL3.out.a.cell; have g3 := HL3.out.a.frozen; have d4 := HL3.out.s.cell; obtain ⟨sx, sy, hss⟩ := HL3.out.r; have ds0 := cell_of_heap hss 0 _ rfl; have ds1 := cell_of_heap hss 1 _ rfl; have gs0 := frozen_of_heap hss 0; have gs1 := frozen_of_heap hss 1; have HSS := Aside0.mk hss; clear hss) | (go_at_call 58; refine (HU.out _).mono ?_; rintro e w' ⟨rfl, hb⟩; have HL4 := Aside0.mk (LS.below HL3.out hb); have d5 := HL4.out.a.cell; have g5 := HL4.out.a.frozen; obtain ⟨ux, uy, huu⟩ := HL4.out.r; have du0 := cell_of_heap huu 0 _ rfl; have du1 := cell_of_heap huu 1 _ rfl; have gu0 := frozen_of_heap huu 0; have gu1 := frozen_of_heap huu 1; have HUU := Aside0.mk huu; clear huu hb))
            obtain ⟨s0, s1, s2, s3⟩ := two_set (.string nm) (.string ⟨#[]⟩) ((Below.heap_setCell _ ⟨Ba, 0, none⟩ (.int .i64 ((j : Int) + 2)) w.heap.size hn3).trans HUU.out)
            refine bodyPost_ret (v := .tuple #[.agg #[.string nm, .string ⟨#[]⟩], .bool false]) (by simp [results, Try.results56, go_sem, s0, s1]) rfl ?_
            unfold LblPost
            rw [HLL.out]
            refine ⟨?_, _, _, rfl⟩
            exact grown_far (grownBy_trans HL4.out.g (grownBy_setCell' _ _ _)) s3 (Nat.le_refl _)
          | some y =>
            obtain ⟨v, n⟩ := y
            have hne : ((ab s).drop i).takeWhile nb ≠ [] := by intro h; have := HT.out; rw [h] at this; simp at this; omega
            have hq0 : (nm.toList == ([] : List UInt8)) = false := by rw [hz, HNM.out]; exact beq_eq_false_iff_ne.2 hne
            have hlen2 := preB_len _ hpre
            rw [List.length_drop] at hlen2
            have HP := Aside0.mk (show preB (ab ⟨#[61, 34]⟩) ((ab s).drop j) = true from hpre)
            have hL0 : lblP ((ab s).drop i) = (unq (((ab s).drop j).drop 2)).map fun y => (⟨ofB (((ab s).drop i).takeWhile nb), ofB y.1⟩, (((ab s).drop j).drop 2).drop y.2) := by
              unfold lblP; rw [if_neg hne, ← HREST.out]; exact pre_some' _ _ hpre
            have hsl2 : ∀ w, (Instr.slice 9 (.string s) (some (.int .i64 ((j : Int) + 2))) none none).run Try.prog w = .ok (.string (s.extract (j + 2) s.size)) w := fun w => by
              have := run_slice_string_l' (P := Try.prog) w 9 s .i64 ((j : Int) + 2) Try.underlying9 (by omega) (by omega)
              rw [this, show ((j : Int) + 2).toNat = j + 2 by omega]
            have hx2 : ab (s.extract (j + 2) s.size) = ((ab s).drop j).drop 2 := by
              rw [ab_extract s (j + 2) s.size (Nat.le_refl _), List.take_of_length_le (by omega), List.drop_drop]
            have hs2 : (s.extract (j + 2) s.size).size ≤ 1000000 := by rw [← ab_length, hx2, List.length_drop, List.length_drop]; omega
            have hL : lblP ((ab s).drop i) = some (⟨ofB (((ab s).drop i).takeWhile nb), ofB v⟩, (((ab s).drop j).drop 2).drop n) := by rw [hL0, hu]; rfl
            have hun := unq_le _ v n hu
            rw [List.length_drop, List.length_drop] at hun
            have hnmeq : ofB (((ab s).drop i).takeWhile nb) = nm := ab_inj (by rw [ab_ofB, HNM.out])
            rw [hnmeq] at hL
            have HLL := Aside0.mk hL
            clear hL
            have HU := Aside0.mk (fun W => labels_unquoted.calls ((s.extract (j + 2) s.size).size + 3) (s.extract (j + 2) s.size) (ofB v) (n : Int) true W (by rw [unquoted_f _ _ hs2 (by omega), hx2, hu]; simp [resU, str_ints]))
            have HRL := Aside0.mk (show s.size - ((((ab s).drop j).drop 2).drop n).length = j + 2 + n by rw [List.length_drop, List.length_drop, List.length_drop]; omega)
            have hnb1 : (n : Int) ≤ 1000000 := by omega
            generalize ofB v = vv at *
            generalize (((ab s).drop j).drop 2).drop n = rr at *
            clear hun hnmeq
            clear hz hne hpre hL0 hx2 hs2 hu
            generalize s.extract (j + 2) s.size = s2 at *
            have hj : j < (ab s).length := by omega
            have HC := Aside0.mk (fun W => labels_isNameByte.calls (bt s (j : Int)) false W (by rw [bt_ab s j hj, isNameByte_f, HNB.out hj]))
            have hbt := bt_at' s j
            have d1 : decide ((j : Int) < (s.size : Int)) = true := decide_eq_true (by omega)
            have p1 : (0 ≤ (j : Int)) = True := eq_true (by omega)
            have p2 : ((j : Int) < (s.size : Int)) = True := eq_true (by omega)
            go_wp2_with (first | (go_at_call 57; with_reducible (refine (HC.out _).mono ?_); rintro e w' ⟨rfl, ⟨q, rfl⟩⟩; have HL2 := Aside0.mk (HL.out.drewN q); have c3 := HL2.out.a.cell; have c4 := HL2.out.s.cell; have ck := HL2.out.k.cell; obtain ⟨rx, ry, hrr⟩ := HL2.out.r; have cr0 := cell_of_heap hrr 0 _ rfl; have cr1 := cell_of_heap hrr 1 _ rfl; have fr0 := frozen_of_heap hrr 0; have fr1 := frozen_of_heap hrr 1; have HRR := Aside0.mk hrr; clear hrr) | (go_at_call 55; refine (skip_calls s ⟨#[61, 34]⟩ j Bs Ba _ HL2.out.s HL2.out.a hml hsz (show 2 ≤ 100 by omega)).mono ?_; rintro e w' ⟨rfl, ha', hg'⟩; rw [HP.out] at ha'; have HL3 := Aside0.mk (HL2.out.step hn1 hn2 hn3 ha' hg'); clear ha' hg'; simp only [HP.out]; have d3 := HL3.out.a.cell; have g3 := HL3.out.a.frozen; have d4 := HL3.out.s.cell; obtain ⟨sx, sy, hss⟩ := HL3.out.r; have ds0 := cell_of_heap hss 0 _ rfl; have ds1 := cell_of_heap hss 1 _ rfl; have gs0 := frozen_of_heap hss 0; have gs1 := frozen_of_heap hss 1; have HSS := Aside0.mk hss; clear hss) | (go_at_call 58; refine (HU.out _).mono ?_; rintro e w' ⟨rfl, hb⟩; have HL4 := Aside0.mk (LS.below HL3.out hb); have d5 := HL4.out.a.cell; have g5 := HL4.out.a.frozen; obtain ⟨ux, uy, huu⟩ := HL4.out.r; have du0 := cell_of_heap huu 0 _ rfl; have du1 := cell_of_heap huu 1 _ rfl; have gu0 := frozen_of_heap huu 0; have gu1 := frozen_of_heap huu 1; have HUU := Aside0.mk huu; clear huu hb))
            obtain ⟨s0, s1, s2, s3⟩ := two_set (.string nm) (.string vv) ((Below.heap_setCell _ ⟨Ba, 0, none⟩ (.int .i64 ((j : Int) + 2 + (n : Int))) w.heap.size hn3).trans HUU.out)
            refine bodyPost_ret (v := .tuple #[.agg #[.string nm, .string vv], .bool true]) (by simp [results, Try.results56, go_sem, s0, s1]) rfl ?_
            unfold LblPost
            rw [HLL.out]
            refine ⟨?_, rfl, ?_⟩
            · exact grown_far (grownBy_trans HL4.out.g (grownBy_setCell' _ _ _)) s3 (Nat.le_refl _)
            · rw [HRL.out]
              have := (HL4.out.a.set (.int .i64 ((j : Int) + 2 + (n : Int)))).kept s3 (by simp; omega)
              simpa using this
end Go.Proofs.Ytiooenmbondflaa.H

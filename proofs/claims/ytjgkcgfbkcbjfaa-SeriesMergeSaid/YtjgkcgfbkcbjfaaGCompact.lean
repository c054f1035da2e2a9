/- slices.Compact of a row of the call's own. -/
import Derived.Test.YtjgkcgfbkcbjfaaGDelete
import Derived.Test.YtjgkcgfbkcbjfaaSIns
import Derived.BigQuiet
namespace Go.Proofs.Ytjgkcgfbkcbjfaa.H
open Go Go.RowKit Go.Proofs.YtjgkcgfbkcbjfaaW.PrintWords Go.Proofs.YtjgkcgfbkcbjfaaW.PrintLast Go.Proofs.YtjgkcgfbkcbjfaaW.PrintMore Go.Proofs.Ytjgkcgfbkcbjfaa.PAll
set_option linter.unusedVariables false
set_option linter.unusedSimpArgs false

def eqS (x y : S29) : Bool := x.f0 == y.f0 && (x.f1 == y.f1)
theorem eqS_iff (x y : S29) : eqS x y = true ↔ x = y := by
  unfold eqS
  simp only [Bool.and_eq_true, beq_iff_eq]
  exact ⟨fun h => S_ext h.1 h.2, fun h => by rw [h]; exact ⟨rfl, rfl⟩⟩
/-- Without the elements that are equal to the one ahead. -/
def dd : L29 → L29
  | x :: y :: l => if eqS x y = true then dd (y :: l) else x :: dd (y :: l)
  | l => l
theorem dd_snoc : ∀ (l : L29) (x y : S29), dd (l ++ [x, y]) = if eqS x y = true then dd (l ++ [x]) else dd (l ++ [x]) ++ [y]
  | [], x, y => by
    simp only [List.nil_append, dd]
    split
    · rename_i h; rw [(eqS_iff _ _).1 h]
    · rfl
  | [a], x, y => by
    simp only [List.cons_append, List.nil_append, dd]
    by_cases h1 : eqS a x = true <;> by_cases h2 : eqS x y = true
    · simp [h1, h2]
      rw [(eqS_iff _ _).1 h2]
    · simp [h1, h2]
    · simp [h1, h2]
      rw [(eqS_iff _ _).1 h2]
    · simp [h1, h2]
  | a :: b :: l, x, y => by
    have ih := dd_snoc (b :: l) x y
    simp only [List.cons_append] at ih ⊢
    simp only [dd]
    by_cases h1 : eqS a b = true
    · rw [if_pos h1, if_pos h1, ih]
    · rw [if_neg h1, if_neg h1, ih]
      split <;> simp
theorem dd_len_le : ∀ l : L29, (dd l).length ≤ l.length
  | [] => by simp [dd]
  | [x] => by simp [dd]
  | x :: y :: l => by
    have ih := dd_len_le (y :: l)
    simp only [dd]
    split
    · simp only [List.length_cons] at *; omega
    · simp only [List.length_cons] at *; omega
theorem dd_take_succ (l : L29) (m : Nat) (h : m + 1 < l.length) : dd (l.take (m + 2)) = if eqS l[m] l[m + 1] = true then dd (l.take (m + 1)) else dd (l.take (m + 1)) ++ [l[m + 1]] := by
  have e1 : l.take (m + 1) = l.take m ++ [l[m]] := List.take_succ_eq_append_getElem (by omega)
  have e2 : l.take (m + 2) = l.take m ++ [l[m], l[m + 1]] := by rw [show m + 2 = (m + 1) + 1 from rfl, List.take_succ_eq_append_getElem h, e1, List.append_assoc]; rfl
  rw [e2, dd_snoc, ← e1]
/-- No two neighbours equal among the first m. -/
theorem dd_same (l : L29) : ∀ m, (∀ k (h : k + 1 < l.length), k + 1 < m → eqS l[k] l[k + 1] = false) → dd (l.take m) = l.take m
  | 0, _ => by simp [dd]
  | 1, _ => by
    cases l with
    | nil => simp [dd]
    | cons x l => simp [dd]
  | m + 2, h => by
    have ih := dd_same l (m + 1) (fun k hk hm => h k hk (by omega))
    by_cases hl : m + 1 < l.length
    · rw [dd_take_succ l m hl, if_neg (by rw [h m hl (by omega)]; simp), ih, ← List.take_succ_eq_append_getElem hl]
    · rw [List.take_of_length_le (by omega)]
      rw [List.take_of_length_le (by omega)] at ih
      exact ih
theorem row_at {W : World} {g : Nat} {cur : List Value} {xs : L29} {o : Nat} (hg : W.heap[g]? = some (.cells cur.toArray 29 (0, 0))) (h : ∀ p (hp : p < xs.length), o ≤ p → ∀ r, r < 2 → cur[p * 2 + r]? = [Value.int .i64 xs[p].f0, Value.int .i64 xs[p].f1][r]?)
    (p : Nat) (hp : p < xs.length) (ho : o ≤ p) : W.cell? ⟨g, p * 2, none⟩ = some (Value.int .i64 xs[p].f0) ∧ W.cell? ⟨g, p * 2 + 1, none⟩ = some (Value.int .i64 xs[p].f1) :=
  ⟨cell_of_heap hg _ _ (by have := h p hp ho 0 (by omega); simpa using this), cell_of_heap hg _ _ (by have := h p hp ho 1 (by omega); simpa using this)⟩

theorem setCell_row {W : World} {g : Nat} {cu : List Value} {T : TypeId} (h : W.heap[g]? = some (.cells cu.toArray T (0, 0))) (o : Nat) (v : Value) : (W.setCell ⟨g, o, none⟩ v).heap[g]? = some (.cells (cu.set o v).toArray T (0, 0)) := by
  obtain ⟨hlt, hk⟩ := Array.getElem?_eq_some_iff.1 h
  show (W.heap.modify g _)[g]? = _
  rw [Array.getElem?_modify]
  simp [h]
/-- What the inner loop has come to: t elements behind the first pair of equals are done. -/
structure CI (g cap : Nat) (xs : L29) (w : World) (i t I : Nat) (W : World) : Prop where
  len : I = (dd (xs.take (i + 2 + t))).length
  le : I ≤ i + 1 + t
  row : ∃ cu : List Value, W.heap[g]? = some (.cells cu.toArray 29 (0, 0)) ∧ cu.length = cap * 2 ∧ cu.take (I * 2) = lcells (dd (xs.take (i + 2 + t))) ∧ ∀ p (hp : p < xs.length), i + 1 + t ≤ p → ∀ r, r < 2 → cu[p * 2 + r]? = [Value.int .i64 xs[p].f0, Value.int .i64 xs[p].f1][r]?
  bel : Below g w W

set_option maxRecDepth 100000 in
set_option maxHeartbeats 8000000 in
theorem Compact_calls (base : Nat) (v : Value) (xs : L29) (w : World) (hl : xs.length ≤ 1000000) (hown : w.ownsRow base 29 2 v xs.length (lcells xs)) :
    Calls Try.prog 47 #[v] w fun e w' => ∃ v', e = .returned v' ∧ Below base w w' ∧ w'.ownsRow base 29 2 v' (dd xs).length (lcells (dd xs)) := by
  rcases hown.2 with ⟨rfl, h0⟩ | ⟨g, cap, cur, rfl, hbg, hg, hle, hcm, hsz, htk⟩
  · have hx : xs = [] := List.eq_nil_of_length_eq_zero h0
    subst hx
    go_enter Try.func47, Try.ntmps47
    go_wp2
    go_ret
    exact ⟨_, rfl, Below.refl _ _, World.ownsRow_nil _ _ _ _⟩
  · have hg' : w.heap[g]? = some (.cells cur.toList.toArray 29 (0, 0)) := by rw [Array.toArray_toList]; exact hg
    have hat : ∀ p (hp : p < xs.length), 0 ≤ p → ∀ r, r < 2 → cur.toList[p * 2 + r]? = [Value.int .i64 xs[p].f0, Value.int .i64 xs[p].f1][r]? := fun p hp _ r hr => by
      rw [← lcells_at xs p r hp hr, ← htk, List.getElem?_take, if_pos (by omega)]
    have HAT := Aside0.mk (fun (W : World) (h : W.heap[g]? = some (.cells cur.toList.toArray 29 (0, 0))) p hp => row_at h hat p hp (Nat.zero_le p))
    have HO := Aside0.mk hown
    have hc63 : cap ≤ 9223372036854775807 := by unfold maxLen at hcm; omega
    by_cases h2 : xs.length < 2
    · have q2 : ((xs.length : Int) < 2) = True := eq_true (by omega)
      have q2' : (xs.length < 2) = True := eq_true h2
      have hd : dd xs = xs := by
        match xs, h2 with
        | [], _ => rfl
        | [x], _ => rfl
        | x :: y :: l, h => exact absurd h (by simp)
      rw [hd]
      clear hg hg' hat hsz htk hd
      go_enter Try.func47, Try.ntmps47
      go_wp2
      go_ret
      exact ⟨_, rfl, Below.refl _ _, HO.out⟩
    · have q2 : ((xs.length : Int) < 2) = False := eq_false (by omega)
      have q2' : (xs.length < 2) = False := eq_false h2
      have HG := Aside0.mk hg'
      have HS := Aside0.mk (show cur.toList.length = cap * 2 by simpa using hsz)
      have HT := Aside0.mk hat
      have HTK := Aside0.mk htk
      have HBG := Aside0.mk hbg
      have HCM := Aside0.mk hcm
      clear hg hg' hat hsz htk hbg hcm hown
      go_enter Try.func47, Try.ntmps47
      go_wp2_with fail
      go_loopg [3] (xs.length) (fun kq v3 w' => ∃ i : Nat, v3 = .int .i64 ((i : Int) + 1) ∧ i + 1 ≤ xs.length ∧ Aside0 (kq = xs.length - i) ∧ Drawn0 w w' ∧ Aside0 (∀ k (h : k + 1 < xs.length), k < i → eqS xs[k] xs[k + 1] = false))
      case atStart => exact ⟨0, rfl, by omega, ⟨rfl⟩, Drawn0.refl _, ⟨fun k h hk => by omega⟩⟩
      case round =>
        obtain ⟨i, rfl, hi, HK, ⟨n, rfl⟩, HE⟩ := hrel
        by_cases hlt : i + 1 < xs.length
        · have hgn : (w.drewN n).heap[g]? = some (.cells cur.toList.toArray 29 (0, 0)) := HG.out
          obtain ⟨ha0, ha1⟩ := HAT.out w HG.out i (by omega)
          obtain ⟨hb0, hb1⟩ := HAT.out w HG.out (i + 1) hlt
          have dl : ((i : Int) + 1 < (xs.length : Int)) = True := eq_true (by omega)
          have hs1 : IntKind.i64.wrap ((i : Int) + 1 - 1) = (i : Int) := by rw [IntKind.wrap_i64]; omega
          have hs2 : IntKind.i64.wrap (i : Int) = (i : Int) := by rw [IntKind.wrap_i64]; omega
          have hs3 : IntKind.i64.wrap ((i : Int) + 1) = (i : Int) + 1 := by rw [IntKind.wrap_i64]; omega
          have ht1 : ((i : Int) + 1).toNat = i + 1 := by omega
          have p1 : (0 : Int) ≤ (i : Int) + 1 := by omega
          have p2 : (0 : Int) ≤ (i : Int) := by omega
          have p3 : i < xs.length := by omega
          have p4 : (i : Int) < (xs.length : Int) := by omega
          have p5 : (i : Int) + 1 < (xs.length : Int) := by omega
          have heq : ∀ W, _ := fun W => run_eqS xs[i + 1] xs[i] W
          by_cases he : eqS xs[i] xs[i + 1] = true
          · have he2 : (xs[i + 1].f0 == xs[i].f0 && (xs[i + 1].f1 == xs[i].f1)) = true := by
              have := (eqS_iff _ _).1 he
              rw [this]; simp
            simp only [he2] at heq
            have HEQ := Aside0.mk he
            clear he he2
            generalize hX : xs[i] = X at *
            generalize hY : xs[i + 1] = Y at *
            have HX := Aside0.mk hX
            have HY := Aside0.mk hY
            clear hX hY
            go_wp2_with fail
            go_quiet (fail)
            go_wp2
            have hI := dd_take_succ xs i hlt
            rw [HX.out, HY.out, if_pos HEQ.out, dd_same xs (i + 1) (fun k h hk => HE.out k h (by omega))] at hI
            have HC0 := Aside0.mk (show CI g cap xs w i 0 (i + 1) (w.drewN (n + nq)) from ⟨by rw [show i + 2 + 0 = i + 2 from rfl, hI, List.length_take]; omega, by omega, ⟨cur.toList, HG.out, HS.out, by
              rw [show i + 2 + 0 = i + 2 from rfl, hI, ← lcells_take, ← HTK.out, List.take_take, Nat.min_eq_left (by omega)], fun p hp _ => HT.out p hp (Nat.zero_le _)⟩, by apply pw_below_drewN; exact Below.refl _ _⟩)
            clear hI heq ha0 ha1 hb0 hb1 HAT HEQ HX HY HE HT HTK dl hs1 hs2 hs3 ht1 p1 p2 p4 p5
            obtain ⟨m2, hm2⟩ : ∃ m2, xs.length - (i + 1) = m2 := ⟨_, rfl⟩
            have hm3 : xs.length = m2 + (i + 1) := by omega
            rw [hm2]
            obtain ⟨c2, hc2⟩ : ∃ c2, cap - (i + 1) = c2 := ⟨_, rfl⟩
            rw [hc2]
            have HM3 := Aside0.mk hm3
            have HC2 := Aside0.mk hc2
            clear hm2 hm3 hc2
            go_loopg [3, 5] (m2) (fun kq v3 v5 w' => ∃ t I : Nat, v3 = .int .i64 I ∧ v5 = .int .i64 ((t : Int) + 1) ∧ t + 1 ≤ m2 ∧ Aside0 (kq = m2 - t) ∧ Aside0 (CI g cap xs w i t I w'))
            case atStart => exact ⟨0, i + 1, by simp, by simp, by have := HM3.out; omega, ⟨rfl⟩, HC0⟩
            case round =>
              obtain ⟨t, I, rfl, rfl, htm, HK2, HCI⟩ := hrel
              obtain ⟨e1, e2, ⟨cu, hcu, hcl, hct, hcp⟩, hbl⟩ := HCI.out
              have hm3 := HM3.out
              by_cases hlt2 : t + 1 < m2
              · have hp1 : i + 1 + t < xs.length := by omega
                have hp2 : i + 2 + t < xs.length := by omega
                obtain ⟨ha0, ha1⟩ := row_at hcu hcp (i + 1 + t) hp1 (by omega)
                obtain ⟨hb0, hb1⟩ := row_at hcu hcp (i + 2 + t) hp2 (by omega)
                rw [show (i + 1 + t) * 2 = (i + 1) * 2 + t * 2 by omega] at ha0 ha1
                rw [show (i + 2 + t) * 2 = (i + 1) * 2 + (t + 1) * 2 by omega] at hb0 hb1
                have hq : i + 1 + t + 1 < xs.length := by omega
                clear hm3
                have hds := dd_take_succ xs (i + 1 + t) hq
                simp only [show i + 1 + t + 1 = i + 2 + t by omega, show i + 1 + t + 2 = i + 2 + (t + 1) by omega] at hds
                have heq : ∀ W, _ := fun W => run_neS xs[i + 2 + t] xs[i + 1 + t] W
                have dl : ((t : Int) + 1 < (m2 : Int)) = True := eq_true (by omega)
                have dl2 : t + 1 < m2 := hlt2
                have dl3 : t < m2 := by omega
                have hs1 : IntKind.i64.wrap ((t : Int) + 1 - 1) = (t : Int) := by rw [IntKind.wrap_i64]; omega
                have hs2 : IntKind.i64.wrap (t : Int) = (t : Int) := by rw [IntKind.wrap_i64]; omega
                have hs3 : IntKind.i64.wrap ((t : Int) + 1) = (t : Int) + 1 := by rw [IntKind.wrap_i64]; omega
                have ht1 : ((t : Int) + 1).toNat = t + 1 := by omega
                have p1 : (0 : Int) ≤ (t : Int) + 1 := by omega
                have p2 : (0 : Int) ≤ (t : Int) := by omega
                have p4 : (t : Int) < (m2 : Int) := by omega
                have p5 : (t : Int) + 1 < (m2 : Int) := by omega
                have HCP := Aside0.mk hcp
                have HCT := Aside0.mk hct
                have HCU := Aside0.mk hcu
                have HCL := Aside0.mk hcl
                have HBL := Aside0.mk hbl
                have HE1 := Aside0.mk e1
                have HDS := Aside0.mk hds
                clear hcp hct hcu hcl hbl e1 hds HCI
                by_cases he : eqS xs[i + 1 + t] xs[i + 2 + t] = true
                · have he2 : (xs[i + 2 + t].f0 == xs[i + 1 + t].f0 && (xs[i + 2 + t].f1 == xs[i + 1 + t].f1)) = true := by
                    have := (eqS_iff _ _).1 he
                    rw [this]; simp
                  simp only [he2, Bool.not_true] at heq
                  have HD := Aside0.mk (show dd (xs.take (i + 2 + (t + 1))) = dd (xs.take (i + 2 + t)) by rw [HDS.out, if_pos he])
                  clear he he2 HDS
                  generalize xs[i + 1 + t] = X at *
                  generalize xs[i + 2 + t] = Y at *
                  go_wp2_with fail
                  go_quiet (fail)
                  go_wp2
                  go_roundg (m2 - (t + 1))
                  case measure => have := HK2.out; omega
                  case rel => exact ⟨t + 1, I, rfl, by simp, by omega, ⟨rfl⟩, ⟨⟨by rw [HD.out]; exact HE1.out, by omega, ⟨cu, HCU.out, HCL.out, by rw [HD.out]; exact HCT.out, fun p hp hq => HCP.out p hp (by omega)⟩, by apply pw_below_drewN; exact HBL.out⟩⟩⟩
                · have he' : eqS xs[i + 1 + t] xs[i + 2 + t] = false := by simpa using he
                  have he2 : (xs[i + 2 + t].f0 == xs[i + 1 + t].f0 && (xs[i + 2 + t].f1 == xs[i + 1 + t].f1)) = false := by
                    rw [Bool.eq_false_iff]
                    intro h
                    have : eqS xs[i + 2 + t] xs[i + 1 + t] = true := h
                    rw [eqS_iff] at this
                    rw [this, (eqS_iff _ _).2 rfl] at he'
                    cases he'
                  simp only [he2, Bool.not_false] at heq
                  have HD := Aside0.mk (show dd (xs.take (i + 2 + (t + 1))) = dd (xs.take (i + 2 + t)) ++ [xs[i + 2 + t]] by rw [HDS.out, if_neg he])
                  have hIn : I < xs.length := by omega
                  have hIc : I * 2 + 1 < cu.length := by have := HCL.out; omega
                  have hk0 : wr.cell? ⟨g, I * 2, none⟩ = some cu[I * 2] := cell_of_heap HCU.out _ _ (by simp)
                  have hk1 : wr.cell? ⟨g, I * 2 + 1, none⟩ = some cu[I * 2 + 1] := cell_of_heap HCU.out _ _ (by simp)
                  have hf : ∀ o, o < cu.length → wr.frozen? ⟨g, o, none⟩ = false := fun o ho => by simp [World.frozen?, HCU.out]
                  have hf0 := hf (I * 2) (by omega)
                  have hf1 := hf (I * 2 + 1) hIc
                  clear hf
                  have HR1 := Aside0.mk (fun q => setCell_row (setCell_row (show (wr.drewN q).heap[g]? = some (.cells cu.toArray 29 (0, 0)) from HCU.out) (I * 2) (Value.int .i64 xs[i + 2 + t].f0)) (I * 2 + 1) (Value.int .i64 xs[i + 2 + t].f1))
                  have HP2 := Aside0.mk (show ∀ p (hp : p < xs.length), i + 1 + (t + 1) ≤ p → ∀ r, r < 2 → ((cu.set (I * 2) (Value.int .i64 xs[i + 2 + t].f0)).set (I * 2 + 1) (Value.int .i64 xs[i + 2 + t].f1))[p * 2 + r]? = [Value.int .i64 xs[p].f0, Value.int .i64 xs[p].f1][r]? from fun p hp hq r hr => by
                    rw [List.getElem?_set_ne (by omega), List.getElem?_set_ne (by omega)]
                    exact HCP.out p hp (by omega) r hr)
                  have HT2 := Aside0.mk (show ((cu.set (I * 2) (Value.int .i64 xs[i + 2 + t].f0)).set (I * 2 + 1) (Value.int .i64 xs[i + 2 + t].f1)).take ((I + 1) * 2) = lcells (dd (xs.take (i + 2 + (t + 1)))) by
                    rw [HD.out, lcells_append, ← HCT.out]
                    have hx : ∀ (c : List Value) (a b : Value), I * 2 + 1 < c.length → ((c.set (I * 2) a).set (I * 2 + 1) b).take ((I + 1) * 2) = c.take (I * 2) ++ [a, b] := fun c a b hc => by
                      apply List.ext_getElem?
                      intro q
                      rw [List.getElem?_take]
                      by_cases h1 : q < I * 2
                      · rw [if_pos (by omega), List.getElem?_set_ne (by omega), List.getElem?_set_ne (by omega), List.getElem?_append_left (by rw [List.length_take]; omega), List.getElem?_take, if_pos h1]
                      · by_cases h2 : q < (I + 1) * 2
                        · rw [if_pos h2, List.getElem?_append_right (by rw [List.length_take]; omega), List.length_take, Nat.min_eq_left (by omega)]
                          by_cases h3 : q = I * 2
                          · subst h3
                            rw [List.getElem?_set_ne (by omega), List.getElem?_set_self (by omega)]
                            simp
                          · have h4 : q = I * 2 + 1 := by omega
                            subst h4
                            rw [List.getElem?_set_self (by rw [List.length_set]; omega)]
                            rw [show I * 2 + 1 - I * 2 = 1 by omega]
                            rfl
                        · rw [if_neg h2, List.getElem?_eq_none (by rw [List.length_append, List.length_take]; simp; omega)]
                    rw [hx _ _ _ hIc]
                    rfl)
                  have HLN := Aside0.mk (show I + 1 = (dd (xs.take (i + 2 + (t + 1)))).length by rw [HD.out, List.length_append, ← HE1.out]; rfl)
                  have HB3 := Aside0.mk (fun q => show Below g w (((wr.drewN q).setCell ⟨g, I * 2, none⟩ (Value.int .i64 xs[i + 2 + t].f0)).setCell ⟨g, I * 2 + 1, none⟩ (Value.int .i64 xs[i + 2 + t].f1)) from ((pw_below_drewN HBL.out q).setCell (Nat.le_refl _) _).setCell (Nat.le_refl _) _)
                  have hIl : (I : Int) < (xs.length : Int) := by omega
                  have hI0 : (0 : Int) ≤ (I : Int) := by omega
                  have hIw : IntKind.i64.wrap ((I : Int) + 1) = (I : Int) + 1 := by rw [IntKind.wrap_i64]; omega
                  clear he he' he2 HDS HD HCP HCT HCU HE1 HBL
                  generalize cu[I * 2] = u0 at *
                  generalize cu[I * 2 + 1] = u1 at *
                  generalize xs[i + 1 + t] = X at *
                  generalize xs[i + 2 + t] = Y at *
                  go_wp2_with fail
                  go_quiet (fail)
                  go_wp2
                  go_roundg (m2 - (t + 1))
                  case measure => have := HK2.out; omega
                  case rel => exact ⟨t + 1, I + 1, by simp, by simp, by omega, ⟨rfl⟩, ⟨⟨HLN.out, by omega, ⟨_, HR1.out _, by simpa using HCL.out, HT2.out, HP2.out⟩, HB3.out _⟩⟩⟩
              · have htm2 : t + 1 = m2 := by omega
                have hM : i + 2 + t = xs.length := by omega
                rw [hM, List.take_length] at e1 hct
                have hIn : I < xs.length := by omega
                have hI0 : (0 : Int) ≤ (I : Int) := by omega
                have hIl : (I : Int) ≤ (xs.length : Int) := by omega
                have hIl2 : I ≤ xs.length := by omega
                have hIc : I ≤ cap := by omega
                have hIc2 : (I : Int) ≤ (cap : Int) := by omega
                have hIne : ¬ cap = I := by omega
                have dl : ((t : Int) + 1 < (m2 : Int)) = False := eq_false (by omega)
                have hr2 : ∀ ty sc, (Builtin.clear_ #[22] ty #[.slice (some ⟨g, I * 2, none⟩) (xs.length - I) sc]).run Try.prog wr = .ok (.tuple #[]) (wr.setRow g (splice cu (I * 2) (zsE (xs.length - I))).toArray) := fun ty sc =>
                  run_clear_row wr 22 29 ty (.agg #[Value.int .i64 0, Value.int .i64 0]) Try.underlying22 zeroE g (I * 2) (xs.length - I) sc cu 29 hcu (zsE_one _) (by omega) (by have := zsE_length (xs.length - I); unfold zsE at this; rw [this, hcl]; omega)
                have HF := Aside0.mk (show Below g w (wr.setRow g (splice cu (I * 2) (zsE (xs.length - I))).toArray) from below_setRow hbl (Nat.le_refl _) _)
                have HG2 := Aside0.mk (setRow_heap wr g _ (splice cu (I * 2) (zsE (xs.length - I))).toArray 29 _ hcu)
                have HL2 := Aside0.mk (show (splice cu (I * 2) (zsE (xs.length - I))).length = cap * 2 by rw [length_splice _ _ _ (by rw [zsE_length, hcl]; omega), hcl])
                have HT2 := Aside0.mk (show (splice cu (I * 2) (zsE (xs.length - I))).take (I * 2) = lcells (dd xs) by
                  unfold splice
                  rw [List.take_append_of_le_length (by rw [List.length_take, hcl]; omega), List.take_take, Nat.min_self, hct])
                have HE1 := Aside0.mk e1
                generalize splice cu (I * 2) (zsE (xs.length - I)) = cur2 at *
                clear hct hcu hcl hbl e1 hm3 HCI hM htm2 hcp
                go_wp2_with (at_builtin; refine wpList_clear_run _ rfl _ 22 rfl _ rfl (hr2 _ _) ?_)
                go_ret
                refine ⟨_, rfl, HF.out.mono HBG.out, ⟨lcells_length _, .inr ⟨g, cap, cur2.toArray, ?_, HBG.out, HG2.out, ?_, HCM.out, by simpa using HL2.out, ?_⟩⟩⟩
                · rw [← HE1.out]; rfl
                · rw [← HE1.out]; omega
                · rw [← HE1.out]; simpa using HT2.out
          · have he' : eqS xs[i] xs[i + 1] = false := by simpa using he
            have he2 : (xs[i + 1].f0 == xs[i].f0 && (xs[i + 1].f1 == xs[i].f1)) = false := by
              rw [Bool.eq_false_iff]
              intro h
              have : eqS xs[i + 1] xs[i] = true := h
              rw [eqS_iff] at this
              rw [this, (eqS_iff _ _).2 rfl] at he'
              cases he'
            simp only [he2] at heq
            have HE2 := Aside0.mk (show ∀ k (h : k + 1 < xs.length), k < i + 1 → eqS xs[k] xs[k + 1] = false from fun k h hk => by
              by_cases e : k = i
              · subst e; exact he'
              · exact HE.out k h (by omega))
            clear he he' he2
            generalize xs[i] = X at *
            generalize xs[i + 1] = Y at *
            go_wp2_with fail
            go_quiet (fail)
            go_wp2
            go_roundg (xs.length - (i + 1))
            case measure => have := HK.out; omega
            case rel => exact ⟨i + 1, by simp, by omega, ⟨rfl⟩, ⟨⟨_, rfl⟩⟩, HE2⟩
        · have dl : ((i : Int) + 1 < (xs.length : Int)) = False := eq_false (by omega)
          have hd : dd xs = xs := by
            have := dd_same xs xs.length (fun k h hk => HE.out k h (by omega))
            rwa [List.take_length] at this
          have HD := Aside0.mk hd
          clear hd
          go_wp2
          go_ret
          exact ⟨_, rfl, by repeat (first | exact Below.refl _ _ | apply pw_below_drewN), by rw [HD.out]; exact HO.out⟩
end Go.Proofs.Ytjgkcgfbkcbjfaa.H

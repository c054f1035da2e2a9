/- awake: the example of the chapter. -/
import Derived.Test.YtakobehkajphpaaGreatTQSamp
import Derived.Test.YtakobehkajphpaaGreatTQRest
import Derived.Test.YtakobehkajphpaaGreatTQSame
import Derived.Deep.RegionHeld3
namespace Go.Proofs.YtakobehkajphpaaGreat.H
open Go Go.RowKit Go.Proofs.YtakobehkajphpaaGreatW.PrintWords Go.Proofs.YtakobehkajphpaaGreatW.PrintLast Go.Proofs.YtakobehkajphpaaGreatW.PrintMore Go.Proofs.YtakobehkajphpaaGreat.PAll
set_option linter.unusedVariables false
set_option linter.unusedSimpArgs false

def xS : ByteArray := ⟨#[120]⟩
def acme : ByteArray := ⟨#[97, 99, 109, 101]⟩
/-- The tenant behind each operation of the example. -/
def TL : Nat → TV
  | 0 => ⟨acme, 1, 2, 2000, 1000, 5, [], 0, 0, 0⟩
  | 1 => ⟨acme, 1, 2, 1000, 1000, 5, [lv xS], 1, 0, 0⟩
  | 2 => ⟨acme, 1, 2, 0, 1000, 5, [lv xS], 2, 0, 0⟩
  | 3 => ⟨acme, 1, 2, 0, 1000, 5, [lv xS], 2, 1, 0⟩
  | 4 => ⟨acme, 1, 2, 999, 1999, 5, [lv xS], 2, 2, 0⟩
  | _ => ⟨acme, 1, 2, 0, 2000, 5, [lv xS], 3, 2, 0⟩
def nw : Nat → Int
  | 0 => 1000
  | 1 => 1000
  | 2 => 1000
  | 3 => 1999
  | _ => 2000
def cdT : Nat → Int
  | 2 => 22
  | 3 => 22
  | _ => 0
theorem TL_new : newT acme 1 2 5 1000 = (TL 0, 0) := by kernel_rfl
theorem TL_step (j : Nat) (h : j < 5) : admT (fillT (TL j) (nw j)) (some (lv xS)) = (TL (j + 1), cdT j) := by
  rcases j with _ | _ | _ | _ | _ | j
  · kernel_rfl
  · kernel_rfl
  · kernel_rfl
  · kernel_rfl
  · kernel_rfl
  · omega
theorem TL_val (j : Nat) (h : j ≤ 5) : ValT (TL j) := by
  refine (val_iff _).1 ?_
  rcases j with _ | _ | _ | _ | _ | _ | j
  · kernel_rfl
  · kernel_rfl
  · kernel_rfl
  · kernel_rfl
  · kernel_rfl
  · kernel_rfl
  · omega
theorem TL_small (j : Nat) : SmallT (TL j) := by
  have hx : ∀ l ∈ [lv xS], l.length ≤ 1000 ∧ Sz 1000 l := fun l hl => by
    simp at hl; subst hl
    exact ⟨by simp [lv], fun x hx => by simp [lv] at hx; subst hx; exact ⟨by show (1 : Nat) ≤ 1000; omega, by show (1 : Nat) ≤ 1000; omega⟩⟩
  rcases j with _ | _ | _ | _ | _ | j
  · exact ⟨by decide, by simp [TL], fun l hl => by simp [TL] at hl⟩
  all_goals exact ⟨by show (4 : Nat) ≤ 1000; omega, by simp [TL], hx⟩
theorem nw_ok (j : Nat) (h : j < 5) : (TL j).clock ≤ nw j ∧ nw j ≤ 1099511627776 := by
  rcases j with _ | _ | _ | _ | _ | j <;> first | omega | (simp only [TL, nw]; omega)
theorem cd_ok (j : Nat) (h : j < 5) : (cdT j = 0 ∧ j ≠ 2 ∧ j ≠ 3) ∨ (cdT j = 22 ∧ j = 2) ∨ (cdT j = 22 ∧ j = 3) := by
  rcases j with _ | _ | _ | _ | _ | j
  · exact .inl ⟨rfl, by omega, by omega⟩
  · exact .inl ⟨rfl, by omega, by omega⟩
  · exact .inr (.inl ⟨rfl, rfl⟩)
  · exact .inr (.inr ⟨rfl, rfl⟩)
  · exact .inl ⟨rfl, by omega, by omega⟩
  · omega
theorem nb_cell {w : World} {B : Nat} {T : TypeId} (h : w.heap[B]? = some (.cells #[.int .i64 1000, .int .i64 1000, .int .i64 1000, .int .i64 1999, .int .i64 2000] T (0, 0))) (j : Nat) (hj : j < 5) : w.cell? ⟨B, j, none⟩ = some (.int .i64 (nw j)) := by
  rcases j with _ | _ | _ | _ | _ | j
  · exact (blk_cell h 0).trans rfl
  · exact (blk_cell h 1).trans rfl
  · exact (blk_cell h 2).trans rfl
  · exact (blk_cell h 3).trans rfl
  · exact (blk_cell h 4).trans rfl
  · omega

theorem set10_blk {W : World} {B : Nat} {c0 c1 c2 c3 c4 c5 c6 c7 c8 c9 : Value} {T : TypeId} (h : W.heap[B]? = some (.cells #[c0, c1, c2, c3, c4, c5, c6, c7, c8, c9] T (0, 0))) (v0 v1 v2 v3 v4 v5 v6 v7 v8 v9 : Value) :
    (set10 W B v0 v1 v2 v3 v4 v5 v6 v7 v8 v9).heap[B]? = some (.cells #[v0, v1, v2, v3, v4, v5, v6, v7, v8, v9] T (0, 0)) := by
  unfold set10
  have h0 := blk_set (blk_set (blk_set (blk_set (blk_set (blk_set (blk_set (blk_set (blk_set (blk_set h 0 v0) 1 v1) 2 v2) 3 v3) 4 v4) 5 v5) 6 v6) 7 v7) 8 v8) 9 v9
  simpa only [List.setIfInBounds_toArray, List.set_cons_succ, List.set_cons_zero] using h0
set_option maxRecDepth 100000 in
set_option maxHeartbeats 16000000 in
theorem awake_calls (w : World) : Calls Tryz.prog 7 #[] w fun e w' => e = .returned (.bool true) ∧ Below w.heap.size w w' := by
  have HN := Aside0.mk (show Calls Tryz.prog 22 #[.string ⟨#[97, 99, 109, 101]⟩, .int .i64 1, .int .i64 2, .int .i64 5, .int .i64 1000] w (RT w (TL 0, 0)) by
    rw [← TL_new]; exact QNew_calls acme (by decide) 1 2 5 1000 w)
  have HOF := Aside0.mk (fun A c W h hc => show Calls Tryz.prog 24 #[tv (TL 5) (.slice A 1 c)] W (fun e w' => e = .returned (.int .i64 5) ∧ Below W.heap.size W w') by
    have := QOffered_calls (TL 5) (TL_small 5) A c W h hc
    rwa [show offT (TL 5) = 5 by kernel_rfl] at this)
  have hu := Tryz.underlying24
  have hu2 := Tryz.underlying45
  go_enter Tryz.func7, Tryz.ntmps7
  go_wp2_with (go_at_call 22; (refine HN.out.mono ?_); rintro e w1 ⟨A1, c1, rfl, hl1, hC1, hb⟩; have HC1 := Aside0.mk (show c1 ≥ 0 by omega); have HB1 := Aside0.mk hb; clear hb hl1 hC1)
  have HT := Aside0.mk (heap_alloc_keep (o := .cells #[.int .i64 1000, .int .i64 1000, .int .i64 1000, .int .i64 1999, .int .i64 2000] 3) (heap_alloc_new w1 (.cells #[.string (TL 0).nm, .int .i64 (TL 0).rate, .int .i64 (TL 0).burst, .int .i64 (TL 0).level, .int .i64 (TL 0).clock, .int .i64 (TL 0).mx, .slice A1 (TL 0).ser.length c1, .int .i64 (TL 0).acc, .int .i64 (TL 0).rr, .int .i64 (TL 0).rs] 24)))
  have HNB := Aside0.mk (heap_alloc_new (w1.alloc (.cells #[.string (TL 0).nm, .int .i64 (TL 0).rate, .int .i64 (TL 0).burst, .int .i64 (TL 0).level, .int .i64 (TL 0).clock, .int .i64 (TL 0).mx, .slice A1 (TL 0).ser.length c1, .int .i64 (TL 0).acc, .int .i64 (TL 0).rr, .int .i64 (TL 0).rs] 24)) (.cells #[.int .i64 1000, .int .i64 1000, .int .i64 1000, .int .i64 1999, .int .i64 2000] 3))
  rw [World.size_alloc] at HNB
  have HB2 := Aside0.mk (below_alloc (below_alloc HB1.out (.cells #[.string (TL 0).nm, .int .i64 (TL 0).rate, .int .i64 (TL 0).burst, .int .i64 (TL 0).level, .int .i64 (TL 0).clock, .int .i64 (TL 0).mx, .slice A1 (TL 0).ser.length c1, .int .i64 (TL 0).acc, .int .i64 (TL 0).rr, .int .i64 (TL 0).rs] 24)) (.cells #[.int .i64 1000, .int .i64 1000, .int .i64 1000, .int .i64 1999, .int .i64 2000] 3))
  obtain ⟨BN, hBN⟩ : ∃ BN, BN = w1.heap.size + 1 := ⟨_, rfl⟩
  obtain ⟨BT, hBT⟩ : ∃ BT, BT = w1.heap.size := ⟨_, rfl⟩
  have HTN := Aside0.mk (show BT ≠ BN by omega)
  have HBT := Aside0.mk (show w.heap.size ≤ BT by have := HB1.out.size; omega)
  generalize hW2 : (w1.alloc (.cells #[.string (TL 0).nm, .int .i64 (TL 0).rate, .int .i64 (TL 0).burst, .int .i64 (TL 0).level, .int .i64 (TL 0).clock, .int .i64 (TL 0).mx, .slice A1 (TL 0).ser.length c1, .int .i64 (TL 0).acc, .int .i64 (TL 0).rr, .int .i64 (TL 0).rs] 24)).alloc (.cells #[.int .i64 1000, .int .i64 1000, .int .i64 1000, .int .i64 1999, .int .i64 2000] 3) = W2 at *
  clear hW2
  rw [← hBN, ← hBT] at *
  clear hBN hBT
  go_loopg [15] (5) (fun kq v15 w' => ∃ (j : Nat) (A : Option Addr) (c : Nat), v15 = .int .i64 j ∧ j ≤ 5 ∧ Aside0 (kq = 5 - j) ∧ Aside0 (w'.heap[BT]? = some (.cells #[.string (TL j).nm, .int .i64 (TL j).rate, .int .i64 (TL j).burst, .int .i64 (TL j).level, .int .i64 (TL j).clock, .int .i64 (TL j).mx, .slice A (TL j).ser.length c, .int .i64 (TL j).acc, .int .i64 (TL j).rr, .int .i64 (TL j).rs] 24 (0, 0))) ∧ Aside0 (w'.heap[BN]? = some (.cells #[.int .i64 1000, .int .i64 1000, .int .i64 1000, .int .i64 1999, .int .i64 2000] 3 (0, 0))) ∧ Aside0 ((TL j).ser.length ≤ c) ∧ Aside0 (Kd.F kLL w' (fun k => k ≠ BT) A (TL j).ser.length (TL j).ser) ∧ Aside0 (Below w.heap.size w w'))
  case atStart => exact ⟨0, A1, c1, rfl, by omega, ⟨rfl⟩, HT, HNB, ⟨Nat.zero_le _⟩, ⟨fun W' _ => ⟨rfl, by show 0 ≤ _; omega, fun h => absurd h (Nat.lt_irrefl 0)⟩⟩, HB2⟩
  case round =>
    clear HT HNB HB2
    obtain ⟨j, A, c, rfl, hj, HK, HT, HNB, HLC, HF, HB⟩ := hrel
    by_cases hlt : j < 5
    · have dl : decide (j < 5) = true := decide_eq_true hlt
      have dl' : decide ((j : Int) < 5) = true := decide_eq_true (by omega)
      have pl : (0 ≤ (j : Int)) = True := eq_true (by omega)
      have pl2 : ((j : Int) < 5) = True := eq_true (by omega)
      have hnc := nb_cell HNB.out j hlt
      obtain ⟨hn0, hn1⟩ := nw_ok j hlt
      have HAD := Aside0.mk (fun (ok : Nat → Prop) A' W (h : Below wr.heap.size wr W) (hF : Kd.F k94 W ok A' 1 (lv xS)) (hok : ∀ k, k ≠ BT → k < wr.heap.size → ok k) => show Calls Tryz.prog 8 #[tv (TL j) (.slice A (TL j).ser.length c), .agg #[.int .i64 1, .slice A' 1 1, .int .i64 1, .int .i64 1, .int .i64 0, .int .i64 0, .int .i64 0, .int .i64 0, .int .i64 0, .int .i64 0, .int .i64 0, .slice none 0 0, .int .i64 0, .slice none 0 0, .string ⟨#[]⟩, .slice none 0 0, .int .i64 0, .int .i64 0, .int .i64 0, .int .i64 0, .string ⟨#[]⟩, .string ⟨#[]⟩, .int .i64 0, .int .i64 0, .int .i64 0, .slice none 0 0, .slice none 0 0, .int .i64 0, .slice none 0 0, .slice none 0 0, .slice none 0 0, .int .i64 0, .int .i64 0, .int .i64 0, .int .i64 0], .int .i64 (nw j)] W (RTF W ok (TL (j + 1), cdT j)) by
        rw [← TL_step j hlt]
        exact Admit_sample (TL j) (TL_val j hj) (TL_small j) (nw j) hn0 hn1 xS (by decide) (by decide) A c A' 1 W ok (Kd.F_mono (Kd.F_below (Kd.F_bound HF.out) h) (fun k hk => hok k hk.1 hk.2)) HLC.out hF (Nat.le_refl _))
      have HCD := Aside0.mk (cd_ok j hlt)
      have HTX := Aside0.mk (heap_lt HT.out)
      have HNX := Aside0.mk (heap_lt HNB.out)
      generalize hTE : TL (j + 1) = t' at *
      have HTE := Aside0.mk hTE
      clear hTE
      generalize cdT j = cd at *
      generalize nw j = now at *
      generalize TL j = t at *
      have y0 := (blk_cell HT.out 0).trans rfl; have y1 := (blk_cell HT.out 1).trans rfl; have y2 := (blk_cell HT.out 2).trans rfl; have y3 := (blk_cell HT.out 3).trans rfl; have y4 := (blk_cell HT.out 4).trans rfl; have y5 := (blk_cell HT.out 5).trans rfl; have y6 := (blk_cell HT.out 6).trans rfl; have y7 := (blk_cell HT.out 7).trans rfl; have y8 := (blk_cell HT.out 8).trans rfl; have y9 := (blk_cell HT.out 9).trans rfl; simp only [List.getElem?_toArray, List.getElem?_cons_zero, List.getElem?_cons_succ] at y0 y1 y2 y3 y4 y5 y6 y7 y8 y9
      clear hn0 hn1
      have HSP := Aside0.mk (fun W => show Calls Tryz.prog 23 #[.string ⟨#[120]⟩] W (fun e w' => ∃ A, e = .returned (.agg #[.int .i64 1, .slice A 1 1, .int .i64 1, .int .i64 1, .int .i64 0, .int .i64 0, .int .i64 0, .int .i64 0, .int .i64 0, .int .i64 0, .int .i64 0, .slice none 0 0, .int .i64 0, .slice none 0 0, .string ⟨#[]⟩, .slice none 0 0, .int .i64 0, .int .i64 0, .int .i64 0, .int .i64 0, .string ⟨#[]⟩, .string ⟨#[]⟩, .int .i64 0, .int .i64 0, .int .i64 0, .slice none 0 0, .slice none 0 0, .int .i64 0, .slice none 0 0, .slice none 0 0, .slice none 0 0, .int .i64 0, .int .i64 0, .int .i64 0, .int .i64 0]) ∧ Kd.F k94 w' (fun k => W.heap.size ≤ k) A 1 (lv xS) ∧ Below W.heap.size W w') from sample_calls xS W)
      have HD := Aside0.mk (show Below wr.heap.size wr wr.drew from below_drew (Below.refl _ _))
      go_wp2_with fail
      go_region_held3 (fun w' => w'.cell? ⟨BT, 0, none⟩ = some (.string t.nm) ∧ w'.cell? ⟨BT, 1, none⟩ = some (.int .i64 t.rate) ∧ w'.cell? ⟨BT, 2, none⟩ = some (.int .i64 t.burst) ∧ w'.cell? ⟨BT, 3, none⟩ = some (.int .i64 t.level) ∧ w'.cell? ⟨BT, 4, none⟩ = some (.int .i64 t.clock) ∧ w'.cell? ⟨BT, 5, none⟩ = some (.int .i64 t.mx) ∧ w'.cell? ⟨BT, 6, none⟩ = some (.slice A t.ser.length c) ∧ w'.cell? ⟨BT, 7, none⟩ = some (.int .i64 t.acc) ∧ w'.cell? ⟨BT, 8, none⟩ = some (.int .i64 t.rr) ∧ w'.cell? ⟨BT, 9, none⟩ = some (.int .i64 t.rs)) (go_keep)
        (first
        | (go_at_call 23; (with_reducible refine (HSP.out wr.drew).mono ?_); rintro e u1 ⟨A', rfl, hF1, hb⟩; have HBu := Aside0.mk (show Below wr.heap.size wr u1 from HD.out.trans hb); have HFLa := Aside0.mk (show Kd.F k94 u1 (fun k => wr.heap.size ≤ k ∧ k < u1.heap.size) A' 1 (lv xS) from Kd.F_bound hF1); have HT1 := Aside0.mk ((HBu.out.block BT HTX.out).trans HT.out); clear hb hF1 y0 y1 y2 y3 y4 y5 y6 y7 y8 y9; have y0 := (blk_cell HT1.out 0).trans rfl; have y1 := (blk_cell HT1.out 1).trans rfl; have y2 := (blk_cell HT1.out 2).trans rfl; have y3 := (blk_cell HT1.out 3).trans rfl; have y4 := (blk_cell HT1.out 4).trans rfl; have y5 := (blk_cell HT1.out 5).trans rfl; have y6 := (blk_cell HT1.out 6).trans rfl; have y7 := (blk_cell HT1.out 7).trans rfl; have y8 := (blk_cell HT1.out 8).trans rfl; have y9 := (blk_cell HT1.out 9).trans rfl; simp only [List.getElem?_toArray, List.getElem?_cons_zero, List.getElem?_cons_succ] at y0 y1 y2 y3 y4 y5 y6 y7 y8 y9)
        | (go_at_call 23; (with_reducible refine (HSP.out ((wr.alloc (.cells #[.string ⟨#[]⟩, .int .i64 0, .int .i64 0, .int .i64 0, .int .i64 0, .int .i64 0, .slice none 0 0, .int .i64 0, .int .i64 0, .int .i64 0] 24)).drew)).mono ?_); rintro e u1 ⟨A', rfl, hF1, hb⟩; have HBu := Aside0.mk (show Below wr.heap.size wr u1 from (below_alloc HD.out (.cells #[.string ⟨#[]⟩, .int .i64 0, .int .i64 0, .int .i64 0, .int .i64 0, .int .i64 0, .slice none 0 0, .int .i64 0, .int .i64 0, .int .i64 0] 24)).trans (hb.mono (below_alloc HD.out (.cells #[.string ⟨#[]⟩, .int .i64 0, .int .i64 0, .int .i64 0, .int .i64 0, .int .i64 0, .slice none 0 0, .int .i64 0, .int .i64 0, .int .i64 0] 24)).size)); have HFLc := Aside0.mk (Kd.F_bound hF1); have HZ1 := Aside0.mk ((hb.block wr.heap.size (by simp)).trans (heap_alloc_new wr.drew (.cells #[.string ⟨#[]⟩, .int .i64 0, .int .i64 0, .int .i64 0, .int .i64 0, .int .i64 0, .slice none 0 0, .int .i64 0, .int .i64 0, .int .i64 0] 24))); have HT1 := Aside0.mk ((HBu.out.block BT HTX.out).trans HT.out); clear hb hF1 y0 y1 y2 y3 y4 y5 y6 y7 y8 y9; have y0 := (blk_cell HT1.out 0).trans rfl; have y1 := (blk_cell HT1.out 1).trans rfl; have y2 := (blk_cell HT1.out 2).trans rfl; have y3 := (blk_cell HT1.out 3).trans rfl; have y4 := (blk_cell HT1.out 4).trans rfl; have y5 := (blk_cell HT1.out 5).trans rfl; have y6 := (blk_cell HT1.out 6).trans rfl; have y7 := (blk_cell HT1.out 7).trans rfl; have y8 := (blk_cell HT1.out 8).trans rfl; have y9 := (blk_cell HT1.out 9).trans rfl; simp only [List.getElem?_toArray, List.getElem?_cons_zero, List.getElem?_cons_succ] at y0 y1 y2 y3 y4 y5 y6 y7 y8 y9)
        | (go_at_call 8; (with_reducible refine (HAD.out (fun k => k ≠ BT) _ u1 (by exact HBu.out) (by exact Kd.F_mono HFLa.out (fun k hk => by have h3 := HTX.out; have h4 := hk.1; omega)) (fun k h _ => h)).mono ?_); rintro e u2 ⟨A2, c2, rfl, hl2, hF2, hb⟩; have HGa := Aside0.mk True.intro; have HL2 := Aside0.mk hl2; have HU1 := Aside0.mk (Nat.lt_of_lt_of_le HTX.out HBu.out.size); have HFF := Aside0.mk (Kd.F_mono hF2 (ok' := fun k => k ≠ BT) (fun k hk => by rcases hk with hk | hk; exact hk; have h3 := HU1.out; omega)); have HBv := Aside0.mk (HBu.out.trans (hb.mono HBu.out.size)); have HT2 := Aside0.mk ((HBv.out.block BT HTX.out).trans HT.out); have HN2 := Aside0.mk ((HBv.out.block BN HNX.out).trans HNB.out); clear hb hF2 hl2 y0 y1 y2 y3 y4 y5 y6 y7 y8 y9; have y0 := (blk_cell HT2.out 0).trans rfl; have y1 := (blk_cell HT2.out 1).trans rfl; have y2 := (blk_cell HT2.out 2).trans rfl; have y3 := (blk_cell HT2.out 3).trans rfl; have y4 := (blk_cell HT2.out 4).trans rfl; have y5 := (blk_cell HT2.out 5).trans rfl; have y6 := (blk_cell HT2.out 6).trans rfl; have y7 := (blk_cell HT2.out 7).trans rfl; have y8 := (blk_cell HT2.out 8).trans rfl; have y9 := (blk_cell HT2.out 9).trans rfl; simp only [List.getElem?_toArray, List.getElem?_cons_zero, List.getElem?_cons_succ] at y0 y1 y2 y3 y4 y5 y6 y7 y8 y9; have f0 := blk_frozen HT2.out 0; have f1 := blk_frozen HT2.out 1; have f2 := blk_frozen HT2.out 2; have f3 := blk_frozen HT2.out 3; have f4 := blk_frozen HT2.out 4; have f5 := blk_frozen HT2.out 5; have f6 := blk_frozen HT2.out 6; have f7 := blk_frozen HT2.out 7; have f8 := blk_frozen HT2.out 8; have f9 := blk_frozen HT2.out 9)
        | (go_at_call 8; (with_reducible refine (HAD.out (fun k => k ≠ BT ∧ k ≠ u1.heap.size) _ (u1.alloc (.cells #[.string ⟨#[]⟩, .int .i64 0, .int .i64 0, .int .i64 0, .int .i64 0, .int .i64 0, .slice none 0 0, .int .i64 0, .int .i64 0, .int .i64 0] 24)) (by exact below_alloc HBu.out _) (by exact Kd.F_alloc (Kd.F_mono HFLa.out (fun k hk => by have h3 := HTX.out; have h4 := hk.1; have h5 := hk.2; omega)) _) (fun k h h2 => ⟨h, by have := HBu.out.size; omega⟩)).mono ?_); rintro e u2 ⟨A2, c2, rfl, hl2, hF2, hb⟩; have HGb := Aside0.mk True.intro; have nb1 : u1.heap.size ≠ BT := (by have := Nat.lt_of_lt_of_le HTX.out HBu.out.size; omega); have nb2 : BT ≠ u1.heap.size := fun e => nb1 e.symm;  have HL2 := Aside0.mk hl2; have HU1 := Aside0.mk (Nat.lt_of_lt_of_le HTX.out HBu.out.size); have HFF := Aside0.mk (Kd.F_mono hF2 (ok' := fun k => k ≠ BT ∧ k ≠ u1.heap.size) (fun k hk => by rcases hk with hk | hk; exact hk; have h3 := HU1.out; simp at hk; omega)); have HBv := Aside0.mk ((below_alloc HBu.out (.cells #[.string ⟨#[]⟩, .int .i64 0, .int .i64 0, .int .i64 0, .int .i64 0, .int .i64 0, .slice none 0 0, .int .i64 0, .int .i64 0, .int .i64 0] 24)).trans (hb.mono (below_alloc HBu.out (.cells #[.string ⟨#[]⟩, .int .i64 0, .int .i64 0, .int .i64 0, .int .i64 0, .int .i64 0, .slice none 0 0, .int .i64 0, .int .i64 0, .int .i64 0] 24)).size)); have HZ2 := Aside0.mk ((hb.block u1.heap.size (by simp)).trans (heap_alloc_new u1 (.cells #[.string ⟨#[]⟩, .int .i64 0, .int .i64 0, .int .i64 0, .int .i64 0, .int .i64 0, .slice none 0 0, .int .i64 0, .int .i64 0, .int .i64 0] 24))); have HT2 := Aside0.mk ((HBv.out.block BT HTX.out).trans HT.out); have HN2 := Aside0.mk ((HBv.out.block BN HNX.out).trans HNB.out); clear hb hF2 hl2 y0 y1 y2 y3 y4 y5 y6 y7 y8 y9; have y0 := (blk_cell HT2.out 0).trans rfl; have y1 := (blk_cell HT2.out 1).trans rfl; have y2 := (blk_cell HT2.out 2).trans rfl; have y3 := (blk_cell HT2.out 3).trans rfl; have y4 := (blk_cell HT2.out 4).trans rfl; have y5 := (blk_cell HT2.out 5).trans rfl; have y6 := (blk_cell HT2.out 6).trans rfl; have y7 := (blk_cell HT2.out 7).trans rfl; have y8 := (blk_cell HT2.out 8).trans rfl; have y9 := (blk_cell HT2.out 9).trans rfl; simp only [List.getElem?_toArray, List.getElem?_cons_zero, List.getElem?_cons_succ] at y0 y1 y2 y3 y4 y5 y6 y7 y8 y9; have f0 := blk_frozen HT2.out 0; have f1 := blk_frozen HT2.out 1; have f2 := blk_frozen HT2.out 2; have f3 := blk_frozen HT2.out 3; have f4 := blk_frozen HT2.out 4; have f5 := blk_frozen HT2.out 5; have f6 := blk_frozen HT2.out 6; have f7 := blk_frozen HT2.out 7; have f8 := blk_frozen HT2.out 8; have f9 := blk_frozen HT2.out 9; have z0 := (blk_cell HZ2.out 0).trans rfl; have z1 := (blk_cell HZ2.out 1).trans rfl; have z2 := (blk_cell HZ2.out 2).trans rfl; have z3 := (blk_cell HZ2.out 3).trans rfl; have z4 := (blk_cell HZ2.out 4).trans rfl; have z5 := (blk_cell HZ2.out 5).trans rfl; have z6 := (blk_cell HZ2.out 6).trans rfl; have z7 := (blk_cell HZ2.out 7).trans rfl; have z8 := (blk_cell HZ2.out 8).trans rfl; have z9 := (blk_cell HZ2.out 9).trans rfl; simp only [List.getElem?_toArray, List.getElem?_cons_zero, List.getElem?_cons_succ] at z0 z1 z2 z3 z4 z5 z6 z7 z8 z9; have g0 := blk_frozen HZ2.out 0; have g1 := blk_frozen HZ2.out 1; have g2 := blk_frozen HZ2.out 2; have g3 := blk_frozen HZ2.out 3; have g4 := blk_frozen HZ2.out 4; have g5 := blk_frozen HZ2.out 5; have g6 := blk_frozen HZ2.out 6; have g7 := blk_frozen HZ2.out 7; have g8 := blk_frozen HZ2.out 8; have g9 := blk_frozen HZ2.out 9)
        | (go_at_call 8; (with_reducible refine (HAD.out (fun k => k ≠ BT ∧ k ≠ wr.heap.size) _ u1 (by exact HBu.out) (by exact Kd.F_mono HFLc.out (fun k hk => by have h3 := HTX.out; have h4 := hk.1; simp at h4; omega)) (fun k h h2 => ⟨h, by omega⟩)).mono ?_); rintro e u2 ⟨A2, c2, rfl, hl2, hF2, hb⟩; have HGc := Aside0.mk True.intro; have nb1 : wr.heap.size ≠ BT := (by have := HTX.out; omega); have nb2 : BT ≠ wr.heap.size := fun e => nb1 e.symm; have HL2 := Aside0.mk hl2; have HU1 := Aside0.mk (heap_lt HZ1.out); have HFF := Aside0.mk (Kd.F_mono hF2 (ok' := fun k => k ≠ BT ∧ k ≠ wr.heap.size) (fun k hk => by rcases hk with hk | hk; exact hk; have h3 := HU1.out; have h4 := HTX.out; omega)); have HBv := Aside0.mk (HBu.out.trans (hb.mono HBu.out.size)); have HZ2 := Aside0.mk ((hb.block wr.heap.size HU1.out).trans HZ1.out); have HT2 := Aside0.mk ((HBv.out.block BT HTX.out).trans HT.out); have HN2 := Aside0.mk ((HBv.out.block BN HNX.out).trans HNB.out); clear hb hF2 hl2 y0 y1 y2 y3 y4 y5 y6 y7 y8 y9; have y0 := (blk_cell HT2.out 0).trans rfl; have y1 := (blk_cell HT2.out 1).trans rfl; have y2 := (blk_cell HT2.out 2).trans rfl; have y3 := (blk_cell HT2.out 3).trans rfl; have y4 := (blk_cell HT2.out 4).trans rfl; have y5 := (blk_cell HT2.out 5).trans rfl; have y6 := (blk_cell HT2.out 6).trans rfl; have y7 := (blk_cell HT2.out 7).trans rfl; have y8 := (blk_cell HT2.out 8).trans rfl; have y9 := (blk_cell HT2.out 9).trans rfl; simp only [List.getElem?_toArray, List.getElem?_cons_zero, List.getElem?_cons_succ] at y0 y1 y2 y3 y4 y5 y6 y7 y8 y9; have f0 := blk_frozen HT2.out 0; have f1 := blk_frozen HT2.out 1; have f2 := blk_frozen HT2.out 2; have f3 := blk_frozen HT2.out 3; have f4 := blk_frozen HT2.out 4; have f5 := blk_frozen HT2.out 5; have f6 := blk_frozen HT2.out 6; have f7 := blk_frozen HT2.out 7; have f8 := blk_frozen HT2.out 8; have f9 := blk_frozen HT2.out 9; have z0 := (blk_cell HZ2.out 0).trans rfl; have z1 := (blk_cell HZ2.out 1).trans rfl; have z2 := (blk_cell HZ2.out 2).trans rfl; have z3 := (blk_cell HZ2.out 3).trans rfl; have z4 := (blk_cell HZ2.out 4).trans rfl; have z5 := (blk_cell HZ2.out 5).trans rfl; have z6 := (blk_cell HZ2.out 6).trans rfl; have z7 := (blk_cell HZ2.out 7).trans rfl; have z8 := (blk_cell HZ2.out 8).trans rfl; have z9 := (blk_cell HZ2.out 9).trans rfl; simp only [List.getElem?_toArray, List.getElem?_cons_zero, List.getElem?_cons_succ] at z0 z1 z2 z3 z4 z5 z6 z7 z8 z9; have g0 := blk_frozen HZ2.out 0; have g1 := blk_frozen HZ2.out 1; have g2 := blk_frozen HZ2.out 2; have g3 := blk_frozen HZ2.out 3; have g4 := blk_frozen HZ2.out 4; have g5 := blk_frozen HZ2.out 5; have g6 := blk_frozen HZ2.out 6; have g7 := blk_frozen HZ2.out 7; have g8 := blk_frozen HZ2.out 8; have g9 := blk_frozen HZ2.out 9))
      · clear y0 y1 y2 y3 y4 y5 y6 y7 y8 y9 f0 f1 f2 f3 f4 f5 f6 f7 f8 f9
        have HZ3 := Aside0.mk (heap_alloc_new u2 (.cells #[.string t'.nm, .int .i64 t'.rate, .int .i64 t'.burst, .int .i64 t'.level, .int .i64 t'.clock, .int .i64 t'.mx, .slice A2 t'.ser.length c2, .int .i64 t'.acc, .int .i64 t'.rr, .int .i64 t'.rs] 24))
        have HT3 := Aside0.mk (heap_alloc_keep (o := (.cells #[.string t'.nm, .int .i64 t'.rate, .int .i64 t'.burst, .int .i64 t'.level, .int .i64 t'.clock, .int .i64 t'.mx, .slice A2 t'.ser.length c2, .int .i64 t'.acc, .int .i64 t'.rr, .int .i64 t'.rs] 24)) HT2.out)
        have HN3 := Aside0.mk (heap_alloc_keep (o := (.cells #[.string t'.nm, .int .i64 t'.rate, .int .i64 t'.burst, .int .i64 t'.level, .int .i64 t'.clock, .int .i64 t'.mx, .slice A2 t'.ser.length c2, .int .i64 t'.acc, .int .i64 t'.rr, .int .i64 t'.rs] 24)) HN2.out)
        have HB3 := Aside0.mk (below_alloc (HB.out.trans (HBv.out.mono HB.out.size)) (.cells #[.string t'.nm, .int .i64 t'.rate, .int .i64 t'.burst, .int .i64 t'.level, .int .i64 t'.clock, .int .i64 t'.mx, .slice A2 t'.ser.length c2, .int .i64 t'.acc, .int .i64 t'.rr, .int .i64 t'.rs] 24))
        have nb1 : u2.heap.size ≠ BT := by have := heap_lt HT2.out; omega
        have nb2 : BT ≠ u2.heap.size := fun e => nb1 e.symm
        have HFX := Aside0.mk (Kd.F_mono (Kd.F_alloc (Kd.F_bound HFF.out) (.cells #[.string t'.nm, .int .i64 t'.rate, .int .i64 t'.burst, .int .i64 t'.level, .int .i64 t'.clock, .int .i64 t'.mx, .slice A2 t'.ser.length c2, .int .i64 t'.acc, .int .i64 t'.rr, .int .i64 t'.rs] 24)) (ok' := fun k => k ≠ BT ∧ k ≠ u2.heap.size) (fun k hk => ⟨hk.1, by have := hk.2; omega⟩))
        clear HT1 HT2 HN2 HBu HBv HFF HF HFLa HU1 HGa
        generalize (u2.alloc (.cells #[.string t'.nm, .int .i64 t'.rate, .int .i64 t'.burst, .int .i64 t'.level, .int .i64 t'.clock, .int .i64 t'.mx, .slice A2 t'.ser.length c2, .int .i64 t'.acc, .int .i64 t'.rr, .int .i64 t'.rs] 24)) = W3 at *
        generalize u2.heap.size = BZ at *
        have y0 := (blk_cell HT3.out 0).trans rfl; have y1 := (blk_cell HT3.out 1).trans rfl; have y2 := (blk_cell HT3.out 2).trans rfl; have y3 := (blk_cell HT3.out 3).trans rfl; have y4 := (blk_cell HT3.out 4).trans rfl; have y5 := (blk_cell HT3.out 5).trans rfl; have y6 := (blk_cell HT3.out 6).trans rfl; have y7 := (blk_cell HT3.out 7).trans rfl; have y8 := (blk_cell HT3.out 8).trans rfl; have y9 := (blk_cell HT3.out 9).trans rfl; simp only [List.getElem?_toArray, List.getElem?_cons_zero, List.getElem?_cons_succ] at y0 y1 y2 y3 y4 y5 y6 y7 y8 y9
        have f0 := blk_frozen HT3.out 0; have f1 := blk_frozen HT3.out 1; have f2 := blk_frozen HT3.out 2; have f3 := blk_frozen HT3.out 3; have f4 := blk_frozen HT3.out 4; have f5 := blk_frozen HT3.out 5; have f6 := blk_frozen HT3.out 6; have f7 := blk_frozen HT3.out 7; have f8 := blk_frozen HT3.out 8; have f9 := blk_frozen HT3.out 9
        have z0 := (blk_cell HZ3.out 0).trans rfl; have z1 := (blk_cell HZ3.out 1).trans rfl; have z2 := (blk_cell HZ3.out 2).trans rfl; have z3 := (blk_cell HZ3.out 3).trans rfl; have z4 := (blk_cell HZ3.out 4).trans rfl; have z5 := (blk_cell HZ3.out 5).trans rfl; have z6 := (blk_cell HZ3.out 6).trans rfl; have z7 := (blk_cell HZ3.out 7).trans rfl; have z8 := (blk_cell HZ3.out 8).trans rfl; have z9 := (blk_cell HZ3.out 9).trans rfl; simp only [List.getElem?_toArray, List.getElem?_cons_zero, List.getElem?_cons_succ] at z0 z1 z2 z3 z4 z5 z6 z7 z8 z9
        obtain ⟨hc, h2, h3⟩ | ⟨hc, h2⟩ | ⟨hc, h2⟩ := HCD.out
        · subst hc
          have p2 : ((j : Int) != 2) = true := by simp; omega
          have p3 : ((j : Int) != 3) = true := by simp; omega
          have p4 : decide ((j : Int) = 2) = false := decide_eq_false (by omega)
          have p5 : decide ((j : Int) = 3) = false := decide_eq_false (by omega)
          clear h2 h3
          go_wp2_with fail
          go_roundg (5 - (j + 1))
          case measure => have := HK.out; omega
          case rel =>
            have hTE := HTE.out
            subst hTE
            exact ⟨j + 1, A2, c2, by simp, by omega, ⟨rfl⟩, ⟨set10_blk HT3.out (.string (TL (j + 1)).nm) (.int .i64 (TL (j + 1)).rate) (.int .i64 (TL (j + 1)).burst) (.int .i64 (TL (j + 1)).level) (.int .i64 (TL (j + 1)).clock) (.int .i64 (TL (j + 1)).mx) (.slice A2 (TL (j + 1)).ser.length c2) (.int .i64 (TL (j + 1)).acc) (.int .i64 (TL (j + 1)).rr) (.int .i64 (TL (j + 1)).rs)⟩, ⟨(set10_far (W := W3) (B := BT) (k := BN) (fun e => HTN.out e.symm) (.string (TL (j + 1)).nm) (.int .i64 (TL (j + 1)).rate) (.int .i64 (TL (j + 1)).burst) (.int .i64 (TL (j + 1)).level) (.int .i64 (TL (j + 1)).clock) (.int .i64 (TL (j + 1)).mx) (.slice A2 (TL (j + 1)).ser.length c2) (.int .i64 (TL (j + 1)).acc) (.int .i64 (TL (j + 1)).rr) (.int .i64 (TL (j + 1)).rs)).trans HN3.out⟩, HL2, ⟨Kd.F_mono (Kd.F_step HFX.out (fun k hk _ => set10_far (W := W3) (B := BT) (k := k) hk.1 (.string (TL (j + 1)).nm) (.int .i64 (TL (j + 1)).rate) (.int .i64 (TL (j + 1)).burst) (.int .i64 (TL (j + 1)).level) (.int .i64 (TL (j + 1)).clock) (.int .i64 (TL (j + 1)).mx) (.slice A2 (TL (j + 1)).ser.length c2) (.int .i64 (TL (j + 1)).acc) (.int .i64 (TL (j + 1)).rr) (.int .i64 (TL (j + 1)).rs))) (fun k hk => hk.1)⟩, ⟨set10_below (B := BT) HB3.out HBT.out (.string (TL (j + 1)).nm) (.int .i64 (TL (j + 1)).rate) (.int .i64 (TL (j + 1)).burst) (.int .i64 (TL (j + 1)).level) (.int .i64 (TL (j + 1)).clock) (.int .i64 (TL (j + 1)).mx) (.slice A2 (TL (j + 1)).ser.length c2) (.int .i64 (TL (j + 1)).acc) (.int .i64 (TL (j + 1)).rr) (.int .i64 (TL (j + 1)).rs)⟩⟩
        · subst hc
          have p2 : ((j : Int) != 2) = false := by rw [h2]; rfl
          have p4 : decide ((j : Int) = 2) = true := decide_eq_true (by omega)
          clear h2
          go_wp2_with fail
          go_roundg (5 - (j + 1))
          case measure => have := HK.out; omega
          case rel =>
            have hTE := HTE.out
            subst hTE
            exact ⟨j + 1, A2, c2, by simp, by omega, ⟨rfl⟩, ⟨set10_blk HT3.out (.string (TL (j + 1)).nm) (.int .i64 (TL (j + 1)).rate) (.int .i64 (TL (j + 1)).burst) (.int .i64 (TL (j + 1)).level) (.int .i64 (TL (j + 1)).clock) (.int .i64 (TL (j + 1)).mx) (.slice A2 (TL (j + 1)).ser.length c2) (.int .i64 (TL (j + 1)).acc) (.int .i64 (TL (j + 1)).rr) (.int .i64 (TL (j + 1)).rs)⟩, ⟨(set10_far (W := W3) (B := BT) (k := BN) (fun e => HTN.out e.symm) (.string (TL (j + 1)).nm) (.int .i64 (TL (j + 1)).rate) (.int .i64 (TL (j + 1)).burst) (.int .i64 (TL (j + 1)).level) (.int .i64 (TL (j + 1)).clock) (.int .i64 (TL (j + 1)).mx) (.slice A2 (TL (j + 1)).ser.length c2) (.int .i64 (TL (j + 1)).acc) (.int .i64 (TL (j + 1)).rr) (.int .i64 (TL (j + 1)).rs)).trans HN3.out⟩, HL2, ⟨Kd.F_mono (Kd.F_step HFX.out (fun k hk _ => set10_far (W := W3) (B := BT) (k := k) hk.1 (.string (TL (j + 1)).nm) (.int .i64 (TL (j + 1)).rate) (.int .i64 (TL (j + 1)).burst) (.int .i64 (TL (j + 1)).level) (.int .i64 (TL (j + 1)).clock) (.int .i64 (TL (j + 1)).mx) (.slice A2 (TL (j + 1)).ser.length c2) (.int .i64 (TL (j + 1)).acc) (.int .i64 (TL (j + 1)).rr) (.int .i64 (TL (j + 1)).rs))) (fun k hk => hk.1)⟩, ⟨set10_below (B := BT) HB3.out HBT.out (.string (TL (j + 1)).nm) (.int .i64 (TL (j + 1)).rate) (.int .i64 (TL (j + 1)).burst) (.int .i64 (TL (j + 1)).level) (.int .i64 (TL (j + 1)).clock) (.int .i64 (TL (j + 1)).mx) (.slice A2 (TL (j + 1)).ser.length c2) (.int .i64 (TL (j + 1)).acc) (.int .i64 (TL (j + 1)).rr) (.int .i64 (TL (j + 1)).rs)⟩⟩
        · subst hc
          have p2 : ((j : Int) != 2) = true := by rw [h2]; rfl
          have p3 : ((j : Int) != 3) = false := by rw [h2]; rfl
          have p4 : decide ((j : Int) = 2) = false := decide_eq_false (by omega)
          have p5 : decide ((j : Int) = 3) = true := decide_eq_true (by omega)
          clear h2
          go_wp2_with fail
          go_roundg (5 - (j + 1))
          case measure => have := HK.out; omega
          case rel =>
            have hTE := HTE.out
            subst hTE
            exact ⟨j + 1, A2, c2, by simp, by omega, ⟨rfl⟩, ⟨set10_blk HT3.out (.string (TL (j + 1)).nm) (.int .i64 (TL (j + 1)).rate) (.int .i64 (TL (j + 1)).burst) (.int .i64 (TL (j + 1)).level) (.int .i64 (TL (j + 1)).clock) (.int .i64 (TL (j + 1)).mx) (.slice A2 (TL (j + 1)).ser.length c2) (.int .i64 (TL (j + 1)).acc) (.int .i64 (TL (j + 1)).rr) (.int .i64 (TL (j + 1)).rs)⟩, ⟨(set10_far (W := W3) (B := BT) (k := BN) (fun e => HTN.out e.symm) (.string (TL (j + 1)).nm) (.int .i64 (TL (j + 1)).rate) (.int .i64 (TL (j + 1)).burst) (.int .i64 (TL (j + 1)).level) (.int .i64 (TL (j + 1)).clock) (.int .i64 (TL (j + 1)).mx) (.slice A2 (TL (j + 1)).ser.length c2) (.int .i64 (TL (j + 1)).acc) (.int .i64 (TL (j + 1)).rr) (.int .i64 (TL (j + 1)).rs)).trans HN3.out⟩, HL2, ⟨Kd.F_mono (Kd.F_step HFX.out (fun k hk _ => set10_far (W := W3) (B := BT) (k := k) hk.1 (.string (TL (j + 1)).nm) (.int .i64 (TL (j + 1)).rate) (.int .i64 (TL (j + 1)).burst) (.int .i64 (TL (j + 1)).level) (.int .i64 (TL (j + 1)).clock) (.int .i64 (TL (j + 1)).mx) (.slice A2 (TL (j + 1)).ser.length c2) (.int .i64 (TL (j + 1)).acc) (.int .i64 (TL (j + 1)).rr) (.int .i64 (TL (j + 1)).rs))) (fun k hk => hk.1)⟩, ⟨set10_below (B := BT) HB3.out HBT.out (.string (TL (j + 1)).nm) (.int .i64 (TL (j + 1)).rate) (.int .i64 (TL (j + 1)).burst) (.int .i64 (TL (j + 1)).level) (.int .i64 (TL (j + 1)).clock) (.int .i64 (TL (j + 1)).mx) (.slice A2 (TL (j + 1)).ser.length c2) (.int .i64 (TL (j + 1)).acc) (.int .i64 (TL (j + 1)).rr) (.int .i64 (TL (j + 1)).rs)⟩⟩
      · clear y0 y1 y2 y3 y4 y5 y6 y7 y8 y9 f0 f1 f2 f3 f4 f5 f6 f7 f8 f9 z0 z1 z2 z3 z4 z5 z6 z7 z8 z9 g0 g1 g2 g3 g4 g5 g6 g7 g8 g9
        have HZ3 := set10_blk HZ2.out (.string t'.nm) (.int .i64 t'.rate) (.int .i64 t'.burst) (.int .i64 t'.level) (.int .i64 t'.clock) (.int .i64 t'.mx) (.slice A2 t'.ser.length c2) (.int .i64 t'.acc) (.int .i64 t'.rr) (.int .i64 t'.rs)
        have HT3 := (set10_far (W := u2) (B := u1.heap.size) nb2 (.string t'.nm) (.int .i64 t'.rate) (.int .i64 t'.burst) (.int .i64 t'.level) (.int .i64 t'.clock) (.int .i64 t'.mx) (.slice A2 t'.ser.length c2) (.int .i64 t'.acc) (.int .i64 t'.rr) (.int .i64 t'.rs)).trans HT2.out
        have HN3 := (set10_far (W := u2) (B := u1.heap.size) (k := BN) (by have h1 := Nat.lt_of_lt_of_le HNX.out HBu.out.size; omega) (.string t'.nm) (.int .i64 t'.rate) (.int .i64 t'.burst) (.int .i64 t'.level) (.int .i64 t'.clock) (.int .i64 t'.mx) (.slice A2 t'.ser.length c2) (.int .i64 t'.acc) (.int .i64 t'.rr) (.int .i64 t'.rs)).trans HN2.out
        have HB3 := set10_below (B := u1.heap.size) (HB.out.trans (HBv.out.mono HB.out.size)) (Nat.le_trans HB.out.size HBu.out.size) (.string t'.nm) (.int .i64 t'.rate) (.int .i64 t'.burst) (.int .i64 t'.level) (.int .i64 t'.clock) (.int .i64 t'.mx) (.slice A2 t'.ser.length c2) (.int .i64 t'.acc) (.int .i64 t'.rr) (.int .i64 t'.rs)
        have HFX := Kd.F_step HFF.out (fun k hk _ => set10_far (W := u2) (B := u1.heap.size) (k := k) hk.2 (.string t'.nm) (.int .i64 t'.rate) (.int .i64 t'.burst) (.int .i64 t'.level) (.int .i64 t'.clock) (.int .i64 t'.mx) (.slice A2 t'.ser.length c2) (.int .i64 t'.acc) (.int .i64 t'.rr) (.int .i64 t'.rs))
        unfold set10 at HZ3 HT3 HN3 HB3 HFX
        generalize ((((((((((u2.setCell ⟨u1.heap.size, 0, none⟩ (.string t'.nm)).setCell ⟨u1.heap.size, 1, none⟩ (.int .i64 t'.rate)).setCell ⟨u1.heap.size, 2, none⟩ (.int .i64 t'.burst)).setCell ⟨u1.heap.size, 3, none⟩ (.int .i64 t'.level)).setCell ⟨u1.heap.size, 4, none⟩ (.int .i64 t'.clock)).setCell ⟨u1.heap.size, 5, none⟩ (.int .i64 t'.mx)).setCell ⟨u1.heap.size, 6, none⟩ (.slice A2 t'.ser.length c2)).setCell ⟨u1.heap.size, 7, none⟩ (.int .i64 t'.acc)).setCell ⟨u1.heap.size, 8, none⟩ (.int .i64 t'.rr)).setCell ⟨u1.heap.size, 9, none⟩ (.int .i64 t'.rs)) = W3 at *
        have HZ3 := Aside0.mk HZ3
        have HT3 := Aside0.mk HT3
        have HN3 := Aside0.mk HN3
        have HB3 := Aside0.mk HB3
        have HFX := Aside0.mk HFX
        clear HT1 HT2 HN2 HZ2 HBu HBv HFF HF HFLa HU1 HGb
        generalize u1.heap.size = BZ at *
        have y0 := (blk_cell HT3.out 0).trans rfl; have y1 := (blk_cell HT3.out 1).trans rfl; have y2 := (blk_cell HT3.out 2).trans rfl; have y3 := (blk_cell HT3.out 3).trans rfl; have y4 := (blk_cell HT3.out 4).trans rfl; have y5 := (blk_cell HT3.out 5).trans rfl; have y6 := (blk_cell HT3.out 6).trans rfl; have y7 := (blk_cell HT3.out 7).trans rfl; have y8 := (blk_cell HT3.out 8).trans rfl; have y9 := (blk_cell HT3.out 9).trans rfl; simp only [List.getElem?_toArray, List.getElem?_cons_zero, List.getElem?_cons_succ] at y0 y1 y2 y3 y4 y5 y6 y7 y8 y9
        have f0 := blk_frozen HT3.out 0; have f1 := blk_frozen HT3.out 1; have f2 := blk_frozen HT3.out 2; have f3 := blk_frozen HT3.out 3; have f4 := blk_frozen HT3.out 4; have f5 := blk_frozen HT3.out 5; have f6 := blk_frozen HT3.out 6; have f7 := blk_frozen HT3.out 7; have f8 := blk_frozen HT3.out 8; have f9 := blk_frozen HT3.out 9
        have z0 := (blk_cell HZ3.out 0).trans rfl; have z1 := (blk_cell HZ3.out 1).trans rfl; have z2 := (blk_cell HZ3.out 2).trans rfl; have z3 := (blk_cell HZ3.out 3).trans rfl; have z4 := (blk_cell HZ3.out 4).trans rfl; have z5 := (blk_cell HZ3.out 5).trans rfl; have z6 := (blk_cell HZ3.out 6).trans rfl; have z7 := (blk_cell HZ3.out 7).trans rfl; have z8 := (blk_cell HZ3.out 8).trans rfl; have z9 := (blk_cell HZ3.out 9).trans rfl; simp only [List.getElem?_toArray, List.getElem?_cons_zero, List.getElem?_cons_succ] at z0 z1 z2 z3 z4 z5 z6 z7 z8 z9
        obtain ⟨hc, h2, h3⟩ | ⟨hc, h2⟩ | ⟨hc, h2⟩ := HCD.out
        · subst hc
          have p2 : ((j : Int) != 2) = true := by simp; omega
          have p3 : ((j : Int) != 3) = true := by simp; omega
          have p4 : decide ((j : Int) = 2) = false := decide_eq_false (by omega)
          have p5 : decide ((j : Int) = 3) = false := decide_eq_false (by omega)
          clear h2 h3
          go_wp2_with fail
          go_roundg (5 - (j + 1))
          case measure => have := HK.out; omega
          case rel =>
            have hTE := HTE.out
            subst hTE
            exact ⟨j + 1, A2, c2, by simp, by omega, ⟨rfl⟩, ⟨set10_blk HT3.out (.string (TL (j + 1)).nm) (.int .i64 (TL (j + 1)).rate) (.int .i64 (TL (j + 1)).burst) (.int .i64 (TL (j + 1)).level) (.int .i64 (TL (j + 1)).clock) (.int .i64 (TL (j + 1)).mx) (.slice A2 (TL (j + 1)).ser.length c2) (.int .i64 (TL (j + 1)).acc) (.int .i64 (TL (j + 1)).rr) (.int .i64 (TL (j + 1)).rs)⟩, ⟨(set10_far (W := W3) (B := BT) (k := BN) (fun e => HTN.out e.symm) (.string (TL (j + 1)).nm) (.int .i64 (TL (j + 1)).rate) (.int .i64 (TL (j + 1)).burst) (.int .i64 (TL (j + 1)).level) (.int .i64 (TL (j + 1)).clock) (.int .i64 (TL (j + 1)).mx) (.slice A2 (TL (j + 1)).ser.length c2) (.int .i64 (TL (j + 1)).acc) (.int .i64 (TL (j + 1)).rr) (.int .i64 (TL (j + 1)).rs)).trans HN3.out⟩, HL2, ⟨Kd.F_mono (Kd.F_step HFX.out (fun k hk _ => set10_far (W := W3) (B := BT) (k := k) hk.1 (.string (TL (j + 1)).nm) (.int .i64 (TL (j + 1)).rate) (.int .i64 (TL (j + 1)).burst) (.int .i64 (TL (j + 1)).level) (.int .i64 (TL (j + 1)).clock) (.int .i64 (TL (j + 1)).mx) (.slice A2 (TL (j + 1)).ser.length c2) (.int .i64 (TL (j + 1)).acc) (.int .i64 (TL (j + 1)).rr) (.int .i64 (TL (j + 1)).rs))) (fun k hk => hk.1)⟩, ⟨set10_below (B := BT) HB3.out HBT.out (.string (TL (j + 1)).nm) (.int .i64 (TL (j + 1)).rate) (.int .i64 (TL (j + 1)).burst) (.int .i64 (TL (j + 1)).level) (.int .i64 (TL (j + 1)).clock) (.int .i64 (TL (j + 1)).mx) (.slice A2 (TL (j + 1)).ser.length c2) (.int .i64 (TL (j + 1)).acc) (.int .i64 (TL (j + 1)).rr) (.int .i64 (TL (j + 1)).rs)⟩⟩
        · subst hc
          have p2 : ((j : Int) != 2) = false := by rw [h2]; rfl
          have p4 : decide ((j : Int) = 2) = true := decide_eq_true (by omega)
          clear h2
          go_wp2_with fail
          go_roundg (5 - (j + 1))
          case measure => have := HK.out; omega
          case rel =>
            have hTE := HTE.out
            subst hTE
            exact ⟨j + 1, A2, c2, by simp, by omega, ⟨rfl⟩, ⟨set10_blk HT3.out (.string (TL (j + 1)).nm) (.int .i64 (TL (j + 1)).rate) (.int .i64 (TL (j + 1)).burst) (.int .i64 (TL (j + 1)).level) (.int .i64 (TL (j + 1)).clock) (.int .i64 (TL (j + 1)).mx) (.slice A2 (TL (j + 1)).ser.length c2) (.int .i64 (TL (j + 1)).acc) (.int .i64 (TL (j + 1)).rr) (.int .i64 (TL (j + 1)).rs)⟩, ⟨(set10_far (W := W3) (B := BT) (k := BN) (fun e => HTN.out e.symm) (.string (TL (j + 1)).nm) (.int .i64 (TL (j + 1)).rate) (.int .i64 (TL (j + 1)).burst) (.int .i64 (TL (j + 1)).level) (.int .i64 (TL (j + 1)).clock) (.int .i64 (TL (j + 1)).mx) (.slice A2 (TL (j + 1)).ser.length c2) (.int .i64 (TL (j + 1)).acc) (.int .i64 (TL (j + 1)).rr) (.int .i64 (TL (j + 1)).rs)).trans HN3.out⟩, HL2, ⟨Kd.F_mono (Kd.F_step HFX.out (fun k hk _ => set10_far (W := W3) (B := BT) (k := k) hk.1 (.string (TL (j + 1)).nm) (.int .i64 (TL (j + 1)).rate) (.int .i64 (TL (j + 1)).burst) (.int .i64 (TL (j + 1)).level) (.int .i64 (TL (j + 1)).clock) (.int .i64 (TL (j + 1)).mx) (.slice A2 (TL (j + 1)).ser.length c2) (.int .i64 (TL (j + 1)).acc) (.int .i64 (TL (j + 1)).rr) (.int .i64 (TL (j + 1)).rs))) (fun k hk => hk.1)⟩, ⟨set10_below (B := BT) HB3.out HBT.out (.string (TL (j + 1)).nm) (.int .i64 (TL (j + 1)).rate) (.int .i64 (TL (j + 1)).burst) (.int .i64 (TL (j + 1)).level) (.int .i64 (TL (j + 1)).clock) (.int .i64 (TL (j + 1)).mx) (.slice A2 (TL (j + 1)).ser.length c2) (.int .i64 (TL (j + 1)).acc) (.int .i64 (TL (j + 1)).rr) (.int .i64 (TL (j + 1)).rs)⟩⟩
        · subst hc
          have p2 : ((j : Int) != 2) = true := by rw [h2]; rfl
          have p3 : ((j : Int) != 3) = false := by rw [h2]; rfl
          have p4 : decide ((j : Int) = 2) = false := decide_eq_false (by omega)
          have p5 : decide ((j : Int) = 3) = true := decide_eq_true (by omega)
          clear h2
          go_wp2_with fail
          go_roundg (5 - (j + 1))
          case measure => have := HK.out; omega
          case rel =>
            have hTE := HTE.out
            subst hTE
            exact ⟨j + 1, A2, c2, by simp, by omega, ⟨rfl⟩, ⟨set10_blk HT3.out (.string (TL (j + 1)).nm) (.int .i64 (TL (j + 1)).rate) (.int .i64 (TL (j + 1)).burst) (.int .i64 (TL (j + 1)).level) (.int .i64 (TL (j + 1)).clock) (.int .i64 (TL (j + 1)).mx) (.slice A2 (TL (j + 1)).ser.length c2) (.int .i64 (TL (j + 1)).acc) (.int .i64 (TL (j + 1)).rr) (.int .i64 (TL (j + 1)).rs)⟩, ⟨(set10_far (W := W3) (B := BT) (k := BN) (fun e => HTN.out e.symm) (.string (TL (j + 1)).nm) (.int .i64 (TL (j + 1)).rate) (.int .i64 (TL (j + 1)).burst) (.int .i64 (TL (j + 1)).level) (.int .i64 (TL (j + 1)).clock) (.int .i64 (TL (j + 1)).mx) (.slice A2 (TL (j + 1)).ser.length c2) (.int .i64 (TL (j + 1)).acc) (.int .i64 (TL (j + 1)).rr) (.int .i64 (TL (j + 1)).rs)).trans HN3.out⟩, HL2, ⟨Kd.F_mono (Kd.F_step HFX.out (fun k hk _ => set10_far (W := W3) (B := BT) (k := k) hk.1 (.string (TL (j + 1)).nm) (.int .i64 (TL (j + 1)).rate) (.int .i64 (TL (j + 1)).burst) (.int .i64 (TL (j + 1)).level) (.int .i64 (TL (j + 1)).clock) (.int .i64 (TL (j + 1)).mx) (.slice A2 (TL (j + 1)).ser.length c2) (.int .i64 (TL (j + 1)).acc) (.int .i64 (TL (j + 1)).rr) (.int .i64 (TL (j + 1)).rs))) (fun k hk => hk.1)⟩, ⟨set10_below (B := BT) HB3.out HBT.out (.string (TL (j + 1)).nm) (.int .i64 (TL (j + 1)).rate) (.int .i64 (TL (j + 1)).burst) (.int .i64 (TL (j + 1)).level) (.int .i64 (TL (j + 1)).clock) (.int .i64 (TL (j + 1)).mx) (.slice A2 (TL (j + 1)).ser.length c2) (.int .i64 (TL (j + 1)).acc) (.int .i64 (TL (j + 1)).rr) (.int .i64 (TL (j + 1)).rs)⟩⟩
      · clear y0 y1 y2 y3 y4 y5 y6 y7 y8 y9 f0 f1 f2 f3 f4 f5 f6 f7 f8 f9 z0 z1 z2 z3 z4 z5 z6 z7 z8 z9 g0 g1 g2 g3 g4 g5 g6 g7 g8 g9
        have HZ3 := set10_blk HZ2.out (.string t'.nm) (.int .i64 t'.rate) (.int .i64 t'.burst) (.int .i64 t'.level) (.int .i64 t'.clock) (.int .i64 t'.mx) (.slice A2 t'.ser.length c2) (.int .i64 t'.acc) (.int .i64 t'.rr) (.int .i64 t'.rs)
        have HT3 := (set10_far (W := u2) (B := wr.heap.size) nb2 (.string t'.nm) (.int .i64 t'.rate) (.int .i64 t'.burst) (.int .i64 t'.level) (.int .i64 t'.clock) (.int .i64 t'.mx) (.slice A2 t'.ser.length c2) (.int .i64 t'.acc) (.int .i64 t'.rr) (.int .i64 t'.rs)).trans HT2.out
        have HN3 := (set10_far (W := u2) (B := wr.heap.size) (k := BN) (by have h1 := HNX.out; omega) (.string t'.nm) (.int .i64 t'.rate) (.int .i64 t'.burst) (.int .i64 t'.level) (.int .i64 t'.clock) (.int .i64 t'.mx) (.slice A2 t'.ser.length c2) (.int .i64 t'.acc) (.int .i64 t'.rr) (.int .i64 t'.rs)).trans HN2.out
        have HB3 := set10_below (B := wr.heap.size) (HB.out.trans (HBv.out.mono HB.out.size)) HB.out.size (.string t'.nm) (.int .i64 t'.rate) (.int .i64 t'.burst) (.int .i64 t'.level) (.int .i64 t'.clock) (.int .i64 t'.mx) (.slice A2 t'.ser.length c2) (.int .i64 t'.acc) (.int .i64 t'.rr) (.int .i64 t'.rs)
        have HFX := Kd.F_step HFF.out (fun k hk _ => set10_far (W := u2) (B := wr.heap.size) (k := k) hk.2 (.string t'.nm) (.int .i64 t'.rate) (.int .i64 t'.burst) (.int .i64 t'.level) (.int .i64 t'.clock) (.int .i64 t'.mx) (.slice A2 t'.ser.length c2) (.int .i64 t'.acc) (.int .i64 t'.rr) (.int .i64 t'.rs))
        unfold set10 at HZ3 HT3 HN3 HB3 HFX
        generalize ((((((((((u2.setCell ⟨wr.heap.size, 0, none⟩ (.string t'.nm)).setCell ⟨wr.heap.size, 1, none⟩ (.int .i64 t'.rate)).setCell ⟨wr.heap.size, 2, none⟩ (.int .i64 t'.burst)).setCell ⟨wr.heap.size, 3, none⟩ (.int .i64 t'.level)).setCell ⟨wr.heap.size, 4, none⟩ (.int .i64 t'.clock)).setCell ⟨wr.heap.size, 5, none⟩ (.int .i64 t'.mx)).setCell ⟨wr.heap.size, 6, none⟩ (.slice A2 t'.ser.length c2)).setCell ⟨wr.heap.size, 7, none⟩ (.int .i64 t'.acc)).setCell ⟨wr.heap.size, 8, none⟩ (.int .i64 t'.rr)).setCell ⟨wr.heap.size, 9, none⟩ (.int .i64 t'.rs)) = W3 at *
        have HZ3 := Aside0.mk HZ3
        have HT3 := Aside0.mk HT3
        have HN3 := Aside0.mk HN3
        have HB3 := Aside0.mk HB3
        have HFX := Aside0.mk HFX
        have HZW := Aside0.mk True.intro
        clear HT1 HT2 HN2 HZ2 HZ1 HBu HBv HFF HF HFLc HU1 HGc HTX HNX HD HAD
        generalize wr.heap.size = BZ at *
        have y0 := (blk_cell HT3.out 0).trans rfl; have y1 := (blk_cell HT3.out 1).trans rfl; have y2 := (blk_cell HT3.out 2).trans rfl; have y3 := (blk_cell HT3.out 3).trans rfl; have y4 := (blk_cell HT3.out 4).trans rfl; have y5 := (blk_cell HT3.out 5).trans rfl; have y6 := (blk_cell HT3.out 6).trans rfl; have y7 := (blk_cell HT3.out 7).trans rfl; have y8 := (blk_cell HT3.out 8).trans rfl; have y9 := (blk_cell HT3.out 9).trans rfl; simp only [List.getElem?_toArray, List.getElem?_cons_zero, List.getElem?_cons_succ] at y0 y1 y2 y3 y4 y5 y6 y7 y8 y9
        have f0 := blk_frozen HT3.out 0; have f1 := blk_frozen HT3.out 1; have f2 := blk_frozen HT3.out 2; have f3 := blk_frozen HT3.out 3; have f4 := blk_frozen HT3.out 4; have f5 := blk_frozen HT3.out 5; have f6 := blk_frozen HT3.out 6; have f7 := blk_frozen HT3.out 7; have f8 := blk_frozen HT3.out 8; have f9 := blk_frozen HT3.out 9
        have z0 := (blk_cell HZ3.out 0).trans rfl; have z1 := (blk_cell HZ3.out 1).trans rfl; have z2 := (blk_cell HZ3.out 2).trans rfl; have z3 := (blk_cell HZ3.out 3).trans rfl; have z4 := (blk_cell HZ3.out 4).trans rfl; have z5 := (blk_cell HZ3.out 5).trans rfl; have z6 := (blk_cell HZ3.out 6).trans rfl; have z7 := (blk_cell HZ3.out 7).trans rfl; have z8 := (blk_cell HZ3.out 8).trans rfl; have z9 := (blk_cell HZ3.out 9).trans rfl; simp only [List.getElem?_toArray, List.getElem?_cons_zero, List.getElem?_cons_succ] at z0 z1 z2 z3 z4 z5 z6 z7 z8 z9
        obtain ⟨hc, h2, h3⟩ | ⟨hc, h2⟩ | ⟨hc, h2⟩ := HCD.out
        · subst hc
          have p2 : ((j : Int) != 2) = true := by simp; omega
          have p3 : ((j : Int) != 3) = true := by simp; omega
          have p4 : decide ((j : Int) = 2) = false := decide_eq_false (by omega)
          have p5 : decide ((j : Int) = 3) = false := decide_eq_false (by omega)
          clear h2 h3
          go_wp2_with fail
          go_roundg (5 - (j + 1))
          case measure => have := HK.out; omega
          case rel =>
            have hTE := HTE.out
            subst hTE
            exact ⟨j + 1, A2, c2, by simp, by omega, ⟨rfl⟩, ⟨set10_blk HT3.out (.string (TL (j + 1)).nm) (.int .i64 (TL (j + 1)).rate) (.int .i64 (TL (j + 1)).burst) (.int .i64 (TL (j + 1)).level) (.int .i64 (TL (j + 1)).clock) (.int .i64 (TL (j + 1)).mx) (.slice A2 (TL (j + 1)).ser.length c2) (.int .i64 (TL (j + 1)).acc) (.int .i64 (TL (j + 1)).rr) (.int .i64 (TL (j + 1)).rs)⟩, ⟨(set10_far (W := W3) (B := BT) (k := BN) (fun e => HTN.out e.symm) (.string (TL (j + 1)).nm) (.int .i64 (TL (j + 1)).rate) (.int .i64 (TL (j + 1)).burst) (.int .i64 (TL (j + 1)).level) (.int .i64 (TL (j + 1)).clock) (.int .i64 (TL (j + 1)).mx) (.slice A2 (TL (j + 1)).ser.length c2) (.int .i64 (TL (j + 1)).acc) (.int .i64 (TL (j + 1)).rr) (.int .i64 (TL (j + 1)).rs)).trans HN3.out⟩, HL2, ⟨Kd.F_mono (Kd.F_step HFX.out (fun k hk _ => set10_far (W := W3) (B := BT) (k := k) hk.1 (.string (TL (j + 1)).nm) (.int .i64 (TL (j + 1)).rate) (.int .i64 (TL (j + 1)).burst) (.int .i64 (TL (j + 1)).level) (.int .i64 (TL (j + 1)).clock) (.int .i64 (TL (j + 1)).mx) (.slice A2 (TL (j + 1)).ser.length c2) (.int .i64 (TL (j + 1)).acc) (.int .i64 (TL (j + 1)).rr) (.int .i64 (TL (j + 1)).rs))) (fun k hk => hk.1)⟩, ⟨set10_below (B := BT) HB3.out HBT.out (.string (TL (j + 1)).nm) (.int .i64 (TL (j + 1)).rate) (.int .i64 (TL (j + 1)).burst) (.int .i64 (TL (j + 1)).level) (.int .i64 (TL (j + 1)).clock) (.int .i64 (TL (j + 1)).mx) (.slice A2 (TL (j + 1)).ser.length c2) (.int .i64 (TL (j + 1)).acc) (.int .i64 (TL (j + 1)).rr) (.int .i64 (TL (j + 1)).rs)⟩⟩
        · subst hc
          have p2 : ((j : Int) != 2) = false := by rw [h2]; rfl
          have p4 : decide ((j : Int) = 2) = true := decide_eq_true (by omega)
          clear h2
          go_wp2_with fail
          go_roundg (5 - (j + 1))
          case measure => have := HK.out; omega
          case rel =>
            have hTE := HTE.out
            subst hTE
            exact ⟨j + 1, A2, c2, by simp, by omega, ⟨rfl⟩, ⟨set10_blk HT3.out (.string (TL (j + 1)).nm) (.int .i64 (TL (j + 1)).rate) (.int .i64 (TL (j + 1)).burst) (.int .i64 (TL (j + 1)).level) (.int .i64 (TL (j + 1)).clock) (.int .i64 (TL (j + 1)).mx) (.slice A2 (TL (j + 1)).ser.length c2) (.int .i64 (TL (j + 1)).acc) (.int .i64 (TL (j + 1)).rr) (.int .i64 (TL (j + 1)).rs)⟩, ⟨(set10_far (W := W3) (B := BT) (k := BN) (fun e => HTN.out e.symm) (.string (TL (j + 1)).nm) (.int .i64 (TL (j + 1)).rate) (.int .i64 (TL (j + 1)).burst) (.int .i64 (TL (j + 1)).level) (.int .i64 (TL (j + 1)).clock) (.int .i64 (TL (j + 1)).mx) (.slice A2 (TL (j + 1)).ser.length c2) (.int .i64 (TL (j + 1)).acc) (.int .i64 (TL (j + 1)).rr) (.int .i64 (TL (j + 1)).rs)).trans HN3.out⟩, HL2, ⟨Kd.F_mono (Kd.F_step HFX.out (fun k hk _ => set10_far (W := W3) (B := BT) (k := k) hk.1 (.string (TL (j + 1)).nm) (.int .i64 (TL (j + 1)).rate) (.int .i64 (TL (j + 1)).burst) (.int .i64 (TL (j + 1)).level) (.int .i64 (TL (j + 1)).clock) (.int .i64 (TL (j + 1)).mx) (.slice A2 (TL (j + 1)).ser.length c2) (.int .i64 (TL (j + 1)).acc) (.int .i64 (TL (j + 1)).rr) (.int .i64 (TL (j + 1)).rs))) (fun k hk => hk.1)⟩, ⟨set10_below (B := BT) HB3.out HBT.out (.string (TL (j + 1)).nm) (.int .i64 (TL (j + 1)).rate) (.int .i64 (TL (j + 1)).burst) (.int .i64 (TL (j + 1)).level) (.int .i64 (TL (j + 1)).clock) (.int .i64 (TL (j + 1)).mx) (.slice A2 (TL (j + 1)).ser.length c2) (.int .i64 (TL (j + 1)).acc) (.int .i64 (TL (j + 1)).rr) (.int .i64 (TL (j + 1)).rs)⟩⟩
        · subst hc
          have p2 : ((j : Int) != 2) = true := by rw [h2]; rfl
          have p3 : ((j : Int) != 3) = false := by rw [h2]; rfl
          have p4 : decide ((j : Int) = 2) = false := decide_eq_false (by omega)
          have p5 : decide ((j : Int) = 3) = true := decide_eq_true (by omega)
          clear h2
          go_wp2_with fail
          go_roundg (5 - (j + 1))
          case measure => have := HK.out; omega
          case rel =>
            have hTE := HTE.out
            subst hTE
            exact ⟨j + 1, A2, c2, by simp, by omega, ⟨rfl⟩, ⟨set10_blk HT3.out (.string (TL (j + 1)).nm) (.int .i64 (TL (j + 1)).rate) (.int .i64 (TL (j + 1)).burst) (.int .i64 (TL (j + 1)).level) (.int .i64 (TL (j + 1)).clock) (.int .i64 (TL (j + 1)).mx) (.slice A2 (TL (j + 1)).ser.length c2) (.int .i64 (TL (j + 1)).acc) (.int .i64 (TL (j + 1)).rr) (.int .i64 (TL (j + 1)).rs)⟩, ⟨(set10_far (W := W3) (B := BT) (k := BN) (fun e => HTN.out e.symm) (.string (TL (j + 1)).nm) (.int .i64 (TL (j + 1)).rate) (.int .i64 (TL (j + 1)).burst) (.int .i64 (TL (j + 1)).level) (.int .i64 (TL (j + 1)).clock) (.int .i64 (TL (j + 1)).mx) (.slice A2 (TL (j + 1)).ser.length c2) (.int .i64 (TL (j + 1)).acc) (.int .i64 (TL (j + 1)).rr) (.int .i64 (TL (j + 1)).rs)).trans HN3.out⟩, HL2, ⟨Kd.F_mono (Kd.F_step HFX.out (fun k hk _ => set10_far (W := W3) (B := BT) (k := k) hk.1 (.string (TL (j + 1)).nm) (.int .i64 (TL (j + 1)).rate) (.int .i64 (TL (j + 1)).burst) (.int .i64 (TL (j + 1)).level) (.int .i64 (TL (j + 1)).clock) (.int .i64 (TL (j + 1)).mx) (.slice A2 (TL (j + 1)).ser.length c2) (.int .i64 (TL (j + 1)).acc) (.int .i64 (TL (j + 1)).rr) (.int .i64 (TL (j + 1)).rs))) (fun k hk => hk.1)⟩, ⟨set10_below (B := BT) HB3.out HBT.out (.string (TL (j + 1)).nm) (.int .i64 (TL (j + 1)).rate) (.int .i64 (TL (j + 1)).burst) (.int .i64 (TL (j + 1)).level) (.int .i64 (TL (j + 1)).clock) (.int .i64 (TL (j + 1)).mx) (.slice A2 (TL (j + 1)).ser.length c2) (.int .i64 (TL (j + 1)).acc) (.int .i64 (TL (j + 1)).rr) (.int .i64 (TL (j + 1)).rs)⟩⟩
    · obtain rfl : j = 5 := by omega
      have y0 : wr.cell? ⟨BT, 0, none⟩ = some (.string ⟨#[97, 99, 109, 101]⟩) := (blk_cell HT.out 0).trans rfl
      have y1 : wr.cell? ⟨BT, 1, none⟩ = some (.int .i64 1) := (blk_cell HT.out 1).trans rfl
      have y2 : wr.cell? ⟨BT, 2, none⟩ = some (.int .i64 2) := (blk_cell HT.out 2).trans rfl
      have y3 : wr.cell? ⟨BT, 3, none⟩ = some (.int .i64 0) := (blk_cell HT.out 3).trans rfl
      have y4 : wr.cell? ⟨BT, 4, none⟩ = some (.int .i64 2000) := (blk_cell HT.out 4).trans rfl
      have y5 : wr.cell? ⟨BT, 5, none⟩ = some (.int .i64 5) := (blk_cell HT.out 5).trans rfl
      have y6 : wr.cell? ⟨BT, 6, none⟩ = some (.slice A 1 c) := (blk_cell HT.out 6).trans rfl
      have y7 : wr.cell? ⟨BT, 7, none⟩ = some (.int .i64 3) := (blk_cell HT.out 7).trans rfl
      have y8 : wr.cell? ⟨BT, 8, none⟩ = some (.int .i64 2) := (blk_cell HT.out 8).trans rfl
      have y9 : wr.cell? ⟨BT, 9, none⟩ = some (.int .i64 0) := (blk_cell HT.out 9).trans rfl
      have HO5 := Aside0.mk (show Calls Tryz.prog 24 #[.agg #[.string ⟨#[97, 99, 109, 101]⟩, .int .i64 1, .int .i64 2, .int .i64 0, .int .i64 2000, .int .i64 5, .slice A 1 c, .int .i64 3, .int .i64 2, .int .i64 0]] wr (fun e w' => e = .returned (.int .i64 5) ∧ Below wr.heap.size wr w') from HOF.out A c wr (HF.out wr (fun _ _ _ => rfl)) HLC.out)
      clear HNB HF HLC HK
      go_wp2_with (go_at_call 24; (with_reducible refine HO5.out.mono ?_); rintro e w9 ⟨rfl, hb⟩; have HB9 := Aside0.mk (HB.out.trans (hb.mono HB.out.size)); have x6 : w9.cell? ⟨BT, 6, none⟩ = some (.slice A 1 c) := (blk_cell ((hb.block BT (heap_lt HT.out)).trans HT.out) 6).trans rfl; clear hb)
      go_ret
      exact ⟨rfl, HB9.out⟩
end Go.Proofs.YtakobehkajphpaaGreat.H

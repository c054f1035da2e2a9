/- The law QuotaBest. -/
import Derived.Test.YtakobehkajphpaaQLg
import Derived.Test.YtakobehkajphpaaQAwake
import Derived.Deep.DeepCutAuto
namespace Go.Proofs.Ytakobehkajphpaa.H
open Go Go.RowKit Go.Proofs.YtakobehkajphpaaW.PrintWords Go.Proofs.YtakobehkajphpaaW.PrintLast Go.Proofs.YtakobehkajphpaaW.PrintMore Go.Proofs.Ytakobehkajphpaa.PAll
set_option linter.unusedVariables false
set_option linter.unusedSimpArgs false
attribute [local go_sem] max2_int min2_int max_two min_two

theorem opn_Bools : Opn 58 (Kd.slice 4 Kd.bool) (fun l => ∀ x ∈ l, True) := opn_slice 4 Try.underlying58 (by kernel_rfl) (opn_bool Try.underlying4 (by kernel_rfl))
theorem at_Bool {w : World} {A : Option Addr} {l : List Bool} (h : Kd.C Kd.bool w A l.length l) (j : Nat) (hj : j < l.length) : ∃ ad, A = some ad ∧ w.cell? (ad.add j) = some (.bool l[j]) := by
  obtain ⟨ad, c, e, _, hK, hc0⟩ := Kd.C_get h false (j : Int) (by omega) (by omega)
  have hg : l.getD (j : Int).toNat false = l[j] := by simp [List.getD_eq_getElem?_getD, List.getElem?_eq_getElem hj]
  rw [hg] at hK
  cases hK
  have := hc0 0 _ rfl
  exact ⟨ad, e, by simpa [Kd.bool, Kd.scalar] using this⟩
set_option maxRecDepth 100000 in
set_option maxHeartbeats 16000000 in
theorem QLBest_row (w : World) (r b : Int) (hr0 : 0 ≤ r) (hr1 : r ≤ 255) (hb0 : 0 ≤ b) (hb1 : b ≤ 255) (A0 : Option Addr) (l : List OfV) (c0 : Nat) (hC : Kd.C kOffer w A0 l.length l) (hl : l.length ≤ c0) (hg : ∀ x ∈ l, (Lit.int .u16 x.af).wf = true ∧ (Lit.int .u8 x.se).wf = true) (A9 : Option Addr) (pk : List Bool) (c9 : Nat) (hC9 : Kd.C Kd.bool w A9 pk.length pk) (hl9 : pk.length ≤ c9) :
    Calls Try.prog 4 #[.int .u8 r, .int .u8 b, .slice A0 l.length c0, .slice A9 pk.length c9] w fun e w' => e = .returned (.bool true) ∧ Below w.heap.size w w' := by
  have HA := Aside0.mk (fun W => awake_calls W)
  have HN := Aside0.mk (show Calls Try.prog 8 #[.string ⟨#[97, 99, 109, 101]⟩, .int .i64 r, .int .i64 (1 + b), .int .i64 0, .int .i64 1] w (RT w (⟨acme, r, 1 + b, 1000 * (1 + b), 1, 0, [], 0, 0, 0⟩, 0)) by
    have h1 : isNm (ab acme) = true := by kernel_rfl
    have := QNew_calls acme (by decide) r (1 + b) 0 1 w
    rwa [newT_ok h1 (rng_iff.2 (by omega))] at this)
  have HM := Aside0.mk (Kd.C_max hC)
  have hu := Try.underlying25
  have hu2 := Try.underlying33
  by_cases hlen : 30 < l.length
  · have d1 : decide (30 < l.length) = true := decide_eq_true hlen
    have d2 : decide ((30 : Int) < (l.length : Int)) = true := decide_eq_true (by omega)
    clear hC hC9 hg
    go_enter Try.func4, Try.ntmps4
    go_wp2_with (first
      | (go_at_call 8; (refine HN.out.mono ?_); rintro e w1 ⟨A1, c1, rfl, hl1, hC1, hb⟩; have HB1 := Aside0.mk (below_alloc hb (.cells #[.string acme, .int .i64 r, .int .i64 (1 + b), .int .i64 (1000 * (1 + b)), .int .i64 1, .int .i64 0, .slice A1 0 c1, .int .i64 0, .int .i64 0, .int .i64 0] 25)); clear hb hl1 hC1)
      | (go_at_call 9; (with_reducible refine (HA.out _).mono ?_); rintro e w9 ⟨rfl, hb⟩; have HB9 := Aside0.mk (HB1.out.trans (hb.mono HB1.out.size)); clear hb))
    go_ret
    exact ⟨rfl, HB9.out⟩
  have d1 : decide (30 < l.length) = false := decide_eq_false hlen
  have d2 : decide ((30 : Int) < (l.length : Int)) = false := decide_eq_false (by omega)
  have HGD := Aside0.mk hg
  have HCL := Aside0.mk hC
  have HC9 := Aside0.mk hC9
  have HL30 := Aside0.mk hlen
  clear hC hC9 hg hlen
  go_enter Try.func4, Try.ntmps4
  go_wp2_with (go_at_call 8; (refine HN.out.mono ?_); rintro e w1 ⟨A1, c1, rfl, hl1, hC1, hb⟩; have HLC1 := Aside0.mk (show 0 ≤ c1 from Nat.zero_le _); have HBa := Aside0.mk hb; clear hb hl1 hC1)
  have HT := Aside0.mk (heap_alloc_new w1 (.cells #[.string acme, .int .i64 r, .int .i64 (1 + b), .int .i64 (1000 * (1 + b)), .int .i64 1, .int .i64 0, .slice A1 0 c1, .int .i64 0, .int .i64 0, .int .i64 0] 25))
  have HB := Aside0.mk (below_alloc HBa.out (.cells #[.string acme, .int .i64 r, .int .i64 (1 + b), .int .i64 (1000 * (1 + b)), .int .i64 1, .int .i64 0, .slice A1 0 c1, .int .i64 0, .int .i64 0, .int .i64 0] 25))
  have HBT := Aside0.mk HBa.out.size
  have HI0 := Aside0.mk (InvB.start (R := r) (B := 1 + b) ⟨acme, r, 1 + b, 1000 * (1 + b), 1, 0, [], 0, 0, 0⟩ (newT_val (by kernel_rfl) (rng_iff.2 (by omega))) ⟨by show acme.size ≤ 1000; decide, by show (0 : Nat) ≤ 1000; omega, fun l hl => by cases hl⟩ rfl rfl rfl rfl rfl hr0 hr1)
  generalize w1.alloc (.cells #[.string acme, .int .i64 r, .int .i64 (1 + b), .int .i64 (1000 * (1 + b)), .int .i64 1, .int .i64 0, .slice A1 0 c1, .int .i64 0, .int .i64 0, .int .i64 0] 25) = W0 at *
  generalize w1.heap.size = BT at *
  clear HBa HN
  go_loopg [11, 12, 13, 45] (l.length) (fun kq v11 v12 v13 v45 w' => ∃ (j : Nat) (t : TV) (A : Option Addr) (c : Nat) (now level sel : Int), v11 = .int .i64 now ∧ v12 = .int .i64 level ∧ v13 = .int .i64 sel ∧ v45 = .int .i64 j ∧ j ≤ l.length ∧ Aside0 (kq = l.length - j) ∧ Aside0 (InvB r (1 + b) j t now level sel) ∧ Aside0 (w'.heap[BT]? = some (.cells #[.string t.nm, .int .i64 t.rate, .int .i64 t.burst, .int .i64 t.level, .int .i64 t.clock, .int .i64 t.mx, .slice A t.ser.length c, .int .i64 t.acc, .int .i64 t.rr, .int .i64 t.rs] 25 (0, 0))) ∧ Aside0 (t.ser.length ≤ c) ∧ Aside0 (Kd.F kLL w' (fun k => k ≠ BT) A t.ser.length t.ser) ∧ Aside0 (Below w.heap.size w w'))
  case atStart => exact ⟨0, ⟨acme, r, 1 + b, 1000 * (1 + b), 1, 0, [], 0, 0, 0⟩, A1, c1, 1, 1000 * (1 + b), 0, rfl, rfl, rfl, rfl, Nat.zero_le _, ⟨rfl⟩, HI0, HT, HLC1, ⟨fun W' _ => ⟨rfl, by show 0 ≤ _; omega, fun h => absurd h (Nat.lt_irrefl 0)⟩⟩, HB⟩
  case round =>
    clear HT HB HI0 HLC1
    obtain ⟨j, t, A, c, now, level, sel, rfl, rfl, rfl, rfl, hj, HK, HI, HT, HLC, HF, HB⟩ := hrel
    by_cases hlt : j < l.length
    · obtain ⟨ad, HE0⟩ : ∃ ad, Aside0 (A0 = some ad ∧ wr.cell? (ad.add (j * 2)) = some (.int .u16 l[j].af) ∧ wr.cell? ⟨(ad.add (j * 2)).block, (ad.add (j * 2)).off + 1, none⟩ = some (.int .u8 l[j].se)) := by
        obtain ⟨ad, e1, h0, h1⟩ := at_Offer (Kd.C_below HCL.out HB.out) j hlt
        exact ⟨ad, ⟨e1, h0, h1⟩⟩
      obtain ⟨rfl, g0, g1⟩ := HE0.out
      have hx := HGD.out l[j] (List.getElem_mem hlt)
      generalize l[j] = x at *
      have ha := wf_u16 hx.1
      obtain ⟨ha0, ha1⟩ := ha
      clear HE0 hx
      have dl : decide (j < l.length) = true := decide_eq_true hlt
      have pl : (0 ≤ (j : Int)) = True := eq_true (by omega)
      have hn0 : 1 ≤ now := by have h1 := HI.out.val.c0; have h2 := HI.out.clk; omega
      have hn1 : now ≤ 2000000 := by have h1 := HI.out.n1; have h2 := HL30.out; omega
      have hv0 := HI.out.l0
      have hv1 := HI.out.l1
      have hs0 := HI.out.s0
      have hs1 : sel ≤ 30 := by have h1 := HI.out.s1; have h2 := HI.out.acc; have h3 := HL30.out; omega
      obtain ⟨hp0, hp1⟩ := pow_b hr0 hr1 ha0 ha1
      go_upto_region 9 with (fail)
      have HX := Aside0.mk (heap_alloc_new wr (.cells #[.int .u16 x.af, .int .u8 x.se] 33))
      have HT1 := Aside0.mk (heap_alloc_keep (o := (.cells #[.int .u16 x.af, .int .u8 x.se] 33)) HT.out)
      have HB1 := Aside0.mk (below_alloc HB.out (.cells #[.int .u16 x.af, .int .u8 x.se] 33))
      have HFa := Aside0.mk (Kd.F_mono (Kd.F_alloc (Kd.F_bound HF.out) (.cells #[.int .u16 x.af, .int .u8 x.se] 33)) (ok' := fun k => k ≠ BT ∧ k ≠ wr.heap.size) (fun k hk => ⟨hk.1, by have := hk.2; omega⟩))
      have HXT := Aside0.mk (show wr.heap.size ≠ BT by have := heap_lt HT.out; omega)
      clear HT HB HF g0 g1
      have HT := HT1
      have HB := HB1
      clear HT1 HB1
      generalize wr.alloc (.cells #[.int .u16 x.af, .int .u8 x.se] 33) = W1 at *
      generalize wr.heap.size = BX at *
      have HF := Aside0.mk (Kd.F_mono HFa.out (ok' := (fun k => k ≠ BT)) (fun k hk => hk.1))
      have HTX := Aside0.mk (heap_lt HT.out)
      have HOP := Aside0.mk (fun W => op_any 0 0 (by omega) (by omega) W)
      have HST := Aside0.mk (fun p => HI.out.step (by have h2 := HL30.out; omega) ha0 ha1 p)
      obtain ⟨t', HTE⟩ : ∃ t', Aside0 ((admT (fillT t (now + x.af)) none).1 = t') := ⟨_, ⟨rfl⟩⟩
      obtain ⟨cd, HCE⟩ : ∃ cd, Aside0 ((admT (fillT t (now + x.af)) none).2 = cd) := ⟨_, ⟨rfl⟩⟩
      have HCD := Aside0.mk (show cd = 0 ∨ cd = 22 by rw [← HCE.out]; exact adm_code _ _)
      have HAD := Aside0.mk (fun (okX : Nat → Prop) A' W (h : Below W1.heap.size W1 W) (hF : opOK W okX 0 A') (hok : ∀ k, (fun k => k ≠ BT) k → k < W1.heap.size → okX k) => show Calls Try.prog 10 #[tv t (.slice A t.ser.length c), opV 0 A', .int .i64 (now + x.af)] W (RTF W okX (t', cd)) by
        have h1 := HI.out.clk
        have := Admit_any t HI.out.val HI.out.small (now + x.af) (by omega) (by omega) 0 A c A' W okX (Kd.F_mono (Kd.F_below (Kd.F_bound HF.out) h) (fun k hk => hok k hk.1 hk.2)) HLC.out hF
        rwa [show admT (fillT t (now + x.af)) (opS 0) = (t', cd) by rw [← HTE.out, ← HCE.out]; rfl] at this)
      rw [HTE.out] at HST
      have y0 := (blk_cell HT.out 0).trans rfl; have y1 := (blk_cell HT.out 1).trans rfl; have y2 := (blk_cell HT.out 2).trans rfl; have y3 := (blk_cell HT.out 3).trans rfl; have y4 := (blk_cell HT.out 4).trans rfl; have y5 := (blk_cell HT.out 5).trans rfl; have y6 := (blk_cell HT.out 6).trans rfl; have y7 := (blk_cell HT.out 7).trans rfl; have y8 := (blk_cell HT.out 8).trans rfl; have y9 := (blk_cell HT.out 9).trans rfl; simp only [List.getElem?_toArray, List.getElem?_cons_zero, List.getElem?_cons_succ] at y0 y1 y2 y3 y4 y5 y6 y7 y8 y9
      go_cut [16, 17] (fun s16 s17 wx => ∃ (BZ : Nat) (A2 : Option Addr) (c2 : Nat), s16 = .pointer (some ⟨BZ, 0, none⟩) ∧ s17 = .int .i64 cd ∧ Aside0 (W1.heap.size ≤ BZ) ∧ Aside0 (wx.heap[BZ]? = some (.cells #[.string t'.nm, .int .i64 t'.rate, .int .i64 t'.burst, .int .i64 t'.level, .int .i64 t'.clock, .int .i64 t'.mx, .slice A2 t'.ser.length c2, .int .i64 t'.acc, .int .i64 t'.rr, .int .i64 t'.rs] 25 (0, 0))) ∧ Aside0 (t'.ser.length ≤ c2) ∧ Aside0 (Kd.F kLL wx (fun k => ((fun k => k ≠ BT) k ∧ k < W1.heap.size) ∨ (W1.heap.size ≤ k ∧ k ≠ BZ)) A2 t'.ser.length t'.ser) ∧ Aside0 (Below W1.heap.size W1 wx))
      case first =>
        have HD := Aside0.mk (show Below W1.heap.size W1 W1.drew from below_drew (Below.refl _ _))
        go_region_held3 (fun w' => w'.cell? ⟨BT, 0, none⟩ = some (.string t.nm) ∧ w'.cell? ⟨BT, 1, none⟩ = some (.int .i64 t.rate) ∧ w'.cell? ⟨BT, 2, none⟩ = some (.int .i64 t.burst) ∧ w'.cell? ⟨BT, 3, none⟩ = some (.int .i64 t.level) ∧ w'.cell? ⟨BT, 4, none⟩ = some (.int .i64 t.clock) ∧ w'.cell? ⟨BT, 5, none⟩ = some (.int .i64 t.mx) ∧ w'.cell? ⟨BT, 6, none⟩ = some (.slice A t.ser.length c) ∧ w'.cell? ⟨BT, 7, none⟩ = some (.int .i64 t.acc) ∧ w'.cell? ⟨BT, 8, none⟩ = some (.int .i64 t.rr) ∧ w'.cell? ⟨BT, 9, none⟩ = some (.int .i64 t.rs)) (go_keep)
          (first
          | (go_at_call 11; (with_reducible refine (HOP.out W1.drew).mono ?_); rintro e u1 ⟨A', rfl, hF1, hb⟩; have HBu := Aside0.mk (show Below W1.heap.size W1 u1 from HD.out.trans hb); have HFLa := Aside0.mk (show opOK u1 (fun k => W1.heap.size ≤ k ∧ k < u1.heap.size) 0 A' from hF1); clear hb hF1; have HT1 := Aside0.mk ((HBu.out.block BT HTX.out).trans HT.out); clear y0 y1 y2 y3 y4 y5 y6 y7 y8 y9; have y0 := (blk_cell HT1.out 0).trans rfl; have y1 := (blk_cell HT1.out 1).trans rfl; have y2 := (blk_cell HT1.out 2).trans rfl; have y3 := (blk_cell HT1.out 3).trans rfl; have y4 := (blk_cell HT1.out 4).trans rfl; have y5 := (blk_cell HT1.out 5).trans rfl; have y6 := (blk_cell HT1.out 6).trans rfl; have y7 := (blk_cell HT1.out 7).trans rfl; have y8 := (blk_cell HT1.out 8).trans rfl; have y9 := (blk_cell HT1.out 9).trans rfl; simp only [List.getElem?_toArray, List.getElem?_cons_zero, List.getElem?_cons_succ] at y0 y1 y2 y3 y4 y5 y6 y7 y8 y9)
          | (go_at_call 11; (with_reducible refine (HOP.out ((W1.alloc (.cells #[.string ⟨#[]⟩, .int .i64 0, .int .i64 0, .int .i64 0, .int .i64 0, .int .i64 0, .slice none 0 0, .int .i64 0, .int .i64 0, .int .i64 0] 25)).drew)).mono ?_); rintro e u1 ⟨A', rfl, hF1, hb⟩; have HBu := Aside0.mk (show Below W1.heap.size W1 u1 from (below_alloc HD.out (.cells #[.string ⟨#[]⟩, .int .i64 0, .int .i64 0, .int .i64 0, .int .i64 0, .int .i64 0, .slice none 0 0, .int .i64 0, .int .i64 0, .int .i64 0] 25)).trans (hb.mono (below_alloc HD.out (.cells #[.string ⟨#[]⟩, .int .i64 0, .int .i64 0, .int .i64 0, .int .i64 0, .int .i64 0, .slice none 0 0, .int .i64 0, .int .i64 0, .int .i64 0] 25)).size)); have HFLc := Aside0.mk hF1; have HZ1 := Aside0.mk ((hb.block W1.heap.size (by simp)).trans (heap_alloc_new W1.drew (.cells #[.string ⟨#[]⟩, .int .i64 0, .int .i64 0, .int .i64 0, .int .i64 0, .int .i64 0, .slice none 0 0, .int .i64 0, .int .i64 0, .int .i64 0] 25))); clear hb hF1; have HT1 := Aside0.mk ((HBu.out.block BT HTX.out).trans HT.out); clear y0 y1 y2 y3 y4 y5 y6 y7 y8 y9; have y0 := (blk_cell HT1.out 0).trans rfl; have y1 := (blk_cell HT1.out 1).trans rfl; have y2 := (blk_cell HT1.out 2).trans rfl; have y3 := (blk_cell HT1.out 3).trans rfl; have y4 := (blk_cell HT1.out 4).trans rfl; have y5 := (blk_cell HT1.out 5).trans rfl; have y6 := (blk_cell HT1.out 6).trans rfl; have y7 := (blk_cell HT1.out 7).trans rfl; have y8 := (blk_cell HT1.out 8).trans rfl; have y9 := (blk_cell HT1.out 9).trans rfl; simp only [List.getElem?_toArray, List.getElem?_cons_zero, List.getElem?_cons_succ] at y0 y1 y2 y3 y4 y5 y6 y7 y8 y9)
          | (go_at_call 10; (with_reducible refine (HAD.out (fun k => ((fun k => k ≠ BT) k ∧ k < W1.heap.size) ∨ W1.heap.size ≤ k) _ u1 (by exact HBu.out) (by exact opOK_mono HFLa.out (fun k hk => .inr hk.1)) (fun k h h2 => .inl ⟨h, h2⟩)).mono ?_); rintro e u2 ⟨A2, c2, rfl, hl2, hF2, hb⟩; have HGa := Aside0.mk True.intro; have HL2 := Aside0.mk hl2; have HFF := Aside0.mk (Kd.F_mono hF2 (ok' := (fun k => ((fun k => k ≠ BT) k ∧ k < W1.heap.size) ∨ W1.heap.size ≤ k)) (fun k hk => by rcases hk with hk | hk; exact hk; exact .inr (Nat.le_trans HBu.out.size hk))); have HBv := Aside0.mk (HBu.out.trans (hb.mono HBu.out.size)); clear hb hF2 hl2; have HT1 := Aside0.mk ((HBv.out.block BT HTX.out).trans HT.out); clear y0 y1 y2 y3 y4 y5 y6 y7 y8 y9; have y0 := (blk_cell HT1.out 0).trans rfl; have y1 := (blk_cell HT1.out 1).trans rfl; have y2 := (blk_cell HT1.out 2).trans rfl; have y3 := (blk_cell HT1.out 3).trans rfl; have y4 := (blk_cell HT1.out 4).trans rfl; have y5 := (blk_cell HT1.out 5).trans rfl; have y6 := (blk_cell HT1.out 6).trans rfl; have y7 := (blk_cell HT1.out 7).trans rfl; have y8 := (blk_cell HT1.out 8).trans rfl; have y9 := (blk_cell HT1.out 9).trans rfl; simp only [List.getElem?_toArray, List.getElem?_cons_zero, List.getElem?_cons_succ] at y0 y1 y2 y3 y4 y5 y6 y7 y8 y9)
          | (go_at_call 10; (with_reducible refine (HAD.out (fun k => ((fun k => k ≠ BT) k ∧ k < W1.heap.size) ∨ (W1.heap.size ≤ k ∧ k ≠ u1.heap.size)) _ (u1.alloc (.cells #[.string ⟨#[]⟩, .int .i64 0, .int .i64 0, .int .i64 0, .int .i64 0, .int .i64 0, .slice none 0 0, .int .i64 0, .int .i64 0, .int .i64 0] 25)) (by exact below_alloc HBu.out _) (by exact opOK_alloc (opOK_mono HFLa.out (fun k hk => ⟨.inr ⟨hk.1, by have h5 := hk.2; omega⟩, hk.2⟩)) _) (fun k h h2 => .inl ⟨h, h2⟩)).mono ?_); rintro e u2 ⟨A2, c2, rfl, hl2, hF2, hb⟩; have HGb := Aside0.mk True.intro; have nb1 : u1.heap.size ≠ BT := (by have := Nat.lt_of_lt_of_le HTX.out HBu.out.size; omega); have nb2 : BT ≠ u1.heap.size := fun e => nb1 e.symm;  have HL2 := Aside0.mk hl2; have HFF := Aside0.mk (Kd.F_mono hF2 (ok' := (fun k => ((fun k => k ≠ BT) k ∧ k < W1.heap.size) ∨ (W1.heap.size ≤ k ∧ k ≠ u1.heap.size))) (fun k hk => by have h3 := HBu.out.size; rcases hk with hk | hk; exact hk; simp at hk; exact .inr ⟨by omega, by omega⟩)); have HBv := Aside0.mk ((below_alloc HBu.out (.cells #[.string ⟨#[]⟩, .int .i64 0, .int .i64 0, .int .i64 0, .int .i64 0, .int .i64 0, .slice none 0 0, .int .i64 0, .int .i64 0, .int .i64 0] 25)).trans (hb.mono (below_alloc HBu.out (.cells #[.string ⟨#[]⟩, .int .i64 0, .int .i64 0, .int .i64 0, .int .i64 0, .int .i64 0, .slice none 0 0, .int .i64 0, .int .i64 0, .int .i64 0] 25)).size)); have HZ2 := Aside0.mk ((hb.block u1.heap.size (by simp)).trans (heap_alloc_new u1 (.cells #[.string ⟨#[]⟩, .int .i64 0, .int .i64 0, .int .i64 0, .int .i64 0, .int .i64 0, .slice none 0 0, .int .i64 0, .int .i64 0, .int .i64 0] 25))); clear hb hF2 hl2; have HT1 := Aside0.mk ((HBv.out.block BT HTX.out).trans HT.out); clear y0 y1 y2 y3 y4 y5 y6 y7 y8 y9; have y0 := (blk_cell HT1.out 0).trans rfl; have y1 := (blk_cell HT1.out 1).trans rfl; have y2 := (blk_cell HT1.out 2).trans rfl; have y3 := (blk_cell HT1.out 3).trans rfl; have y4 := (blk_cell HT1.out 4).trans rfl; have y5 := (blk_cell HT1.out 5).trans rfl; have y6 := (blk_cell HT1.out 6).trans rfl; have y7 := (blk_cell HT1.out 7).trans rfl; have y8 := (blk_cell HT1.out 8).trans rfl; have y9 := (blk_cell HT1.out 9).trans rfl; simp only [List.getElem?_toArray, List.getElem?_cons_zero, List.getElem?_cons_succ] at y0 y1 y2 y3 y4 y5 y6 y7 y8 y9; have z0 := (blk_cell HZ2.out 0).trans rfl; have z1 := (blk_cell HZ2.out 1).trans rfl; have z2 := (blk_cell HZ2.out 2).trans rfl; have z3 := (blk_cell HZ2.out 3).trans rfl; have z4 := (blk_cell HZ2.out 4).trans rfl; have z5 := (blk_cell HZ2.out 5).trans rfl; have z6 := (blk_cell HZ2.out 6).trans rfl; have z7 := (blk_cell HZ2.out 7).trans rfl; have z8 := (blk_cell HZ2.out 8).trans rfl; have z9 := (blk_cell HZ2.out 9).trans rfl; simp only [List.getElem?_toArray, List.getElem?_cons_zero, List.getElem?_cons_succ] at z0 z1 z2 z3 z4 z5 z6 z7 z8 z9; have g0 := blk_frozen HZ2.out 0; have g1 := blk_frozen HZ2.out 1; have g2 := blk_frozen HZ2.out 2; have g3 := blk_frozen HZ2.out 3; have g4 := blk_frozen HZ2.out 4; have g5 := blk_frozen HZ2.out 5; have g6 := blk_frozen HZ2.out 6; have g7 := blk_frozen HZ2.out 7; have g8 := blk_frozen HZ2.out 8; have g9 := blk_frozen HZ2.out 9)
          | (go_at_call 10; (with_reducible refine (HAD.out (fun k => ((fun k => k ≠ BT) k ∧ k < W1.heap.size) ∨ (W1.heap.size ≤ k ∧ k ≠ W1.heap.size)) _ u1 (by exact HBu.out) (by exact opOK_mono HFLc.out (fun k hk => .inr (by have h4 := hk.1; simp at h4; omega))) (fun k h h2 => .inl ⟨h, h2⟩)).mono ?_); rintro e u2 ⟨A2, c2, rfl, hl2, hF2, hb⟩; have HGc := Aside0.mk True.intro; have nb1 : W1.heap.size ≠ BT := (by have := HTX.out; omega); have nb2 : BT ≠ W1.heap.size := fun e => nb1 e.symm; have HL2 := Aside0.mk hl2; have HU1 := Aside0.mk (heap_lt HZ1.out); have HFF := Aside0.mk (Kd.F_mono hF2 (ok' := (fun k => ((fun k => k ≠ BT) k ∧ k < W1.heap.size) ∨ (W1.heap.size ≤ k ∧ k ≠ W1.heap.size))) (fun k hk => by have h3 := HU1.out; rcases hk with hk | hk; exact hk; exact .inr ⟨by omega, by omega⟩)); have HBv := Aside0.mk (HBu.out.trans (hb.mono HBu.out.size)); have HZ2 := Aside0.mk ((hb.block W1.heap.size HU1.out).trans HZ1.out); clear hb hF2 hl2; have HT1 := Aside0.mk ((HBv.out.block BT HTX.out).trans HT.out); clear y0 y1 y2 y3 y4 y5 y6 y7 y8 y9; have y0 := (blk_cell HT1.out 0).trans rfl; have y1 := (blk_cell HT1.out 1).trans rfl; have y2 := (blk_cell HT1.out 2).trans rfl; have y3 := (blk_cell HT1.out 3).trans rfl; have y4 := (blk_cell HT1.out 4).trans rfl; have y5 := (blk_cell HT1.out 5).trans rfl; have y6 := (blk_cell HT1.out 6).trans rfl; have y7 := (blk_cell HT1.out 7).trans rfl; have y8 := (blk_cell HT1.out 8).trans rfl; have y9 := (blk_cell HT1.out 9).trans rfl; simp only [List.getElem?_toArray, List.getElem?_cons_zero, List.getElem?_cons_succ] at y0 y1 y2 y3 y4 y5 y6 y7 y8 y9; have z0 := (blk_cell HZ2.out 0).trans rfl; have z1 := (blk_cell HZ2.out 1).trans rfl; have z2 := (blk_cell HZ2.out 2).trans rfl; have z3 := (blk_cell HZ2.out 3).trans rfl; have z4 := (blk_cell HZ2.out 4).trans rfl; have z5 := (blk_cell HZ2.out 5).trans rfl; have z6 := (blk_cell HZ2.out 6).trans rfl; have z7 := (blk_cell HZ2.out 7).trans rfl; have z8 := (blk_cell HZ2.out 8).trans rfl; have z9 := (blk_cell HZ2.out 9).trans rfl; simp only [List.getElem?_toArray, List.getElem?_cons_zero, List.getElem?_cons_succ] at z0 z1 z2 z3 z4 z5 z6 z7 z8 z9; have g0 := blk_frozen HZ2.out 0; have g1 := blk_frozen HZ2.out 1; have g2 := blk_frozen HZ2.out 2; have g3 := blk_frozen HZ2.out 3; have g4 := blk_frozen HZ2.out 4; have g5 := blk_frozen HZ2.out 5; have g6 := blk_frozen HZ2.out 6; have g7 := blk_frozen HZ2.out 7; have g8 := blk_frozen HZ2.out 8; have g9 := blk_frozen HZ2.out 9))
        · go_wp2_with fail
          go_meet
          refine ⟨u2.heap.size, A2, c2, rfl, rfl, ⟨Nat.le_trans HBv.out.size (Nat.le_refl _)⟩, ⟨heap_alloc_new u2 (.cells #[.string t'.nm, .int .i64 t'.rate, .int .i64 t'.burst, .int .i64 t'.level, .int .i64 t'.clock, .int .i64 t'.mx, .slice A2 t'.ser.length c2, .int .i64 t'.acc, .int .i64 t'.rr, .int .i64 t'.rs] 25)⟩, HL2, ⟨Kd.F_mono (Kd.F_alloc (Kd.F_bound HFF.out) (.cells #[.string t'.nm, .int .i64 t'.rate, .int .i64 t'.burst, .int .i64 t'.level, .int .i64 t'.clock, .int .i64 t'.mx, .slice A2 t'.ser.length c2, .int .i64 t'.acc, .int .i64 t'.rr, .int .i64 t'.rs] 25)) (fun k hk => ?_)⟩, ⟨below_alloc HBv.out (.cells #[.string t'.nm, .int .i64 t'.rate, .int .i64 t'.burst, .int .i64 t'.level, .int .i64 t'.clock, .int .i64 t'.mx, .slice A2 t'.ser.length c2, .int .i64 t'.acc, .int .i64 t'.rr, .int .i64 t'.rs] 25)⟩⟩
          rcases hk with ⟨hk | hk, h2⟩
          · exact .inl hk
          · exact .inr ⟨hk, by omega⟩
        · go_wp2_with fail
          go_meet
          exact ⟨u1.heap.size, A2, c2, rfl, rfl, ⟨HBu.out.size⟩, ⟨set10_blk HZ2.out (.string t'.nm) (.int .i64 t'.rate) (.int .i64 t'.burst) (.int .i64 t'.level) (.int .i64 t'.clock) (.int .i64 t'.mx) (.slice A2 t'.ser.length c2) (.int .i64 t'.acc) (.int .i64 t'.rr) (.int .i64 t'.rs)⟩, HL2, ⟨Kd.F_step HFF.out (fun k hk h2 => set10_far (W := u2) (B := u1.heap.size) (k := k) (by rcases hk with hk | hk; (have h3 := HBu.out.size; have h4 := hk.2; omega); exact hk.2) (.string t'.nm) (.int .i64 t'.rate) (.int .i64 t'.burst) (.int .i64 t'.level) (.int .i64 t'.clock) (.int .i64 t'.mx) (.slice A2 t'.ser.length c2) (.int .i64 t'.acc) (.int .i64 t'.rr) (.int .i64 t'.rs))⟩, ⟨set10_below (B := u1.heap.size) HBv.out HBu.out.size (.string t'.nm) (.int .i64 t'.rate) (.int .i64 t'.burst) (.int .i64 t'.level) (.int .i64 t'.clock) (.int .i64 t'.mx) (.slice A2 t'.ser.length c2) (.int .i64 t'.acc) (.int .i64 t'.rr) (.int .i64 t'.rs)⟩⟩
        · go_wp2_with fail
          go_meet
          exact ⟨W1.heap.size, A2, c2, rfl, rfl, ⟨Nat.le_refl _⟩, ⟨set10_blk HZ2.out (.string t'.nm) (.int .i64 t'.rate) (.int .i64 t'.burst) (.int .i64 t'.level) (.int .i64 t'.clock) (.int .i64 t'.mx) (.slice A2 t'.ser.length c2) (.int .i64 t'.acc) (.int .i64 t'.rr) (.int .i64 t'.rs)⟩, HL2, ⟨Kd.F_step HFF.out (fun k hk h2 => set10_far (W := u2) (B := W1.heap.size) (k := k) (by rcases hk with hk | hk; (have h4 := hk.2; omega); exact hk.2) (.string t'.nm) (.int .i64 t'.rate) (.int .i64 t'.burst) (.int .i64 t'.level) (.int .i64 t'.clock) (.int .i64 t'.mx) (.slice A2 t'.ser.length c2) (.int .i64 t'.acc) (.int .i64 t'.rr) (.int .i64 t'.rs))⟩, ⟨set10_below (B := W1.heap.size) HBv.out (Nat.le_refl _) (.string t'.nm) (.int .i64 t'.rate) (.int .i64 t'.burst) (.int .i64 t'.level) (.int .i64 t'.clock) (.int .i64 t'.mx) (.slice A2 t'.ser.length c2) (.int .i64 t'.acc) (.int .i64 t'.rr) (.int .i64 t'.rs)⟩⟩
      case rest =>
        obtain ⟨BZ, A2, c2, rfl, rfl, HZB, HZ, HL2, HF2, HBx⟩ := hcut
        have HTn := Aside0.mk ((HBx.out.block BT HTX.out).trans HT.out)
        have HXn := Aside0.mk ((HBx.out.block BX (heap_lt HX.out)).trans HX.out)
        have HBn := Aside0.mk (HB.out.trans (HBx.out.mono HB.out.size))
        have nb1 : BZ ≠ BT := by have h1 := HZB.out; have h2 := HTX.out; omega
        have nb2 : BT ≠ BZ := fun e => nb1 e.symm
        have nb3 : BX ≠ BT := HXT.out
        have nb4 : BT ≠ BX := fun e => nb3 e.symm
        clear y0 y1 y2 y3 y4 y5 y6 y7 y8 y9
        have y0 := (blk_cell HTn.out 0).trans rfl; have y1 := (blk_cell HTn.out 1).trans rfl; have y2 := (blk_cell HTn.out 2).trans rfl; have y3 := (blk_cell HTn.out 3).trans rfl; have y4 := (blk_cell HTn.out 4).trans rfl; have y5 := (blk_cell HTn.out 5).trans rfl; have y6 := (blk_cell HTn.out 6).trans rfl; have y7 := (blk_cell HTn.out 7).trans rfl; have y8 := (blk_cell HTn.out 8).trans rfl; have y9 := (blk_cell HTn.out 9).trans rfl; simp only [List.getElem?_toArray, List.getElem?_cons_zero, List.getElem?_cons_succ] at y0 y1 y2 y3 y4 y5 y6 y7 y8 y9
        have f0 := blk_frozen HTn.out 0; have f1 := blk_frozen HTn.out 1; have f2 := blk_frozen HTn.out 2; have f3 := blk_frozen HTn.out 3; have f4 := blk_frozen HTn.out 4; have f5 := blk_frozen HTn.out 5; have f6 := blk_frozen HTn.out 6; have f7 := blk_frozen HTn.out 7; have f8 := blk_frozen HTn.out 8; have f9 := blk_frozen HTn.out 9
        have z0 := (blk_cell HZ.out 0).trans rfl; have z1 := (blk_cell HZ.out 1).trans rfl; have z2 := (blk_cell HZ.out 2).trans rfl; have z3 := (blk_cell HZ.out 3).trans rfl; have z4 := (blk_cell HZ.out 4).trans rfl; have z5 := (blk_cell HZ.out 5).trans rfl; have z6 := (blk_cell HZ.out 6).trans rfl; have z7 := (blk_cell HZ.out 7).trans rfl; have z8 := (blk_cell HZ.out 8).trans rfl; have z9 := (blk_cell HZ.out 9).trans rfl; simp only [List.getElem?_toArray, List.getElem?_cons_zero, List.getElem?_cons_succ] at z0 z1 z2 z3 z4 z5 z6 z7 z8 z9
        have x0 := (blk_cell HXn.out 0).trans rfl
        simp only [List.getElem?_toArray, List.getElem?_cons_zero, List.getElem?_cons_succ] at x0
        obtain ⟨hcd⟩ := HCD
        rcases hcd with hcd | hcd
        all_goals
          subst hcd
          go_upto_region 13 with (fail)
          have HT3 := set10_blk HTn.out (.string t'.nm) (.int .i64 t'.rate) (.int .i64 t'.burst) (.int .i64 t'.level) (.int .i64 t'.clock) (.int .i64 t'.mx) (.slice A2 t'.ser.length c2) (.int .i64 t'.acc) (.int .i64 t'.rr) (.int .i64 t'.rs)
          have HX3 := (set10_far (W := wc) (B := BT) (k := BX) nb3 (.string t'.nm) (.int .i64 t'.rate) (.int .i64 t'.burst) (.int .i64 t'.level) (.int .i64 t'.clock) (.int .i64 t'.mx) (.slice A2 t'.ser.length c2) (.int .i64 t'.acc) (.int .i64 t'.rr) (.int .i64 t'.rs)).trans HXn.out
          have HB3 := set10_below (B := BT) HBn.out HBT.out (.string t'.nm) (.int .i64 t'.rate) (.int .i64 t'.burst) (.int .i64 t'.level) (.int .i64 t'.clock) (.int .i64 t'.mx) (.slice A2 t'.ser.length c2) (.int .i64 t'.acc) (.int .i64 t'.rr) (.int .i64 t'.rs)
          have HF3 := Kd.F_mono (Kd.F_step HF2.out (fun k hk _ => set10_far (W := wc) (B := BT) (k := k) (by have h5 := HTX.out; rcases hk with hk | hk; exact hk.1; omega) (.string t'.nm) (.int .i64 t'.rate) (.int .i64 t'.burst) (.int .i64 t'.level) (.int .i64 t'.clock) (.int .i64 t'.mx) (.slice A2 t'.ser.length c2) (.int .i64 t'.acc) (.int .i64 t'.rr) (.int .i64 t'.rs))) (ok' := (fun k => k ≠ BT)) (fun k hk => by have h5 := HTX.out; rcases hk with hk | hk; exact hk.1; show k ≠ BT; omega)
          unfold set10 at HT3 HX3 HB3 HF3
          clear y0 y1 y2 y3 y4 y5 y6 y7 y8 y9 f0 f1 f2 f3 f4 f5 f6 f7 f8 f9 z0 z1 z2 z3 z4 z5 z6 z7 z8 z9 x0
          generalize ((((((((((wc.setCell ⟨BT, 0, none⟩ (.string t'.nm)).setCell ⟨BT, 1, none⟩ (.int .i64 t'.rate)).setCell ⟨BT, 2, none⟩ (.int .i64 t'.burst)).setCell ⟨BT, 3, none⟩ (.int .i64 t'.level)).setCell ⟨BT, 4, none⟩ (.int .i64 t'.clock)).setCell ⟨BT, 5, none⟩ (.int .i64 t'.mx)).setCell ⟨BT, 6, none⟩ (.slice A2 t'.ser.length c2)).setCell ⟨BT, 7, none⟩ (.int .i64 t'.acc)).setCell ⟨BT, 8, none⟩ (.int .i64 t'.rr)).setCell ⟨BT, 9, none⟩ (.int .i64 t'.rs)) = W3 at *
          have HT3 := Aside0.mk HT3
          have HX3 := Aside0.mk HX3
          have HB3 := Aside0.mk HB3
          have HF3 := Aside0.mk HF3
          have y7 := (blk_cell HT3.out 7).trans rfl
          have x0 := (blk_cell HX3.out 0).trans rfl
          simp only [List.getElem?_toArray, List.getElem?_cons_zero, List.getElem?_cons_succ] at y7 x0
          obtain ⟨lv1, hmin⟩ : ∃ v, (if 1000 * (1 + b) < level + r * x.af then 1000 * (1 + b) else level + r * x.af) = v := ⟨_, rfl⟩
          have hcp : capI (1 + b) (level + r * x.af) = lv1 := by rw [← hmin]; unfold capI; split <;> split <;> omega
          have HST1 := Aside0.mk (fun p => by have := HST.out p; rwa [hcp] at this)
          have HCP := Aside0.mk hcp
          have hm0 : 0 ≤ lv1 := by rw [← hmin]; split <;> omega
          have hm1 : lv1 ≤ 1000 * (1 + b) := by rw [← hmin]; split <;> omega
          clear hcp HST HCP
          by_cases hpk : j < pk.length
          · have dk : decide (j < pk.length) = true := decide_eq_true hpk
            obtain ⟨ad9, HE9⟩ : ∃ ad9, Aside0 (A9 = some ad9 ∧ W3.cell? (ad9.add j) = some (.bool pk[j])) := by
              obtain ⟨ad9, e1, h0⟩ := at_Bool (Kd.C_below HC9.out HB3.out) j hpk
              exact ⟨ad9, ⟨e1, h0⟩⟩
            obtain ⟨rfl, g9⟩ := HE9.out
            generalize pk[j] = p at *
            clear HE9
            rcases p with _ | _
            · have HI3 := Aside0.mk (show InvB r (1 + b) (j + 1) t' (now + x.af) lv1 sel from HST1.out false)
              have hs3 : decide (t'.acc < sel) = false := decide_eq_false (by have := HI3.out.s1; omega)
              go_wp2_with fail
              go_roundg (l.length - (j + 1))
              case measure => have := HK.out; omega
              case rel => exact ⟨j + 1, t', A2, c2, now + x.af, lv1, sel, rfl, rfl, rfl, (by rw [wrap1 j (by have h2 := HL30.out; omega)]), by omega, ⟨rfl⟩, HI3, HT3, HL2, HF3, HB3⟩
            · by_cases hge : 1000 ≤ lv1
              · have dg : decide (1000 ≤ lv1) = true := decide_eq_true hge
                have HI3 := Aside0.mk (show InvB r (1 + b) (j + 1) t' (now + x.af) (lv1 - 1000) (sel + 1) by
                  have := HST1.out true
                  rwa [show picB true lv1 = true from dg, if_pos rfl, if_pos rfl] at this)
                have hs3 : decide (t'.acc < sel + 1) = false := decide_eq_false (by have := HI3.out.s1; omega)
                go_wp2_with fail
                go_roundg (l.length - (j + 1))
                case measure => have := HK.out; omega
                case rel => exact ⟨j + 1, t', A2, c2, now + x.af, lv1 - 1000, sel + 1, rfl, rfl, rfl, (by rw [wrap1 j (by have h2 := HL30.out; omega)]), by omega, ⟨rfl⟩, HI3, HT3, HL2, HF3, HB3⟩
              · have dg : decide (1000 ≤ lv1) = false := decide_eq_false hge
                have HI3 := Aside0.mk (show InvB r (1 + b) (j + 1) t' (now + x.af) lv1 sel by
                  have := HST1.out true
                  rwa [show picB true lv1 = false from dg, if_neg (by decide), if_neg (by decide)] at this)
                have hs3 : decide (t'.acc < sel) = false := decide_eq_false (by have := HI3.out.s1; omega)
                go_wp2_with fail
                go_roundg (l.length - (j + 1))
                case measure => have := HK.out; omega
                case rel => exact ⟨j + 1, t', A2, c2, now + x.af, lv1, sel, rfl, rfl, rfl, (by rw [wrap1 j (by have h2 := HL30.out; omega)]), by omega, ⟨rfl⟩, HI3, HT3, HL2, HF3, HB3⟩
          · have dk : decide (j < pk.length) = false := decide_eq_false hpk
            have HI3 := Aside0.mk (show InvB r (1 + b) (j + 1) t' (now + x.af) lv1 sel from HST1.out false)
            have hs3 : decide (t'.acc < sel) = false := decide_eq_false (by have := HI3.out.s1; omega)
            go_wp2_with fail
            go_roundg (l.length - (j + 1))
            case measure => have := HK.out; omega
            case rel => exact ⟨j + 1, t', A2, c2, now + x.af, lv1, sel, rfl, rfl, rfl, (by rw [wrap1 j (by have h2 := HL30.out; omega)]), by omega, ⟨rfl⟩, HI3, HT3, HL2, HF3, HB3⟩
    · have hjl : j = l.length := by omega
      have dl : decide (j < l.length) = false := decide_eq_false hlt
      go_wp2_with (go_at_call 9; (with_reducible refine (HA.out _).mono ?_); rintro e w9 ⟨rfl, hb⟩; have HB9 := Aside0.mk (HB.out.trans (hb.mono HB.out.size)); clear hb)
      go_ret
      exact ⟨rfl, HB9.out⟩
theorem QLBest_rowc (w : World) (r : Int) (hr : (Lit.int .u8 r).wf = true) (b : Int) (hb : (Lit.int .u8 b).wf = true) (A0 : Option Addr) (l : List OfV) (c0 : Nat) (hC : Kd.C kOffer w A0 l.length l) (hl : l.length ≤ c0) (hg : ∀ x ∈ l, (Lit.int .u16 x.af).wf = true ∧ (Lit.int .u8 x.se).wf = true) (A9 : Option Addr) (pk : List Bool) (c9 : Nat) (hC9 : Kd.C Kd.bool w A9 pk.length pk) (hl9 : pk.length ≤ c9) (_ : ∀ x ∈ pk, True) :
    Calls Try.prog 4 #[.int .u8 r, .int .u8 b, .slice A0 l.length c0, .slice A9 pk.length c9] w fun e w' => e = .returned (.bool true) ∧ Below w.heap.size w w' :=
  QLBest_row w r b (wf_u8 hr).1 (wf_u8 hr).2 (wf_u8 hb).1 (wf_u8 hb).2 A0 l c0 hC hl hg A9 pk c9 hC9 hl9
end Go.Proofs.Ytakobehkajphpaa.H

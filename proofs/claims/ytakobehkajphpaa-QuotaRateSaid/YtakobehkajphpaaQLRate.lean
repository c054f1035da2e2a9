/- The law QuotaRate. -/
import Derived.Test.YtakobehkajphpaaQLg
import Derived.Test.YtakobehkajphpaaQAwake
import Derived.Deep.DeepCutAuto
namespace Go.Proofs.Ytakobehkajphpaa.H
open Go Go.RowKit Go.Proofs.YtakobehkajphpaaW.PrintWords Go.Proofs.YtakobehkajphpaaW.PrintLast Go.Proofs.YtakobehkajphpaaW.PrintMore Go.Proofs.Ytakobehkajphpaa.PAll
set_option linter.unusedVariables false
set_option linter.unusedSimpArgs false
attribute [local go_sem] max2_int min2_int max_two min_two

theorem InvR.start {B R : Int} (t : TV) (hv : ValT t) (hS : SmallT t) (hr : t.rate = R) (hb : t.burst = B) (hc : t.clock = 1) (hm : t.mx = 8) (ha : t.acc = 0) (h0 : 0 ≤ R) (h1 : R ≤ 255) : InvR R B 0 t 1 [] :=
  ⟨hv, hS, hr, hb, hc, hm, h0, h1, by omega, by simp [ha], Nat.le_refl _, (fun i h => by cases h), (fun i h => by cases h), (fun i k _ h => by cases h)⟩
theorem at_int {W : World} {A : Option Addr} {ts : List Int} (h : ReadsInt W .i64 A ts.length ts) (i : Nat) (hi : i < ts.length) : ∃ ad, A = some ad ∧ W.cell? (ad.add i) = some (.int .i64 ts[i]) := by
  obtain ⟨ad, e, hc⟩ := h.at_ (i : Int) (by omega) (by omega)
  refine ⟨ad, e, ?_⟩
  have e2 : rd ts (i : Int) = ts[i] := by simp [rd, List.getD_eq_getElem?_getD, List.getElem?_eq_getElem hi]
  rw [e2] at hc
  exact hc
set_option maxRecDepth 100000 in
set_option maxHeartbeats 16000000 in
theorem QLRate_row (w : World) (r b : Int) (hr0 : 0 ≤ r) (hr1 : r ≤ 255) (hb0 : 0 ≤ b) (hb1 : b ≤ 255) (A0 : Option Addr) (l : List OfV) (c0 : Nat) (hC : Kd.C kOffer w A0 l.length l) (hl : l.length ≤ c0) (hg : ∀ x ∈ l, (Lit.int .u16 x.af).wf = true ∧ (Lit.int .u8 x.se).wf = true) :
    Calls Try.prog 3 #[.int .u8 r, .int .u8 b, .slice A0 l.length c0] w fun e w' => e = .returned (.bool true) ∧ Below w.heap.size w w' := by
  have HA := Aside0.mk (fun W => awake_calls W)
  have HN := Aside0.mk (show Calls Try.prog 8 #[.string ⟨#[97, 99, 109, 101]⟩, .int .i64 r, .int .i64 (1 + b), .int .i64 8, .int .i64 1] w (RT w (⟨acme, r, 1 + b, 1000 * (1 + b), 1, 8, [], 0, 0, 0⟩, 0)) by
    have h1 : isNm (ab acme) = true := by kernel_rfl
    have := QNew_calls acme (by decide) r (1 + b) 8 1 w
    rwa [newT_ok h1 (rng_iff.2 (by omega))] at this)
  have hu := Try.underlying25
  have hu2 := Try.underlying33
  by_cases hlen : 30 < l.length
  · have d1 : decide (30 < l.length) = true := decide_eq_true hlen
    have d2 : decide ((30 : Int) < (l.length : Int)) = true := decide_eq_true (by omega)
    clear hC hg
    go_enter Try.func3, Try.ntmps3
    go_wp2_with (first
      | (go_at_call 8; (refine HN.out.mono ?_); rintro e w1 ⟨A1, c1, rfl, hl1, hC1, hb⟩; have HB1 := Aside0.mk (below_alloc hb (.cells #[.string acme, .int .i64 r, .int .i64 (1 + b), .int .i64 (1000 * (1 + b)), .int .i64 1, .int .i64 8, .slice A1 0 c1, .int .i64 0, .int .i64 0, .int .i64 0] 25)); clear hb hl1 hC1)
      | (go_at_call 9; (with_reducible refine (HA.out _).mono ?_); rintro e w9 ⟨rfl, hb⟩; have HB9 := Aside0.mk (HB1.out.trans (hb.mono HB1.out.size)); clear hb))
    go_ret
    exact ⟨rfl, HB9.out⟩
  have d1 : decide (30 < l.length) = false := decide_eq_false hlen
  have d2 : decide ((30 : Int) < (l.length : Int)) = false := decide_eq_false (by omega)
  have HGD := Aside0.mk hg
  have HCL := Aside0.mk hC
  have HL30 := Aside0.mk hlen
  clear hC hg hlen
  go_enter Try.func3, Try.ntmps3
  go_wp2_with (go_at_call 8; (refine HN.out.mono ?_); rintro e w1 ⟨A1, c1, rfl, hl1, hC1, hb⟩; have HLC1 := Aside0.mk (show 0 ≤ c1 from Nat.zero_le _); have HBa := Aside0.mk hb; clear hb hl1 hC1)
  have HT := Aside0.mk (heap_alloc_new w1 (.cells #[.string acme, .int .i64 r, .int .i64 (1 + b), .int .i64 (1000 * (1 + b)), .int .i64 1, .int .i64 8, .slice A1 0 c1, .int .i64 0, .int .i64 0, .int .i64 0] 25))
  have HB := Aside0.mk (below_alloc HBa.out (.cells #[.string acme, .int .i64 r, .int .i64 (1 + b), .int .i64 (1000 * (1 + b)), .int .i64 1, .int .i64 8, .slice A1 0 c1, .int .i64 0, .int .i64 0, .int .i64 0] 25))
  have HBT := Aside0.mk HBa.out.size
  have HI0 := Aside0.mk (InvR.start (R := r) (B := 1 + b) ⟨acme, r, 1 + b, 1000 * (1 + b), 1, 8, [], 0, 0, 0⟩ (newT_val (by kernel_rfl) (rng_iff.2 (by omega))) ⟨by show acme.size ≤ 1000; decide, by show (0 : Nat) ≤ 1000; omega, fun l hl => by cases hl⟩ rfl rfl rfl rfl rfl hr0 hr1)
  generalize w1.alloc (.cells #[.string acme, .int .i64 r, .int .i64 (1 + b), .int .i64 (1000 * (1 + b)), .int .i64 1, .int .i64 8, .slice A1 0 c1, .int .i64 0, .int .i64 0, .int .i64 0] 25) = W0 at *
  generalize w1.heap.size = BT at *
  clear HBa HN
  go_loopg [10, 11, 43] (l.length) (fun kq v10 v11 v43 w' => ∃ (j : Nat) (t : TV) (A : Option Addr) (c : Nat) (now : Int) (ts : List Int) (v : Value), v10 = .int .i64 now ∧ v = v11 ∧ v43 = .int .i64 j ∧ j ≤ l.length ∧ Aside0 (kq = l.length - j) ∧ Aside0 (InvR r (1 + b) j t now ts) ∧ Aside0 (w'.heap[BT]? = some (.cells #[.string t.nm, .int .i64 t.rate, .int .i64 t.burst, .int .i64 t.level, .int .i64 t.clock, .int .i64 t.mx, .slice A t.ser.length c, .int .i64 t.acc, .int .i64 t.rr, .int .i64 t.rs] 25 (0, 0))) ∧ Aside0 (t.ser.length ≤ c) ∧ Aside0 (Kd.F kLL w' (fun k => k ≠ BT ∧ some k ≠ v.ownBlock) A t.ser.length t.ser) ∧ Aside0 (w'.ownsRow w.heap.size 3 1 v ts.length (nums .i64 ts)) ∧ Aside0 (some BT ≠ v.ownBlock) ∧ Aside0 (Below w.heap.size w w'))
  case atStart => exact ⟨0, ⟨acme, r, 1 + b, 1000 * (1 + b), 1, 8, [], 0, 0, 0⟩, A1, c1, 1, [], .slice none 0 0, rfl, rfl, rfl, Nat.zero_le _, ⟨rfl⟩, HI0, HT, HLC1, ⟨fun W' _ => ⟨rfl, by show 0 ≤ _; omega, fun h => absurd h (Nat.lt_irrefl 0)⟩⟩, ⟨own_nil _ _ _ _⟩, ⟨by simp [Value.ownBlock]⟩, HB⟩
  case round =>
    clear HT HB HI0 HLC1
    obtain ⟨j, t, A, c, now, ts, v, rfl, rfl, rfl, hj, HK, HI, HT, HLC, HF, HO, HNE, HB⟩ := hrel
    by_cases hlt : j < l.length
    · obtain ⟨ad, HE0⟩ : ∃ ad, Aside0 (A0 = some ad ∧ wr.cell? (ad.add (j * 2)) = some (.int .u16 l[j].af) ∧ wr.cell? ⟨(ad.add (j * 2)).block, (ad.add (j * 2)).off + 1, none⟩ = some (.int .u8 l[j].se)) := by
        obtain ⟨ad, e1, h0, h1⟩ := at_Offer (Kd.C_below HCL.out HB.out) j hlt
        exact ⟨ad, ⟨e1, h0, h1⟩⟩
      obtain ⟨rfl, g0, g1⟩ := HE0.out
      have hx := HGD.out l[j] (List.getElem_mem hlt)
      generalize l[j] = x at *
      have ha := wf_u16 hx.1
      have hse := wf_u8 hx.2
      obtain ⟨ha0, ha1⟩ := ha
      obtain ⟨hse0, hse1⟩ := hse
      clear HE0 hx
      have dl : decide (j < l.length) = true := decide_eq_true hlt
      have pl : (0 ≤ (j : Int)) = True := eq_true (by omega)
      have hn0 : 1 ≤ now := by have h1 := HI.out.val.c0; have h2 := HI.out.clk; omega
      have hn1 : now ≤ 2000000 := by have h1 := HI.out.n1; have h2 := HL30.out; omega
      go_upto_region 11 with (fail)
      have HX := Aside0.mk (heap_alloc_new wr (.cells #[.int .u16 x.af, .int .u8 x.se] 33))
      have HT1 := Aside0.mk (heap_alloc_keep (o := (.cells #[.int .u16 x.af, .int .u8 x.se] 33)) HT.out)
      have HB1 := Aside0.mk (below_alloc HB.out (.cells #[.int .u16 x.af, .int .u8 x.se] 33))
      have HFa := Aside0.mk (Kd.F_mono (Kd.F_alloc (Kd.F_bound HF.out) (.cells #[.int .u16 x.af, .int .u8 x.se] 33)) (ok' := (fun k => k ≠ BT ∧ some k ≠ v.ownBlock)) (fun k hk => hk.1))
      have HO1 := Aside0.mk (own_alloc HO.out (.cells #[.int .u16 x.af, .int .u8 x.se] 33))
      clear HT HB HF HO g0 g1
      have HT := HT1
      have HB := HB1
      have HF := HFa
      have HO := HO1
      clear HT1 HB1 HFa HO1
      generalize wr.alloc (.cells #[.int .u16 x.af, .int .u8 x.se] 33) = W1 at *
      generalize wr.heap.size = BX at *
      have HTX := Aside0.mk (heap_lt HT.out)
      have HXX := Aside0.mk (heap_lt HX.out)
      have HOP := Aside0.mk (fun W => op_any x.af x.se hse0 hse1 W)
      have HST := Aside0.mk (HI.out.step (by have h2 := HL30.out; omega) ha0 ha1 (opS x.se) (opS_chk x.se) (opS_small x.se))
      obtain ⟨t', HTE⟩ : ∃ t', Aside0 ((admT (fillT t (now + x.af)) (opS x.se)).1 = t') := ⟨_, ⟨rfl⟩⟩
      obtain ⟨cd, HCE⟩ : ∃ cd, Aside0 ((admT (fillT t (now + x.af)) (opS x.se)).2 = cd) := ⟨_, ⟨rfl⟩⟩
      have HCD := Aside0.mk (show cd = 0 ∨ cd = 22 by rw [← HCE.out]; exact adm_code _ _)
      have HAD := Aside0.mk (fun (okX : Nat → Prop) A' W (h : Below W1.heap.size W1 W) (hF : opOK W okX x.se A') (hok : ∀ k, (fun k => k ≠ BT ∧ some k ≠ v.ownBlock) k → k < W1.heap.size → okX k) => show Calls Try.prog 10 #[tv t (.slice A t.ser.length c), opV x.se A', .int .i64 (now + x.af)] W (RTF W okX (t', cd)) by
        have h1 := HI.out.clk
        have := Admit_any t HI.out.val HI.out.small (now + x.af) (by omega) (by omega) x.se A c A' W okX (Kd.F_mono (Kd.F_below (Kd.F_bound HF.out) h) (fun k hk => hok k hk.1 hk.2)) HLC.out hF
        rwa [show admT (fillT t (now + x.af)) (opS x.se) = (t', cd) by rw [← HTE.out, ← HCE.out]] at this)
      rw [HTE.out, HCE.out] at HST
      have y0 := (blk_cell HT.out 0).trans rfl; have y1 := (blk_cell HT.out 1).trans rfl; have y2 := (blk_cell HT.out 2).trans rfl; have y3 := (blk_cell HT.out 3).trans rfl; have y4 := (blk_cell HT.out 4).trans rfl; have y5 := (blk_cell HT.out 5).trans rfl; have y6 := (blk_cell HT.out 6).trans rfl; have y7 := (blk_cell HT.out 7).trans rfl; have y8 := (blk_cell HT.out 8).trans rfl; have y9 := (blk_cell HT.out 9).trans rfl; simp only [List.getElem?_toArray, List.getElem?_cons_zero, List.getElem?_cons_succ] at y0 y1 y2 y3 y4 y5 y6 y7 y8 y9
      have x0 := (blk_cell HX.out 0).trans rfl
      have x1 := (blk_cell HX.out 1).trans rfl
      simp only [List.getElem?_toArray, List.getElem?_cons_zero, List.getElem?_cons_succ] at x0 x1
      go_cut [14, 15] (fun s14 s15 wx => ∃ (BZ : Nat) (A2 : Option Addr) (c2 : Nat), s14 = .pointer (some ⟨BZ, 0, none⟩) ∧ s15 = .int .i64 cd ∧ Aside0 (W1.heap.size ≤ BZ) ∧ Aside0 (wx.heap[BZ]? = some (.cells #[.string t'.nm, .int .i64 t'.rate, .int .i64 t'.burst, .int .i64 t'.level, .int .i64 t'.clock, .int .i64 t'.mx, .slice A2 t'.ser.length c2, .int .i64 t'.acc, .int .i64 t'.rr, .int .i64 t'.rs] 25 (0, 0))) ∧ Aside0 (t'.ser.length ≤ c2) ∧ Aside0 (Kd.F kLL wx (fun k => ((fun k => k ≠ BT ∧ some k ≠ v.ownBlock) k ∧ k < W1.heap.size) ∨ (W1.heap.size ≤ k ∧ k ≠ BZ)) A2 t'.ser.length t'.ser) ∧ Aside0 (Below W1.heap.size W1 wx))
      case first =>
        have HD := Aside0.mk (show Below W1.heap.size W1 W1.drew from below_drew (Below.refl _ _))
        go_region_held3 (fun w' => w'.cell? ⟨BT, 0, none⟩ = some (.string t.nm) ∧ w'.cell? ⟨BT, 1, none⟩ = some (.int .i64 t.rate) ∧ w'.cell? ⟨BT, 2, none⟩ = some (.int .i64 t.burst) ∧ w'.cell? ⟨BT, 3, none⟩ = some (.int .i64 t.level) ∧ w'.cell? ⟨BT, 4, none⟩ = some (.int .i64 t.clock) ∧ w'.cell? ⟨BT, 5, none⟩ = some (.int .i64 t.mx) ∧ w'.cell? ⟨BT, 6, none⟩ = some (.slice A t.ser.length c) ∧ w'.cell? ⟨BT, 7, none⟩ = some (.int .i64 t.acc) ∧ w'.cell? ⟨BT, 8, none⟩ = some (.int .i64 t.rr) ∧ w'.cell? ⟨BT, 9, none⟩ = some (.int .i64 t.rs) ∧ w'.cell? ⟨BX, 0, none⟩ = some (.int .u16 x.af) ∧ w'.cell? ⟨BX, 1, none⟩ = some (.int .u8 x.se)) (go_keep)
          (first
          | (go_at_call 11; (with_reducible refine (HOP.out W1.drew).mono ?_); rintro e u1 ⟨A', rfl, hF1, hb⟩; have HBu := Aside0.mk (show Below W1.heap.size W1 u1 from HD.out.trans hb); have HFLa := Aside0.mk (show opOK u1 (fun k => W1.heap.size ≤ k ∧ k < u1.heap.size) x.se A' from hF1); clear hb hF1; have HT1 := Aside0.mk ((HBu.out.block BT HTX.out).trans HT.out); clear y0 y1 y2 y3 y4 y5 y6 y7 y8 y9 x0 x1; have y0 := (blk_cell HT1.out 0).trans rfl; have y1 := (blk_cell HT1.out 1).trans rfl; have y2 := (blk_cell HT1.out 2).trans rfl; have y3 := (blk_cell HT1.out 3).trans rfl; have y4 := (blk_cell HT1.out 4).trans rfl; have y5 := (blk_cell HT1.out 5).trans rfl; have y6 := (blk_cell HT1.out 6).trans rfl; have y7 := (blk_cell HT1.out 7).trans rfl; have y8 := (blk_cell HT1.out 8).trans rfl; have y9 := (blk_cell HT1.out 9).trans rfl; simp only [List.getElem?_toArray, List.getElem?_cons_zero, List.getElem?_cons_succ] at y0 y1 y2 y3 y4 y5 y6 y7 y8 y9; have HX1 := Aside0.mk ((HBu.out.block BX HXX.out).trans HX.out); have x0 := (blk_cell HX1.out 0).trans rfl; have x1 := (blk_cell HX1.out 1).trans rfl; simp only [List.getElem?_toArray, List.getElem?_cons_zero, List.getElem?_cons_succ] at x0 x1)
          | (go_at_call 11; (with_reducible refine (HOP.out ((W1.alloc (.cells #[.string ⟨#[]⟩, .int .i64 0, .int .i64 0, .int .i64 0, .int .i64 0, .int .i64 0, .slice none 0 0, .int .i64 0, .int .i64 0, .int .i64 0] 25)).drew)).mono ?_); rintro e u1 ⟨A', rfl, hF1, hb⟩; have HBu := Aside0.mk (show Below W1.heap.size W1 u1 from (below_alloc HD.out (.cells #[.string ⟨#[]⟩, .int .i64 0, .int .i64 0, .int .i64 0, .int .i64 0, .int .i64 0, .slice none 0 0, .int .i64 0, .int .i64 0, .int .i64 0] 25)).trans (hb.mono (below_alloc HD.out (.cells #[.string ⟨#[]⟩, .int .i64 0, .int .i64 0, .int .i64 0, .int .i64 0, .int .i64 0, .slice none 0 0, .int .i64 0, .int .i64 0, .int .i64 0] 25)).size)); have HFLc := Aside0.mk hF1; have HZ1 := Aside0.mk ((hb.block W1.heap.size (by simp)).trans (heap_alloc_new W1.drew (.cells #[.string ⟨#[]⟩, .int .i64 0, .int .i64 0, .int .i64 0, .int .i64 0, .int .i64 0, .slice none 0 0, .int .i64 0, .int .i64 0, .int .i64 0] 25))); clear hb hF1; have HT1 := Aside0.mk ((HBu.out.block BT HTX.out).trans HT.out); clear y0 y1 y2 y3 y4 y5 y6 y7 y8 y9 x0 x1; have y0 := (blk_cell HT1.out 0).trans rfl; have y1 := (blk_cell HT1.out 1).trans rfl; have y2 := (blk_cell HT1.out 2).trans rfl; have y3 := (blk_cell HT1.out 3).trans rfl; have y4 := (blk_cell HT1.out 4).trans rfl; have y5 := (blk_cell HT1.out 5).trans rfl; have y6 := (blk_cell HT1.out 6).trans rfl; have y7 := (blk_cell HT1.out 7).trans rfl; have y8 := (blk_cell HT1.out 8).trans rfl; have y9 := (blk_cell HT1.out 9).trans rfl; simp only [List.getElem?_toArray, List.getElem?_cons_zero, List.getElem?_cons_succ] at y0 y1 y2 y3 y4 y5 y6 y7 y8 y9; have HX1 := Aside0.mk ((HBu.out.block BX HXX.out).trans HX.out); have x0 := (blk_cell HX1.out 0).trans rfl; have x1 := (blk_cell HX1.out 1).trans rfl; simp only [List.getElem?_toArray, List.getElem?_cons_zero, List.getElem?_cons_succ] at x0 x1)
          | (go_at_call 10; (with_reducible refine (HAD.out (fun k => ((fun k => k ≠ BT ∧ some k ≠ v.ownBlock) k ∧ k < W1.heap.size) ∨ W1.heap.size ≤ k) _ u1 (by exact HBu.out) (by exact opOK_mono HFLa.out (fun k hk => .inr hk.1)) (fun k h h2 => .inl ⟨h, h2⟩)).mono ?_); rintro e u2 ⟨A2, c2, rfl, hl2, hF2, hb⟩; have HGa := Aside0.mk True.intro; have HL2 := Aside0.mk hl2; have HFF := Aside0.mk (Kd.F_mono hF2 (ok' := (fun k => ((fun k => k ≠ BT ∧ some k ≠ v.ownBlock) k ∧ k < W1.heap.size) ∨ W1.heap.size ≤ k)) (fun k hk => by rcases hk with hk | hk; exact hk; exact .inr (Nat.le_trans HBu.out.size hk))); have HBv := Aside0.mk (HBu.out.trans (hb.mono HBu.out.size)); clear hb hF2 hl2; have HT1 := Aside0.mk ((HBv.out.block BT HTX.out).trans HT.out); clear y0 y1 y2 y3 y4 y5 y6 y7 y8 y9 x0 x1; have y0 := (blk_cell HT1.out 0).trans rfl; have y1 := (blk_cell HT1.out 1).trans rfl; have y2 := (blk_cell HT1.out 2).trans rfl; have y3 := (blk_cell HT1.out 3).trans rfl; have y4 := (blk_cell HT1.out 4).trans rfl; have y5 := (blk_cell HT1.out 5).trans rfl; have y6 := (blk_cell HT1.out 6).trans rfl; have y7 := (blk_cell HT1.out 7).trans rfl; have y8 := (blk_cell HT1.out 8).trans rfl; have y9 := (blk_cell HT1.out 9).trans rfl; simp only [List.getElem?_toArray, List.getElem?_cons_zero, List.getElem?_cons_succ] at y0 y1 y2 y3 y4 y5 y6 y7 y8 y9; have HX1 := Aside0.mk ((HBv.out.block BX HXX.out).trans HX.out); have x0 := (blk_cell HX1.out 0).trans rfl; have x1 := (blk_cell HX1.out 1).trans rfl; simp only [List.getElem?_toArray, List.getElem?_cons_zero, List.getElem?_cons_succ] at x0 x1)
          | (go_at_call 10; (with_reducible refine (HAD.out (fun k => ((fun k => k ≠ BT ∧ some k ≠ v.ownBlock) k ∧ k < W1.heap.size) ∨ (W1.heap.size ≤ k ∧ k ≠ u1.heap.size)) _ (u1.alloc (.cells #[.string ⟨#[]⟩, .int .i64 0, .int .i64 0, .int .i64 0, .int .i64 0, .int .i64 0, .slice none 0 0, .int .i64 0, .int .i64 0, .int .i64 0] 25)) (by exact below_alloc HBu.out _) (by exact opOK_alloc (opOK_mono HFLa.out (fun k hk => ⟨.inr ⟨hk.1, by have h5 := hk.2; omega⟩, hk.2⟩)) _) (fun k h h2 => .inl ⟨h, h2⟩)).mono ?_); rintro e u2 ⟨A2, c2, rfl, hl2, hF2, hb⟩; have HGb := Aside0.mk True.intro; have nb1 : u1.heap.size ≠ BT := (by have := Nat.lt_of_lt_of_le HTX.out HBu.out.size; omega); have nb2 : BT ≠ u1.heap.size := fun e => nb1 e.symm; have nc0a : u1.heap.size ≠ BX := (by have h5 := HXX.out; have h6 := HBu.out.size; omega); have nc0b : BX ≠ u1.heap.size := fun e => nc0a e.symm; have HL2 := Aside0.mk hl2; have HFF := Aside0.mk (Kd.F_mono hF2 (ok' := (fun k => ((fun k => k ≠ BT ∧ some k ≠ v.ownBlock) k ∧ k < W1.heap.size) ∨ (W1.heap.size ≤ k ∧ k ≠ u1.heap.size))) (fun k hk => by have h3 := HBu.out.size; rcases hk with hk | hk; exact hk; simp at hk; exact .inr ⟨by omega, by omega⟩)); have HBv := Aside0.mk ((below_alloc HBu.out (.cells #[.string ⟨#[]⟩, .int .i64 0, .int .i64 0, .int .i64 0, .int .i64 0, .int .i64 0, .slice none 0 0, .int .i64 0, .int .i64 0, .int .i64 0] 25)).trans (hb.mono (below_alloc HBu.out (.cells #[.string ⟨#[]⟩, .int .i64 0, .int .i64 0, .int .i64 0, .int .i64 0, .int .i64 0, .slice none 0 0, .int .i64 0, .int .i64 0, .int .i64 0] 25)).size)); have HZ2 := Aside0.mk ((hb.block u1.heap.size (by simp)).trans (heap_alloc_new u1 (.cells #[.string ⟨#[]⟩, .int .i64 0, .int .i64 0, .int .i64 0, .int .i64 0, .int .i64 0, .slice none 0 0, .int .i64 0, .int .i64 0, .int .i64 0] 25))); clear hb hF2 hl2; have HT1 := Aside0.mk ((HBv.out.block BT HTX.out).trans HT.out); clear y0 y1 y2 y3 y4 y5 y6 y7 y8 y9 x0 x1; have y0 := (blk_cell HT1.out 0).trans rfl; have y1 := (blk_cell HT1.out 1).trans rfl; have y2 := (blk_cell HT1.out 2).trans rfl; have y3 := (blk_cell HT1.out 3).trans rfl; have y4 := (blk_cell HT1.out 4).trans rfl; have y5 := (blk_cell HT1.out 5).trans rfl; have y6 := (blk_cell HT1.out 6).trans rfl; have y7 := (blk_cell HT1.out 7).trans rfl; have y8 := (blk_cell HT1.out 8).trans rfl; have y9 := (blk_cell HT1.out 9).trans rfl; simp only [List.getElem?_toArray, List.getElem?_cons_zero, List.getElem?_cons_succ] at y0 y1 y2 y3 y4 y5 y6 y7 y8 y9; have HX1 := Aside0.mk ((HBv.out.block BX HXX.out).trans HX.out); have x0 := (blk_cell HX1.out 0).trans rfl; have x1 := (blk_cell HX1.out 1).trans rfl; simp only [List.getElem?_toArray, List.getElem?_cons_zero, List.getElem?_cons_succ] at x0 x1; have z0 := (blk_cell HZ2.out 0).trans rfl; have z1 := (blk_cell HZ2.out 1).trans rfl; have z2 := (blk_cell HZ2.out 2).trans rfl; have z3 := (blk_cell HZ2.out 3).trans rfl; have z4 := (blk_cell HZ2.out 4).trans rfl; have z5 := (blk_cell HZ2.out 5).trans rfl; have z6 := (blk_cell HZ2.out 6).trans rfl; have z7 := (blk_cell HZ2.out 7).trans rfl; have z8 := (blk_cell HZ2.out 8).trans rfl; have z9 := (blk_cell HZ2.out 9).trans rfl; simp only [List.getElem?_toArray, List.getElem?_cons_zero, List.getElem?_cons_succ] at z0 z1 z2 z3 z4 z5 z6 z7 z8 z9; have g0 := blk_frozen HZ2.out 0; have g1 := blk_frozen HZ2.out 1; have g2 := blk_frozen HZ2.out 2; have g3 := blk_frozen HZ2.out 3; have g4 := blk_frozen HZ2.out 4; have g5 := blk_frozen HZ2.out 5; have g6 := blk_frozen HZ2.out 6; have g7 := blk_frozen HZ2.out 7; have g8 := blk_frozen HZ2.out 8; have g9 := blk_frozen HZ2.out 9)
          | (go_at_call 10; (with_reducible refine (HAD.out (fun k => ((fun k => k ≠ BT ∧ some k ≠ v.ownBlock) k ∧ k < W1.heap.size) ∨ (W1.heap.size ≤ k ∧ k ≠ W1.heap.size)) _ u1 (by exact HBu.out) (by exact opOK_mono HFLc.out (fun k hk => .inr (by have h4 := hk.1; simp at h4; omega))) (fun k h h2 => .inl ⟨h, h2⟩)).mono ?_); rintro e u2 ⟨A2, c2, rfl, hl2, hF2, hb⟩; have HGc := Aside0.mk True.intro; have nb1 : W1.heap.size ≠ BT := (by have := HTX.out; omega); have nb2 : BT ≠ W1.heap.size := fun e => nb1 e.symm; have nc0a : W1.heap.size ≠ BX := (by have h5 := HXX.out; have h6 := HBu.out.size; omega); have nc0b : BX ≠ W1.heap.size := fun e => nc0a e.symm; have HL2 := Aside0.mk hl2; have HU1 := Aside0.mk (heap_lt HZ1.out); have HFF := Aside0.mk (Kd.F_mono hF2 (ok' := (fun k => ((fun k => k ≠ BT ∧ some k ≠ v.ownBlock) k ∧ k < W1.heap.size) ∨ (W1.heap.size ≤ k ∧ k ≠ W1.heap.size))) (fun k hk => by have h3 := HU1.out; rcases hk with hk | hk; exact hk; exact .inr ⟨by omega, by omega⟩)); have HBv := Aside0.mk (HBu.out.trans (hb.mono HBu.out.size)); have HZ2 := Aside0.mk ((hb.block W1.heap.size HU1.out).trans HZ1.out); clear hb hF2 hl2; have HT1 := Aside0.mk ((HBv.out.block BT HTX.out).trans HT.out); clear y0 y1 y2 y3 y4 y5 y6 y7 y8 y9 x0 x1; have y0 := (blk_cell HT1.out 0).trans rfl; have y1 := (blk_cell HT1.out 1).trans rfl; have y2 := (blk_cell HT1.out 2).trans rfl; have y3 := (blk_cell HT1.out 3).trans rfl; have y4 := (blk_cell HT1.out 4).trans rfl; have y5 := (blk_cell HT1.out 5).trans rfl; have y6 := (blk_cell HT1.out 6).trans rfl; have y7 := (blk_cell HT1.out 7).trans rfl; have y8 := (blk_cell HT1.out 8).trans rfl; have y9 := (blk_cell HT1.out 9).trans rfl; simp only [List.getElem?_toArray, List.getElem?_cons_zero, List.getElem?_cons_succ] at y0 y1 y2 y3 y4 y5 y6 y7 y8 y9; have HX1 := Aside0.mk ((HBv.out.block BX HXX.out).trans HX.out); have x0 := (blk_cell HX1.out 0).trans rfl; have x1 := (blk_cell HX1.out 1).trans rfl; simp only [List.getElem?_toArray, List.getElem?_cons_zero, List.getElem?_cons_succ] at x0 x1; have z0 := (blk_cell HZ2.out 0).trans rfl; have z1 := (blk_cell HZ2.out 1).trans rfl; have z2 := (blk_cell HZ2.out 2).trans rfl; have z3 := (blk_cell HZ2.out 3).trans rfl; have z4 := (blk_cell HZ2.out 4).trans rfl; have z5 := (blk_cell HZ2.out 5).trans rfl; have z6 := (blk_cell HZ2.out 6).trans rfl; have z7 := (blk_cell HZ2.out 7).trans rfl; have z8 := (blk_cell HZ2.out 8).trans rfl; have z9 := (blk_cell HZ2.out 9).trans rfl; simp only [List.getElem?_toArray, List.getElem?_cons_zero, List.getElem?_cons_succ] at z0 z1 z2 z3 z4 z5 z6 z7 z8 z9; have g0 := blk_frozen HZ2.out 0; have g1 := blk_frozen HZ2.out 1; have g2 := blk_frozen HZ2.out 2; have g3 := blk_frozen HZ2.out 3; have g4 := blk_frozen HZ2.out 4; have g5 := blk_frozen HZ2.out 5; have g6 := blk_frozen HZ2.out 6; have g7 := blk_frozen HZ2.out 7; have g8 := blk_frozen HZ2.out 8; have g9 := blk_frozen HZ2.out 9))
        · go_wp2_with fail
          go_meet
          refine ⟨u2.heap.size, A2, c2, rfl, rfl, ⟨Nat.le_trans HBv.out.size (Nat.le_refl _)⟩, ⟨heap_alloc_new u2 (.cells #[.string t'.nm, .int .i64 t'.rate, .int .i64 t'.burst, .int .i64 t'.level, .int .i64 t'.clock, .int .i64 t'.mx, .slice A2 t'.ser.length c2, .int .i64 t'.acc, .int .i64 t'.rr, .int .i64 t'.rs] 25)⟩, HL2, ⟨Kd.F_mono (Kd.F_alloc (Kd.F_bound HFF.out) (.cells #[.string t'.nm, .int .i64 t'.rate, .int .i64 t'.burst, .int .i64 t'.level, .int .i64 t'.clock, .int .i64 t'.mx, .slice A2 t'.ser.length c2, .int .i64 t'.acc, .int .i64 t'.rr, .int .i64 t'.rs] 25)) (fun k hk => ?_)⟩, ⟨below_alloc HBv.out (.cells #[.string t'.nm, .int .i64 t'.rate, .int .i64 t'.burst, .int .i64 t'.level, .int .i64 t'.clock, .int .i64 t'.mx, .slice A2 t'.ser.length c2, .int .i64 t'.acc, .int .i64 t'.rr, .int .i64 t'.rs] 25)⟩⟩
          rcases hk with ⟨hk | hk, h2⟩
          · exact .inl hk
          · exact .inr ⟨hk, by omega⟩
        · go_wp2_with fail
          go_meet
          exact ⟨u1.heap.size, A2, c2, rfl, rfl, ⟨HBu.out.size⟩, ⟨set10_blk HZ2.out (.string t'.nm) (.int .i64 t'.rate) (.int .i64 t'.burst) (.int .i64 t'.level) (.int .i64 t'.clock) (.int .i64 t'.mx) (.slice A2 t'.ser.length c2) (.int .i64 t'.acc) (.int .i64 t'.rr) (.int .i64 t'.rs)⟩, HL2, ⟨Kd.F_step HFF.out (fun k hk h2 => set10_far (W := u2) (B := u1.heap.size) (k := k) (by rcases hk with hk | hk; (have h3 := HBu.out.size; have h4 := hk.2; omega); exact hk.2) (.string t'.nm) (.int .i64 t'.rate) (.int .i64 t'.burst) (.int .i64 t'.level) (.int .i64 t'.clock) (.int .i64 t'.mx) (.slice A2 t'.ser.length c2) (.int .i64 t'.acc) (.int .i64 t'.rr) (.int .i64 t'.rs))⟩, ⟨set10_below (B := u1.heap.size) HBv.out HBu.out.size (.string t'.nm) (.int .i64 t'.rate) (.int .i64 t'.burst) (.int .i64 t'.level) (.int .i64 t'.clock) (.int .i64 t'.mx) (.slice A2 t'.ser.length c2) (.int .i64 t'.acc) (.int .i64 t'.rr) (.int .i64 t'.rs)⟩⟩
        · go_wp2_with fail
          go_meet
          exact ⟨W1.heap.size, A2, c2, rfl, rfl, ⟨Nat.le_refl _⟩, ⟨set10_blk HZ2.out (.string t'.nm) (.int .i64 t'.rate) (.int .i64 t'.burst) (.int .i64 t'.level) (.int .i64 t'.clock) (.int .i64 t'.mx) (.slice A2 t'.ser.length c2) (.int .i64 t'.acc) (.int .i64 t'.rr) (.int .i64 t'.rs)⟩, HL2, ⟨Kd.F_step HFF.out (fun k hk h2 => set10_far (W := u2) (B := W1.heap.size) (k := k) (by rcases hk with hk | hk; (have h4 := hk.2; omega); exact hk.2) (.string t'.nm) (.int .i64 t'.rate) (.int .i64 t'.burst) (.int .i64 t'.level) (.int .i64 t'.clock) (.int .i64 t'.mx) (.slice A2 t'.ser.length c2) (.int .i64 t'.acc) (.int .i64 t'.rr) (.int .i64 t'.rs))⟩, ⟨set10_below (B := W1.heap.size) HBv.out (Nat.le_refl _) (.string t'.nm) (.int .i64 t'.rate) (.int .i64 t'.burst) (.int .i64 t'.level) (.int .i64 t'.clock) (.int .i64 t'.mx) (.slice A2 t'.ser.length c2) (.int .i64 t'.acc) (.int .i64 t'.rr) (.int .i64 t'.rs)⟩⟩
      case rest =>
        obtain ⟨BZ, A2, c2, rfl, rfl, HZB, HZ, HL2, HF2, HBx⟩ := hcut
        have HTn := Aside0.mk ((HBx.out.block BT HTX.out).trans HT.out)
        have HBn := Aside0.mk (HB.out.trans (HBx.out.mono HB.out.size))
        have HOn := Aside0.mk (own_move (w1 := wc) HO.out (fun k hk => HBx.out.block k (own_lt HO.out k hk)))
        have nb1 : BZ ≠ BT := by have h1 := HZB.out; have h2 := HTX.out; omega
        have nb2 : BT ≠ BZ := fun e => nb1 e.symm
        have HOZ := Aside0.mk (show some BZ ≠ v.ownBlock from fun e => by have h1 := HZB.out; have h2 := own_lt HO.out BZ e.symm; omega)
        have HFn := Aside0.mk (Kd.F_mono (Kd.F_bound HF2.out) (ok' := fun k => (k ≠ BT ∧ some k ≠ v.ownBlock) ∧ k < wc.heap.size) (fun k hk => ⟨by
          rcases hk.1 with h1 | h1
          · exact h1.1
          · exact ⟨(by have h5 := HTX.out; omega), fun e => by have h2 := own_lt HO.out k e.symm; omega⟩, hk.2⟩))
        clear y0 y1 y2 y3 y4 y5 y6 y7 y8 y9 x0 x1
        obtain ⟨hcd⟩ := HCD
        rcases hcd with hcd | hcd
        · subst hcd
          have HI3 := Aside0.mk (show InvR r (1 + b) (j + 1) t' (now + x.af) (ts ++ [now + x.af]) by have := HST.out; rwa [if_pos rfl] at this)
          have HLT := Aside0.mk (show (ts.length + 1) * 8 ≤ 140737488355328 by have h1 := HI.out.le; have h2 := HL30.out; omega)
          have y0 := (blk_cell HTn.out 0).trans rfl; have y1 := (blk_cell HTn.out 1).trans rfl; have y2 := (blk_cell HTn.out 2).trans rfl; have y3 := (blk_cell HTn.out 3).trans rfl; have y4 := (blk_cell HTn.out 4).trans rfl; have y5 := (blk_cell HTn.out 5).trans rfl; have y6 := (blk_cell HTn.out 6).trans rfl; have y7 := (blk_cell HTn.out 7).trans rfl; have y8 := (blk_cell HTn.out 8).trans rfl; have y9 := (blk_cell HTn.out 9).trans rfl; simp only [List.getElem?_toArray, List.getElem?_cons_zero, List.getElem?_cons_succ] at y0 y1 y2 y3 y4 y5 y6 y7 y8 y9
          go_upto_region 14 with (at_builtin; refine print_append_num w.heap.size rfl _ _ 30 3 .i64 8 rfl Try.underlying30 (by kernel_rfl) (by decide) v ts (now + x.af) rfl rfl HOn.out HBn.out HBn.out.size HLT.out ?_; intro v5 w5 hown5 hb5 hg5 hat5)
          clear y0 y1 y2 y3 y4 y5 y6 y7 y8 y9
          have HTq := Aside0.mk (blk_grown HTn.out hg5 HNE.out)
          have HZq := Aside0.mk (blk_grown HZ.out hg5 HOZ.out)
          have HBq := Aside0.mk hb5
          have hne5 : some BT ≠ v5.ownBlock := fun e => by
            rcases hat5 with h1 | ⟨k, h1, h2⟩
            · rw [h1] at e; exact HNE.out e
            · rw [h1] at e; have h3 := heap_lt HTn.out; injection e with e; omega
          have HFq := Aside0.mk (Kd.F_mono (Kd.F_step HFn.out (fun k hk hlt => hg5.block k hlt hk.1.2)) (ok' := fun k => k ≠ BT ∧ some k ≠ v5.ownBlock) (fun k hk => ⟨hk.1.1, fun e => by
            rcases hat5 with h1 | ⟨k', h1, h2⟩
            · rw [h1] at e; exact hk.1.2 e
            · rw [h1] at e; have h3 := hk.2; injection e with e; omega⟩))
          have HOq := Aside0.mk hown5
          have HNq := Aside0.mk hne5
          clear hown5 hb5 hg5 hat5 hne5
          have y0 := (blk_cell HTq.out 0).trans rfl; have y1 := (blk_cell HTq.out 1).trans rfl; have y2 := (blk_cell HTq.out 2).trans rfl; have y3 := (blk_cell HTq.out 3).trans rfl; have y4 := (blk_cell HTq.out 4).trans rfl; have y5 := (blk_cell HTq.out 5).trans rfl; have y6 := (blk_cell HTq.out 6).trans rfl; have y7 := (blk_cell HTq.out 7).trans rfl; have y8 := (blk_cell HTq.out 8).trans rfl; have y9 := (blk_cell HTq.out 9).trans rfl; simp only [List.getElem?_toArray, List.getElem?_cons_zero, List.getElem?_cons_succ] at y0 y1 y2 y3 y4 y5 y6 y7 y8 y9
          have f0 := blk_frozen HTq.out 0; have f1 := blk_frozen HTq.out 1; have f2 := blk_frozen HTq.out 2; have f3 := blk_frozen HTq.out 3; have f4 := blk_frozen HTq.out 4; have f5 := blk_frozen HTq.out 5; have f6 := blk_frozen HTq.out 6; have f7 := blk_frozen HTq.out 7; have f8 := blk_frozen HTq.out 8; have f9 := blk_frozen HTq.out 9
          have z0 := (blk_cell HZq.out 0).trans rfl; have z1 := (blk_cell HZq.out 1).trans rfl; have z2 := (blk_cell HZq.out 2).trans rfl; have z3 := (blk_cell HZq.out 3).trans rfl; have z4 := (blk_cell HZq.out 4).trans rfl; have z5 := (blk_cell HZq.out 5).trans rfl; have z6 := (blk_cell HZq.out 6).trans rfl; have z7 := (blk_cell HZq.out 7).trans rfl; have z8 := (blk_cell HZq.out 8).trans rfl; have z9 := (blk_cell HZq.out 9).trans rfl; simp only [List.getElem?_toArray, List.getElem?_cons_zero, List.getElem?_cons_succ] at z0 z1 z2 z3 z4 z5 z6 z7 z8 z9
          go_upto_region 17 with (fail)
          have HT3 := set10_blk HTq.out (.string t'.nm) (.int .i64 t'.rate) (.int .i64 t'.burst) (.int .i64 t'.level) (.int .i64 t'.clock) (.int .i64 t'.mx) (.slice A2 t'.ser.length c2) (.int .i64 t'.acc) (.int .i64 t'.rr) (.int .i64 t'.rs)
          have HB3 := set10_below (B := BT) HBq.out HBT.out (.string t'.nm) (.int .i64 t'.rate) (.int .i64 t'.burst) (.int .i64 t'.level) (.int .i64 t'.clock) (.int .i64 t'.mx) (.slice A2 t'.ser.length c2) (.int .i64 t'.acc) (.int .i64 t'.rr) (.int .i64 t'.rs)
          have HF3 := Kd.F_step HFq.out (fun k hk _ => set10_far (W := w5) (B := BT) (k := k) hk.1 (.string t'.nm) (.int .i64 t'.rate) (.int .i64 t'.burst) (.int .i64 t'.level) (.int .i64 t'.clock) (.int .i64 t'.mx) (.slice A2 t'.ser.length c2) (.int .i64 t'.acc) (.int .i64 t'.rr) (.int .i64 t'.rs))
          have HO3 := own_move (w1 := set10 w5 BT (.string t'.nm) (.int .i64 t'.rate) (.int .i64 t'.burst) (.int .i64 t'.level) (.int .i64 t'.clock) (.int .i64 t'.mx) (.slice A2 t'.ser.length c2) (.int .i64 t'.acc) (.int .i64 t'.rr) (.int .i64 t'.rs)) HOq.out (fun k hk => set10_far (W := w5) (B := BT) (k := k) (fun e => HNq.out (by rw [hk, e])) (.string t'.nm) (.int .i64 t'.rate) (.int .i64 t'.burst) (.int .i64 t'.level) (.int .i64 t'.clock) (.int .i64 t'.mx) (.slice A2 t'.ser.length c2) (.int .i64 t'.acc) (.int .i64 t'.rr) (.int .i64 t'.rs))
          unfold set10 at HT3 HB3 HF3 HO3
          clear y0 y1 y2 y3 y4 y5 y6 y7 y8 y9 f0 f1 f2 f3 f4 f5 f6 f7 f8 f9 z0 z1 z2 z3 z4 z5 z6 z7 z8 z9
          generalize ((((((((((w5.setCell ⟨BT, 0, none⟩ (.string t'.nm)).setCell ⟨BT, 1, none⟩ (.int .i64 t'.rate)).setCell ⟨BT, 2, none⟩ (.int .i64 t'.burst)).setCell ⟨BT, 3, none⟩ (.int .i64 t'.level)).setCell ⟨BT, 4, none⟩ (.int .i64 t'.clock)).setCell ⟨BT, 5, none⟩ (.int .i64 t'.mx)).setCell ⟨BT, 6, none⟩ (.slice A2 t'.ser.length c2)).setCell ⟨BT, 7, none⟩ (.int .i64 t'.acc)).setCell ⟨BT, 8, none⟩ (.int .i64 t'.rr)).setCell ⟨BT, 9, none⟩ (.int .i64 t'.rs)) = W3 at *
          have HT3 := Aside0.mk HT3
          have HB3 := Aside0.mk HB3
          have HF3 := Aside0.mk HF3
          have HO3 := Aside0.mk HO3
          go_wp2_with fail
          go_roundg (l.length - (j + 1))
          case measure => have := HK.out; omega
          case rel => exact ⟨j + 1, t', A2, c2, now + x.af, ts ++ [now + x.af], v5, rfl, rfl, (by first | rw [wrap1 j (by have h2 := HL30.out; omega)] | simp), by omega, ⟨rfl⟩, HI3, HT3, HL2, HF3, HO3, ⟨HNq.out⟩, HB3⟩
        · subst hcd
          have HI3 := Aside0.mk (show InvR r (1 + b) (j + 1) t' (now + x.af) ts by have := HST.out; rwa [if_neg (show ¬ (22 : Int) = 0 by omega)] at this)
          have HTq := HTn
          have HBq := HBn
          have y0 := (blk_cell HTq.out 0).trans rfl; have y1 := (blk_cell HTq.out 1).trans rfl; have y2 := (blk_cell HTq.out 2).trans rfl; have y3 := (blk_cell HTq.out 3).trans rfl; have y4 := (blk_cell HTq.out 4).trans rfl; have y5 := (blk_cell HTq.out 5).trans rfl; have y6 := (blk_cell HTq.out 6).trans rfl; have y7 := (blk_cell HTq.out 7).trans rfl; have y8 := (blk_cell HTq.out 8).trans rfl; have y9 := (blk_cell HTq.out 9).trans rfl; simp only [List.getElem?_toArray, List.getElem?_cons_zero, List.getElem?_cons_succ] at y0 y1 y2 y3 y4 y5 y6 y7 y8 y9
          have f0 := blk_frozen HTq.out 0; have f1 := blk_frozen HTq.out 1; have f2 := blk_frozen HTq.out 2; have f3 := blk_frozen HTq.out 3; have f4 := blk_frozen HTq.out 4; have f5 := blk_frozen HTq.out 5; have f6 := blk_frozen HTq.out 6; have f7 := blk_frozen HTq.out 7; have f8 := blk_frozen HTq.out 8; have f9 := blk_frozen HTq.out 9
          have z0 := (blk_cell HZ.out 0).trans rfl; have z1 := (blk_cell HZ.out 1).trans rfl; have z2 := (blk_cell HZ.out 2).trans rfl; have z3 := (blk_cell HZ.out 3).trans rfl; have z4 := (blk_cell HZ.out 4).trans rfl; have z5 := (blk_cell HZ.out 5).trans rfl; have z6 := (blk_cell HZ.out 6).trans rfl; have z7 := (blk_cell HZ.out 7).trans rfl; have z8 := (blk_cell HZ.out 8).trans rfl; have z9 := (blk_cell HZ.out 9).trans rfl; simp only [List.getElem?_toArray, List.getElem?_cons_zero, List.getElem?_cons_succ] at z0 z1 z2 z3 z4 z5 z6 z7 z8 z9
          go_upto_region 17 with (fail)
          have HT3 := set10_blk HTq.out (.string t'.nm) (.int .i64 t'.rate) (.int .i64 t'.burst) (.int .i64 t'.level) (.int .i64 t'.clock) (.int .i64 t'.mx) (.slice A2 t'.ser.length c2) (.int .i64 t'.acc) (.int .i64 t'.rr) (.int .i64 t'.rs)
          have HB3 := set10_below (B := BT) HBq.out HBT.out (.string t'.nm) (.int .i64 t'.rate) (.int .i64 t'.burst) (.int .i64 t'.level) (.int .i64 t'.clock) (.int .i64 t'.mx) (.slice A2 t'.ser.length c2) (.int .i64 t'.acc) (.int .i64 t'.rr) (.int .i64 t'.rs)
          have HF3 := Kd.F_step (Kd.F_mono HFn.out (fun k hk => hk.1)) (fun k hk _ => set10_far (W := wc) (B := BT) (k := k) hk.1 (.string t'.nm) (.int .i64 t'.rate) (.int .i64 t'.burst) (.int .i64 t'.level) (.int .i64 t'.clock) (.int .i64 t'.mx) (.slice A2 t'.ser.length c2) (.int .i64 t'.acc) (.int .i64 t'.rr) (.int .i64 t'.rs))
          have HO3 := own_move (w1 := set10 wc BT (.string t'.nm) (.int .i64 t'.rate) (.int .i64 t'.burst) (.int .i64 t'.level) (.int .i64 t'.clock) (.int .i64 t'.mx) (.slice A2 t'.ser.length c2) (.int .i64 t'.acc) (.int .i64 t'.rr) (.int .i64 t'.rs)) HOn.out (fun k hk => set10_far (W := wc) (B := BT) (k := k) (fun e => HNE.out (by rw [hk, e])) (.string t'.nm) (.int .i64 t'.rate) (.int .i64 t'.burst) (.int .i64 t'.level) (.int .i64 t'.clock) (.int .i64 t'.mx) (.slice A2 t'.ser.length c2) (.int .i64 t'.acc) (.int .i64 t'.rr) (.int .i64 t'.rs))
          unfold set10 at HT3 HB3 HF3 HO3
          clear y0 y1 y2 y3 y4 y5 y6 y7 y8 y9 f0 f1 f2 f3 f4 f5 f6 f7 f8 f9 z0 z1 z2 z3 z4 z5 z6 z7 z8 z9
          generalize ((((((((((wc.setCell ⟨BT, 0, none⟩ (.string t'.nm)).setCell ⟨BT, 1, none⟩ (.int .i64 t'.rate)).setCell ⟨BT, 2, none⟩ (.int .i64 t'.burst)).setCell ⟨BT, 3, none⟩ (.int .i64 t'.level)).setCell ⟨BT, 4, none⟩ (.int .i64 t'.clock)).setCell ⟨BT, 5, none⟩ (.int .i64 t'.mx)).setCell ⟨BT, 6, none⟩ (.slice A2 t'.ser.length c2)).setCell ⟨BT, 7, none⟩ (.int .i64 t'.acc)).setCell ⟨BT, 8, none⟩ (.int .i64 t'.rr)).setCell ⟨BT, 9, none⟩ (.int .i64 t'.rs)) = W3 at *
          have HT3 := Aside0.mk HT3
          have HB3 := Aside0.mk HB3
          have HF3 := Aside0.mk HF3
          have HO3 := Aside0.mk HO3
          go_wp2_with fail
          go_roundg (l.length - (j + 1))
          case measure => have := HK.out; omega
          case rel => exact ⟨j + 1, t', A2, c2, now + x.af, ts, v, rfl, rfl, (by first | rw [wrap1 j (by have h2 := HL30.out; omega)] | simp), by omega, ⟨rfl⟩, HI3, HT3, HL2, HF3, HO3, ⟨HNE.out⟩, HB3⟩
    · have hjl : j = l.length := by omega
      have dl : decide (j < l.length) = false := decide_eq_false hlt
      have HAL := Aside0.mk (show ∀ (i k : Nat) (h : i ≤ k) (hk : k < ts.length), ts[i] ≤ ts[k] ∧ (k : Int) - i + 1 ≤ 1 + b + r * (ts[k] - ts[i]) / 1000 from fun i k h hk => HI.out.all i k h hk)
      have HUP := Aside0.mk (show ∀ (i : Nat) (h : i < ts.length), 1 ≤ ts[i] ∧ ts[i] ≤ now from fun i h => HI.out.up i h)
      have HNB := Aside0.mk (show now ≤ 2000000 by have h1 := HI.out.n1; have h2 := HL30.out; omega)
      have heq : ((ts.length : Int) == t.acc) = true := by simpa using HI.out.len
      have HTL := Aside0.mk (show ts.length ≤ 30 by have h1 := HI.out.le; have h2 := HL30.out; omega)
      obtain ⟨A5, c5, rfl⟩ := own_slice HO.out
      have HRD := Aside0.mk (own_reads' HO.out)
      clear HF HO HNE HI HLC HK hj
      generalize wr = W2 at *
      go_wp2_with fail
      go_loopg [76] (ts.length) (fun kq v76 w' => ∃ (i : Nat), v76 = .int .i64 i ∧ i ≤ ts.length ∧ Aside0 (kq = ts.length - i) ∧ Aside0 (w'.heap[BT]? = some (.cells #[.string t.nm, .int .i64 t.rate, .int .i64 t.burst, .int .i64 t.level, .int .i64 t.clock, .int .i64 t.mx, .slice A t.ser.length c, .int .i64 t.acc, .int .i64 t.rr, .int .i64 t.rs] 25 (0, 0))) ∧ Aside0 (ReadsInt w' .i64 A5 ts.length ts) ∧ Aside0 (Below w.heap.size w w'))
      case atStart => exact ⟨0, rfl, Nat.zero_le _, ⟨rfl⟩, HT, HRD, HB⟩
      case round =>
        clear HT HRD HB
        obtain ⟨i, rfl, hi, HK, HT, HRD, HB⟩ := hrel
        generalize wr = W2 at *
        by_cases hlt2 : i < ts.length
        · obtain ⟨ad5, HE5⟩ : ∃ ad5, Aside0 (A5 = some ad5 ∧ W2.cell? (ad5.add i) = some (.int .i64 ts[i])) := by
            obtain ⟨ad5, e1, h0⟩ := at_int HRD.out i hlt2
            exact ⟨ad5, ⟨e1, h0⟩⟩
          obtain ⟨rfl, g5⟩ := HE5.out
          clear HE5
          obtain ⟨ti, HTI⟩ : ∃ ti, Aside0 (ts[i] = ti) := ⟨_, ⟨rfl⟩⟩
          rw [HTI.out] at g5
          have hti0 : 1 ≤ ti := by rw [← HTI.out]; exact (HUP.out i hlt2).1
          have hti1 : ti ≤ 2000000 := by rw [← HTI.out]; exact Int.le_trans (HUP.out i hlt2).2 HNB.out
          have dl2 : decide (i < ts.length) = true := decide_eq_true hlt2
          have dl3 : decide ((i : Int) < (ts.length : Int)) = true := decide_eq_true (by omega)
          have pl2 : (0 ≤ (i : Int)) = True := eq_true (by omega)
          go_wp2_with fail
          go_loopg [18] (ts.length - i) (fun kq v18 w' => ∃ (k : Nat), v18 = .int .i64 k ∧ i ≤ k ∧ k ≤ ts.length ∧ Aside0 (kq = ts.length - k) ∧ Aside0 (w'.heap[BT]? = some (.cells #[.string t.nm, .int .i64 t.rate, .int .i64 t.burst, .int .i64 t.level, .int .i64 t.clock, .int .i64 t.mx, .slice A t.ser.length c, .int .i64 t.acc, .int .i64 t.rr, .int .i64 t.rs] 25 (0, 0))) ∧ Aside0 (ReadsInt w' .i64 (some ad5) ts.length ts) ∧ Aside0 (Below w.heap.size w w'))
          case atStart => exact ⟨i, rfl, Nat.le_refl _, hi, ⟨rfl⟩, HT, HRD, HB⟩
          case round =>
            clear HT HRD HB g5
            obtain ⟨k, rfl, hik, hk, HKK, HT, HRD, HB⟩ := hrel
            generalize wr = W2 at *
            by_cases hlt3 : k < ts.length
            · obtain ⟨ad6, e6, g6⟩ := at_int HRD.out k hlt3
              cases e6
              obtain ⟨tk, HTK⟩ : ∃ tk, Aside0 (ts[k] = tk) := ⟨_, ⟨rfl⟩⟩
              rw [HTK.out] at g6
              have hal := HAL.out i k hik hlt3
              rw [HTK.out, HTI.out] at hal
              obtain ⟨hle, hal⟩ := hal
              have htk1 : tk ≤ 2000000 := by rw [← HTK.out]; exact Int.le_trans (HUP.out k hlt3).2 HNB.out
              have hp0 : 0 ≤ r * (tk - ti) := Int.mul_nonneg hr0 (by omega)
              have hp1 : r * (tk - ti) ≤ 255 * 2000000 := Int.mul_le_mul hr1 (by omega) (by omega) (by omega)
              have dd : decide (1 + b + r * (tk - ti) / 1000 < (k : Int) - (i : Int) + 1) = false := decide_eq_false (by omega)
              have dl4 : decide (k < ts.length) = true := decide_eq_true hlt3
              have dl5 : decide ((k : Int) < (ts.length : Int)) = true := decide_eq_true (by omega)
              have pl3 : (0 ≤ (k : Int)) = True := eq_true (by omega)
              have hkb : k ≤ 30 := by have := HTL.out; omega
              go_wp2_with fail
              go_roundg (ts.length - (k + 1))
              case measure => have := HKK.out; omega
              case rel => exact ⟨k + 1, (by first | rw [wrap1 k (by omega)] | simp), by omega, by omega, ⟨rfl⟩, HT, HRD, HB⟩
            · have dl4 : decide (k < ts.length) = false := decide_eq_false hlt3
              have dl5 : decide ((k : Int) < (ts.length : Int)) = false := decide_eq_false (by omega)
              go_wp2_with fail
              go_roundg (ts.length - (i + 1))
              case measure => have := HK.out; omega
              case rel => exact ⟨i + 1, (by first | rw [wrap1 i (by have := HTL.out; omega)] | simp), by omega, ⟨rfl⟩, HT, HRD, HB⟩
        · have dl2 : decide (i < ts.length) = false := decide_eq_false hlt2
          have y7 := (blk_cell HT.out 7).trans rfl
          simp only [List.getElem?_toArray, List.getElem?_cons_zero, List.getElem?_cons_succ] at y7
          go_wp2_with (go_at_call 9; (with_reducible refine (HA.out _).mono ?_); rintro e w9 ⟨rfl, hb⟩; have HB9 := Aside0.mk (HB.out.trans (hb.mono HB.out.size)); clear hb)
          go_ret
          exact ⟨rfl, HB9.out⟩
theorem QLRate_rowc (w : World) (r : Int) (hr : (Lit.int .u8 r).wf = true) (b : Int) (hb : (Lit.int .u8 b).wf = true) (A0 : Option Addr) (l : List OfV) (c0 : Nat) (hC : Kd.C kOffer w A0 l.length l) (hl : l.length ≤ c0) (hg : ∀ x ∈ l, (Lit.int .u16 x.af).wf = true ∧ (Lit.int .u8 x.se).wf = true) :
    Calls Try.prog 3 #[.int .u8 r, .int .u8 b, .slice A0 l.length c0] w fun e w' => e = .returned (.bool true) ∧ Below w.heap.size w w' :=
  QLRate_row w r b (wf_u8 hr).1 (wf_u8 hr).2 (wf_u8 hb).1 (wf_u8 hb).2 A0 l c0 hC hl hg
end Go.Proofs.Ytakobehkajphpaa.H

/- The law QuotaAccount. -/
import Derived.Test.YtakobehkajphpaaQCon
import Derived.Test.YtakobehkajphpaaQAwake
import Derived.Deep.DeepCutAuto
import Derived.RegionTactic
import Derived.ChangeAlike
namespace Go.Proofs.Ytakobehkajphpaa.H
open Go Go.RowKit Go.Proofs.YtakobehkajphpaaW.PrintWords Go.Proofs.YtakobehkajphpaaW.PrintLast Go.Proofs.YtakobehkajphpaaW.PrintMore Go.Proofs.Ytakobehkajphpaa.PAll
set_option linter.unusedVariables false
set_option linter.unusedSimpArgs false

theorem field35 (cs : Array Value) (v : Value) (w : World) (hv : cs[1]? = some v) : (part 35 cs 1).run Try.prog w = .ok v w := by
  have hu := Try.underlying35
  simp [part, isAgg, Sem.run_bind, run_underlying hu w, hv]
theorem run_field1 (cs : Array Value) (v : Value) (hv : cs[1]? = some v) : ∀ W : World, (Instr.field 55 (.agg cs) 1).run Try.prog W = .ok v W := fun W => by
  have hu := Try.underlying55
  unfold Instr.field
  rw [Sem.run_bind, run_underlying hu W]
  simp only [Result.andThen_ok, asAgg, Sem.run_bind, Sem.run_pure]
  exact field35 cs v W hv
set_option maxRecDepth 100000 in
set_option maxHeartbeats 16000000 in
theorem QLAcc_row (w : World) (r b m : Int) (hr0 : 0 ≤ r) (hr1 : r ≤ 255) (hb0 : 0 ≤ b) (hb1 : b ≤ 255) (hm0 : 0 ≤ m) (hm1 : m ≤ 255) (A0 : Option Addr) (l : List OfV) (c0 : Nat) (hC : Kd.C kOffer w A0 l.length l) (hl : l.length ≤ c0) (hg : ∀ x ∈ l, (Lit.int .u16 x.af).wf = true ∧ (Lit.int .u8 x.se).wf = true) :
    Calls Try.prog 7 #[.int .u8 r, .int .u8 b, .int .u8 m, .slice A0 l.length c0] w fun e w' => e = .returned (.bool true) ∧ Below w.heap.size w w' := by
  have HA := Aside0.mk (fun W => awake_calls W)
  have hq0 : 0 ≤ m % 8 := by omega
  have hq1 : m % 8 < 8 := by omega
  have HN := Aside0.mk (show Calls Try.prog 8 #[.string ⟨#[97, 99, 109, 101]⟩, .int .i64 r, .int .i64 (1 + b), .int .i64 (m % 8), .int .i64 1] w (RT w (⟨acme, r, 1 + b, 1000 * (1 + b), 1, m % 8, [], 0, 0, 0⟩, 0)) by
    have h1 : isNm (ab acme) = true := by kernel_rfl
    have := QNew_calls acme (by decide) r (1 + b) (m % 8) 1 w
    rwa [newT_ok h1 (rng_iff.2 (by omega))] at this)
  have hu := Try.underlying25
  have hu2 := Try.underlying33
  have hu3 := Try.underlying55
  have hu4 := Try.underlying35
  by_cases hlen : 30 < l.length
  · have d1 : decide (30 < l.length) = true := decide_eq_true hlen
    have d2 : decide ((30 : Int) < (l.length : Int)) = true := decide_eq_true (by omega)
    clear hC hg
    go_enter Try.func7, Try.ntmps7
    go_wp2_with (first
      | (go_at_call 8; (refine HN.out.mono ?_); rintro e w1 ⟨A1, c1, rfl, hl1, hC1, hb⟩; have HB1 := Aside0.mk (below_alloc hb (.cells #[.string acme, .int .i64 r, .int .i64 (1 + b), .int .i64 (1000 * (1 + b)), .int .i64 1, .int .i64 (m % 8), .slice A1 0 c1, .int .i64 0, .int .i64 0, .int .i64 0] 25)); clear hb hl1 hC1)
      | (go_at_call 9; (with_reducible refine (HA.out _).mono ?_); rintro e w9 ⟨rfl, hb⟩; have HB9 := Aside0.mk (HB1.out.trans (hb.mono HB1.out.size)); clear hb))
    go_ret
    exact ⟨rfl, HB9.out⟩
  have d1 : decide (30 < l.length) = false := decide_eq_false hlen
  have d2 : decide ((30 : Int) < (l.length : Int)) = false := decide_eq_false (by omega)
  have HGD := Aside0.mk hg
  have HCL := Aside0.mk hC
  have HL30 := Aside0.mk hlen
  clear hC hg hlen
  go_enter Try.func7, Try.ntmps7
  go_wp2_with (go_at_call 8; (refine HN.out.mono ?_); rintro e w1 ⟨A1, c1, rfl, hl1, hC1, hb⟩; have HLC1 := Aside0.mk (show 0 ≤ c1 from Nat.zero_le _); have HBa := Aside0.mk hb; clear hb hl1 hC1)
  have HT := Aside0.mk (heap_alloc_new w1 (.cells #[.string acme, .int .i64 r, .int .i64 (1 + b), .int .i64 (1000 * (1 + b)), .int .i64 1, .int .i64 (m % 8), .slice A1 0 c1, .int .i64 0, .int .i64 0, .int .i64 0] 25))
  have HB := Aside0.mk (below_alloc HBa.out (.cells #[.string acme, .int .i64 r, .int .i64 (1 + b), .int .i64 (1000 * (1 + b)), .int .i64 1, .int .i64 (m % 8), .slice A1 0 c1, .int .i64 0, .int .i64 0, .int .i64 0] 25))
  have HBT := Aside0.mk HBa.out.size
  have HI0 := Aside0.mk (InvA.start (M := m % 8) ⟨acme, r, 1 + b, 1000 * (1 + b), 1, m % 8, [], 0, 0, 0⟩ (newT_val (by kernel_rfl) (rng_iff.2 (by omega))) ⟨by show acme.size ≤ 1000; decide, by show (0 : Nat) ≤ 1000; omega, fun l hl => by cases hl⟩ rfl rfl rfl rfl rfl)
  generalize w1.alloc (.cells #[.string acme, .int .i64 r, .int .i64 (1 + b), .int .i64 (1000 * (1 + b)), .int .i64 1, .int .i64 (m % 8), .slice A1 0 c1, .int .i64 0, .int .i64 0, .int .i64 0] 25) = W0 at *
  generalize w1.heap.size = BT at *
  clear HBa HN
  go_loopg [11, 47] (l.length) (fun kq v11 v47 w' => ∃ (j : Nat) (t : TV) (A : Option Addr) (c : Nat) (now : Int), v11 = .int .i64 now ∧ v47 = .int .i64 j ∧ j ≤ l.length ∧ Aside0 (kq = l.length - j) ∧ Aside0 (InvA (m % 8) j t now) ∧ Aside0 (w'.heap[BT]? = some (.cells #[.string t.nm, .int .i64 t.rate, .int .i64 t.burst, .int .i64 t.level, .int .i64 t.clock, .int .i64 t.mx, .slice A t.ser.length c, .int .i64 t.acc, .int .i64 t.rr, .int .i64 t.rs] 25 (0, 0))) ∧ Aside0 (t.ser.length ≤ c) ∧ Aside0 (Kd.F kLL w' (fun k => k ≠ BT) A t.ser.length t.ser) ∧ Aside0 (Below w.heap.size w w'))
  case atStart => exact ⟨0, ⟨acme, r, 1 + b, 1000 * (1 + b), 1, m % 8, [], 0, 0, 0⟩, A1, c1, 1, rfl, rfl, Nat.zero_le _, ⟨rfl⟩, HI0, HT, HLC1, ⟨fun W' _ => ⟨rfl, by show 0 ≤ _; omega, fun h => absurd h (Nat.lt_irrefl 0)⟩⟩, HB⟩
  case round =>
    clear HT HB HI0 HLC1
    obtain ⟨j, t, A, c, now, rfl, rfl, hj, HK, HI, HT, HLC, HF, HB⟩ := hrel
    by_cases hlt : j < l.length
    · obtain ⟨ad, HE0⟩ : ∃ ad, Aside0 (A0 = some ad ∧ wr.cell? (ad.add (j * 2)) = some (.int .u16 l[j].af) ∧ wr.cell? ⟨(ad.add (j * 2)).block, (ad.add (j * 2)).off + 1, none⟩ = some (.int .u8 l[j].se)) := by
        obtain ⟨ad, e1, h0, h1⟩ := at_Offer (Kd.C_below HCL.out HB.out) j hlt
        exact ⟨ad, ⟨e1, h0, h1⟩⟩
      obtain ⟨rfl, g0, g1⟩ := HE0.out
      have hx := HGD.out l[j] (List.getElem_mem hlt)
      generalize l[j] = x at *
      have ha := wf_u16 hx.1
      have hse := wf_u8 hx.2
      obtain ⟨ha0, ha1⟩ := ha
      obtain ⟨hse0, hse1⟩ := hse
      clear HE0 hx
      have dl : decide (j < l.length) = true := decide_eq_true hlt
      have pl : (0 ≤ (j : Int)) = True := eq_true (by omega)
      have hn0 : 1 ≤ now := by have h1 := HI.out.val.c0; have h2 := HI.out.clk; omega
      have hn1 : now ≤ 2000000 := by have h1 := HI.out.n1; have h2 := HL30.out; omega
      have hST := HI.out.step (by have h2 := HL30.out; omega) ha0 ha1 (opS x.se) (opS_chk x.se) (opS_small x.se) (fun l hl => by unfold opS at hl; split at hl; cases hl; cases hl; simp [lv])
      have hcl := HI.out.clk
      have HRF := Aside0.mk (fun W (hC : Kd.C kLL W A t.ser.length t.ser) => show Calls Try.prog 14 #[.agg #[.string t.nm, .int .i64 t.rate, .int .i64 t.burst, .int .i64 t.level, .int .i64 t.clock, .int .i64 t.mx, .slice A t.ser.length c, .int .i64 t.acc, .int .i64 t.rr, .int .i64 t.rs], .int .i64 (now + x.af)] W (RT W (fillT t (now + x.af), 0)) by
        have := QRefill_calls t HI.out.small (now + x.af) A c W hC HLC.out
        rwa [refillT_ok ((val_iff t).2 HI.out.val) (by omega)] at this)
      have hfl0 := (fill_val HI.out.val (now := now + x.af) (by omega) (by omega)).l0
      have hfl1 := (fill_val HI.out.val (now := now + x.af) (by omega) (by omega)).l1
      have hfl2 := (fill_val HI.out.val (now := now + x.af) (by omega) (by omega)).b1
      have HAD0 := Aside0.mk (fun (okX : Nat → Prop) A' W (hC : Kd.F kLL W okX A t.ser.length t.ser) (hF : opOK W okX x.se A') => Admit_any t HI.out.val HI.out.small (now + x.af) (by omega) (by omega) x.se A c A' W okX hC HLC.out hF)
      clear hcl
      obtain ⟨f, HFE⟩ : ∃ f, Aside0 (fillT t (now + x.af) = f) := ⟨_, ⟨rfl⟩⟩
      rw [HFE.out] at hST HRF hfl0 hfl1 hfl2 HAD0
      obtain ⟨t', HTE⟩ : ∃ t', Aside0 ((admT f (opS x.se)).1 = t') := ⟨_, ⟨rfl⟩⟩
      obtain ⟨cd, HCE⟩ : ∃ cd, Aside0 ((admT f (opS x.se)).2 = cd) := ⟨_, ⟨rfl⟩⟩
      have HCD := Aside0.mk (show cd = 0 ∨ cd = 22 by rw [← HCE.out]; exact adm_code _ _)
      rw [HTE.out, HCE.out] at hST
      have HI3 := Aside0.mk hST.1
      have HSA := Aside0.mk hST.2
      clear hST
      go_upto_region 9 with (fail)
      have HXa := Aside0.mk (heap_alloc_new wr (.cells #[.int .u16 x.af, .int .u8 x.se] 33))
      have HTa := Aside0.mk (heap_alloc_keep (o := (.cells #[.int .u16 x.af, .int .u8 x.se] 33)) HT.out)
      have HBa := Aside0.mk (below_alloc HB.out (.cells #[.int .u16 x.af, .int .u8 x.se] 33))
      have HFa := Aside0.mk (Kd.F_mono (Kd.F_alloc (Kd.F_bound HF.out) (.cells #[.int .u16 x.af, .int .u8 x.se] 33)) (ok' := (fun k => k ≠ BT)) (fun k hk => hk.1))
      have HXT := Aside0.mk (show wr.heap.size ≠ BT by have := heap_lt HT.out; omega)
      clear HT HB HF g0 g1
      generalize wr.alloc (.cells #[.int .u16 x.af, .int .u8 x.se] 33) = Wa at *
      generalize wr.heap.size = BX at *
      have y0 := (blk_cell HTa.out 0).trans rfl; have y1 := (blk_cell HTa.out 1).trans rfl; have y2 := (blk_cell HTa.out 2).trans rfl; have y3 := (blk_cell HTa.out 3).trans rfl; have y4 := (blk_cell HTa.out 4).trans rfl; have y5 := (blk_cell HTa.out 5).trans rfl; have y6 := (blk_cell HTa.out 6).trans rfl; have y7 := (blk_cell HTa.out 7).trans rfl; have y8 := (blk_cell HTa.out 8).trans rfl; have y9 := (blk_cell HTa.out 9).trans rfl; simp only [List.getElem?_toArray, List.getElem?_cons_zero, List.getElem?_cons_succ] at y0 y1 y2 y3 y4 y5 y6 y7 y8 y9
      go_upto_region 10 with (go_at_call 14; (with_reducible refine (HRF.out _ (by exact Kd.F_now HFa.out)).mono ?_); rintro e w1 ⟨AF, cF, rfl, hlF, hCF, hb⟩; have HLF := Aside0.mk hlF; have HCF := Aside0.mk hCF; have HBw := Aside0.mk hb; clear hlF hCF hb)
      clear y0 y1 y2 y3 y4 y5 y6 y7 y8 y9 HRF
      have HW1 := Aside0.mk (below_alloc HBw.out (.cells #[.string f.nm, .int .i64 f.rate, .int .i64 f.burst, .int .i64 f.level, .int .i64 f.clock, .int .i64 f.mx, .slice AF f.ser.length cF, .int .i64 f.acc, .int .i64 f.rr, .int .i64 f.rs] 25))
      have HX := Aside0.mk ((HW1.out.block BX (heap_lt HXa.out)).trans HXa.out)
      have HFB := Aside0.mk (heap_alloc_new w1 (.cells #[.string f.nm, .int .i64 f.rate, .int .i64 f.burst, .int .i64 f.level, .int .i64 f.clock, .int .i64 f.mx, .slice AF f.ser.length cF, .int .i64 f.acc, .int .i64 f.rr, .int .i64 f.rs] 25))
      have HT := Aside0.mk ((HW1.out.block BT (heap_lt HTa.out)).trans HTa.out)
      have HB := Aside0.mk (HBa.out.trans (HW1.out.mono HBa.out.size))
      have HF := Aside0.mk (Kd.F_mono (Kd.F_below (Kd.F_bound HFa.out) HW1.out) (ok' := (fun k => k ≠ BT)) (fun k hk => hk.1))
      have HCF1 := Aside0.mk (Kd.C_below HCF.out (below_alloc (Below.refl _ _) (.cells #[.string f.nm, .int .i64 f.rate, .int .i64 f.burst, .int .i64 f.level, .int .i64 f.clock, .int .i64 f.mx, .slice AF f.ser.length cF, .int .i64 f.acc, .int .i64 f.rr, .int .i64 f.rs] 25)))
      clear HTa HBa HFa HXa HCF HBw HW1
      generalize w1.alloc (.cells #[.string f.nm, .int .i64 f.rate, .int .i64 f.burst, .int .i64 f.level, .int .i64 f.clock, .int .i64 f.mx, .slice AF f.ser.length cF, .int .i64 f.acc, .int .i64 f.rr, .int .i64 f.rs] 25) = W1 at *
      generalize w1.heap.size = BF at *
      have HTX := Aside0.mk (heap_lt HT.out)
      have HXX := Aside0.mk (heap_lt HX.out)
      have HOP := Aside0.mk (fun W => op_any x.af x.se hse0 hse1 W)
      have HAD := Aside0.mk (fun (okX : Nat → Prop) A' W (h : Below W1.heap.size W1 W) (hF : opOK W okX x.se A') (hok : ∀ k, (fun k => k ≠ BT) k → k < W1.heap.size → okX k) => show Calls Try.prog 10 #[tv t (.slice A t.ser.length c), opV x.se A', .int .i64 (now + x.af)] W (RTF W okX (t', cd)) by
        have := HAD0.out okX A' W (Kd.F_mono (Kd.F_below (Kd.F_bound HF.out) h) (fun k hk => hok k hk.1 hk.2)) hF
        rwa [show admT f (opS x.se) = (t', cd) by rw [← HTE.out, ← HCE.out]] at this)
      clear HAD0
      have y0 := (blk_cell HT.out 0).trans rfl; have y1 := (blk_cell HT.out 1).trans rfl; have y2 := (blk_cell HT.out 2).trans rfl; have y3 := (blk_cell HT.out 3).trans rfl; have y4 := (blk_cell HT.out 4).trans rfl; have y5 := (blk_cell HT.out 5).trans rfl; have y6 := (blk_cell HT.out 6).trans rfl; have y7 := (blk_cell HT.out 7).trans rfl; have y8 := (blk_cell HT.out 8).trans rfl; have y9 := (blk_cell HT.out 9).trans rfl; simp only [List.getElem?_toArray, List.getElem?_cons_zero, List.getElem?_cons_succ] at y0 y1 y2 y3 y4 y5 y6 y7 y8 y9
      have x0 := (blk_cell HX.out 0).trans rfl; have x1 := (blk_cell HX.out 1).trans rfl; simp only [List.getElem?_toArray, List.getElem?_cons_zero, List.getElem?_cons_succ] at x0 x1
      go_cut [16, 17] (fun s16 s17 wx => ∃ (BZ : Nat) (A2 : Option Addr) (c2 : Nat), s16 = .pointer (some ⟨BZ, 0, none⟩) ∧ s17 = .int .i64 cd ∧ Aside0 (W1.heap.size ≤ BZ) ∧ Aside0 (wx.heap[BZ]? = some (.cells #[.string t'.nm, .int .i64 t'.rate, .int .i64 t'.burst, .int .i64 t'.level, .int .i64 t'.clock, .int .i64 t'.mx, .slice A2 t'.ser.length c2, .int .i64 t'.acc, .int .i64 t'.rr, .int .i64 t'.rs] 25 (0, 0))) ∧ Aside0 (t'.ser.length ≤ c2) ∧ Aside0 (Kd.F kLL wx (fun k => ((fun k => k ≠ BT) k ∧ k < W1.heap.size) ∨ (W1.heap.size ≤ k ∧ k ≠ BZ)) A2 t'.ser.length t'.ser) ∧ Aside0 (Below W1.heap.size W1 wx))
      case first =>
        have HD := Aside0.mk (show Below W1.heap.size W1 W1.drew from below_drew (Below.refl _ _))
        go_region_held3 (fun w' => w'.cell? ⟨BT, 0, none⟩ = some (.string t.nm) ∧ w'.cell? ⟨BT, 1, none⟩ = some (.int .i64 t.rate) ∧ w'.cell? ⟨BT, 2, none⟩ = some (.int .i64 t.burst) ∧ w'.cell? ⟨BT, 3, none⟩ = some (.int .i64 t.level) ∧ w'.cell? ⟨BT, 4, none⟩ = some (.int .i64 t.clock) ∧ w'.cell? ⟨BT, 5, none⟩ = some (.int .i64 t.mx) ∧ w'.cell? ⟨BT, 6, none⟩ = some (.slice A t.ser.length c) ∧ w'.cell? ⟨BT, 7, none⟩ = some (.int .i64 t.acc) ∧ w'.cell? ⟨BT, 8, none⟩ = some (.int .i64 t.rr) ∧ w'.cell? ⟨BT, 9, none⟩ = some (.int .i64 t.rs) ∧ w'.cell? ⟨BX, 0, none⟩ = some (.int .u16 x.af) ∧ w'.cell? ⟨BX, 1, none⟩ = some (.int .u8 x.se)) (go_keep)
          (first
          | (go_at_call 11; (with_reducible refine (HOP.out W1.drew).mono ?_); rintro e u1 ⟨A', rfl, hF1, hb⟩; have HBu := Aside0.mk (show Below W1.heap.size W1 u1 from HD.out.trans hb); have HFLa := Aside0.mk (show opOK u1 (fun k => W1.heap.size ≤ k ∧ k < u1.heap.size) x.se A' from hF1); clear hb hF1; have HT1 := Aside0.mk ((HBu.out.block BT HTX.out).trans HT.out); clear y0 y1 y2 y3 y4 y5 y6 y7 y8 y9 x0 x1; have y0 := (blk_cell HT1.out 0).trans rfl; have y1 := (blk_cell HT1.out 1).trans rfl; have y2 := (blk_cell HT1.out 2).trans rfl; have y3 := (blk_cell HT1.out 3).trans rfl; have y4 := (blk_cell HT1.out 4).trans rfl; have y5 := (blk_cell HT1.out 5).trans rfl; have y6 := (blk_cell HT1.out 6).trans rfl; have y7 := (blk_cell HT1.out 7).trans rfl; have y8 := (blk_cell HT1.out 8).trans rfl; have y9 := (blk_cell HT1.out 9).trans rfl; simp only [List.getElem?_toArray, List.getElem?_cons_zero, List.getElem?_cons_succ] at y0 y1 y2 y3 y4 y5 y6 y7 y8 y9; have HX1 := Aside0.mk ((HBu.out.block BX HXX.out).trans HX.out); have x0 := (blk_cell HX1.out 0).trans rfl; have x1 := (blk_cell HX1.out 1).trans rfl; simp only [List.getElem?_toArray, List.getElem?_cons_zero, List.getElem?_cons_succ] at x0 x1)
          | (go_at_call 11; (with_reducible refine (HOP.out ((W1.alloc (.cells #[.string ⟨#[]⟩, .int .i64 0, .int .i64 0, .int .i64 0, .int .i64 0, .int .i64 0, .slice none 0 0, .int .i64 0, .int .i64 0, .int .i64 0] 25)).drew)).mono ?_); rintro e u1 ⟨A', rfl, hF1, hb⟩; have HBu := Aside0.mk (show Below W1.heap.size W1 u1 from (below_alloc HD.out (.cells #[.string ⟨#[]⟩, .int .i64 0, .int .i64 0, .int .i64 0, .int .i64 0, .int .i64 0, .slice none 0 0, .int .i64 0, .int .i64 0, .int .i64 0] 25)).trans (hb.mono (below_alloc HD.out (.cells #[.string ⟨#[]⟩, .int .i64 0, .int .i64 0, .int .i64 0, .int .i64 0, .int .i64 0, .slice none 0 0, .int .i64 0, .int .i64 0, .int .i64 0] 25)).size)); have HFLc := Aside0.mk hF1; have HZ1 := Aside0.mk ((hb.block W1.heap.size (by simp)).trans (heap_alloc_new W1.drew (.cells #[.string ⟨#[]⟩, .int .i64 0, .int .i64 0, .int .i64 0, .int .i64 0, .int .i64 0, .slice none 0 0, .int .i64 0, .int .i64 0, .int .i64 0] 25))); clear hb hF1; have HT1 := Aside0.mk ((HBu.out.block BT HTX.out).trans HT.out); clear y0 y1 y2 y3 y4 y5 y6 y7 y8 y9 x0 x1; have y0 := (blk_cell HT1.out 0).trans rfl; have y1 := (blk_cell HT1.out 1).trans rfl; have y2 := (blk_cell HT1.out 2).trans rfl; have y3 := (blk_cell HT1.out 3).trans rfl; have y4 := (blk_cell HT1.out 4).trans rfl; have y5 := (blk_cell HT1.out 5).trans rfl; have y6 := (blk_cell HT1.out 6).trans rfl; have y7 := (blk_cell HT1.out 7).trans rfl; have y8 := (blk_cell HT1.out 8).trans rfl; have y9 := (blk_cell HT1.out 9).trans rfl; simp only [List.getElem?_toArray, List.getElem?_cons_zero, List.getElem?_cons_succ] at y0 y1 y2 y3 y4 y5 y6 y7 y8 y9; have HX1 := Aside0.mk ((HBu.out.block BX HXX.out).trans HX.out); have x0 := (blk_cell HX1.out 0).trans rfl; have x1 := (blk_cell HX1.out 1).trans rfl; simp only [List.getElem?_toArray, List.getElem?_cons_zero, List.getElem?_cons_succ] at x0 x1)
          | (go_at_call 10; (with_reducible refine (HAD.out (fun k => ((fun k => k ≠ BT) k ∧ k < W1.heap.size) ∨ W1.heap.size ≤ k) _ u1 (by exact HBu.out) (by exact opOK_mono HFLa.out (fun k hk => .inr hk.1)) (fun k h h2 => .inl ⟨h, h2⟩)).mono ?_); rintro e u2 ⟨A2, c2, rfl, hl2, hF2, hb⟩; have HGa := Aside0.mk True.intro; have HL2 := Aside0.mk hl2; have HFF := Aside0.mk (Kd.F_mono hF2 (ok' := (fun k => ((fun k => k ≠ BT) k ∧ k < W1.heap.size) ∨ W1.heap.size ≤ k)) (fun k hk => by rcases hk with hk | hk; exact hk; exact .inr (Nat.le_trans HBu.out.size hk))); have HBv := Aside0.mk (HBu.out.trans (hb.mono HBu.out.size)); clear hb hF2 hl2; have HT1 := Aside0.mk ((HBv.out.block BT HTX.out).trans HT.out); clear y0 y1 y2 y3 y4 y5 y6 y7 y8 y9 x0 x1; have y0 := (blk_cell HT1.out 0).trans rfl; have y1 := (blk_cell HT1.out 1).trans rfl; have y2 := (blk_cell HT1.out 2).trans rfl; have y3 := (blk_cell HT1.out 3).trans rfl; have y4 := (blk_cell HT1.out 4).trans rfl; have y5 := (blk_cell HT1.out 5).trans rfl; have y6 := (blk_cell HT1.out 6).trans rfl; have y7 := (blk_cell HT1.out 7).trans rfl; have y8 := (blk_cell HT1.out 8).trans rfl; have y9 := (blk_cell HT1.out 9).trans rfl; simp only [List.getElem?_toArray, List.getElem?_cons_zero, List.getElem?_cons_succ] at y0 y1 y2 y3 y4 y5 y6 y7 y8 y9; have HX1 := Aside0.mk ((HBv.out.block BX HXX.out).trans HX.out); have x0 := (blk_cell HX1.out 0).trans rfl; have x1 := (blk_cell HX1.out 1).trans rfl; simp only [List.getElem?_toArray, List.getElem?_cons_zero, List.getElem?_cons_succ] at x0 x1)
          | (go_at_call 10; (with_reducible refine (HAD.out (fun k => ((fun k => k ≠ BT) k ∧ k < W1.heap.size) ∨ (W1.heap.size ≤ k ∧ k ≠ u1.heap.size)) _ (u1.alloc (.cells #[.string ⟨#[]⟩, .int .i64 0, .int .i64 0, .int .i64 0, .int .i64 0, .int .i64 0, .slice none 0 0, .int .i64 0, .int .i64 0, .int .i64 0] 25)) (by exact below_alloc HBu.out _) (by exact opOK_alloc (opOK_mono HFLa.out (fun k hk => ⟨.inr ⟨hk.1, by have h5 := hk.2; omega⟩, hk.2⟩)) _) (fun k h h2 => .inl ⟨h, h2⟩)).mono ?_); rintro e u2 ⟨A2, c2, rfl, hl2, hF2, hb⟩; have HGb := Aside0.mk True.intro; have nb1 : u1.heap.size ≠ BT := (by have := Nat.lt_of_lt_of_le HTX.out HBu.out.size; omega); have nb2 : BT ≠ u1.heap.size := fun e => nb1 e.symm; have nc0a : u1.heap.size ≠ BX := (by have h5 := HXX.out; have h6 := HBu.out.size; omega); have nc0b : BX ≠ u1.heap.size := fun e => nc0a e.symm; have HL2 := Aside0.mk hl2; have HFF := Aside0.mk (Kd.F_mono hF2 (ok' := (fun k => ((fun k => k ≠ BT) k ∧ k < W1.heap.size) ∨ (W1.heap.size ≤ k ∧ k ≠ u1.heap.size))) (fun k hk => by have h3 := HBu.out.size; rcases hk with hk | hk; exact hk; simp at hk; exact .inr ⟨by omega, by omega⟩)); have HBv := Aside0.mk ((below_alloc HBu.out (.cells #[.string ⟨#[]⟩, .int .i64 0, .int .i64 0, .int .i64 0, .int .i64 0, .int .i64 0, .slice none 0 0, .int .i64 0, .int .i64 0, .int .i64 0] 25)).trans (hb.mono (below_alloc HBu.out (.cells #[.string ⟨#[]⟩, .int .i64 0, .int .i64 0, .int .i64 0, .int .i64 0, .int .i64 0, .slice none 0 0, .int .i64 0, .int .i64 0, .int .i64 0] 25)).size)); have HZ2 := Aside0.mk ((hb.block u1.heap.size (by simp)).trans (heap_alloc_new u1 (.cells #[.string ⟨#[]⟩, .int .i64 0, .int .i64 0, .int .i64 0, .int .i64 0, .int .i64 0, .slice none 0 0, .int .i64 0, .int .i64 0, .int .i64 0] 25))); clear hb hF2 hl2; have HT1 := Aside0.mk ((HBv.out.block BT HTX.out).trans HT.out); clear y0 y1 y2 y3 y4 y5 y6 y7 y8 y9 x0 x1; have y0 := (blk_cell HT1.out 0).trans rfl; have y1 := (blk_cell HT1.out 1).trans rfl; have y2 := (blk_cell HT1.out 2).trans rfl; have y3 := (blk_cell HT1.out 3).trans rfl; have y4 := (blk_cell HT1.out 4).trans rfl; have y5 := (blk_cell HT1.out 5).trans rfl; have y6 := (blk_cell HT1.out 6).trans rfl; have y7 := (blk_cell HT1.out 7).trans rfl; have y8 := (blk_cell HT1.out 8).trans rfl; have y9 := (blk_cell HT1.out 9).trans rfl; simp only [List.getElem?_toArray, List.getElem?_cons_zero, List.getElem?_cons_succ] at y0 y1 y2 y3 y4 y5 y6 y7 y8 y9; have HX1 := Aside0.mk ((HBv.out.block BX HXX.out).trans HX.out); have x0 := (blk_cell HX1.out 0).trans rfl; have x1 := (blk_cell HX1.out 1).trans rfl; simp only [List.getElem?_toArray, List.getElem?_cons_zero, List.getElem?_cons_succ] at x0 x1; have z0 := (blk_cell HZ2.out 0).trans rfl; have z1 := (blk_cell HZ2.out 1).trans rfl; have z2 := (blk_cell HZ2.out 2).trans rfl; have z3 := (blk_cell HZ2.out 3).trans rfl; have z4 := (blk_cell HZ2.out 4).trans rfl; have z5 := (blk_cell HZ2.out 5).trans rfl; have z6 := (blk_cell HZ2.out 6).trans rfl; have z7 := (blk_cell HZ2.out 7).trans rfl; have z8 := (blk_cell HZ2.out 8).trans rfl; have z9 := (blk_cell HZ2.out 9).trans rfl; simp only [List.getElem?_toArray, List.getElem?_cons_zero, List.getElem?_cons_succ] at z0 z1 z2 z3 z4 z5 z6 z7 z8 z9; have g0 := blk_frozen HZ2.out 0; have g1 := blk_frozen HZ2.out 1; have g2 := blk_frozen HZ2.out 2; have g3 := blk_frozen HZ2.out 3; have g4 := blk_frozen HZ2.out 4; have g5 := blk_frozen HZ2.out 5; have g6 := blk_frozen HZ2.out 6; have g7 := blk_frozen HZ2.out 7; have g8 := blk_frozen HZ2.out 8; have g9 := blk_frozen HZ2.out 9)
          | (go_at_call 10; (with_reducible refine (HAD.out (fun k => ((fun k => k ≠ BT) k ∧ k < W1.heap.size) ∨ (W1.heap.size ≤ k ∧ k ≠ W1.heap.size)) _ u1 (by exact HBu.out) (by exact opOK_mono HFLc.out (fun k hk => .inr (by have h4 := hk.1; simp at h4; omega))) (fun k h h2 => .inl ⟨h, h2⟩)).mono ?_); rintro e u2 ⟨A2, c2, rfl, hl2, hF2, hb⟩; have HGc := Aside0.mk True.intro; have nb1 : W1.heap.size ≠ BT := (by have := HTX.out; omega); have nb2 : BT ≠ W1.heap.size := fun e => nb1 e.symm; have nc0a : W1.heap.size ≠ BX := (by have h5 := HXX.out; have h6 := HBu.out.size; omega); have nc0b : BX ≠ W1.heap.size := fun e => nc0a e.symm; have HL2 := Aside0.mk hl2; have HU1 := Aside0.mk (heap_lt HZ1.out); have HFF := Aside0.mk (Kd.F_mono hF2 (ok' := (fun k => ((fun k => k ≠ BT) k ∧ k < W1.heap.size) ∨ (W1.heap.size ≤ k ∧ k ≠ W1.heap.size))) (fun k hk => by have h3 := HU1.out; rcases hk with hk | hk; exact hk; exact .inr ⟨by omega, by omega⟩)); have HBv := Aside0.mk (HBu.out.trans (hb.mono HBu.out.size)); have HZ2 := Aside0.mk ((hb.block W1.heap.size HU1.out).trans HZ1.out); clear hb hF2 hl2; have HT1 := Aside0.mk ((HBv.out.block BT HTX.out).trans HT.out); clear y0 y1 y2 y3 y4 y5 y6 y7 y8 y9 x0 x1; have y0 := (blk_cell HT1.out 0).trans rfl; have y1 := (blk_cell HT1.out 1).trans rfl; have y2 := (blk_cell HT1.out 2).trans rfl; have y3 := (blk_cell HT1.out 3).trans rfl; have y4 := (blk_cell HT1.out 4).trans rfl; have y5 := (blk_cell HT1.out 5).trans rfl; have y6 := (blk_cell HT1.out 6).trans rfl; have y7 := (blk_cell HT1.out 7).trans rfl; have y8 := (blk_cell HT1.out 8).trans rfl; have y9 := (blk_cell HT1.out 9).trans rfl; simp only [List.getElem?_toArray, List.getElem?_cons_zero, List.getElem?_cons_succ] at y0 y1 y2 y3 y4 y5 y6 y7 y8 y9; have HX1 := Aside0.mk ((HBv.out.block BX HXX.out).trans HX.out); have x0 := (blk_cell HX1.out 0).trans rfl; have x1 := (blk_cell HX1.out 1).trans rfl; simp only [List.getElem?_toArray, List.getElem?_cons_zero, List.getElem?_cons_succ] at x0 x1; have z0 := (blk_cell HZ2.out 0).trans rfl; have z1 := (blk_cell HZ2.out 1).trans rfl; have z2 := (blk_cell HZ2.out 2).trans rfl; have z3 := (blk_cell HZ2.out 3).trans rfl; have z4 := (blk_cell HZ2.out 4).trans rfl; have z5 := (blk_cell HZ2.out 5).trans rfl; have z6 := (blk_cell HZ2.out 6).trans rfl; have z7 := (blk_cell HZ2.out 7).trans rfl; have z8 := (blk_cell HZ2.out 8).trans rfl; have z9 := (blk_cell HZ2.out 9).trans rfl; simp only [List.getElem?_toArray, List.getElem?_cons_zero, List.getElem?_cons_succ] at z0 z1 z2 z3 z4 z5 z6 z7 z8 z9; have g0 := blk_frozen HZ2.out 0; have g1 := blk_frozen HZ2.out 1; have g2 := blk_frozen HZ2.out 2; have g3 := blk_frozen HZ2.out 3; have g4 := blk_frozen HZ2.out 4; have g5 := blk_frozen HZ2.out 5; have g6 := blk_frozen HZ2.out 6; have g7 := blk_frozen HZ2.out 7; have g8 := blk_frozen HZ2.out 8; have g9 := blk_frozen HZ2.out 9))
        · go_wp2_with fail
          go_meet
          refine ⟨u2.heap.size, A2, c2, rfl, rfl, ⟨Nat.le_trans HBv.out.size (Nat.le_refl _)⟩, ⟨heap_alloc_new u2 (.cells #[.string t'.nm, .int .i64 t'.rate, .int .i64 t'.burst, .int .i64 t'.level, .int .i64 t'.clock, .int .i64 t'.mx, .slice A2 t'.ser.length c2, .int .i64 t'.acc, .int .i64 t'.rr, .int .i64 t'.rs] 25)⟩, HL2, ⟨Kd.F_mono (Kd.F_alloc (Kd.F_bound HFF.out) (.cells #[.string t'.nm, .int .i64 t'.rate, .int .i64 t'.burst, .int .i64 t'.level, .int .i64 t'.clock, .int .i64 t'.mx, .slice A2 t'.ser.length c2, .int .i64 t'.acc, .int .i64 t'.rr, .int .i64 t'.rs] 25)) (fun k hk => ?_)⟩, ⟨below_alloc HBv.out (.cells #[.string t'.nm, .int .i64 t'.rate, .int .i64 t'.burst, .int .i64 t'.level, .int .i64 t'.clock, .int .i64 t'.mx, .slice A2 t'.ser.length c2, .int .i64 t'.acc, .int .i64 t'.rr, .int .i64 t'.rs] 25)⟩⟩
          rcases hk with ⟨hk | hk, h2⟩
          · exact .inl hk
          · exact .inr ⟨hk, by omega⟩
        · go_wp2_with fail
          go_meet
          exact ⟨u1.heap.size, A2, c2, rfl, rfl, ⟨HBu.out.size⟩, ⟨set10_blk HZ2.out (.string t'.nm) (.int .i64 t'.rate) (.int .i64 t'.burst) (.int .i64 t'.level) (.int .i64 t'.clock) (.int .i64 t'.mx) (.slice A2 t'.ser.length c2) (.int .i64 t'.acc) (.int .i64 t'.rr) (.int .i64 t'.rs)⟩, HL2, ⟨Kd.F_step HFF.out (fun k hk h2 => set10_far (W := u2) (B := u1.heap.size) (k := k) (by rcases hk with hk | hk; (have h3 := HBu.out.size; have h4 := hk.2; omega); exact hk.2) (.string t'.nm) (.int .i64 t'.rate) (.int .i64 t'.burst) (.int .i64 t'.level) (.int .i64 t'.clock) (.int .i64 t'.mx) (.slice A2 t'.ser.length c2) (.int .i64 t'.acc) (.int .i64 t'.rr) (.int .i64 t'.rs))⟩, ⟨set10_below (B := u1.heap.size) HBv.out HBu.out.size (.string t'.nm) (.int .i64 t'.rate) (.int .i64 t'.burst) (.int .i64 t'.level) (.int .i64 t'.clock) (.int .i64 t'.mx) (.slice A2 t'.ser.length c2) (.int .i64 t'.acc) (.int .i64 t'.rr) (.int .i64 t'.rs)⟩⟩
        · go_wp2_with fail
          go_meet
          exact ⟨W1.heap.size, A2, c2, rfl, rfl, ⟨Nat.le_refl _⟩, ⟨set10_blk HZ2.out (.string t'.nm) (.int .i64 t'.rate) (.int .i64 t'.burst) (.int .i64 t'.level) (.int .i64 t'.clock) (.int .i64 t'.mx) (.slice A2 t'.ser.length c2) (.int .i64 t'.acc) (.int .i64 t'.rr) (.int .i64 t'.rs)⟩, HL2, ⟨Kd.F_step HFF.out (fun k hk h2 => set10_far (W := u2) (B := W1.heap.size) (k := k) (by rcases hk with hk | hk; (have h4 := hk.2; omega); exact hk.2) (.string t'.nm) (.int .i64 t'.rate) (.int .i64 t'.burst) (.int .i64 t'.level) (.int .i64 t'.clock) (.int .i64 t'.mx) (.slice A2 t'.ser.length c2) (.int .i64 t'.acc) (.int .i64 t'.rr) (.int .i64 t'.rs))⟩, ⟨set10_below (B := W1.heap.size) HBv.out (Nat.le_refl _) (.string t'.nm) (.int .i64 t'.rate) (.int .i64 t'.burst) (.int .i64 t'.level) (.int .i64 t'.clock) (.int .i64 t'.mx) (.slice A2 t'.ser.length c2) (.int .i64 t'.acc) (.int .i64 t'.rr) (.int .i64 t'.rs)⟩⟩
      case rest =>
        generalize wc = Wc at *
        obtain ⟨BZ, A2, c2, rfl, rfl, HZB, HZc, HL2, HF2, HBx⟩ := hcut
        have HTc := Aside0.mk ((HBx.out.block BT HTX.out).trans HT.out)
        have HXc := Aside0.mk ((HBx.out.block BX HXX.out).trans HX.out)
        have HFc := Aside0.mk ((HBx.out.block BF (heap_lt HFB.out)).trans HFB.out)
        have HBc := Aside0.mk (HB.out.trans (HBx.out.mono HB.out.size))
        have HCTc := Aside0.mk (Kd.C_below (Kd.F_now HF.out) HBx.out)
        have HCFc := Aside0.mk (Kd.C_below HCF1.out HBx.out)
        have HCZc := Aside0.mk (Kd.F_now HF2.out)
        have nb1 : BZ ≠ BT := by have h1 := HZB.out; have h2 := HTX.out; omega
        have nb2 : BT ≠ BZ := fun e => nb1 e.symm
        clear y0 y1 y2 y3 y4 y5 y6 y7 y8 y9 x0 x1 HAD HOP
        obtain ⟨lb, HLB⟩ : ∃ lb, Aside0 ((opS x.se).getD [] = lb) := ⟨_, ⟨rfl⟩⟩
        rw [HLB.out] at HSA
        have hof0 : 0 ≤ offT t ∧ offT t ≤ 1152921504606846976 := by unfold offT; split; (have h1 := HI.out.val.a0; have h2 := HI.out.val.rr0; have h3 := HI.out.val.rs0; split <;> omega); omega
        have HC11 := Aside0.mk (fun W (h : Below Wc.heap.size Wc W) => show Calls Try.prog 17 #[.agg #[.string t'.nm, .int .i64 t'.rate, .int .i64 t'.burst, .int .i64 t'.level, .int .i64 t'.clock, .int .i64 t'.mx, .slice A2 t'.ser.length c2, .int .i64 t'.acc, .int .i64 t'.rr, .int .i64 t'.rs]] W (fun e w' => e = .returned (.int .i64 0) ∧ Below W.heap.size W w') by
          have := QCheck_calls t' HI3.out.small A2 c2 W (Kd.C_below HCZc.out h) HL2.out
          rwa [chkT_val HI3.out.val] at this)
        have HO11 := Aside0.mk (fun W (h : Below Wc.heap.size Wc W) => show Calls Try.prog 19 #[.agg #[.string t'.nm, .int .i64 t'.rate, .int .i64 t'.burst, .int .i64 t'.level, .int .i64 t'.clock, .int .i64 t'.mx, .slice A2 t'.ser.length c2, .int .i64 t'.acc, .int .i64 t'.rr, .int .i64 t'.rs]] W (fun e w' => e = .returned (.int .i64 (offT t + 1)) ∧ Below W.heap.size W w') by
          have := QOffered_calls t' HI3.out.small A2 c2 W (Kd.C_below HCZc.out h) HL2.out
          rwa [HSA.out.off] at this)
        have HO12 := Aside0.mk (fun W (h : Below Wc.heap.size Wc W) => show Calls Try.prog 19 #[.agg #[.string t.nm, .int .i64 t.rate, .int .i64 t.burst, .int .i64 t.level, .int .i64 t.clock, .int .i64 t.mx, .slice A t.ser.length c, .int .i64 t.acc, .int .i64 t.rr, .int .i64 t.rs]] W (fun e w' => e = .returned (.int .i64 (offT t)) ∧ Below W.heap.size W w') from QOffered_calls t HI.out.small A c W (Kd.C_below HCTc.out h) HLC.out)
        have hml : decide (m % 8 < (t'.ser.length : Int)) = false := decide_eq_false (by have h1 := HI3.out.val.len; have h2 := HI3.out.mx; omega)
        have HV0 := Aside0.mk (show Below Wc.heap.size Wc Wc.drew from below_drew (Below.refl _ _))
        have HSM := Aside0.mk (fun l hl => (HI.out.small.ser l hl).1)
        have HSM2 := Aside0.mk (fun l hl => (HI3.out.small.ser l hl).1)
        generalize offT t = of at *
        obtain ⟨hof1, hof2⟩ := hof0
        have y0 := (blk_cell HTc.out 0).trans rfl; have y1 := (blk_cell HTc.out 1).trans rfl; have y2 := (blk_cell HTc.out 2).trans rfl; have y3 := (blk_cell HTc.out 3).trans rfl; have y4 := (blk_cell HTc.out 4).trans rfl; have y5 := (blk_cell HTc.out 5).trans rfl; have y6 := (blk_cell HTc.out 6).trans rfl; have y7 := (blk_cell HTc.out 7).trans rfl; have y8 := (blk_cell HTc.out 8).trans rfl; have y9 := (blk_cell HTc.out 9).trans rfl; simp only [List.getElem?_toArray, List.getElem?_cons_zero, List.getElem?_cons_succ] at y0 y1 y2 y3 y4 y5 y6 y7 y8 y9
        have z0 := (blk_cell HZc.out 0).trans rfl; have z1 := (blk_cell HZc.out 1).trans rfl; have z2 := (blk_cell HZc.out 2).trans rfl; have z3 := (blk_cell HZc.out 3).trans rfl; have z4 := (blk_cell HZc.out 4).trans rfl; have z5 := (blk_cell HZc.out 5).trans rfl; have z6 := (blk_cell HZc.out 6).trans rfl; have z7 := (blk_cell HZc.out 7).trans rfl; have z8 := (blk_cell HZc.out 8).trans rfl; have z9 := (blk_cell HZc.out 9).trans rfl; simp only [List.getElem?_toArray, List.getElem?_cons_zero, List.getElem?_cons_succ] at z0 z1 z2 z3 z4 z5 z6 z7 z8 z9
        go_upto_region 11 with (fail)
        have hwo : IntKind.i64.wrap (of + 1) = of + 1 := by simp [IntKind.wrap, IntKind.signed, IntKind.bits]; omega
        have hwm : IntKind.i64.wrap m = m := by simp [IntKind.wrap, IntKind.signed, IntKind.bits]; omega
        have htm : m.tmod 8 = m % 8 := Int.tmod_eq_emod_of_nonneg hm0
        go_cut [101] (fun s101 wx => s101 = .bool false ∧ Aside0 (Below Wc.heap.size Wc wx))
        case first =>
          obtain ⟨hcd⟩ := HCD
          rcases hcd with hcd | hcd
          · subst hcd
            refine wp_region_held_drew (S := fun w' => w'.cell? ⟨BT, 0, none⟩ = some (.string t.nm) ∧ w'.cell? ⟨BT, 1, none⟩ = some (.int .i64 t.rate) ∧ w'.cell? ⟨BT, 2, none⟩ = some (.int .i64 t.burst) ∧ w'.cell? ⟨BT, 3, none⟩ = some (.int .i64 t.level) ∧ w'.cell? ⟨BT, 4, none⟩ = some (.int .i64 t.clock) ∧ w'.cell? ⟨BT, 5, none⟩ = some (.int .i64 t.mx) ∧ w'.cell? ⟨BT, 6, none⟩ = some (.slice A t.ser.length c) ∧ w'.cell? ⟨BT, 7, none⟩ = some (.int .i64 t.acc) ∧ w'.cell? ⟨BT, 8, none⟩ = some (.int .i64 t.rr) ∧ w'.cell? ⟨BT, 9, none⟩ = some (.int .i64 t.rs) ∧ w'.cell? ⟨BZ, 0, none⟩ = some (.string t'.nm) ∧ w'.cell? ⟨BZ, 1, none⟩ = some (.int .i64 t'.rate) ∧ w'.cell? ⟨BZ, 2, none⟩ = some (.int .i64 t'.burst) ∧ w'.cell? ⟨BZ, 3, none⟩ = some (.int .i64 t'.level) ∧ w'.cell? ⟨BZ, 4, none⟩ = some (.int .i64 t'.clock) ∧ w'.cell? ⟨BZ, 5, none⟩ = some (.int .i64 t'.mx) ∧ w'.cell? ⟨BZ, 6, none⟩ = some (.slice A2 t'.ser.length c2) ∧ w'.cell? ⟨BZ, 7, none⟩ = some (.int .i64 t'.acc) ∧ w'.cell? ⟨BZ, 8, none⟩ = some (.int .i64 t'.rr) ∧ w'.cell? ⟨BZ, 9, none⟩ = some (.int .i64 t'.rs)) (by kernel_rfl) ?_ (fun hHeld => ?_)
            · (try dsimp only); go_keep
            refine wpAnyH_take (i := 0) (v := ?_) rfl (by kernel_rfl) (by kernel_rfl) (by kernel_rfl) (fun _ _ _ h => h) (Or.inl ⟨by rfl, ?_⟩) hHeld ?_
            rotate_left
            · intro w' hSw; (try dsimp only at hSw); go_simp; (try with_reducible rfl)
            try simp only [Act.put, List.setIfInBounds_toArray, List.set_cons_zero, List.set_cons_succ, List.getElem_toArray, List.getElem_cons_zero, List.getElem_cons_succ]
            refine wpAnyH_take (i := 1) (v := ?_) rfl (by kernel_rfl) (by kernel_rfl) (by kernel_rfl) (fun _ _ _ h => h) (Or.inl ⟨by rfl, ?_⟩) hHeld ?_
            rotate_left
            · intro w' hSw; (try dsimp only at hSw); go_simp; (try with_reducible rfl)
            try simp only [Act.put, List.setIfInBounds_toArray, List.set_cons_zero, List.set_cons_succ, List.getElem_toArray, List.getElem_cons_zero, List.getElem_cons_succ]
            refine wpAnyH_take (i := 2) (v := ?_) rfl (by kernel_rfl) (by kernel_rfl) (by kernel_rfl) (fun _ _ _ h => h) (Or.inl ⟨by rfl, ?_⟩) hHeld ?_
            rotate_left
            · intro w' hSw; (try dsimp only at hSw); go_simp; (try with_reducible rfl)
            try simp only [Act.put, List.setIfInBounds_toArray, List.set_cons_zero, List.set_cons_succ, List.getElem_toArray, List.getElem_cons_zero, List.getElem_cons_succ]
            refine wpAnyH_take (i := 3) (v := ?_) rfl (by kernel_rfl) (by kernel_rfl) (by kernel_rfl) (fun _ _ _ h => h) (Or.inl ⟨by rfl, ?_⟩) hHeld ?_
            rotate_left
            · intro w' hSw; (try dsimp only at hSw); go_simp; (try with_reducible rfl)
            try simp only [Act.put, List.setIfInBounds_toArray, List.set_cons_zero, List.set_cons_succ, List.getElem_toArray, List.getElem_cons_zero, List.getElem_cons_succ]
            refine wpAnyH_take (i := 4) (v := ?_) rfl (by kernel_rfl) (by kernel_rfl) (by kernel_rfl) (fun _ _ _ h => h) (Or.inl ⟨by rfl, ?_⟩) hHeld ?_
            rotate_left
            · intro w' hSw; (try dsimp only at hSw); go_simp; (try with_reducible rfl)
            try simp only [Act.put, List.setIfInBounds_toArray, List.set_cons_zero, List.set_cons_succ, List.getElem_toArray, List.getElem_cons_zero, List.getElem_cons_succ]
            refine wpAnyH_take (i := 5) (v := ?_) rfl (by kernel_rfl) (by kernel_rfl) (by kernel_rfl) (fun _ _ _ h => h) (Or.inl ⟨by rfl, ?_⟩) hHeld ?_
            rotate_left
            · intro w' hSw; (try dsimp only at hSw); go_simp; (try with_reducible rfl)
            try simp only [Act.put, List.setIfInBounds_toArray, List.set_cons_zero, List.set_cons_succ, List.getElem_toArray, List.getElem_cons_zero, List.getElem_cons_succ]
            refine wpAnyH_take (i := 6) (v := undef) rfl (by kernel_rfl) (by kernel_rfl) (by kernel_rfl) (fun _ _ _ h => h) (Or.inr ⟨by rfl, rfl⟩) hHeld ?_
            try simp only [Act.put, List.setIfInBounds_toArray, List.set_cons_zero, List.set_cons_succ, List.getElem_toArray, List.getElem_cons_zero, List.getElem_cons_succ]
            refine wpAnyH_take (i := 7) (v := undef) rfl (by kernel_rfl) (by kernel_rfl) (by kernel_rfl) (fun _ _ _ h => h) (Or.inr ⟨by rfl, rfl⟩) hHeld ?_
            try simp only [Act.put, List.setIfInBounds_toArray, List.set_cons_zero, List.set_cons_succ, List.getElem_toArray, List.getElem_cons_zero, List.getElem_cons_succ]
            refine wpAnyH_take (i := 8) (v := ?_) rfl (by kernel_rfl) (by kernel_rfl) (by kernel_rfl) (fun _ _ _ h => h) (Or.inl ⟨by rfl, ?_⟩) hHeld ?_
            rotate_left
            · intro w' hSw; (try dsimp only at hSw); go_simp; (try with_reducible rfl)
            try simp only [Act.put, List.setIfInBounds_toArray, List.set_cons_zero, List.set_cons_succ, List.getElem_toArray, List.getElem_cons_zero, List.getElem_cons_succ]
            refine wpAnyH_take (i := 9) (v := ?_) rfl (by kernel_rfl) (by kernel_rfl) (by kernel_rfl) (fun _ _ _ h => h) (Or.inl ⟨by rfl, ?_⟩) hHeld ?_
            rotate_left
            · intro w' hSw; (try dsimp only at hSw); go_simp; (try with_reducible rfl)
            try simp only [Act.put, List.setIfInBounds_toArray, List.set_cons_zero, List.set_cons_succ, List.getElem_toArray, List.getElem_cons_zero, List.getElem_cons_succ]
            refine wpAnyH_take (i := 10) (v := ?_) rfl (by kernel_rfl) (by kernel_rfl) (by kernel_rfl) (fun _ _ _ h => h) (Or.inl ⟨by rfl, ?_⟩) hHeld ?_
            rotate_left
            · intro w' hSw; (try dsimp only at hSw); go_simp; (try with_reducible rfl)
            try simp only [Act.put, List.setIfInBounds_toArray, List.set_cons_zero, List.set_cons_succ, List.getElem_toArray, List.getElem_cons_zero, List.getElem_cons_succ]
            refine wpAnyH_take (i := 11) (v := ?_) rfl (by kernel_rfl) (by kernel_rfl) (by kernel_rfl) (fun _ _ _ h => h) (Or.inl ⟨by rfl, ?_⟩) hHeld ?_
            rotate_left
            · intro w' hSw; (try dsimp only at hSw); go_simp; (try with_reducible rfl)
            try simp only [Act.put, List.setIfInBounds_toArray, List.set_cons_zero, List.set_cons_succ, List.getElem_toArray, List.getElem_cons_zero, List.getElem_cons_succ]
            refine wpAnyH_ready (rs := [12]) (by kernel_rfl) (by simp) ?_
            refine AllReadyH.cons rfl (fun K hK => ?_) AllReadyH.nil
            go_simp
            (go_at_call 17; (with_reducible refine (HC11.out _ (by exact HV0.out)).mono ?_); rintro e v1 ⟨rfl, hb⟩; have HV1 := Aside0.mk (HV0.out.trans (hb.mono HV0.out.size)); clear hb; clear y0 y1 y2 y3 y4 y5 y6 y7 y8 y9; clear z0 z1 z2 z3 z4 z5 z6 z7 z8 z9; have HTv := Aside0.mk ((HV1.out.block BT (heap_lt HTc.out)).trans HTc.out); have HZv := Aside0.mk ((HV1.out.block BZ (heap_lt HZc.out)).trans HZc.out); have y0 := (blk_cell HTv.out 0).trans rfl; have y1 := (blk_cell HTv.out 1).trans rfl; have y2 := (blk_cell HTv.out 2).trans rfl; have y3 := (blk_cell HTv.out 3).trans rfl; have y4 := (blk_cell HTv.out 4).trans rfl; have y5 := (blk_cell HTv.out 5).trans rfl; have y6 := (blk_cell HTv.out 6).trans rfl; have y7 := (blk_cell HTv.out 7).trans rfl; have y8 := (blk_cell HTv.out 8).trans rfl; have y9 := (blk_cell HTv.out 9).trans rfl; simp only [List.getElem?_toArray, List.getElem?_cons_zero, List.getElem?_cons_succ] at y0 y1 y2 y3 y4 y5 y6 y7 y8 y9; have z0 := (blk_cell HZv.out 0).trans rfl; have z1 := (blk_cell HZv.out 1).trans rfl; have z2 := (blk_cell HZv.out 2).trans rfl; have z3 := (blk_cell HZv.out 3).trans rfl; have z4 := (blk_cell HZv.out 4).trans rfl; have z5 := (blk_cell HZv.out 5).trans rfl; have z6 := (blk_cell HZv.out 6).trans rfl; have z7 := (blk_cell HZv.out 7).trans rfl; have z8 := (blk_cell HZv.out 8).trans rfl; have z9 := (blk_cell HZv.out 9).trans rfl; simp only [List.getElem?_toArray, List.getElem?_cons_zero, List.getElem?_cons_succ] at z0 z1 z2 z3 z4 z5 z6 z7 z8 z9)
            (try go_wp2_with fail)
            clear hHeld
            refine hK.out _ _ ?_ (fun hHeld => ?_)
            · (try dsimp only); go_keep
            clear hK K
            try simp only [Act.put, List.setIfInBounds_toArray, List.set_cons_zero, List.set_cons_succ, List.getElem_toArray, List.getElem_cons_zero, List.getElem_cons_succ]
            refine wpAnyH_take (i := 13) (v := ?_) rfl (by kernel_rfl) (by kernel_rfl) (by kernel_rfl) (fun _ _ _ h => h) (Or.inl ⟨by rfl, ?_⟩) hHeld ?_
            rotate_left
            · intro w' hSw; (try dsimp only at hSw); go_simp; (try with_reducible rfl)
            try simp only [Act.put, List.setIfInBounds_toArray, List.set_cons_zero, List.set_cons_succ, List.getElem_toArray, List.getElem_cons_zero, List.getElem_cons_succ]
            refine wpAnyH_take (i := 14) (v := ?_) rfl (by kernel_rfl) (by kernel_rfl) (by kernel_rfl) (fun _ _ _ h => h) (Or.inl ⟨by rfl, ?_⟩) hHeld ?_
            rotate_left
            · intro w' hSw; (try dsimp only at hSw); go_simp; (try with_reducible rfl)
            try simp only [Act.put, List.setIfInBounds_toArray, List.set_cons_zero, List.set_cons_succ, List.getElem_toArray, List.getElem_cons_zero, List.getElem_cons_succ]
            refine wpAnyH_take (i := 15) (v := ?_) rfl (by kernel_rfl) (by kernel_rfl) (by kernel_rfl) (fun _ _ _ h => h) (Or.inl ⟨by rfl, ?_⟩) hHeld ?_
            rotate_left
            · intro w' hSw; (try dsimp only at hSw); go_simp; (try with_reducible rfl)
            try simp only [Act.put, List.setIfInBounds_toArray, List.set_cons_zero, List.set_cons_succ, List.getElem_toArray, List.getElem_cons_zero, List.getElem_cons_succ]
            refine wpAnyH_take (i := 16) (v := ?_) rfl (by kernel_rfl) (by kernel_rfl) (by kernel_rfl) (fun _ _ _ h => h) (Or.inl ⟨by rfl, ?_⟩) hHeld ?_
            rotate_left
            · intro w' hSw; (try dsimp only at hSw); go_simp; (try with_reducible rfl)
            try simp only [Act.put, List.setIfInBounds_toArray, List.set_cons_zero, List.set_cons_succ, List.getElem_toArray, List.getElem_cons_zero, List.getElem_cons_succ]
            refine wpAnyH_take (i := 18) (v := ?_) rfl (by kernel_rfl) (by kernel_rfl) (by kernel_rfl) (fun _ _ _ h => h) (Or.inl ⟨by rfl, ?_⟩) hHeld ?_
            rotate_left
            · intro w' hSw; (try dsimp only at hSw); go_simp; (try with_reducible rfl)
            try simp only [Act.put, List.setIfInBounds_toArray, List.set_cons_zero, List.set_cons_succ, List.getElem_toArray, List.getElem_cons_zero, List.getElem_cons_succ]
            refine wpAnyH_ready (rs := [17]) (by kernel_rfl) (by simp) ?_
            refine AllReadyH.cons rfl (fun K hK => ?_) AllReadyH.nil
            go_simp
            (go_at_call 19; (with_reducible refine (HO11.out _ (by exact HV1.out)).mono ?_); rintro e v2 ⟨rfl, hb⟩; have HV2 := Aside0.mk (HV1.out.trans (hb.mono HV1.out.size)); clear hb; clear y0 y1 y2 y3 y4 y5 y6 y7 y8 y9; clear z0 z1 z2 z3 z4 z5 z6 z7 z8 z9; have HTv := Aside0.mk ((HV2.out.block BT (heap_lt HTc.out)).trans HTc.out); have HZv := Aside0.mk ((HV2.out.block BZ (heap_lt HZc.out)).trans HZc.out); have y0 := (blk_cell HTv.out 0).trans rfl; have y1 := (blk_cell HTv.out 1).trans rfl; have y2 := (blk_cell HTv.out 2).trans rfl; have y3 := (blk_cell HTv.out 3).trans rfl; have y4 := (blk_cell HTv.out 4).trans rfl; have y5 := (blk_cell HTv.out 5).trans rfl; have y6 := (blk_cell HTv.out 6).trans rfl; have y7 := (blk_cell HTv.out 7).trans rfl; have y8 := (blk_cell HTv.out 8).trans rfl; have y9 := (blk_cell HTv.out 9).trans rfl; simp only [List.getElem?_toArray, List.getElem?_cons_zero, List.getElem?_cons_succ] at y0 y1 y2 y3 y4 y5 y6 y7 y8 y9; have z0 := (blk_cell HZv.out 0).trans rfl; have z1 := (blk_cell HZv.out 1).trans rfl; have z2 := (blk_cell HZv.out 2).trans rfl; have z3 := (blk_cell HZv.out 3).trans rfl; have z4 := (blk_cell HZv.out 4).trans rfl; have z5 := (blk_cell HZv.out 5).trans rfl; have z6 := (blk_cell HZv.out 6).trans rfl; have z7 := (blk_cell HZv.out 7).trans rfl; have z8 := (blk_cell HZv.out 8).trans rfl; have z9 := (blk_cell HZv.out 9).trans rfl; simp only [List.getElem?_toArray, List.getElem?_cons_zero, List.getElem?_cons_succ] at z0 z1 z2 z3 z4 z5 z6 z7 z8 z9)
            (try go_wp2_with fail)
            clear hHeld
            refine hK.out _ _ ?_ (fun hHeld => ?_)
            · (try dsimp only); go_keep
            clear hK K
            try simp only [Act.put, List.setIfInBounds_toArray, List.set_cons_zero, List.set_cons_succ, List.getElem_toArray, List.getElem_cons_zero, List.getElem_cons_succ]
            refine wpAnyH_ready (rs := [19]) (by kernel_rfl) (by simp) ?_
            refine AllReadyH.cons rfl (fun K hK => ?_) AllReadyH.nil
            go_simp
            (go_at_call 19; (with_reducible refine (HO12.out _ (by exact HV2.out)).mono ?_); rintro e v3 ⟨rfl, hb⟩; have HV3 := Aside0.mk (HV2.out.trans (hb.mono HV2.out.size)); clear hb; clear y0 y1 y2 y3 y4 y5 y6 y7 y8 y9; clear z0 z1 z2 z3 z4 z5 z6 z7 z8 z9; have HTv := Aside0.mk ((HV3.out.block BT (heap_lt HTc.out)).trans HTc.out); have HZv := Aside0.mk ((HV3.out.block BZ (heap_lt HZc.out)).trans HZc.out); have y0 := (blk_cell HTv.out 0).trans rfl; have y1 := (blk_cell HTv.out 1).trans rfl; have y2 := (blk_cell HTv.out 2).trans rfl; have y3 := (blk_cell HTv.out 3).trans rfl; have y4 := (blk_cell HTv.out 4).trans rfl; have y5 := (blk_cell HTv.out 5).trans rfl; have y6 := (blk_cell HTv.out 6).trans rfl; have y7 := (blk_cell HTv.out 7).trans rfl; have y8 := (blk_cell HTv.out 8).trans rfl; have y9 := (blk_cell HTv.out 9).trans rfl; simp only [List.getElem?_toArray, List.getElem?_cons_zero, List.getElem?_cons_succ] at y0 y1 y2 y3 y4 y5 y6 y7 y8 y9; have z0 := (blk_cell HZv.out 0).trans rfl; have z1 := (blk_cell HZv.out 1).trans rfl; have z2 := (blk_cell HZv.out 2).trans rfl; have z3 := (blk_cell HZv.out 3).trans rfl; have z4 := (blk_cell HZv.out 4).trans rfl; have z5 := (blk_cell HZv.out 5).trans rfl; have z6 := (blk_cell HZv.out 6).trans rfl; have z7 := (blk_cell HZv.out 7).trans rfl; have z8 := (blk_cell HZv.out 8).trans rfl; have z9 := (blk_cell HZv.out 9).trans rfl; simp only [List.getElem?_toArray, List.getElem?_cons_zero, List.getElem?_cons_succ] at z0 z1 z2 z3 z4 z5 z6 z7 z8 z9)
            (try go_wp2_with fail)
            clear hHeld
            refine hK.out _ _ ?_ (fun hHeld => ?_)
            · (try dsimp only); go_keep
            clear hK K
            try simp only [Act.put, List.setIfInBounds_toArray, List.set_cons_zero, List.set_cons_succ, List.getElem_toArray, List.getElem_cons_zero, List.getElem_cons_succ]
            refine wpAnyH_take (i := 20) (v := ?_) rfl (by kernel_rfl) (by kernel_rfl) (by kernel_rfl) (fun _ _ _ h => h) (Or.inl ⟨by rfl, ?_⟩) hHeld ?_
            rotate_left
            · intro w' hSw; (try dsimp only at hSw); go_simp; (try with_reducible rfl)
            try simp only [Act.put, List.setIfInBounds_toArray, List.set_cons_zero, List.set_cons_succ, List.getElem_toArray, List.getElem_cons_zero, List.getElem_cons_succ]
            refine wpAnyH_take (i := 21) (v := ?_) rfl (by kernel_rfl) (by kernel_rfl) (by kernel_rfl) (fun _ _ _ h => h) (Or.inl ⟨by rfl, ?_⟩) hHeld ?_
            rotate_left
            · intro w' hSw; (try dsimp only at hSw); go_simp; (try with_reducible rfl)
            try simp only [Act.put, List.setIfInBounds_toArray, List.set_cons_zero, List.set_cons_succ, List.getElem_toArray, List.getElem_cons_zero, List.getElem_cons_succ]
            refine wpAnyH_take (i := 22) (v := ?_) rfl (by kernel_rfl) (by kernel_rfl) (by kernel_rfl) (fun _ _ _ h => h) (Or.inl ⟨by rfl, ?_⟩) hHeld ?_
            rotate_left
            · intro w' hSw; (try dsimp only at hSw); go_simp; (try with_reducible rfl)
            try simp only [Act.put, List.setIfInBounds_toArray, List.set_cons_zero, List.set_cons_succ, List.getElem_toArray, List.getElem_cons_zero, List.getElem_cons_succ]
            refine wpAnyH_take (i := 23) (v := ?_) rfl (by kernel_rfl) (by kernel_rfl) (by kernel_rfl) (fun _ _ _ h => h) (Or.inl ⟨by rfl, ?_⟩) hHeld ?_
            rotate_left
            · intro w' hSw; (try dsimp only at hSw); go_simp; (try with_reducible rfl)
            try simp only [Act.put, List.setIfInBounds_toArray, List.set_cons_zero, List.set_cons_succ, List.getElem_toArray, List.getElem_cons_zero, List.getElem_cons_succ]
            refine wpAnyH_take (i := 24) (v := ?_) rfl (by kernel_rfl) (by kernel_rfl) (by kernel_rfl) (fun _ _ _ h => h) (Or.inl ⟨by rfl, ?_⟩) hHeld ?_
            rotate_left
            · intro w' hSw; (try dsimp only at hSw); go_simp; (try with_reducible rfl)
            try simp only [Act.put, List.setIfInBounds_toArray, List.set_cons_zero, List.set_cons_succ, List.getElem_toArray, List.getElem_cons_zero, List.getElem_cons_succ]
            refine wpAnyH_take (i := 25) (v := ?_) rfl (by kernel_rfl) (by kernel_rfl) (by kernel_rfl) (fun _ _ _ h => h) (Or.inl ⟨by rfl, ?_⟩) hHeld ?_
            rotate_left
            · intro w' hSw; (try dsimp only at hSw); go_simp; (try with_reducible rfl)
            try simp only [Act.put, List.setIfInBounds_toArray, List.set_cons_zero, List.set_cons_succ, List.getElem_toArray, List.getElem_cons_zero, List.getElem_cons_succ]
            refine wpAnyH_take (i := 26) (v := ?_) rfl (by kernel_rfl) (by kernel_rfl) (by kernel_rfl) (fun _ _ _ h => h) (Or.inl ⟨by rfl, ?_⟩) hHeld ?_
            rotate_left
            · intro w' hSw; (try dsimp only at hSw); go_simp; (try with_reducible rfl)
            try simp only [Act.put, List.setIfInBounds_toArray, List.set_cons_zero, List.set_cons_succ, List.getElem_toArray, List.getElem_cons_zero, List.getElem_cons_succ]
            refine wpAnyH_take (i := 27) (v := ?_) rfl (by kernel_rfl) (by kernel_rfl) (by kernel_rfl) (fun _ _ _ h => h) (Or.inl ⟨by rfl, ?_⟩) hHeld ?_
            rotate_left
            · intro w' hSw; (try dsimp only at hSw); go_simp; (try with_reducible rfl)
            try simp only [Act.put, List.setIfInBounds_toArray, List.set_cons_zero, List.set_cons_succ, List.getElem_toArray, List.getElem_cons_zero, List.getElem_cons_succ]
            refine wpAnyH_take (i := 28) (v := ?_) rfl (by kernel_rfl) (by kernel_rfl) (by kernel_rfl) (fun _ _ _ h => h) (Or.inl ⟨by rfl, ?_⟩) hHeld ?_
            rotate_left
            · intro w' hSw; (try dsimp only at hSw); go_simp; (try with_reducible rfl)
            try simp only [Act.put, List.setIfInBounds_toArray, List.set_cons_zero, List.set_cons_succ, List.getElem_toArray, List.getElem_cons_zero, List.getElem_cons_succ]
            refine wpAnyH_take (i := 29) (v := ?_) rfl (by kernel_rfl) (by kernel_rfl) (by kernel_rfl) (fun _ _ _ h => h) (Or.inl ⟨by rfl, ?_⟩) hHeld ?_
            rotate_left
            · intro w' hSw; (try dsimp only at hSw); go_simp; (try with_reducible rfl)
            try simp only [Act.put, List.setIfInBounds_toArray, List.set_cons_zero, List.set_cons_succ, List.getElem_toArray, List.getElem_cons_zero, List.getElem_cons_succ]
            refine wpAnyH_take (i := 30) (v := ?_) rfl (by kernel_rfl) (by kernel_rfl) (by kernel_rfl) (fun _ _ _ h => h) (Or.inl ⟨by rfl, ?_⟩) hHeld ?_
            rotate_left
            · intro w' hSw; (try dsimp only at hSw); go_simp; (try with_reducible rfl)
            try simp only [Act.put, List.setIfInBounds_toArray, List.set_cons_zero, List.set_cons_succ, List.getElem_toArray, List.getElem_cons_zero, List.getElem_cons_succ]
            refine wpAnyH_take (i := 31) (v := ?_) rfl (by kernel_rfl) (by kernel_rfl) (by kernel_rfl) (fun _ _ _ h => h) (Or.inl ⟨by rfl, ?_⟩) hHeld ?_
            rotate_left
            · intro w' hSw; (try dsimp only at hSw); go_simp; (try with_reducible rfl)
            try simp only [Act.put, List.setIfInBounds_toArray, List.set_cons_zero, List.set_cons_succ, List.getElem_toArray, List.getElem_cons_zero, List.getElem_cons_succ]
            refine wpAnyH_done (by kernel_rfl) ?_ _
            go_wp2_with fail
            go_meet
            exact ⟨rfl, HV3⟩
          · subst hcd
            go_region_held3 (fun w' => w'.cell? ⟨BT, 0, none⟩ = some (.string t.nm) ∧ w'.cell? ⟨BT, 1, none⟩ = some (.int .i64 t.rate) ∧ w'.cell? ⟨BT, 2, none⟩ = some (.int .i64 t.burst) ∧ w'.cell? ⟨BT, 3, none⟩ = some (.int .i64 t.level) ∧ w'.cell? ⟨BT, 4, none⟩ = some (.int .i64 t.clock) ∧ w'.cell? ⟨BT, 5, none⟩ = some (.int .i64 t.mx) ∧ w'.cell? ⟨BT, 6, none⟩ = some (.slice A t.ser.length c) ∧ w'.cell? ⟨BT, 7, none⟩ = some (.int .i64 t.acc) ∧ w'.cell? ⟨BT, 8, none⟩ = some (.int .i64 t.rr) ∧ w'.cell? ⟨BT, 9, none⟩ = some (.int .i64 t.rs) ∧ w'.cell? ⟨BZ, 0, none⟩ = some (.string t'.nm) ∧ w'.cell? ⟨BZ, 1, none⟩ = some (.int .i64 t'.rate) ∧ w'.cell? ⟨BZ, 2, none⟩ = some (.int .i64 t'.burst) ∧ w'.cell? ⟨BZ, 3, none⟩ = some (.int .i64 t'.level) ∧ w'.cell? ⟨BZ, 4, none⟩ = some (.int .i64 t'.clock) ∧ w'.cell? ⟨BZ, 5, none⟩ = some (.int .i64 t'.mx) ∧ w'.cell? ⟨BZ, 6, none⟩ = some (.slice A2 t'.ser.length c2) ∧ w'.cell? ⟨BZ, 7, none⟩ = some (.int .i64 t'.acc) ∧ w'.cell? ⟨BZ, 8, none⟩ = some (.int .i64 t'.rr) ∧ w'.cell? ⟨BZ, 9, none⟩ = some (.int .i64 t'.rs)) (go_keep)
              (first
              | (go_at_call 17; (with_reducible refine (HC11.out _ (by exact HV0.out)).mono ?_); rintro e v1 ⟨rfl, hb⟩; have HV1 := Aside0.mk (HV0.out.trans (hb.mono HV0.out.size)); clear hb; clear y0 y1 y2 y3 y4 y5 y6 y7 y8 y9; clear z0 z1 z2 z3 z4 z5 z6 z7 z8 z9; have HTv := Aside0.mk ((HV1.out.block BT (heap_lt HTc.out)).trans HTc.out); have HZv := Aside0.mk ((HV1.out.block BZ (heap_lt HZc.out)).trans HZc.out); have y0 := (blk_cell HTv.out 0).trans rfl; have y1 := (blk_cell HTv.out 1).trans rfl; have y2 := (blk_cell HTv.out 2).trans rfl; have y3 := (blk_cell HTv.out 3).trans rfl; have y4 := (blk_cell HTv.out 4).trans rfl; have y5 := (blk_cell HTv.out 5).trans rfl; have y6 := (blk_cell HTv.out 6).trans rfl; have y7 := (blk_cell HTv.out 7).trans rfl; have y8 := (blk_cell HTv.out 8).trans rfl; have y9 := (blk_cell HTv.out 9).trans rfl; simp only [List.getElem?_toArray, List.getElem?_cons_zero, List.getElem?_cons_succ] at y0 y1 y2 y3 y4 y5 y6 y7 y8 y9; have z0 := (blk_cell HZv.out 0).trans rfl; have z1 := (blk_cell HZv.out 1).trans rfl; have z2 := (blk_cell HZv.out 2).trans rfl; have z3 := (blk_cell HZv.out 3).trans rfl; have z4 := (blk_cell HZv.out 4).trans rfl; have z5 := (blk_cell HZv.out 5).trans rfl; have z6 := (blk_cell HZv.out 6).trans rfl; have z7 := (blk_cell HZv.out 7).trans rfl; have z8 := (blk_cell HZv.out 8).trans rfl; have z9 := (blk_cell HZv.out 9).trans rfl; simp only [List.getElem?_toArray, List.getElem?_cons_zero, List.getElem?_cons_succ] at z0 z1 z2 z3 z4 z5 z6 z7 z8 z9) | (go_at_call 19; (with_reducible refine (HO11.out _ (by exact HV1.out)).mono ?_); rintro e v2 ⟨rfl, hb⟩; have HV2 := Aside0.mk (HV1.out.trans (hb.mono HV1.out.size)); clear hb; clear y0 y1 y2 y3 y4 y5 y6 y7 y8 y9; clear z0 z1 z2 z3 z4 z5 z6 z7 z8 z9; have HTv := Aside0.mk ((HV2.out.block BT (heap_lt HTc.out)).trans HTc.out); have HZv := Aside0.mk ((HV2.out.block BZ (heap_lt HZc.out)).trans HZc.out); have y0 := (blk_cell HTv.out 0).trans rfl; have y1 := (blk_cell HTv.out 1).trans rfl; have y2 := (blk_cell HTv.out 2).trans rfl; have y3 := (blk_cell HTv.out 3).trans rfl; have y4 := (blk_cell HTv.out 4).trans rfl; have y5 := (blk_cell HTv.out 5).trans rfl; have y6 := (blk_cell HTv.out 6).trans rfl; have y7 := (blk_cell HTv.out 7).trans rfl; have y8 := (blk_cell HTv.out 8).trans rfl; have y9 := (blk_cell HTv.out 9).trans rfl; simp only [List.getElem?_toArray, List.getElem?_cons_zero, List.getElem?_cons_succ] at y0 y1 y2 y3 y4 y5 y6 y7 y8 y9; have z0 := (blk_cell HZv.out 0).trans rfl; have z1 := (blk_cell HZv.out 1).trans rfl; have z2 := (blk_cell HZv.out 2).trans rfl; have z3 := (blk_cell HZv.out 3).trans rfl; have z4 := (blk_cell HZv.out 4).trans rfl; have z5 := (blk_cell HZv.out 5).trans rfl; have z6 := (blk_cell HZv.out 6).trans rfl; have z7 := (blk_cell HZv.out 7).trans rfl; have z8 := (blk_cell HZv.out 8).trans rfl; have z9 := (blk_cell HZv.out 9).trans rfl; simp only [List.getElem?_toArray, List.getElem?_cons_zero, List.getElem?_cons_succ] at z0 z1 z2 z3 z4 z5 z6 z7 z8 z9) | (go_at_call 19; (with_reducible refine (HO12.out _ (by exact HV2.out)).mono ?_); rintro e v3 ⟨rfl, hb⟩; have HV3 := Aside0.mk (HV2.out.trans (hb.mono HV2.out.size)); clear hb; clear y0 y1 y2 y3 y4 y5 y6 y7 y8 y9; clear z0 z1 z2 z3 z4 z5 z6 z7 z8 z9; have HTv := Aside0.mk ((HV3.out.block BT (heap_lt HTc.out)).trans HTc.out); have HZv := Aside0.mk ((HV3.out.block BZ (heap_lt HZc.out)).trans HZc.out); have y0 := (blk_cell HTv.out 0).trans rfl; have y1 := (blk_cell HTv.out 1).trans rfl; have y2 := (blk_cell HTv.out 2).trans rfl; have y3 := (blk_cell HTv.out 3).trans rfl; have y4 := (blk_cell HTv.out 4).trans rfl; have y5 := (blk_cell HTv.out 5).trans rfl; have y6 := (blk_cell HTv.out 6).trans rfl; have y7 := (blk_cell HTv.out 7).trans rfl; have y8 := (blk_cell HTv.out 8).trans rfl; have y9 := (blk_cell HTv.out 9).trans rfl; simp only [List.getElem?_toArray, List.getElem?_cons_zero, List.getElem?_cons_succ] at y0 y1 y2 y3 y4 y5 y6 y7 y8 y9; have z0 := (blk_cell HZv.out 0).trans rfl; have z1 := (blk_cell HZv.out 1).trans rfl; have z2 := (blk_cell HZv.out 2).trans rfl; have z3 := (blk_cell HZv.out 3).trans rfl; have z4 := (blk_cell HZv.out 4).trans rfl; have z5 := (blk_cell HZv.out 5).trans rfl; have z6 := (blk_cell HZv.out 6).trans rfl; have z7 := (blk_cell HZv.out 7).trans rfl; have z8 := (blk_cell HZv.out 8).trans rfl; have z9 := (blk_cell HZv.out 9).trans rfl; simp only [List.getElem?_toArray, List.getElem?_cons_zero, List.getElem?_cons_succ] at z0 z1 z2 z3 z4 z5 z6 z7 z8 z9))
            go_wp2_with fail
            go_meet
            exact ⟨rfl, HV3⟩
        case rest =>
          obtain ⟨rfl, HV3⟩ := hcut
          clear hwo htm hwm hml y0 y1 y2 y3 y4 y5 y6 y7 y8 y9 z0 z1 z2 z3 z4 z5 z6 z7 z8 z9 HC11 HO11 HO12 HV0
          generalize wc = Wd at *
          go_upto_region 13 with (fail)
          have HXd := Aside0.mk ((HV3.out.block BX (heap_lt HXc.out)).trans HXc.out)
          have x0 := (blk_cell HXd.out 0).trans rfl; have x1 := (blk_cell HXd.out 1).trans rfl; simp only [List.getElem?_toArray, List.getElem?_cons_zero, List.getElem?_cons_succ] at x0 x1
          go_cut [18] (fun s18 wx => ∃ (BL : Nat) (AL : Option Addr), s18 = .pointer (some ⟨BL, 0, none⟩) ∧ Aside0 (wx.heap[BL]? = some (.cells #[.slice AL lb.length lb.length] 35 (0, 0))) ∧ Aside0 (Kd.C k72 wx AL lb.length lb) ∧ Aside0 (Below Wd.heap.size Wd wx))
          case first =>
            by_cases hs : x.se = 0
            · have HOL := Aside0.mk (fun W => show Calls Try.prog 11 #[.agg #[.int .u16 x.af, .int .u8 x.se]] W (fun e w' => e = .returned (.agg #[.int .i64 4, .slice none 0 0, .int .i64 0, .int .i64 0, .int .i64 0, .int .i64 0, .int .i64 0, .int .i64 0, .int .i64 0, .int .i64 0, .int .i64 0, .slice none 0 0, .int .i64 1, .slice none 0 0, .string ⟨#[]⟩, .slice none 0 0, .int .i64 0, .int .i64 0, .int .i64 0, .int .i64 0, .string ⟨#[]⟩, .string ⟨#[]⟩, .int .i64 0, .int .i64 0, .int .i64 0, .slice none 0 0, .slice none 0 0, .int .i64 0, .slice none 0 0, .slice none 0 0, .slice none 0 0, .int .i64 0, .int .i64 0, .int .i64 0, .int .i64 0]) ∧ Below W.heap.size W w') by rw [hs]; exact op_log x.af W)
              obtain rfl : lb = [] := by rw [← HLB.out, opS, if_pos hs]; rfl
              clear hs
              go_wp2_with (first | (go_at_call 11; (with_reducible refine (HOL.out _).mono ?_); rintro e w2 ⟨rfl, hb⟩; have HB2 := Aside0.mk hb; have hfr := run_field1 #[.int .i64 4, .slice none 0 0, .int .i64 0, .int .i64 0, .int .i64 0, .int .i64 0, .int .i64 0, .int .i64 0, .int .i64 0, .int .i64 0, .int .i64 0, .slice none 0 0, .int .i64 1, .slice none 0 0, .string ⟨#[]⟩, .slice none 0 0, .int .i64 0, .int .i64 0, .int .i64 0, .int .i64 0, .string ⟨#[]⟩, .string ⟨#[]⟩, .int .i64 0, .int .i64 0, .int .i64 0, .slice none 0 0, .slice none 0 0, .int .i64 0, .slice none 0 0, .slice none 0 0, .slice none 0 0, .int .i64 0, .int .i64 0, .int .i64 0, .int .i64 0] (.slice none 0 0) rfl; clear hb x0 x1))
              go_meet
              exact ⟨w2.heap.size, none, rfl, ⟨heap_alloc_new w2 (.cells #[.slice none 0 0] 35)⟩, ⟨Kd.C_nil _ _⟩, ⟨below_alloc HB2.out _⟩⟩
            · have HOL := Aside0.mk (fun W => op_samp x.af x.se (by omega) hse1 W)
              obtain rfl : lb = lv (opB x.se) := by rw [← HLB.out, opS, if_neg hs]; rfl
              clear hs
              go_wp2_with (first | (go_at_call 11; (with_reducible refine (HOL.out _).mono ?_); rintro e w2 ⟨AL, rfl, hF, hb⟩; have HB2 := Aside0.mk hb; have HF2b := Aside0.mk hF; have hfr := run_field1 #[.int .i64 1, .slice AL 1 1, .int .i64 1, .int .i64 1, .int .i64 0, .int .i64 0, .int .i64 0, .int .i64 0, .int .i64 0, .int .i64 0, .int .i64 0, .slice none 0 0, .int .i64 0, .slice none 0 0, .string ⟨#[]⟩, .slice none 0 0, .int .i64 0, .int .i64 0, .int .i64 0, .int .i64 0, .string ⟨#[]⟩, .string ⟨#[]⟩, .int .i64 0, .int .i64 0, .int .i64 0, .slice none 0 0, .slice none 0 0, .int .i64 0, .slice none 0 0, .slice none 0 0, .slice none 0 0, .int .i64 0, .int .i64 0, .int .i64 0, .int .i64 0] (.slice AL 1 1) rfl; clear hb hF x0 x1))
              go_meet
              exact ⟨w2.heap.size, AL, rfl, ⟨heap_alloc_new w2 (.cells #[.slice AL 1 1] 35)⟩, ⟨Kd.C_below (Kd.F_now HF2b.out) (below_alloc (Below.refl _ _) _)⟩, ⟨below_alloc HB2.out _⟩⟩
          case rest =>
            obtain ⟨BL, AL, rfl, HBL, HCLb, HVx⟩ := hcut
            clear x0 x1
            generalize wc = We at *
            have HV5 := Aside0.mk (HV3.out.trans (HVx.out.mono HV3.out.size))
            obtain ⟨kb, HKB⟩ : ∃ kb, Aside0 (hasB t.ser lb = kb) := ⟨_, ⟨rfl⟩⟩
            have HK1 := Aside0.mk (show Calls Try.prog 21 #[.slice A t.ser.length c, .func (.func 22) #[] #[.pointer (some ⟨BL, 0, none⟩)]] We (fun e w' => e = .returned (.bool kb) ∧ Below We.heap.size We w') by
              have := ContainsAcc1 A c t.ser BL AL lb.length lb We (Kd.C_below HCTc.out HV5.out) HLC.out HSM.out HBL.out HCLb.out (Nat.le_refl _)
              rwa [HKB.out] at this)
            have HK2 := Aside0.mk (fun W (h : Below We.heap.size We W) => show Calls Try.prog 21 #[.slice A2 t'.ser.length c2, .func (.func 24) #[] #[.pointer (some ⟨BL, 0, none⟩)]] W (fun e w' => e = .returned (.bool (hasB t'.ser lb)) ∧ Below W.heap.size W w') from
              ContainsAcc2 A2 c2 t'.ser BL AL lb.length lb W (Kd.C_below (Kd.C_below HCZc.out HV5.out) h) HL2.out HSM2.out ((h.block BL (heap_lt HBL.out)).trans HBL.out) (Kd.C_below HCLb.out h) (Nat.le_refl _))
            have HTe := Aside0.mk ((HV5.out.block BT (heap_lt HTc.out)).trans HTc.out)
            have y0 := (blk_cell HTe.out 0).trans rfl; have y1 := (blk_cell HTe.out 1).trans rfl; have y2 := (blk_cell HTe.out 2).trans rfl; have y3 := (blk_cell HTe.out 3).trans rfl; have y4 := (blk_cell HTe.out 4).trans rfl; have y5 := (blk_cell HTe.out 5).trans rfl; have y6 := (blk_cell HTe.out 6).trans rfl; have y7 := (blk_cell HTe.out 7).trans rfl; have y8 := (blk_cell HTe.out 8).trans rfl; have y9 := (blk_cell HTe.out 9).trans rfl; simp only [List.getElem?_toArray, List.getElem?_cons_zero, List.getElem?_cons_succ] at y0 y1 y2 y3 y4 y5 y6 y7 y8 y9
            go_upto_region 15 with (go_at_call 21; (with_reducible refine HK1.out.mono ?_); rintro e w5 ⟨rfl, hb⟩; have HVy := Aside0.mk hb; clear hb)
            clear y0 y1 y2 y3 y4 y5 y6 y7 y8 y9 HTe HK1
            have HV6 := Aside0.mk (HV5.out.trans (HVy.out.mono HV5.out.size))
            have HTe := Aside0.mk ((HV6.out.block BT (heap_lt HTc.out)).trans HTc.out)
            have HXe := Aside0.mk ((HV6.out.block BX (heap_lt HXc.out)).trans HXc.out)
            have HFe := Aside0.mk ((HV6.out.block BF (heap_lt HFc.out)).trans HFc.out)
            have HZe := Aside0.mk ((HV6.out.block BZ (heap_lt HZc.out)).trans HZc.out)
            have HLe := Aside0.mk ((HVy.out.block BL (heap_lt HBL.out)).trans HBL.out)
            have hta0 := HI.out.val.a0
            have hta1 : t.acc ≤ 30 := by have h1 := HI.out.sum; have h2 := HI.out.val.rr0; have h3 := HI.out.val.rs0; have h4 := HL30.out; omega
            obtain ⟨hcd⟩ := HCD
            rcases hcd with hcd | hcd
            · subst hcd
              obtain ⟨e1, e2, e3⟩ := HSA.out.ok rfl
              have n1 : (t'.acc != t.acc + 1) = false := by rw [e1]; simp
              have n2 : (t'.level != f.level - 1000) = false := by rw [e2]; simp
              have E3 := Aside0.mk e3
              clear e1 e2 e3
              by_cases hlb : lb = []
              · have dz : decide (0 < lb.length) = false := by rw [hlb]; rfl
                have dz2 : decide ((0 : Int) < (lb.length : Int)) = false := by rw [hlb]; rfl
                clear hlb
                have y0 := (blk_cell HTe.out 0).trans rfl; have y1 := (blk_cell HTe.out 1).trans rfl; have y2 := (blk_cell HTe.out 2).trans rfl; have y3 := (blk_cell HTe.out 3).trans rfl; have y4 := (blk_cell HTe.out 4).trans rfl; have y5 := (blk_cell HTe.out 5).trans rfl; have y6 := (blk_cell HTe.out 6).trans rfl; have y7 := (blk_cell HTe.out 7).trans rfl; have y8 := (blk_cell HTe.out 8).trans rfl; have y9 := (blk_cell HTe.out 9).trans rfl; simp only [List.getElem?_toArray, List.getElem?_cons_zero, List.getElem?_cons_succ] at y0 y1 y2 y3 y4 y5 y6 y7 y8 y9
                have f0 := blk_frozen HTe.out 0; have f1 := blk_frozen HTe.out 1; have f2 := blk_frozen HTe.out 2; have f3 := blk_frozen HTe.out 3; have f4 := blk_frozen HTe.out 4; have f5 := blk_frozen HTe.out 5; have f6 := blk_frozen HTe.out 6; have f7 := blk_frozen HTe.out 7; have f8 := blk_frozen HTe.out 8; have f9 := blk_frozen HTe.out 9
                have z0 := (blk_cell HZe.out 0).trans rfl; have z1 := (blk_cell HZe.out 1).trans rfl; have z2 := (blk_cell HZe.out 2).trans rfl; have z3 := (blk_cell HZe.out 3).trans rfl; have z4 := (blk_cell HZe.out 4).trans rfl; have z5 := (blk_cell HZe.out 5).trans rfl; have z6 := (blk_cell HZe.out 6).trans rfl; have z7 := (blk_cell HZe.out 7).trans rfl; have z8 := (blk_cell HZe.out 8).trans rfl; have z9 := (blk_cell HZe.out 9).trans rfl; simp only [List.getElem?_toArray, List.getElem?_cons_zero, List.getElem?_cons_succ] at z0 z1 z2 z3 z4 z5 z6 z7 z8 z9
                have v3 := (blk_cell HFe.out 3).trans rfl
                have b0 := (blk_cell HLe.out 0).trans rfl
                simp only [List.getElem?_toArray, List.getElem?_cons_zero, List.getElem?_cons_succ] at v3 b0
                go_upto_region 26 with (fail)
                have HT3 := set10_blk HTe.out (.string t'.nm) (.int .i64 t'.rate) (.int .i64 t'.burst) (.int .i64 t'.level) (.int .i64 t'.clock) (.int .i64 t'.mx) (.slice A2 t'.ser.length c2) (.int .i64 t'.acc) (.int .i64 t'.rr) (.int .i64 t'.rs)
                have HB3 := set10_below (B := BT) (HBc.out.trans (HV6.out.mono HBc.out.size)) HBT.out (.string t'.nm) (.int .i64 t'.rate) (.int .i64 t'.burst) (.int .i64 t'.level) (.int .i64 t'.clock) (.int .i64 t'.mx) (.slice A2 t'.ser.length c2) (.int .i64 t'.acc) (.int .i64 t'.rr) (.int .i64 t'.rs)
                have HFm := Aside0.mk (Kd.F_mono (Kd.F_below (Kd.F_bound HF2.out) HV6.out) (ok' := (fun k => k ≠ BT)) (fun k hk => by have h5 := HTX.out; rcases hk.1 with hk | hk; exact hk.1; show k ≠ BT; omega))
                have HF3 := Kd.F_step HFm.out (fun k hk _ => set10_far (W := w5) (B := BT) (k := k) hk (.string t'.nm) (.int .i64 t'.rate) (.int .i64 t'.burst) (.int .i64 t'.level) (.int .i64 t'.clock) (.int .i64 t'.mx) (.slice A2 t'.ser.length c2) (.int .i64 t'.acc) (.int .i64 t'.rr) (.int .i64 t'.rs))
                unfold set10 at HT3 HB3 HF3
                generalize ((((((((((w5.setCell ⟨BT, 0, none⟩ (.string t'.nm)).setCell ⟨BT, 1, none⟩ (.int .i64 t'.rate)).setCell ⟨BT, 2, none⟩ (.int .i64 t'.burst)).setCell ⟨BT, 3, none⟩ (.int .i64 t'.level)).setCell ⟨BT, 4, none⟩ (.int .i64 t'.clock)).setCell ⟨BT, 5, none⟩ (.int .i64 t'.mx)).setCell ⟨BT, 6, none⟩ (.slice A2 t'.ser.length c2)).setCell ⟨BT, 7, none⟩ (.int .i64 t'.acc)).setCell ⟨BT, 8, none⟩ (.int .i64 t'.rr)).setCell ⟨BT, 9, none⟩ (.int .i64 t'.rs)) = W9 at *
                have HT3 := Aside0.mk HT3
                have HB3 := Aside0.mk HB3
                have HF3 := Aside0.mk HF3
                go_wp2_with fail
                go_roundg (l.length - (j + 1))
                case measure => have := HK.out; omega
                case rel => exact ⟨j + 1, t', A2, c2, now + x.af, rfl, (by first | rw [wrap1 j (by have h2 := HL30.out; omega)] | simp), by omega, ⟨rfl⟩, HI3, HT3, HL2, HF3, HB3⟩
              · have hlp : 0 < lb.length := Nat.pos_of_ne_zero (fun e => hlb (List.eq_nil_of_length_eq_zero e))
                have dz : decide (0 < lb.length) = true := decide_eq_true hlp
                have dz2 : decide ((0 : Int) < (lb.length : Int)) = true := decide_eq_true (by omega)
                have HK3 := Aside0.mk (show Calls Try.prog 21 #[.slice A2 t'.ser.length c2, .func (.func 24) #[] #[.pointer (some ⟨BL, 0, none⟩)]] w5 (fun e w' => e = .returned (.bool true) ∧ Below w5.heap.size w5 w') by
                  have := HK2.out w5 HVy.out
                  rwa [E3.out hlb] at this)
                clear hlb hlp
                have y0 := (blk_cell HTe.out 0).trans rfl; have y1 := (blk_cell HTe.out 1).trans rfl; have y2 := (blk_cell HTe.out 2).trans rfl; have y3 := (blk_cell HTe.out 3).trans rfl; have y4 := (blk_cell HTe.out 4).trans rfl; have y5 := (blk_cell HTe.out 5).trans rfl; have y6 := (blk_cell HTe.out 6).trans rfl; have y7 := (blk_cell HTe.out 7).trans rfl; have y8 := (blk_cell HTe.out 8).trans rfl; have y9 := (blk_cell HTe.out 9).trans rfl; simp only [List.getElem?_toArray, List.getElem?_cons_zero, List.getElem?_cons_succ] at y0 y1 y2 y3 y4 y5 y6 y7 y8 y9
                have z0 := (blk_cell HZe.out 0).trans rfl; have z1 := (blk_cell HZe.out 1).trans rfl; have z2 := (blk_cell HZe.out 2).trans rfl; have z3 := (blk_cell HZe.out 3).trans rfl; have z4 := (blk_cell HZe.out 4).trans rfl; have z5 := (blk_cell HZe.out 5).trans rfl; have z6 := (blk_cell HZe.out 6).trans rfl; have z7 := (blk_cell HZe.out 7).trans rfl; have z8 := (blk_cell HZe.out 8).trans rfl; have z9 := (blk_cell HZe.out 9).trans rfl; simp only [List.getElem?_toArray, List.getElem?_cons_zero, List.getElem?_cons_succ] at z0 z1 z2 z3 z4 z5 z6 z7 z8 z9
                have v3 := (blk_cell HFe.out 3).trans rfl
                have b0 := (blk_cell HLe.out 0).trans rfl
                simp only [List.getElem?_toArray, List.getElem?_cons_zero, List.getElem?_cons_succ] at v3 b0
                go_upto_region 18 with (go_at_call 21; (with_reducible refine HK3.out.mono ?_); rintro e w6 ⟨rfl, hb⟩; have HVz := Aside0.mk hb; clear hb)
                clear y0 y1 y2 y3 y4 y5 y6 y7 y8 y9 z0 z1 z2 z3 z4 z5 z6 z7 z8 z9 v3 b0 HTe HZe
                have HV7 := Aside0.mk (HV6.out.trans (HVz.out.mono HV6.out.size))
                have HTe := Aside0.mk ((HV7.out.block BT (heap_lt HTc.out)).trans HTc.out)
                have HZe := Aside0.mk ((HV7.out.block BZ (heap_lt HZc.out)).trans HZc.out)
                have y0 := (blk_cell HTe.out 0).trans rfl; have y1 := (blk_cell HTe.out 1).trans rfl; have y2 := (blk_cell HTe.out 2).trans rfl; have y3 := (blk_cell HTe.out 3).trans rfl; have y4 := (blk_cell HTe.out 4).trans rfl; have y5 := (blk_cell HTe.out 5).trans rfl; have y6 := (blk_cell HTe.out 6).trans rfl; have y7 := (blk_cell HTe.out 7).trans rfl; have y8 := (blk_cell HTe.out 8).trans rfl; have y9 := (blk_cell HTe.out 9).trans rfl; simp only [List.getElem?_toArray, List.getElem?_cons_zero, List.getElem?_cons_succ] at y0 y1 y2 y3 y4 y5 y6 y7 y8 y9
                have f0 := blk_frozen HTe.out 0; have f1 := blk_frozen HTe.out 1; have f2 := blk_frozen HTe.out 2; have f3 := blk_frozen HTe.out 3; have f4 := blk_frozen HTe.out 4; have f5 := blk_frozen HTe.out 5; have f6 := blk_frozen HTe.out 6; have f7 := blk_frozen HTe.out 7; have f8 := blk_frozen HTe.out 8; have f9 := blk_frozen HTe.out 9
                have z0 := (blk_cell HZe.out 0).trans rfl; have z1 := (blk_cell HZe.out 1).trans rfl; have z2 := (blk_cell HZe.out 2).trans rfl; have z3 := (blk_cell HZe.out 3).trans rfl; have z4 := (blk_cell HZe.out 4).trans rfl; have z5 := (blk_cell HZe.out 5).trans rfl; have z6 := (blk_cell HZe.out 6).trans rfl; have z7 := (blk_cell HZe.out 7).trans rfl; have z8 := (blk_cell HZe.out 8).trans rfl; have z9 := (blk_cell HZe.out 9).trans rfl; simp only [List.getElem?_toArray, List.getElem?_cons_zero, List.getElem?_cons_succ] at z0 z1 z2 z3 z4 z5 z6 z7 z8 z9
                go_upto_region 26 with (fail)
                have HT3 := set10_blk HTe.out (.string t'.nm) (.int .i64 t'.rate) (.int .i64 t'.burst) (.int .i64 t'.level) (.int .i64 t'.clock) (.int .i64 t'.mx) (.slice A2 t'.ser.length c2) (.int .i64 t'.acc) (.int .i64 t'.rr) (.int .i64 t'.rs)
                have HB3 := set10_below (B := BT) (HBc.out.trans (HV7.out.mono HBc.out.size)) HBT.out (.string t'.nm) (.int .i64 t'.rate) (.int .i64 t'.burst) (.int .i64 t'.level) (.int .i64 t'.clock) (.int .i64 t'.mx) (.slice A2 t'.ser.length c2) (.int .i64 t'.acc) (.int .i64 t'.rr) (.int .i64 t'.rs)
                have HFm := Aside0.mk (Kd.F_mono (Kd.F_below (Kd.F_bound HF2.out) HV7.out) (ok' := (fun k => k ≠ BT)) (fun k hk => by have h5 := HTX.out; rcases hk.1 with hk | hk; exact hk.1; show k ≠ BT; omega))
                have HF3 := Kd.F_step HFm.out (fun k hk _ => set10_far (W := w6) (B := BT) (k := k) hk (.string t'.nm) (.int .i64 t'.rate) (.int .i64 t'.burst) (.int .i64 t'.level) (.int .i64 t'.clock) (.int .i64 t'.mx) (.slice A2 t'.ser.length c2) (.int .i64 t'.acc) (.int .i64 t'.rr) (.int .i64 t'.rs))
                unfold set10 at HT3 HB3 HF3
                generalize ((((((((((w6.setCell ⟨BT, 0, none⟩ (.string t'.nm)).setCell ⟨BT, 1, none⟩ (.int .i64 t'.rate)).setCell ⟨BT, 2, none⟩ (.int .i64 t'.burst)).setCell ⟨BT, 3, none⟩ (.int .i64 t'.level)).setCell ⟨BT, 4, none⟩ (.int .i64 t'.clock)).setCell ⟨BT, 5, none⟩ (.int .i64 t'.mx)).setCell ⟨BT, 6, none⟩ (.slice A2 t'.ser.length c2)).setCell ⟨BT, 7, none⟩ (.int .i64 t'.acc)).setCell ⟨BT, 8, none⟩ (.int .i64 t'.rr)).setCell ⟨BT, 9, none⟩ (.int .i64 t'.rs)) = W9 at *
                have HT3 := Aside0.mk HT3
                have HB3 := Aside0.mk HB3
                have HF3 := Aside0.mk HF3
                go_wp2_with fail
                go_roundg (l.length - (j + 1))
                case measure => have := HK.out; omega
                case rel => exact ⟨j + 1, t', A2, c2, now + x.af, rfl, (by first | rw [wrap1 j (by have h2 := HL30.out; omega)] | simp), by omega, ⟨rfl⟩, HI3, HT3, HL2, HF3, HB3⟩
            · subst hcd
              obtain ⟨e1, e2, e3⟩ := HSA.out.no rfl
              have n1 : (t'.acc != t.acc) = false := by rw [e2]; simp
              subst e3
              have HFc2 := Aside0.mk (show Wc.heap[BF]? = some (.cells #[.string t'.nm, .int .i64 t'.rate, .int .i64 t'.burst, .int .i64 t'.level, .int .i64 t'.clock, .int .i64 t'.mx, .slice AF t'.ser.length cF, .int .i64 t'.acc, .int .i64 t.rr, .int .i64 t.rs] 25 (0, 0)) from HFc.out)
              have HSS := Aside0.mk (fun W (h : Below Wc.heap.size Wc W) => show Calls Try.prog 16 #[.agg #[.string t'.nm, .int .i64 t'.rate, .int .i64 t'.burst, .int .i64 t'.level, .int .i64 t'.clock, .int .i64 t'.mx, .slice A2 t'.ser.length c2, .int .i64 t'.acc, .int .i64 t.rr, .int .i64 t.rs], .agg #[.string t'.nm, .int .i64 t'.rate, .int .i64 t'.burst, .int .i64 t'.level, .int .i64 t'.clock, .int .i64 t'.mx, .slice AF t'.ser.length cF, .int .i64 t'.acc, .int .i64 t.rr, .int .i64 t.rs]] W (fun e w' => e = .returned (.bool true) ∧ Below W.heap.size W w') from
                rSame_calls ({ t' with rr := t.rr, rs := t.rs } : TV) ⟨HI3.out.small.nm, HI3.out.small.len, HI3.out.small.ser⟩ A2 AF c2 cF W (Kd.C_below HCZc.out h) HL2.out (Kd.C_below HCFc.out h) HLF.out)
              clear e2 HFe
              have hrs0 := HI.out.val.rs0
              have HBS := Aside0.mk HV6.out.size
              have y0 := (blk_cell HTe.out 0).trans rfl; have y1 := (blk_cell HTe.out 1).trans rfl; have y2 := (blk_cell HTe.out 2).trans rfl; have y3 := (blk_cell HTe.out 3).trans rfl; have y4 := (blk_cell HTe.out 4).trans rfl; have y5 := (blk_cell HTe.out 5).trans rfl; have y6 := (blk_cell HTe.out 6).trans rfl; have y7 := (blk_cell HTe.out 7).trans rfl; have y8 := (blk_cell HTe.out 8).trans rfl; have y9 := (blk_cell HTe.out 9).trans rfl; simp only [List.getElem?_toArray, List.getElem?_cons_zero, List.getElem?_cons_succ] at y0 y1 y2 y3 y4 y5 y6 y7 y8 y9
              have z0 := (blk_cell HZe.out 0).trans rfl; have z1 := (blk_cell HZe.out 1).trans rfl; have z2 := (blk_cell HZe.out 2).trans rfl; have z3 := (blk_cell HZe.out 3).trans rfl; have z4 := (blk_cell HZe.out 4).trans rfl; have z5 := (blk_cell HZe.out 5).trans rfl; have z6 := (blk_cell HZe.out 6).trans rfl; have z7 := (blk_cell HZe.out 7).trans rfl; have z8 := (blk_cell HZe.out 8).trans rfl; have z9 := (blk_cell HZe.out 9).trans rfl; simp only [List.getElem?_toArray, List.getElem?_cons_zero, List.getElem?_cons_succ] at z0 z1 z2 z3 z4 z5 z6 z7 z8 z9
              have x0 := (blk_cell HXe.out 0).trans rfl; have x1 := (blk_cell HXe.out 1).trans rfl; simp only [List.getElem?_toArray, List.getElem?_cons_zero, List.getElem?_cons_succ] at x0 x1
              have HE1 := Aside0.mk e1
              clear e1
              obtain ⟨e1⟩ := HE1
              rcases e1 with e1 | ⟨e1, e4, e5⟩
              rotate_left
              have dr : decide (t.rs < t'.rs) = true := decide_eq_true e1
              obtain rfl : kb = false := by rw [← HKB.out]; exact e4
              have dse : (x.se == 0) = false := by
                have : x.se ≠ 0 := fun e => e5 (by rw [← HLB.out, opS, if_pos e]; rfl)
                simpa using this
              clear e1 e4 e5
              rotate_left
              have dr : decide (t.rs < t'.rs) = false := decide_eq_false (by omega)
              clear e1
              all_goals
                go_upto_region 22 with (fail)
                clear y0 y1 y2 y3 y4 y5 y6 y7 y8 y9 z0 z1 z2 z3 z4 z5 z6 z7 z8 z9 x0 x1
                have HTs := Aside0.mk (heap_alloc_keep (o := (.cells #[.string t'.nm, .int .i64 t'.rate, .int .i64 t'.burst, .int .i64 t'.level, .int .i64 t'.clock, .int .i64 t'.mx, .slice A2 t'.ser.length c2, .int .i64 t'.acc, .int .i64 t'.rr, .int .i64 t'.rs] 25)) HTe.out)
                have HSs := Aside0.mk (heap_alloc_new w5 (.cells #[.string t'.nm, .int .i64 t'.rate, .int .i64 t'.burst, .int .i64 t'.level, .int .i64 t'.clock, .int .i64 t'.mx, .slice A2 t'.ser.length c2, .int .i64 t'.acc, .int .i64 t'.rr, .int .i64 t'.rs] 25))
                have HVs := Aside0.mk (below_alloc (Below.refl w5.heap.size w5) (.cells #[.string t'.nm, .int .i64 t'.rate, .int .i64 t'.burst, .int .i64 t'.level, .int .i64 t'.clock, .int .i64 t'.mx, .slice A2 t'.ser.length c2, .int .i64 t'.acc, .int .i64 t'.rr, .int .i64 t'.rs] 25))
                have HTS := Aside0.mk (show BT ≠ w5.heap.size by have := heap_lt HTe.out; omega)
                generalize w5.alloc (.cells #[.string t'.nm, .int .i64 t'.rate, .int .i64 t'.burst, .int .i64 t'.level, .int .i64 t'.clock, .int .i64 t'.mx, .slice A2 t'.ser.length c2, .int .i64 t'.acc, .int .i64 t'.rr, .int .i64 t'.rs] 25) = W7 at *
                generalize w5.heap.size = BS at *
                have nb3 : BT ≠ BS := HTS.out
                have nb4 : BS ≠ BT := fun e => nb3 e.symm
                have y0 := (blk_cell HTs.out 0).trans rfl; have y1 := (blk_cell HTs.out 1).trans rfl; have y2 := (blk_cell HTs.out 2).trans rfl; have y3 := (blk_cell HTs.out 3).trans rfl; have y4 := (blk_cell HTs.out 4).trans rfl; have y5 := (blk_cell HTs.out 5).trans rfl; have y6 := (blk_cell HTs.out 6).trans rfl; have y7 := (blk_cell HTs.out 7).trans rfl; have y8 := (blk_cell HTs.out 8).trans rfl; have y9 := (blk_cell HTs.out 9).trans rfl; simp only [List.getElem?_toArray, List.getElem?_cons_zero, List.getElem?_cons_succ] at y0 y1 y2 y3 y4 y5 y6 y7 y8 y9
                have z0 := (blk_cell HSs.out 0).trans rfl; have z1 := (blk_cell HSs.out 1).trans rfl; have z2 := (blk_cell HSs.out 2).trans rfl; have z3 := (blk_cell HSs.out 3).trans rfl; have z4 := (blk_cell HSs.out 4).trans rfl; have z5 := (blk_cell HSs.out 5).trans rfl; have z6 := (blk_cell HSs.out 6).trans rfl; have z7 := (blk_cell HSs.out 7).trans rfl; have z8 := (blk_cell HSs.out 8).trans rfl; have z9 := (blk_cell HSs.out 9).trans rfl; simp only [List.getElem?_toArray, List.getElem?_cons_zero, List.getElem?_cons_succ] at z0 z1 z2 z3 z4 z5 z6 z7 z8 z9
                have g0 := blk_frozen HSs.out 0; have g1 := blk_frozen HSs.out 1; have g2 := blk_frozen HSs.out 2; have g3 := blk_frozen HSs.out 3; have g4 := blk_frozen HSs.out 4; have g5 := blk_frozen HSs.out 5; have g6 := blk_frozen HSs.out 6; have g7 := blk_frozen HSs.out 7; have g8 := blk_frozen HSs.out 8; have g9 := blk_frozen HSs.out 9
                go_cut [20] (fun s20 wx => s20 = .pointer (some ⟨BS, 0, none⟩) ∧ Aside0 (wx.heap[BS]? = some (.cells #[.string t'.nm, .int .i64 t'.rate, .int .i64 t'.burst, .int .i64 t'.level, .int .i64 t'.clock, .int .i64 t'.mx, .slice A2 t'.ser.length c2, .int .i64 t'.acc, .int .i64 t.rr, .int .i64 t.rs] 25 (0, 0))) ∧ Aside0 (Below BS w5 wx))
                case first =>
                  have hs1 := blk_set (blk_set HSs.out 8 (.int .i64 t.rr)) 9 (.int .i64 t.rs)
                  have hs2 := blk_set (blk_set HSs.out 9 (.int .i64 t.rs)) 8 (.int .i64 t.rr)
                  simp only [List.setIfInBounds_toArray, List.set_cons_succ, List.set_cons_zero] at hs1 hs2
                  have HS1 := Aside0.mk hs1
                  have HS2 := Aside0.mk hs2
                  clear hs1 hs2
                  have HV1 := Aside0.mk ((HVs.out.setCell (p := ⟨BS, 8, none⟩) (Nat.le_refl _) (.int .i64 t.rr)).setCell (p := ⟨BS, 9, none⟩) (Nat.le_refl _) (.int .i64 t.rs))
                  have HV2 := Aside0.mk ((HVs.out.setCell (p := ⟨BS, 9, none⟩) (Nat.le_refl _) (.int .i64 t.rs)).setCell (p := ⟨BS, 8, none⟩) (Nat.le_refl _) (.int .i64 t.rr))
                  go_region
                  all_goals
                    go_wp2_with fail
                    go_meet
                    first
                      | exact ⟨rfl, ⟨HS1.out⟩, ⟨below_drew HV1.out⟩⟩
                      | exact ⟨rfl, ⟨HS2.out⟩, ⟨below_drew HV2.out⟩⟩
                case rest =>
                  obtain ⟨rfl, HSg, HVg⟩ := hcut
                  generalize wc = Wg at *
                  clear y0 y1 y2 y3 y4 y5 y6 y7 y8 y9 z0 z1 z2 z3 z4 z5 z6 z7 z8 z9 g0 g1 g2 g3 g4 g5 g6 g7 g8 g9
                  have HV8 := Aside0.mk (HV6.out.trans (HVg.out.mono HBS.out))
                  have HFg := Aside0.mk ((HV8.out.block BF (heap_lt HFc2.out)).trans HFc2.out)
                  have y0 := (blk_cell HSg.out 0).trans rfl; have y1 := (blk_cell HSg.out 1).trans rfl; have y2 := (blk_cell HSg.out 2).trans rfl; have y3 := (blk_cell HSg.out 3).trans rfl; have y4 := (blk_cell HSg.out 4).trans rfl; have y5 := (blk_cell HSg.out 5).trans rfl; have y6 := (blk_cell HSg.out 6).trans rfl; have y7 := (blk_cell HSg.out 7).trans rfl; have y8 := (blk_cell HSg.out 8).trans rfl; have y9 := (blk_cell HSg.out 9).trans rfl; simp only [List.getElem?_toArray, List.getElem?_cons_zero, List.getElem?_cons_succ] at y0 y1 y2 y3 y4 y5 y6 y7 y8 y9
                  have z0 := (blk_cell HFg.out 0).trans rfl; have z1 := (blk_cell HFg.out 1).trans rfl; have z2 := (blk_cell HFg.out 2).trans rfl; have z3 := (blk_cell HFg.out 3).trans rfl; have z4 := (blk_cell HFg.out 4).trans rfl; have z5 := (blk_cell HFg.out 5).trans rfl; have z6 := (blk_cell HFg.out 6).trans rfl; have z7 := (blk_cell HFg.out 7).trans rfl; have z8 := (blk_cell HFg.out 8).trans rfl; have z9 := (blk_cell HFg.out 9).trans rfl; simp only [List.getElem?_toArray, List.getElem?_cons_zero, List.getElem?_cons_succ] at z0 z1 z2 z3 z4 z5 z6 z7 z8 z9
                  go_upto_region 25 with (go_at_call 16; (with_reducible refine (HSS.out _ HV8.out).mono ?_); rintro e w8 ⟨rfl, hb⟩; have HVh := Aside0.mk hb; clear hb)
                  clear y0 y1 y2 y3 y4 y5 y6 y7 y8 y9 z0 z1 z2 z3 z4 z5 z6 z7 z8 z9 HTe HZe
                  have HV9 := Aside0.mk (HV8.out.trans (HVh.out.mono HV8.out.size))
                  have HTe := Aside0.mk ((HV9.out.block BT (heap_lt HTc.out)).trans HTc.out)
                  have HZe := Aside0.mk ((HV9.out.block BZ (heap_lt HZc.out)).trans HZc.out)
                  have y0 := (blk_cell HTe.out 0).trans rfl; have y1 := (blk_cell HTe.out 1).trans rfl; have y2 := (blk_cell HTe.out 2).trans rfl; have y3 := (blk_cell HTe.out 3).trans rfl; have y4 := (blk_cell HTe.out 4).trans rfl; have y5 := (blk_cell HTe.out 5).trans rfl; have y6 := (blk_cell HTe.out 6).trans rfl; have y7 := (blk_cell HTe.out 7).trans rfl; have y8 := (blk_cell HTe.out 8).trans rfl; have y9 := (blk_cell HTe.out 9).trans rfl; simp only [List.getElem?_toArray, List.getElem?_cons_zero, List.getElem?_cons_succ] at y0 y1 y2 y3 y4 y5 y6 y7 y8 y9
                  have f0 := blk_frozen HTe.out 0; have f1 := blk_frozen HTe.out 1; have f2 := blk_frozen HTe.out 2; have f3 := blk_frozen HTe.out 3; have f4 := blk_frozen HTe.out 4; have f5 := blk_frozen HTe.out 5; have f6 := blk_frozen HTe.out 6; have f7 := blk_frozen HTe.out 7; have f8 := blk_frozen HTe.out 8; have f9 := blk_frozen HTe.out 9
                  have z0 := (blk_cell HZe.out 0).trans rfl; have z1 := (blk_cell HZe.out 1).trans rfl; have z2 := (blk_cell HZe.out 2).trans rfl; have z3 := (blk_cell HZe.out 3).trans rfl; have z4 := (blk_cell HZe.out 4).trans rfl; have z5 := (blk_cell HZe.out 5).trans rfl; have z6 := (blk_cell HZe.out 6).trans rfl; have z7 := (blk_cell HZe.out 7).trans rfl; have z8 := (blk_cell HZe.out 8).trans rfl; have z9 := (blk_cell HZe.out 9).trans rfl; simp only [List.getElem?_toArray, List.getElem?_cons_zero, List.getElem?_cons_succ] at z0 z1 z2 z3 z4 z5 z6 z7 z8 z9
                  go_upto_region 26 with (fail)
                  have HT3 := set10_blk HTe.out (.string t'.nm) (.int .i64 t'.rate) (.int .i64 t'.burst) (.int .i64 t'.level) (.int .i64 t'.clock) (.int .i64 t'.mx) (.slice A2 t'.ser.length c2) (.int .i64 t'.acc) (.int .i64 t'.rr) (.int .i64 t'.rs)
                  have HB3 := set10_below (B := BT) (HBc.out.trans (HV9.out.mono HBc.out.size)) HBT.out (.string t'.nm) (.int .i64 t'.rate) (.int .i64 t'.burst) (.int .i64 t'.level) (.int .i64 t'.clock) (.int .i64 t'.mx) (.slice A2 t'.ser.length c2) (.int .i64 t'.acc) (.int .i64 t'.rr) (.int .i64 t'.rs)
                  have HFm := Aside0.mk (Kd.F_mono (Kd.F_below (Kd.F_bound HF2.out) HV9.out) (ok' := (fun k => k ≠ BT)) (fun k hk => by have h5 := HTX.out; rcases hk.1 with hk | hk; exact hk.1; show k ≠ BT; omega))
                  have HF3 := Kd.F_step HFm.out (fun k hk _ => set10_far (W := w8) (B := BT) (k := k) hk (.string t'.nm) (.int .i64 t'.rate) (.int .i64 t'.burst) (.int .i64 t'.level) (.int .i64 t'.clock) (.int .i64 t'.mx) (.slice A2 t'.ser.length c2) (.int .i64 t'.acc) (.int .i64 t'.rr) (.int .i64 t'.rs))
                  unfold set10 at HT3 HB3 HF3
                  generalize ((((((((((w8.setCell ⟨BT, 0, none⟩ (.string t'.nm)).setCell ⟨BT, 1, none⟩ (.int .i64 t'.rate)).setCell ⟨BT, 2, none⟩ (.int .i64 t'.burst)).setCell ⟨BT, 3, none⟩ (.int .i64 t'.level)).setCell ⟨BT, 4, none⟩ (.int .i64 t'.clock)).setCell ⟨BT, 5, none⟩ (.int .i64 t'.mx)).setCell ⟨BT, 6, none⟩ (.slice A2 t'.ser.length c2)).setCell ⟨BT, 7, none⟩ (.int .i64 t'.acc)).setCell ⟨BT, 8, none⟩ (.int .i64 t'.rr)).setCell ⟨BT, 9, none⟩ (.int .i64 t'.rs)) = W9 at *
                  have HT3 := Aside0.mk HT3
                  have HB3 := Aside0.mk HB3
                  have HF3 := Aside0.mk HF3
                  go_wp2_with fail
                  go_roundg (l.length - (j + 1))
                  case measure => have := HK.out; omega
                  case rel => exact ⟨j + 1, t', A2, c2, now + x.af, rfl, (by first | rw [wrap1 j (by have h2 := HL30.out; omega)] | simp), by omega, ⟨rfl⟩, HI3, HT3, HL2, HF3, HB3⟩
    · have hjl : j = l.length := by omega
      have dl : decide (j < l.length) = false := decide_eq_false hlt
      go_wp2_with (go_at_call 9; (with_reducible refine (HA.out _).mono ?_); rintro e w9 ⟨rfl, hb⟩; have HB9 := Aside0.mk (HB.out.trans (hb.mono HB.out.size)); clear hb)
      go_ret
      exact ⟨rfl, HB9.out⟩
theorem QLAcc_rowc (w : World) (r : Int) (hr : (Lit.int .u8 r).wf = true) (b : Int) (hb : (Lit.int .u8 b).wf = true) (m : Int) (hm : (Lit.int .u8 m).wf = true) (A0 : Option Addr) (l : List OfV) (c0 : Nat) (hC : Kd.C kOffer w A0 l.length l) (hl : l.length ≤ c0) (hg : ∀ x ∈ l, (Lit.int .u16 x.af).wf = true ∧ (Lit.int .u8 x.se).wf = true) :
    Calls Try.prog 7 #[.int .u8 r, .int .u8 b, .int .u8 m, .slice A0 l.length c0] w fun e w' => e = .returned (.bool true) ∧ Below w.heap.size w w' :=
  QLAcc_row w r b m (wf_u8 hr).1 (wf_u8 hr).2 (wf_u8 hb).1 (wf_u8 hb).2 (wf_u8 hm).1 (wf_u8 hm).2 A0 l c0 hC hl hg
end Go.Proofs.Ytakobehkajphpaa.H

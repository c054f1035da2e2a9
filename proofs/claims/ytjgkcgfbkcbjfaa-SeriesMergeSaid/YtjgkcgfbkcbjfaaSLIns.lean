/- The walk of SeriesInsert. -/
import Derived.Test.YtjgkcgfbkcbjfaaSLCheck
import Derived.Test.YtjgkcgfbkcbjfaaSRem
namespace Go.Proofs.Ytjgkcgfbkcbjfaa.H
open Go Go.RowKit Go.Proofs.YtjgkcgfbkcbjfaaW.PrintWords Go.Proofs.YtjgkcgfbkcbjfaaW.PrintLast Go.Proofs.YtjgkcgfbkcbjfaaW.PrintMore Go.Proofs.Ytjgkcgfbkcbjfaa.PAll
set_option linter.unusedVariables false
set_option linter.unusedSimpArgs false

/-- Insert into what a row holds. -/
theorem Insert_R (v : Value) (b : Nat) (l : L29) (x : S29) (W W' : World) (h1 : Kd.R k29 29 W b (fun _ => True) v l) (hb : Below W.heap.size W W') (hl : l.length ≤ 1000000) :
    Calls Try.prog 22 #[v, .agg #[Value.int .i64 x.f0, Value.int .i64 x.f1]] W' (RT W' (insS l x).1 (insS l x).2) := by
  obtain ⟨A, c, rfl, hc, hC⟩ := Kd.R_reads h1
  exact Insert_S A c l x W' (Kd.C_below hC hb) hc hl
theorem insS_len (l : L29) (x : S29) : (insS l x).1.length ≤ l.length + 1 := by
  by_cases h : (insS l x).2 = 0
  · rw [(insF h).len]; exact Nat.le_refl _
  · rw [insS_bad h]; simp

set_option maxRecDepth 100000 in
set_option maxHeartbeats 16000000 in
theorem SeriesInsert_row (w : World) (A : Option Addr) (l : L29) (c0 : Nat) (hr0 : Kd.C k29 w A l.length l) (hc0 : l.length ≤ c0) (_ : ∀ x ∈ l, (Lit.int .i64 x.f0).wf = true ∧ (Lit.int .i64 x.f1).wf = true)
    (x : S29) (_ : (Lit.int .i64 x.f0).wf = true ∧ (Lit.int .i64 x.f1).wf = true) (y : S29) (_ : (Lit.int .i64 y.f0).wf = true ∧ (Lit.int .i64 y.f1).wf = true) :
    Calls Try.prog 6 #[.slice A l.length c0, .agg #[Value.int .i64 x.f0, Value.int .i64 x.f1], .agg #[Value.int .i64 y.f0, Value.int .i64 y.f1]] w fun e w' => e = .returned (.bool true) ∧ Below w.heap.size w w' := by
  have HA := Aside0.mk (fun W => awake_calls W)
  go_enter Try.func6, Try.ntmps6
  go_wp2_with (fail)
  have hX := heap_alloc_keep (o := .cells #[Value.int .i64 y.f0, Value.int .i64 y.f1] 29) (heap_alloc_new w (.cells #[Value.int .i64 x.f0, Value.int .i64 x.f1] 29))
  have hY := heap_alloc_new (w.alloc (.cells #[Value.int .i64 x.f0, Value.int .i64 x.f1] 29)) (.cells #[Value.int .i64 y.f0, Value.int .i64 y.f1] 29)
  have hw0 := Aside0.mk (show Below w.heap.size w ((w.alloc (.cells #[Value.int .i64 x.f0, Value.int .i64 x.f1] 29)).alloc (.cells #[Value.int .i64 y.f0, Value.int .i64 y.f1] 29)) by repeat (first | exact Below.refl _ _ | apply below_alloc))
  have hsz : ((w.alloc (.cells #[Value.int .i64 x.f0, Value.int .i64 x.f1] 29)).alloc (.cells #[Value.int .i64 y.f0, Value.int .i64 y.f1] 29)).heap.size = w.heap.size + 1 + 1 := by simp
  obtain ⟨W0, hW0⟩ : ∃ W0, (w.alloc (.cells #[Value.int .i64 x.f0, Value.int .i64 x.f1] 29)).alloc (.cells #[Value.int .i64 y.f0, Value.int .i64 y.f1] 29) = W0 := ⟨_, rfl⟩
  simp only [World.size_alloc] at hY
  rw [hW0] at hX hY hw0 hsz ⊢
  clear hW0
  have hr := Kd.C_below hr0 hw0.out
  clear hr0
  have cx0 := cell_of_heap hX 0 _ rfl
  have cx1 := cell_of_heap hX 1 _ rfl
  have cy0 := cell_of_heap hY 0 _ rfl
  have cy1 := cell_of_heap hY 1 _ rfl
  have hbx : w.heap.size < W0.heap.size := by omega
  have hby : w.heap.size + 1 < W0.heap.size := by omega
  have HSZ := Aside0.mk hsz
  clear hsz hX hY
  have HB2 := Aside0.mk (Below.refl W0.heap.size W0)
  have HG := Aside0.mk (fun W n hn (h : Below W0.heap.size W0 W) => great1 W n hn A c0 l (Kd.C_below hr h) hc0)
  have kx0 := (below_alloc (Below.refl W0.heap.size W0) (.cells #[.slice A l.length c0] 22)).cell (p := ⟨w.heap.size, 0, none⟩) hbx |>.trans cx0
  have kx1 := (below_alloc (Below.refl W0.heap.size W0) (.cells #[.slice A l.length c0] 22)).cell (p := ⟨w.heap.size, 1, none⟩) hbx |>.trans cx1
  cases hg : greatB l with
  | true =>
    rw [hg] at HG
    clear hg hr hc0
    refine (HG.out W0 (w.heap.size + 1 + 1) HSZ.out.symm (by repeat (first | exact HB2.out | apply below_alloc | apply pw_below_drewN | apply below_drew))).mono ?_
    rintro e wg ⟨rfl, ⟨qg, rfl⟩⟩
    go_wp2_with (first
      | (go_at_call 12; refine (HA.out _).mono ?_; rintro e wa ⟨rfl, hb⟩; have n1_ := Aside0.mk ((show Below W0.heap.size W0 _ by repeat (first | exact HB2.out | apply below_alloc | apply pw_below_drewN | apply below_drew)).trans (hb.mono (by have := HB2.out.size; simp; try omega))); clear HB2; have HB2 := n1_; clear n1_; clear hb))
    go_ret
    exact ⟨rfl, hw0.out.trans (HB2.out.mono hw0.out.size)⟩
  | false =>
    have hl24 : l.length ≤ 24 := by simpa [greatB] using hg
    rw [hg] at HG
    clear hg
    have HIX := Aside0.mk (fun W (h : Below W0.heap.size W0 W) => Insert_S A c0 l x W (Kd.C_below hr h) hc0 (by omega))
    by_cases h1 : (insS l x).2 = 0
    · have F := insF h1
      have hal := F.len
      have HIA := Aside0.mk (fun v b W W' z h1 h2 => Insert_R v b (insS l x).1 z W W' h1 h2 (by omega))
      have HRA := Aside0.mk (fun v b W W' (h1 : Kd.R k29 29 W b (fun _ => True) v (insS l x).1) (h2 : Below W.heap.size W W') => show Calls Try.prog 23 #[v, .int .i64 x.f0] W' (RT W' l 0) by
        obtain ⟨A, c, rfl, hc, hC⟩ := Kd.R_reads h1
        have h := Remove_S A c (insS l x).1 x.f0 W' (Kd.C_below hC h2) hc (by omega)
        rw [F.rem (by omega)] at h
        exact h)
      have HCA := Aside0.mk (fun v b W W' (h1 : Kd.R k29 29 W b (fun _ => True) v (insS l x).1) (h2 : Below W.heap.size W W') => show Calls Try.prog 15 #[.int .i64 1, v] W' fun e w' => e = .returned (.int .i64 0) ∧ Below W'.heap.size W' w' by
        obtain ⟨A, c, rfl, hc, hC⟩ := Kd.R_reads h1
        have h := Check_calls 1 A c (insS l x).1 W' (Kd.C_below hC h2) hc (by omega)
        rw [F.chk (by omega)] at h
        exact h)
      have HMA := Aside0.mk (fun v b W W' (h1 : Kd.R k29 29 W b (fun _ => True) v (insS l x).1) (h2 : Below W.heap.size W W') => show Calls Try.prog 24 #[v, .agg #[Value.int .i64 x.f0, Value.int .i64 x.f1]] W' fun e w' => e = .returned (.bool true) ∧ Below W'.heap.size W' w' by
        obtain ⟨A, c, rfl, hc, hC⟩ := Kd.R_reads h1
        have h := Contains_calls A c (insS l x).1 x W' (Kd.C_below hC h2) hc (by omega)
        rw [(memB_iff _ _).2 ((F.mem x).2 (.inl rfl))] at h
        exact h)
      have HSA := Aside0.mk (fun v b W W' (h1 : Kd.R k29 29 W b (fun _ => True) v l) (h2 : Below W.heap.size W W') (h3 : Below W0.heap.size W0 W') => show Calls Try.prog 16 #[v, .slice A l.length c0] W' fun e w' => e = .returned (.bool true) ∧ Drawn0 W' w' by
        obtain ⟨A', c', rfl, hc, hC⟩ := Kd.R_reads h1
        have h := Same_calls A' A c' c0 l l W' (Kd.C_below hC h2) hc (Kd.C_below hr h3) hc0 (by omega)
        rw [sameB_refl] at h
        exact h)
      have HIAx := Aside0.mk (fun v b W W' h1 h2 => by have h := HIA.out v b W W' x h1 h2; rw [F.again (by omega)] at h; exact h)
      have HIY := Aside0.mk (fun W (h : Below W0.heap.size W0 W) => Insert_S A c0 l y W (Kd.C_below hr h) hc0 (by omega))
      have hw1 : IntKind.i64.wrap ((l.length : Int) + 1) = (l.length : Int) + 1 := by rw [IntKind.wrap_i64]; omega
      rw [h1] at HIX
      have HAL := Aside0.mk hal
      clear hal
      obtain ⟨ax, hax⟩ : ∃ ax, (insS (insS l x).1 x).1 = ax := ⟨_, rfl⟩
      rw [hax] at HIAx
      clear hax
      by_cases h2 : (insS l y).2 = 0
      · rw [h2] at HIY
        by_cases h3 : x.f0 = y.f0
        · have e1 : (x.f0 == y.f0) = true := by simpa using h3
          clear F h1 h2 h3 hr hc0
          generalize (insS l x).1 = a at *
          generalize (insS l y).1 = cc at *
          refine (HG.out W0 (w.heap.size + 1 + 1) HSZ.out.symm (by repeat (first | exact HB2.out | apply below_alloc | apply pw_below_drewN | apply below_drew))).mono ?_
          rintro e wg ⟨rfl, ⟨qg, rfl⟩⟩
          go_wp2_with (fail)
          refine (HIX.out _ (by repeat (first | exact HB2.out | apply below_alloc | apply pw_below_drewN | apply below_drew))).mono ?_; rintro e w7 ⟨v7, rfl, hR, hb⟩; obtain ⟨A7, c7, rfl⟩ : ∃ A c, v7 = .slice A (l.length + 1) c := (by obtain ⟨A, c, h, _⟩ := Kd.R_reads hR; rw [HAL.out] at h; exact ⟨A, c, h⟩); have HR7 := Aside0.mk hR; have n1_ := Aside0.mk ((show Below W0.heap.size W0 _ by repeat (first | exact HB2.out | apply below_alloc | apply pw_below_drewN | apply below_drew)).trans (hb.mono (by have := HB2.out.size; simp; try omega))); clear HB2; have HB2 := n1_; clear n1_; have l0_ := (HB2.out.cell (p := ⟨w.heap.size, 0, none⟩) hbx).trans cx0; have l1_ := (HB2.out.cell (p := ⟨w.heap.size, 1, none⟩) hbx).trans cx1; have l2_ := (HB2.out.cell (p := ⟨w.heap.size + 1, 0, none⟩) hby).trans cy0; have l3_ := (HB2.out.cell (p := ⟨w.heap.size + 1, 1, none⟩) hby).trans cy1; have B7 := Aside0.mk (Below.refl w7.heap.size w7); clear hb hR
          go_wp2_with (fail)
          refine (HRA.out _ _ _ _ HR7.out B7.out).mono ?_; rintro e w8 ⟨v8, rfl, hR, hb⟩; have HR8 := Aside0.mk hR; have n1_ := Aside0.mk ((show Below w7.heap.size w7 _ by repeat (first | exact B7.out | apply below_alloc | apply pw_below_drewN | apply below_drew)).trans (hb.mono (by have := B7.out.size; simp; try omega))); clear B7; have B7 := n1_; clear n1_; have n1_ := Aside0.mk ((show Below W0.heap.size W0 _ by repeat (first | exact HB2.out | apply below_alloc | apply pw_below_drewN | apply below_drew)).trans (hb.mono (by have := HB2.out.size; simp; try omega))); clear HB2; have HB2 := n1_; clear n1_; have l0_ := (HB2.out.cell (p := ⟨w.heap.size, 0, none⟩) hbx).trans cx0; have l1_ := (HB2.out.cell (p := ⟨w.heap.size, 1, none⟩) hbx).trans cx1; have l2_ := (HB2.out.cell (p := ⟨w.heap.size + 1, 0, none⟩) hby).trans cy0; have l3_ := (HB2.out.cell (p := ⟨w.heap.size + 1, 1, none⟩) hby).trans cy1; have B8 := Aside0.mk (Below.refl w8.heap.size w8); clear hb hR
          go_wp2_with (fail)
          refine (HIAx.out _ _ _ _ HR7.out B7.out).mono ?_; rintro e w9 ⟨v9, rfl, hR, hb⟩; have n1_ := Aside0.mk ((show Below w7.heap.size w7 _ by repeat (first | exact B7.out | apply below_alloc | apply pw_below_drewN | apply below_drew)).trans (hb.mono (by have := B7.out.size; simp; try omega))); clear B7; have B7 := n1_; clear n1_; have n1_ := Aside0.mk ((show Below w8.heap.size w8 _ by repeat (first | exact B8.out | apply below_alloc | apply pw_below_drewN | apply below_drew)).trans (hb.mono (by have := B8.out.size; simp; try omega))); clear B8; have B8 := n1_; clear n1_; have n1_ := Aside0.mk ((show Below W0.heap.size W0 _ by repeat (first | exact HB2.out | apply below_alloc | apply pw_below_drewN | apply below_drew)).trans (hb.mono (by have := HB2.out.size; simp; try omega))); clear HB2; have HB2 := n1_; clear n1_; have l0_ := (HB2.out.cell (p := ⟨w.heap.size, 0, none⟩) hbx).trans cx0; have l1_ := (HB2.out.cell (p := ⟨w.heap.size, 1, none⟩) hbx).trans cx1; have l2_ := (HB2.out.cell (p := ⟨w.heap.size + 1, 0, none⟩) hby).trans cy0; have l3_ := (HB2.out.cell (p := ⟨w.heap.size + 1, 1, none⟩) hby).trans cy1; clear hb hR
          go_wp2_with (first
            | (go_at_call 24; refine (HMA.out _ _ _ _ HR7.out B7.out).mono ?_; rintro e w10 ⟨rfl, hb⟩; have n1_ := Aside0.mk ((show Below w7.heap.size w7 _ by repeat (first | exact B7.out | apply below_alloc | apply pw_below_drewN | apply below_drew)).trans (hb.mono (by have := B7.out.size; simp; try omega))); clear B7; have B7 := n1_; clear n1_; have n1_ := Aside0.mk ((show Below w8.heap.size w8 _ by repeat (first | exact B8.out | apply below_alloc | apply pw_below_drewN | apply below_drew)).trans (hb.mono (by have := B8.out.size; simp; try omega))); clear B8; have B8 := n1_; clear n1_; have n1_ := Aside0.mk ((show Below W0.heap.size W0 _ by repeat (first | exact HB2.out | apply below_alloc | apply pw_below_drewN | apply below_drew)).trans (hb.mono (by have := HB2.out.size; simp; try omega))); clear HB2; have HB2 := n1_; clear n1_; have l0_ := (HB2.out.cell (p := ⟨w.heap.size, 0, none⟩) hbx).trans cx0; have l1_ := (HB2.out.cell (p := ⟨w.heap.size, 1, none⟩) hbx).trans cx1; have l2_ := (HB2.out.cell (p := ⟨w.heap.size + 1, 0, none⟩) hby).trans cy0; have l3_ := (HB2.out.cell (p := ⟨w.heap.size + 1, 1, none⟩) hby).trans cy1; clear hb)
            | (go_at_call 15; refine (HCA.out _ _ _ _ HR7.out B7.out).mono ?_; rintro e w11 ⟨rfl, hb⟩; have n1_ := Aside0.mk ((show Below w7.heap.size w7 _ by repeat (first | exact B7.out | apply below_alloc | apply pw_below_drewN | apply below_drew)).trans (hb.mono (by have := B7.out.size; simp; try omega))); clear B7; have B7 := n1_; clear n1_; have n1_ := Aside0.mk ((show Below w8.heap.size w8 _ by repeat (first | exact B8.out | apply below_alloc | apply pw_below_drewN | apply below_drew)).trans (hb.mono (by have := B8.out.size; simp; try omega))); clear B8; have B8 := n1_; clear n1_; have n1_ := Aside0.mk ((show Below W0.heap.size W0 _ by repeat (first | exact HB2.out | apply below_alloc | apply pw_below_drewN | apply below_drew)).trans (hb.mono (by have := HB2.out.size; simp; try omega))); clear HB2; have HB2 := n1_; clear n1_; have l0_ := (HB2.out.cell (p := ⟨w.heap.size, 0, none⟩) hbx).trans cx0; have l1_ := (HB2.out.cell (p := ⟨w.heap.size, 1, none⟩) hbx).trans cx1; have l2_ := (HB2.out.cell (p := ⟨w.heap.size + 1, 0, none⟩) hby).trans cy0; have l3_ := (HB2.out.cell (p := ⟨w.heap.size + 1, 1, none⟩) hby).trans cy1; clear hb)
            | (go_at_call 16; refine (HSA.out _ _ _ _ HR8.out B8.out HB2.out).mono ?_; rintro e w12 ⟨rfl, ⟨q12, rfl⟩⟩))
          go_wp2_with (first
            | (go_at_call 22; refine (HIY.out _ (by repeat (first | exact HB2.out | apply below_alloc | apply pw_below_drewN | apply below_drew))).mono ?_; clear HIY; rintro e w13 ⟨v13, rfl, hR, hb⟩; have HR13 := Aside0.mk hR; have n1_ := Aside0.mk ((show Below w7.heap.size w7 _ by repeat (first | exact B7.out | apply below_alloc | apply pw_below_drewN | apply below_drew)).trans (hb.mono (by have := B7.out.size; simp; try omega))); clear B7; have B7 := n1_; clear n1_; have n1_ := Aside0.mk ((show Below W0.heap.size W0 _ by repeat (first | exact HB2.out | apply below_alloc | apply pw_below_drewN | apply below_drew)).trans (hb.mono (by have := HB2.out.size; simp; try omega))); clear HB2; have HB2 := n1_; clear n1_; have l0_ := (HB2.out.cell (p := ⟨w.heap.size, 0, none⟩) hbx).trans cx0; have l1_ := (HB2.out.cell (p := ⟨w.heap.size, 1, none⟩) hbx).trans cx1; have l2_ := (HB2.out.cell (p := ⟨w.heap.size + 1, 0, none⟩) hby).trans cy0; have l3_ := (HB2.out.cell (p := ⟨w.heap.size + 1, 1, none⟩) hby).trans cy1; have B13 := Aside0.mk (Below.refl w13.heap.size w13); clear hb hR)
            | (go_at_call 12; refine (HA.out _).mono ?_; rintro e wa ⟨rfl, hb⟩; have n1_ := Aside0.mk ((show Below W0.heap.size W0 _ by repeat (first | exact HB2.out | apply below_alloc | apply pw_below_drewN | apply below_drew)).trans (hb.mono (by have := HB2.out.size; simp; try omega))); clear HB2; have HB2 := n1_; clear n1_; clear hb))
          go_ret
          exact ⟨rfl, hw0.out.trans (HB2.out.mono hw0.out.size)⟩
        · have e1 : (x.f0 == y.f0) = false := by simpa using h3
          obtain ⟨g1, g2, g3⟩ := ins_comm h1 h2 h3 (by omega)
          have HIAy := Aside0.mk (fun v b W W' h1 h2 => by have h := HIA.out v b W W' y h1 h2; rw [g1] at h; exact h)
          have hcl := (insF h2).len
          have hal := HAL.out
          have hpl := insS_len (insS l x).1 y
          have HICx := Aside0.mk (fun v b W W' h1 h2 => by have h := Insert_R v b (insS l y).1 x W W' h1 h2 (by omega); rw [g2, ← g3] at h; exact h)
          have HSP := Aside0.mk (fun v v' b b' W W' h1 h2 h3 => Same_R v v' b b' (fun _ => True) (fun _ => True) (insS (insS l x).1 y).1 (insS (insS l x).1 y).1 W W' h1 h2 h3 (by omega))
          rw [sameB_refl] at HSP
          clear F h1 h2 h3 hr hc0 g1 g2 g3 hcl hpl hal
          generalize (insS (insS l x).1 y).1 = pp at *
          generalize (insS l x).1 = a at *
          generalize (insS l y).1 = cc at *
          refine (HG.out W0 (w.heap.size + 1 + 1) HSZ.out.symm (by repeat (first | exact HB2.out | apply below_alloc | apply pw_below_drewN | apply below_drew))).mono ?_
          rintro e wg ⟨rfl, ⟨qg, rfl⟩⟩
          go_wp2_with (fail)
          refine (HIX.out _ (by repeat (first | exact HB2.out | apply below_alloc | apply pw_below_drewN | apply below_drew))).mono ?_; rintro e w7 ⟨v7, rfl, hR, hb⟩; obtain ⟨A7, c7, rfl⟩ : ∃ A c, v7 = .slice A (l.length + 1) c := (by obtain ⟨A, c, h, _⟩ := Kd.R_reads hR; rw [HAL.out] at h; exact ⟨A, c, h⟩); have HR7 := Aside0.mk hR; have n1_ := Aside0.mk ((show Below W0.heap.size W0 _ by repeat (first | exact HB2.out | apply below_alloc | apply pw_below_drewN | apply below_drew)).trans (hb.mono (by have := HB2.out.size; simp; try omega))); clear HB2; have HB2 := n1_; clear n1_; have l0_ := (HB2.out.cell (p := ⟨w.heap.size, 0, none⟩) hbx).trans cx0; have l1_ := (HB2.out.cell (p := ⟨w.heap.size, 1, none⟩) hbx).trans cx1; have l2_ := (HB2.out.cell (p := ⟨w.heap.size + 1, 0, none⟩) hby).trans cy0; have l3_ := (HB2.out.cell (p := ⟨w.heap.size + 1, 1, none⟩) hby).trans cy1; have B7 := Aside0.mk (Below.refl w7.heap.size w7); clear hb hR
          go_wp2_with (fail)
          refine (HRA.out _ _ _ _ HR7.out B7.out).mono ?_; rintro e w8 ⟨v8, rfl, hR, hb⟩; have HR8 := Aside0.mk hR; have n1_ := Aside0.mk ((show Below w7.heap.size w7 _ by repeat (first | exact B7.out | apply below_alloc | apply pw_below_drewN | apply below_drew)).trans (hb.mono (by have := B7.out.size; simp; try omega))); clear B7; have B7 := n1_; clear n1_; have n1_ := Aside0.mk ((show Below W0.heap.size W0 _ by repeat (first | exact HB2.out | apply below_alloc | apply pw_below_drewN | apply below_drew)).trans (hb.mono (by have := HB2.out.size; simp; try omega))); clear HB2; have HB2 := n1_; clear n1_; have l0_ := (HB2.out.cell (p := ⟨w.heap.size, 0, none⟩) hbx).trans cx0; have l1_ := (HB2.out.cell (p := ⟨w.heap.size, 1, none⟩) hbx).trans cx1; have l2_ := (HB2.out.cell (p := ⟨w.heap.size + 1, 0, none⟩) hby).trans cy0; have l3_ := (HB2.out.cell (p := ⟨w.heap.size + 1, 1, none⟩) hby).trans cy1; have B8 := Aside0.mk (Below.refl w8.heap.size w8); clear hb hR
          go_wp2_with (fail)
          refine (HIAx.out _ _ _ _ HR7.out B7.out).mono ?_; rintro e w9 ⟨v9, rfl, hR, hb⟩; have n1_ := Aside0.mk ((show Below w7.heap.size w7 _ by repeat (first | exact B7.out | apply below_alloc | apply pw_below_drewN | apply below_drew)).trans (hb.mono (by have := B7.out.size; simp; try omega))); clear B7; have B7 := n1_; clear n1_; have n1_ := Aside0.mk ((show Below w8.heap.size w8 _ by repeat (first | exact B8.out | apply below_alloc | apply pw_below_drewN | apply below_drew)).trans (hb.mono (by have := B8.out.size; simp; try omega))); clear B8; have B8 := n1_; clear n1_; have n1_ := Aside0.mk ((show Below W0.heap.size W0 _ by repeat (first | exact HB2.out | apply below_alloc | apply pw_below_drewN | apply below_drew)).trans (hb.mono (by have := HB2.out.size; simp; try omega))); clear HB2; have HB2 := n1_; clear n1_; have l0_ := (HB2.out.cell (p := ⟨w.heap.size, 0, none⟩) hbx).trans cx0; have l1_ := (HB2.out.cell (p := ⟨w.heap.size, 1, none⟩) hbx).trans cx1; have l2_ := (HB2.out.cell (p := ⟨w.heap.size + 1, 0, none⟩) hby).trans cy0; have l3_ := (HB2.out.cell (p := ⟨w.heap.size + 1, 1, none⟩) hby).trans cy1; clear hb hR
          go_wp2_with (first
            | (go_at_call 24; refine (HMA.out _ _ _ _ HR7.out B7.out).mono ?_; rintro e w10 ⟨rfl, hb⟩; have n1_ := Aside0.mk ((show Below w7.heap.size w7 _ by repeat (first | exact B7.out | apply below_alloc | apply pw_below_drewN | apply below_drew)).trans (hb.mono (by have := B7.out.size; simp; try omega))); clear B7; have B7 := n1_; clear n1_; have n1_ := Aside0.mk ((show Below w8.heap.size w8 _ by repeat (first | exact B8.out | apply below_alloc | apply pw_below_drewN | apply below_drew)).trans (hb.mono (by have := B8.out.size; simp; try omega))); clear B8; have B8 := n1_; clear n1_; have n1_ := Aside0.mk ((show Below W0.heap.size W0 _ by repeat (first | exact HB2.out | apply below_alloc | apply pw_below_drewN | apply below_drew)).trans (hb.mono (by have := HB2.out.size; simp; try omega))); clear HB2; have HB2 := n1_; clear n1_; have l0_ := (HB2.out.cell (p := ⟨w.heap.size, 0, none⟩) hbx).trans cx0; have l1_ := (HB2.out.cell (p := ⟨w.heap.size, 1, none⟩) hbx).trans cx1; have l2_ := (HB2.out.cell (p := ⟨w.heap.size + 1, 0, none⟩) hby).trans cy0; have l3_ := (HB2.out.cell (p := ⟨w.heap.size + 1, 1, none⟩) hby).trans cy1; clear hb)
            | (go_at_call 15; refine (HCA.out _ _ _ _ HR7.out B7.out).mono ?_; rintro e w11 ⟨rfl, hb⟩; have n1_ := Aside0.mk ((show Below w7.heap.size w7 _ by repeat (first | exact B7.out | apply below_alloc | apply pw_below_drewN | apply below_drew)).trans (hb.mono (by have := B7.out.size; simp; try omega))); clear B7; have B7 := n1_; clear n1_; have n1_ := Aside0.mk ((show Below w8.heap.size w8 _ by repeat (first | exact B8.out | apply below_alloc | apply pw_below_drewN | apply below_drew)).trans (hb.mono (by have := B8.out.size; simp; try omega))); clear B8; have B8 := n1_; clear n1_; have n1_ := Aside0.mk ((show Below W0.heap.size W0 _ by repeat (first | exact HB2.out | apply below_alloc | apply pw_below_drewN | apply below_drew)).trans (hb.mono (by have := HB2.out.size; simp; try omega))); clear HB2; have HB2 := n1_; clear n1_; have l0_ := (HB2.out.cell (p := ⟨w.heap.size, 0, none⟩) hbx).trans cx0; have l1_ := (HB2.out.cell (p := ⟨w.heap.size, 1, none⟩) hbx).trans cx1; have l2_ := (HB2.out.cell (p := ⟨w.heap.size + 1, 0, none⟩) hby).trans cy0; have l3_ := (HB2.out.cell (p := ⟨w.heap.size + 1, 1, none⟩) hby).trans cy1; clear hb)
            | (go_at_call 16; refine (HSA.out _ _ _ _ HR8.out B8.out HB2.out).mono ?_; rintro e w12 ⟨rfl, ⟨q12, rfl⟩⟩))
          refine (HIY.out _ (by repeat (first | exact HB2.out | apply below_alloc | apply pw_below_drewN | apply below_drew))).mono ?_; clear HIY; rintro e w13 ⟨v13, rfl, hR, hb⟩; have HR13 := Aside0.mk hR; have n1_ := Aside0.mk ((show Below w7.heap.size w7 _ by repeat (first | exact B7.out | apply below_alloc | apply pw_below_drewN | apply below_drew)).trans (hb.mono (by have := B7.out.size; simp; try omega))); clear B7; have B7 := n1_; clear n1_; have n1_ := Aside0.mk ((show Below W0.heap.size W0 _ by repeat (first | exact HB2.out | apply below_alloc | apply pw_below_drewN | apply below_drew)).trans (hb.mono (by have := HB2.out.size; simp; try omega))); clear HB2; have HB2 := n1_; clear n1_; have l0_ := (HB2.out.cell (p := ⟨w.heap.size, 0, none⟩) hbx).trans cx0; have l1_ := (HB2.out.cell (p := ⟨w.heap.size, 1, none⟩) hbx).trans cx1; have l2_ := (HB2.out.cell (p := ⟨w.heap.size + 1, 0, none⟩) hby).trans cy0; have l3_ := (HB2.out.cell (p := ⟨w.heap.size + 1, 1, none⟩) hby).trans cy1; have B13 := Aside0.mk (Below.refl w13.heap.size w13); clear hb hR
          go_wp2_with (fail)
          refine (HIAy.out _ _ _ _ HR7.out B7.out).mono ?_; clear HIAy; rintro e w14 ⟨v14, rfl, hR, hb⟩; have HR14 := Aside0.mk hR; have n1_ := Aside0.mk ((show Below w13.heap.size w13 _ by repeat (first | exact B13.out | apply below_alloc | apply pw_below_drewN | apply below_drew)).trans (hb.mono (by have := B13.out.size; simp; try omega))); clear B13; have B13 := n1_; clear n1_; have n1_ := Aside0.mk ((show Below W0.heap.size W0 _ by repeat (first | exact HB2.out | apply below_alloc | apply pw_below_drewN | apply below_drew)).trans (hb.mono (by have := HB2.out.size; simp; try omega))); clear HB2; have HB2 := n1_; clear n1_; have l0_ := (HB2.out.cell (p := ⟨w.heap.size, 0, none⟩) hbx).trans cx0; have l1_ := (HB2.out.cell (p := ⟨w.heap.size, 1, none⟩) hbx).trans cx1; have l2_ := (HB2.out.cell (p := ⟨w.heap.size + 1, 0, none⟩) hby).trans cy0; have l3_ := (HB2.out.cell (p := ⟨w.heap.size + 1, 1, none⟩) hby).trans cy1; have B14 := Aside0.mk (Below.refl w14.heap.size w14); clear hb hR
          go_wp2_with (fail)
          refine (HICx.out _ _ _ _ HR13.out B13.out).mono ?_; clear HICx; rintro e w15 ⟨v15, rfl, hR, hb⟩; have HR15 := Aside0.mk hR; have n1_ := Aside0.mk ((show Below w14.heap.size w14 _ by repeat (first | exact B14.out | apply below_alloc | apply pw_below_drewN | apply below_drew)).trans (hb.mono (by have := B14.out.size; simp; try omega))); clear B14; have B14 := n1_; clear n1_; have n1_ := Aside0.mk ((show Below W0.heap.size W0 _ by repeat (first | exact HB2.out | apply below_alloc | apply pw_below_drewN | apply below_drew)).trans (hb.mono (by have := HB2.out.size; simp; try omega))); clear HB2; have HB2 := n1_; clear n1_; have l0_ := (HB2.out.cell (p := ⟨w.heap.size, 0, none⟩) hbx).trans cx0; have l1_ := (HB2.out.cell (p := ⟨w.heap.size, 1, none⟩) hbx).trans cx1; have l2_ := (HB2.out.cell (p := ⟨w.heap.size + 1, 0, none⟩) hby).trans cy0; have l3_ := (HB2.out.cell (p := ⟨w.heap.size + 1, 1, none⟩) hby).trans cy1; clear hb hR
          go_wp2_with (first
            | (go_at_call 16; refine (HSP.out _ _ _ _ _ _ HR14.out HR15.out B14.out).mono ?_; rintro e w16 ⟨rfl, ⟨q16, rfl⟩⟩)
            | (go_at_call 12; refine (HA.out _).mono ?_; rintro e wa ⟨rfl, hb⟩; have n1_ := Aside0.mk ((show Below W0.heap.size W0 _ by repeat (first | exact HB2.out | apply below_alloc | apply pw_below_drewN | apply below_drew)).trans (hb.mono (by have := HB2.out.size; simp; try omega))); clear HB2; have HB2 := n1_; clear n1_; clear hb))
          go_ret
          exact ⟨rfl, hw0.out.trans (HB2.out.mono hw0.out.size)⟩
      · have e1 : ((insS l y).2 == 0) = false := by simpa using h2
        have e2 : ((insS l y).2 != 0) = true := by simpa using h2
        clear F h1 h2 hr hc0
        generalize (insS l x).1 = a at *
        generalize (insS l y).1 = cc at *
        generalize (insS l y).2 = hh at *
        refine (HG.out W0 (w.heap.size + 1 + 1) HSZ.out.symm (by repeat (first | exact HB2.out | apply below_alloc | apply pw_below_drewN | apply below_drew))).mono ?_
        rintro e wg ⟨rfl, ⟨qg, rfl⟩⟩
        go_wp2_with (fail)
        refine (HIX.out _ (by repeat (first | exact HB2.out | apply below_alloc | apply pw_below_drewN | apply below_drew))).mono ?_; rintro e w7 ⟨v7, rfl, hR, hb⟩; obtain ⟨A7, c7, rfl⟩ : ∃ A c, v7 = .slice A (l.length + 1) c := (by obtain ⟨A, c, h, _⟩ := Kd.R_reads hR; rw [HAL.out] at h; exact ⟨A, c, h⟩); have HR7 := Aside0.mk hR; have n1_ := Aside0.mk ((show Below W0.heap.size W0 _ by repeat (first | exact HB2.out | apply below_alloc | apply pw_below_drewN | apply below_drew)).trans (hb.mono (by have := HB2.out.size; simp; try omega))); clear HB2; have HB2 := n1_; clear n1_; have l0_ := (HB2.out.cell (p := ⟨w.heap.size, 0, none⟩) hbx).trans cx0; have l1_ := (HB2.out.cell (p := ⟨w.heap.size, 1, none⟩) hbx).trans cx1; have l2_ := (HB2.out.cell (p := ⟨w.heap.size + 1, 0, none⟩) hby).trans cy0; have l3_ := (HB2.out.cell (p := ⟨w.heap.size + 1, 1, none⟩) hby).trans cy1; have B7 := Aside0.mk (Below.refl w7.heap.size w7); clear hb hR
        go_wp2_with (fail)
        refine (HRA.out _ _ _ _ HR7.out B7.out).mono ?_; rintro e w8 ⟨v8, rfl, hR, hb⟩; have HR8 := Aside0.mk hR; have n1_ := Aside0.mk ((show Below w7.heap.size w7 _ by repeat (first | exact B7.out | apply below_alloc | apply pw_below_drewN | apply below_drew)).trans (hb.mono (by have := B7.out.size; simp; try omega))); clear B7; have B7 := n1_; clear n1_; have n1_ := Aside0.mk ((show Below W0.heap.size W0 _ by repeat (first | exact HB2.out | apply below_alloc | apply pw_below_drewN | apply below_drew)).trans (hb.mono (by have := HB2.out.size; simp; try omega))); clear HB2; have HB2 := n1_; clear n1_; have l0_ := (HB2.out.cell (p := ⟨w.heap.size, 0, none⟩) hbx).trans cx0; have l1_ := (HB2.out.cell (p := ⟨w.heap.size, 1, none⟩) hbx).trans cx1; have l2_ := (HB2.out.cell (p := ⟨w.heap.size + 1, 0, none⟩) hby).trans cy0; have l3_ := (HB2.out.cell (p := ⟨w.heap.size + 1, 1, none⟩) hby).trans cy1; have B8 := Aside0.mk (Below.refl w8.heap.size w8); clear hb hR
        go_wp2_with (fail)
        refine (HIAx.out _ _ _ _ HR7.out B7.out).mono ?_; rintro e w9 ⟨v9, rfl, hR, hb⟩; have n1_ := Aside0.mk ((show Below w7.heap.size w7 _ by repeat (first | exact B7.out | apply below_alloc | apply pw_below_drewN | apply below_drew)).trans (hb.mono (by have := B7.out.size; simp; try omega))); clear B7; have B7 := n1_; clear n1_; have n1_ := Aside0.mk ((show Below w8.heap.size w8 _ by repeat (first | exact B8.out | apply below_alloc | apply pw_below_drewN | apply below_drew)).trans (hb.mono (by have := B8.out.size; simp; try omega))); clear B8; have B8 := n1_; clear n1_; have n1_ := Aside0.mk ((show Below W0.heap.size W0 _ by repeat (first | exact HB2.out | apply below_alloc | apply pw_below_drewN | apply below_drew)).trans (hb.mono (by have := HB2.out.size; simp; try omega))); clear HB2; have HB2 := n1_; clear n1_; have l0_ := (HB2.out.cell (p := ⟨w.heap.size, 0, none⟩) hbx).trans cx0; have l1_ := (HB2.out.cell (p := ⟨w.heap.size, 1, none⟩) hbx).trans cx1; have l2_ := (HB2.out.cell (p := ⟨w.heap.size + 1, 0, none⟩) hby).trans cy0; have l3_ := (HB2.out.cell (p := ⟨w.heap.size + 1, 1, none⟩) hby).trans cy1; clear hb hR
        go_wp2_with (first
          | (go_at_call 24; refine (HMA.out _ _ _ _ HR7.out B7.out).mono ?_; rintro e w10 ⟨rfl, hb⟩; have n1_ := Aside0.mk ((show Below w7.heap.size w7 _ by repeat (first | exact B7.out | apply below_alloc | apply pw_below_drewN | apply below_drew)).trans (hb.mono (by have := B7.out.size; simp; try omega))); clear B7; have B7 := n1_; clear n1_; have n1_ := Aside0.mk ((show Below w8.heap.size w8 _ by repeat (first | exact B8.out | apply below_alloc | apply pw_below_drewN | apply below_drew)).trans (hb.mono (by have := B8.out.size; simp; try omega))); clear B8; have B8 := n1_; clear n1_; have n1_ := Aside0.mk ((show Below W0.heap.size W0 _ by repeat (first | exact HB2.out | apply below_alloc | apply pw_below_drewN | apply below_drew)).trans (hb.mono (by have := HB2.out.size; simp; try omega))); clear HB2; have HB2 := n1_; clear n1_; have l0_ := (HB2.out.cell (p := ⟨w.heap.size, 0, none⟩) hbx).trans cx0; have l1_ := (HB2.out.cell (p := ⟨w.heap.size, 1, none⟩) hbx).trans cx1; have l2_ := (HB2.out.cell (p := ⟨w.heap.size + 1, 0, none⟩) hby).trans cy0; have l3_ := (HB2.out.cell (p := ⟨w.heap.size + 1, 1, none⟩) hby).trans cy1; clear hb)
          | (go_at_call 15; refine (HCA.out _ _ _ _ HR7.out B7.out).mono ?_; rintro e w11 ⟨rfl, hb⟩; have n1_ := Aside0.mk ((show Below w7.heap.size w7 _ by repeat (first | exact B7.out | apply below_alloc | apply pw_below_drewN | apply below_drew)).trans (hb.mono (by have := B7.out.size; simp; try omega))); clear B7; have B7 := n1_; clear n1_; have n1_ := Aside0.mk ((show Below w8.heap.size w8 _ by repeat (first | exact B8.out | apply below_alloc | apply pw_below_drewN | apply below_drew)).trans (hb.mono (by have := B8.out.size; simp; try omega))); clear B8; have B8 := n1_; clear n1_; have n1_ := Aside0.mk ((show Below W0.heap.size W0 _ by repeat (first | exact HB2.out | apply below_alloc | apply pw_below_drewN | apply below_drew)).trans (hb.mono (by have := HB2.out.size; simp; try omega))); clear HB2; have HB2 := n1_; clear n1_; have l0_ := (HB2.out.cell (p := ⟨w.heap.size, 0, none⟩) hbx).trans cx0; have l1_ := (HB2.out.cell (p := ⟨w.heap.size, 1, none⟩) hbx).trans cx1; have l2_ := (HB2.out.cell (p := ⟨w.heap.size + 1, 0, none⟩) hby).trans cy0; have l3_ := (HB2.out.cell (p := ⟨w.heap.size + 1, 1, none⟩) hby).trans cy1; clear hb)
          | (go_at_call 16; refine (HSA.out _ _ _ _ HR8.out B8.out HB2.out).mono ?_; rintro e w12 ⟨rfl, ⟨q12, rfl⟩⟩))
        go_wp2_with (first
          | (go_at_call 22; refine (HIY.out _ (by repeat (first | exact HB2.out | apply below_alloc | apply pw_below_drewN | apply below_drew))).mono ?_; clear HIY; rintro e w13 ⟨v13, rfl, hR, hb⟩; have HR13 := Aside0.mk hR; have n1_ := Aside0.mk ((show Below w7.heap.size w7 _ by repeat (first | exact B7.out | apply below_alloc | apply pw_below_drewN | apply below_drew)).trans (hb.mono (by have := B7.out.size; simp; try omega))); clear B7; have B7 := n1_; clear n1_; have n1_ := Aside0.mk ((show Below W0.heap.size W0 _ by repeat (first | exact HB2.out | apply below_alloc | apply pw_below_drewN | apply below_drew)).trans (hb.mono (by have := HB2.out.size; simp; try omega))); clear HB2; have HB2 := n1_; clear n1_; have l0_ := (HB2.out.cell (p := ⟨w.heap.size, 0, none⟩) hbx).trans cx0; have l1_ := (HB2.out.cell (p := ⟨w.heap.size, 1, none⟩) hbx).trans cx1; have l2_ := (HB2.out.cell (p := ⟨w.heap.size + 1, 0, none⟩) hby).trans cy0; have l3_ := (HB2.out.cell (p := ⟨w.heap.size + 1, 1, none⟩) hby).trans cy1; have B13 := Aside0.mk (Below.refl w13.heap.size w13); clear hb hR)
          | (go_at_call 12; refine (HA.out _).mono ?_; rintro e wa ⟨rfl, hb⟩; have n1_ := Aside0.mk ((show Below W0.heap.size W0 _ by repeat (first | exact HB2.out | apply below_alloc | apply pw_below_drewN | apply below_drew)).trans (hb.mono (by have := HB2.out.size; simp; try omega))); clear HB2; have HB2 := n1_; clear n1_; clear hb))
        go_ret
        exact ⟨rfl, hw0.out.trans (HB2.out.mono hw0.out.size)⟩
    · have hb := insS_bad h1
      rw [hb] at HIX
      have e1 : ((insS l x).2 == 0) = false := by simpa using h1
      have e2 : ((insS l x).2 != 0) = true := by simpa using h1
      clear h1 hb hr hc0
      generalize (insS l x).2 = ec at *
      refine (HG.out W0 (w.heap.size + 1 + 1) HSZ.out.symm (by repeat (first | exact HB2.out | apply below_alloc | apply pw_below_drewN | apply below_drew))).mono ?_
      rintro e wg ⟨rfl, ⟨qg, rfl⟩⟩
      go_wp2_with (first
        | (go_at_call 22; refine (HIX.out _ (by repeat (first | exact HB2.out | apply below_alloc | apply pw_below_drewN | apply below_drew))).mono ?_; rintro e w7 ⟨v7, rfl, hR, hb⟩; obtain ⟨A7, c7, rfl⟩ : ∃ A c, v7 = .slice A 0 c := (by obtain ⟨A, c, h, _⟩ := Kd.R_reads hR; exact ⟨A, c, h⟩); have HR7 := Aside0.mk hR; have n1_ := Aside0.mk ((show Below W0.heap.size W0 _ by repeat (first | exact HB2.out | apply below_alloc | apply pw_below_drewN | apply below_drew)).trans (hb.mono (by have := HB2.out.size; simp; try omega))); clear HB2; have HB2 := n1_; clear n1_; have l0_ := (HB2.out.cell (p := ⟨w.heap.size, 0, none⟩) hbx).trans cx0; have l1_ := (HB2.out.cell (p := ⟨w.heap.size, 1, none⟩) hbx).trans cx1; have l2_ := (HB2.out.cell (p := ⟨w.heap.size + 1, 0, none⟩) hby).trans cy0; have l3_ := (HB2.out.cell (p := ⟨w.heap.size + 1, 1, none⟩) hby).trans cy1; have B7 := Aside0.mk (Below.refl w7.heap.size w7); clear hb hR)
        | (go_at_call 12; refine (HA.out _).mono ?_; rintro e wa ⟨rfl, hb⟩; have n1_ := Aside0.mk ((show Below W0.heap.size W0 _ by repeat (first | exact HB2.out | apply below_alloc | apply pw_below_drewN | apply below_drew)).trans (hb.mono (by have := HB2.out.size; simp; try omega))); clear HB2; have HB2 := n1_; clear n1_; clear hb))
      go_ret
      exact ⟨rfl, hw0.out.trans (HB2.out.mono hw0.out.size)⟩
end Go.Proofs.Ytjgkcgfbkcbjfaa.H

/- The walk of SeriesChange. -/
import Derived.Test.YtjgkcgfbkcbjfaaSLIns
import Derived.Test.YtjgkcgfbkcbjfaaSMerge
namespace Go.Proofs.Ytjgkcgfbkcbjfaa.H
open Go Go.RowKit Go.Proofs.YtjgkcgfbkcbjfaaW.PrintWords Go.Proofs.YtjgkcgfbkcbjfaaW.PrintLast Go.Proofs.YtjgkcgfbkcbjfaaW.PrintMore Go.Proofs.Ytjgkcgfbkcbjfaa.PAll
set_option linter.unusedVariables false
set_option linter.unusedSimpArgs false

theorem rInsert_calls (A : Option Addr) (c : Nat) (l : L29) (x : S29) (w : World) (hr : Kd.C k29 w A l.length l) (hc : l.length ≤ c) (hl : l.length ≤ 1000000) :
    Calls Try.prog 28 #[.slice A l.length c, .agg #[Value.int .i64 x.f0, Value.int .i64 x.f1]] w (RT w (insS l x).1 (insS l x).2) :=
  lookoutref11_Insert.calls (2 * l.length + 4) A c l x.f0 x.f1 _ _ w hr hc (rInsert_f l x _ hl (by omega))
theorem rRemove_calls (A : Option Addr) (c : Nat) (l : L29) (t : Int) (w : World) (hr : Kd.C k29 w A l.length l) (hc : l.length ≤ c) (hl : l.length ≤ 1000000) :
    Calls Try.prog 29 #[.slice A l.length c, .int .i64 t] w (RT w (remS l t).1 (remS l t).2) :=
  lookoutref11_Remove.calls (2 * l.length + 4) A c l t _ _ w hr hc (rRemove_f l t _ hl (by omega))
theorem heapE : Kd.Heap k29 := ⟨fun _ h => h⟩
theorem rMerge_calls (A B : Option Addr) (c d : Nat) (a b : L29) (w : World) (hA : Kd.C k29 w A a.length a) (hc : a.length ≤ c) (hB : Kd.C k29 w B b.length b) (hd : b.length ≤ d) (hla : a.length ≤ 400000) (hlb : b.length ≤ 400000) :
    Calls Try.prog 30 #[.slice A a.length c, .slice B b.length d] w (RT w (mrgS a b).1 (mrgS a b).2) := by
  refine (lookoutref11_Merge.calls (3 * (a.length + b.length) + 5) (fun k => k < w.heap.size) A c a (fun k => k < w.heap.size) B d b _ _ w (Kd.V_mk hc (Kd.C_F heapE hA)) (Kd.V_mk hd (Kd.C_F heapE hB)) (rMerge_f a b _ (by omega) (by omega))).mono ?_
  rintro e w' ⟨v, rfl, hR, hb⟩
  exact ⟨v, rfl, Kd.R_mono hR (fun _ _ => trivial), hb⟩

theorem insS_len1 (l : L29) (x : S29) (h : l.length ≤ 900000) : (insS l x).1.length ≤ 1000000 := by have := insS_len l x; omega
theorem remS_len (l : L29) (t : Int) : (remS l t).1.length ≤ l.length := by
  unfold remS
  split
  · split
    · simp [delL]; omega
    · simp
  · simp
theorem mrgS_len (a b : L29) : (mrgS a b).1.length ≤ a.length + b.length := by
  unfold mrgS
  split
  · unfold mg
    cases h : mgF (a.length + b.length) a b with
    | none => simp
    | some m => have := mgF_len _ _ _ _ h; dsimp only; split <;> simp <;> omega
  · simp

set_option maxRecDepth 100000 in
set_option maxHeartbeats 16000000 in
theorem SeriesChange_row (w : World) (A : Option Addr) (a : L29) (c : Nat) (hA : Kd.C k29 w A a.length a) (hc : a.length ≤ c) (_ : ∀ x ∈ a, (Lit.int .i64 x.f0).wf = true ∧ (Lit.int .i64 x.f1).wf = true)
    (B : Option Addr) (b : L29) (d : Nat) (hB : Kd.C k29 w B b.length b) (hd : b.length ≤ d) (_ : ∀ x ∈ b, (Lit.int .i64 x.f0).wf = true ∧ (Lit.int .i64 x.f1).wf = true)
    (x : S29) (_ : (Lit.int .i64 x.f0).wf = true ∧ (Lit.int .i64 x.f1).wf = true) :
    Calls Try.prog 9 #[.slice A a.length c, .slice B b.length d, .agg #[Value.int .i64 x.f0, Value.int .i64 x.f1]] w fun e w' => e = .returned (.bool true) ∧ Below w.heap.size w w' := by
  have HA := Aside0.mk (fun W => awake_calls W)
  go_enter Try.func9, Try.ntmps9
  go_wp2_with (fail)
  have hX := heap_alloc_new w (.cells #[Value.int .i64 x.f0, Value.int .i64 x.f1] 29)
  have hw0 := Aside0.mk (show Below w.heap.size w (w.alloc (.cells #[Value.int .i64 x.f0, Value.int .i64 x.f1] 29)) by repeat (first | exact Below.refl _ _ | apply below_alloc))
  have hsz : (w.alloc (.cells #[Value.int .i64 x.f0, Value.int .i64 x.f1] 29)).heap.size = w.heap.size + 1 := by simp
  obtain ⟨W0, hW0⟩ : ∃ W0, w.alloc (.cells #[Value.int .i64 x.f0, Value.int .i64 x.f1] 29) = W0 := ⟨_, rfl⟩
  rw [hW0] at hX hw0 hsz ⊢
  clear hW0
  have hrA := Kd.C_below hA hw0.out
  have hrB := Kd.C_below hB hw0.out
  clear hA hB
  have cx0 := cell_of_heap hX 0 _ rfl
  have cx1 := cell_of_heap hX 1 _ rfl
  have hbx : w.heap.size < W0.heap.size := by omega
  have HSZ := Aside0.mk hsz
  clear hsz hX
  have HB2 := Aside0.mk (Below.refl W0.heap.size W0)
  have HG := Aside0.mk (fun W n hn (h : Below W0.heap.size W0 W) => great2 W n hn A B c d a b (Kd.C_below hrA h) hc (Kd.C_below hrB h) hd)
  have kx0 := (below_alloc (Below.refl W0.heap.size W0) (.cells #[.slice A a.length c, .slice B b.length d] 22)).cell (p := ⟨w.heap.size, 0, none⟩) hbx |>.trans cx0
  have kx1 := (below_alloc (Below.refl W0.heap.size W0) (.cells #[.slice A a.length c, .slice B b.length d] 22)).cell (p := ⟨w.heap.size, 1, none⟩) hbx |>.trans cx1
  cases hg : (greatB a || greatB b) with
  | true =>
    rw [hg] at HG
    clear hg hrA hrB hc hd
    refine (HG.out W0 (w.heap.size + 1) HSZ.out.symm (by repeat (first | exact HB2.out | apply below_alloc | apply pw_below_drewN | apply below_drew))).mono ?_
    rintro e wg ⟨rfl, ⟨qg, rfl⟩⟩
    go_wp2_with (first
      | (go_at_call 12; refine (HA.out _).mono ?_; rintro e wa ⟨rfl, hb⟩; have n1_ := Aside0.mk ((show Below W0.heap.size W0 _ by repeat (first | exact HB2.out | apply below_alloc | apply pw_below_drewN | apply below_drew)).trans (hb.mono (by have := HB2.out.size; simp; try omega))); clear HB2; have HB2 := n1_; clear n1_; clear hb))
    go_ret
    exact ⟨rfl, hw0.out.trans (HB2.out.mono hw0.out.size)⟩
  | false =>
    have hl24 : a.length ≤ 24 ∧ b.length ≤ 24 := by simpa [greatB] using hg
    obtain ⟨hla, hlb⟩ := hl24
    rw [hg] at HG
    clear hg
    have HI := Aside0.mk (fun W (h : Below W0.heap.size W0 W) => Insert_S A c a x W (Kd.C_below hrA h) hc (by omega))
    have HJ := Aside0.mk (fun W (h : Below W0.heap.size W0 W) => rInsert_calls A c a x W (Kd.C_below hrA h) hc (by omega))
    have HR := Aside0.mk (fun W (h : Below W0.heap.size W0 W) => Remove_S A c a x.f0 W (Kd.C_below hrA h) hc (by omega))
    have HS := Aside0.mk (fun W (h : Below W0.heap.size W0 W) => rRemove_calls A c a x.f0 W (Kd.C_below hrA h) hc (by omega))
    have HM := Aside0.mk (fun W (h : Below W0.heap.size W0 W) => Merge_calls A B c d a b W (Kd.C_below hrA h) hc (Kd.C_below hrB h) hd (by omega) (by omega))
    have HN := Aside0.mk (fun W (h : Below W0.heap.size W0 W) => rMerge_calls A B c d a b W (Kd.C_below hrA h) hc (Kd.C_below hrB h) hd (by omega) (by omega))
    have HX1 := Aside0.mk (fun v v' b0 b' W W' h1 h2 hb => Same_R v v' b0 b' (fun _ => True) (fun _ => True) (insS a x).1 (insS a x).1 W W' h1 h2 hb (insS_len1 a x (by omega)))
    have HX2 := Aside0.mk (fun v v' b0 b' W W' h1 h2 hb => Same_R v v' b0 b' (fun _ => True) (fun _ => True) (remS a x.f0).1 (remS a x.f0).1 W W' h1 h2 hb (by have := remS_len a x.f0; omega))
    have HX3 := Aside0.mk (fun v v' b0 b' W W' h1 h2 hb => Same_R v v' b0 b' (fun _ => True) (fun _ => True) (mrgS a b).1 (mrgS a b).1 W W' h1 h2 hb (by have := mrgS_len a b; omega))
    rw [sameB_refl] at HX1 HX2 HX3
    clear hrA hrB hc hd hla hlb
    generalize (insS a x) = r1 at *
    generalize (remS a x.f0) = r2 at *
    generalize (mrgS a b) = r3 at *
    refine (HG.out W0 (w.heap.size + 1) HSZ.out.symm (by repeat (first | exact HB2.out | apply below_alloc | apply pw_below_drewN | apply below_drew))).mono ?_
    rintro e wg ⟨rfl, ⟨qg, rfl⟩⟩
    go_wp2_with (first
      | (go_at_call 22; refine (HI.out _ (by repeat (first | exact HB2.out | apply below_alloc | apply pw_below_drewN | apply below_drew))).mono ?_; rintro e w1 ⟨v1, rfl, hR, hb⟩; have HR1 := Aside0.mk hR; have n1_ := Aside0.mk ((show Below W0.heap.size W0 _ by repeat (first | exact HB2.out | apply below_alloc | apply pw_below_drewN | apply below_drew)).trans (hb.mono (by have := HB2.out.size; simp; try omega))); clear HB2; have HB2 := n1_; clear n1_; have l0_ := (HB2.out.cell (p := ⟨w.heap.size, 0, none⟩) hbx).trans cx0; have l1_ := (HB2.out.cell (p := ⟨w.heap.size, 1, none⟩) hbx).trans cx1; clear hb hR)
      | (go_at_call 28; refine (HJ.out _ (by repeat (first | exact HB2.out | apply below_alloc | apply pw_below_drewN | apply below_drew))).mono ?_; rintro e w2 ⟨v2, rfl, hR, hb⟩; have HR2 := Aside0.mk hR; have HB12 := Aside0.mk hb; have n1_ := Aside0.mk ((show Below W0.heap.size W0 _ by repeat (first | exact HB2.out | apply below_alloc | apply pw_below_drewN | apply below_drew)).trans (hb.mono (by have := HB2.out.size; simp; try omega))); clear HB2; have HB2 := n1_; clear n1_; have l0_ := (HB2.out.cell (p := ⟨w.heap.size, 0, none⟩) hbx).trans cx0; have l1_ := (HB2.out.cell (p := ⟨w.heap.size, 1, none⟩) hbx).trans cx1; clear hb hR)
      | (go_at_call 16; refine (HX1.out _ _ _ _ _ _ HR1.out HR2.out HB12.out).mono ?_; rintro e w3 ⟨rfl, ⟨q3, rfl⟩⟩; clear HX1 HI HJ)
      | (go_at_call 23; refine (HR.out _ (by repeat (first | exact HB2.out | apply below_alloc | apply pw_below_drewN | apply below_drew))).mono ?_; rintro e w4 ⟨v4, rfl, hR, hb⟩; have HR4 := Aside0.mk hR; have n1_ := Aside0.mk ((show Below W0.heap.size W0 _ by repeat (first | exact HB2.out | apply below_alloc | apply pw_below_drewN | apply below_drew)).trans (hb.mono (by have := HB2.out.size; simp; try omega))); clear HB2; have HB2 := n1_; clear n1_; have l0_ := (HB2.out.cell (p := ⟨w.heap.size, 0, none⟩) hbx).trans cx0; have l1_ := (HB2.out.cell (p := ⟨w.heap.size, 1, none⟩) hbx).trans cx1; clear hb hR)
      | (go_at_call 29; refine (HS.out _ (by repeat (first | exact HB2.out | apply below_alloc | apply pw_below_drewN | apply below_drew))).mono ?_; rintro e w5 ⟨v5, rfl, hR, hb⟩; have HR5 := Aside0.mk hR; have HB45 := Aside0.mk hb; have n1_ := Aside0.mk ((show Below W0.heap.size W0 _ by repeat (first | exact HB2.out | apply below_alloc | apply pw_below_drewN | apply below_drew)).trans (hb.mono (by have := HB2.out.size; simp; try omega))); clear HB2; have HB2 := n1_; clear n1_; have l0_ := (HB2.out.cell (p := ⟨w.heap.size, 0, none⟩) hbx).trans cx0; have l1_ := (HB2.out.cell (p := ⟨w.heap.size, 1, none⟩) hbx).trans cx1; clear hb hR)
      | (go_at_call 16; refine (HX2.out _ _ _ _ _ _ HR4.out HR5.out HB45.out).mono ?_; rintro e w6 ⟨rfl, ⟨q6, rfl⟩⟩; clear HX2 HR HS)
      | (go_at_call 26; refine (HM.out _ (by repeat (first | exact HB2.out | apply below_alloc | apply pw_below_drewN | apply below_drew))).mono ?_; rintro e w7 ⟨v7, rfl, hR, hb⟩; have HR7 := Aside0.mk hR; have n1_ := Aside0.mk ((show Below W0.heap.size W0 _ by repeat (first | exact HB2.out | apply below_alloc | apply pw_below_drewN | apply below_drew)).trans (hb.mono (by have := HB2.out.size; simp; try omega))); clear HB2; have HB2 := n1_; clear n1_; have l0_ := (HB2.out.cell (p := ⟨w.heap.size, 0, none⟩) hbx).trans cx0; have l1_ := (HB2.out.cell (p := ⟨w.heap.size, 1, none⟩) hbx).trans cx1; clear hb hR)
      | (go_at_call 30; refine (HN.out _ (by repeat (first | exact HB2.out | apply below_alloc | apply pw_below_drewN | apply below_drew))).mono ?_; rintro e w8 ⟨v8, rfl, hR, hb⟩; have HR8 := Aside0.mk hR; have HB78 := Aside0.mk hb; have n1_ := Aside0.mk ((show Below W0.heap.size W0 _ by repeat (first | exact HB2.out | apply below_alloc | apply pw_below_drewN | apply below_drew)).trans (hb.mono (by have := HB2.out.size; simp; try omega))); clear HB2; have HB2 := n1_; clear n1_; have l0_ := (HB2.out.cell (p := ⟨w.heap.size, 0, none⟩) hbx).trans cx0; have l1_ := (HB2.out.cell (p := ⟨w.heap.size, 1, none⟩) hbx).trans cx1; clear hb hR)
      | (go_at_call 16; refine (HX3.out _ _ _ _ _ _ HR7.out HR8.out HB78.out).mono ?_; rintro e w9 ⟨rfl, ⟨q9, rfl⟩⟩; clear HX3)
      | (go_at_call 12; refine (HA.out _).mono ?_; rintro e wa ⟨rfl, hb⟩; have n1_ := Aside0.mk ((show Below W0.heap.size W0 _ by repeat (first | exact HB2.out | apply below_alloc | apply pw_below_drewN | apply below_drew)).trans (hb.mono (by have := HB2.out.size; simp; try omega))); clear HB2; have HB2 := n1_; clear n1_; clear hb))
    go_ret
    exact ⟨rfl, hw0.out.trans (HB2.out.mono hw0.out.size)⟩
end Go.Proofs.Ytjgkcgfbkcbjfaa.H

/- The walk of SeriesMerge. -/
import Derived.Test.YtjgkcgfbkcbjfaaSMN
namespace Go.Proofs.Ytjgkcgfbkcbjfaa.H
open Go Go.RowKit Go.Shelf Go.Proofs.YtjgkcgfbkcbjfaaW.PrintWords Go.Proofs.YtjgkcgfbkcbjfaaW.PrintLast Go.Proofs.YtjgkcgfbkcbjfaaW.PrintMore Go.Proofs.Ytjgkcgfbkcbjfaa.PAll
set_option linter.unusedVariables false
set_option linter.unusedSimpArgs false
attribute [local go_sem] Oper.semAt_some

theorem rValid_calls (A : Option Addr) (c : Nat) (l : L29) (w : World) (hr : Kd.C k29 w A l.length l) (hc : l.length ≤ c) (hl : l.length ≤ 1000000) :
    Calls Try.prog 25 #[.slice A l.length c] w fun e w' => e = .returned (.bool (chkK 1 l == 0)) ∧ Below w.heap.size w w' :=
  lookoutref11_Valid.calls (2 * l.length + 3) A c l _ w hr hc (rValid_f l _ (by omega) (by omega))

theorem drawn_below {W W' : World} (h : Drawn0 W W') : Below W.heap.size W W' := by obtain ⟨q, rfl⟩ := h; exact pw_below_drewN (Below.refl _ _) q
theorem boxN {X Y : World} {row : Option Nat} {N B : Nat} {t : TypeId} {v : Value} (h : Boxed X B t v) (hg : X.grownBy Y row) (hr : ∀ r, row = some r → N ≤ r ∧ ∃ o : Obj, X.heap[r]? = some o ∧ o.isCells = false) : Boxed Y B t v :=
  h.kept hg (fun e => by obtain ⟨_, o, ho, hc⟩ := hr B e.symm; rw [show X.heap[B]? = _ from h] at ho; cases ho; cases hc)
theorem C_keptN {X Y : World} {row : Option Nat} {N : Nat} {A : Option Addr} {n : Nat} {xs : L29} (h : Kd.C k29 X A n xs) (hg : X.grownBy Y row) (hr : ∀ r, row = some r → N ≤ r ∧ ∃ o : Obj, X.heap[r]? = some o ∧ o.isCells = false) : Kd.C k29 Y A n xs :=
  ⟨h.1, h.2.1, fun h0 => by
    obtain ⟨ad, e, hc⟩ := h.2.2 h0
    exact ⟨ad, e, fun j p hj => by
      obtain ⟨c, h1, h2, h3⟩ := hc j p hj
      exact ⟨c, h1, h2, fun i u hu => cell_kept (h3 i u hu) hg (fun r e => (hr r e).2)⟩⟩⟩
/-- A store outside of a row that was there. -/
theorem keeps_of_below {B : Nat} {W W' : World} (h : Below W.heap.size W W') : KeepsFrom B W W' := ⟨h.size, fun k o _ hk _ => (h.block k (heap_lt hk)).trans hk⟩
theorem putA_len (a : L29) : ∀ pre : List (Int × S29), (putA a pre).length ≤ a.length + pre.length := by
  intro pre
  induction pre generalizing a with
  | nil => simp [putA]
  | cons p pre ih =>
    have h := ih (put1 a p.2)
    have h2 : (put1 a p.2).length ≤ a.length + 1 := by
      unfold put1
      split
      · omega
      · exact insS_len a p.2
    simp only [putA, List.foldl_cons, List.length_cons] at *
    omega

set_option maxRecDepth 100000 in
set_option maxHeartbeats 16000000 in
theorem SeriesMerge_in (w : World) (A : Option Addr) (a : L29) (c0 : Nat) (hrA : Kd.C k29 w A a.length a) (hcA : a.length ≤ c0)
    (B : Option Addr) (b : L29) (c1 : Nat) (hrB : Kd.C k29 w B b.length b) (hcB : b.length ≤ c1)
    (C : Option Addr) (c : L29) (c2 : Nat) (hrC : Kd.C k29 w C c.length c) (hcC : c.length ≤ c2) :
    CallsIn Fence.wide 6 Try.prog 7 #[.slice A a.length c0, .slice B b.length c1, .slice C c.length c2] w fun e w' => e = .returned (.bool true) ∧ Below w.heap.size w w' := by
  have HA := Aside0.mk (fun W => awake_calls W)
  have bR := Boxed.new w 4 (.bool false)
  have hw0 := Aside0.mk (show Below w.heap.size w (w.alloc (.cells #[.bool false] 4)) by repeat (first | exact Below.refl _ _ | apply below_alloc))
  have hsz : (w.alloc (.cells #[.bool false] 4)).heap.size = w.heap.size + 1 := by simp
  refine callsIn_of_wp_marks Try.func7 rfl trivial ?_ rfl
  simp only [Try.ntmps7, List.size_toArray, List.length_cons, List.length_nil, Nat.reduceAdd, Nat.reduceSub, Array.replicate_succ, Array.replicate_zero, List.push_toArray, List.append_toArray, List.nil_append, List.cons_append]
  gi_wp2_with (fail)
  obtain ⟨W0, hW0⟩ : ∃ W0, w.alloc (.cells #[.bool false] 4) = W0 := ⟨_, rfl⟩
  rw [hW0] at bR hw0 hsz ⊢
  clear hW0
  have hA := Kd.C_below hrA hw0.out
  have hB := Kd.C_below hrB hw0.out
  have hC := Kd.C_below hrC hw0.out
  clear hrA hrB hrC
  have HB2 := Aside0.mk (Below.refl W0.heap.size W0)
  have HG := Aside0.mk (fun W n hn (h : Below W0.heap.size W0 W) => great3 W n hn A B C c0 c1 c2 a b c (Kd.C_below hA h) hcA (Kd.C_below hB h) hcB (Kd.C_below hC h) hcC)
  cases hg : (greatB a || greatB b || greatB c) with
  | true =>
    rw [hg] at HG
    clear hg hA hB hC hcA hcB hcC
    gi_wp2_with (first
      | (refine ⟨trivial, ?_⟩; gi_at_call 10; refine (callsIn_wide.2 (HG.out _ _ hsz.symm (by repeat (first | exact HB2.out | apply below_alloc | apply pw_below_drewN | apply below_drew)))).mono ?_; rintro e w1 ⟨rfl, ⟨q, rfl⟩⟩; clear HG)
      | (refine ⟨trivial, ?_⟩; gi_at_call 12; refine (callsIn_wide.2 (HA.out _)).mono ?_; rintro e wa ⟨rfl, hb⟩; have n1_ := Aside0.mk ((show Below W0.heap.size W0 _ by repeat (first | exact HB2.out | apply below_alloc | apply pw_below_drewN | apply below_drew)).trans (hb.mono (by have := HB2.out.size; simp; try omega))); clear HB2; have HB2 := n1_; clear n1_; have bA := Boxed.below' bR HB2.out bR.lt; have cA := bA.cell; have fA := bA.frozen)
      | (refine ⟨trivial, ?_⟩; gi_wp2))
    exact ⟨.bool true, by simp [results, Try.results7, go_sem, (bA.set (.bool true)).cell], rfl, hw0.out.trans ((HB2.out.mono hw0.out.size).setCell (p := ⟨w.heap.size, 0, none⟩) (Nat.le_refl _) _)⟩
  | false =>
    have hl24 : (a.length ≤ 24 ∧ b.length ≤ 24) ∧ c.length ≤ 24 := by simpa [greatB] using hg
    obtain ⟨⟨hla, hlb⟩, hlc⟩ := hl24
    rw [hg] at HG
    clear hg
    have HVA := Aside0.mk (fun W (h : Below W0.heap.size W0 W) => rValid_calls A c0 a W (Kd.C_below hA h) hcA (by omega))
    have HVB := Aside0.mk (fun W (h : Below W0.heap.size W0 W) => rValid_calls B c1 b W (Kd.C_below hB h) hcB (by omega))
    have HVC := Aside0.mk (fun W (h : Below W0.heap.size W0 W) => rValid_calls C c2 c W (Kd.C_below hC h) hcC (by omega))
    by_cases ha : chkK 1 a = 0
    · have e1 : (chkK 1 a == 0) = true := by simpa using ha
      rw [e1] at HVA
      by_cases hb : chkK 1 b = 0
      · have e2 : (chkK 1 b == 0) = true := by simpa using hb
        rw [e2] at HVB
        by_cases hc : chkK 1 c = 0
        · have e3 : (chkK 1 c == 0) = true := by simpa using hc
          rw [e3] at HVC
          have HM1 := Aside0.mk (fun W (h : Below W0.heap.size W0 W) => Merge_calls A B c0 c1 a b W (Kd.C_below hA h) hcA (Kd.C_below hB h) hcB (by omega) (by omega))
          have HM2 := Aside0.mk (fun W (h : Below W0.heap.size W0 W) => Merge_calls B A c1 c0 b a W (Kd.C_below hB h) hcB (Kd.C_below hA h) hcA (by omega) (by omega))
          have HM3 := Aside0.mk (fun W (h : Below W0.heap.size W0 W) => Merge_calls A A c0 c0 a a W (Kd.C_below hA h) hcA (Kd.C_below hA h) hcA (by omega) (by omega))
          rw [mrg_comm ha hb (by omega)] at HM2
          rw [mrg_self ha (by omega)] at HM3
          have hML := mrgS_len a b
          have HS1 := Aside0.mk (fun v v' b0 b' W W' h1 h2 h3 => Same_R v v' b0 b' (fun _ => True) (fun _ => True) (mrgS a b).1 (mrgS a b).1 W W' h1 h2 h3 (by omega))
          rw [sameB_refl] at HS1
          have HS2 := Aside0.mk (fun v b0 W W' (h1 : Kd.R k29 29 W b0 (fun _ => True) v a) (h2 : Below W.heap.size W W') (h3 : Below W0.heap.size W0 W') => show Calls Try.prog 16 #[v, .slice A a.length c0] W' fun e w' => e = .returned (.bool true) ∧ Drawn0 W' w' by
            obtain ⟨A', c', rfl, hc', hC⟩ := Kd.R_reads h1
            have h := Same_calls A' A c' c0 a a W' (Kd.C_below hC h2) hc' (Kd.C_below hA h3) hcA (by omega)
            rw [sameB_refl] at h
            exact h)
          by_cases hz : (mrgS a b).2 = 0
          · have HL := Aside0.mk (fun pre hp => putA_ok ha hb (mrg_fine ha hb (by omega) hz).1 (by omega) pre hp)
            have HST := Aside0.mk (fun pre p (hp : pre ++ [p] <+: bwd b) => (put_step hb (mrg_fine ha hb (by omega) hz).1 (putA_ok ha hb (mrg_fine ha hb (by omega) hz).1 (by omega) pre ((List.prefix_append pre [p]).trans hp)) (fun q hq => bwd_mem b q (hp.subset hq)) (by have := hp.length_le; rw [bwd_length] at this; simp at this; omega)).2)
            have HALL := Aside0.mk (putA_all ha hb (by omega) hz)
            have HMC := Aside0.mk (fun W (h : Below W0.heap.size W0 W) => Merge_calls B C c1 c2 b c W (Kd.C_below hB h) hcB (Kd.C_below hC h) hcC (by omega) (by omega))
            rw [hz] at HM1 HM2
            gi_wp2_with (first
              | (refine ⟨trivial, ?_⟩; gi_at_call 10; refine (callsIn_wide.2 (HG.out _ _ hsz.symm (by repeat (first | exact HB2.out | apply below_alloc | apply pw_below_drewN | apply below_drew)))).mono ?_; rintro e w1 ⟨rfl, ⟨q, rfl⟩⟩; clear HG)
              | (refine ⟨trivial, ?_⟩; gi_at_call 25; refine (callsIn_wide.2 (HVA.out _ (by repeat (first | exact HB2.out | apply below_alloc | apply pw_below_drewN | apply below_drew)))).mono ?_; rintro e w2 ⟨rfl, hb⟩; have n1_ := Aside0.mk ((show Below W0.heap.size W0 _ by repeat (first | exact HB2.out | apply below_alloc | apply pw_below_drewN | apply below_drew)).trans (hb.mono (by have := HB2.out.size; simp; try omega))); clear HB2; have HB2 := n1_; clear n1_; clear hb HVA)
              | (refine ⟨trivial, ?_⟩; gi_at_call 25; refine (callsIn_wide.2 (HVB.out _ (by repeat (first | exact HB2.out | apply below_alloc | apply pw_below_drewN | apply below_drew)))).mono ?_; rintro e w3 ⟨rfl, hb⟩; have n1_ := Aside0.mk ((show Below W0.heap.size W0 _ by repeat (first | exact HB2.out | apply below_alloc | apply pw_below_drewN | apply below_drew)).trans (hb.mono (by have := HB2.out.size; simp; try omega))); clear HB2; have HB2 := n1_; clear n1_; clear hb HVB)
              | (refine ⟨trivial, ?_⟩; gi_at_call 25; refine (callsIn_wide.2 (HVC.out _ (by repeat (first | exact HB2.out | apply below_alloc | apply pw_below_drewN | apply below_drew)))).mono ?_; rintro e w4 ⟨rfl, hb⟩; have n1_ := Aside0.mk ((show Below W0.heap.size W0 _ by repeat (first | exact HB2.out | apply below_alloc | apply pw_below_drewN | apply below_drew)).trans (hb.mono (by have := HB2.out.size; simp; try omega))); clear HB2; have HB2 := n1_; clear n1_; clear hb HVC)
              | (refine ⟨trivial, ?_⟩; gi_at_call 26; refine (callsIn_wide.2 (HM1.out _ (by repeat (first | exact HB2.out | apply below_alloc | apply pw_below_drewN | apply below_drew)))).mono ?_; rintro e w5 ⟨v5, rfl, hR, hb⟩; have n1_ := Aside0.mk ((show Below W0.heap.size W0 _ by repeat (first | exact HB2.out | apply below_alloc | apply pw_below_drewN | apply below_drew)).trans (hb.mono (by have := HB2.out.size; simp; try omega))); clear HB2; have HB2 := n1_; clear n1_; have HR5 := Aside0.mk hR; have HB5 := Aside0.mk (Below.refl w5.heap.size w5); clear hR hb HM1)
              | (refine ⟨trivial, ?_⟩; gi_at_call 26; refine (callsIn_wide.2 (HM2.out _ (by repeat (first | exact HB2.out | apply below_alloc | apply pw_below_drewN | apply below_drew)))).mono ?_; rintro e w6 ⟨v6, rfl, hR, hb⟩; have n1_ := Aside0.mk ((show Below W0.heap.size W0 _ by repeat (first | exact HB2.out | apply below_alloc | apply pw_below_drewN | apply below_drew)).trans (hb.mono (by have := HB2.out.size; simp; try omega))); clear HB2; have HB2 := n1_; clear n1_; have n1_ := Aside0.mk ((show Below w5.heap.size w5 _ by repeat (first | exact HB5.out | apply below_alloc | apply pw_below_drewN | apply below_drew)).trans (hb.mono (by have := HB5.out.size; simp; try omega))); clear HB5; have HB5 := n1_; clear n1_; have HR6 := Aside0.mk hR; have HB6 := Aside0.mk (Below.refl w6.heap.size w6); have HB56 := HB5; clear hR hb HM2)
              | (refine ⟨trivial, ?_⟩; gi_at_call 26; refine (callsIn_wide.2 (HM3.out _ (by repeat (first | exact HB2.out | apply below_alloc | apply pw_below_drewN | apply below_drew)))).mono ?_; rintro e w7 ⟨v7, rfl, hR, hb⟩; have n1_ := Aside0.mk ((show Below W0.heap.size W0 _ by repeat (first | exact HB2.out | apply below_alloc | apply pw_below_drewN | apply below_drew)).trans (hb.mono (by have := HB2.out.size; simp; try omega))); clear HB2; have HB2 := n1_; clear n1_; have n1_ := Aside0.mk ((show Below w5.heap.size w5 _ by repeat (first | exact HB5.out | apply below_alloc | apply pw_below_drewN | apply below_drew)).trans (hb.mono (by have := HB5.out.size; simp; try omega))); clear HB5; have HB5 := n1_; clear n1_; have HR6b := Aside0.mk (Kd.R_below HR6.out hb); have HR7 := Aside0.mk hR; have HB7 := Aside0.mk (Below.refl w7.heap.size w7); clear hR hb HM3)
              | (refine ⟨trivial, ?_⟩; gi_at_call 16; refine (callsIn_wide.2 (HS1.out _ _ _ _ _ _ HR5.out HR6b.out (by repeat (first | exact HB5.out | apply below_alloc | apply pw_below_drewN | apply below_drew)))).mono ?_; rintro e w8 ⟨rfl, ⟨q8, rfl⟩⟩; clear HS1)
              | (refine ⟨trivial, ?_⟩; gi_at_call 16; refine (callsIn_wide.2 (HS2.out _ _ _ _ HR7.out (by repeat (first | exact HB7.out | apply below_alloc | apply pw_below_drewN | apply below_drew)) (by repeat (first | exact HB2.out | apply below_alloc | apply pw_below_drewN | apply below_drew)))).mono ?_; rintro e w9 ⟨rfl, hd⟩; have hb : Below w7.heap.size w7 w9 := (by obtain ⟨q9, rfl⟩ := hd; repeat (first | exact Below.refl _ _ | apply pw_below_drewN)); have n1_ := Aside0.mk ((show Below W0.heap.size W0 _ by repeat (first | exact HB2.out | apply below_alloc | apply pw_below_drewN | apply below_drew)).trans (hb.mono (by have := HB2.out.size; simp; try omega))); clear HB2; have HB2 := n1_; clear n1_; have n1_ := Aside0.mk ((show Below w5.heap.size w5 _ by repeat (first | exact HB5.out | apply below_alloc | apply pw_below_drewN | apply below_drew)).trans (hb.mono (by have := HB5.out.size; simp; try omega))); clear HB5; have HB5 := n1_; clear n1_; clear HS2 HB7 HB6 HB56 HR6 HR6b HR7 hd hb)
              | (refine ⟨trivial, ?_⟩; gi_at_call 27; refine (callsIn_wide.2 (Backward_in _ _ _ _)).mono ?_; rintro e w10 ⟨rfl, rfl⟩))
            have hM1 := HB2.out.size
            have bR9 := Boxed.below' bR HB2.out bR.lt
            have bR0 := ((Boxed.below' bR HB2.out bR.lt).alloc (.cells #[.slice A a.length c0] 22)).alloc (.cells #[.slice B b.length c1] 22)
            have bAll := (Boxed.new w9 22 (.slice A a.length c0)).alloc (.cells #[.slice B b.length c1] 22)
            have bL := Boxed.new (w9.alloc (.cells #[.slice A a.length c0] 22)) 22 (.slice B b.length c1)
            rw [World.size_alloc] at bL
            have hB9 : Below w9.heap.size w9 ((w9.alloc (.cells #[.slice A a.length c0] 22)).alloc (.cells #[.slice B b.length c1] 22)) := by
              repeat (first | exact Below.refl _ _ | apply below_alloc)
            have hszL : ((w9.alloc (.cells #[.slice A a.length c0] 22)).alloc (.cells #[.slice B b.length c1] 22)).heap.size = w9.heap.size + 2 := by simp
            generalize ((w9.alloc (.cells #[.slice A a.length c0] 22)).alloc (.cells #[.slice B b.length c1] 22)) = WL at *
            have hb9 := Kd.C_below hB HB2.out
            have ha9 := Kd.C_below (Kd.C_below hA HB2.out) hB9
            refine wpIn_rangeFunc_ownH rfl (by omega) (gf := 48) (lb := #[.pointer (some ⟨w9.heap.size + 1, 0, none⟩)]) rfl trivial (enters_of Try.func48 (by kernel_rfl) rfl)
              (Backward_stops 5 (by omega) (w9.heap.size + 1) w9.heap.size B c1 b hcB (by omega) WL (by omega) (by omega) bL.cell
                (fun W' h => Kd.C_below hb9 (hB9.trans h))) KB.trans (KB_b (by omega) (by omega)) (Below.refl _ _) (fun _ => rfl)
              (fun pre W => ∃ A' c', (Boxed W w9.heap.size 22 (.slice A' (putA a pre).length c') ∧ (putA a pre).length ≤ c' ∧ Kd.C k29 W A' (putA a pre).length (putA a pre)) ∧ Boxed W (w9.heap.size + 1) 22 (.slice B b.length c1) ∧ Below w9.heap.size w9 W)
              (fun cd p W => cd = .ret ∧ ∃ (pre : List (Int × S29)) (q : Int × S29), p = pre ++ [q] ∧ (insS (putA a pre) q.2).2 ≠ 6 ∧ (insS (putA a pre) q.2).2 ≠ 0)
              (fun pre X Y row hs hg hr => by
                obtain ⟨A', c', ⟨b1, hc', hC'⟩, b2, b3⟩ := hs
                exact ⟨A', c', ⟨boxN b1 hg hr, hc', C_keptN hC' hg hr⟩, boxN b2 hg hr, ownFrom_below (β := Unit) (by omega) (by omega) () X Y row b3 hg hr⟩)
              (fun cd => fun _ _ _ _ hs _ _ => hs)
              ⟨A, c0, ⟨bAll, hcA, ha9⟩, bL, hB9⟩
              (fun p a' W => ∃ Bx, w9.heap.size + 1 < Bx ∧ W.heap[Bx]? = some (.cells #[Value.int .i64 p.2.f0, Value.int .i64 p.2.f1] 29 (0, 0)) ∧ a' = { tmps := #[Value.slice A (List.length a) c0, Value.slice B (List.length b) c1, Value.slice C (List.length c) c2, undef, undef, undef, Value.pointer (some { block := w.heap.size, off := 0 }), v5, Value.int IntKind.i64 0, v6, Value.int IntKind.i64 0, v7, Value.int IntKind.i64 0, Value.pointer (some { block := w9.heap.size, off := 0 }), undef, .pointer (some ⟨Bx, 0, none⟩), undef, undef, undef, undef, undef, undef, undef, undef, Value.slice A (List.length a) c0, Value.slice B (List.length b) c1, Value.slice C (List.length c) c2, Value.slice (some { block := w.heap.size + 1, off := 0 }) 3 3, Value.bool false, Value.bool false, Value.slice A (List.length a) c0, Value.bool true, Value.bool false, Value.bool false, Value.bool false, Value.slice B (List.length b) c1, Value.bool true, Value.bool false, Value.bool false, Value.bool false, Value.slice C (List.length c) c2, Value.bool true, Value.bool false, Value.bool false, undef, Value.tuple #[v5, Value.int IntKind.i64 0], Value.slice A (List.length a) c0, Value.slice B (List.length b) c1, Value.tuple #[v5, Value.int IntKind.i64 0], v5, Value.int IntKind.i64 0, Value.tuple #[v6, Value.int IntKind.i64 0], Value.slice B (List.length b) c1, Value.slice A (List.length a) c0, Value.tuple #[v6, Value.int IntKind.i64 0], v6, Value.int IntKind.i64 0, Value.tuple #[v7, Value.int IntKind.i64 0], Value.slice A (List.length a) c0, Value.slice A (List.length a) c0, Value.tuple #[v7, Value.int IntKind.i64 0], v7, Value.int IntKind.i64 0, v5, v6, Value.bool true, Value.bool false, Value.bool false, Value.int IntKind.i64 0, Value.int IntKind.i64 0, Value.bool false, Value.bool false, Value.bool false, v7, Value.slice A (List.length a) c0, Value.bool true, Value.bool false, Value.bool false, Value.bool false, Value.int IntKind.i64 0, Value.bool false, Value.bool false, Value.int IntKind.i64 0, Value.bool false, undef, undef, undef, undef, undef, Value.slice A (List.length a) c0, Value.slice B (List.length b) c1, Value.func (Fn.func 48) #[] #[Value.pointer (some { block := w9.heap.size + 1, off := 0 })], .int .i64 p.1, .agg #[Value.int .i64 p.2.f0, Value.int .i64 p.2.f1], undef, undef, undef, undef, undef, undef, undef, undef, undef, undef, undef, undef, undef, undef, undef, undef, undef, undef, undef, undef, undef, undef, undef, undef, undef, undef, undef, undef, undef, undef, undef, undef, undef, undef, undef, undef, undef, undef, undef, undef, undef, undef, undef, undef, undef, undef, undef, undef, undef, undef, undef, undef, undef, undef], defers := [] })
              (fun x a' _ X Y row hs hg hr => by
                obtain ⟨Bx, h1, h2, h3⟩ := hs
                exact ⟨Bx, h1, (hg.block Bx (heap_lt h2) (fun e' => by obtain ⟨_, o, ho, hcc⟩ := hr Bx e'.symm; rw [h2] at ho; cases ho; cases hcc)).trans h2, h3⟩)
              ?assign ?body ?done ?stop
            case assign =>
              rintro l pre x W K ⟨A', c', ⟨b1, hc', hC'⟩, b2, b3⟩ hK
              simp only [encB]
              gi_wp2
              exact hK _ _ ((KeepsOthers.alloc _ _).from _) (KB.of_below (below_alloc (Below.refl _ W) _) (by have := b3.size; omega) b2.lt) ⟨A', c', ⟨b1.alloc _, hc', Kd.C_below hC' (below_alloc (Below.refl _ _) _)⟩, b2.alloc _, b3.alloc b3.size _⟩ ⟨W.heap.size, b2.lt, heap_alloc_new W _, rfl⟩
            case body =>
              rintro l pre x a' W hl ⟨r, hr⟩ ⟨A', c', ⟨b1, hc', hC'⟩, b2, b3⟩ ⟨Bx, hBx, bX, rfl⟩ hlt
              have hpl := putA_len a pre
              have HI := Aside0.mk (Insert_S A' c' (putA a pre) x.2 W hC' hc' (by omega))
              have hsn := putA_snoc a pre x
              unfold put1 at hsn
              have cX0 := cell_of_heap bX 0 _ rfl
              have cX1 := cell_of_heap bX 1 _ rfl
              have cA := b1.cell
              by_cases h6 : (insS (putA a pre) x.2).2 = 6
              · rw [if_pos h6] at hsn
                rw [h6] at HI
                clear h6
                generalize (insS (putA a pre) x.2).1 = nx at *
                gi_wp2_with (refine ⟨trivial, ?_⟩; gi_at_call 22; refine (callsIn_wide.2 HI.out).mono ?_; rintro e W2 ⟨v, rfl, hR, hb⟩)
                refine ⟨keeps_of_below hb, KB.of_below hb (by have := b3.size; omega) b2.lt, A', c', ?_, Boxed.below' b2 hb b2.lt, b3.trans (hb.mono b3.size)⟩
                rw [hsn]
                exact ⟨Boxed.below' b1 hb b1.lt, hc', Kd.C_below hC' hb⟩
              · rw [if_neg h6] at hsn
                by_cases h0 : (insS (putA a pre) x.2).2 = 0
                · rw [h0] at HI
                  clear h6 h0
                  generalize (insS (putA a pre) x.2).1 = nx at *
                  gi_wp2_with (refine ⟨trivial, ?_⟩; gi_at_call 22; refine (callsIn_wide.2 HI.out).mono ?_; rintro e W2 ⟨v, rfl, hR, hb⟩; obtain ⟨A2, c2', rfl, hc2, hC2⟩ := Kd.R_reads hR; have b1a := Boxed.below' b1 hb b1.lt; have b2a := Boxed.below' b2 hb b2.lt; have cA2 := b1a.cell; have fA2 := b1a.frozen)
                  have hR2 := Kd.R_far (Kd.R_bound hR) (p := ⟨w9.heap.size, 0, none⟩) (fun k hk => by have h1 := hk.2.1; have h2 := b1.lt; show k ≠ w9.heap.size; omega) (.slice A2 nx.length c2')
                  obtain ⟨A3, c3, e3, hc3, hC3⟩ := Kd.R_reads hR2
                  cases e3
                  refine ⟨(keeps_of_below hb).trans ((KeepsOthers.setCell _ _ _).from _), (KB.of_below hb (by have := b3.size; omega) b2.lt).trans (KB_set _ _ (Nat.le_refl _) (by omega)), A2, c2', ?_, b2a.other (by omega) _, (b3.trans (hb.mono b3.size)).setCell (p := ⟨w9.heap.size, 0, none⟩) (Nat.le_refl _) _⟩
                  rw [hsn]
                  exact ⟨b1a.set _, hc3, hC3⟩
                · have z1 : ((insS (putA a pre) x.2).2 == 6) = false := by simpa using h6
                  have z2 : ((insS (putA a pre) x.2).2 == 0) = false := by simpa using h0
                  have z3 : ((insS (putA a pre) x.2).2 != 0) = true := by simpa using h0
                  have HH := Aside0.mk (And.intro h6 h0)
                  clear h6 h0 hsn
                  have bRW := Boxed.below' bR9 b3 bR9.lt
                  gi_wp2_with (refine ⟨trivial, ?_⟩; gi_at_call 22; refine (callsIn_wide.2 HI.out).mono ?_; rintro e W2 ⟨v, rfl, hR, hb⟩; have bRa := Boxed.below' bRW hb bRW.lt; have cR2 := bRa.cell; have fR2 := bRa.frozen)
                  exact ⟨(keeps_of_below hb).trans ((KeepsOthers.setCell _ _ _).from _), rfl, pre, x, rfl, HH.out.1, HH.out.2⟩
            case done =>
              rintro D qs W hD rfl ⟨A', c', ⟨b1, hc', hC'⟩, b2, b3⟩ hK
              rw [HALL.out] at b1 hc' hC'
              have HBn := Aside0.mk (HB2.out.trans (b3.mono HB2.out.size))
              have HB5n := Aside0.mk (HB5.out.trans (b3.mono HB5.out.size))
              clear HB2 HB5
              have HB2 := HBn
              have HB5 := HB5n
              clear HBn HB5n
              have HBW := Aside0.mk (Below.refl W.heap.size W)
              have cA := b1.cell
              have HS3 := Aside0.mk (fun A9 c9 W9 (hc9 : (mrgS a b).1.length ≤ c9) (hb5 : Below w5.heap.size w5 W9) (hC9 : Kd.C k29 W9 A9 (mrgS a b).1.length (mrgS a b).1) => show Calls Try.prog 16 #[.slice A9 (mrgS a b).1.length c9, v5] W9 fun e w' => e = .returned (.bool true) ∧ Drawn0 W9 w' by
                obtain ⟨A5, c5, rfl, hc5, hC5⟩ := Kd.R_reads (Kd.R_below HR5.out hb5)
                have h := Same_calls A9 A5 c9 c5 (mrgS a b).1 (mrgS a b).1 W9 hC9 hc9 hC5 hc5 (by omega)
                rw [sameB_refl] at h
                exact h)
              by_cases hy : (mrgS b c).2 = 0
              · have HM5 := Aside0.mk (fun W (h5 : Below w5.heap.size w5 W) (h : Below W0.heap.size W0 W) => show Calls Try.prog 26 #[v5, .slice C c.length c2] W (RT W (mrgS (mrgS a b).1 c).1 (mrgS (mrgS a b).1 c).2) by
                  obtain ⟨A5, c5, rfl, hc5, hC5⟩ := Kd.R_reads (Kd.R_below HR5.out h5)
                  exact Merge_calls A5 C c5 c2 (mrgS a b).1 c W hC5 hc5 (Kd.C_below hC h) hcC (by omega) (by omega))
                have hNL := mrgS_len b c
                have HM6 := Aside0.mk (fun v b0 W W' (h1 : Kd.R k29 29 W b0 (fun _ => True) v (mrgS b c).1) (h2 : Below W.heap.size W W') (h : Below W0.heap.size W0 W') => show Calls Try.prog 26 #[.slice A a.length c0, v] W' (RT W' (mrgS (mrgS a b).1 c).1 (mrgS (mrgS a b).1 c).2) by
                  obtain ⟨A5, c5, rfl, hc5, hC5⟩ := Kd.R_reads (Kd.R_below h1 h2)
                  have h := Merge_calls A A5 c0 c5 a (mrgS b c).1 W' (Kd.C_below hA h) hcA hC5 hc5 (by omega) (by omega)
                  rw [mrg_assoc ha hb hc (by omega) hz hy] at h
                  exact h)
                have hPL := mrgS_len (mrgS a b).1 c
                have HS4 := Aside0.mk (fun v v' b0 b' W W' h1 h2 h3 => Same_R v v' b0 b' (fun _ => True) (fun _ => True) (mrgS (mrgS a b).1 c).1 (mrgS (mrgS a b).1 c).1 W W' h1 h2 h3 (by omega))
                rw [sameB_refl] at HS4
                rw [hy] at HMC
                clear hy hz ha hb hc hML hNL hPL
                generalize mrgS (mrgS a b).1 c = P at *
                generalize mrgS a b = M at *
                generalize mrgS b c = N at *
                gi_wp2_with (first
                  | (refine ⟨trivial, ?_⟩; gi_at_call 26; refine (callsIn_wide.2 (HMC.out _ (by repeat (first | exact HB2.out | apply below_alloc | apply pw_below_drewN | apply below_drew)))).mono ?_; rintro e w11 ⟨v11, rfl, hR, hb⟩; have HR11 := Aside0.mk hR; have HB11 := Aside0.mk (Below.refl w11.heap.size w11); have n1_ := Aside0.mk ((show Below W0.heap.size W0 _ by repeat (first | exact HB2.out | apply below_alloc | apply pw_below_drewN | apply below_drew)).trans (hb.mono (by have := HB2.out.size; simp; try omega))); clear HB2; have HB2 := n1_; clear n1_; have n1_ := Aside0.mk ((show Below w5.heap.size w5 _ by repeat (first | exact HB5.out | apply below_alloc | apply pw_below_drewN | apply below_drew)).trans (hb.mono (by have := HB5.out.size; simp; try omega))); clear HB5; have HB5 := n1_; clear n1_; have n1_ := Aside0.mk ((show Below W.heap.size W _ by repeat (first | exact HBW.out | apply below_alloc | apply pw_below_drewN | apply below_drew)).trans (hb.mono (by have := HBW.out.size; simp; try omega))); clear HBW; have HBW := n1_; clear n1_; have b1b := Boxed.below' b1 hb b1.lt; have HC11 := Aside0.mk (Kd.C_below hC' hb); have cA1 := b1b.cell; clear hR hb HMC)
                  | (refine ⟨trivial, ?_⟩; gi_at_call 16; refine (callsIn_wide.2 (HS3.out _ _ _ hc' (by repeat (first | exact HB5.out | apply below_alloc | apply pw_below_drewN | apply below_drew)) (Kd.C_below HC11.out (by repeat (first | exact HB11.out | apply below_alloc | apply pw_below_drewN | apply below_drew))))).mono ?_; rintro e w12 ⟨rfl, hd⟩; have hb := drawn_below hd; have n1_ := Aside0.mk ((show Below W0.heap.size W0 _ by repeat (first | exact HB2.out | apply below_alloc | apply pw_below_drewN | apply below_drew)).trans (hb.mono (by have := HB2.out.size; simp; try omega))); clear HB2; have HB2 := n1_; clear n1_; have n1_ := Aside0.mk ((show Below w5.heap.size w5 _ by repeat (first | exact HB5.out | apply below_alloc | apply pw_below_drewN | apply below_drew)).trans (hb.mono (by have := HB5.out.size; simp; try omega))); clear HB5; have HB5 := n1_; clear n1_; have n1_ := Aside0.mk ((show Below w11.heap.size w11 _ by repeat (first | exact HB11.out | apply below_alloc | apply pw_below_drewN | apply below_drew)).trans (hb.mono (by have := HB11.out.size; simp; try omega))); clear HB11; have HB11 := n1_; clear n1_; have n1_ := Aside0.mk ((show Below W.heap.size W _ by repeat (first | exact HBW.out | apply below_alloc | apply pw_below_drewN | apply below_drew)).trans (hb.mono (by have := HBW.out.size; simp; try omega))); clear HBW; have HBW := n1_; clear n1_; have b1c := Boxed.below' b1b HB11.out b1b.lt; have cA2 := b1c.cell; clear hd hb HS3)
                  | (refine ⟨trivial, ?_⟩; gi_at_call 26; refine (callsIn_wide.2 (HM5.out _ (by repeat (first | exact HB5.out | apply below_alloc | apply pw_below_drewN | apply below_drew)) (by repeat (first | exact HB2.out | apply below_alloc | apply pw_below_drewN | apply below_drew)))).mono ?_; rintro e w13 ⟨v13, rfl, hR, hb⟩; have HR13 := Aside0.mk hR; have HB13 := Aside0.mk (Below.refl w13.heap.size w13); have n1_ := Aside0.mk ((show Below W0.heap.size W0 _ by repeat (first | exact HB2.out | apply below_alloc | apply pw_below_drewN | apply below_drew)).trans (hb.mono (by have := HB2.out.size; simp; try omega))); clear HB2; have HB2 := n1_; clear n1_; have n1_ := Aside0.mk ((show Below w11.heap.size w11 _ by repeat (first | exact HB11.out | apply below_alloc | apply pw_below_drewN | apply below_drew)).trans (hb.mono (by have := HB11.out.size; simp; try omega))); clear HB11; have HB11 := n1_; clear n1_; have n1_ := Aside0.mk ((show Below W.heap.size W _ by repeat (first | exact HBW.out | apply below_alloc | apply pw_below_drewN | apply below_drew)).trans (hb.mono (by have := HBW.out.size; simp; try omega))); clear HBW; have HBW := n1_; clear n1_; clear hR hb HM5)
                  | (refine ⟨trivial, ?_⟩; gi_at_call 26; refine (callsIn_wide.2 (HM6.out _ _ _ _ HR11.out (by repeat (first | exact HB11.out | apply below_alloc | apply pw_below_drewN | apply below_drew)) (by repeat (first | exact HB2.out | apply below_alloc | apply pw_below_drewN | apply below_drew)))).mono ?_; rintro e w14 ⟨v14, rfl, hR, hb⟩; have HR14 := Aside0.mk hR; have n1_ := Aside0.mk ((show Below w13.heap.size w13 _ by repeat (first | exact HB13.out | apply below_alloc | apply pw_below_drewN | apply below_drew)).trans (hb.mono (by have := HB13.out.size; simp; try omega))); clear HB13; have HB13 := n1_; clear n1_; have n1_ := Aside0.mk ((show Below W0.heap.size W0 _ by repeat (first | exact HB2.out | apply below_alloc | apply pw_below_drewN | apply below_drew)).trans (hb.mono (by have := HB2.out.size; simp; try omega))); clear HB2; have HB2 := n1_; clear n1_; have n1_ := Aside0.mk ((show Below W.heap.size W _ by repeat (first | exact HBW.out | apply below_alloc | apply pw_below_drewN | apply below_drew)).trans (hb.mono (by have := HBW.out.size; simp; try omega))); clear HBW; have HBW := n1_; clear n1_; clear hR hb HM6)
                  | (refine ⟨trivial, ?_⟩; gi_at_call 16; refine (callsIn_wide.2 (HS4.out _ _ _ _ _ _ HR13.out HR14.out (by repeat (first | exact HB13.out | apply below_alloc | apply pw_below_drewN | apply below_drew)))).mono ?_; rintro e w15 ⟨rfl, ⟨q15, rfl⟩⟩; clear HS4)
                  | (refine ⟨trivial, ?_⟩; gi_at_call 12; refine (callsIn_wide.2 (HA.out _)).mono ?_; rintro e wa ⟨rfl, hb⟩; have n1_ := Aside0.mk ((show Below W0.heap.size W0 _ by repeat (first | exact HB2.out | apply below_alloc | apply pw_below_drewN | apply below_drew)).trans (hb.mono (by have := HB2.out.size; simp; try omega))); clear HB2; have HB2 := n1_; clear n1_; have n1_ := Aside0.mk ((show Below W.heap.size W _ by repeat (first | exact HBW.out | apply below_alloc | apply pw_below_drewN | apply below_drew)).trans (hb.mono (by have := HBW.out.size; simp; try omega))); clear HBW; have HBW := n1_; clear n1_; have bA := Boxed.below' bR HB2.out bR.lt; have cA := bA.cell; have fA := bA.frozen)
                  | (refine ⟨trivial, ?_⟩; gi_wp2))
                have hKa := (HBW.out.block D (heap_lt hK)).trans hK
                have hK2 : (wa.setCell ⟨w.heap.size, 0, none⟩ (.bool true)).heap[D]? = some (Obj.deferred (some [])) := (KeepsOthers.setCell _ _ _).same D _ hKa rfl
                refine ⟨by simp, .inl ⟨_, _, rfl, run_takeDeferred hK2, ?_⟩⟩
                have hc1 := cell_kept (bA.set (.bool true)).cell (grownBy_putObj' _ D (.deferred none)) (fun r e => by cases e; exact ⟨_, hK2, rfl⟩)
                have hBf := belowK_b (w := w) (Nat.le_refl _) _ D _ (.deferred none) (by omega) hK2 rfl rfl
                exact ⟨.bool true, by simp [results, Try.results7, go_sem, hc1], rfl, (hw0.out.trans ((HB2.out.mono hw0.out.size).setCell (p := ⟨w.heap.size, 0, none⟩) (Nat.le_refl _) _)).trans hBf⟩
              · have hy1 : ((mrgS b c).2 == 0) = false := by simpa using hy
                have hy2 : ((mrgS b c).2 != 0) = true := by simpa using hy
                clear hy hz
                generalize mrgS a b = M at *
                generalize mrgS b c = N at *
                gi_wp2_with (first
                  | (refine ⟨trivial, ?_⟩; gi_at_call 26; refine (callsIn_wide.2 (HMC.out _ (by repeat (first | exact HB2.out | apply below_alloc | apply pw_below_drewN | apply below_drew)))).mono ?_; rintro e w11 ⟨v11, rfl, hR, hb⟩; have HR11 := Aside0.mk hR; have HB11 := Aside0.mk (Below.refl w11.heap.size w11); have n1_ := Aside0.mk ((show Below W0.heap.size W0 _ by repeat (first | exact HB2.out | apply below_alloc | apply pw_below_drewN | apply below_drew)).trans (hb.mono (by have := HB2.out.size; simp; try omega))); clear HB2; have HB2 := n1_; clear n1_; have n1_ := Aside0.mk ((show Below w5.heap.size w5 _ by repeat (first | exact HB5.out | apply below_alloc | apply pw_below_drewN | apply below_drew)).trans (hb.mono (by have := HB5.out.size; simp; try omega))); clear HB5; have HB5 := n1_; clear n1_; have n1_ := Aside0.mk ((show Below W.heap.size W _ by repeat (first | exact HBW.out | apply below_alloc | apply pw_below_drewN | apply below_drew)).trans (hb.mono (by have := HBW.out.size; simp; try omega))); clear HBW; have HBW := n1_; clear n1_; have b1b := Boxed.below' b1 hb b1.lt; have HC11 := Aside0.mk (Kd.C_below hC' hb); have cA1 := b1b.cell; clear hR hb HMC)
                  | (refine ⟨trivial, ?_⟩; gi_at_call 16; refine (callsIn_wide.2 (HS3.out _ _ _ hc' (by repeat (first | exact HB5.out | apply below_alloc | apply pw_below_drewN | apply below_drew)) (Kd.C_below HC11.out (by repeat (first | exact HB11.out | apply below_alloc | apply pw_below_drewN | apply below_drew))))).mono ?_; rintro e w12 ⟨rfl, hd⟩; have hb := drawn_below hd; have n1_ := Aside0.mk ((show Below W0.heap.size W0 _ by repeat (first | exact HB2.out | apply below_alloc | apply pw_below_drewN | apply below_drew)).trans (hb.mono (by have := HB2.out.size; simp; try omega))); clear HB2; have HB2 := n1_; clear n1_; have n1_ := Aside0.mk ((show Below w5.heap.size w5 _ by repeat (first | exact HB5.out | apply below_alloc | apply pw_below_drewN | apply below_drew)).trans (hb.mono (by have := HB5.out.size; simp; try omega))); clear HB5; have HB5 := n1_; clear n1_; have n1_ := Aside0.mk ((show Below w11.heap.size w11 _ by repeat (first | exact HB11.out | apply below_alloc | apply pw_below_drewN | apply below_drew)).trans (hb.mono (by have := HB11.out.size; simp; try omega))); clear HB11; have HB11 := n1_; clear n1_; have n1_ := Aside0.mk ((show Below W.heap.size W _ by repeat (first | exact HBW.out | apply below_alloc | apply pw_below_drewN | apply below_drew)).trans (hb.mono (by have := HBW.out.size; simp; try omega))); clear HBW; have HBW := n1_; clear n1_; have b1c := Boxed.below' b1b HB11.out b1b.lt; have cA2 := b1c.cell; clear hd hb)
                  | (refine ⟨trivial, ?_⟩; gi_at_call 12; refine (callsIn_wide.2 (HA.out _)).mono ?_; rintro e wa ⟨rfl, hb⟩; have n1_ := Aside0.mk ((show Below W0.heap.size W0 _ by repeat (first | exact HB2.out | apply below_alloc | apply pw_below_drewN | apply below_drew)).trans (hb.mono (by have := HB2.out.size; simp; try omega))); clear HB2; have HB2 := n1_; clear n1_; have n1_ := Aside0.mk ((show Below W.heap.size W _ by repeat (first | exact HBW.out | apply below_alloc | apply pw_below_drewN | apply below_drew)).trans (hb.mono (by have := HBW.out.size; simp; try omega))); clear HBW; have HBW := n1_; clear n1_; have bA := Boxed.below' bR HB2.out bR.lt; have cA := bA.cell; have fA := bA.frozen)
                  | (refine ⟨trivial, ?_⟩; gi_wp2))
                have hKa := (HBW.out.block D (heap_lt hK)).trans hK
                have hK2 : (wa.setCell ⟨w.heap.size, 0, none⟩ (.bool true)).heap[D]? = some (Obj.deferred (some [])) := (KeepsOthers.setCell _ _ _).same D _ hKa rfl
                refine ⟨by simp, .inl ⟨_, _, rfl, run_takeDeferred hK2, ?_⟩⟩
                have hc1 := cell_kept (bA.set (.bool true)).cell (grownBy_putObj' _ D (.deferred none)) (fun r e => by cases e; exact ⟨_, hK2, rfl⟩)
                have hBf := belowK_b (w := w) (Nat.le_refl _) _ D _ (.deferred none) (by omega) hK2 rfl rfl
                exact ⟨.bool true, by simp [results, Try.results7, go_sem, hc1], rfl, (hw0.out.trans ((HB2.out.mono hw0.out.size).setCell (p := ⟨w.heap.size, 0, none⟩) (Nat.le_refl _) _)).trans hBf⟩
            case stop =>
              rintro D cd pre W hD hp ⟨rfl, pre', q, rfl, h6, h0⟩ hK
              rcases HST.out pre' q hp with h | h
              · exact absurd h h6
              · exact absurd h h0
          · have hz1 := mrg_code ha hb (by omega) hz
            rw [hz1] at HM1 HM2 HS1
            clear ha hb hc hz hz1 hML hA hB hC hcA hcB hcC
            gi_wp2_with (first
              | (refine ⟨trivial, ?_⟩; gi_at_call 10; refine (callsIn_wide.2 (HG.out _ _ hsz.symm (by repeat (first | exact HB2.out | apply below_alloc | apply pw_below_drewN | apply below_drew)))).mono ?_; rintro e w1 ⟨rfl, ⟨q, rfl⟩⟩; clear HG)
              | (refine ⟨trivial, ?_⟩; gi_at_call 25; refine (callsIn_wide.2 (HVA.out _ (by repeat (first | exact HB2.out | apply below_alloc | apply pw_below_drewN | apply below_drew)))).mono ?_; rintro e w2 ⟨rfl, hb⟩; have n1_ := Aside0.mk ((show Below W0.heap.size W0 _ by repeat (first | exact HB2.out | apply below_alloc | apply pw_below_drewN | apply below_drew)).trans (hb.mono (by have := HB2.out.size; simp; try omega))); clear HB2; have HB2 := n1_; clear n1_; clear hb HVA)
              | (refine ⟨trivial, ?_⟩; gi_at_call 25; refine (callsIn_wide.2 (HVB.out _ (by repeat (first | exact HB2.out | apply below_alloc | apply pw_below_drewN | apply below_drew)))).mono ?_; rintro e w3 ⟨rfl, hb⟩; have n1_ := Aside0.mk ((show Below W0.heap.size W0 _ by repeat (first | exact HB2.out | apply below_alloc | apply pw_below_drewN | apply below_drew)).trans (hb.mono (by have := HB2.out.size; simp; try omega))); clear HB2; have HB2 := n1_; clear n1_; clear hb HVB)
              | (refine ⟨trivial, ?_⟩; gi_at_call 25; refine (callsIn_wide.2 (HVC.out _ (by repeat (first | exact HB2.out | apply below_alloc | apply pw_below_drewN | apply below_drew)))).mono ?_; rintro e w4 ⟨rfl, hb⟩; have n1_ := Aside0.mk ((show Below W0.heap.size W0 _ by repeat (first | exact HB2.out | apply below_alloc | apply pw_below_drewN | apply below_drew)).trans (hb.mono (by have := HB2.out.size; simp; try omega))); clear HB2; have HB2 := n1_; clear n1_; clear hb HVC)
              | (refine ⟨trivial, ?_⟩; gi_at_call 26; refine (callsIn_wide.2 (HM1.out _ (by repeat (first | exact HB2.out | apply below_alloc | apply pw_below_drewN | apply below_drew)))).mono ?_; rintro e w5 ⟨v5, rfl, hR, hb⟩; have n1_ := Aside0.mk ((show Below W0.heap.size W0 _ by repeat (first | exact HB2.out | apply below_alloc | apply pw_below_drewN | apply below_drew)).trans (hb.mono (by have := HB2.out.size; simp; try omega))); clear HB2; have HB2 := n1_; clear n1_; have HR5 := Aside0.mk hR; have HB5 := Aside0.mk (Below.refl w5.heap.size w5); clear hR hb HM1)
              | (refine ⟨trivial, ?_⟩; gi_at_call 26; refine (callsIn_wide.2 (HM2.out _ (by repeat (first | exact HB2.out | apply below_alloc | apply pw_below_drewN | apply below_drew)))).mono ?_; rintro e w6 ⟨v6, rfl, hR, hb⟩; have n1_ := Aside0.mk ((show Below W0.heap.size W0 _ by repeat (first | exact HB2.out | apply below_alloc | apply pw_below_drewN | apply below_drew)).trans (hb.mono (by have := HB2.out.size; simp; try omega))); clear HB2; have HB2 := n1_; clear n1_; have n1_ := Aside0.mk ((show Below w5.heap.size w5 _ by repeat (first | exact HB5.out | apply below_alloc | apply pw_below_drewN | apply below_drew)).trans (hb.mono (by have := HB5.out.size; simp; try omega))); clear HB5; have HB5 := n1_; clear n1_; have HR6 := Aside0.mk hR; have HB6 := Aside0.mk (Below.refl w6.heap.size w6); have HB56 := HB5; clear hR hb HM2)
              | (refine ⟨trivial, ?_⟩; gi_at_call 26; refine (callsIn_wide.2 (HM3.out _ (by repeat (first | exact HB2.out | apply below_alloc | apply pw_below_drewN | apply below_drew)))).mono ?_; rintro e w7 ⟨v7, rfl, hR, hb⟩; have n1_ := Aside0.mk ((show Below W0.heap.size W0 _ by repeat (first | exact HB2.out | apply below_alloc | apply pw_below_drewN | apply below_drew)).trans (hb.mono (by have := HB2.out.size; simp; try omega))); clear HB2; have HB2 := n1_; clear n1_; have n1_ := Aside0.mk ((show Below w5.heap.size w5 _ by repeat (first | exact HB5.out | apply below_alloc | apply pw_below_drewN | apply below_drew)).trans (hb.mono (by have := HB5.out.size; simp; try omega))); clear HB5; have HB5 := n1_; clear n1_; have HR6b := Aside0.mk (Kd.R_below HR6.out hb); have HR7 := Aside0.mk hR; have HB7 := Aside0.mk (Below.refl w7.heap.size w7); clear hR hb HM3)
              | (refine ⟨trivial, ?_⟩; gi_at_call 16; refine (callsIn_wide.2 (HS1.out _ _ _ _ _ _ HR5.out HR6b.out (by repeat (first | exact HB5.out | apply below_alloc | apply pw_below_drewN | apply below_drew)))).mono ?_; rintro e w8 ⟨rfl, ⟨q8, rfl⟩⟩; clear HS1)
              | (refine ⟨trivial, ?_⟩; gi_at_call 16; refine (callsIn_wide.2 (HS2.out _ _ _ _ HR7.out (by repeat (first | exact HB7.out | apply below_alloc | apply pw_below_drewN | apply below_drew)) (by repeat (first | exact HB2.out | apply below_alloc | apply pw_below_drewN | apply below_drew)))).mono ?_; rintro e w9 ⟨rfl, hd⟩; have hb : Below w7.heap.size w7 w9 := (by obtain ⟨q9, rfl⟩ := hd; repeat (first | exact Below.refl _ _ | apply pw_below_drewN)); have n1_ := Aside0.mk ((show Below W0.heap.size W0 _ by repeat (first | exact HB2.out | apply below_alloc | apply pw_below_drewN | apply below_drew)).trans (hb.mono (by have := HB2.out.size; simp; try omega))); clear HB2; have HB2 := n1_; clear n1_; have n1_ := Aside0.mk ((show Below w5.heap.size w5 _ by repeat (first | exact HB5.out | apply below_alloc | apply pw_below_drewN | apply below_drew)).trans (hb.mono (by have := HB5.out.size; simp; try omega))); clear HB5; have HB5 := n1_; clear n1_; clear HS2 HB7 HB6 HB56 HR6 HR6b HR7 hd hb)
              | (refine ⟨trivial, ?_⟩; gi_at_call 12; refine (callsIn_wide.2 (HA.out _)).mono ?_; rintro e wa ⟨rfl, hb⟩; have n1_ := Aside0.mk ((show Below W0.heap.size W0 _ by repeat (first | exact HB2.out | apply below_alloc | apply pw_below_drewN | apply below_drew)).trans (hb.mono (by have := HB2.out.size; simp; try omega))); clear HB2; have HB2 := n1_; clear n1_; have bA := Boxed.below' bR HB2.out bR.lt; have cA := bA.cell; have fA := bA.frozen)
              | (refine ⟨trivial, ?_⟩; gi_wp2))
            exact ⟨.bool true, by simp [results, Try.results7, go_sem, (bA.set (.bool true)).cell], rfl, hw0.out.trans ((HB2.out.mono hw0.out.size).setCell (p := ⟨w.heap.size, 0, none⟩) (Nat.le_refl _) _)⟩
        · have e3 : (chkK 1 c == 0) = false := by simpa using hc
          rw [e3] at HVC
          clear ha hb hc hA hB hC hcA hcB hcC
          gi_wp2_with (first
            | (refine ⟨trivial, ?_⟩; gi_at_call 10; refine (callsIn_wide.2 (HG.out _ _ hsz.symm (by repeat (first | exact HB2.out | apply below_alloc | apply pw_below_drewN | apply below_drew)))).mono ?_; rintro e w1 ⟨rfl, ⟨q, rfl⟩⟩; clear HG)
            | (refine ⟨trivial, ?_⟩; gi_at_call 25; refine (callsIn_wide.2 (HVA.out _ (by repeat (first | exact HB2.out | apply below_alloc | apply pw_below_drewN | apply below_drew)))).mono ?_; rintro e w2 ⟨rfl, hb⟩; have n1_ := Aside0.mk ((show Below W0.heap.size W0 _ by repeat (first | exact HB2.out | apply below_alloc | apply pw_below_drewN | apply below_drew)).trans (hb.mono (by have := HB2.out.size; simp; try omega))); clear HB2; have HB2 := n1_; clear n1_; clear hb HVA)
            | (refine ⟨trivial, ?_⟩; gi_at_call 25; refine (callsIn_wide.2 (HVB.out _ (by repeat (first | exact HB2.out | apply below_alloc | apply pw_below_drewN | apply below_drew)))).mono ?_; rintro e w3 ⟨rfl, hb⟩; have n1_ := Aside0.mk ((show Below W0.heap.size W0 _ by repeat (first | exact HB2.out | apply below_alloc | apply pw_below_drewN | apply below_drew)).trans (hb.mono (by have := HB2.out.size; simp; try omega))); clear HB2; have HB2 := n1_; clear n1_; clear hb HVB)
            | (refine ⟨trivial, ?_⟩; gi_at_call 25; refine (callsIn_wide.2 (HVC.out _ (by repeat (first | exact HB2.out | apply below_alloc | apply pw_below_drewN | apply below_drew)))).mono ?_; rintro e w4 ⟨rfl, hb⟩; have n1_ := Aside0.mk ((show Below W0.heap.size W0 _ by repeat (first | exact HB2.out | apply below_alloc | apply pw_below_drewN | apply below_drew)).trans (hb.mono (by have := HB2.out.size; simp; try omega))); clear HB2; have HB2 := n1_; clear n1_; clear hb HVC)
            | (refine ⟨trivial, ?_⟩; gi_at_call 12; refine (callsIn_wide.2 (HA.out _)).mono ?_; rintro e wa ⟨rfl, hb⟩; have n1_ := Aside0.mk ((show Below W0.heap.size W0 _ by repeat (first | exact HB2.out | apply below_alloc | apply pw_below_drewN | apply below_drew)).trans (hb.mono (by have := HB2.out.size; simp; try omega))); clear HB2; have HB2 := n1_; clear n1_; have bA := Boxed.below' bR HB2.out bR.lt; have cA := bA.cell; have fA := bA.frozen)
            | (refine ⟨trivial, ?_⟩; gi_wp2))
          exact ⟨.bool true, by simp [results, Try.results7, go_sem, (bA.set (.bool true)).cell], rfl, hw0.out.trans ((HB2.out.mono hw0.out.size).setCell (p := ⟨w.heap.size, 0, none⟩) (Nat.le_refl _) _)⟩
      · have e2 : (chkK 1 b == 0) = false := by simpa using hb
        rw [e2] at HVB
        clear ha hb hA hB hC hcA hcB hcC HVC
        gi_wp2_with (first
          | (refine ⟨trivial, ?_⟩; gi_at_call 10; refine (callsIn_wide.2 (HG.out _ _ hsz.symm (by repeat (first | exact HB2.out | apply below_alloc | apply pw_below_drewN | apply below_drew)))).mono ?_; rintro e w1 ⟨rfl, ⟨q, rfl⟩⟩; clear HG)
          | (refine ⟨trivial, ?_⟩; gi_at_call 25; refine (callsIn_wide.2 (HVA.out _ (by repeat (first | exact HB2.out | apply below_alloc | apply pw_below_drewN | apply below_drew)))).mono ?_; rintro e w2 ⟨rfl, hb⟩; have n1_ := Aside0.mk ((show Below W0.heap.size W0 _ by repeat (first | exact HB2.out | apply below_alloc | apply pw_below_drewN | apply below_drew)).trans (hb.mono (by have := HB2.out.size; simp; try omega))); clear HB2; have HB2 := n1_; clear n1_; clear hb HVA)
          | (refine ⟨trivial, ?_⟩; gi_at_call 25; refine (callsIn_wide.2 (HVB.out _ (by repeat (first | exact HB2.out | apply below_alloc | apply pw_below_drewN | apply below_drew)))).mono ?_; rintro e w3 ⟨rfl, hb⟩; have n1_ := Aside0.mk ((show Below W0.heap.size W0 _ by repeat (first | exact HB2.out | apply below_alloc | apply pw_below_drewN | apply below_drew)).trans (hb.mono (by have := HB2.out.size; simp; try omega))); clear HB2; have HB2 := n1_; clear n1_; clear hb HVB)
          | (refine ⟨trivial, ?_⟩; gi_at_call 12; refine (callsIn_wide.2 (HA.out _)).mono ?_; rintro e wa ⟨rfl, hb⟩; have n1_ := Aside0.mk ((show Below W0.heap.size W0 _ by repeat (first | exact HB2.out | apply below_alloc | apply pw_below_drewN | apply below_drew)).trans (hb.mono (by have := HB2.out.size; simp; try omega))); clear HB2; have HB2 := n1_; clear n1_; have bA := Boxed.below' bR HB2.out bR.lt; have cA := bA.cell; have fA := bA.frozen)
          | (refine ⟨trivial, ?_⟩; gi_wp2))
        exact ⟨.bool true, by simp [results, Try.results7, go_sem, (bA.set (.bool true)).cell], rfl, hw0.out.trans ((HB2.out.mono hw0.out.size).setCell (p := ⟨w.heap.size, 0, none⟩) (Nat.le_refl _) _)⟩
    · have e1 : (chkK 1 a == 0) = false := by simpa using ha
      rw [e1] at HVA
      clear ha hA hB hC hcA hcB hcC HVB HVC
      gi_wp2_with (first
        | (refine ⟨trivial, ?_⟩; gi_at_call 10; refine (callsIn_wide.2 (HG.out _ _ hsz.symm (by repeat (first | exact HB2.out | apply below_alloc | apply pw_below_drewN | apply below_drew)))).mono ?_; rintro e w1 ⟨rfl, ⟨q, rfl⟩⟩; clear HG)
        | (refine ⟨trivial, ?_⟩; gi_at_call 25; refine (callsIn_wide.2 (HVA.out _ (by repeat (first | exact HB2.out | apply below_alloc | apply pw_below_drewN | apply below_drew)))).mono ?_; rintro e w2 ⟨rfl, hb⟩; have n1_ := Aside0.mk ((show Below W0.heap.size W0 _ by repeat (first | exact HB2.out | apply below_alloc | apply pw_below_drewN | apply below_drew)).trans (hb.mono (by have := HB2.out.size; simp; try omega))); clear HB2; have HB2 := n1_; clear n1_; clear hb HVA)
        | (refine ⟨trivial, ?_⟩; gi_at_call 12; refine (callsIn_wide.2 (HA.out _)).mono ?_; rintro e wa ⟨rfl, hb⟩; have n1_ := Aside0.mk ((show Below W0.heap.size W0 _ by repeat (first | exact HB2.out | apply below_alloc | apply pw_below_drewN | apply below_drew)).trans (hb.mono (by have := HB2.out.size; simp; try omega))); clear HB2; have HB2 := n1_; clear n1_; have bA := Boxed.below' bR HB2.out bR.lt; have cA := bA.cell; have fA := bA.frozen)
        | (refine ⟨trivial, ?_⟩; gi_wp2))
      exact ⟨.bool true, by simp [results, Try.results7, go_sem, (bA.set (.bool true)).cell], rfl, hw0.out.trans ((HB2.out.mono hw0.out.size).setCell (p := ⟨w.heap.size, 0, none⟩) (Nat.le_refl _) _)⟩
theorem SeriesMerge_row (w : World) (A : Option Addr) (a : L29) (c0 : Nat) (hrA : Kd.C k29 w A a.length a) (hcA : a.length ≤ c0) (_ : ∀ x ∈ a, (Lit.int .i64 x.f0).wf = true ∧ (Lit.int .i64 x.f1).wf = true)
    (B : Option Addr) (b : L29) (c1 : Nat) (hrB : Kd.C k29 w B b.length b) (hcB : b.length ≤ c1) (_ : ∀ x ∈ b, (Lit.int .i64 x.f0).wf = true ∧ (Lit.int .i64 x.f1).wf = true)
    (C : Option Addr) (c : L29) (c2 : Nat) (hrC : Kd.C k29 w C c.length c) (hcC : c.length ≤ c2) (_ : ∀ x ∈ c, (Lit.int .i64 x.f0).wf = true ∧ (Lit.int .i64 x.f1).wf = true) :
    Calls Try.prog 7 #[.slice A a.length c0, .slice B b.length c1, .slice C c.length c2] w fun e w' => e = .returned (.bool true) ∧ Below w.heap.size w w' :=
  callsIn_wide.1 (SeriesMerge_in w A a c0 hrA hcA B b c1 hrB hcB C c c2 hrC hcC)
end Go.Proofs.Ytjgkcgfbkcbjfaa.H

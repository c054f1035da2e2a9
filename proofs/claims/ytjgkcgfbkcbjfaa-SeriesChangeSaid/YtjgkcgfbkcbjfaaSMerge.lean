/- The contract of series.Merge. -/
import Derived.Test.YtjgkcgfbkcbjfaaSMergeP
import Derived.Test.YtjgkcgfbkcbjfaaGSort
import Derived.Test.YtjgkcgfbkcbjfaaGConcat
import Derived.Test.YtjgkcgfbkcbjfaaSIns
import Derived.Test.YtjgkcgfbkcbjfaaSGreat
namespace Go.Proofs.Ytjgkcgfbkcbjfaa.H
open Go Go.RowKit Go.Shelf Go.Proofs.YtjgkcgfbkcbjfaaW.PrintWords Go.Proofs.YtjgkcgfbkcbjfaaW.PrintLast Go.Proofs.YtjgkcgfbkcbjfaaW.PrintMore Go.Proofs.Ytjgkcgfbkcbjfaa.PAll
set_option linter.unusedVariables false
set_option linter.unusedSimpArgs false
attribute [local go_sem] Oper.semAt_some

theorem Boxed.below' {W W' : World} {n B : Nat} {t : TypeId} {v : Value} (h : Boxed W B t v) (hb : Below n W W') (hB : B < n) : Boxed W' B t v := (hb.block B hB).trans h

set_option maxRecDepth 100000 in
set_option maxHeartbeats 8000000 in
theorem Merge_in (A B : Option Addr) (c d : Nat) (a b : L29) (w : World) (hA : Kd.C k29 w A a.length a) (hc : a.length ≤ c) (hB : Kd.C k29 w B b.length b) (hd : b.length ≤ d) (hla : a.length ≤ 400000) (hlb : b.length ≤ 400000) :
    CallsIn Fence.wide 6 Try.prog 26 #[.slice A a.length c, .slice B b.length d] w (RT w (mrgS a b).1 (mrgS a b).2) := by
  have HCA := Aside0.mk (fun W (h : Below w.heap.size w W) => Check_calls 1 A c a W (Kd.C_below hA h) hc (by omega))
  have HCB := Aside0.mk (fun W (h : Below w.heap.size w W) => Check_calls 1 B d b W (Kd.C_below hB h) hd (by omega))
  have HB2 := Aside0.mk (Below.refl w.heap.size w)
  have HCS := Aside0.mk (fun W (h : Below w.heap.size w W) => C_slices (d := k29) 29 22 W W.heap.size rfl #[.slice A a.length c, .slice B b.length d] [a, b] (by simp) (fun i x hx => by
    rcases i with _ | _ | i
    · simp at hx; subst hx; exact ⟨A, c, rfl, hc, Kd.C_below hA h⟩
    · simp at hx; subst hx; exact ⟨B, d, rfl, hd, Kd.C_below hB h⟩
    · simp at hx))
  have HCC := Aside0.mk (fun W n (hC : Kd.C (Kd.slice 29 k29) W (some ⟨n, 0, none⟩) 2 [a, b]) => Concat_calls (some ⟨n, 0, none⟩) 2 [a, b] W hC (by simp) (by simp; omega) (by simp))
  simp only [List.flatten_cons, List.flatten_nil, List.append_nil] at HCC
  by_cases h1 : chkK 1 a = 0
  · rw [h1] at HCA
    by_cases h2 : chkK 1 b = 0
    · rw [h2] at HCB
      have hu32 := Try.underlying29
      refine callsIn_of_wp_marks Try.func26 rfl trivial ?_ rfl
      simp only [Try.ntmps26, List.size_toArray, List.length_cons, List.length_nil, Nat.reduceAdd, Nat.reduceSub, Array.replicate_succ, Array.replicate_zero, List.push_toArray, List.append_toArray, List.nil_append, List.cons_append]
      have hmg := mg_spec ((chkK_iff 1 a).1 h1).2.2.2 ((chkK_iff 1 b).1 h2).2.2.2
      have hascA := ((chkK_iff 1 a).1 h1).2.2.2
      have hascB := ((chkK_iff 1 b).1 h2).2.2.2
      have bR1 := (Boxed.new w 22 (.slice none 0 0)).alloc (.cells #[.int .i64 0] 24)
      have bR2 := Boxed.new (w.alloc (.cells #[.slice none 0 0] 22)) 24 (.int .i64 0)
      rw [World.size_alloc] at bR2
      have HM := Aside0.mk (show (mrgS a b) = (match mg a b with | none => ([], 16) | some m => if 2000 < m.length then ([], 4) else (m, 0)) by unfold mrgS; rw [if_pos ⟨h1, h2⟩]; cases mg a b <;> rfl)
      clear hA hB h1 h2 hmg
      generalize mrgS a b = M at *
      gi_wp2_with (first
        | (refine ⟨trivial, ?_⟩; gi_at_call 15; refine (callsIn_wide.2 (HCA.out _ (by repeat (first | exact HB2.out | apply below_alloc | apply pw_below_drewN | apply below_drew)))).mono ?_; rintro e w1 ⟨rfl, hb⟩; have R1 := Boxed.below' bR1 hb (by simp; omega); have R2 := Boxed.below' bR2 hb (by simp); have n1_ := Aside0.mk ((show Below w.heap.size w _ by repeat (first | exact HB2.out | apply below_alloc | apply pw_below_drewN | apply below_drew)).trans (hb.mono (by have := HB2.out.size; simp; try omega))); clear HB2; have HB2 := n1_; clear n1_; clear hb HCA bR1 bR2)
        | (refine ⟨trivial, ?_⟩; gi_at_call 15; refine (callsIn_wide.2 (HCB.out _ (by repeat (first | exact HB2.out | apply below_alloc | apply pw_below_drewN | apply below_drew)))).mono ?_; rintro e w2 ⟨rfl, hb⟩; have S1 := Boxed.below' R1 hb R1.lt; have S2 := Boxed.below' R2 hb R2.lt; have n1_ := Aside0.mk ((show Below w.heap.size w _ by repeat (first | exact HB2.out | apply below_alloc | apply pw_below_drewN | apply below_drew)).trans (hb.mono (by have := HB2.out.size; simp; try omega))); clear HB2; have HB2 := n1_; clear n1_; clear hb HCB R1 R2)
        | (refine ⟨trivial, ?_⟩; gi_at_call 21; refine (callsIn_wide.2 (HCC.out _ _ (HCS.out _ (by repeat (first | exact HB2.out | apply below_alloc | apply pw_below_drewN | apply below_drew))))).mono ?_; rintro e w3 ⟨v1, rfl, ho1, hb⟩; have T1 := Boxed.below' (S1.alloc (.cells #[.slice A a.length c, .slice B b.length d] 22)) hb (S1.alloc _).lt; have T2 := Boxed.below' (S2.alloc (.cells #[.slice A a.length c, .slice B b.length d] 22)) hb (S2.alloc _).lt; have hlt1 := (S1.alloc (.cells #[.slice A a.length c, .slice B b.length d] 22)).lt; have hlt2 := (S2.alloc (.cells #[.slice A a.length c, .slice B b.length d] 22)).lt; have hbz := hb.size; generalize (w2.alloc (.cells #[.slice A a.length c, .slice B b.length d] 22)).heap.size = bs at *; have n1_ := Aside0.mk ((show Below w.heap.size w _ by repeat (first | exact HB2.out | apply below_alloc | apply pw_below_drewN | apply below_drew)).trans (hb.mono (by have := HB2.out.size; simp; try omega))); clear HB2; have HB2 := n1_; clear n1_; clear hb S1 S2 HCS HCC)
        | (refine ⟨trivial, ?_⟩; gi_at_call 44; refine (callsIn_wide.2 (Sort_calls _ _ _ _ (by simp; omega) ho1)).mono ?_; rintro e w4 ⟨ys, rfl, hp, hs, hb, ho2⟩; have U1 := Boxed.below' T1 hb hlt1; have U2 := Boxed.below' T2 hb hlt2; have HPS := Aside0.mk (And.intro hp hs); have hys : ys.length ≤ 1000000 := (by rw [hp.length_eq]; simp; omega); have hbz4 := hb.size; have n1_ := Aside0.mk ((show Below w.heap.size w _ by repeat (first | exact HB2.out | apply below_alloc | apply pw_below_drewN | apply below_drew)).trans (hb.mono (by have := HB2.out.size; simp; try omega))); clear HB2; have HB2 := n1_; clear n1_; clear hb T1 T2 ho1 hp hs)
        | (refine ⟨trivial, ?_⟩; gi_at_call 47; refine (callsIn_wide.2 (Compact_calls _ _ _ _ hys ho2)).mono ?_; rintro e w5 ⟨v2, rfl, hb, ho3⟩; have V1 := Boxed.below' U1 hb hlt1; have V2 := Boxed.below' U2 hb hlt2; have HR5 := Aside0.mk (R_of_lcells ho3); have hC5 := Kd.R_reads (R_of_lcells ho3); obtain ⟨A3, c3, rfl, hc3, hC3⟩ := hC5; have hC4 := Aside0.mk hC3; have hbz5 := hb.size; have n1_ := Aside0.mk ((show Below w.heap.size w _ by repeat (first | exact HB2.out | apply below_alloc | apply pw_below_drewN | apply below_drew)).trans (hb.mono (by have := HB2.out.size; simp; try omega))); clear HB2; have HB2 := n1_; clear n1_; clear hb U1 U2 ho2 ho3 hC3)
        | (refine ⟨trivial, ?_⟩; gi_at_call 35; refine (callsIn_wide.2 (neighbours_in _ _ _ _)).mono ?_; rintro e w6 ⟨rfl, rfl⟩))
      have HMD := Aside0.mk (merge_dd hascA hascB HPS.out.1 HPS.out.2)
      have hzl := Nat.le_trans (dd_len_le ys) hys
      clear HPS hys hascA hascB
      generalize dd ys = zs at *
      have bL := Boxed.new w5 22 (.slice A3 zs.length c3)
      have X1 := V1.alloc (.cells #[.slice A3 zs.length c3] 22)
      have X2 := V2.alloc (.cells #[.slice A3 zs.length c3] 22)
      have hB0 : Below w5.heap.size w5 (w5.alloc (.cells #[.slice A3 zs.length c3] 22)) := below_alloc (Below.refl _ _) _
      have hBw : Below w.heap.size w (w5.alloc (.cells #[.slice A3 zs.length c3] 22)) := HB2.out.trans (hB0.mono HB2.out.size)
      have hsz : (w5.alloc (.cells #[.slice A3 zs.length c3] 22)).heap.size = w5.heap.size + 1 := by simp
      have hbs5 : bs ≤ w5.heap.size := by omega
      have hww5 : w.heap.size ≤ w5.heap.size := HB2.out.size
      have hC5 := hC4.out
      clear V1 V2
      generalize (w5.alloc (.cells #[.slice A3 zs.length c3] 22)) = W0 at *
      refine wpIn_rangeFunc_ownH rfl (by omega) (gf := 51) (lb := #[.pointer (some ⟨w5.heap.size, 0, none⟩)]) rfl trivial (enters_of Try.func51 (by kernel_rfl) rfl)
        (neighbours_stops 5 (by omega) w5.heap.size w5.heap.size A3 c3 zs hc3 W0 (by omega) (by omega) bL.cell
          (fun W' h => Kd.C_below hC5 (hB0.trans h))) KB.trans (KB_b (by omega) (by omega)) (Below.refl _ _) (fun _ => rfl)
        (fun pre W => (((Boxed W w.heap.size 22 (.slice none 0 0) ∧ Boxed W (w.heap.size + 1) 24 (.int .i64 0)) ∧ Boxed W w5.heap.size 22 (.slice A3 zs.length c3)) ∧ (Below w.heap.size w W ∧ Below w5.heap.size w5 W)) ∧ (∀ x ∈ pre, (x.1.f0 == x.2.f0) = false))
        (fun cd p W => ((Boxed W w.heap.size 22 (.slice none 0 0) ∧ Boxed W (w.heap.size + 1) 24 (.int .i64 16)) ∧ Below w.heap.size w W) ∧ (cd = .ret ∧ ∃ x ∈ p, (x.1.f0 == x.2.f0) = true))
        (OwnFrom.and (OwnFrom.and (OwnFrom.and (OwnFrom.and (Own.from (boxed_own _ _ _) _) (Own.from (boxed_own _ _ _) _)) (Own.from (boxed_own _ _ _) _)) (OwnFrom.and (ownFrom_below (by omega) (by omega)) (ownFrom_below (by omega) (by omega)))) (fun _ _ _ _ hs _ _ => hs))
        (fun cd => OwnFrom.and (OwnFrom.and (OwnFrom.and (Own.from (boxed_own _ _ _) _) (Own.from (boxed_own _ _ _) _)) (ownFrom_below (by omega) (by omega))) (fun _ _ _ _ hs _ _ => hs))
        ⟨⟨⟨⟨X1, X2⟩, bL⟩, hBw, hB0⟩, by simp⟩
        (fun x a' W => ∃ Bx, w5.heap.size < Bx ∧ W.heap[Bx]? = some (.cells #[Value.int .i64 x.1.f0, Value.int .i64 x.1.f1] 29 (0, 0)) ∧ W.heap[Bx + 1]? = some (.cells #[Value.int .i64 x.2.f0, Value.int .i64 x.2.f1] 29 (0, 0)) ∧ a' = { tmps := #[.slice A a.length c, .slice B b.length d, undef, undef, .pointer (some ⟨w.heap.size, 0, none⟩), .pointer (some ⟨w.heap.size + 1, 0, none⟩), .slice A3 zs.length c3, .pointer (some ⟨Bx, 0, none⟩), .pointer (some ⟨Bx + 1, 0, none⟩), .slice A a.length c, .int .i64 0, .bool false, .bool false, .slice B b.length d, .int .i64 0, .bool false, .bool false, .slice A a.length c, .slice B b.length d, .slice (some ⟨w2.heap.size, 0, none⟩) 2 2, v1, v1, .tuple #[], v1, .slice A3 zs.length c3, .slice A3 zs.length c3, .func (.func 51) #[] #[.pointer (some ⟨w5.heap.size, 0, none⟩)], .agg #[Value.int .i64 x.1.f0, Value.int .i64 x.1.f1], .agg #[Value.int .i64 x.2.f0, Value.int .i64 x.2.f1], undef, undef, undef, undef, undef, undef, undef, undef, undef], defers := [] })
        (fun x a' _ X Y row hs hg hr => by
          obtain ⟨Bx, h1, h2, h2', h3⟩ := hs
          exact ⟨Bx, h1, (hg.block Bx (heap_lt h2) (fun e' => by obtain ⟨_, o, ho, hcc⟩ := hr Bx e'.symm; rw [h2] at ho; cases ho; cases hcc)).trans h2, (hg.block (Bx + 1) (heap_lt h2') (fun e' => by obtain ⟨_, o, ho, hcc⟩ := hr (Bx + 1) e'.symm; rw [h2'] at ho; cases ho; cases hcc)).trans h2', h3⟩)
        ?assign ?body ?done ?stop
      case assign =>
        rintro l pre x W K ⟨⟨⟨⟨b1, b2⟩, b3⟩, b4, b5⟩, b6⟩ hK
        simp only [encP]
        gi_wp2
        exact hK _ _ (((KeepsOthers.alloc _ _).trans (KeepsOthers.alloc _ _)).from _) (KB.of_below (below_alloc (below_alloc (Below.refl _ W) _) _) (by have := b5.size; omega) b3.lt) ⟨⟨⟨⟨(b1.alloc _).alloc _, (b2.alloc _).alloc _⟩, (b3.alloc _).alloc _⟩, (b4.alloc b4.size _).alloc (by have := b4.size; simp; omega) _, (b5.alloc b5.size _).alloc (by have := b5.size; simp; omega) _⟩, b6⟩ ⟨W.heap.size, b3.lt, heap_alloc_keep (heap_alloc_new W _), by have h := heap_alloc_new (W.alloc (.cells #[Value.int .i64 x.1.f0, Value.int .i64 x.1.f1] 29)) (.cells #[Value.int .i64 x.2.f0, Value.int .i64 x.2.f1] 29); simpa using h, rfl⟩
      case body =>
        rintro l pre x a' W hl ⟨r, hr⟩ ⟨⟨⟨⟨b1, b2⟩, b3⟩, b4, b5⟩, b6⟩ ⟨Bx, hBx, bX, bY, rfl⟩ hlt
        have cX0 := cell_of_heap bX 0 _ rfl
        have cY0 := cell_of_heap bY 0 _ rfl
        have cS := b1.cell
        have fS := b1.frozen
        have b1a := b1.set (.slice none 0 0)
        have b2a := b2.other (show w.heap.size + 1 ≠ w.heap.size by omega) (.slice none 0 0)
        have cT := b2a.cell
        have fT := b2a.frozen
        gi_wp2
        · have hx : (x.1.f0 == x.2.f0) = true := by assumption
          exact ⟨(KeepsFrom.of_grownBy (grownBy_setCell' W w.heap.size _) (fun j e => by cases e; omega)).trans (KeepsFrom.of_grownBy (grownBy_setCell' _ (w.heap.size + 1) _) (fun j e => by cases e; omega)), ⟨⟨b1a.other (by omega) _, b2a.set _⟩, (b4.setCell (p := ⟨w.heap.size, 0, none⟩) (Nat.le_refl _) _).setCell (p := ⟨w.heap.size + 1, 0, none⟩) (Nat.le_succ _) _⟩, rfl, x, by simp, hx⟩
        · have hx : (x.1.f0 == x.2.f0) = false := by assumption
          exact ⟨KeepsFrom.refl _ _, KB.refl _ _ _, ⟨⟨⟨b1, b2⟩, b3⟩, b4, b5⟩, fun y hy => by rcases List.mem_append.1 hy with hy | hy; exact b6 y hy; rw [List.mem_singleton.1 hy]; exact hx⟩
      case done =>
        rintro D qs W hD rfl ⟨⟨⟨⟨b1, b2⟩, b3⟩, b4, b5⟩, b6⟩ hK
        have hcf : cfB zs = false := by
          unfold cfB
          rw [List.any_eq_false]
          intro p hp
          simpa using b6 p hp
        have HMM : M = if 2000 < zs.length then ([], 4) else (zs, 0) := by
          have h := HM.out
          cases hm : mg a b with
          | none => exact absurd (HMD.out.1 hm) (by rw [hcf]; simp)
          | some m => rw [hm] at h; rw [(HMD.out.2 m hm).2]; exact h
        clear HM HMD b6
        have cS := b1.cell
        have fS := b1.frozen
        by_cases hz : 2000 < zs.length
        · have dz : ((zs.length : Int) > 2000) = True := eq_true (by omega)
          have dz2 : (2000 < (zs.length : Int)) = True := eq_true (by omega)
          rw [if_pos hz] at HMM
          subst HMM
          have b1a := b1.set (.slice none 0 0)
          have b2a := b2.other (show w.heap.size + 1 ≠ w.heap.size by omega) (.slice none 0 0)
          have cT := b2a.cell
          have fT := b2a.frozen
          have b1b := b1a.other (show w.heap.size ≠ w.heap.size + 1 by omega) (.int .i64 4)
          have b2b := b2a.set (.int .i64 4)
          gi_wp2
          have hK2 : ((W.setCell ⟨w.heap.size, 0, none⟩ (.slice none 0 0)).setCell ⟨w.heap.size + 1, 0, none⟩ (.int .i64 4)).heap[D]? = some (Obj.deferred (some [])) := ((KeepsOthers.setCell _ _ _).trans (KeepsOthers.setCell _ _ _)).same D _ hK rfl
          refine ⟨by simp, .inl ⟨_, _, rfl, run_takeDeferred hK2, ?_⟩⟩
          have hc1 := cell_kept b1b.cell (grownBy_putObj' _ D (.deferred none)) (fun r e => by cases e; exact ⟨_, hK2, rfl⟩)
          have hc2 := cell_kept b2b.cell (grownBy_putObj' _ D (.deferred none)) (fun r e => by cases e; exact ⟨_, hK2, rfl⟩)
          have hBf := belowK_b (w := w) (Nat.le_refl _) _ D _ (.deferred none) (by omega) hK2 rfl rfl
          have hBg := belowK_b (w := w5) (Nat.le_refl _) _ D _ (.deferred none) (by omega) hK2 rfl rfl
          have b4b := (b4.setCell (p := ⟨w.heap.size, 0, none⟩) (Nat.le_refl _) (.slice none 0 0)).setCell (p := ⟨w.heap.size + 1, 0, none⟩) (Nat.le_succ _) (.int .i64 4)
          refine ⟨.tuple #[(.slice none 0 0), .int .i64 4], by simp [results, Try.results26, go_sem, hc1, hc2], ?_⟩
          exact RT_nil (b4b.trans hBf)
        · have dz : ((zs.length : Int) > 2000) = False := eq_false (by omega)
          have dz2 : (2000 < (zs.length : Int)) = False := eq_false (by omega)
          rw [if_neg hz] at HMM
          subst HMM
          have b1a := b1.set (.slice A3 zs.length c3)
          have b2a := b2.other (show w.heap.size + 1 ≠ w.heap.size by omega) (.slice A3 zs.length c3)
          have cT := b2a.cell
          have fT := b2a.frozen
          have b1b := b1a.other (show w.heap.size ≠ w.heap.size + 1 by omega) (.int .i64 0)
          have b2b := b2a.set (.int .i64 0)
          gi_wp2
          have hK2 : ((W.setCell ⟨w.heap.size, 0, none⟩ (.slice A3 zs.length c3)).setCell ⟨w.heap.size + 1, 0, none⟩ (.int .i64 0)).heap[D]? = some (Obj.deferred (some [])) := ((KeepsOthers.setCell _ _ _).trans (KeepsOthers.setCell _ _ _)).same D _ hK rfl
          refine ⟨by simp, .inl ⟨_, _, rfl, run_takeDeferred hK2, ?_⟩⟩
          have hc1 := cell_kept b1b.cell (grownBy_putObj' _ D (.deferred none)) (fun r e => by cases e; exact ⟨_, hK2, rfl⟩)
          have hc2 := cell_kept b2b.cell (grownBy_putObj' _ D (.deferred none)) (fun r e => by cases e; exact ⟨_, hK2, rfl⟩)
          have hBf := belowK_b (w := w) (Nat.le_refl _) _ D _ (.deferred none) (by omega) hK2 rfl rfl
          have hBg := belowK_b (w := w5) (Nat.le_refl _) _ D _ (.deferred none) (by omega) hK2 rfl rfl
          have b4b := (b4.setCell (p := ⟨w.heap.size, 0, none⟩) (Nat.le_refl _) (.slice A3 zs.length c3)).setCell (p := ⟨w.heap.size + 1, 0, none⟩) (Nat.le_succ _) (.int .i64 0)
          refine ⟨.tuple #[(.slice A3 zs.length c3), .int .i64 0], by simp [results, Try.results26, go_sem, hc1, hc2], ?_⟩
          refine ⟨_, rfl, Kd.R_lower (Kd.R_mono (ok := fun k => bs ≤ k ∧ k < w5.heap.size) ?_ (fun _ _ => trivial)) (show w.heap.size ≤ bs by omega), b4b.trans hBf⟩
          have r1 := Kd.R_mono (Kd.R_bound HR5.out) (ok' := fun k => bs ≤ k ∧ k < w5.heap.size) (fun k hk => ⟨hk.2.1, hk.2.2.1⟩)
          have r2 := Kd.R_move r1 (fun k hk => b5.block k hk.2)
          have r3 := Kd.R_far r2 (p := ⟨w.heap.size, 0, none⟩) (fun k hk => by show k ≠ w.heap.size; omega) (.slice A3 zs.length c3)
          have r4 := Kd.R_far r3 (p := ⟨w.heap.size + 1, 0, none⟩) (fun k hk => by show k ≠ w.heap.size + 1; omega) (.int .i64 0)
          exact Kd.R_move r4 (fun k hk => hBg.block k hk.2)
      case stop =>
        rintro D cd pre W hD hp ⟨⟨⟨b1, b2⟩, b4⟩, rfl, x, hx1, hx2⟩ hK
        have hcf : cfB zs = true := by
          unfold cfB
          rw [List.any_eq_true]
          exact ⟨x, hp.subset hx1, by simpa using hx2⟩
        have HMM : M = ([], 16) := by
          have h := HM.out
          cases hm : mg a b with
          | none => rw [hm] at h; exact h
          | some m => exact absurd (HMD.out.2 m hm).1 (by rw [hcf]; simp)
        subst HMM
        have cS := b1.cell
        have cT := b2.cell
        gi_wp2
        refine ⟨by simp, .inl ⟨_, _, rfl, run_takeDeferred hK, ?_⟩⟩
        have hc1 := cell_kept b1.cell (grownBy_putObj' _ D (.deferred none)) (fun r e => by cases e; exact ⟨_, hK, rfl⟩)
        have hc2 := cell_kept b2.cell (grownBy_putObj' _ D (.deferred none)) (fun r e => by cases e; exact ⟨_, hK, rfl⟩)
        have hBf := belowK_b (w := w) (Nat.le_refl _) _ D _ (.deferred none) (by omega) hK rfl rfl
        refine ⟨.tuple #[(.slice none 0 0), .int .i64 16], by simp [results, Try.results26, go_sem, hc1, hc2], ?_⟩
        exact RT_nil (b4.trans hBf)
    · have dc : (chkK 1 b == 0) = false := by simpa using h2
      have dc2 : (chkK 1 b != 0) = true := by simpa using h2
      have HM : mrgS a b = ([], 1) := by unfold mrgS; rw [if_neg (fun h => h2 h.2)]
      rw [HM]
      generalize chkK 1 b = ck at *
      have bR1 := (Boxed.new w 22 (.slice none 0 0)).alloc (.cells #[.int .i64 0] 24)
      have bR2 := Boxed.new (w.alloc (.cells #[.slice none 0 0] 22)) 24 (.int .i64 0)
      rw [World.size_alloc] at bR2
      clear h1 h2 HM HCS HCC hA hB
      refine callsIn_of_wp_marks Try.func26 rfl trivial ?_ rfl
      simp only [Try.ntmps26, List.size_toArray, List.length_cons, List.length_nil, Nat.reduceAdd, Nat.reduceSub, Array.replicate_succ, Array.replicate_zero, List.push_toArray, List.append_toArray, List.nil_append, List.cons_append]
      gi_wp2_with (first
        | (refine ⟨trivial, ?_⟩; gi_at_call 15; refine (callsIn_wide.2 (HCA.out _ (by repeat (first | exact HB2.out | apply below_alloc | apply pw_below_drewN | apply below_drew)))).mono ?_; rintro e w1 ⟨rfl, hb⟩; have R1 := Boxed.below' bR1 hb (by simp; omega); have R2 := Boxed.below' bR2 hb (by simp); have n1_ := Aside0.mk ((show Below w.heap.size w _ by repeat (first | exact HB2.out | apply below_alloc | apply pw_below_drewN | apply below_drew)).trans (hb.mono (by have := HB2.out.size; simp; try omega))); clear HB2; have HB2 := n1_; clear n1_; clear hb HCA bR1 bR2)
        | (refine ⟨trivial, ?_⟩; gi_at_call 15; refine (callsIn_wide.2 (HCB.out _ (by repeat (first | exact HB2.out | apply below_alloc | apply pw_below_drewN | apply below_drew)))).mono ?_; rintro e w2 ⟨rfl, hb⟩; have S1 := Boxed.below' R1 hb R1.lt; have S2 := Boxed.below' R2 hb R2.lt; have n1_ := Aside0.mk ((show Below w.heap.size w _ by repeat (first | exact HB2.out | apply below_alloc | apply pw_below_drewN | apply below_drew)).trans (hb.mono (by have := HB2.out.size; simp; try omega))); clear HB2; have HB2 := n1_; clear n1_; clear hb HCB R1 R2; have cS := S1.cell; have fS := S1.frozen; have b2a := S2.other (show w.heap.size + 1 ≠ w.heap.size by omega) (.slice none 0 0); have cT := b2a.cell; have fT := b2a.frozen))
      have b1b := (S1.set (.slice none 0 0)).other (show w.heap.size ≠ w.heap.size + 1 by omega) (.int .i64 1)
      have b2b := b2a.set (.int .i64 1)
      have hc1 := b1b.cell
      have hc2 := b2b.cell
      refine ⟨.tuple #[.slice none 0 0, .int .i64 1], by simp [results, Try.results26, go_sem, hc1, hc2], ?_⟩
      exact RT_nil ((HB2.out.setCell (p := ⟨w.heap.size, 0, none⟩) (Nat.le_refl _) _).setCell (p := ⟨w.heap.size + 1, 0, none⟩) (Nat.le_succ _) _)
  · have dc : (chkK 1 a == 0) = false := by simpa using h1
    have dc2 : (chkK 1 a != 0) = true := by simpa using h1
    have HM : mrgS a b = ([], 1) := by unfold mrgS; rw [if_neg (fun h => h1 h.1)]
    rw [HM]
    generalize chkK 1 a = ck at *
    have bR1 := (Boxed.new w 22 (.slice none 0 0)).alloc (.cells #[.int .i64 0] 24)
    have bR2 := Boxed.new (w.alloc (.cells #[.slice none 0 0] 22)) 24 (.int .i64 0)
    rw [World.size_alloc] at bR2
    clear h1 HM HCS HCC hA hB
    refine callsIn_of_wp_marks Try.func26 rfl trivial ?_ rfl
    simp only [Try.ntmps26, List.size_toArray, List.length_cons, List.length_nil, Nat.reduceAdd, Nat.reduceSub, Array.replicate_succ, Array.replicate_zero, List.push_toArray, List.append_toArray, List.nil_append, List.cons_append]
    gi_wp2_with (first | (refine ⟨trivial, ?_⟩; gi_at_call 15; refine (callsIn_wide.2 (HCA.out _ (by repeat (first | exact HB2.out | apply below_alloc | apply pw_below_drewN | apply below_drew)))).mono ?_; rintro e w2 ⟨rfl, hb⟩; have S1 := Boxed.below' bR1 hb (by simp; omega); have S2 := Boxed.below' bR2 hb (by simp); have n1_ := Aside0.mk ((show Below w.heap.size w _ by repeat (first | exact HB2.out | apply below_alloc | apply pw_below_drewN | apply below_drew)).trans (hb.mono (by have := HB2.out.size; simp; try omega))); clear HB2; have HB2 := n1_; clear n1_; clear hb HCA bR1 bR2; have cS := S1.cell; have fS := S1.frozen; have b2a := S2.other (show w.heap.size + 1 ≠ w.heap.size by omega) (.slice none 0 0); have cT := b2a.cell; have fT := b2a.frozen) | (refine ⟨trivial, ?_⟩; gi_wp2))
    have b1b := (S1.set (.slice none 0 0)).other (show w.heap.size ≠ w.heap.size + 1 by omega) (.int .i64 1)
    have b2b := b2a.set (.int .i64 1)
    have hc1 := b1b.cell
    have hc2 := b2b.cell
    refine ⟨.tuple #[.slice none 0 0, .int .i64 1], by simp [results, Try.results26, go_sem, hc1, hc2], ?_⟩
    exact RT_nil ((HB2.out.setCell (p := ⟨w.heap.size, 0, none⟩) (Nat.le_refl _) _).setCell (p := ⟨w.heap.size + 1, 0, none⟩) (Nat.le_succ _) _)
/-- The contract of Merge. -/
theorem Merge_calls (A B : Option Addr) (c d : Nat) (a b : L29) (w : World) (hA : Kd.C k29 w A a.length a) (hc : a.length ≤ c) (hB : Kd.C k29 w B b.length b) (hd : b.length ≤ d) (hla : a.length ≤ 400000) (hlb : b.length ≤ 400000) :
    Calls Try.prog 26 #[.slice A a.length c, .slice B b.length d] w (RT w (mrgS a b).1 (mrgS a b).2) :=
  callsIn_wide.1 (Merge_in A B c d a b w hA hc hB hd hla hlb)
end Go.Proofs.Ytjgkcgfbkcbjfaa.H

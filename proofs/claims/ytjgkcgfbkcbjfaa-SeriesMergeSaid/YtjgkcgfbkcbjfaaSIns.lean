/- The contract of series.Insert. -/
import Derived.Test.YtjgkcgfbkcbjfaaSInc
import Derived.Test.YtjgkcgfbkcbjfaaSFind
import Derived.Test.YtjgkcgfbkcbjfaaGClone
import Derived.Deep.RegionHeld3
namespace Go.Proofs.Ytjgkcgfbkcbjfaa.H
open Go Go.RowKit Go.Proofs.YtjgkcgfbkcbjfaaW.PrintWords Go.Proofs.YtjgkcgfbkcbjfaaW.PrintLast Go.Proofs.YtjgkcgfbkcbjfaaW.PrintMore Go.Proofs.Ytjgkcgfbkcbjfaa.PAll
set_option linter.unusedVariables false
set_option linter.unusedSimpArgs false

def eqO : Option S29 → S29 → Bool
  | some y, x => y.f0 == x.f0 && y.f1 == x.f1
  | none, _ => false
/-- What Insert comes to. -/
def insS (l : L29) (x : S29) : L29 × Int :=
  if chkK 1 l = 0 then
    if okX x = true then
      if hasT l x.f0 = true then (if eqO l[plc l x.f0]? x = true then ([], 6) else ([], 16))
      else if 2000 ≤ l.length then ([], 4) else (insL l (plc l x.f0) x, 0)
    else ([], 2)
  else ([], 1)

theorem run_eqS (x y : S29) (w : World) : (binOp .eql 29 (.agg #[Value.int .i64 x.f0, Value.int .i64 x.f1]) (.agg #[Value.int .i64 y.f0, Value.int .i64 y.f1])).run Try.prog w = .ok (.bool (x.f0 == y.f0 && (x.f1 == y.f1))) w := by
  simp only [binOp]
  simp [Op.equal, Op.maxDepth, eqA29 9998 w]
theorem run_neS (x y : S29) (w : World) : (binOp .neq 29 (.agg #[Value.int .i64 x.f0, Value.int .i64 x.f1]) (.agg #[Value.int .i64 y.f0, Value.int .i64 y.f1])).run Try.prog w = .ok (.bool (!(x.f0 == y.f0 && (x.f1 == y.f1)))) w := by
  simp only [binOp]
  simp [Op.equal, Op.maxDepth, eqA29 9998 w]
theorem isSample_calls (x : S29) (w : World) : Calls Try.prog 36 #[.agg #[Value.int .i64 x.f0, Value.int .i64 x.f1]] w fun e w' => e = .returned (.bool (okX x)) ∧ Below w.heap.size w w' :=
  series_isSample.calls x.f0 x.f1 _ w (isSample_f x)

theorem own_ne {W : World} {base : Nat} {e : TypeId} {sz n : Nat} {v : Value} {xs : List Value} (h : W.ownsRow base e sz v n xs) : v.ownBlock ≠ some W.heap.size := by
  rcases h.2 with ⟨rfl, _⟩ | ⟨g, cap, cur, rfl, _, hg, _⟩
  · simp [Value.ownBlock]
  · intro he
    have := heap_lt hg
    simp [Value.ownBlock] at he
    omega
theorem own_gt {W : World} {base : Nat} {e : TypeId} {sz n : Nat} {v : Value} {xs : List Value} (h : W.ownsRow base e sz v n xs) {b : Nat} (hb : b < base) : v.ownBlock ≠ some b := by
  rcases h.2 with ⟨rfl, _⟩ | ⟨g, cap, cur, rfl, hg, _, _⟩
  · simp [Value.ownBlock]
  · intro he
    simp [Value.ownBlock] at he
    omega
def RT (w : World) (l : L29) (code : Int) (e : Ending) (w' : World) : Prop := ∃ v, e = .returned (.tuple #[v, .int .i64 code]) ∧ Kd.R k29 29 w' w.heap.size (fun _ => True) v l ∧ Below w.heap.size w w'
theorem RT_nil {w w' : World} {code : Int} (hb : Below w.heap.size w w') : RT w [] code (.returned (.tuple #[.slice none 0 0, .int .i64 code])) w' :=
  ⟨_, rfl, R_of_lcells (World.ownsRow_nil _ _ _ _), hb⟩

set_option maxRecDepth 100000 in
set_option maxHeartbeats 8000000 in
theorem Insert_S (A : Option Addr) (c : Nat) (l : L29) (x : S29) (w : World) (hr : Kd.C k29 w A l.length l) (hc : l.length ≤ c) (hl : l.length ≤ 1000000) :
    Calls Try.prog 22 #[.slice A l.length c, .agg #[Value.int .i64 x.f0, Value.int .i64 x.f1]] w (RT w (insS l x).1 (insS l x).2) := by
  have HR := Aside0.mk hr
  have HCK := Aside0.mk (fun W (h : Below w.heap.size w W) => Check_calls 1 A c l W (Kd.C_below hr h) hc hl)
  have HIS := Aside0.mk (fun W => isSample_calls x W)
  have HB2 := Aside0.mk (Below.refl w.heap.size w)
  have hX := heap_alloc_new w (.cells #[Value.int .i64 x.f0, Value.int .i64 x.f1] 29)
  have hu := Try.underlying29
  by_cases h1 : chkK 1 l = 0
  · rw [h1] at HCK
    by_cases h2 : okX x = true
    · rw [h2] at HIS
      have hasc : Asc l := ((chkK_iff 1 l).1 h1).2.2.2
      have HFD := Aside0.mk (fun W (h : Below w.heap.size w W) => find_calls A c l x.f0 W (Kd.C_below hr h) hc hl hasc)
      have hple := plc_le l x.f0
      by_cases h3 : hasT l x.f0 = true
      · have hlt : plc l x.f0 < l.length := by
          unfold hasT at h3
          rcases Nat.lt_or_ge (plc l x.f0) l.length with h | h
          · exact h
          · rw [List.getElem?_eq_none h] at h3; cases h3
        have HF : insS l x = if eqO l[plc l x.f0]? x = true then ([], 6) else ([], 16) := by
          unfold insS; rw [if_pos h1, if_pos h2, if_pos h3]
        rw [h3] at HFD
        clear hr h1 h2 h3 hasc hple
        generalize plc l x.f0 = p at *
        rw [List.getElem?_eq_getElem hlt] at HF
        by_cases h4 : (l[p].f0 == x.f0 && l[p].f1 == x.f1) = true
        · rw [if_pos (show eqO (some l[p]) x = true from h4)] at HF
          have hbb := h4
          rw [HF]
          go_enter Try.func22, Try.ntmps22
          have hx0 := cell_of_heap hX 0 _ rfl
          have hx1 := cell_of_heap hX 1 _ rfl
          go_wp2_with (first
            | (go_at_call 15; refine (HCK.out _ (by repeat (first | exact HB2.out | apply below_alloc | apply pw_below_drewN | apply below_drew))).mono ?_; rintro e w1 ⟨rfl, hb⟩; have hX1 := Aside0.mk ((hb.block w.heap.size (by simp)).trans hX); have hy0 := cell_of_heap hX1.out 0 _ rfl; have hy1 := cell_of_heap hX1.out 1 _ rfl; have n1_ := Aside0.mk ((show Below w.heap.size w _ by repeat (first | exact HB2.out | apply below_alloc | apply pw_below_drewN | apply below_drew)).trans (hb.mono (by have := HB2.out.size; simp; try omega))); clear HB2; have HB2 := n1_; clear n1_; clear hb)
            | (go_at_call 36; refine (HIS.out _).mono ?_; rintro e w2 ⟨rfl, hb⟩; have hX2 := Aside0.mk ((hb.block w.heap.size (heap_lt hX1.out)).trans hX1.out); have hz0 := cell_of_heap hX2.out 0 _ rfl; have n1_ := Aside0.mk ((show Below w.heap.size w _ by repeat (first | exact HB2.out | apply below_alloc | apply pw_below_drewN | apply below_drew)).trans (hb.mono (by have := HB2.out.size; simp; try omega))); clear HB2; have HB2 := n1_; clear n1_; clear hb)
            | (go_at_call 39; refine (HFD.out _ (by repeat (first | exact HB2.out | apply below_alloc | apply pw_below_drewN | apply below_drew))).mono ?_; rintro e w3 ⟨rfl, hb⟩; have hX3 := Aside0.mk ((hb.block w.heap.size (heap_lt hX2.out)).trans hX2.out); have n1_ := Aside0.mk ((show Below w.heap.size w _ by repeat (first | exact HB2.out | apply below_alloc | apply pw_below_drewN | apply below_drew)).trans (hb.mono (by have := HB2.out.size; simp; try omega))); clear HB2; have HB2 := n1_; clear n1_; clear hb))
          have hd := at_T29 (Kd.C_below HR.out HB2.out) (p : Int) (by omega) (by omega)
          obtain ⟨ad, e1, hd0, hd1⟩ := hd
          cases e1
          rw [rdT_get l p hlt] at hd0 hd1
          simp only [Int.toNat_natCast] at hd0 hd1
          have hv0 := cell_of_heap hX3.out 0 _ rfl
          have hv1 := cell_of_heap hX3.out 1 _ rfl
          have pl : (0 ≤ (p : Int)) = True := eq_true (by omega)
          have dl : decide (p < l.length) = true := decide_eq_true hlt
          have hlt2 : (p : Int) < (l.length : Int) := by omega
          generalize l[p] = y at *
          have heq : ∀ W, _ := fun W => run_eqS y x W
          simp only [hbb] at heq
          clear hbb
          go_quiet (fail)
          go_wp2
          go_ret2
          exact RT_nil (by repeat (first | exact HB2.out | apply below_alloc | apply pw_below_drewN | apply below_drew))
        · rw [if_neg (show ¬ eqO (some l[p]) x = true from h4)] at HF
          rw [HF]
          have hbb : (l[p].f0 == x.f0 && l[p].f1 == x.f1) = false := by simpa using h4
          go_enter Try.func22, Try.ntmps22
          have hx0 := cell_of_heap hX 0 _ rfl
          have hx1 := cell_of_heap hX 1 _ rfl
          go_wp2_with (first
            | (go_at_call 15; refine (HCK.out _ (by repeat (first | exact HB2.out | apply below_alloc | apply pw_below_drewN | apply below_drew))).mono ?_; rintro e w1 ⟨rfl, hb⟩; have hX1 := Aside0.mk ((hb.block w.heap.size (by simp)).trans hX); have hy0 := cell_of_heap hX1.out 0 _ rfl; have hy1 := cell_of_heap hX1.out 1 _ rfl; have n1_ := Aside0.mk ((show Below w.heap.size w _ by repeat (first | exact HB2.out | apply below_alloc | apply pw_below_drewN | apply below_drew)).trans (hb.mono (by have := HB2.out.size; simp; try omega))); clear HB2; have HB2 := n1_; clear n1_; clear hb)
            | (go_at_call 36; refine (HIS.out _).mono ?_; rintro e w2 ⟨rfl, hb⟩; have hX2 := Aside0.mk ((hb.block w.heap.size (heap_lt hX1.out)).trans hX1.out); have hz0 := cell_of_heap hX2.out 0 _ rfl; have n1_ := Aside0.mk ((show Below w.heap.size w _ by repeat (first | exact HB2.out | apply below_alloc | apply pw_below_drewN | apply below_drew)).trans (hb.mono (by have := HB2.out.size; simp; try omega))); clear HB2; have HB2 := n1_; clear n1_; clear hb)
            | (go_at_call 39; refine (HFD.out _ (by repeat (first | exact HB2.out | apply below_alloc | apply pw_below_drewN | apply below_drew))).mono ?_; rintro e w3 ⟨rfl, hb⟩; have hX3 := Aside0.mk ((hb.block w.heap.size (heap_lt hX2.out)).trans hX2.out); have n1_ := Aside0.mk ((show Below w.heap.size w _ by repeat (first | exact HB2.out | apply below_alloc | apply pw_below_drewN | apply below_drew)).trans (hb.mono (by have := HB2.out.size; simp; try omega))); clear HB2; have HB2 := n1_; clear n1_; clear hb))
          have hd := at_T29 (Kd.C_below HR.out HB2.out) (p : Int) (by omega) (by omega)
          obtain ⟨ad, e1, hd0, hd1⟩ := hd
          cases e1
          rw [rdT_get l p hlt] at hd0 hd1
          simp only [Int.toNat_natCast] at hd0 hd1
          have hv0 := cell_of_heap hX3.out 0 _ rfl
          have hv1 := cell_of_heap hX3.out 1 _ rfl
          have pl : (0 ≤ (p : Int)) = True := eq_true (by omega)
          have dl : decide (p < l.length) = true := decide_eq_true hlt
          have hlt2 : (p : Int) < (l.length : Int) := by omega
          generalize l[p] = y at *
          have heq : ∀ W, _ := fun W => run_eqS y x W
          simp only [hbb] at heq
          clear hbb
          go_quiet (fail)
          go_wp2
          go_ret2
          exact RT_nil (by repeat (first | exact HB2.out | apply below_alloc | apply pw_below_drewN | apply below_drew))
      · have h3' : hasT l x.f0 = false := by simpa using h3
        rw [h3'] at HFD
        have hl20 := ((chkK_iff 1 l).1 h1).2.1
        by_cases h5 : 2000 ≤ l.length
        · have HF : insS l x = ([], 4) := by unfold insS; rw [if_pos h1, if_pos h2, if_neg h3, if_pos h5]
          have q1 : (2000 ≤ (l.length : Int)) = True := eq_true (by omega)
          have q2 : (2000 ≤ l.length) = True := eq_true h5
          rw [HF]
          clear hr h1 h2 h3 h3' hasc hple h5 hl20 HF
          generalize plc l x.f0 = p at *
          go_enter Try.func22, Try.ntmps22
          have hx0 := cell_of_heap hX 0 _ rfl
          have hx1 := cell_of_heap hX 1 _ rfl
          go_wp2_with (first
            | (go_at_call 15; refine (HCK.out _ (by repeat (first | exact HB2.out | apply below_alloc | apply pw_below_drewN | apply below_drew))).mono ?_; rintro e w1 ⟨rfl, hb⟩; have hX1 := Aside0.mk ((hb.block w.heap.size (by simp)).trans hX); have hy0 := cell_of_heap hX1.out 0 _ rfl; have hy1 := cell_of_heap hX1.out 1 _ rfl; have n1_ := Aside0.mk ((show Below w.heap.size w _ by repeat (first | exact HB2.out | apply below_alloc | apply pw_below_drewN | apply below_drew)).trans (hb.mono (by have := HB2.out.size; simp; try omega))); clear HB2; have HB2 := n1_; clear n1_; clear hb)
            | (go_at_call 36; refine (HIS.out _).mono ?_; rintro e w2 ⟨rfl, hb⟩; have hX2 := Aside0.mk ((hb.block w.heap.size (heap_lt hX1.out)).trans hX1.out); have hz0 := cell_of_heap hX2.out 0 _ rfl; have n1_ := Aside0.mk ((show Below w.heap.size w _ by repeat (first | exact HB2.out | apply below_alloc | apply pw_below_drewN | apply below_drew)).trans (hb.mono (by have := HB2.out.size; simp; try omega))); clear HB2; have HB2 := n1_; clear n1_; clear hb)
            | (go_at_call 39; refine (HFD.out _ (by repeat (first | exact HB2.out | apply below_alloc | apply pw_below_drewN | apply below_drew))).mono ?_; rintro e w3 ⟨rfl, hb⟩; have hX3 := Aside0.mk ((hb.block w.heap.size (heap_lt hX2.out)).trans hX2.out); have n1_ := Aside0.mk ((show Below w.heap.size w _ by repeat (first | exact HB2.out | apply below_alloc | apply pw_below_drewN | apply below_drew)).trans (hb.mono (by have := HB2.out.size; simp; try omega))); clear HB2; have HB2 := n1_; clear n1_; clear hb))
          go_quiet (fail)
          go_wp2
          go_ret2
          exact RT_nil (by repeat (first | exact HB2.out | apply below_alloc | apply pw_below_drewN | apply below_drew))
        · have HF : insS l x = (insL l (plc l x.f0) x, 0) := by unfold insS; rw [if_pos h1, if_pos h2, if_neg h3, if_neg h5]
          have q1 : (2000 ≤ (l.length : Int)) = False := eq_false (by omega)
          have q2 : (2000 ≤ l.length) = False := eq_false h5
          rw [HF]
          have HCL := Aside0.mk (fun W (h : Below w.heap.size w W) => Clone_calls A c l W (Kd.C_below hr h) hc (by omega))
          clear hr h1 h2 h3 h3' hasc h5 hl20 HF
          generalize plc l x.f0 = p at *
          have HII := Aside0.mk (fun vb base v W (h3 : base ≤ W.heap.size) (h4 : W.ownsRow base 29 2 v l.length (lcells l)) (h5 : W.heap[vb]? = some (.cells #[Value.int .i64 x.f0, Value.int .i64 x.f1] 29 (0, 0))) (h6 : v.ownBlock ≠ some vb) => Insert_calls vb base p v l x W hple (by omega) h3 h4 h5 h6)
          have HPL := Aside0.mk hple
          clear hple
          go_enter Try.func22, Try.ntmps22
          have hx0 := cell_of_heap hX 0 _ rfl
          have hx1 := cell_of_heap hX 1 _ rfl
          go_wp2_with (first
            | (go_at_call 15; refine (HCK.out _ (by repeat (first | exact HB2.out | apply below_alloc | apply pw_below_drewN | apply below_drew))).mono ?_; rintro e w1 ⟨rfl, hb⟩; have hX1 := Aside0.mk ((hb.block w.heap.size (by simp)).trans hX); have hy0 := cell_of_heap hX1.out 0 _ rfl; have hy1 := cell_of_heap hX1.out 1 _ rfl; have n1_ := Aside0.mk ((show Below w.heap.size w _ by repeat (first | exact HB2.out | apply below_alloc | apply pw_below_drewN | apply below_drew)).trans (hb.mono (by have := HB2.out.size; simp; try omega))); clear HB2; have HB2 := n1_; clear n1_; clear hb)
            | (go_at_call 36; refine (HIS.out _).mono ?_; rintro e w2 ⟨rfl, hb⟩; have hX2 := Aside0.mk ((hb.block w.heap.size (heap_lt hX1.out)).trans hX1.out); have hz0 := cell_of_heap hX2.out 0 _ rfl; have n1_ := Aside0.mk ((show Below w.heap.size w _ by repeat (first | exact HB2.out | apply below_alloc | apply pw_below_drewN | apply below_drew)).trans (hb.mono (by have := HB2.out.size; simp; try omega))); clear HB2; have HB2 := n1_; clear n1_; clear hb)
            | (go_at_call 39; refine (HFD.out _ (by repeat (first | exact HB2.out | apply below_alloc | apply pw_below_drewN | apply below_drew))).mono ?_; rintro e w3 ⟨rfl, hb⟩; have hX3 := Aside0.mk ((hb.block w.heap.size (heap_lt hX2.out)).trans hX2.out); have n1_ := Aside0.mk ((show Below w.heap.size w _ by repeat (first | exact HB2.out | apply below_alloc | apply pw_below_drewN | apply below_drew)).trans (hb.mono (by have := HB2.out.size; simp; try omega))); clear HB2; have HB2 := n1_; clear n1_; clear hb))
          go_quiet (fail)
          go_wp2
          have hB3 := Aside0.mk (show Below w.heap.size w (w3.drewN nq) from (by repeat (first | exact HB2.out | apply below_alloc | apply pw_below_drewN | apply below_drew)))
          have hX4 := Aside0.mk (show (w3.drewN nq).heap[w.heap.size]? = some (.cells #[Value.int .i64 x.f0, Value.int .i64 x.f1] 29 (0, 0)) from hX3.out)
          clear HB2 hX3
          generalize w3.drewN nq = W4 at *
          have HB2 := hB3
          clear hB3
          have hv0 := cell_of_heap hX4.out 0 _ rfl
          have hv1 := cell_of_heap hX4.out 1 _ rfl
          have hl4 := heap_lt hX4.out
          have nw0 := World.new_ne W4 _ hv0
          have nw1 := World.new_ne W4 _ hv1
          go_region_held3 (fun w' => w'.cell? ⟨w.heap.size, 0, none⟩ = some (.int .i64 x.f0) ∧ w'.cell? ⟨w.heap.size, 1, none⟩ = some (.int .i64 x.f1)) (go_keep)
            (first
            | (go_at_call 41; refine (HCL.out _ (by repeat (first | exact HB2.out | apply below_alloc | apply pw_below_drewN | apply below_drew))).mono ?_; rintro e w5 ⟨v5, rfl, hO, hb⟩; have HO := Aside0.mk hO; have HBC := Aside0.mk hb; have hX5 := Aside0.mk (show w5.heap[w.heap.size]? = some (.cells #[Value.int .i64 x.f0, Value.int .i64 x.f1] 29 (0, 0)) from (hb.block w.heap.size (by simp; omega)).trans (by first | exact hX4.out | exact heap_alloc_keep hX4.out)); have hk0 := cell_of_heap hX5.out 0 _ rfl; have hk1 := cell_of_heap hX5.out 1 _ rfl; have hl5 := heap_lt hX5.out; (try (have hV5 := Aside0.mk (show w5.heap[W4.heap.size]? = some (.cells #[Value.int .i64 x.f0, Value.int .i64 x.f1] 29 (0, 0)) from (hb.block W4.heap.size (by first | omega | (simp; done) | (simp; omega))).trans (heap_alloc_new W4 _)))); have n1_ := Aside0.mk ((show Below w.heap.size w _ by repeat (first | exact HB2.out | apply below_alloc | apply pw_below_drewN | apply below_drew)).trans (hb.mono (by have := HB2.out.size; simp; try omega))); clear HB2; have HB2 := n1_; clear n1_; clear hb hO)
            | (go_at_call 40; first
              | ((with_reducible refine (HII.out w5.heap.size (w.heap.size + 1) _ _ (by simp; omega) ((own_less HO.out (by simp; omega)).alloc _) (heap_alloc_new w5 _) (own_ne HO.out)).mono ?_); rintro e w6 ⟨v6, rfl, hb, hO6⟩; have HO6 := Aside0.mk hO6; have hX6 := Aside0.mk (show w6.heap[w.heap.size]? = some (.cells #[Value.int .i64 x.f0, Value.int .i64 x.f1] 29 (0, 0)) from (hb.block w.heap.size (Nat.lt_succ_self _)).trans (by first | exact hX5.out | exact heap_alloc_keep hX5.out)); have hq0 := cell_of_heap hX6.out 0 _ rfl; have hq1 := cell_of_heap hX6.out 1 _ rfl; have HB6 := Aside0.mk ((show Below w.heap.size w _ from (by repeat (first | exact HB2.out | apply below_alloc | apply pw_below_drewN | apply below_drew))).trans (hb.mono (Nat.le_succ _))); clear hb hO6)
              | ((with_reducible refine (HII.out W4.heap.size (w.heap.size + 1) _ _ (by first | omega | (simp; omega)) (own_less HO.out (by first | omega | (simp; omega))) hV5.out (own_gt HO.out (by first | omega | (simp; done) | (simp; omega)))).mono ?_); rintro e w6 ⟨v6, rfl, hb, hO6⟩; have HO6 := Aside0.mk hO6; have hX6 := Aside0.mk (show w6.heap[w.heap.size]? = some (.cells #[Value.int .i64 x.f0, Value.int .i64 x.f1] 29 (0, 0)) from (hb.block w.heap.size (Nat.lt_succ_self _)).trans (by first | exact hX5.out | exact heap_alloc_keep hX5.out)); have hq0 := cell_of_heap hX6.out 0 _ rfl; have hq1 := cell_of_heap hX6.out 1 _ rfl; have HB6 := Aside0.mk ((show Below w.heap.size w _ from (by repeat (first | exact HB2.out | apply below_alloc | apply pw_below_drewN | apply below_drew))).trans (hb.mono (Nat.le_succ _))); clear hb hO6)))
          all_goals
            go_wp2
            go_ret2
            exact ⟨_, rfl, R_of_lcells (own_less HO6.out (Nat.le_succ _)), HB6.out⟩
    · have HF : insS l x = ([], 2) := by unfold insS; rw [if_pos h1, if_neg h2]
      have h2' : okX x = false := by simpa using h2
      rw [h2'] at HIS
      rw [HF]
      clear hr h1 h2 h2' HF
      have hx0 := cell_of_heap hX 0 _ rfl
      have hx1 := cell_of_heap hX 1 _ rfl
      go_enter Try.func22, Try.ntmps22
      go_wp2_with (first
        | (go_at_call 15; refine (HCK.out _ (by repeat (first | exact HB2.out | apply below_alloc | apply pw_below_drewN | apply below_drew))).mono ?_; rintro e w1 ⟨rfl, hb⟩; have hy0 := (hb.cell (p := ⟨w.heap.size, 0, none⟩) (by simp)).trans hx0; have hy1 := (hb.cell (p := ⟨w.heap.size, 1, none⟩) (by simp)).trans hx1; have n1_ := Aside0.mk ((show Below w.heap.size w _ by repeat (first | exact HB2.out | apply below_alloc | apply pw_below_drewN | apply below_drew)).trans (hb.mono (by have := HB2.out.size; simp; try omega))); clear HB2; have HB2 := n1_; clear n1_; clear hb)
        | (go_at_call 36; refine (HIS.out _).mono ?_; rintro e w2 ⟨rfl, hb⟩; have n1_ := Aside0.mk ((show Below w.heap.size w _ by repeat (first | exact HB2.out | apply below_alloc | apply pw_below_drewN | apply below_drew)).trans (hb.mono (by have := HB2.out.size; simp; try omega))); clear HB2; have HB2 := n1_; clear n1_; clear hb))
      go_ret2
      exact RT_nil HB2.out
  · have HF : insS l x = ([], 1) := by unfold insS; rw [if_neg h1]
    have dc : (chkK 1 l == 0) = false := by simpa using h1
    have dc2 : (chkK 1 l != 0) = true := by simpa using h1
    rw [HF]
    generalize chkK 1 l = ck at *
    clear hr h1 HF
    go_enter Try.func22, Try.ntmps22
    go_wp2_with (first
      | (go_at_call 15; refine (HCK.out _ (by repeat (first | exact HB2.out | apply below_alloc | apply pw_below_drewN | apply below_drew))).mono ?_; rintro e w1 ⟨rfl, hb⟩; have n1_ := Aside0.mk ((show Below w.heap.size w _ by repeat (first | exact HB2.out | apply below_alloc | apply pw_below_drewN | apply below_drew)).trans (hb.mono (by have := HB2.out.size; simp; try omega))); clear HB2; have HB2 := n1_; clear n1_; clear hb))
    go_ret2
    exact RT_nil HB2.out
end Go.Proofs.Ytjgkcgfbkcbjfaa.H

/- A byte slice that a call builds: an own row, or the one byte that []byte("c") lays. -/
import Derived.Test.YtiooenmbondflaaPF0
namespace Go.Proofs.Ytiooenmbondflaa.H
open Go Go.RowKit Go.Proofs.YtiooenmbondflaaW.PrintWords Go.Proofs.YtiooenmbondflaaW.PrintLast Go.Proofs.YtiooenmbondflaaW.PrintMore
set_option linter.unusedVariables false

def BB (W : World) (base e : Nat) (v : Value) (xs : List Int) : Prop :=
  W.ownsRow base e 1 v xs.length (nums .u8 xs) ∨
  ∃ g c, v = .slice (some ⟨g, 0, none⟩) 1 1 ∧ base ≤ g ∧ W.heap[g]? = some (.cells #[.int .u8 c] e (1, 2)) ∧ xs = [c]

theorem BB.own {W : World} {base e : Nat} {v : Value} {xs : List Int} (h : W.ownsRow base e 1 v xs.length (nums .u8 xs)) : BB W base e v xs := .inl h

theorem heap_lt {W : World} {g : Nat} {o : Obj} (h : W.heap[g]? = some o) : g < W.heap.size := (Array.getElem?_eq_some_iff.1 h).1

theorem BB.below {W W1 : World} {base e : Nat} {v : Value} {xs : List Int} (h : BB W base e v xs) (hb : Below W.heap.size W W1) : BB W1 base e v xs := by
  rcases h with h | ⟨g, c, rfl, h1, h2, rfl⟩
  · exact .inl (pw_own_below h hb)
  · exact .inr ⟨g, c, rfl, h1, (hb.block g (heap_lt h2)).trans h2, rfl⟩

theorem cell_of_heap {W : World} {g : Nat} {cs : Array Value} {e : Nat} {fz : Nat × Nat} (h : W.heap[g]? = some (.cells cs e fz)) (j : Nat) (u : Value) (hu : cs[j]? = some u) : W.cell? ⟨g, j, none⟩ = some u := by
  simp [World.cell?, h, hu]

theorem BB.ne_box {W : World} {base e : Nat} {v : Value} {xs : List Int} (h : BB W base e v xs) {g t : Nat} {cs : Array Value} {fz : Nat × Nat} (hb : W.heap[g]? = some (.cells cs t fz)) (hne : t ≠ e) : some g ≠ v.ownBlock := by
  intro hk
  rcases h with h | ⟨g', c, rfl, h1, h2, rfl⟩
  · obtain ⟨cells, hc⟩ := own_typed h g hk.symm
    rw [hc] at hb
    injection hb with hb; injection hb with _ hb
    exact hne hb.symm
  · have : g' = g := by simpa [Value.ownBlock] using hk.symm
    subst this
    rw [h2] at hb
    injection hb with hb; injection hb with _ hb
    exact hne hb.symm

theorem BB.box {W w1 : World} {base e : Nat} {v : Value} {xs : List Int} (h : BB W base e v xs) (hg : W.grownBy w1 v.ownBlock) {g t : Nat} {cs : Array Value} {fz : Nat × Nat} (hb : W.heap[g]? = some (.cells cs t fz)) (hne : t ≠ e) : w1.heap[g]? = some (.cells cs t fz) :=
  (hg.block g (heap_lt hb) (h.ne_box hb hne)).trans hb
theorem heap_alloc_keep {W : World} {g : Nat} {o x : Obj} (h : W.heap[g]? = some x) : (W.alloc o).heap[g]? = some x := (heap_alloc_old W o (heap_lt h)).trans h

section
variable {P : Program} {ops : Array Oper} {rest : List Oper} {o : Oper} {a : Act} {Q : Exit → Act → World → Prop}

/-- append(b, <a literal of m bytes>...), m not 0. -/
theorem bb_lit {w0 W : World} (base : Nat) (hgd : o.guard = none) (s x : Operand) (t e : TypeId)
    (ho : o.op = .call { callee := .builtin .append, args := #[s, x], argTypes := #[t, t] })
    (ht : P.underlying t = some (.slice e)) (hinfo : (P.info? e).map (fun i => (i.zero, i.size, i.bytes)) = some (some (.int .u8 0), 1, 1))
    (v : Value) (xs : List Int) (hs : a.eval s = v) (ad : Addr) (ys : List Int) (m c : Nat) (hx : a.eval x = .slice (some ad) m c) (hm : ys.length = m) (hm0 : 0 < m)
    (hc : ∀ j u, (nums .u8 ys)[j]? = some u → W.cell? (ad.add j) = some u)
    (HO : BB W base e v xs) (HB : Below base w0 W) (hbase : base ≤ W.heap.size) (hl : xs.length + m ≤ 140737488355328)
    (h : ∀ v1 w1, w1.ownsRow base e 1 v1 (xs ++ ys).length (nums .u8 (xs ++ ys)) → Below base w0 w1 → W.grownBy w1 v.ownBlock → wpList P ops Q rest (a.put o.dst v1) w1) :
    wpList P ops Q (o :: rest) a W := by
  obtain ⟨i0, hi, hzz⟩ := Option.map_eq_some_iff.1 hinfo
  simp only [Prod.mk.injEq] at hzz
  obtain ⟨hz0, hz1, hz2⟩ := hzz
  have hn : (nums .u8 ys).length = m * 1 := by rw [nums_length, hm, Nat.mul_one]
  have h1 : ∀ u ∈ nums .u8 ys, u.oneCell' = true := by
    intro u hu; obtain ⟨_, _, rfl⟩ := List.mem_map.1 hu; rfl
  have hl2 : (xs ++ ys).length = xs.length + m := by rw [List.length_append, hm]
  rcases HO with HO | ⟨g, b, rfl, hg, hh, rfl⟩
  · refine wpList_append_own W hgd s x t ho base e i0 (.int .u8 0) 1 1 ht hi hz0 hz1 hz2 rfl (by decide) v xs.length (nums .u8 xs) hs HO ad m c (nums .u8 ys) hx hn hc h1 (by simp only [maxLen]; omega) (by omega) hbase ?_
    intro v1 w1 hown hgr _
    exact h v1 w1 (by rw [hl2, nums_append]; exact hown) (HB.grown hgr hbase (own_base HO)) hgr
  · refine wpList_append_grows W hgd s x t ho e i0 (.int .u8 0) 1 1 ht hi hz0 hz1 hz2 rfl (by decide) (some ⟨g, 0, none⟩) 1 1 (nums .u8 [b]) hs (fun hq => by cases hq) rfl ?_ ad m c (nums .u8 ys) hx hn hc h1 (by omega) (by simp only [maxLen]; simp at hl; omega) (by simp at hl; omega) ?_
    · rintro _ ⟨⟩ j u hu
      rw [add_plain]
      rcases j with _ | j
      · simp [nums] at hu
        exact cell_of_heap hh 0 u (by simp [hu])
      · simp [nums] at hu
    · intro v1 w1 hown hgr
      refine h v1 w1 ?_ (HB.grown hgr hbase (fun _ hk => by cases hk)) ⟨hgr.os, hgr.tape, hgr.output, hgr.size, fun k hk _ => hgr.block k hk (by simp)⟩
      rw [hl2, nums_append]
      exact own_weaken hown hbase

/-- append(b, s...), s a string. -/
theorem bb_str {w0 W : World} (base : Nat) (hgd : o.guard = none) (s x : Operand) (t u e : TypeId)
    (ho : o.op = .call { callee := .builtin .append, args := #[s, x], argTypes := #[t, u] })
    (ht : P.underlying t = some (.slice e)) (hu : P.underlying u = some .string) (hinfo : (P.info? e).map (fun i => (i.zero, i.size, i.bytes)) = some (some (.int .u8 0), 1, 1))
    (v : Value) (xs : List Int) (y : ByteArray) (hs : a.eval s = v) (hx : a.eval x = .string y)
    (HO : BB W base e v xs) (HB : Below base w0 W) (hbase : base ≤ W.heap.size) (hl : xs.length + y.size ≤ 140737488355328)
    (h : ∀ v1 w1, BB w1 base e v1 (xs ++ bytesOf y) → Below base w0 w1 → W.grownBy w1 v.ownBlock → wpList P ops Q rest (a.put o.dst v1) w1) :
    wpList P ops Q (o :: rest) a W := by
  rcases HO with HO | ⟨g, b, rfl, hg, hh, rfl⟩
  · exact print_append_str base hgd s x t u e ho ht hu hinfo v xs y hs hx HO HB hbase hl (fun v1 w1 k1 k2 k3 => h v1 w1 (.inl k1) k2 k3)
  · obtain ⟨i0, hi, hzz⟩ := Option.map_eq_some_iff.1 hinfo
    simp only [Prod.mk.injEq] at hzz
    obtain ⟨hz0, hz1, hz2⟩ := hzz
    simp only [List.length_singleton] at hl
    have hcell : ∀ j w', (nums .u8 [b])[j]? = some w' → W.cell? ((⟨g, 0, none⟩ : Addr).add j) = some w' := by
      intro j w' hj
      rw [add_plain]
      rcases j with _ | j
      · simp [nums] at hj
        exact cell_of_heap hh 0 w' (by simp [hj])
      · simp [nums] at hj
    have HN : Below base W W := Below.refl _ _
    refine wpList_plain hgd fun K hK' => ?_
    rcases Nat.eq_zero_or_pos y.size with h0 | h0
    · have hy : Lib.strCells y = [] := List.eq_nil_of_length_eq_zero (by rw [Lib.strCells_length]; exact h0)
      have hf := Lib.run_firstCells_string (P := P) W 1 y
      rw [hy, h0] at hf
      have hrun : (Builtin.append_ #[t, u] o.type #[.slice (some ⟨g, 0, none⟩) 1 1, .string y]).run P W = .ok (.slice (some ⟨g, 0, none⟩) 1 1) W := by
        simp [Builtin.append_, run_underlying ht, run_underlying hu, sizeOf, typeInfo, hi, hz1, Builtin.lenOf, h0, hf, Addr.add_lit, storeCells]
      have hyb : bytesOf y = [] := List.eq_nil_of_length_eq_zero (by rw [bytesOf_length]; exact h0)
      unfold Oper.wp
      simp [execOp, ho, resolve, invoke, builtin, hs, hx, hrun, Result.andThen]
      exact hK' _ _ (h _ _ (.inr ⟨g, b, rfl, hg, hh, by rw [hyb]; rfl⟩) HB (World.grownBy.refl _ _))
    · have hcells : bytesOf y = bytesOf y := rfl
      have hc2 : Lib.strCells y = nums .u8 (bytesOf y) := by simp [nums, bytesOf, Lib.strCells]
      have hrun := Lib.run_append_grow_string (P := P) W t u o.type e i0 (.int .u8 0) ht hu hi hz0 ⟨g, 0, none⟩ 1 1 (nums .u8 [b]) (by simp [nums, hz1]) hcell y (by omega) (by omega) (by rw [hz2]; exact growslice_fits (by omega) (by omega))
      have hge := grownCap_ge W (1 + y.size) 1 e
      have hcm := grownCap_le_maxLen W (1 + y.size) 1 e (by simp only [maxLen]; omega)
      have hlen : (nums .u8 ([b] ++ bytesOf y)).length = ([b] ++ bytesOf y).length * 1 := by rw [nums_length, Nat.mul_one]
      have hl3 : ([b] ++ bytesOf y).length = 1 + y.size := by rw [List.length_append, bytesOf_length]; rfl
      have hown : (W.drew.alloc (.cells ((nums .u8 [b]).toArray ++ (Lib.strCells y).toArray ++ Builtin.zeroCells (Value.int .u8 0).cells (grownCap W (1 + y.size) 1 e - (1 + y.size))) e)).ownsRow base e 1
          (.slice (some ⟨W.heap.size, 0, none⟩) (1 + y.size) (grownCap W (1 + y.size) 1 e)) ([b] ++ bytesOf y).length (nums .u8 ([b] ++ bytesOf y)) := by
        refine ⟨hlen, .inr ⟨W.heap.size, _, _, by rw [hl3], hbase, heap_alloc_new W.drew _, by rw [hl3]; exact hge, hcm, ?_, ?_⟩⟩
        · simp only [Array.size_append, List.size_toArray, size_zeroCells, nums_length, Lib.strCells_length]
          simp [Value.cells]; omega
        · rw [hc2, nums_append]
          simp only [Array.toList_append]
          rw [List.take_append_of_le_length (by simp [nums]), List.take_of_length_le (by simp [nums])]
      obtain ⟨v1, w1, hrun1, hown1, hb1⟩ : ∃ v1 w1, (Builtin.append_ #[t, u] o.type #[.slice (some ⟨g, 0, none⟩) 1 1, .string y]).run P W = .ok v1 w1 ∧ w1.ownsRow base e 1 v1 ([b] ++ bytesOf y).length (nums .u8 ([b] ++ bytesOf y)) ∧ Below W.heap.size W w1 :=
        ⟨_, _, hrun, hown, ⟨rfl, rfl, rfl, by simp, fun k hk => heap_alloc_old W.drew _ (show k < W.drew.heap.size from hk)⟩⟩
      clear hrun hown
      unfold Oper.wp
      simp [execOp, ho, resolve, invoke, builtin, hs, hx, hrun1, Result.andThen]
      exact hK' _ _ (h _ _ (.inl hown1) (HB.trans (hb1.mono hbase)) (grown_of_below hb1 _))
end
end Go.Proofs.Ytiooenmbondflaa.H

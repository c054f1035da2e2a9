/- heavyhitters.shorten: two lists of items put together by a map, arranged, cut. -/
import Derived.Test.YtakobehkajphpaaGreatTKCmp
import Derived.Maps.OwnOps
import Derived.Maps.OwnSet
import Derived.Maps.RangeWalk
import Derived.Laws.OwnMore
import Derived.Lib.AppendZeros
namespace Go.Proofs.YtakobehkajphpaaGreat.K
open Go Go.RowKit Go.WideMaps Go.Proofs.YtakobehkajphpaaGreatW.PrintWords Go.Proofs.YtakobehkajphpaaGreatW.PrintLast Go.Proofs.YtakobehkajphpaaGreatW.PrintMore Go.Proofs.YtakobehkajphpaaGreat.PAll
set_option linter.unusedVariables false
set_option linter.unusedSimpArgs false

theorem run_makeMap_hint (w : World) (n : Int) : (Instr.makeMap 139 (some (.int .i64 n))).run Tryz.prog w = .ok (.map (some w.heap.size)) (w.alloc (.map #[] 0)) := by
  have hu := Tryz.underlying139
  simp [Instr.makeMap, run_underlying hu, asInt, asIntOf]
theorem lawS : Maps.Keyed Tryz.prog 9 := Maps.string_keyed Tryz.underlying9
theorem zeroI (w : World) : (zeroValue 3).run Tryz.prog w = .ok (.int .i64 0) w := by kernel_rfl
/-- The map's datum is that of a list's counts; n entries at most. -/
def HasMap (w : World) (b : Nat) (l : L64) : Prop := ∃ D, w.ownsMap Tryz.prog 9 (plainElem (H := Unit) Tryz.prog 3) b l.length D ∧ MapOf D l
theorem slice_at {α : Type} {d : Kd α} {e : Nat} {w : World} {A : Option Addr} {ls : List (List α)} (h : Kd.C (Kd.slice e d) w A ls.length ls) (j : Nat) (hj : j < ls.length) :
    ∃ ad A' c', A = some ad ∧ w.cell? (ad.add j) = some (.slice A' ls[j].length c') ∧ ls[j].length ≤ c' ∧ Kd.C d w A' ls[j].length ls[j] := by
  obtain ⟨ad, c, e1, _, ⟨A', c', rfl, hl, hC⟩, hc0⟩ := Kd.C_get h [] (j : Int) (by omega) (by omega)
  have hg : ls.getD (j : Int).toNat [] = ls[j] := by simp [List.getD_eq_getElem?_getD, List.getElem?_eq_getElem hj]
  rw [hg] at hC hl hc0
  refine ⟨ad, A', c', e1, ?_, hl, hC⟩
  have := hc0 0 _ rfl
  simpa [Kd.slice] using this

/-- What stays while the map is filled: all but the map's block. -/
structure Fill (W0 W : World) (b : Nat) : Prop where
  os : W.os = W0.os
  tape : W.tape = W0.tape
  output : W.output = W0.output
  size : W0.heap.size ≤ W.heap.size
  same : ∀ k, k < W0.heap.size → k ≠ b → W.heap[k]? = W0.heap[k]?
theorem Fill.refl (W : World) (b : Nat) : Fill W W b := ⟨rfl, rfl, rfl, Nat.le_refl _, fun _ _ _ => rfl⟩
theorem Fill.grown {W0 W W' : World} {b : Nat} (h : Fill W0 W b) {row : Option Nat} (hg : W.grownBy W' row) (hr : ∀ r, row = some r → r = b ∨ W0.heap.size ≤ r) : Fill W0 W' b :=
  ⟨hg.os.trans h.os, hg.tape.trans h.tape, hg.output.trans h.output, Nat.le_trans h.size hg.size, fun k hk hb => (hg.block k (Nat.lt_of_lt_of_le hk h.size) (fun e => by rcases hr k e.symm with h1 | h1; exact hb h1; omega)).trans (h.same k hk hb)⟩
theorem Fill.alloc {W0 W : World} {b : Nat} (h : Fill W0 W b) (o : Obj) : Fill W0 (W.alloc o) b := h.grown (World.grownBy_alloc W o none) (fun r e => by cases e)
theorem Fill.below {W0 W : World} {b : Nat} (h : Fill W0 W b) {n : Nat} (hn : n ≤ W0.heap.size) (hb : n ≤ b) : Below n W0 W := ⟨h.os, h.tape, h.output, h.size, fun k hk => h.same k (by omega) (by omega)⟩

theorem tot_le_sumI {l : L64} (h : Pos l) (k : ByteArray) : tot l k ≤ sumI l := by
  induction l with
  | nil => simp [tot_nil, sumI]
  | cons x l ih =>
    rw [tot_cons, sumI_cons]
    have h0 := h x (by simp)
    have := ih (fun y hy => h y (by simp [hy]))
    split <;> omega
theorem sumI_append (a b : L64) : sumI (a ++ b) = sumI a + sumI b := by simp [sumI]
theorem keyOf_strB {key : Value} {kl : Lit} (h : keyOf Tryz.prog 9 key = some kl) : ∃ x : ByteArray, key = .string x ∧ kl = kL x ∧ x.size ≤ maxLen := by
  have hk := Tryz.underlying9
  cases key <;> simp [keyOf, hk, mapKey] at h
  rename_i s
  obtain ⟨hs, rfl⟩ := h
  exact ⟨s, rfl, rfl, hs⟩
theorem cells_new2 (W : World) (u0 u1 : Value) (T : TypeId) : ∀ j u, ([u0, u1] : List Value)[j]? = some u → (W.alloc (.cells #[u0, u1] T)).cell? ((⟨W.heap.size, 0, none⟩ : Addr).add j) = some u := by
  intro j u h
  rw [add_plain]
  exact cell_of_heap (heap_alloc_new W _) j u (by simpa using h)
theorem row_ne {w : World} {base e size n : Nat} {v : Value} {xs : List Value} (h : w.ownsRow base e size v n xs) {b : Nat} (hb : b < base) : some b ≠ v.ownBlock := fun e' => by have := own_base h b e'.symm; omega
theorem row_ne_iter' {H : Type} {P : Program} {k : TypeId} {R : Value → Option (DataW H × List MemPlace)} {w : World} {base e size n b r m cnt : Nat} {D : DataW H} {left : Lit → Bool} {v : Value} {xs : List Value} (h : w.ownsRow base e size v n xs) (hr : w.ranges P k R b r m D left cnt) : some r ≠ v.ownBlock := by
  intro e'
  obtain ⟨cells, hc⟩ := own_typed h r e'.symm
  obtain ⟨es, clock, since, seen, c0, _, _, _, _, hr, _⟩ := hr
  rw [hr] at hc; cases hc
/-- A row that the call owns, element by element. -/
theorem own_cellE {W : World} {base g n cap : Nat} {zs : L64} (h : W.ownsRow base 64 2 (.slice (some ⟨g, 0, none⟩) n cap) n (lcells zs)) (i : Nat) (hi : i < zs.length) :
    W.cell? ⟨g, i * 2, none⟩ = some (.string zs[i].f0) ∧ W.cell? ⟨g, i * 2 + 1, none⟩ = some (.int .i64 zs[i].f1) ∧ W.frozen? ⟨g, i * 2 + 1, none⟩ = false := by
  rcases h.2 with ⟨e, _⟩ | ⟨g', cap', cur, e, hbg, hg, hle, hcm, hsz, htk⟩
  · cases e
  · cases e
    have hlen : (lcells zs).length = n * 2 := h.1
    have key : ∀ r, r < 2 → cur[i * 2 + r]? = ([Value.string zs[i].f0, Value.int .i64 zs[i].f1] : List Value)[r]? := fun r hr => by
      rw [← lcells_at zs i r hi hr, ← htk, List.getElem?_take, if_pos (by rw [lcells_length] at hlen; omega), Array.getElem?_toList]
    exact ⟨cell_of_heap hg _ _ (by have := key 0 (by omega); simpa using this), cell_of_heap hg _ _ (by have := key 1 (by omega); simpa using this), by simp [World.frozen?, hg]⟩
theorem lcells_set1 (zs : L64) : ∀ (i : Nat) (hi : i < zs.length) (x : Int), (lcells zs).set (i * 2 + 1) (.int .i64 x) = lcells (zs.set i ⟨zs[i].f0, x⟩) := by
  induction zs with
  | nil => intro i hi; simp at hi
  | cons y zs ih =>
    intro i hi x
    cases i with
    | zero => simp [lcells]
    | succ i =>
      have := ih i (by simpa using hi) x
      simp only [lcells, List.flatMap_cons, List.getElem_cons_succ, List.set_cons_succ] at *
      rw [← this, List.set_append_right _ _ (by simp; omega)]
      congr 2; simp; omega
theorem own_set1 {W : World} {base g n cap : Nat} {zs : L64} (h : W.ownsRow base 64 2 (.slice (some ⟨g, 0, none⟩) n cap) n (lcells zs)) (i : Nat) (hi : i < zs.length) (x : Int) :
    (W.setCell ⟨g, i * 2 + 1, none⟩ (.int .i64 x)).ownsRow base 64 2 (.slice (some ⟨g, 0, none⟩) n cap) n (lcells (zs.set i ⟨zs[i].f0, x⟩)) ∧ W.grownBy (W.setCell ⟨g, i * 2 + 1, none⟩ (.int .i64 x)) (some g) := by
  have := h.stored (i * 2 + 1) (.int .i64 x)
  rw [lcells_set1 zs i hi x] at this
  exact this
theorem own_short {W : World} {base g n cap : Nat} {zs : L64} (h : W.ownsRow base 64 2 (.slice (some ⟨g, 0, none⟩) n cap) n (lcells zs)) (j : Nat) (hj : j ≤ zs.length) :
    W.ownsRow base 64 2 (.slice (some ⟨g, 0, none⟩) j cap) j (lcells (zs.take j)) := by
  have hlen : (lcells zs).length = n * 2 := h.1
  rw [lcells_length] at hlen
  rcases h.2 with ⟨e, _⟩ | ⟨g', cap', cur, e, hbg, hg, hle, hcm, hsz, htk⟩
  · cases e
  · cases e
    refine ⟨by rw [lcells_length, List.length_take]; omega, .inr ⟨g, cap, cur, rfl, hbg, hg, by omega, hcm, hsz, ?_⟩⟩
    rw [← lcells_take, ← htk, List.take_take, Nat.min_eq_left (by omega)]
/-- The first j items reduced by v. -/
def redI (v : Int) (x : S64) : S64 := ⟨x.f0, x.f1 - v⟩
def redL (v : Int) (j : Nat) (zs : L64) : L64 := (zs.take j).map (redI v) ++ zs.drop j
theorem redL_length (v : Int) (j : Nat) (zs : L64) : (redL v j zs).length = zs.length := by simp [redL]; omega
theorem redL_at (v : Int) (j : Nat) (zs : L64) (h : j < zs.length) : (redL v j zs)[j]'(by rw [redL_length]; exact h) = zs[j] := by
  simp only [redL]
  rw [List.getElem_append_right (by simp; omega)]
  simp [List.length_take, Nat.min_eq_left (Nat.le_of_lt h)]
theorem redL_succ (v : Int) (j : Nat) (zs : L64) (h : j < zs.length) : (redL v j zs).set j (redI v zs[j]) = redL v (j + 1) zs := by
  simp only [redL]
  have hl : ((zs.take j).map (redI v)).length = j := by simp; omega
  rw [List.set_append_right _ _ (by omega), hl, Nat.sub_self, List.drop_eq_getElem_cons h, List.set_cons_zero, List.take_succ_eq_append_getElem h, List.map_append, List.append_assoc]
  rfl
theorem redL_take (v : Int) (j : Nat) (zs : L64) (h : j ≤ zs.length) : (redL v j zs).take j = (zs.take j).map (redI v) := by
  simp only [redL]
  rw [List.take_append_of_le_length (by simp; omega), List.take_of_length_le (by simp; omega)]
theorem takeW_eq {p : S64 → Bool} : ∀ (zs : L64) (j : Nat), j ≤ zs.length → (∀ i (h : i < zs.length), i < j → p zs[i] = true) → (∀ (h : j < zs.length), p zs[j] = false) → zs.takeWhile p = zs.take j
  | [], j, hj, _, _ => by simp
  | x :: zs, 0, _, _, h2 => by
    have := h2 (by simp)
    simp only [List.getElem_cons_zero] at this
    simp [List.takeWhile_cons, this]
  | x :: zs, j + 1, hj, h1, h2 => by
    have h0 := h1 0 (by simp) (by omega)
    simp only [List.getElem_cons_zero] at h0
    have ih := takeW_eq zs j (by simpa using hj) (fun i h hi => by have := h1 (i + 1) (by simpa using h) (by omega); simpa using this) (fun h => by have := h2 (by simpa using h); simpa using this)
    simp [List.takeWhile_cons, h0, ih]
/-- Where the cutting loop stands: before (1) or behind (0) its one round. -/
def St (K : Int) (M : L64) (L : Int) (kq : Nat) (zs : L64) (lost : Int) : Prop :=
  (kq = 1 ∧ zs.Perm M ∧ zs.Pairwise (fun x y => y.f1 ≤ x.f1) ∧ lost = L) ∨ (kq = 0 ∧ K ≤ M.length ∧ zs.Perm (cutI (gr M (K - 1).toNat) M) ∧ lost = L + gr M (K - 1).toNat ∧ (zs.length : Int) < K)
theorem St.done {K : Int} {M : L64} {L : Int} {kq : Nat} {zs : L64} {lost : Int} (h : St K M L kq zs lost) (hl : (zs.length : Int) < K) : zs.Perm (shrt K M L).1 ∧ lost = (shrt K M L).2 := by
  rcases h with ⟨_, h1, _, h3⟩ | ⟨_, h1, h2, h3, _⟩
  · rw [shrt_same (by rw [← h1.length_eq]; exact hl)]
    exact ⟨h1, h3⟩
  · unfold shrt
    rw [if_pos h1]
    exact ⟨h2, h3⟩
theorem St.len {K : Int} {M : L64} {L : Int} {kq : Nat} {zs : L64} {lost : Int} (h : St K M L kq zs lost) : zs.length ≤ M.length := by
  rcases h with ⟨_, h1, _, h3⟩ | ⟨_, h1, h2, h3, _⟩
  · rw [h1.length_eq]; exact Nat.le_refl _
  · rw [h2.length_eq, cutI_len]; exact List.countP_le_length
theorem St.cut {K : Int} {M : L64} {L : Int} {kq : Nat} {zs : L64} {lost : Int} (h : St K M L kq zs lost) (hK : 2 ≤ K) (hs : Srt M) (hp : Pos M) (hc : K ≤ (zs.length : Int)) (hi : (K - 1).toNat < zs.length) (j : Nat) (hj : j ≤ zs.length)
    (h1 : ∀ i (h : i < zs.length), i < j → zs[(K - 1).toNat].f1 < zs[i].f1) (h2 : ∀ (h : j < zs.length), ¬ zs[(K - 1).toNat].f1 < zs[j].f1) : kq = 1 ∧ lost = L ∧ St K M L 0 ((zs.take j).map (redI zs[(K - 1).toNat].f1)) (L + zs[(K - 1).toNat].f1) := by
  rcases h with ⟨e, hp1, hd, e3⟩ | ⟨_, _, _, _, h5⟩
  · refine ⟨e, e3, .inr ⟨rfl, by rw [← hp1.length_eq]; exact hc, ?_, ?_, ?_⟩⟩
    · have := short_way hK hp1 hd hc hi
      rw [takeW_eq zs j hj (fun i h hij => by simpa using h1 i h hij) (fun h => by simpa using h2 h)] at this
      exact this.2
    · rw [(short_way hK hp1 hd hc hi).1]
    · have hh := (short_way hK hp1 hd hc hi)
      rw [takeW_eq zs j hj (fun i h hij => by simpa using h1 i h hij) (fun h => by simpa using h2 h)] at hh
      have h4 := hh.2.length_eq
      have h6 := shrt_spec hK hs hp L
      have h7 := h6.len
      unfold shrt at h7
      rw [if_pos (by rw [← hp1.length_eq]; exact hc)] at h7
      rw [List.length_map] at h4 ⊢
      simp only at h7
      omega
  · omega
theorem St.cut' {kn : Nat} {M : L64} {L : Int} {kq : Nat} {zs : L64} {lost : Int} (h : St ((kn : Int) + 1) M L kq zs lost) (hK : 2 ≤ (kn : Int) + 1) (hs : Srt M) (hp : Pos M) (hc : kn < zs.length) {v : Int} (hv : zs[kn].f1 = v) (j : Nat) (hj : j ≤ zs.length)
    (h1 : ∀ i (h : i < zs.length), i < j → v < zs[i].f1) (h2 : ∀ (h : j < zs.length), ¬ v < zs[j].f1) : St ((kn : Int) + 1) M L 0 ((zs.take j).map (redI v)) (L + v) := by
  have e : ((kn : Int) + 1 - 1).toNat = kn := by omega
  have := h.cut hK hs hp (by omega) (by rw [e]; exact hc) j hj (by simpa only [e, hv] using h1) (by simpa only [e, hv] using h2)
  simpa only [e, hv] using this.2.2
/-- What holds of a key's count before the list is through. -/
theorem part_bounds {ab pre r : L64} {x : L64} {i : Nat} (h : ab = pre ++ x ++ r) (hp : Pos ab) (hs : sumI ab ≤ 4398046511104) (hi : i < x.length) (k : ByteArray) :
    0 ≤ tot (pre ++ x.take i) k ∧ tot (pre ++ x.take i) k ≤ 4398046511104 ∧ 1 ≤ x[i].f1 ∧ x[i].f1 ≤ 4398046511104 ∧ x[i] ∈ ab := by
  subst h
  have e : pre ++ x ++ r = (pre ++ x.take i) ++ (x.drop i ++ r) := by rw [List.append_assoc, List.append_assoc, ← List.append_assoc (x.take i), List.take_append_drop]
  have hm : x[i] ∈ pre ++ x ++ r := by simp
  have hp1 : Pos (pre ++ x.take i) := fun y hy => hp y (by rw [e]; exact List.mem_append_left _ hy)
  have hp2 : Pos (x.drop i ++ r) := fun y hy => hp y (by rw [e]; exact List.mem_append_right _ hy)
  have h1 := tot_nonneg hp1 k
  have h2 := tot_le_sumI hp1 k
  have h3 := sumI_nonneg hp2
  have h4 := le_sumI hp hm
  have h5 := hp _ hm
  rw [e, sumI_append] at hs
  rw [e, sumI_append] at h4
  exact ⟨h1, by omega, h5, by omega, hm⟩
theorem has_at {D : DataW Unit} {l : L64} (h : MapOf D l) {s : ByteArray} {c : Int} (hat : D.atKey (.string s.data.toList) (.lit (.int .i64 0)) = .lit (.int .i64 c)) : c = tot l s := by
  have := h.at_ s
  rw [show kL s = .string s.data.toList from rfl, hat] at this
  simpa using this

set_option maxRecDepth 100000 in
set_option maxHeartbeats 16000000 in
theorem shorten_calls (K T L : Int) (A B : Option Addr) (ca cb : Nat) (a b : L64) (w : World) (hrA : Kd.C k64 w A a.length a) (hcA : a.length ≤ ca) (hrB : Kd.C k64 w B b.length b) (hcB : b.length ≤ cb)
    (hla : a.length ≤ 1000) (hlb : b.length ≤ 1000) (sa : Srt a) (pa : Pos a) (pb : Pos b) (hsum : sumI a + sumI b ≤ 4398046511104) (hK : 2 ≤ K) (hK1 : K ≤ 100) (hL0 : 0 ≤ L) (hL : L ≤ 4398046511104) (hks : ∀ x ∈ a ++ b, x.f0.size ≤ 1000) :
    Calls Tryz.prog 61 #[.agg #[.int .i64 K, .int .i64 T, .int .i64 L, .slice none 0 0], .slice A a.length ca, .slice B b.length cb] w fun e w' => ∃ v, e = .returned (.agg #[.int .i64 K, .int .i64 T, .int .i64 (shrt K (mrgI a b) L).2, v]) ∧ Kd.R k64 64 w' w.heap.size (fun _ => True) v (shrt K (mrgI a b) L).1 ∧ Below w.heap.size w w' := by
  obtain ⟨kn, hkn⟩ : ∃ kn : Nat, K = (kn : Int) + 1 := ⟨(K - 1).toNat, by omega⟩
  subst hkn
  have hkt : ((kn : Int) + 1 - 1).toNat = kn := by omega
  have HKT := Aside0.mk hkt
  clear hkt
  obtain ⟨i0, hi0, hz0, hz1, hz2⟩ := info_parts infoL
  have hu1 := Tryz.underlying64
  have hu2 := Tryz.underlying55
  have hmm := run_makeMap_hint
  have HRA := Aside0.mk hrA
  have HRB := Aside0.mk hrB
  clear hrA hrB
  have HS := Aside0.mk (And.intro sa (And.intro pa (And.intro pb (And.intro hsum hks))))
  clear sa pa pb hsum hks
  go_enter Tryz.func61, Tryz.ntmps61
  go_wp2_with fail
  have bx := heap_alloc_keep (o := .cells #[.slice A a.length ca, .slice B b.length cb] 53) (heap_alloc_keep (o := .map #[] 0) (heap_alloc_keep (o := .cells #[.int .i64 0, .int .i64 0, .int .i64 0, .slice none 0 0] 55) (heap_alloc_new w (.cells #[.int .i64 ((kn : Int) + 1), .int .i64 T, .int .i64 L, .slice none 0 0] 55))))
  have br := heap_alloc_keep (o := .cells #[.slice A a.length ca, .slice B b.length cb] 53) (heap_alloc_keep (o := .map #[] 0) (heap_alloc_new (w.alloc (.cells #[.int .i64 ((kn : Int) + 1), .int .i64 T, .int .i64 L, .slice none 0 0] 55)) (.cells #[.int .i64 0, .int .i64 0, .int .i64 0, .slice none 0 0] 55)))
  have bl := heap_alloc_new (((w.alloc (.cells #[.int .i64 ((kn : Int) + 1), .int .i64 T, .int .i64 L, .slice none 0 0] 55)).alloc (.cells #[.int .i64 0, .int .i64 0, .int .i64 0, .slice none 0 0] 55)).alloc (.map #[] 0)) (.cells #[.slice A a.length ca, .slice B b.length cb] 53)
  have bm := Aside0.mk (show HasMap ((((w.alloc (.cells #[.int .i64 ((kn : Int) + 1), .int .i64 T, .int .i64 L, .slice none 0 0] 55)).alloc (.cells #[.int .i64 0, .int .i64 0, .int .i64 0, .slice none 0 0] 55)).alloc (.map #[] 0)).alloc (.cells #[.slice A a.length ca, .slice B b.length cb] 53)) (w.heap.size + 1 + 1) [] from
    ⟨_, by have h := (World.ownsMap_made (H := Unit) ((w.alloc (.cells #[.int .i64 ((kn : Int) + 1), .int .i64 T, .int .i64 L, .slice none 0 0] 55)).alloc (.cells #[.int .i64 0, .int .i64 0, .int .i64 0, .slice none 0 0] 55)) Tryz.prog 9 (plainElem Tryz.prog 3)).alloc (.cells #[.slice A a.length ca, .slice B b.length cb] 53); simpa using h, MapOf.nil⟩)
  have hW0 := Aside0.mk (show Below w.heap.size w ((((w.alloc (.cells #[.int .i64 ((kn : Int) + 1), .int .i64 T, .int .i64 L, .slice none 0 0] 55)).alloc (.cells #[.int .i64 0, .int .i64 0, .int .i64 0, .slice none 0 0] 55)).alloc (.map #[] 0)).alloc (.cells #[.slice A a.length ca, .slice B b.length cb] 53)) by repeat (first | exact Below.refl _ _ | apply below_alloc))
  have hsz := Aside0.mk (show ((((w.alloc (.cells #[.int .i64 ((kn : Int) + 1), .int .i64 T, .int .i64 L, .slice none 0 0] 55)).alloc (.cells #[.int .i64 0, .int .i64 0, .int .i64 0, .slice none 0 0] 55)).alloc (.map #[] 0)).alloc (.cells #[.slice A a.length ca, .slice B b.length cb] 53)).heap.size = w.heap.size + 1 + 1 + 1 + 1 by simp)
  generalize ((((w.alloc (.cells #[.int .i64 ((kn : Int) + 1), .int .i64 T, .int .i64 L, .slice none 0 0] 55)).alloc (.cells #[.int .i64 0, .int .i64 0, .int .i64 0, .slice none 0 0] 55)).alloc (.map #[] 0)).alloc (.cells #[.slice A a.length ca, .slice B b.length cb] 53)) = W0 at *
  simp only [World.size_alloc] at bx br bl
  have BX := Aside0.mk bx
  have BR := Aside0.mk br
  have BL := Aside0.mk bl
  clear bx br bl
  go_loopg [27] (2) (fun kq v27 w' => ∃ (j : Nat) (pre : L64), v27 = .int .i64 j ∧ j ≤ 2 ∧ Aside0 (kq = 2 - j) ∧ Aside0 (j = 0 ∧ pre = [] ∨ j = 1 ∧ pre = a ∨ j = 2 ∧ pre = a ++ b) ∧ Aside0 (Fill W0 w' (w.heap.size + 1 + 1)) ∧ Aside0 (HasMap w' (w.heap.size + 1 + 1) pre))
  case atStart => exact ⟨0, [], rfl, by omega, ⟨rfl⟩, ⟨.inl ⟨rfl, rfl⟩⟩, ⟨Fill.refl _ _⟩, bm⟩
  case round =>
    clear bm
    obtain ⟨j, pre, rfl, hj, HK1, HP, HF, HM⟩ := hrel
    by_cases hlt : j < 2
    · obtain ⟨A', c', x, r, hcell, HX, HAB, HN, hlx⟩ : ∃ (A' : Option Addr) (c' : Nat) (x r : L64), wr.cell? ⟨w.heap.size + 1 + 1 + 1, j, none⟩ = some (.slice A' x.length c') ∧ Aside0 (∀ W, Below w.heap.size w W → Kd.C k64 W A' x.length x) ∧ Aside0 (a ++ b = pre ++ x ++ r) ∧ Aside0 (j = 0 ∧ x = a ∧ pre = [] ∨ j = 1 ∧ x = b ∧ pre = a) ∧ x.length ≤ 1000 := by
        have h3 := (HF.out.same (w.heap.size + 1 + 1 + 1) (by rw [hsz.out]; omega) (by omega)).trans BL.out
        rcases HP.out with ⟨rfl, rfl⟩ | ⟨rfl, rfl⟩ | ⟨rfl, rfl⟩
        · exact ⟨A, ca, a, b, cell_of_heap h3 0 _ rfl, ⟨fun W h => Kd.C_below HRA.out h⟩, ⟨by simp⟩, ⟨.inl ⟨rfl, rfl, rfl⟩⟩, hla⟩
        · exact ⟨B, cb, b, [], cell_of_heap h3 1 _ rfl, ⟨fun W h => Kd.C_below HRB.out h⟩, ⟨by simp⟩, ⟨.inr ⟨rfl, rfl, rfl⟩⟩, hlb⟩
        · omega
      have dl : decide (j < 2) = true := decide_eq_true hlt
      have dl' : decide ((j : Int) < 2) = true := decide_eq_true (by omega)
      go_wp2_with fail
      have HJ := Aside0.mk (And.intro hj hlt)
      go_loopg [33] (x.length) (fun kq v33 w' => ∃ i : Nat, v33 = .int .i64 i ∧ i ≤ x.length ∧ Aside0 (kq = x.length - i) ∧ Aside0 (Fill W0 w' (w.heap.size + 1 + 1)) ∧ Aside0 (HasMap w' (w.heap.size + 1 + 1) (pre ++ x.take i)))
      case atStart => exact ⟨0, rfl, by omega, ⟨rfl⟩, HF, ⟨by simpa using HM.out⟩⟩
      case round =>
        clear HF HM
        obtain ⟨i, rfl, hi, HK2, HF, HM⟩ := hrel
        have HBw := Aside0.mk (hW0.out.trans (HF.out.below (n := w.heap.size) (by rw [hsz.out]; omega) (by omega)))
        by_cases hli : i < x.length
        · obtain ⟨ad, e1, hc0, hc1⟩ := at_T64 (HX.out wr HBw.out) (i : Int) (by omega) (by omega)
          cases e1
          rw [rdT_get x i hli] at hc0 hc1
          simp only [Int.toNat_natCast] at hc0 hc1
          have pl : (0 ≤ (i : Int)) = True := eq_true (by omega)
          have dl2 : decide (i < x.length) = true := decide_eq_true hli
          obtain ⟨hs1, hs2, hs3, hs4, hs5⟩ := HS.out
          obtain ⟨hp0, hp1, hx0, hx1, hxm⟩ := part_bounds HAB.out (fun y hy => by rcases List.mem_append.1 hy with hy | hy; exact hs2 y hy; exact hs3 y hy) (by rw [sumI_append]; omega) hli x[i].f0
          have HKL := Aside0.mk (show x[i].f0.size ≤ maxLen by have := hs5 _ hxm; unfold maxLen; omega)
          have HLN := Aside0.mk (show (pre ++ x.take i).length < maxLen by
            have h1 := congrArg List.length HAB.out
            simp only [List.length_append, List.length_take] at h1 ⊢; unfold maxLen; omega)
          have HT := Aside0.mk (show pre ++ x.take (i + 1) = (pre ++ x.take i) ++ [x[i]] by rw [List.take_succ_eq_append_getElem hli, List.append_assoc])
          clear hs1 hs2 hs3 hs4 hs5 hxm
          obtain ⟨D, hown, hMO⟩ := HM.out
          have HPUT := Aside0.mk (hMO.put x[i])
          have HTT := Aside0.mk (fun c (h : D.atKey (.string x[i].f0.data.toList) (.lit (.int .i64 0)) = .lit (.int .i64 c)) => has_at hMO h)
          have HO := Aside0.mk hown
          clear hMO hown HM
          generalize tot (pre ++ x.take i) x[i].f0 = tt at *
          generalize pre ++ x.take i = q at *
          generalize x[i] = y at *
          go_wp2_with (first
            | (at_lookup; refine wpList_lookup_own_int _ rfl _ _ 139 rfl 9 3 .i64 lawS Tryz.underlying139 Tryz.underlying3 (zeroI _) (w.heap.size + 1 + 1) q.length D rfl (HO.out.alloc _) _ _ rfl (keyOf_string_mk Tryz.underlying9 HKL.out) ?_; intro c hat hwc; obtain rfl := HTT.out c hat; clear hat hwc)
            | (at_mapUpdate; refine wpList_mapUpdate_own _ rfl _ _ _ 139 rfl 9 3 lawS Tryz.underlying139 _ (w.heap.size + 1 + 1) q.length D rfl (HO.out.alloc _) HLN.out _ _ _ rfl rfl (keyOf_string_mk Tryz.underlying9 HKL.out) _ [] (plainElem_int Tryz.underlying3 (WalkArith.wf_i64 (by omega))) ?_; intro w1 hown1 hgrow1; go_frame))
          have HF2 := (HF.out.alloc (.cells #[Value.string y.f0, Value.int .i64 y.f1] 64)).grown hgrow1 (fun r e => by cases e; exact .inl rfl)
          go_roundg (x.length - (i + 1))
          case measure => have := HK2.out; omega
          case rel => exact ⟨i + 1, by simp, by omega, ⟨rfl⟩, ⟨HF2⟩, ⟨by rw [HT.out]; exact ⟨_, hown1.mono (by simp), HPUT.out⟩⟩⟩
        · have hix : i = x.length := by omega
          subst hix
          rw [List.take_length] at HM
          have dl2 : decide (x.length < x.length) = false := decide_eq_false hli
          go_wp2_with fail
          go_roundg (2 - (j + 1))
          case measure => have := HK1.out; have := HJ.out; omega
          case rel =>
            refine ⟨j + 1, pre ++ x, by simp, by have := HJ.out; omega, ⟨rfl⟩, ⟨?_⟩, HF, HM⟩
            rcases HN.out with ⟨h1, h2, h3⟩ | ⟨h1, h2, h3⟩
            · right; left; exact ⟨by omega, by rw [h2, h3]; rfl⟩
            · right; right; exact ⟨by omega, by rw [h2, h3]⟩
    · have hj2 : j = 2 := by omega
      subst hj2
      have hpre : pre = a ++ b := by rcases HP.out with ⟨h, _⟩ | ⟨h, _⟩ | ⟨_, h⟩ <;> first | omega | exact h
      subst hpre
      clear hlt hj HP HK1
      obtain ⟨D, hown, hMO⟩ := HM.out
      have HMO := Aside0.mk hMO
      have HO := Aside0.mk hown
      have hsd : Maps.size D ≤ 2000 := by
        obtain ⟨es, clock, _, _, hn, rfl⟩ := hown
        rw [Maps.size_eq, length_sorted]
        simp only [List.length_map, Array.length_toList, List.length_append] at hn ⊢
        omega
      have HBw := Aside0.mk (hW0.out.trans (HF.out.below (n := w.heap.size) (by rw [hsz.out]; omega) (by omega)))
      clear hMO hown HM
      go_wp2_with (first
        | (at_len; refine wpList_len_own _ rfl _ 139 rfl 9 3 Tryz.underlying139 _ (w.heap.size + 1 + 1) (a ++ b).length D rfl HO.out ?_)
        | (at_make; refine wpList_make_own _ rfl _ _ 53 rfl W0.heap.size 64 i0 (.agg #[Value.string ⟨#[]⟩, Value.int .i64 0]) 2 Tryz.underlying53 hi0 hz0 hz1 _ _ _ (Maps.size D) rfl rfl rfl (by rw [hz2]; omega) (by unfold maxLen; omega) HF.out.size ?_; intro w1 hrow1 hg1)
        | (at_range; refine wpList_range_own _ rfl _ 139 rfl 9 3 lawS Tryz.underlying139 _ (w.heap.size + 1 + 1) (a ++ b).length D rfl (HO.out.kept hg1 (by simp)) ?_; intro w0 hrg0 hg0 hs0))
      go_frame
      have HF1 := (HF.out.grown hg1 (fun r e => by cases e)).grown hg0 (fun r e => by cases e)
      have HGS := Aside0.mk (Got.start HMO.out)
      have hr1 := Aside0.mk (show W0.heap.size ≤ w1.heap.size from Nat.le_trans HF.out.size hg1.size)
      have hrow0 := hrow1.kept hg0 (Or.inr (by simp [Value.ownBlock]))
      clear hs0 HBw HF
      have HRG := Aside0.mk hrg0
      have HROW := Aside0.mk hrow0
      clear hrg0 hrow0 hrow1 hg1 hg0
      go_loopg [12] (Maps.size D) (fun kq v12 w' => ∃ (left : Lit → Bool) (items : L64), Aside0 (w'.ranges Tryz.prog 9 (plainElem (H := Unit) Tryz.prog 3) (w.heap.size + 1 + 1) w1.heap.size (a ++ b).length D left kq) ∧ Aside0 (w'.ownsRow W0.heap.size 64 2 v12 items.length (lcells items)) ∧ Aside0 (Got D left (a ++ b) items) ∧ Aside0 (Fill W0 w' (w.heap.size + 1 + 1)))
      case atStart => exact ⟨_, [], HRG, HROW, HGS, ⟨HF1⟩⟩
      case round =>
        clear HRG HROW HGS HF1 HO
        obtain ⟨left, items, HRG, HROW, HG, HF⟩ := hrel
        have hil : items.length ≤ 2000 := by have := HG.out.len; simp only [List.length_append] at this; omega
        go_wp2_with (first
          | (at_next; refine wpList_next_ranges _ rfl _ rfl 9 lawS (plainElem (H := Unit) Tryz.prog 3) Value.string (Value.int .i64) (fun key kl hk => by obtain ⟨x, hx, _⟩ := keyOf_strB hk; exact ⟨x, hx⟩) (fun v y hv => by obtain ⟨c, rfl, _⟩ := plainElem_int_inv Tryz.underlying3 hv; exact ⟨c, rfl⟩) (w.heap.size + 1 + 1) w1.heap.size (a ++ b).length _ _ _ rfl HRG.out ?_ ?_))
        · intro hc0 hl0
          obtain ⟨hs1, hs2, hs3, hs4, hs5⟩ := HS.out
          have HPM := Aside0.mk (HG.out.done hl0 hs1 hs2 hs3)
          have HSM := Aside0.mk (mrgI_srt hs1 b)
          have HPP := Aside0.mk (mrgI_pos hs2 hs3)
          have hml := mrgI_len a b
          have HSU := Aside0.mk (show ∀ x ∈ mrgI a b, 1 ≤ x.f1 ∧ x.f1 ≤ 4398046511104 from fun x hx => ⟨HPP.out x hx, by have := le_sumI HPP.out hx; rw [mrgI_sum] at this; omega⟩)
          obtain ⟨M, hM⟩ : ∃ M, mrgI a b = M := ⟨_, rfl⟩
          rw [hM] at HPM HSM HPP HSU hml
          have HME := Aside0.mk hM
          clear hM
          have HBX := Aside0.mk ((HF.out.same w.heap.size (by rw [hsz.out]; omega) (by omega)).trans BX.out)
          have HBR := Aside0.mk ((HF.out.same (w.heap.size + 1) (by rw [hsz.out]; omega) (by omega)).trans BR.out)
          have HBw := Aside0.mk (hW0.out.trans (HF.out.below (n := w.heap.size) (by rw [hsz.out]; omega) (by omega)))
          have HSZ := Aside0.mk HF.out.size
          clear hs1 hs2 hs3 hs4 hs5 hl0 hc0 HRG HG HF HMO HS BX BR BL HRA HRB hr1
          go_wp2_with (go_at_call 105; refine (arrange1_calls W0.heap.size u12 items _ (by omega) HROW.out).mono ?_; rintro e w4 ⟨ys, rfl, hperm, hdesc, hb4, hrow4⟩)
          have HBX4 := Aside0.mk ((hb4.block w.heap.size (by rw [hsz.out]; omega)).trans HBX.out)
          have HBR4 := Aside0.mk ((hb4.block (w.heap.size + 1) (by rw [hsz.out]; omega)).trans HBR.out)
          have HBw4 := Aside0.mk (HBw.out.trans (hb4.mono (by rw [hsz.out]; omega)))
          have HSZ4 := Aside0.mk (Nat.le_trans HSZ.out hb4.size)
          have HROW4 := Aside0.mk hrow4
          have HST := Aside0.mk (show St ((kn : Int) + 1) M L 1 ys L from .inl ⟨rfl, hperm.trans HPM.out, hdesc, rfl⟩)
          clear HBX HBR HBw HSZ hrow4 hb4 hperm hdesc HPM HROW hil
          go_loopg [12] (1) (fun kq v12 w' => ∃ (zs : L64) (lost : Int), Aside0 (St ((kn : Int) + 1) M L kq zs lost) ∧ Aside0 (w'.ownsRow W0.heap.size 64 2 v12 zs.length (lcells zs)) ∧ Aside0 (w'.heap[w.heap.size]? = some (.cells #[.int .i64 ((kn : Int) + 1), .int .i64 T, .int .i64 lost, .slice none 0 0] 55 (0, 0))) ∧ Aside0 (w'.heap[w.heap.size + 1]? = some (.cells #[.int .i64 0, .int .i64 0, .int .i64 0, .slice none 0 0] 55 (0, 0))) ∧ Aside0 (Below w.heap.size w w') ∧ Aside0 (W0.heap.size ≤ w'.heap.size))
          case atStart => exact ⟨ys, L, HST, HROW4, HBX4, HBR4, HBw4, HSZ4⟩
          case round =>
            clear HST HROW4 HBX4 HBR4 HBw4 HSZ4
            obtain ⟨zs, lost, HST, HROW, HBX, HBR, HBw, HSZ⟩ := hrel
            have hzl := HST.out.len
            obtain ⟨Az, cz, ez⟩ := own_slice HROW.out
            subst ez
            have x0 := (blk_cell HBX.out 0).trans rfl
            have x1 := (blk_cell HBX.out 1).trans rfl
            have x2 := (blk_cell HBX.out 2).trans rfl
            have x3 := (blk_cell HBX.out 3).trans rfl
            have xf := blk_frozen HBX.out 2
            have xf3 := blk_frozen HBX.out 3
            simp only [List.getElem?_toArray, List.getElem?_cons_zero, List.getElem?_cons_succ] at x0 x1 x2 x3
            by_cases hge : (kn : Int) + 1 ≤ (zs.length : Int)
            · have hzk : kn < zs.length := by omega
              have hst := HST.out
              obtain ⟨HGK, hpm, hlost⟩ : Aside0 (gk = 1) ∧ zs.Perm M ∧ lost = L := by
                rcases hst with ⟨h0, h1, _, h3⟩ | ⟨_, _, _, _, h5⟩
                · exact ⟨⟨h0⟩, h1, h3⟩
                · omega
              subst hlost
              have HEL := Aside0.mk (show ∀ i (h : i < zs.length), 1 ≤ zs[i].f1 ∧ zs[i].f1 ≤ 4398046511104 from fun i h => HSU.out _ (hpm.mem_iff.1 (List.getElem_mem h)))
              rcases HROW.out.2 with ⟨e0, hz⟩ | ⟨g, cap, cur, e0, hbg, hg, hle, hcm, hsz0, htk⟩
              · omega
              · cases e0
                have hgx : ∀ k, k < W0.heap.size → k ≠ g := fun k hk e => by omega
                have HCL := Aside0.mk hle
                have HCM := Aside0.mk (show cz ≤ 9223372036854775807 by unfold maxLen at hcm; omega)
                clear hst hpm hg hle hcm hsz0 htk hbg
                obtain ⟨_, hck, _⟩ := own_cellE HROW.out kn hzk
                obtain ⟨hv1, hv2⟩ := HEL.out kn hzk
                obtain ⟨v, hv⟩ : ∃ v, zs[kn].f1 = v := ⟨_, rfl⟩
                rw [hv] at hck hv1 hv2
                have HV := Aside0.mk hv
                have HGX := Aside0.mk hgx
                clear hv hgx
                have dk : decide ((kn : Int) + 1 ≤ (zs.length : Int)) = true := decide_eq_true hge
                go_wp2_with fail
                have hbx2 := blk_set HBX.out 2 (.int .i64 (lost + v))
                have hbr2 := blk_far HBR.out (p := ⟨w.heap.size, 2, none⟩) (show w.heap.size + 1 ≠ w.heap.size by omega) (.int .i64 (lost + v))
                have e0 := row_ne HROW.out (show w.heap.size < W0.heap.size by rw [hsz.out]; omega)
                have HROW2 := Aside0.mk (own_setCell HROW.out (p := ⟨w.heap.size, 2, none⟩) e0 (.int .i64 (lost + v)))
                have HBX2 := Aside0.mk hbx2
                have HBR2 := Aside0.mk hbr2
                have HBw2 := Aside0.mk (HBw.out.setCell (p := ⟨w.heap.size, 2, none⟩) (Nat.le_refl _) (.int .i64 (lost + v)))
                have HSZ2 := Aside0.mk (show W0.heap.size ≤ (wr.setCell ⟨w.heap.size, 2, none⟩ (.int .i64 (lost + v))).heap.size by have := HSZ.out; simpa using this)
                have hgs := own_base HROW.out g rfl
                clear hbx2 hbr2 e0 HROW HBX HBR HBw HSZ x0 x1 x2 x3 xf xf3 hck
                generalize wr.setCell ⟨w.heap.size, 2, none⟩ (.int .i64 (lost + v)) = W2 at *
                go_loopg [16] (zs.length) (fun kq v16 w' => ∃ j : Nat, v16 = .int .i64 j ∧ j ≤ zs.length ∧ Aside0 (kq = zs.length - j) ∧ Aside0 (∀ i (h : i < zs.length), i < j → v < zs[i].f1) ∧ Aside0 (w'.ownsRow W0.heap.size 64 2 (.slice (some ⟨g, 0, none⟩) zs.length cz) zs.length (lcells (redL v j zs))) ∧ Aside0 (w'.heap[w.heap.size]? = some (.cells #[.int .i64 ((kn : Int) + 1), .int .i64 T, .int .i64 (lost + v), .slice none 0 0] 55 (0, 0))) ∧ Aside0 (w'.heap[w.heap.size + 1]? = some (.cells #[.int .i64 0, .int .i64 0, .int .i64 0, .slice none 0 0] 55 (0, 0))) ∧ Aside0 (Below w.heap.size w w') ∧ Aside0 (W0.heap.size ≤ w'.heap.size))
                case atStart => exact ⟨0, rfl, by omega, ⟨rfl⟩, ⟨fun i h hi => by omega⟩, ⟨by simpa [redL] using HROW2.out⟩, ⟨by simpa using HBX2.out⟩, HBR2, HBw2, HSZ2⟩
                case round =>
                  clear HROW2 HBX2 HBR2 HBw2 HSZ2
                  obtain ⟨j, rfl, hj, HK3, HGT, HROW, HBX, HBR, HBw, HSZ⟩ := hrel
                  have x0 := (blk_cell HBX.out 0).trans rfl
                  simp only [List.getElem?_toArray, List.getElem?_cons_zero, List.getElem?_cons_succ] at x0
                  have hcl := HCL.out
                  by_cases hlt : j < zs.length
                  · have hlr : j < (redL v j zs).length := by rw [redL_length]; exact hlt
                    obtain ⟨_, hc1, hf1⟩ := own_cellE HROW.out j hlr
                    rw [redL_at v j zs hlt] at hc1
                    have dl : decide (j < zs.length) = true := decide_eq_true hlt
                    have dl' : decide ((j : Int) < (zs.length : Int)) = true := decide_eq_true (by omega)
                    have pl : (0 ≤ (j : Int)) = True := eq_true (by omega)
                    obtain ⟨hb1, hb2⟩ := HEL.out j hlt
                    by_cases hgt : v < zs[j].f1
                    · have HR := Aside0.mk (own_set1 HROW.out j hlr (zs[j].f1 - v))
                      rw [redL_at v j zs hlt] at HR
                      have HR2 := Aside0.mk (redL_succ v j zs hlt)
                      have HGT2 := Aside0.mk (show ∀ i (h : i < zs.length), i < j + 1 → v < zs[i].f1 from fun i h hi => by
                        by_cases e : i = j
                        · subst e; exact hgt
                        · exact HGT.out i h (by omega))
                      have dg : decide (v < zs[j].f1) = true := decide_eq_true hgt
                      unfold redI at HR2
                      generalize zs[j] = y at *
                      go_wp2_with fail
                      go_roundg (zs.length - (j + 1))
                      case measure => have := HK3.out; omega
                      case rel =>
                        have q1 := HGX.out w.heap.size (by rw [hsz.out]; omega)
                        have q2 := HGX.out (w.heap.size + 1) (by rw [hsz.out]; omega)
                        have hq := hsz.out
                        exact ⟨j + 1, by simp, by omega, ⟨rfl⟩, HGT2, ⟨by rw [← HR2.out]; exact HR.out.1⟩, ⟨blk_far HBX.out (p := ⟨g, j * 2 + 1, none⟩) q1 _⟩, ⟨blk_far HBR.out (p := ⟨g, j * 2 + 1, none⟩) q2 _⟩, ⟨HBw.out.setCell (p := ⟨g, j * 2 + 1, none⟩) (show w.heap.size ≤ g by omega) _⟩, ⟨by have := HSZ.out; simpa using this⟩⟩
                    · have HST2 := Aside0.mk (HST.out.cut' hK HSM.out HPP.out hzk HV.out j hj HGT.out (fun _ => hgt))
                      have dg : decide (v < zs[j].f1) = false := decide_eq_false hgt
                      have hRow := own_short HROW.out j (by rw [redL_length]; exact hj)
                      rw [redL_take v j zs hj] at hRow
                      have HROW2 := Aside0.mk hRow
                      have hjc : j ≤ cz := by omega
                      clear hRow
                      generalize zs[j] = y at *
                      go_wp2_with fail
                      go_roundg 0
                      case measure => have := HGK.out; omega
                      case rel => exact ⟨_, _, HST2, ⟨by simpa [Nat.min_eq_left hj] using HROW2.out⟩, HBX, HBR, HBw, HSZ⟩
                  · have hjl : j = zs.length := by omega
                    have HST2 := Aside0.mk (HST.out.cut' hK HSM.out HPP.out hzk HV.out j hj HGT.out (fun h => absurd h hlt))
                    have hRow := own_short HROW.out j (by rw [redL_length]; exact hj)
                    rw [redL_take v j zs hj] at hRow
                    have HROW2 := Aside0.mk hRow
                    have HJ := Aside0.mk hjl
                    have hjc : j ≤ cz := by omega
                    have dl : decide (j < zs.length) = false := decide_eq_false hlt
                    have dl' : decide ((j : Int) < (zs.length : Int)) = false := decide_eq_false (by omega)
                    clear hRow hjl
                    go_wp2_with fail
                    go_roundg 0
                    case measure => have := HGK.out; omega
                    case rel => exact ⟨_, _, HST2, ⟨by simpa [Nat.min_eq_left hj] using HROW2.out⟩, HBX, HBR, HBw, HSZ⟩
            · have HDN := Aside0.mk (HST.out.done (by omega))
              have HSH := Aside0.mk (shrt_spec hK HSM.out HPP.out L)
              have HAP := Aside0.mk (show zs.Pairwise (fun x y => x.f0 ≠ y.f0) from (HDN.out.1.pairwise_iff (fun h => Ne.symm h)).2 (HSH.out.srt.imp fun h => ltK_ne h))
              have hzl2 : zs.length ≤ 1000000 := by omega
              clear x1 x2 x3 xf xf3
              go_wp2_with (go_at_call 105; refine (arrange2_calls W0.heap.size _ zs _ hzl2 HAP.out HROW.out).mono ?_; rintro e w5 ⟨ys2, rfl, hperm2, hsrt2, hb5, hrow5⟩; have HROW5 := Aside0.mk hrow5; have HE := Aside0.mk (srt_perm (hperm2.trans HDN.out.1) hsrt2 HSH.out.srt); have hbx5 := (hb5.block w.heap.size (by rw [hsz.out]; omega)).trans HBX.out; have hbr5 := (hb5.block (w.heap.size + 1) (by rw [hsz.out]; omega)).trans HBR.out; have HBX5 := Aside0.mk hbx5; have HBR5 := Aside0.mk hbr5; have HBw5 := Aside0.mk (HBw.out.trans (hb5.mono (by rw [hsz.out]; omega))); clear hrow5 hperm2 hsrt2 hb5 hbx5 hbr5 x0; have x0 := (blk_cell HBX5.out 0).trans rfl; have x1 := (blk_cell HBX5.out 1).trans rfl; have x2 := (blk_cell HBX5.out 2).trans rfl; have x3 := (blk_cell HBX5.out 3).trans rfl; have xf3 := blk_frozen HBX5.out 3; have r0 := (blk_cell HBR5.out 0).trans rfl; have r1 := (blk_cell HBR5.out 1).trans rfl; have r2 := (blk_cell HBR5.out 2).trans rfl; have r3 := (blk_cell HBR5.out 3).trans rfl; have rf0 := blk_frozen HBR5.out 0; have rf1 := blk_frozen HBR5.out 1; have rf2 := blk_frozen HBR5.out 2; have rf3 := blk_frozen HBR5.out 3; simp only [List.getElem?_toArray, List.getElem?_cons_zero, List.getElem?_cons_succ] at x0 x1 x2 x3 r0 r1 r2 r3)
              have g1 := blk_far HBR5.out (p := ⟨w.heap.size, 3, none⟩) (show w.heap.size + 1 ≠ w.heap.size by omega) (.slice Az zs.length cz)
              have g2 := blk_set (blk_set (blk_set (blk_set g1 0 (.int .i64 ((kn : Int) + 1))) 1 (.int .i64 T)) 2 (.int .i64 lost)) 3 (.slice Az zs.length cz)
              have c0 := (blk_cell g2 0).trans rfl
              have c1 := (blk_cell g2 1).trans rfl
              have c2 := (blk_cell g2 2).trans rfl
              have c3 := (blk_cell g2 3).trans rfl
              have hq := hsz.out
              have e0 := row_ne HROW5.out (show w.heap.size < W0.heap.size by omega)
              have e1 := row_ne HROW5.out (show w.heap.size + 1 < W0.heap.size by omega)
              have hRow := own_setCell (own_setCell (own_setCell (own_setCell (own_setCell HROW5.out (p := ⟨w.heap.size, 3, none⟩) e0 (.slice Az zs.length cz)) (p := ⟨w.heap.size + 1, 0, none⟩) e1 (.int .i64 ((kn : Int) + 1))) (p := ⟨w.heap.size + 1, 1, none⟩) e1 (.int .i64 T)) (p := ⟨w.heap.size + 1, 2, none⟩) e1 (.int .i64 lost)) (p := ⟨w.heap.size + 1, 3, none⟩) e1 (.slice Az zs.length cz)
              refine bodyPost_ret (v := .agg #[.int .i64 ((kn : Int) + 1), .int .i64 T, .int .i64 lost, .slice Az zs.length cz]) (by simp [results, Tryz.results61, go_sem, c0, c1, c2, c3]) rfl ⟨_, by rw [HME.out, HDN.out.2], ?_, ((((HBw5.out.setCell (p := ⟨w.heap.size, 3, none⟩) (Nat.le_refl _) _).setCell (p := ⟨w.heap.size + 1, 0, none⟩) (Nat.le_succ _) _).setCell (p := ⟨w.heap.size + 1, 1, none⟩) (Nat.le_succ _) _).setCell (p := ⟨w.heap.size + 1, 2, none⟩) (Nat.le_succ _) _).setCell (p := ⟨w.heap.size + 1, 3, none⟩) (Nat.le_succ _) _⟩
              rw [HME.out, ← HE.out]
              exact R_of_lcells (own_less hRow (by omega))
        · intro x c kl yd yp w2 cnt2 hkey hlk hv hat hrg2 hlt hg2 hs2 hen
          obtain ⟨x', ex, rfl, _⟩ := keyOf_strB hkey
          obtain rfl : x = x' := by simpa using ex
          have hy : yd = .lit (.int .i64 c) := by
            obtain ⟨c', e1, e2, _⟩ := plainElem_int_inv Tryz.underlying3 hv
            cases e1; cases e2; rfl
          subst hy
          have HROW2 := Aside0.mk (HROW.out.kept hg2 (Or.inr (row_ne_iter' HROW.out HRG.out).symm))
          have HF2 := Aside0.mk (HF.out.grown hg2 (fun r e => by cases e; exact .inr hr1.out))
          have HG2 := Aside0.mk (HG.out.step HMO.out hlk hat)
          have HRG2 := Aside0.mk hrg2
          have HLT := Aside0.mk hlt
          clear hs2 hkey ex hv hat hlk hrg2 hlt hg2 HRG HROW HF HG
          go_wp2_with (first
            | (at_builtin; refine wpList_append_own _ rfl _ _ 53 rfl W0.heap.size 64 i0 (.agg #[Value.string ⟨#[]⟩, Value.int .i64 0]) 2 24 Tryz.underlying53 hi0 hz0 hz1 hz2 rfl (by decide) _ items.length (lcells items) rfl (HROW2.out.alloc _) ⟨w2.heap.size, 0, none⟩ 1 1 [.string x, .int .i64 c] rfl rfl (cells_new2 _ _ _ _) (by simp [Value.oneCell']) (by unfold maxLen; omega) (by omega) (by have := HF2.out.size; simp; omega) ?_; intro v' w3 hown' hg3 hnil3; go_frame))
          have hrg3 := (HRG2.out.alloc (.cells #[.string x, .int .i64 c] 64)).kept hg3 (row_ne HROW2.out (by rw [hsz.out]; omega)) (row_ne_iter' HROW2.out HRG2.out)
          go_roundg cnt2
          case measure => exact HLT.out
          case rel => exact ⟨_, items ++ [⟨x, c⟩], ⟨by rw [List.length_append]; exact hrg3⟩, ⟨by rw [lcells_append]; simpa [lcells] using hown'⟩, HG2, ⟨(HF2.out.alloc _).grown hg3 (fun r e => .inr (own_base HROW2.out r e))⟩⟩
end Go.Proofs.YtakobehkajphpaaGreat.K

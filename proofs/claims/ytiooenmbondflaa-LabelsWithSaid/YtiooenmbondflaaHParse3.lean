/- labels.parse and labels.Parse: the label set of a text. -/
import Derived.Test.YtiooenmbondflaaHParse2
import Derived.Laws.EntriesVeiled
namespace Go.Proofs.Ytiooenmbondflaa.H
open Go Go.RowKit Go.Proofs.YtiooenmbondflaaW.PrintWords Go.Proofs.YtiooenmbondflaaW.PrintLast Go.Proofs.YtiooenmbondflaaW.PrintMore Go.Proofs.Ytiooenmbondflaa.PAll
set_option linter.unusedVariables false
set_option linter.unusedSimpArgs false

theorem items_fuel : ∀ (f g : Nat) (l : List UInt8), l.length < f → l.length < g → items f l = items g l
  | 0, _, _, h, _ => by omega
  | _, 0, _, _, h => by omega
  | f + 1, g + 1, l, hf, hg => by
    simp only [items]
    cases hL : lblP l with
    | none => rfl
    | some y =>
      obtain ⟨x, r⟩ := y
      have hlen := lblP_len hL
      cases r with
      | nil => rfl
      | cons c r' =>
        simp only [List.length_cons] at hlen
        simp only []
        rw [items_fuel f g r' (by omega) (by omega)]

theorem lblP_drop {l r : List UInt8} {x : S32} (h : lblP l = some (x, r)) : l.drop (l.length - r.length) = r := by
  have hlen := lblP_len h
  have ht := tw_len l
  unfold lblP at h
  split at h
  · simp at h
  · split at h
    · rename_i c d r' hd
      split at h
      · obtain ⟨⟨v, m⟩, h1, h2⟩ := Option.map_eq_some_iff.1 h
        simp only [Prod.mk.injEq] at h2
        obtain ⟨_, rfl⟩ := h2
        have hm := unq_le _ v m h1
        have e : r' = l.drop ((l.takeWhile nb).length + 2) := by rw [← List.drop_drop, drop_tw, hd]; rfl
        rw [hd] at ht
        simp only [List.length_cons] at ht
        rw [e, List.drop_drop]
        congr 1
        rw [List.length_drop]; omega
      · simp at h
    · simp at h

theorem preB_one (c : UInt8) (l : List UInt8) : preB [c] l = true ↔ ∃ r, l = c :: r := by
  unfold preB
  cases l with
  | nil => simp
  | cons x l =>
    constructor
    · intro h
      have h1 := beq_iff_eq.1 h
      simp at h1
      exact ⟨l, by rw [h1]⟩
    · rintro ⟨r, hr⟩
      injection hr with h1 h2
      subst h1
      simp

theorem heap_alloc_at {W : World} {o : Obj} {n : Nat} (hn : n = W.heap.size) : (W.alloc o).heap[n]? = some o := by subst hn; exact heap_alloc_new W o

/-- What stands in memory at the head of parse's loop. -/
structure PS (w : World) (s : ByteArray) (W : World) (i : Nat) : Prop where
  a : Boxed W (w.heap.size + 1) 3 (.int .i64 (i : Int))
  s : Boxed W w.heap.size 9 (.string s)
  k : Boxed W (w.heap.size + 2) 55 (.func (.func 55) #[] #[.pointer (some ⟨w.heap.size, 0, none⟩), .pointer (some ⟨w.heap.size + 1, 0, none⟩)])
  b : Below w.heap.size w W
theorem PS.step {w W W' : World} {s : ByteArray} {i j : Nat} (h : PS w s W i) (ha : Boxed W' (w.heap.size + 1) 3 (.int .i64 (j : Int))) (hg : W.grownBy W' (some (w.heap.size + 1))) : PS w s W' j :=
  ⟨ha, h.s.kept hg (by simp), h.k.kept hg (by simp), h.b.grown hg h.b.size (fun k e => by cases e; omega)⟩
theorem PS.below {w W W' : World} {s : ByteArray} {i : Nat} (h : PS w s W i) (hb : Below W.heap.size W W') : PS w s W' i :=
  ⟨h.a.kept (grown_of_below hb none) (by simp), h.s.kept (grown_of_below hb none) (by simp), h.k.kept (grown_of_below hb none) (by simp), h.b.trans (hb.mono h.b.size)⟩
/-- An append to the labels' own row. -/
theorem PS.row {w W W' : World} {s : ByteArray} {i n : Nat} {v : Value} {xs : List Value} (h : PS w s W i) (hr : W.ownsRow w.heap.size 32 2 v n xs) (hg : W.grownBy W' v.ownBlock) : PS w s W' i :=
  ⟨h.a.kept hg (h.a.not_row (by decide) hr), h.s.kept hg (h.s.not_row (by decide) hr), h.k.kept hg (h.k.not_row (by decide) hr), h.b.grown hg h.b.size (own_base hr)⟩
theorem PS.own {w W W' : World} {s : ByteArray} {i n : Nat} {v : Value} {xs : List Value} (h : PS w s W i) (hr : W.ownsRow w.heap.size 32 2 v n xs) (hg : W.grownBy W' (some (w.heap.size + 1))) : W'.ownsRow w.heap.size 32 2 v n xs :=
  own_other hr hg (by
    cases hv : v.ownBlock with
    | none => exact .inl rfl
    | some g => exact .inr (fun e => h.a.not_row (by decide) hr (by rw [hv]; exact e.symm)))

/-- What parse comes to. -/
def ParsePost (w0 : World) (o : Option L32) (e : Ending) (w' : World) : Prop :=
  Below w0.heap.size w0 w' ∧ ∃ v, e = .returned (.tuple #[v, .bool o.isSome]) ∧ ∀ l, o = some l → Kd.R k32 32 w' w0.heap.size (fun _ => True) v l

set_option maxRecDepth 100000 in
set_option maxHeartbeats 4000000 in
theorem parse_calls (s : ByteArray) (w : World) (hsz : s.size ≤ 90000) :
    Calls Try.prog 36 #[.string s] w (ParsePost w (parseT (ab s))) := by
  have hl := ab_length s
  obtain ⟨i0, hi, hz0, hz1, hz2⟩ := info_parts infoL
  have hps : PS w s (((w.alloc (.cells #[.string s] 9)).alloc (.cells #[.int .i64 0] 3)).alloc (.cells #[.func (.func 55) #[] #[.pointer (some ⟨w.heap.size, 0, none⟩), .pointer (some ⟨w.heap.size + 1, 0, none⟩)]] 55)) 0 := by
    have b1 := ((Boxed.new w 9 (.string s)).alloc (.cells #[.int .i64 0] 3)).alloc (.cells #[.func (.func 55) #[] #[.pointer (some ⟨w.heap.size, 0, none⟩), .pointer (some ⟨w.heap.size + 1, 0, none⟩)]] 55)
    have b2 := (Boxed.new (w.alloc (.cells #[.string s] 9)) 3 (.int .i64 0)).alloc (.cells #[.func (.func 55) #[] #[.pointer (some ⟨w.heap.size, 0, none⟩), .pointer (some ⟨w.heap.size + 1, 0, none⟩)]] 55)
    have b3 := Boxed.new ((w.alloc (.cells #[.string s] 9)).alloc (.cells #[.int .i64 0] 3)) 55 (.func (.func 55) #[] #[.pointer (some ⟨w.heap.size, 0, none⟩), .pointer (some ⟨w.heap.size + 1, 0, none⟩)])
    simp only [World.size_alloc] at b2 b3
    exact ⟨b2, b1, b3, by repeat (first | exact Below.refl _ _ | apply below_alloc)⟩
  have HPS := Aside0.mk hps
  have hT : parseT (ab s) = parseT (ab s) := rfl
  have hz := toList_ab s
  by_cases h0 : ab s = [123, 125]
  · have hp : parseT (ab s) = some [] := by unfold parseT; rw [if_pos h0]
    have HP := Aside0.mk hp
    have hq : (s.toList == [123, 125]) = true := by rw [hz, h0]; rfl
    have cs := hps.s.cell
    clear hps hp hT hz h0
    go_enter Try.func36, Try.ntmps36
    go_wp2
    go_ret2
    unfold ParsePost
    rw [HP.out]
    exact ⟨HPS.out.b, _, rfl, fun l h => by cases h; exact Kd.R_nil _ _ _ _ _⟩
  · have hq : (s.toList == [123, 125]) = false := by rw [hz]; exact beq_eq_false_iff_ne.2 h0
    cases hpre : preB [123] (ab s) with
    | false =>
      have hp : parseT (ab s) = none := by
        unfold parseT
        rw [if_neg h0]
        cases hab : ab s with
        | nil => rfl
        | cons c r =>
          simp only []
          rw [if_neg]
          intro h
          have : c = 123 := UInt8.toNat_inj.1 h
          subst this
          have := (preB_one 123 (ab s)).2 ⟨r, hab⟩
          rw [hpre] at this; cases this
      have HP := Aside0.mk hp
      have HQ := Aside0.mk (show preB (ab ⟨#[123]⟩) ((ab s).drop 0) = false from hpre)
      have cs := hps.s.cell
      have ck := hps.k.cell
      clear hps hp hT hz h0 hpre
      go_enter Try.func36, Try.ntmps36
      go_wp2_with (go_at_call 55; refine (skip_calls s ⟨#[123]⟩ 0 _ _ _ HPS.out.s HPS.out.a (by omega) (by omega) (show 1 ≤ 100 by omega)).mono ?_; rintro e w' ⟨rfl, ha', hg'⟩; rw [HQ.out] at ha'; simp only [HQ.out]; have HB := Aside0.mk (HPS.out.step ha' hg').b; clear ha' hg')
      go_ret2
      unfold ParsePost
      rw [HP.out]
      exact ⟨HB.out, _, rfl, fun l h => by cases h⟩
    | true =>
      obtain ⟨r0, hr0⟩ := (preB_one 123 (ab s)).1 hpre
      have hlr : (ab s).length = r0.length + 1 := by rw [hr0]; rfl
      have HT := Aside0.mk (show parseT (ab s) = (items (s.size + 5) ((ab s).drop 1)).map (([] : L32) ++ ·) by
        unfold parseT
        rw [if_neg h0, hr0]
        simp only [List.drop_succ_cons, List.drop_zero, List.nil_append]
        rw [if_pos (by decide), items_fuel (r0.length + 2) (s.size + 5) r0 (by omega) (by omega)]
        cases items (s.size + 5) r0 <;> rfl)
      have HQ := Aside0.mk (show preB (ab ⟨#[123]⟩) ((ab s).drop 0) = true from hpre)
      have cs := hps.s.cell
      have ck := hps.k.cell
      have hs1 : 1 ≤ s.size := by omega
      clear hps hT hz h0 hpre hr0 hlr
      go_enter Try.func36, Try.ntmps36
      go_wp2_with (go_at_call 55; refine (skip_calls s ⟨#[123]⟩ 0 _ _ _ HPS.out.s HPS.out.a (by omega) (by omega) (show 1 ≤ 100 by omega)).mono ?_; rintro e w1 ⟨rfl, ha', hg'⟩; rw [HQ.out] at ha'; simp only [HQ.out]; have HP1 := Aside0.mk (HPS.out.step (j := 1) ha' hg'); clear ha' hg')
      go_loopg [7] (s.size - 1) (fun kq v7 w' => ∃ (i : Nat) (out : L32), i ≤ s.size ∧ Aside0 (kq = s.size - i) ∧ Aside0 (PS w s w' i) ∧ Aside0 (w'.ownsRow w.heap.size 32 2 v7 out.length (lcells out)) ∧ Aside0 (out.length ≤ i) ∧ Aside0 (parseT (ab s) = (items (s.size + 5) ((ab s).drop i)).map (out ++ ·)))
      case atStart => exact ⟨1, [], hs1, ⟨rfl⟩, HP1, ⟨World.ownsRow_nil _ _ _ _⟩, ⟨by simp⟩, HT⟩
      case round =>
        clear HT HP1 cs ck HQ HPS hq
        obtain ⟨i, out, hi', HK, HP, HO, HOL, HT⟩ := hrel
        have HDL := Aside0.mk (show ((ab s).drop i).length = s.size - i by rw [List.length_drop, hl])
        cases hL : lblP ((ab s).drop i) with
        | none =>
          have HTN := Aside0.mk (show parseT (ab s) = none by rw [HT.out, show s.size + 5 = (s.size + 4) + 1 from rfl, items, hL]; rfl)
          have HLC := Aside0.mk (fun W (hp : PS w s W i) => label_calls s i (w.heap.size + 1) w.heap.size (w.heap.size + 1 + 1) W hp.a hp.s hp.k hi' (by omega))
          rw [hL] at HLC
          clear hL
          go_wp2_with (go_at_call 56; refine (HLC.out _ HP.out).mono ?_; rintro e w' ⟨hg', x, y, rfl⟩; have HB := Aside0.mk (HP.out.b.grown hg' HP.out.b.size (fun k e => by cases e; omega)); clear hg')
          go_ret2
          unfold ParsePost
          rw [HTN.out]
          exact ⟨by repeat (first | exact HB.out | apply below_alloc), _, rfl, fun l h => by cases h⟩
        | some y =>
          obtain ⟨x, r⟩ := y
          have hlen := lblP_len hL
          rw [HDL.out] at hlen
          have hd := lblP_drop hL
          rw [HDL.out, List.drop_drop] at hd
          have hat : i + (s.size - i - r.length) = s.size - r.length := by omega
          rw [hat] at hd
          obtain ⟨at_, hat'⟩ : ∃ a, s.size - r.length = a := ⟨_, rfl⟩
          rw [hat'] at hd
          have hatr : at_ + r.length = s.size := by omega
          have hia : i + 1 ≤ at_ := by omega
          have HT2 := HT.out
          rw [show s.size + 5 = (s.size + 4) + 1 from rfl, items, hL] at HT2
          simp only [] at HT2
          have HT2A := Aside0.mk HT2
          have HOB := Aside0.mk (show out.length ≤ 90000 by have := HOL.out; omega)
          have HLC := Aside0.mk (fun W (hp : PS w s W i) => label_calls s i (w.heap.size + 1) w.heap.size (w.heap.size + 1 + 1) W hp.a hp.s hp.k hi' (by omega))
          rw [hL] at HLC
          have HAT := Aside0.mk hat'
          have HD := Aside0.mk hd
          clear hL hat' hd hlen hat HT HT2
          cases hp44 : preB [44] r with
          | true =>
            obtain ⟨r', rfl⟩ := (preB_one 44 r).1 hp44
            have HQ := Aside0.mk (show preB (ab ⟨#[44]⟩) ((ab s).drop at_) = true by rw [HD.out]; exact hp44)
            have hd2 : (ab s).drop (at_ + 1) = r' := by rw [← List.drop_drop, HD.out]; rfl
            simp only [List.length_cons] at hatr
            have HTN := Aside0.mk (show parseT (ab s) = (items (s.size + 5) ((ab s).drop (at_ + 1))).map ((out ++ [x]) ++ ·) by
              rw [HT2A.out, hd2]
              simp only []
              rw [if_pos (by decide), items_fuel (s.size + 4) (s.size + 5) r' (by omega) (by omega)]
              cases items (s.size + 5) r' <;> simp)
            clear hp44 hd2 HT2A
            go_wp2_with (first
                | (go_at_call 56; refine (HLC.out _ HP.out).mono ?_; rintro e wa ⟨hg', rfl, hat2⟩; rw [HAT.out] at hat2; have HPa := Aside0.mk (HP.out.step hat2 hg'); have HOa := Aside0.mk (HP.out.own HO.out hg'); clear hg' hat2)
                | (at_builtin; refine wpList_append_own _ rfl _ _ 22 rfl w.heap.size 32 i0 (.agg #[.string ⟨#[]⟩, .string ⟨#[]⟩]) 2 32 Try.underlying22 hi hz0 hz1 hz2 rfl (by decide) _ out.length (lcells out) rfl (pw_own_below HOa.out (by repeat (first | exact Below.refl _ _ | apply below_alloc))) ⟨wa.heap.size + 1, 0, none⟩ 1 1 [.string x.f0, .string x.f1] rfl rfl (fun j u hu => by rw [add_plain]; exact cell_of_heap (heap_alloc_at (by simp)) j u (by simpa using hu)) (by simp [Value.oneCell']) (by have := HOB.out; unfold maxLen; omega) (by have := HOB.out; omega) (by have := HPa.out.b.size; simp; omega) ?_; intro v' wb hown' hgrow _; have HPb := Aside0.mk ((HPa.out.below (by repeat (first | exact Below.refl _ _ | apply below_alloc))).row (pw_own_below HOa.out (by repeat (first | exact Below.refl _ _ | apply below_alloc))) hgrow); have HOb := Aside0.mk hown'; have ckb := HPb.out.k.cell; have csb := HPb.out.s.cell; have cab := HPb.out.a.cell; clear hown' hgrow)
                | (go_at_call 55; refine (skip_calls s ⟨#[44]⟩ at_ w.heap.size (w.heap.size + 1) _ HPb.out.s HPb.out.a (by omega) (by omega) (show 1 ≤ 100 by omega)).mono ?_; rintro e wc ⟨rfl, ha', hg'⟩; rw [HQ.out] at ha'; simp only [HQ.out]; have HPc := Aside0.mk (HPb.out.step (j := at_ + 1) ha' hg'); have HOc := Aside0.mk (HPb.out.own HOb.out hg'); clear HPb HOb ha' hg'; have ckc := HPc.out.k.cell; have csc := HPc.out.s.cell; have cac := HPc.out.a.cell))
            go_roundg (s.size - (at_ + 1))
            case measure => have := HK.out; omega
            case rel =>
              refine ⟨at_ + 1, out ++ [x], by omega, ⟨rfl⟩, HPc, ⟨?_⟩, ⟨by have := HOL.out; simp; omega⟩, HTN⟩
              rw [List.length_append, lcells_append]
              simpa [lcells] using HOc.out
          | false =>
            have HQ := Aside0.mk (show preB (ab ⟨#[44]⟩) ((ab s).drop at_) = false by rw [HD.out]; exact hp44)
            cases hp125 : preB [125] r with
            | false =>
              have HQ2 := Aside0.mk (show preB (ab ⟨#[125]⟩) ((ab s).drop at_) = false by rw [HD.out]; exact hp125)
              have HTN := Aside0.mk (show parseT (ab s) = none by
                rw [HT2A.out]
                cases r with
                | nil => rfl
                | cons c r' =>
                  simp only []
                  rw [if_neg (fun h => by have : c = 44 := UInt8.toNat_inj.1 h; subst this; rw [(preB_one 44 _).2 ⟨r', rfl⟩] at hp44; cases hp44), if_neg (fun h => by have : c = 125 := UInt8.toNat_inj.1 h.1; subst this; rw [(preB_one 125 _).2 ⟨r', rfl⟩] at hp125; cases hp125)]
                  rfl)
              clear hp44 hp125 HT2A
              go_wp2_with (first
                  | (go_at_call 56; refine (HLC.out _ HP.out).mono ?_; rintro e wa ⟨hg', rfl, hat2⟩; rw [HAT.out] at hat2; have HPa := Aside0.mk (HP.out.step hat2 hg'); have HOa := Aside0.mk (HP.out.own HO.out hg'); clear hg' hat2)
                  | (at_builtin; refine wpList_append_own _ rfl _ _ 22 rfl w.heap.size 32 i0 (.agg #[.string ⟨#[]⟩, .string ⟨#[]⟩]) 2 32 Try.underlying22 hi hz0 hz1 hz2 rfl (by decide) _ out.length (lcells out) rfl (pw_own_below HOa.out (by repeat (first | exact Below.refl _ _ | apply below_alloc))) ⟨wa.heap.size + 1, 0, none⟩ 1 1 [.string x.f0, .string x.f1] rfl rfl (fun j u hu => by rw [add_plain]; exact cell_of_heap (heap_alloc_at (by simp)) j u (by simpa using hu)) (by simp [Value.oneCell']) (by have := HOB.out; unfold maxLen; omega) (by have := HOB.out; omega) (by have := HPa.out.b.size; simp; omega) ?_; intro v' wb hown' hgrow _; have HPb := Aside0.mk ((HPa.out.below (by repeat (first | exact Below.refl _ _ | apply below_alloc))).row (pw_own_below HOa.out (by repeat (first | exact Below.refl _ _ | apply below_alloc))) hgrow); have HOb := Aside0.mk hown'; have ckb := HPb.out.k.cell; have csb := HPb.out.s.cell; have cab := HPb.out.a.cell; clear hown' hgrow)
                  | (go_at_call 55; refine (skip_calls s ⟨#[44]⟩ at_ w.heap.size (w.heap.size + 1) _ HPb.out.s HPb.out.a (by omega) (by omega) (show 1 ≤ 100 by omega)).mono ?_; rintro e wc ⟨rfl, ha', hg'⟩; rw [HQ.out] at ha'; simp only [HQ.out]; have HPc := Aside0.mk (HPb.out.step (j := at_) ha' hg'); have HOc := Aside0.mk (HPb.out.own HOb.out hg'); clear HPb HOb ha' hg'; have ckc := HPc.out.k.cell; have csc := HPc.out.s.cell; have cac := HPc.out.a.cell)
                  | (go_at_call 55; refine (skip_calls s ⟨#[125]⟩ at_ w.heap.size (w.heap.size + 1) _ HPc.out.s HPc.out.a (by omega) (by omega) (show 1 ≤ 100 by omega)).mono ?_; rintro e wd ⟨rfl, ha', hg'⟩; rw [HQ2.out] at ha'; simp only [HQ2.out]; have HPd := Aside0.mk (HPc.out.step (j := at_) ha' hg'); have HOd := Aside0.mk (HPc.out.own HOc.out hg'); clear ha' hg'; have ckd := HPd.out.k.cell; have csd := HPd.out.s.cell; have cad := HPd.out.a.cell))
              go_ret2
              unfold ParsePost
              rw [HTN.out]
              exact ⟨HPd.out.b, _, rfl, fun l h => by cases h⟩
            | true =>
              obtain ⟨r', rfl⟩ := (preB_one 125 r).1 hp125
              have HQ2 := Aside0.mk (show preB (ab ⟨#[125]⟩) ((ab s).drop at_) = true by rw [HD.out]; exact hp125)
              simp only [List.length_cons] at hatr
              obtain ⟨b, hb⟩ : ∃ b : Bool, (((at_ : Int) + 1) == (s.size : Int)) = b := ⟨_, rfl⟩
              have HTN := Aside0.mk (show parseT (ab s) = if b then some (out ++ [x]) else none by
                rw [HT2A.out]
                simp only []
                rw [if_neg (by decide)]
                by_cases hr : r' = []
                · subst hr
                  have : b = true := by rw [← hb]; simp at hatr ⊢; omega
                  rw [this, if_pos ⟨by decide, rfl⟩]; rfl
                · have h1 : 0 < r'.length := List.length_pos_iff.2 hr
                  have : b = false := by rw [← hb]; simp; omega
                  rw [this, if_neg (fun h => hr h.2)]; rfl)
              clear hp44 hp125 HT2A
              go_wp2_with (first
                  | (go_at_call 56; refine (HLC.out _ HP.out).mono ?_; rintro e wa ⟨hg', rfl, hat2⟩; rw [HAT.out] at hat2; have HPa := Aside0.mk (HP.out.step hat2 hg'); have HOa := Aside0.mk (HP.out.own HO.out hg'); clear hg' hat2)
                  | (at_builtin; refine wpList_append_own _ rfl _ _ 22 rfl w.heap.size 32 i0 (.agg #[.string ⟨#[]⟩, .string ⟨#[]⟩]) 2 32 Try.underlying22 hi hz0 hz1 hz2 rfl (by decide) _ out.length (lcells out) rfl (pw_own_below HOa.out (by repeat (first | exact Below.refl _ _ | apply below_alloc))) ⟨wa.heap.size + 1, 0, none⟩ 1 1 [.string x.f0, .string x.f1] rfl rfl (fun j u hu => by rw [add_plain]; exact cell_of_heap (heap_alloc_at (by simp)) j u (by simpa using hu)) (by simp [Value.oneCell']) (by have := HOB.out; unfold maxLen; omega) (by have := HOB.out; omega) (by have := HPa.out.b.size; simp; omega) ?_; intro v' wb hown' hgrow _; have HPb := Aside0.mk ((HPa.out.below (by repeat (first | exact Below.refl _ _ | apply below_alloc))).row (pw_own_below HOa.out (by repeat (first | exact Below.refl _ _ | apply below_alloc))) hgrow); have HOb := Aside0.mk hown'; have ckb := HPb.out.k.cell; have csb := HPb.out.s.cell; have cab := HPb.out.a.cell; clear hown' hgrow)
                  | (go_at_call 55; refine (skip_calls s ⟨#[44]⟩ at_ w.heap.size (w.heap.size + 1) _ HPb.out.s HPb.out.a (by omega) (by omega) (show 1 ≤ 100 by omega)).mono ?_; rintro e wc ⟨rfl, ha', hg'⟩; rw [HQ.out] at ha'; simp only [HQ.out]; have HPc := Aside0.mk (HPb.out.step (j := at_) ha' hg'); have HOc := Aside0.mk (HPb.out.own HOb.out hg'); clear HPb HOb ha' hg'; have ckc := HPc.out.k.cell; have csc := HPc.out.s.cell; have cac := HPc.out.a.cell)
                  | (go_at_call 55; refine (skip_calls s ⟨#[125]⟩ at_ w.heap.size (w.heap.size + 1) _ HPc.out.s HPc.out.a (by omega) (by omega) (show 1 ≤ 100 by omega)).mono ?_; rintro e wd ⟨rfl, ha', hg'⟩; rw [HQ2.out] at ha'; simp only [HQ2.out]; have HPd := Aside0.mk (HPc.out.step (j := at_ + 1) ha' hg'); have HOd := Aside0.mk (HPc.out.own HOc.out hg'); clear ha' hg'; have ckd := HPd.out.k.cell; have csd := HPd.out.s.cell; have cad := HPd.out.a.cell))
              go_quiet (fail)
              go_wp2
              go_ret2
              unfold ParsePost
              rw [HTN.out]
              refine ⟨by repeat (first | exact HPd.out.b | apply pw_below_drewN | apply below_drew), _, by cases b <;> rfl, fun l h => ?_⟩
              cases b with
              | false => cases h
              | true =>
                cases h
                have := R_of_lcells (l := out ++ [x]) (by rw [List.length_append, lcells_append]; simpa [lcells] using HOd.out)
                exact Kd.R_below this (by repeat (first | exact Below.refl _ _ | apply pw_below_drewN | apply below_drew))

/-- What Parse comes to: the labels and the error. -/
def prsL (s : List UInt8) : L32 := match parseT s with
  | none => []
  | some l => if chk l = 0 then l else []
def prsE (s : List UInt8) : Int := match parseT s with
  | none => 3
  | some l => chk l

theorem items_sz : ∀ (f : Nat) (t : List UInt8) (l : L32), items f t = some l → l.length ≤ t.length ∧ Sz t.length l
  | 0, _, _, h => by simp [items] at h
  | f + 1, t, l, h => by
    simp only [items] at h
    cases hL : lblP t with
    | none => rw [hL] at h; cases h
    | some y =>
      obtain ⟨x, r⟩ := y
      have hlen := lblP_len hL
      rw [hL] at h
      cases r with
      | nil => cases h
      | cons c r' =>
        simp only [List.length_cons] at h hlen
        split at h
        · obtain ⟨l', h1, rfl⟩ := Option.map_eq_some_iff.1 h
          have ih := items_sz f r' l' h1
          refine ⟨by simp only [List.length_cons]; omega, fun y hy => ?_⟩
          rcases List.mem_cons.1 hy with rfl | hy
          · exact ⟨hlen.2.1, hlen.2.2⟩
          · have := ih.2 y hy
            exact ⟨by omega, by omega⟩
        · split at h
          · cases h
            refine ⟨by simp; omega, fun y hy => ?_⟩
            rw [List.mem_singleton.1 hy]
            exact ⟨hlen.2.1, hlen.2.2⟩
          · cases h
theorem parseT_sz {s : List UInt8} {l : L32} (h : parseT s = some l) : l.length ≤ s.length ∧ Sz s.length l := by
  unfold parseT at h
  split at h
  · cases h; exact ⟨by simp, fun x hx => by cases hx⟩
  · cases s with
    | nil => cases h
    | cons c r =>
      simp only [] at h
      split at h
      · have := items_sz _ r l h
        exact ⟨by simp; omega, fun x hx => by have := this.2 x hx; simp only [List.length_cons]; exact ⟨by omega, by omega⟩⟩
      · cases h

theorem Check_calls (A0 : Option Addr) (c0 : Nat) (l : L32) (w : World) (hr0 : Kd.C k32 w A0 l.length l) (hc0 : l.length ≤ c0) (B : Nat) (hB : B ≤ 1000000) (hl : l.length ≤ 1000000) (hS : Sz B l) :
    Calls Try.prog 14 #[.slice A0 l.length c0] w fun e w' => e = .returned (.int .i64 (chk l)) ∧ Below w.heap.size w w' :=
  labels_Check.calls (l.length + B + 4) A0 c0 l (chk l) w hr0 hc0 (Check_f l B _ (by omega) (by omega) hS (by omega))
theorem rCheck_calls (A0 : Option Addr) (c0 : Nat) (l : L32) (w : World) (hr0 : Kd.C k32 w A0 l.length l) (hc0 : l.length ≤ c0) (B : Nat) (hB : B ≤ 1000000) (hl : l.length ≤ 1000000) (hS : Sz B l) :
    Calls Try.prog 31 #[.slice A0 l.length c0] w fun e w' => e = .returned (.int .i64 (chk l)) ∧ Drawn0 w w' :=
  lookoutref05_Check.calls (l.length + B + 4) A0 c0 l (chk l) w hr0 hc0 (rCheck_f l B _ (by omega) (by omega) hS (by omega))

set_option maxHeartbeats 2000000 in
theorem Parse_calls (s : ByteArray) (w : World) (hsz : s.size ≤ 90000) :
    Calls Try.prog 12 #[.string s] w fun e w' => ∃ v, e = .returned (.tuple #[v, .int .i64 (prsE (ab s))]) ∧ Kd.R k32 32 w' w.heap.size (fun _ => True) v (prsL (ab s)) ∧ Below w.heap.size w w' := by
  have H := Aside0.mk (parse_calls s w hsz)
  have hl := ab_length s
  cases hp : parseT (ab s) with
  | none =>
    have e1 : prsE (ab s) = 3 := by unfold prsE; rw [hp]
    have e2 : prsL (ab s) = [] := by unfold prsL; rw [hp]
    rw [e1, e2]
    rw [hp] at H
    clear e1 e2 hp
    go_enter Try.func12, Try.ntmps12
    go_wp2_with (go_at_call 36; refine H.out.mono ?_; rintro e w' ⟨hB, v, rfl, _⟩; have HB := Aside0.mk hB; clear hB)
    go_ret2
    exact ⟨_, rfl, Kd.R_nil _ _ _ _ _, HB.out⟩
  | some l =>
    have hsz2 := parseT_sz hp
    rw [hp] at H
    have HSZ := Aside0.mk hsz2
    have e1 : prsE (ab s) = chk l := by unfold prsE; rw [hp]
    have e2 : prsL (ab s) = if chk l = 0 then l else [] := by unfold prsL; rw [hp]
    rw [e1, e2]
    by_cases hc : chk l = 0
    · rw [if_pos hc]
      have hcb : (chk l != 0) = false := by rw [hc]; rfl
      have HCC := Aside0.mk hc
      clear hsz2 e1 e2 hp hc
      go_enter Try.func12, Try.ntmps12
      go_wp2_with (first
        | (go_at_call 36; refine H.out.mono ?_; rintro e w' ⟨hB, v, rfl, hR⟩; have hR' := hR l rfl; obtain ⟨A, c, rfl, hlc, hC⟩ := Kd.R_reads hR'; have HB := Aside0.mk (And.intro hB (And.intro hR' (And.intro hlc hC))); clear hB hR hR' hlc hC)
        | (go_at_call 14; refine (Check_calls A c l _ HB.out.2.2.2 HB.out.2.2.1 (ab s).length (by omega) (by have := HSZ.out.1; omega) HSZ.out.2).mono ?_; rintro e w2 ⟨rfl, hB2⟩; have HB2 := Aside0.mk hB2; clear hB2))
      go_ret2
      rw [HCC.out]
      exact ⟨_, rfl, Kd.R_below HB.out.2.1 HB2.out, HB.out.1.trans (HB2.out.mono HB.out.1.size)⟩
    · rw [if_neg hc]
      have hcb : (chk l != 0) = true := by simpa using hc
      clear hsz2 e1 e2 hp hc
      go_enter Try.func12, Try.ntmps12
      go_wp2_with (first
        | (go_at_call 36; refine H.out.mono ?_; rintro e w' ⟨hB, v, rfl, hR⟩; have hR' := hR l rfl; obtain ⟨A, c, rfl, hlc, hC⟩ := Kd.R_reads hR'; have HB := Aside0.mk (And.intro hB (And.intro hR' (And.intro hlc hC))); clear hB hR hR' hlc hC)
        | (go_at_call 14; refine (Check_calls A c l _ HB.out.2.2.2 HB.out.2.2.1 (ab s).length (by omega) (by have := HSZ.out.1; omega) HSZ.out.2).mono ?_; rintro e w2 ⟨rfl, hB2⟩; have HB2 := Aside0.mk hB2; clear hB2))
      go_ret2
      exact ⟨_, rfl, Kd.R_nil _ _ _ _ _, HB.out.1.trans (HB2.out.mono HB.out.1.size)⟩
end Go.Proofs.Ytiooenmbondflaa.H

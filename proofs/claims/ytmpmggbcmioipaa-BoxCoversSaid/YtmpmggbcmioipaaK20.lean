/-
  A SECOND ENGINE, PART 20: a region whose order is drawn, of which the last operations come each after all before them.
-/
import Derived.Test.YtmpmggbcmioipaaK17
set_option linter.all false
namespace Go.K
open Go Go.RowKit
section
variable {P : Program} {B : Nat} {w0 : World} {E0 E : Ext} {L0 L : List Loc} {s : St} {a : Act} {w : World}

def okTail (C : List (List Nat)) (k n : Nat) : Bool := (List.range n).all fun i => decide (i < k) || (List.range i).all fun p => memN p (C.getD i [])
theorem okTail_at {C : List (List Nat)} {k n : Nat} (h : okTail C k n = true) {i : Nat} (hi : i < n) (hk : k ≤ i) {p : Nat} (hp : p < i) : p ∈ C.getD i [] := by
  have h1 := List.all_eq_true.1 h i (List.mem_range.2 hi)
  rcases Bool.or_eq_true _ _ ▸ h1 with h2 | h2
  · have := of_decide_eq_true h2; omega
  · exact memN_iff.1 (List.all_eq_true.1 h2 p (List.mem_range.2 hp))

structure LeftK (k : Nat) (l : List Oper) (ds : List (Option Tmp)) (C : List (List Nat)) (listed : Array Bool) (L : List It) : Prop where
  size : listed.size = l.length
  get : ∀ it ∈ L, l[it.ix]? = some it.o ∧ listed[it.ix]? = some false ∧ it.ix < k
  cov : ∀ i, i < k → listed.getD i true = false → ∃ it ∈ L, it.ix = i
  hi : ∀ i, k ≤ i → i < l.length → listed.getD i true = false
  srt : L.Pairwise (Later ds C)
  down : ∀ i, i < l.length → listed.getD i false = true → ∀ d ∈ depsOf (l.getD i default), listed.getD d false = true

structure TailAt (j : Nat) (l : List Oper) (listed : Array Bool) : Prop where
  size : listed.size = l.length
  lo : ∀ i, i < j → listed.getD i false = true
  hi : ∀ i, j ≤ i → i < l.length → listed.getD i true = false

theorem TailAt.ready {j k : Nat} {l : List Oper} {C : List (List Nat)} {listed : Array Bool} (h : TailAt j l listed) (hj : j ≤ l.length) (hk : k ≤ j) (hd : okDeps 0 l = true) (hC : okC l C = true) (hT : okTail C k l.length = true) {i : Nat} (hi : i ∈ Region.ready .any l.toArray listed) : i = j := by
  obtain ⟨h1, h2, h3⟩ := ready_iff.1 hi
  have hji : j ≤ i := by
    rcases Nat.lt_or_ge i j with hlt | hge
    · have := h.lo i hlt
      rw [Array.getD_eq_getD_getElem?] at this h2
      have hsz : i < listed.size := by rw [h.size]; exact h1
      rw [Array.getElem?_eq_getElem hsz, Option.getD_some] at this h2
      rw [this] at h2; cases h2
    · exact hge
  rcases Nat.lt_or_ge j i with hlt | hge
  · exfalso
    have down : ∀ q, q < l.length → listed.getD q false = true → ∀ d ∈ depsOf (l.getD q default), listed.getD d false = true := by
      intro q hq hl d hdd
      have hqj : q < j := by
        rcases Nat.lt_or_ge q j with h' | h'
        · exact h'
        · have := h.hi q h' hq
          rw [Array.getD_eq_getD_getElem?] at this hl
          have hsz : q < listed.size := by rw [h.size]; exact hq
          rw [Array.getElem?_eq_getElem hsz, Option.getD_some] at this hl
          rw [this] at hl; cases hl
      have := okDeps_at hd hq d hdd
      exact h.lo d (by omega)
    have hc := closed hd hC down i h1 h3 j (okTail_at hT h1 (by omega) hlt)
    have := h.hi j (Nat.le_refl _) (by omega)
    rw [Array.getD_eq_getD_getElem?] at this hc
    have hsz : j < listed.size := by rw [h.size]; omega
    rw [Array.getElem?_eq_getElem hsz, Option.getD_some] at this hc
    rw [this] at hc; cases hc
  · omega

theorem TailAt.next {j : Nat} {l : List Oper} {listed : Array Bool} (h : TailAt j l listed) (hj : j < l.length) : TailAt (j + 1) l (listed.setIfInBounds j true) where
  size := by rw [Array.size_setIfInBounds]; exact h.size
  lo := fun i hi => by
    by_cases e : j = i
    · subst e; simp [Array.getD_eq_getD_getElem?, h.size, hj]
    · have := h.lo i (by omega)
      simp only [Array.getD_eq_getD_getElem?, Array.getElem?_setIfInBounds_ne e] at this ⊢; exact this
  hi := fun i hi hl => by
    have := h.hi i (by omega) hl
    simp only [Array.getD_eq_getD_getElem?, Array.getElem?_setIfInBounds_ne (show j ≠ i by omega)] at this ⊢; exact this

theorem tail_sound {tt : TT} (ht : tt.Ok P) {l : List Oper} {ds : List (Option Tmp)} (hds : ds = l.map (·.dst)) {C : List (List Nat)} {k : Nat} (hd : okDeps 0 l = true) (hC : okC l C = true) (hT : okTail C k l.length = true) {K : St → Prop} {Q : Exit → Act → World → Prop}
    (hK : ∀ s' a' w' E' L', K s' → RepE B w0 E0 E' L0 L' s' a' w' → Q .normal a' w') :
    ∀ (fuel j : Nat) (listed : Array Bool) (s : St) (a : Act) (w : World) (E : Ext) (L : List Loc), l.length - j ≤ fuel → k ≤ j → j ≤ l.length → TailAt j l listed → RepE B w0 E0 E L0 L s a w → evOps2 P tt ds ((l.drop j).map fun o => (0, o)) s K → wpAny P .any l.toArray Q fuel listed a w := by
  intro fuel
  induction fuel with
  | zero =>
    intro j listed s a w E L hf hk hj hL R h
    have e : j = l.length := by omega
    subst e
    rw [List.drop_length] at h
    refine ⟨?_, hK _ _ _ _ _ h R⟩
    refine List.eq_nil_iff_forall_not_mem.2 fun i hi => ?_
    have := hL.ready (Nat.le_refl _) hk hd hC hT hi
    have h1 := (ready_iff.1 hi).1
    omega
  | succ fuel ih =>
    intro j listed s a w E L hf hk hj hL R h
    rcases Nat.lt_or_ge j l.length with hlt | hge
    · have hget : l[j]? = some l[j] := List.getElem?_eq_getElem hlt
      rw [List.drop_eq_getElem_cons hlt, List.map_cons] at h
      refine ⟨fun hr => ?_, fun i hi => ?_⟩
      · exfalso
        have : j ∈ Region.ready .any l.toArray listed := by
          refine ready_iff.2 ⟨hlt, hL.hi j (Nat.le_refl _) hlt, fun d hdd => ?_⟩
          have hdl : d < j := by have := okDeps_at hd hlt d hdd; omega
          exact hL.lo d hdl
        rw [hr] at this; cases this
      · obtain rfl := hL.ready hj hk hd hC hT hi
        have hgeta : l.toArray[i]? = some l[i] := by simpa using hget
        unfold wpOp
        rw [hgeta]
        simp only
        rcases h with ⟨x, hx, h⟩ | ⟨X, hg, hdl, hsp, h⟩
        · have := step_sound (o := l[i]) (ops := l.toArray) ht R hds hx (Q := Q) (next := wpAny P .any l.toArray Q fuel (listed.setIfInBounds i true)) fun a' w' E' L' R' =>
            ih (i + 1) _ _ a' w' E' L' (by omega) (by omega) (by omega) (hL.next hlt) R' h
          by_cases hw : Region.wanted l[i] (yielded l.toArray a.tmps) = true
          · rw [if_pos hw] at this ⊢; exact .inl this
          · rw [if_neg hw] at this ⊢; exact this
        · rw [if_pos (by unfold Region.wanted; rw [hg])]
          obtain ⟨x, hx, hst⟩ := spec_sound (o := l[i]) ht R hsp
          refine .inl (hst (wpAny P .any l.toArray Q fuel (listed.setIfInBounds i true)) Q fun v w' E' L' R' hi' => ?_)
          exact ih (i + 1) _ _ _ w' E' L' (by omega) (by omega) (by omega) (hL.next hlt) (R'.put hdl hi') (h x hx)
    · have e : j = l.length := by omega
      subst e
      rw [List.drop_length] at h
      refine ⟨fun _ => hK _ _ _ _ _ h R, fun i hi => ?_⟩
      have := hL.ready (Nat.le_refl _) hk hd hC hT hi
      have h1 := (ready_iff.1 hi).1
      omega

theorem drawn_tail {tt : TT} (ht : tt.Ok P) {l : List Oper} {ds : List (Option Tmp)} (hds : ds = l.map (·.dst)) {C : List (List Nat)} {k : Nat} (hkl : k ≤ l.length) (hd : okDeps 0 l = true) (hC : okC l C = true) (hT : okTail C k l.length = true) {K : St → Prop} {Q : Exit → Act → World → Prop}
    (hK : ∀ s' a' w' E' L', K s' → RepE B w0 E0 E' L0 L' s' a' w' → Q .normal a' w') :
    ∀ (fuel : Nat) (listed : Array Bool) (M : List It) (log : Log) (s : St) (a : Act) (w : World) (E : Ext) (L : List Loc), M.length + (l.length - k) ≤ fuel → LeftK k l ds C listed M → RepE B w0 E0 E L0 L s a w →
      evD P tt ds M log s (fun t => ∃ t0, evOps2 P tt ds ((l.drop k).map fun o => (0, o)) t0 K ∧ Eqv t0 t) → wpAny P .any l.toArray Q fuel listed a w := by
  have hcl : Closed (fun t => ∃ t0, evOps2 P tt ds ((l.drop k).map fun o => (0, o)) t0 K ∧ Eqv t0 t) := fun s t he ⟨t0, q, e⟩ => ⟨t0, q, e.trans he⟩
  intro fuel
  induction fuel with
  | zero =>
    intro listed M log s a w E L hf hL R h
    cases M with
    | cons _ _ => simp at hf
    | nil =>
      obtain ⟨t0, h, he⟩ := h
      refine tail_sound ht hds hd hC hT hK 0 k listed _ a w E L (by simpa using hf) (Nat.le_refl _) hkl ⟨hL.size, fun i hi => ?_, hL.hi⟩ (R.eqv he.symm) h
      have hsz : i < listed.size := by rw [hL.size]; omega
      cases hl : listed.getD i false with
      | true => rfl
      | false =>
        obtain ⟨it, hit, _⟩ := hL.cov i hi (by
          rw [Array.getD_eq_getD_getElem?, Array.getElem?_eq_getElem hsz, Option.getD_some] at hl ⊢; exact hl)
        cases hit
  | succ fuel ih =>
    intro listed M log s a w E L hf hL R h
    cases hM : M with
    | nil =>
      subst hM
      obtain ⟨t0, h, he⟩ := h
      refine tail_sound ht hds hd hC hT hK (fuel + 1) k listed _ a w E L (by simpa using hf) (Nat.le_refl _) hkl ⟨hL.size, fun i hi => ?_, hL.hi⟩ (R.eqv he.symm) h
      have hsz : i < listed.size := by rw [hL.size]; omega
      cases hl : listed.getD i false with
      | true => rfl
      | false =>
        obtain ⟨it, hit, _⟩ := hL.cov i hi (by
          rw [Array.getD_eq_getD_getElem?, Array.getElem?_eq_getElem hsz, Option.getD_some] at hl ⊢; exact hl)
        cases hit
    | cons it0 r0 =>
    have hm0 : it0 ∈ M := by rw [hM]; exact List.mem_cons_self ..
    refine ⟨fun hr => ?_, fun i hi => ?_⟩
    · exfalso
      obtain ⟨g1, g2, g3⟩ := hL.get it0 hm0
      have hlt : it0.ix < l.length := get_lt g1
      have : it0.ix ∈ Region.ready .any l.toArray listed := by
        refine ready_iff.2 ⟨hlt, getD_some g2, fun d hdd => ?_⟩
        have hdl : d < it0.ix := by have := okDeps_at hd hlt d hdd; omega
        cases hld : listed.getD d false with
        | true => rfl
        | false =>
          have hsz : d < listed.size := by rw [hL.size]; omega
          obtain ⟨jt, hj, hjx⟩ := hL.cov d (by omega) (by
            simp only [Array.getD_eq_getD_getElem?, Array.getElem?_eq_getElem hsz, Option.getD_some] at hld ⊢; exact hld)
          have hsrt := hL.srt
          rw [hM] at hj hsrt
          rcases List.mem_cons.1 hj with rfl | hj
          · omega
          · have := (List.rel_of_pairwise_cons hsrt hj).1; omega
      rw [hr] at this; cases this
    · obtain ⟨hi1, hi2, hi3⟩ := ready_iff.1 hi
      have hik : i < k := by
        rcases Nat.lt_or_ge i k with h' | h'
        · exact h'
        · exfalso
          obtain ⟨g1, g2, g3⟩ := hL.get it0 hm0
          have h1 := closed hd hC hL.down i hi1 hi3 it0.ix (okTail_at hT hi1 h' (by omega))
          rw [getD_some g2] at h1; cases h1
      obtain ⟨y, hy, rfl⟩ := hL.cov i hik hi2
      clear hM hm0 it0 r0
      obtain ⟨pre, post, rfl⟩ := List.append_of_mem hy
      obtain ⟨g1, g2, g3⟩ := hL.get y hy
      have hcl' := closed hd hC hL.down y.ix hi1 hi3
      have hind : ∀ x ∈ pre, Indep ds x y := by
        intro x hx
        have := (List.pairwise_append.1 hL.srt).2.2 x hx y (List.mem_cons_self ..)
        rcases this.2 with h | h
        · have h1 := hcl' _ h
          have h2 := (hL.get x (List.mem_append_left _ hx)).2.1
          rw [getD_some h2] at h1; cases h1
        · exact h
      have hne : ∀ it ∈ pre ++ post, it.ix ≠ y.ix := by
        intro it hit e
        rcases List.mem_append.1 hit with h | h
        · have := ((List.pairwise_append.1 hL.srt).2.2 it h y (List.mem_cons_self ..)).1; omega
        · have := (List.rel_of_pairwise_cons (List.pairwise_append.1 hL.srt).2.1 h).1; omega
      have hmem : ∀ it ∈ pre ++ post, it ∈ pre ++ y :: post := by
        intro it hit
        rcases List.mem_append.1 hit with h | h
        · exact List.mem_append_left _ h
        · exact List.mem_append_right _ (List.mem_cons_of_mem _ h)
      have hnew : LeftK k l ds C (listed.setIfInBounds y.ix true) (pre ++ post) := by
        refine ⟨by rw [Array.size_setIfInBounds]; exact hL.size, fun it hit => ⟨(hL.get it (hmem it hit)).1, ?_, (hL.get it (hmem it hit)).2.2⟩, fun j hj hl => ?_, fun j hj hl => ?_, ?_, fun j hj hl d hdd => ?_⟩
        · rw [Array.getElem?_setIfInBounds_ne (fun e => hne it hit e.symm)]; exact (hL.get it (hmem it hit)).2.1
        · by_cases e : y.ix = j
          · subst e
            simp [Array.getD_eq_getD_getElem?, hL.size, hi1] at hl
          · obtain ⟨it, h1, h2⟩ := hL.cov j hj (by
              simp only [Array.getD_eq_getD_getElem?, Array.getElem?_setIfInBounds_ne e] at hl ⊢; exact hl)
            refine ⟨it, ?_, h2⟩
            rcases List.mem_append.1 h1 with h | h
            · exact List.mem_append_left _ h
            · rcases List.mem_cons.1 h with rfl | h
              · exact absurd h2 e
              · exact List.mem_append_right _ h
        · have := hL.hi j hj hl
          simp only [Array.getD_eq_getD_getElem?, Array.getElem?_setIfInBounds_ne (show y.ix ≠ j by omega)] at this ⊢; exact this
        · exact hL.srt.sublist (List.Sublist.append (List.Sublist.refl _) (List.sublist_cons_self _ _))
        · have keep : ∀ d, listed.getD d false = true → (listed.setIfInBounds y.ix true).getD d false = true := by
            intro d h
            by_cases e : y.ix = d
            · subst e; simp [Array.getD_eq_getD_getElem?, hL.size, hi1]
            · simp only [Array.getD_eq_getD_getElem?, Array.getElem?_setIfInBounds_ne e] at h ⊢; exact h
          by_cases e : y.ix = j
          · subst e; exact keep d (hi3 d hdd)
          · refine keep d (hL.down j hj ?_ d hdd)
            simp only [Array.getD_eq_getD_getElem?, Array.getElem?_setIfInBounds_ne e] at hl ⊢; exact hl
      obtain ⟨z, hz, _, hev⟩ := pull hcl hind h
      have hlen : (pre ++ post).length + (l.length - k) ≤ fuel := by
        simp only [List.length_append, List.length_cons] at hf ⊢; omega
      have := step_sound (o := y.o) (ops := l.toArray) ht R hds hz (Q := Q) (next := wpAny P .any l.toArray Q fuel (listed.setIfInBounds y.ix true)) fun a' w' E' L' R' =>
        ih _ _ _ _ a' w' E' L' hlen hnew R' hev
      have hget : l.toArray[y.ix]? = some y.o := by simpa using g1
      unfold wpOp
      rw [hget]
      simp only
      by_cases hw : Region.wanted y.o (yielded l.toArray a.tmps) = true
      · rw [if_pos hw] at this ⊢; exact .inl this
      · rw [if_neg hw] at this ⊢; exact this

def okDT (k : Nat) (l : List Oper) (ann : List (List Nat × Bool)) : Bool :=
  okDeps 0 l && (okC l (closures l []) && (okPairs (dsts l) (closures l []) (its false (l.take k) 0 0 ann) && (okTail (closures l []) k l.length && decide (k ≤ l.length))))

/-- A region whose order is drawn, with a tail that is not. -/
theorem ev_region_tail (hm : P.follows .mixedOrders = true) {tt : TT} (ht : tt.Ok P) (k : Nat) {m id : Nat} {l : List Oper} (ann : List (List Nat × Bool)) (hok : okDT k l ann = true) {Q : Exit → St → Prop}
    (h : evD P tt (dsts l) (its false (l.take k) 0 s.ow.length ann) [] s fun s1 => evOps2 P tt (dsts l) ((l.drop k).map fun o => (0, o)) s1 fun s' => Q .normal s') :
    EV P m (.region id l.toArray true) Q s := by
  rintro B w0 E0 L0 a w _ ⟨E, L, R⟩
  unfold okDT at hok
  simp only [Bool.and_eq_true, decide_eq_true_eq] at hok
  obtain ⟨h1, h2, h3, h4, h5⟩ := hok
  refine wp_region_any hm ?_
  have hlen : ∀ (l : List Oper) (i n : Nat) (ann : List (List Nat × Bool)), (its false l i n ann).length = l.length := by
    intro l
    induction l with
    | nil => intros; rfl
    | cons o r ih => intro i n ann; cases ann <;> (unfold its; simp [ih])
  refine drawn_tail ht (by rw [dsts_eq]) h5 h1 h2 h4 (K := fun t => Q .normal t) (fun s' a' w' E' L' hq R' => ⟨s', hq, E', L', R'⟩) _ _ (its false (l.take k) 0 s.ow.length ann) [] s a _ E L ?_ ?_ R.drew (evD_mono (fun s hq => ⟨s, hq, Eqv.refl s⟩) h)
  · rw [hlen]; simp; omega
  · refine ⟨by simp, fun it hit => ?_, fun i hi _ => ?_, fun i hk hi => ?_, its_pairs (by rw [okPairs_id (l.take k) 0 s.ow.length 0]; exact h3), fun i hi hl => ?_⟩
    · have := (its_spec hit).2
      simp only [Nat.sub_zero] at this
      have hlt : it.ix < (l.take k).length := get_lt this
      have hlt2 : it.ix < k := by simp at hlt; omega
      rw [List.getElem?_take_of_lt hlt2] at this
      have hlt3 := get_lt this
      exact ⟨this, by simp [hlt3], hlt2⟩
    · obtain ⟨it, h, e⟩ := its_cov (nw := false) (l := l.take k) (i := 0) (n := s.ow.length) (ann := ann) (k := i) (by simp; omega)
      exact ⟨it, h, by omega⟩
    · simp [Array.getD_eq_getD_getElem?, hi]
    · simp [Array.getD_eq_getD_getElem?, hi] at hl
end
end Go.K

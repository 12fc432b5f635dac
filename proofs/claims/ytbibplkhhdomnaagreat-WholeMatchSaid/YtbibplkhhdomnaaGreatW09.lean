import Derived.Deep.LoopGhost
import Derived.LoopN
import Derived.Test.YtbibplkhhdomnaaGreatW08
set_option linter.all false
namespace Go.K
open Go Go.RowKit
def thenQ (K : St → Prop) (Q : Exit → St → Prop) : Exit → St → Prop
  | .normal, s => K s
  | e, s => Q e s
def blockQ (id : Nat) (Q : Exit → St → Prop) : Exit → St → Prop
  | .exit id', s => if id' = id then Q .normal s else Q (.exit id') s
  | e, s => Q e s
section
variable {P : Program} {m : Nat} {s : St}
theorem ev_seq {x y : Code} {Q : Exit → St → Prop} (h : ∀ K : St → Prop, (∀ s, EV P m y Q s → K s) → EV P m x (thenQ K Q) s) : EV P m (.seq x y) Q s := by
  intro B w0 E0 L0 a w hm R
  refine wp_seq (wp_mono (h (fun s => EV P m y Q s) (fun _ h => h) B w0 E0 L0 a w hm R) fun e a' w' hq => ?_)
  obtain ⟨s', hq, R'⟩ := hq
  cases e with
  | normal => exact hq B w0 E0 L0 a' w' hm R'
  | exit id => exact ⟨s', hq, R'⟩
  | goto l => exact ⟨s', hq, R'⟩
  | ret => exact ⟨s', hq, R'⟩
  | panic c => exact ⟨s', hq, R'⟩
  | outgrown => exact ⟨s', hq, R'⟩
theorem ev_block {id : Nat} {c : Code} {Q : Exit → St → Prop} (h : EV P m c (blockQ id Q) s) : EV P m (.block id c) Q s := by
  intro B w0 E0 L0 a w hm R
  refine wp_block (wp_mono (h B w0 E0 L0 a w hm R) fun e a' w' hq => ?_)
  obtain ⟨s', hq, R'⟩ := hq
  cases e with
  | exit id' =>
    simp only [Exit.inBlock, blockQ] at hq ⊢
    split
    · rename_i e; rw [if_pos e] at hq; exact ⟨s', hq, R'⟩
    · rename_i e; rw [if_neg e] at hq; exact ⟨s', hq, R'⟩
  | normal => exact ⟨s', hq, R'⟩
  | goto l => exact ⟨s', hq, R'⟩
  | ret => exact ⟨s', hq, R'⟩
  | panic c => exact ⟨s', hq, R'⟩
  | outgrown => exact ⟨s', hq, R'⟩
theorem ev_skip {Q : Exit → St → Prop} (h : Q .normal s) : EV P m .skip Q s := fun _ _ _ _ _ _ _ R => wp_skip ⟨s, h, R⟩
theorem ev_exit {id : Nat} {Q : Exit → St → Prop} (h : Q (.exit id) s) : EV P m (.exit id) Q s := fun _ _ _ _ _ _ _ R => wp_exit ⟨s, h, R⟩
theorem ev_ret {Q : Exit → St → Prop} (h : Q .ret s) : EV P m .ret Q s := fun _ _ _ _ _ _ _ R => wp_ret ⟨s, h, R⟩
def condQ (x : V) (p q : Prop) : Prop :=
  match unc x with
  | .bool b => unc1 true x ∧ (b = true → p) ∧ (b = false → q)
  | _ => False
theorem ev_cond {c : Operand} {x y : Code} {Q : Exit → St → Prop} (h : condQ (s.rd c) (EV P m x Q s) (EV P m y Q s)) : EV P m (.cond c x y) Q s := by
  rintro B w0 E0 L0 a w hm ⟨E, L, R⟩
  unfold condQ at h
  split at h
  · rename_i b hc
    obtain ⟨h0, h1, h2⟩ := h
    have hi := unc_is (rd_is R c) h0
    rw [hc] at hi
    unfold V.Is at hi
    cases b
    · exact wp_cond_false hi (h2 rfl B w0 E0 L0 a w hm ⟨E, L, R⟩)
    · exact wp_cond_true hi (h1 rfl B w0 E0 L0 a w hm ⟨E, L, R⟩)
  · exact h.elim
end
mutual
def V.under (n : Nat) : V → Prop
  | .own id _ _ _ => id < n
  | .rs id _ _ _ => id < n
  | .mp id => id < n
  | .fn _ caps => unders n caps
  | .agg cs => unders n cs
  | .tup xs => unders n xs
  | .cnd b x => b = true → V.under n x
  | _ => True
def unders (n : Nat) : List V → Prop
  | [] => True
  | x :: r => V.under n x ∧ unders n r
end
def rowsUnder (n : Nat) : List (List V) → Prop
  | [] => True
  | r :: rs => unders n r ∧ rowsUnder n rs
theorem rowsUnder_iff {n : Nat} : ∀ {rows : List (List V)}, rowsUnder n rows ↔ ∀ r ∈ rows, unders n r
  | [] => by simp [rowsUnder]
  | r :: rs => by simp [rowsUnder, rowsUnder_iff (rows := rs)]
theorem unders_mem {n : Nat} : ∀ {l : List V}, unders n l → ∀ c ∈ l, c.under n
  | [], _, c, hc => by cases hc
  | x :: r, h, c, hc => by
    unfold unders at h
    rcases List.mem_cons.1 hc with rfl | hc
    · exact h.1
    · exact unders_mem h.2 c hc
def fitO (n : Nat) : Own → Own → Prop
  | _, .gone => True
  | .free, .free => True
  | .blk ty v sz rows, .blk ty' v' sz' rows' => ty' = ty ∧ v' = v ∧ sz' = sz ∧ rows' = rows ∧ rowsUnder n rows'
  | .froz ty v sz rows, .froz ty' v' sz' rows' => ty' = ty ∧ v' = v ∧ sz' = sz ∧ rows' = rows
  | .mp φ, .mp ψ => ψ = φ
  | _, _ => False
def fitOs (n : Nat) : List Own → List Own → Prop
  | _, [] => True
  | x :: xs, y :: ys => fitO n x y ∧ fitOs n xs ys
  | [], _ :: _ => False
def fitT (n : Nat) (a : List (Nat × V)) : List (Nat × V) → Prop
  | [] => True
  | p :: r => lk a p.1 = p.2 ∧ p.2.under n ∧ fitT n a r
def fits (m : Nat) (s t : St) : Prop := t.n = s.n ∧ m ≤ t.ow.length ∧ fitT t.ow.length s.tm t.tm ∧ fitOs t.ow.length s.ow t.ow
theorem fitOs_get {n : Nat} : ∀ {a b : List Own}, fitOs n a b → b.length ≤ a.length ∧ ∀ (i : Nat) (y : Own), b[i]? = some y → ∃ x, a[i]? = some x ∧ fitO n x y
  | a, [], _ => ⟨Nat.zero_le _, fun i y h => by simp at h⟩
  | [], _ :: _, h => by unfold fitOs at h; exact h.elim
  | x :: xs, y :: ys, h => by
    unfold fitOs at h
    obtain ⟨h1, h2⟩ := fitOs_get h.2
    refine ⟨by simpa using h1, fun i z hz => ?_⟩
    cases i with
    | zero => simp only [List.getElem?_cons_zero, Option.some.injEq] at hz; subst hz; exact ⟨x, rfl, h.1⟩
    | succ i => simp only [List.getElem?_cons_succ] at hz; obtain ⟨w, hw, hf⟩ := h2 i z hz; exact ⟨w, by simpa using hw, hf⟩
theorem fitT_get {n : Nat} {a : List (Nat × V)} : ∀ {b : List (Nat × V)}, fitT n a b → ∀ k, lk b k = .un ∨ (lk b k = lk a k ∧ (lk b k).under n)
  | [], _, k => .inl (by unfold lk; rfl)
  | (j, v) :: r, h, k => by
    unfold fitT at h
    unfold lk
    by_cases e : j = k
    · subst e
      simp only [if_true]
      have h1 := h.1
      simp only at h1
      exact .inr ⟨by rw [← h1]; cases a <;> rfl, h.2.1⟩
    · simp only [e, if_false]
      rcases fitT_get h.2.2 k with h1 | ⟨h1, h2⟩
      · exact .inl h1
      · exact .inr ⟨by rw [h1]; cases a <;> rfl, h2⟩
section
variable {E : Ext} {L : List Loc}
theorem take_loc {n id : Nat} (h : id < n) : (L.take n)[id]? = L[id]? := by rw [List.getElem?_take, if_pos h]
mutual
theorem is_take {n : Nat} : ∀ {x : V} {u : Value}, x.Is E L u → x.under n → x.Is E (L.take n) u
  | .bool _, _, hh, _ => by unfold V.Is at hh ⊢; exact hh
  | .int _ _, _, hh, _ => by unfold V.Is at hh ⊢; exact hh
  | .str _, _, hh, _ => by unfold V.Is at hh ⊢; exact hh
  | .nilp, _, hh, _ => by unfold V.Is at hh ⊢; exact hh
  | .nilf, _, hh, _ => by unfold V.Is at hh ⊢; exact hh
  | .emp, _, hh, _ => by unfold V.Is at hh ⊢; exact hh
  | .sl rows, _, hh, _ => by unfold V.Is at hh ⊢; exact hh
  | .pi _ _, _, hh, _ => by unfold V.Is at hh ⊢; exact hh
  | .own _ _ _ _, _, hh, hu => by unfold V.Is at hh ⊢; unfold V.under at hu; rw [take_loc hu]; exact hh
  | .rs _ _ _ _, _, hh, hu => by unfold V.Is at hh ⊢; unfold V.under at hu; rw [take_loc hu]; exact hh
  | .mp _, _, hh, hu => by unfold V.Is at hh ⊢; unfold V.under at hu; rw [take_loc hu]; exact hh
  | .fn _ _, _, hh, hu => by unfold V.Is at hh ⊢; unfold V.under at hu; obtain ⟨vs, e, hv⟩ := hh; exact ⟨vs, e, isAll_take hv hu⟩
  | .agg _, _, hh, hu => by unfold V.Is at hh ⊢; unfold V.under at hu; obtain ⟨vs, e, hv⟩ := hh; exact ⟨vs, e, isOnes_take hv hu⟩
  | .tup _, _, hh, hu => by unfold V.Is at hh ⊢; unfold V.under at hu; obtain ⟨vs, e, hv⟩ := hh; exact ⟨vs, e, isAll_take hv hu⟩
  | .cnd _ _, _, hh, hu => by unfold V.Is at hh ⊢; unfold V.under at hu; exact ⟨fun hb => is_take (hh.1 hb) (hu hb), hh.2⟩
  | .un, _, _, _ => by unfold V.Is; trivial
theorem isAll_take {n : Nat} : ∀ {xs : List V} {vs : List Value}, IsAll E L xs vs → unders n xs → IsAll E (L.take n) xs vs
  | [], _, hh, _ => by unfold IsAll at hh ⊢; exact hh
  | _ :: _, _, hh, hu => by unfold IsAll at hh ⊢; unfold unders at hu; obtain ⟨v, r, e, hx, hr⟩ := hh; exact ⟨v, r, e, is_take hx hu.1, isAll_take hr hu.2⟩
theorem isOnes_take {n : Nat} : ∀ {xs : List V} {vs : List Value}, IsOnes E L xs vs → unders n xs → IsOnes E (L.take n) xs vs
  | [], _, hh, _ => by unfold IsOnes at hh ⊢; exact hh
  | _ :: _, _, hh, hu => by unfold IsOnes at hh ⊢; unfold unders at hu; obtain ⟨v, r, e, h1, hx, hr⟩ := hh; exact ⟨v, r, e, h1, is_take hx hu.1, isOnes_take hr hu.2⟩
end
end
section
variable {E : Ext} {L : List Loc}
theorem ptrOk_lt {id ver k off : Nat} {u : Value} (h : Loc.ptrOk ver k off u L[id]?) : id < L.length := by
  rcases Nat.lt_or_ge id L.length with hl | hl
  · exact hl
  · rw [List.getElem?_eq_none hl] at h; exact h.elim
theorem slOk_lt {id ver lo hi : Nat} {u : Value} (h : Loc.slOk ver lo hi u L[id]?) : id < L.length := by
  rcases Nat.lt_or_ge id L.length with hl | hl
  · exact hl
  · rw [List.getElem?_eq_none hl] at h; exact h.elim
theorem mpOk_lt {id : Nat} {u : Value} (h : Loc.mpOk u L[id]?) : id < L.length := by
  rcases Nat.lt_or_ge id L.length with hl | hl
  · exact hl
  · rw [List.getElem?_eq_none hl] at h; exact h.elim
mutual
theorem is_under : ∀ {x : V} {u : Value}, x.Is E L u → x.under L.length
  | .bool _, _, _ => by unfold V.under; trivial
  | .int _ _, _, _ => by unfold V.under; trivial
  | .str _, _, _ => by unfold V.under; trivial
  | .nilp, _, _ => by unfold V.under; trivial
  | .nilf, _, _ => by unfold V.under; trivial
  | .emp, _, _ => by unfold V.under; trivial
  | .sl _, _, _ => by unfold V.under; trivial
  | .pi _ _, _, _ => by unfold V.under; trivial
  | .own _ _ _ _, _, h => by unfold V.Is at h; unfold V.under; exact ptrOk_lt h
  | .rs _ _ _ _, _, h => by unfold V.Is at h; unfold V.under; exact slOk_lt h
  | .mp _, _, h => by unfold V.Is at h; unfold V.under; exact mpOk_lt h
  | .fn _ _, _, h => by unfold V.Is at h; unfold V.under; obtain ⟨vs, _, hv⟩ := h; exact isAll_under hv
  | .agg _, _, h => by unfold V.Is at h; unfold V.under; obtain ⟨vs, _, hv⟩ := h; exact isOnes_under hv
  | .tup _, _, h => by unfold V.Is at h; unfold V.under; obtain ⟨vs, _, hv⟩ := h; exact isAll_under hv
  | .cnd _ _, _, h => by unfold V.Is at h; unfold V.under; exact fun hb => is_under (h.1 hb)
  | .un, _, _ => by unfold V.under; trivial
theorem isAll_under : ∀ {xs : List V} {vs : List Value}, IsAll E L xs vs → unders L.length xs
  | [], _, _ => by unfold unders; trivial
  | _ :: _, _, h => by unfold IsAll at h; unfold unders; obtain ⟨v, r, _, hx, hr⟩ := h; exact ⟨is_under hx, isAll_under hr⟩
theorem isOnes_under : ∀ {xs : List V} {vs : List Value}, IsOnes E L xs vs → unders L.length xs
  | [], _, _ => by unfold unders; trivial
  | _ :: _, _, h => by unfold IsOnes at h; unfold unders; obtain ⟨v, r, _, _, hx, hr⟩ := h; exact ⟨is_under hx, isOnes_under hr⟩
end
theorem unders_of {n : Nat} : ∀ {xs : List V}, (∀ (j : Nat) (c : V), xs[j]? = some c → c.under n) → unders n xs
  | [], _ => by unfold unders; trivial
  | x :: r, h => by unfold unders; exact ⟨h 0 x rfl, unders_of fun j c hc => h (j + 1) c hc⟩
def ownUnder (n : Nat) : Own → Prop
  | .blk _ _ _ rows => rowsUnder n rows
  | _ => True
theorem own_under {B : Nat} {w : World} {o : Own} {l : Loc} (h : o.Ok B E L w l) : ownUnder L.length o := by
  cases o with
  | blk ty ver sz rows =>
    cases l with
    | free => exact h.elim
    | nil v => obtain ⟨_, rfl, _⟩ := h; exact trivial
    | lies v g sz' cap =>
      obtain ⟨h1, h2, h3, h4, h5, h6, h7, h8, cur, h9, h10, h11⟩ := h
      refine rowsUnder_iff.2 fun row hrow => ?_
      obtain ⟨k, hk, rfl⟩ := List.mem_iff_getElem.1 hrow
      refine unders_of fun j c hj => ?_
      obtain ⟨_, x, _, hi⟩ := (h11 k _ (List.getElem?_eq_getElem hk)).2 j c hj
      exact is_under hi
  | free => trivial
  | gone => trivial
  | froz _ _ _ _ => trivial
  | mp _ => trivial
theorem fitO_refl {n : Nat} {o : Own} (h : ownUnder n o) : fitO n o o := by
  cases o with
  | blk ty ver sz rows => exact ⟨rfl, rfl, rfl, rfl, h⟩
  | free => trivial
  | gone => trivial
  | froz _ _ _ _ => exact ⟨rfl, rfl, rfl, rfl⟩
  | mp _ => rfl
theorem fitOs_refl {n : Nat} : ∀ {F : List Own} (extra : List Own), (∀ o ∈ F, ownUnder n o) → fitOs n (F ++ extra) F
  | [], _, _ => by unfold fitOs; trivial
  | x :: xs, extra, h => by
    rw [List.cons_append]
    unfold fitOs
    exact ⟨fitO_refl (h x (List.mem_cons_self ..)), fitOs_refl extra fun o ho => h o (List.mem_cons_of_mem _ ho)⟩
end
section
variable {P : Program} {B : Nat} {w0 : World} {E0 E : Ext} {L0 L : List Loc} {s : St} {a : Act} {w : World} {m : Nat}
theorem RepE.weak (R : RepE B w0 E0 E L0 L s a w) {t : St} (hm : L0.length ≤ m) (h : fits m s t) : RepE B w0 E0 E L0 (L.take t.ow.length) t a w := by
  obtain ⟨hn, hml, hT, hO⟩ := h
  obtain ⟨hl, hg⟩ := fitOs_get hO
  have lget : ∀ {k : Nat} {l : Loc}, (L.take t.ow.length)[k]? = some l → k < t.ow.length ∧ L[k]? = some l := by
    intro k l h
    rw [List.getElem?_take] at h
    split at h
    · rename_i hk; exact ⟨hk, h⟩
    · cases h
  have atEq : ∀ {x y : Own} {n g : Nat} {l : Loc}, fitO n x y → y.at? l = some g → x.at? l = some g := by
    intro x y n g l hf hy
    cases x <;> cases y <;> cases l <;> simp_all [fitO, Own.at?]
  refine { defers := R.defers, le := R.le, low := R.low, inn := R.inn, below := R.below, drawn := R.drawn, base := R.base, lto := ?_, len := ?_, size := R.size.trans hn.symm, tmps := fun k => ?_, owns := fun id y l hy hyl => ?_, apart := fun i j oi oj li lj g hij hi hli hj hlj hgi hgj => ?_ }
  · intro k l hk
    obtain ⟨l', h1, h2⟩ := R.lto k l hk
    exact ⟨l', by rw [List.getElem?_take, if_pos (by have := get_lt hk; omega)]; exact h1, h2⟩
  · rw [List.length_take, R.len]; omega
  · rcases fitT_get hT k with h1 | ⟨h1, h2⟩
    · rw [h1]; unfold V.Is; trivial
    · refine is_take ?_ h2
      rw [h1]; exact R.tmps k
  · obtain ⟨x, hx, hf⟩ := hg id y hy
    obtain ⟨hlt, hl'⟩ := lget hyl
    have hok := R.owns id x l hx hl'
    cases y with
    | gone => trivial
    | free => cases x <;> simp only [fitO] at hf <;> first | exact hf.elim | exact hok
    | mp ψ =>
      cases x <;> simp only [fitO] at hf <;> first | exact hf.elim | skip
      subst hf
      cases l <;> exact hok
    | froz ty v sz rows =>
      cases x <;> simp only [fitO] at hf <;> first | exact hf.elim | skip
      obtain ⟨rfl, rfl, rfl, rfl⟩ := hf
      cases l <;> exact hok
    | blk ty v sz rows =>
      cases x <;> simp only [fitO] at hf <;> first | exact hf.elim | skip
      obtain ⟨rfl, rfl, rfl, rfl, hu⟩ := hf
      cases l with
      | free => exact hok
      | nil _ => exact hok
      | lies v' g sz' cap =>
        obtain ⟨h1, h2, h3, h4, h5, h6, h7, h8, cur, h9, h10, h11⟩ := hok
        refine ⟨h1, h2, h3, h4, h5, h6, h7, h8, cur, h9, h10, fun k row hk => ?_⟩
        obtain ⟨k1, k2⟩ := h11 k row hk
        refine ⟨k1, fun j c hj => ?_⟩
        obtain ⟨k3, x, k4, k5⟩ := k2 j c hj
        exact ⟨k3, x, k4, is_take k5 (unders_mem (rowsUnder_iff.1 hu row (List.mem_of_getElem? hk)) c (List.mem_of_getElem? hj))⟩
  · obtain ⟨x, hx, hf⟩ := hg i oi hi
    obtain ⟨y, hy, hf'⟩ := hg j oj hj
    exact R.apart i j x y li lj g hij hx (lget hli).2 hy (lget hlj).2 (atEq hf hgi) (atEq hf' hgj)
theorem ev_loop {σ : Type} (I : σ → Prop) (S : σ → St) (μ : σ → Nat) (x0 : σ) {c : Code} {Q : Exit → St → Prop} (h0 : I x0) (hf : fits m s (S x0))
    (round : ∀ x, I x → EV P m c (thenQ (fun s' => ∃ x', I x' ∧ fits m s' (S x') ∧ μ x' < μ x) Q) (S x)) : EV P m (.loop c) Q s := by
  rintro B w0 E0 L0 a w hm ⟨E, L, R⟩
  refine wp_loop_ghost (fun n a w => ∃ x, I x ∧ μ x = n ∧ Rep B w0 E0 L0 (S x) a w) (μ x0) ⟨x0, h0, rfl, E, _, R.weak hm hf⟩ ?_
  rintro n a w ⟨x, hIx, rfl, hRx⟩
  refine wp_mono (round x hIx B w0 E0 L0 a w hm hRx) fun e a' w' hq => ?_
  obtain ⟨s', hq, E', L', R'⟩ := hq
  cases e with
  | normal =>
    obtain ⟨x', hI', hf', hlt⟩ := hq
    exact ⟨μ x', hlt, x', hI', rfl, E', _, R'.weak hm hf'⟩
  | exit id => exact ⟨s', hq, E', L', R'⟩
  | goto l => exact ⟨s', hq, E', L', R'⟩
  | ret => exact ⟨s', hq, E', L', R'⟩
  | panic c => exact ⟨s', hq, E', L', R'⟩
  | outgrown => exact ⟨s', hq, E', L', R'⟩
def evRounds (P : Program) (m : Nat) (c : Code) (Q : Exit → St → Prop) : Nat → St → Prop
  | 0, _ => False
  | n + 1, s => EV P m c (thenQ (evRounds P m c Q n) Q) s
theorem RepE.more (R : RepE B w0 E0 E L0 L s a w) {ty : TypeId} {sz : Nat} (h0 : 0 < sz) : RepE B w0 E0 E L0 (L ++ [.nil 0]) ⟨s.n, s.tm, s.ow ++ [.blk ty 0 sz []]⟩ a w := by
  have hto : Locs.to L (L ++ [.nil 0]) := fun k x h => ⟨x, by rw [List.getElem?_append_left (get_lt h)]; exact h, Loc.to_refl x⟩
  have hget : ∀ {k : Nat} {oo : Own} {ll : Loc}, (s.ow ++ [.blk ty 0 sz []])[k]? = some oo → (L ++ [.nil 0])[k]? = some ll → (s.ow[k]? = some oo ∧ L[k]? = some ll) ∨ (oo = .blk ty 0 sz [] ∧ ll = .nil 0) := by
    intro k oo ll h1 h2
    rcases Nat.lt_or_ge k s.ow.length with hk | hk
    · rw [List.getElem?_append_left hk] at h1
      rw [List.getElem?_append_left (by rw [R.len]; exact hk)] at h2
      exact .inl ⟨h1, h2⟩
    · rw [List.getElem?_append_right hk] at h1
      rw [List.getElem?_append_right (by rw [R.len]; exact hk)] at h2
      exact .inr ⟨by simpa using List.mem_of_getElem? h1, by simpa using List.mem_of_getElem? h2⟩
  refine R.upd E.le_refl (fun _ _ => rfl) R.inn (Below.refl B w) hto (by simp [R.len]) (fun k oo ll h1 h2 => ?_) (fun i j oi oj li lj g hij hi hli hj hlj hgi hgj => ?_)
  · rcases hget h1 h2 with ⟨h1, h2⟩ | ⟨rfl, rfl⟩
    · exact (R.owns k oo ll h1 h2).keep E.le_refl hto (fun _ _ => ⟨rfl, fun h => h⟩)
    · exact ⟨rfl, rfl, h0⟩
  · rcases hget hi hli with ⟨hi, hli⟩ | ⟨rfl, rfl⟩
    · rcases hget hj hlj with ⟨hj, hlj⟩ | ⟨rfl, rfl⟩
      · exact R.apart i j oi oj li lj g hij hi hli hj hlj hgi hgj
      · cases hgj
    · cases hgi
theorem ev_adopt {c : Code} {Q : Exit → St → Prop} (t : Nat) (ty : TypeId) (sz : Nat) (h0 : 0 < sz) (ht : lk s.tm t = .emp) (h : EV P m c Q ⟨s.n, (t, .rs s.ow.length 0 0 0) :: s.tm, s.ow ++ [.blk ty 0 sz []]⟩) : EV P m c Q s := by
  rintro B w0 E0 L0 a w hm ⟨E, L, R⟩
  have R' := R.more (ty := ty) h0
  refine h B w0 E0 L0 a w hm ⟨E, _, { R' with size := R'.size, tmps := fun k => ?_, owns := R'.owns, apart := R'.apart, len := R'.len }⟩
  show (lk ((t, .rs s.ow.length 0 0 0) :: s.tm) k).Is E _ _
  unfold lk
  by_cases e : t = k
  · subst e
    rw [if_pos rfl]
    have := R.tmps t
    rw [ht] at this
    unfold V.Is at this
    obtain ⟨A, hA⟩ := this
    rw [hA]
    exact nil_sl (by rw [List.getElem?_append_right (by rw [R.len]; exact Nat.le_refl _), R.len]; simp) A
  · rw [if_neg e]
    have hk := R'.tmps k
    have e2 : lk (St.mk s.n s.tm (s.ow ++ [.blk ty 0 sz []])).tm k = lk s.tm k := rfl
    rw [e2] at hk
    cases hs : s.tm <;> (rw [hs] at hk; exact hk)
end
mutual
def vmap (g : V → Option V) : V → Option V
  | .own id ver k off => g (.own id ver k off)
  | .rs id ver lo hi => g (.rs id ver lo hi)
  | .mp id => g (.mp id)
  | .agg cs => (vmaps g cs).map .agg
  | .fn f caps => (vmaps g caps).map (.fn f)
  | .tup _ => none
  | .cnd _ _ => none
  | .un => none
  | .bool b => some (.bool b)
  | .int k n => some (.int k n)
  | .str s => some (.str s)
  | .nilp => some .nilp
  | .nilf => some .nilf
  | .emp => some .emp
  | .sl rows => some (.sl rows)
  | .pi cs off => some (.pi cs off)
def vmaps (g : V → Option V) : List V → Option (List V)
  | [] => some []
  | x :: r => match vmap g x, vmaps g r with | some d, some ds => some (d :: ds) | _, _ => none
end
def vrows (g : V → Option V) : List (List V) → Option (List (List V))
  | [] => some []
  | x :: r => match vmaps g x, vrows g r with | some d, some ds => some (d :: ds) | _, _ => none
def dv : Nat → List Own → V → Option V
  | 0, _ => vmap fun _ => none
  | n + 1, ow => vmap fun x => match x with
    | .own id ver k off => match ow[id]? with
      | some (.blk _ v _ rows) => if v = ver then (match rows[k]? with | some row => (vmaps (dv n ow) row).map fun cs => .pi cs off | none => none) else none
      | some (.froz _ v _ rows) => if v = ver then (rows[k]?).map fun cs => .pi cs off else none
      | _ => none
    | .rs id ver lo hi => match ow[id]? with
      | some (.blk _ v _ rows) => if v = ver ∧ hi ≤ rows.length then (vrows (dv n ow) ((rows.drop lo).take (hi - lo))).map .sl else none
      | some (.froz _ v _ rows) => if v = ver ∧ hi ≤ rows.length then some (.sl ((rows.drop lo).take (hi - lo))) else none
      | _ => none
    | _ => none
def fv (ow : List Own) : V → Option V := vmap fun x => match x with
    | .own id ver k off => match ow[id]? with
      | some (.froz _ v _ rows) => if v = ver then (rows[k]?).map fun cs => .pi cs off else none
      | _ => none
    | .rs id ver lo hi => match ow[id]? with
      | some (.froz _ v _ rows) => if v = ver ∧ hi ≤ rows.length then some (.sl ((rows.drop lo).take (hi - lo))) else none
      | _ => none
    | _ => none
mutual
def V.flat : V → Bool
  | .own _ _ _ _ => false
  | .rs _ _ _ _ => false
  | .mp _ => false
  | .sl _ => false
  | .pi _ _ => false
  | .un => false
  | .cnd _ _ => false
  | .agg cs => flats cs
  | .tup xs => flats xs
  | .fn _ caps => flats caps
  | _ => true
def flats : List V → Bool
  | [] => true
  | x :: r => x.flat && flats r
end
def flatRows : List (List V) → Bool
  | [] => true
  | x :: r => flats x && flatRows r
section
variable {E E' : Ext} {L L' : List Loc}
mutual
theorem flat_is : ∀ {x : V} {u : Value}, x.flat = true → x.Is E L u → x.Is E' L' u
  | .bool _, _, _, hh => by unfold V.Is at hh ⊢; exact hh
  | .int _ _, _, _, hh => by unfold V.Is at hh ⊢; exact hh
  | .str _, _, _, hh => by unfold V.Is at hh ⊢; exact hh
  | .nilp, _, _, hh => by unfold V.Is at hh ⊢; exact hh
  | .nilf, _, _, hh => by unfold V.Is at hh ⊢; exact hh
  | .emp, _, _, hh => by unfold V.Is at hh ⊢; exact hh
  | .sl _, _, h, _ => by unfold V.flat at h; cases h
  | .pi _ _, _, h, _ => by unfold V.flat at h; cases h
  | .own _ _ _ _, _, h, _ => by unfold V.flat at h; cases h
  | .rs _ _ _ _, _, h, _ => by unfold V.flat at h; cases h
  | .mp _, _, h, _ => by unfold V.flat at h; cases h
  | .fn _ _, _, h, hh => by unfold V.flat at h; unfold V.Is at hh ⊢; obtain ⟨vs, e, hv⟩ := hh; exact ⟨vs, e, flats_is h hv⟩
  | .agg _, _, h, hh => by unfold V.flat at h; unfold V.Is at hh ⊢; obtain ⟨vs, e, hv⟩ := hh; exact ⟨vs, e, flatOnes_is h hv⟩
  | .tup _, _, h, hh => by unfold V.flat at h; unfold V.Is at hh ⊢; obtain ⟨vs, e, hv⟩ := hh; exact ⟨vs, e, flats_is h hv⟩
  | .cnd _ _, _, h, _ => by unfold V.flat at h; cases h
  | .un, _, h, _ => by unfold V.flat at h; cases h
theorem flats_is : ∀ {xs : List V} {vs : List Value}, flats xs = true → IsAll E L xs vs → IsAll E' L' xs vs
  | [], _, _, hh => by unfold IsAll at hh ⊢; exact hh
  | _ :: _, _, h, hh => by
    unfold flats at h
    rw [Bool.and_eq_true] at h
    unfold IsAll at hh ⊢; obtain ⟨v, r, e, hx, hr⟩ := hh; exact ⟨v, r, e, flat_is h.1 hx, flats_is h.2 hr⟩
theorem flatOnes_is : ∀ {xs : List V} {vs : List Value}, flats xs = true → IsOnes E L xs vs → IsOnes E' L' xs vs
  | [], _, _, hh => by unfold IsOnes at hh ⊢; exact hh
  | _ :: _, _, h, hh => by
    unfold flats at h
    rw [Bool.and_eq_true] at h
    unfold IsOnes at hh ⊢; obtain ⟨v, r, e, h1, hx, hr⟩ := hh; exact ⟨v, r, e, h1, flat_is h.1 hx, flatOnes_is h.2 hr⟩
end
def V.lit : V → Bool
  | .bool _ => true
  | .int _ _ => true
  | .str _ => true
  | .nilp => true
  | .nilf => true
  | .emp => true
  | .sl _ => true
  | .pi _ _ => true
  | _ => false
def lits : List V → Bool
  | [] => true
  | x :: r => x.lit && lits r
def litRows : List (List V) → Bool
  | [] => true
  | x :: r => lits x && litRows r
theorem litRows_map {α : Type} {f : α → List V} (h : ∀ x, lits (f x) = true) : ∀ l : List α, litRows (l.map f) = true
  | [] => rfl
  | x :: r => by rw [List.map_cons, litRows, h x, litRows_map h r]; rfl
theorem vmap_lit (g : V → Option V) : ∀ {x : V}, x.lit = true → vmap g x = some x
  | .bool _, _ => by unfold vmap; rfl
  | .int _ _, _ => by unfold vmap; rfl
  | .str _, _ => by unfold vmap; rfl
  | .nilp, _ => by unfold vmap; rfl
  | .nilf, _ => by unfold vmap; rfl
  | .emp, _ => by unfold vmap; rfl
  | .sl _, _ => by unfold vmap; rfl
  | .pi _ _, _ => by unfold vmap; rfl
theorem vmaps_lit (g : V → Option V) : ∀ {xs : List V}, lits xs = true → vmaps g xs = some xs
  | [], _ => by unfold vmaps; rfl
  | x :: r, h => by
    unfold lits at h
    rw [Bool.and_eq_true] at h
    unfold vmaps
    rw [vmap_lit g h.1, vmaps_lit g h.2]
theorem vrows_lit (g : V → Option V) : ∀ {rows : List (List V)}, litRows rows = true → vrows g rows = some rows
  | [], _ => by unfold vrows; rfl
  | x :: r, h => by
    unfold litRows at h
    rw [Bool.and_eq_true] at h
    unfold vrows
    rw [vmaps_lit g h.1, vrows_lit g h.2]
theorem under_lit (n : Nat) : ∀ {x : V}, x.lit = true → x.under n
  | .bool _, _ => by unfold V.under; trivial
  | .int _ _, _ => by unfold V.under; trivial
  | .str _, _ => by unfold V.under; trivial
  | .nilp, _ => by unfold V.under; trivial
  | .nilf, _ => by unfold V.under; trivial
  | .emp, _ => by unfold V.under; trivial
  | .sl _, _ => by unfold V.under; trivial
  | .pi _ _, _ => by unfold V.under; trivial
theorem unders_lit (n : Nat) : ∀ {xs : List V}, lits xs = true → unders n xs
  | [], _ => by unfold unders; trivial
  | x :: r, h => by
    unfold lits at h
    rw [Bool.and_eq_true] at h
    unfold unders
    exact ⟨under_lit n h.1, unders_lit n h.2⟩
theorem rowsUnder_lit (n : Nat) : ∀ {rows : List (List V)}, litRows rows = true → rowsUnder n rows
  | [], _ => by unfold rowsUnder; trivial
  | x :: r, h => by
    unfold litRows at h
    rw [Bool.and_eq_true] at h
    unfold rowsUnder
    exact ⟨unders_lit n h.1, rowsUnder_lit n h.2⟩
end
end Go.K

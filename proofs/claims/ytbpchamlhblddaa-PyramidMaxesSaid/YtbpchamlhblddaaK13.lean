/-
  A SECOND ENGINE, PART 13: contracts of functions with an effect; one evaluation of the operations up to the next call; tables.
-/
import Derived.Test.YtbpchamlhblddaaK12
set_option linter.all false
namespace Go.K
open Go Go.RowKit
section
variable {P : Program} {B : Nat} {w0 : World} {E0 E E' : Ext} {L0 L L' : List Loc} {s t : St} {a a' : Act} {w w' : World} {m : Nat}

theorem RepE.back (R : RepE B w0 E0 E L0 L s a w) (R' : RepE B w0 E E' L L' t a' w') : RepE B w0 E0 E' L0 L' ⟨s.n, s.tm, t.ow⟩ a w' :=
  { defers := R.defers, le := Ext.le_trans R.le R'.le, low := fun b hb => (R'.low b hb).trans (R.low b hb), inn := R'.inn, below := R'.below, base := R'.base
    lto := Locs.to_trans R.lto R'.lto, len := R'.len, size := R.size, tmps := fun k => (R.tmps k).mono R'.le R'.lto, owns := R'.owns, apart := R'.apart }

def upds (n : Nat) : List (Nat × Own) → Prop
  | [] => True
  | p :: r => ownUnder n p.2 ∧ upds n r
theorem upds_mem {n : Nat} : ∀ {l : List (Nat × Own)}, upds n l → ∀ p ∈ l, ownUnder n p.2
  | [], _, p, h => by cases h
  | q :: r, hu, p, h => by
    rcases List.mem_cons.1 h with rfl | h
    · exact hu.1
    · exact upds_mem hu.2 p h
/-- The post of a body with an effect: the caller's things are X, the result r. -/
def bodyR (tt : TT) (rs : List ResultVar) (n : Nat) (r : V) (X : List Own) : Exit → St → Prop
  | .normal, s => resPre tt s rs ∧ resTup (resAll tt s rs) = r ∧ unders n (resAll tt s rs) ∧ ∃ extra, s.ow = X ++ extra
  | .ret, s => resPre tt s rs ∧ resTup (resAll tt s rs) = r ∧ unders n (resAll tt s rs) ∧ ∃ extra, s.ow = X ++ extra
  | _, _ => False

theorem app_len : ∀ {l : List (Nat × Own)} {a : List Own}, (app a l).length = a.length
  | [], a => rfl
  | (j, o) :: r, a => by unfold app; rw [app_len]; simp
theorem app_mem : ∀ {l : List (Nat × Own)} {a : List Own} {o : Own}, o ∈ app a l → o ∈ a ∨ ∃ p ∈ l, p.2 = o
  | [], a, o, h => .inl h
  | (j, q) :: r, a, o, h => by
    unfold app at h
    rcases app_mem h with h | ⟨p, hp, e⟩
    · rcases List.mem_or_eq_of_mem_set h with h | h
      · exact .inl h
      · exact .inr ⟨(j, q), List.mem_cons_self .., h.symm⟩
    · exact .inr ⟨p, List.mem_cons_of_mem _ hp, e⟩

theorem run_of_ev {tt : TT} (ht : tt.Ok P) {f : FuncId} {fn : Func} {c : Code} (hf : P.funcs[f]? = some fn) (hb : fn.body = some c) (hn : (fn.name == "runtime.NumGoroutine") = false) {args : List V} {fp : List Nat} {ow : List Own} {r : V} {upd : List (Nat × Own)}
    (hl : args.length ≤ fn.ntmps) (hk : ∀ p ∈ upd, p.1 ∈ fp) (h : ∀ F, agree fp ow F → upds F.length upd ∧ EV P F.length c (bodyR tt fn.results.toList F.length r (app F upd)) ⟨fn.ntmps, number 0 args, F⟩) : Run P f args fp ow r upd := by
  refine ⟨enters_of hf hb hn, hk, fun F hF B w0 E0 E L0 L n tm a w vs R hargs => ?_⟩
  refine calls_of_wp hf hb ?_
  have hlen : L.length = F.length := R.len
  have R1 := RepE.start (s := ⟨n, tm, F⟩) R.inn R.below R.base R.len R.owns R.apart hargs hl
  obtain ⟨hund, hev⟩ := h F hF
  refine wp_mono (hev _ _ _ L _ _ (Nat.le_of_eq hlen) ⟨E, L, R1⟩) fun e a' w' hq => ?_
  obtain ⟨s', hq, E', L', R'⟩ := hq
  have fin : (resPre tt s' fn.results.toList ∧ resTup (resAll tt s' fn.results.toList) = r ∧ unders F.length (resAll tt s' fn.results.toList) ∧ ∃ extra, s'.ow = app F upd ++ extra) →
      a'.defers = [] ∧ ∃ v, (results fn a'.tmps).run P w' = .ok v w' ∧ ∃ v' E' L', (Ending.returned v = .returned v') ∧ RepE B w0 E0 E' L0 L' ⟨n, tm, app F upd⟩ a w' ∧ r.Is E' L' v' := by
    rintro ⟨hp, hr, hu, extra, hex⟩
    obtain ⟨vs', hv, hall⟩ := res_run ht R' _ hp
    have hv' : (fn.results.mapM (resSem a'.tmps)).run P w' = .ok vs'.toArray w' := by
      rw [Array.mapM_eq_mapM_toList]
      simp [hv]
    have hX : (app F upd).length = F.length := app_len
    have hfit : fitOs F.length s'.ow (app F upd) := by
      rw [hex]
      refine fitOs_refl extra fun o ho => ?_
      rcases app_mem ho with ho | ⟨p, hp, rfl⟩
      · obtain ⟨k, hk, rfl⟩ := List.mem_iff_getElem.1 ho
        obtain ⟨l, hl⟩ := R.loc (List.getElem?_eq_getElem hk)
        rw [← hlen]
        exact own_under (R.owns k _ l (List.getElem?_eq_getElem hk) hl)
      · exact upds_mem hund p hp
    have R2 := R'.weak (m := F.length) (t := ⟨s'.n, [], app F upd⟩) (Nat.le_of_eq hlen) ⟨rfl, Nat.le_of_eq hX.symm, trivial, by rw [show (St.mk s'.n [] (app F upd)).ow = app F upd from rfl, hX]; exact hfit⟩
    rw [show (St.mk s'.n [] (app F upd)).ow = app F upd from rfl, hX] at R2
    refine ⟨R'.defers, _, by rw [results_eq]; simp only [Sem.run_bind, hv', Result.andThen_ok, Sem.run_pure]; rfl, _, E', _, rfl, R.back R2, ?_⟩
    rw [← hr]
    exact tup_is (isAll_take hall hu)
  cases e with
  | normal => exact fin hq
  | ret => exact fin hq
  | exit id => exact (show False from hq).elim
  | goto l => exact (show False from hq).elim
  | panic c => exact (show False from hq).elim
  | outgrown => exact (show False from hq).elim

/-- A thing comes to a free number. -/
theorem ev_bring {c : Code} {Q : Exit → St → Prop} (j k d : Nat) {ty : TypeId} {v sz : Nat} {rows : List (List V)} (hj : s.ow[j]? = some .free) (hk : s.ow[k]? = some (.blk ty v sz rows)) (hr : litRows rows = true) {ver kk off : Nat} (hd : lk s.tm d = .own k ver kk off)
    (h : EV P m c Q ⟨s.n, (d, .own j ver kk off) :: s.tm, (s.ow.set k .gone).set j (.blk ty v sz rows)⟩) : EV P m c Q s := by
  rintro B w0 E0 L0 a w hm ⟨E, L, R⟩
  refine h B w0 E0 L0 a w hm ?_
  obtain ⟨l, hl⟩ := R.loc hk
  have hfree := R.freeLoc hj
  have hjk : j ≠ k := by rintro rfl; rw [hj] at hk; cases hk
  have hto := locs_set (l1 := l) hfree trivial
  have hboth : ∀ {i : Nat} {oo : Own} {ll : Loc}, ((s.ow.set k .gone).set j (.blk ty v sz rows))[i]? = some oo → (L.set j l)[i]? = some ll → (i = j ∧ oo = .blk ty v sz rows ∧ ll = l) ∨ (i ≠ j ∧ oo = .gone) ∨ (i ≠ j ∧ i ≠ k ∧ s.ow[i]? = some oo ∧ L[i]? = some ll) := by
    intro i oo ll h1 h2
    rcases get_set h1 with ⟨e1, e2⟩ | ⟨e1, e2⟩
    · rcases get_set h2 with ⟨_, e3⟩ | ⟨e3, _⟩
      · exact .inl ⟨e1, e2, e3⟩
      · exact absurd e1 e3
    · rcases get_set h2 with ⟨e3, _⟩ | ⟨_, e3⟩
      · exact absurd e3 e1
      · rcases get_set e2 with ⟨_, e5⟩ | ⟨e4, e5⟩
        · exact .inr (.inl ⟨e1, e5⟩)
        · exact .inr (.inr ⟨e1, e4, e5, e3⟩)
  have R1 := R.upd (L' := L.set j l) (ow' := (s.ow.set k .gone).set j (.blk ty v sz rows)) E.le_refl (fun _ _ => rfl) R.inn (Below.refl B w) hto (by simp [R.len]) (fun i oo ll h1 h2 => by
      rcases hboth h1 h2 with ⟨rfl, rfl, rfl⟩ | ⟨_, rfl⟩ | ⟨_, _, h3, h4⟩
      · exact (R.owns k _ ll hk hl).keep E.le_refl hto (fun _ _ => ⟨rfl, fun h => h⟩)
      · trivial
      · exact (R.owns i oo ll h3 h4).keep E.le_refl hto (fun _ _ => ⟨rfl, fun h => h⟩)) (fun i i' oi oj li lj g hij hi hli hj' hlj hgi hgj => by
      rcases hboth hi hli with ⟨rfl, rfl, rfl⟩ | ⟨_, rfl⟩ | ⟨_, hik, h3, h4⟩
      · rcases hboth hj' hlj with ⟨rfl, rfl, rfl⟩ | ⟨_, rfl⟩ | ⟨_, hik, h5, h6⟩
        · exact hij rfl
        · cases hgj
        · exact R.apart k i' _ oj li lj g (Ne.symm hik) hk hl h5 h6 hgi hgj
      · cases hgi
      · rcases hboth hj' hlj with ⟨rfl, rfl, rfl⟩ | ⟨_, rfl⟩ | ⟨_, hik', h5, h6⟩
        · exact R.apart i k oi _ li lj g hik h3 h4 hk hl hgi hgj
        · cases hgj
        · exact R.apart i i' oi oj li lj g hij h3 h4 h5 h6 hgi hgj)
  refine ⟨E, L.set j l, { R1 with tmps := fun i => ?_, size := R1.size, len := R1.len, owns := R1.owns, apart := R1.apart }⟩
  show (lk ((d, .own j ver kk off) :: s.tm) i).Is E _ _
  unfold lk
  by_cases e : d = i
  · subst e
    rw [if_pos rfl]
    have hx := R.tmps d
    rw [hd] at hx
    unfold V.Is at hx ⊢
    rw [hl] at hx
    rw [List.getElem?_set_self (get_lt hfree)]
    exact hx
  · rw [if_neg e]
    have hk := R1.tmps i
    have e2 : lk (St.mk s.n s.tm ((s.ow.set k .gone).set j (.blk ty v sz rows))).tm i = lk s.tm i := rfl
    rw [e2] at hk
    cases hs : s.tm <;> (rw [hs] at hk; exact hk)
end

/-! ### evaluation up to the next call -/
def go (tt : TT) (ds : List (Option Tmp)) : List (Nat × Oper) → Prop → St → Prop × St × List (Nat × Oper)
  | [], p, s => (p, s, [])
  | io :: r, p, s => match stepF tt ds io.1 io.2 s with
    | .ok q x => go tt ds r (p ∧ q) (s.app io.2.dst x)
    | .off g q => go tt ds r (p ∧ g = false ∧ q) (s.app io.2.dst ⟨[], .cnd false .un, []⟩)
    | .fail => (False, s, [])
    | .call => (p, s, io :: r)
/-- What is to be shown of a call. -/
def callU (P : Program) (tt : TT) (ds : List (Option Tmp)) (r : List (Nat × Oper)) (o : Oper) (s : St) (K : St → Prop) : Prop :=
  match callOf s o.op with
  | some (f, args) => uncP true (rds s o.op.operands.toList) ∧ dlt s.n o.dst ∧ ∃ fp v upd, Run P f args fp s.ow v upd ∧ evOps P tt ds r (s.app o.dst ⟨fp, v, upd⟩) K
  | none => False
def callG (P : Program) (tt : TT) (ds : List (Option Tmp)) (r : List (Nat × Oper)) (g : Bool) (o : Oper) (s : St) (K : St → Prop) : Prop :=
  match callOf s o.op with
  | some (f, args) => uncP g (rds s o.op.operands.toList) ∧ dlt s.n o.dst ∧ ∃ fp v, (g = true → Run P f args fp s.ow v []) ∧ evOps P tt ds r (s.app o.dst ⟨fp, .cnd g v, []⟩) K
  | none => False
def rest (P : Program) (tt : TT) (ds : List (Option Tmp)) (s : St) (K : St → Prop) : List (Nat × Oper) → Prop
  | [] => K s
  | io :: r => match io.2.guard with
    | none => callU P tt ds r io.2 s K
    | some (j, want) => match gOf want (s.gv (ds.getD j none)) with
      | some (some g) => callG P tt ds r g io.2 s K
      | _ => False
section
variable {P : Program} {tt : TT} {ds : List (Option Tmp)} {K : St → Prop}
theorem resU_off {us q q' : Prop} {g : Bool} {r : Res} (h : resU us q r = .off g q') : False := by cases r <;> cases h
theorem pickV_off {g g' : Bool} {c x y : V} {f : V → V} {q q' : Prop} (h : pickV g c x y f q = .off g' q') : False := by
  unfold pickV at h
  split at h <;> cases h
theorem off_skip {id : Nat} {o : Oper} {s : St} {g : Bool} {q : Prop} (h : stepF tt ds id o s = .off g q) (hg : g = false) (hq : q) : SkipStep ds o s ⟨[], .cnd false .un, []⟩ := by
  unfold stepF at h
  unfold SkipStep
  split at h
  · unfold stepU at h
    split at h
    · exact (pickV_off h).elim
    · cases h
    · exact (resU_off h).elim
  · rename_i j want hgd
    simp only
    split at h
    · cases h
    · cases h
    · rename_i g' hgo
      have key : g = g' ∧ q = dlt s.n o.dst := by
        unfold stepG at h
        split at h
        · generalize hp : pickV g' _ _ _ _ _ = pv at h
          cases pv with
          | fail => injection h with e1 e2; exact ⟨e1.symm, e2.symm⟩
          | off => exact (pickV_off hp).elim
          | _ => cases h
        · cases h
        · generalize sem tt s.ow id o.op _ = r at h
          cases r with
          | fail => injection h with e1 e2; exact ⟨e1.symm, e2.symm⟩
          | ok pre x =>
            unfold resG at h
            simp only at h
            split at h
            · cases h
            · split at h
              · cases h
              · injection h with e1 e2; exact ⟨e1.symm, e2.symm⟩
      obtain ⟨rfl, rfl⟩ := key
      rw [hg] at hgo
      exact ⟨hgo, hq, trivial⟩
theorem go_ok : ∀ {l : List (Nat × Oper)} {p : Prop} {s : St}, (go tt ds l p s).1 → rest P tt ds (go tt ds l p s).2.1 K (go tt ds l p s).2.2 → evOps P tt ds l s K ∧ p
  | [], p, s, h1, h2 => ⟨h2, h1⟩
  | io :: r, p, s, h1, h2 => by
    unfold go at h1 h2
    cases hs : stepF tt ds io.1 io.2 s with
    | ok q x =>
      rw [hs] at h1 h2
      obtain ⟨h3, h4, h5⟩ := go_ok h1 h2
      exact ⟨⟨x, .inl (by unfold Main; rw [hs]; exact ⟨h5, rfl⟩), h3⟩, h4⟩
    | off g q =>
      rw [hs] at h1 h2
      obtain ⟨h3, h4, h5, h6⟩ := go_ok h1 h2
      exact ⟨⟨_, .inr (off_skip hs h5 h6), h3⟩, h4⟩
    | fail => rw [hs] at h1; exact h1.elim
    | call =>
      rw [hs] at h1 h2
      refine ⟨?_, h1⟩
      unfold rest at h2
      have hstep : ∀ x, CallStep P ds io.2 s x → Step P tt ds io.1 io.2 s x := fun x hx => .inl (by unfold Main; rw [hs]; exact hx)
      cases hg : io.2.guard with
      | none =>
        simp only [hg] at h2
        unfold callU at h2
        split at h2
        · rename_i f args hc
          obtain ⟨k1, k2, fp, v, upd, k3, k4⟩ := h2
          exact ⟨⟨fp, v, upd⟩, hstep _ (by unfold CallStep; rw [hg]; exact ⟨f, args, hc, k1, k2, k3⟩), k4⟩
        · exact h2.elim
      | some jw =>
        obtain ⟨j, want⟩ := jw
        simp only [hg] at h2
        split at h2
        · rename_i g hgo
          unfold callG at h2
          split at h2
          · rename_i f args hc
            obtain ⟨k1, k2, fp, v, k3, k4⟩ := h2
            exact ⟨⟨fp, .cnd g v, []⟩, hstep _ (by unfold CallStep; rw [hg]; simp only [hgo]; exact ⟨f, args, v, hc, k1, k2, k3, rfl, rfl⟩), k4⟩
          · exact h2.elim
        · exact h2.elim
theorem evOps_go {l : List (Nat × Oper)} {s : St} (h : (go tt ds l True s).1 ∧ rest P tt ds (go tt ds l True s).2.1 K (go tt ds l True s).2.2) : evOps P tt ds l s K := (go_ok h.1 h.2).1

/-! ### the same, with a log -/
def goD (tt : TT) (ds : List (Option Tmp)) : List It → Log → Prop → St → Prop × St × Log × List It
  | [], log, p, s => (p, s, log, [])
  | it :: r, log, p, s => match stepF tt ds it.id it.o s with
    | .ok q x => goD tt ds r (logAdd it x log) (p ∧ q ∧ confQ it x log) (s.app it.o.dst x)
    | .off g q => goD tt ds r (logAdd it ⟨[], .cnd false .un, []⟩ log) (p ∧ g = false ∧ q) (s.app it.o.dst ⟨[], .cnd false .un, []⟩)
    | .fail => (False, s, log, [])
    | .call => (p, s, log, it :: r)
def callUD (P : Program) (tt : TT) (ds : List (Option Tmp)) (r : List It) (log : Log) (it : It) (s : St) (K : St → Prop) : Prop :=
  match callOf s it.o.op with
  | some (f, args) => uncP true (rds s it.o.op.operands.toList) ∧ dlt s.n it.o.dst ∧ ∃ fp v upd, Run P f args fp s.ow v upd ∧ confQ it ⟨fp, v, upd⟩ log ∧ evD P tt ds r (logAdd it ⟨fp, v, upd⟩ log) (s.app it.o.dst ⟨fp, v, upd⟩) K
  | none => False
def callGD (P : Program) (tt : TT) (ds : List (Option Tmp)) (r : List It) (log : Log) (g : Bool) (it : It) (s : St) (K : St → Prop) : Prop :=
  match callOf s it.o.op with
  | some (f, args) => uncP g (rds s it.o.op.operands.toList) ∧ dlt s.n it.o.dst ∧ ∃ fp v, (g = true → Run P f args fp s.ow v []) ∧ confQ it ⟨fp, .cnd g v, []⟩ log ∧ evD P tt ds r (logAdd it ⟨fp, .cnd g v, []⟩ log) (s.app it.o.dst ⟨fp, .cnd g v, []⟩) K
  | none => False
def restD (P : Program) (tt : TT) (ds : List (Option Tmp)) (s : St) (log : Log) (K : St → Prop) : List It → Prop
  | [] => K s
  | it :: r => match it.o.guard with
    | none => callUD P tt ds r log it s K
    | some (j, want) => match gOf want (s.gv (ds.getD j none)) with
      | some (some g) => callGD P tt ds r log g it s K
      | _ => False
theorem goD_ok : ∀ {l : List It} {log : Log} {p : Prop} {s : St}, (goD tt ds l log p s).1 → restD P tt ds (goD tt ds l log p s).2.1 (goD tt ds l log p s).2.2.1 K (goD tt ds l log p s).2.2.2 → evD P tt ds l log s K ∧ p
  | [], log, p, s, h1, h2 => ⟨h2, h1⟩
  | it :: r, log, p, s, h1, h2 => by
    unfold goD at h1 h2
    cases hs : stepF tt ds it.id it.o s with
    | ok q x =>
      rw [hs] at h1 h2
      obtain ⟨h3, h4, h5, h6⟩ := goD_ok h1 h2
      exact ⟨⟨x, .inl (by unfold Main; rw [hs]; exact ⟨h5, rfl⟩), h6, h3⟩, h4⟩
    | off g q =>
      rw [hs] at h1 h2
      obtain ⟨h3, h4, h5, h6⟩ := goD_ok h1 h2
      exact ⟨⟨_, .inr (off_skip hs h5 h6), confQ_iff.2 fun e he _ => ⟨fun i _ h => (by cases h), fun i h => (by cases h)⟩, h3⟩, h4⟩
    | fail => rw [hs] at h1; exact h1.elim
    | call =>
      rw [hs] at h1 h2
      refine ⟨?_, h1⟩
      unfold restD at h2
      have hstep : ∀ x, CallStep P ds it.o s x → Step P tt ds it.id it.o s x := fun x hx => .inl (by unfold Main; rw [hs]; exact hx)
      cases hg : it.o.guard with
      | none =>
        simp only [hg] at h2
        unfold callUD at h2
        split at h2
        · rename_i f args hc
          obtain ⟨k1, k2, fp, v, upd, k3, k4, k5⟩ := h2
          exact ⟨⟨fp, v, upd⟩, hstep _ (by unfold CallStep; rw [hg]; exact ⟨f, args, hc, k1, k2, k3⟩), k4, k5⟩
        · exact h2.elim
      | some jw =>
        obtain ⟨j, want⟩ := jw
        simp only [hg] at h2
        split at h2
        · rename_i g hgo
          unfold callGD at h2
          split at h2
          · rename_i f args hc
            obtain ⟨k1, k2, fp, v, k3, k4, k5⟩ := h2
            exact ⟨⟨fp, .cnd g v, []⟩, hstep _ (by unfold CallStep; rw [hg]; simp only [hgo]; exact ⟨f, args, v, hc, k1, k2, k3, rfl, rfl⟩), k4, k5⟩
          · exact h2.elim
        · exact h2.elim
theorem evD_go {l : List It} {log : Log} {s : St} (h : (goD tt ds l log True s).1 ∧ restD P tt ds (goD tt ds l log True s).2.1 (goD tt ds l log True s).2.2.1 K (goD tt ds l log True s).2.2.2) : evD P tt ds l log s K := (goD_ok h.1 h.2).1

/-- A call that is handed immutable things. -/
theorem callP {f : FuncId} {args args' : List V} {ow : List Own} {r : V} {Q : List Nat → V → List (Nat × Own) → Prop} (hv : vmaps (fv ow) args = some args') (hp : Pure P f args' r) (h : Q (idss args) r []) : ∃ fp v upd, Run P f args fp ow v upd ∧ Q fp v upd := ⟨_, r, [], run_pure hp hv, h⟩
theorem callL {f : FuncId} {args args' : List V} {ow : List Own} {r : V} {Q : List Nat → V → List (Nat × Own) → Prop} (hv : vmaps (dv 4 ow) args = some args') (hp : Pure P f args' r) (hf : r.flat = true) (h : Q (dvI 4 ow args) r []) : ∃ fp v upd, Run P f args fp ow v upd ∧ Q fp v upd := ⟨_, r, [], run_lent 4 hp hv hf, h⟩
theorem callE {f : FuncId} {args : List V} {fp : List Nat} {ow : List Own} {r : V} {upd : List (Nat × Own)} {Q : List Nat → V → List (Nat × Own) → Prop} (hp : Run P f args fp ow r upd) (h : Q fp r upd) : ∃ fp v upd, Run P f args fp ow v upd ∧ Q fp v upd := ⟨fp, r, upd, hp, h⟩
theorem callEG {f : FuncId} {args : List V} {fp : List Nat} {ow : List Own} {r : V} {g : Bool} {Q : List Nat → V → Prop} (hp : g = true → Run P f args fp ow r []) (h : Q fp r) : ∃ fp v, (g = true → Run P f args fp ow v []) ∧ Q fp v := ⟨_, r, hp, h⟩
theorem callE0 {f : FuncId} {args : List V} {fp : List Nat} {ow : List Own} {r : V} {Q : List Nat → V → Prop} (hp : Run P f args fp ow r []) (h : Q fp r) : ∃ fp v, Run P f args fp ow v [] ∧ Q fp v := ⟨_, r, hp, h⟩
theorem callP0 {f : FuncId} {args args' : List V} {ow : List Own} {r : V} {Q : List Nat → V → Prop} (hv : vmaps (fv ow) args = some args') (hp : Pure P f args' r) (h : Q (idss args) r) : ∃ fp v, Run P f args fp ow v [] ∧ Q fp v := ⟨_, r, run_pure hp hv, h⟩
theorem callL0 {f : FuncId} {args args' : List V} {ow : List Own} {r : V} {Q : List Nat → V → Prop} (hv : vmaps (dv 4 ow) args = some args') (hp : Pure P f args' r) (hf : r.flat = true) (h : Q (dvI 4 ow args) r) : ∃ fp v, Run P f args fp ow v [] ∧ Q fp v := ⟨_, r, run_lent 4 hp hv hf, h⟩
theorem callPG {f : FuncId} {args args' : List V} {ow : List Own} {r : V} {g : Bool} {Q : List Nat → V → Prop} (hv : vmaps (fv ow) args = some args') (hp : g = true → Pure P f args' r) (h : Q (idss args) r) : ∃ fp v, (g = true → Run P f args fp ow v []) ∧ Q fp v := ⟨_, r, fun hg => run_pure (hp hg) hv, h⟩
theorem callLG {f : FuncId} {args args' : List V} {ow : List Own} {r : V} {g : Bool} {Q : List Nat → V → Prop} (hv : vmaps (dv 4 ow) args = some args') (hp : g = true → Pure P f args' r) (hf : r.flat = true) (h : Q (dvI 4 ow args) r) : ∃ fp v, (g = true → Run P f args fp ow v []) ∧ Q fp v := ⟨_, r, fun hg => run_lent 4 (hp hg) hv hf, h⟩
end

/-! ### a table of types, as a list -/
def lkT : List (TypeId × TI) → TypeId → TI
  | [], _ => {}
  | (t, i) :: r, x => if x = t then i else lkT r x
theorem lkT_mem : ∀ {L : List (TypeId × TI)} (x : TypeId), lkT L x = {} ∨ (x, lkT L x) ∈ L
  | [], _ => .inl rfl
  | (t, i) :: r, x => by
    unfold lkT
    split
    · rename_i h; subst h; exact .inr (List.mem_cons_self ..)
    · rcases lkT_mem (L := r) x with h | h
      · exact .inl h
      · exact .inr (List.mem_cons_of_mem _ h)
theorem own_none : ({} : TI).Own := ⟨rfl, rfl, rfl, fun h => absurd rfl h⟩
theorem lkT_ok {P : Program} {L : List (TypeId × TI)} (h : ∀ p ∈ L, TI.Facts P p.1 p.2 ∧ p.2.Own) : TT.Ok P (lkT L) where
  facts t hk := by
    rcases lkT_mem (L := L) t with h1 | h1
    · rw [h1] at hk; exact absurd rfl hk
    · exact (h _ h1).1
  own t := by
    rcases lkT_mem (L := L) t with h1 | h1
    · rw [h1]; exact own_none
    · exact (h _ h1).2
end Go.K

import Derived.Test.YtbibplkhhdomnaaGreatW10
import Derived.WalkKit
import Derived.ProofKit
import Derived.OpenShut
set_option linter.all false
namespace Go.K
open Go Go.RowKit
section
variable {P : Program} {B : Nat} {w0 : World} {E0 E E' : Ext} {L0 L L' : List Loc} {s t : St} {a a' : Act} {w w' : World} {m : Nat}
theorem RepE.back (R : RepE B w0 E0 E L0 L s a w) (R' : RepE B w0 E E' L L' t a' w') : RepE B w0 E0 E' L0 L' ⟨s.n, s.tm, t.ow⟩ a w' :=
  { defers := R.defers, le := Ext.le_trans R.le R'.le, low := fun b hb => (R'.low b hb).trans (R.low b hb), inn := R'.inn, below := R'.below, drawn := R'.drawn, base := R'.base
    lto := Locs.to_trans R.lto R'.lto, len := R'.len, size := R.size, tmps := fun k => (R.tmps k).mono R'.le R'.lto, owns := R'.owns, apart := R'.apart }
def upds (n : Nat) : List (Nat × Own) → Prop
  | [] => True
  | p :: r => ownUnder n p.2 ∧ upds n r
theorem upds_mem {n : Nat} : ∀ {l : List (Nat × Own)}, upds n l → ∀ p ∈ l, ownUnder n p.2
  | [], _, p, h => by cases h
  | q :: r, hu, p, h => by
    rcases List.mem_cons.1 h with rfl | h
    · exact hu.1
    · exact upds_mem hu.2 p h
def bodyR (tt : TT) (rs : List ResultVar) (n : Nat) (r : V) (X : List Own) : Exit → St → Prop
  | .normal, s => resPre tt s rs ∧ resTup (resAll tt s rs) = r ∧ unders n (resAll tt s rs) ∧ ∃ extra, s.ow = X ++ extra
  | .ret, s => resPre tt s rs ∧ resTup (resAll tt s rs) = r ∧ unders n (resAll tt s rs) ∧ ∃ extra, s.ow = X ++ extra
  | _, _ => False
theorem app_len : ∀ {l : List (Nat × Own)} {a : List Own}, (app a l).length = a.length
  | [], a => rfl
  | (j, o) :: r, a => by unfold app; rw [app_len]; simp
theorem app_mem : ∀ {l : List (Nat × Own)} {a : List Own} {o : Own}, o ∈ app a l → o ∈ a ∨ ∃ p ∈ l, p.2 = o
  | [], a, o, h => .inl h
  | (j, q) :: r, a, o, h => by
    unfold app at h
    rcases app_mem h with h | ⟨p, hp, e⟩
    · rcases List.mem_or_eq_of_mem_set h with h | h
      · exact .inl h
      · exact .inr ⟨(j, q), List.mem_cons_self .., h.symm⟩
    · exact .inr ⟨p, List.mem_cons_of_mem _ hp, e⟩
theorem run_of_ev {tt : TT} (ht : tt.Ok P) {f : FuncId} {fn : Func} {c : Code} (hf : P.funcs[f]? = some fn) (hb : fn.body = some c) (hn : (fn.name == "runtime.NumGoroutine") = false) {args : List V} {fp : List Nat} {ow : List Own} {r : V} {upd : List (Nat × Own)}
    (hl : args.length ≤ fn.ntmps) (hk : ∀ p ∈ upd, p.1 ∈ fp) (h : ∀ F, agree fp ow F → upds F.length upd ∧ EV P F.length c (bodyR tt fn.results.toList F.length r (app F upd)) ⟨fn.ntmps, number 0 args, F⟩) : Run P f args fp ow r upd := by
  refine ⟨enters_of hf hb hn, hk, fun F hF B w0 E0 E L0 L n tm a w vs R hargs => ?_⟩
  refine calls_of_wp hf hb ?_
  have hlen : L.length = F.length := R.len
  have R1 := RepE.start (s := ⟨n, tm, F⟩) R.inn R.below R.drawn R.base R.len R.owns R.apart hargs hl
  obtain ⟨hund, hev⟩ := h F hF
  refine wp_mono (hev _ _ _ L _ _ (Nat.le_of_eq hlen) ⟨E, L, R1⟩) fun e a' w' hq => ?_
  obtain ⟨s', hq, E', L', R'⟩ := hq
  have fin : (resPre tt s' fn.results.toList ∧ resTup (resAll tt s' fn.results.toList) = r ∧ unders F.length (resAll tt s' fn.results.toList) ∧ ∃ extra, s'.ow = app F upd ++ extra) →
      a'.defers = [] ∧ ∃ v, (results fn a'.tmps).run P w' = .ok v w' ∧ ∃ v' E' L', (Ending.returned v = .returned v') ∧ RepE B w0 E0 E' L0 L' ⟨n, tm, app F upd⟩ a w' ∧ r.Is E' L' v' := by
    rintro ⟨hp, hr, hu, extra, hex⟩
    obtain ⟨vs', hv, hall⟩ := res_run ht R' _ hp
    have hv' : (fn.results.mapM (resSem a'.tmps)).run P w' = .ok vs'.toArray w' := by
      rw [Array.mapM_eq_mapM_toList]
      simp [hv]
    have hX : (app F upd).length = F.length := app_len
    have hfit : fitOs F.length s'.ow (app F upd) := by
      rw [hex]
      refine fitOs_refl extra fun o ho => ?_
      rcases app_mem ho with ho | ⟨p, hp, rfl⟩
      · obtain ⟨k, hk, rfl⟩ := List.mem_iff_getElem.1 ho
        obtain ⟨l, hl⟩ := R.loc (List.getElem?_eq_getElem hk)
        rw [← hlen]
        exact own_under (R.owns k _ l (List.getElem?_eq_getElem hk) hl)
      · exact upds_mem hund p hp
    have R2 := R'.weak (m := F.length) (t := ⟨s'.n, [], app F upd⟩) (Nat.le_of_eq hlen) ⟨rfl, Nat.le_of_eq hX.symm, trivial, by rw [show (St.mk s'.n [] (app F upd)).ow = app F upd from rfl, hX]; exact hfit⟩
    rw [show (St.mk s'.n [] (app F upd)).ow = app F upd from rfl, hX] at R2
    refine ⟨R'.defers, _, by rw [results_eq]; simp only [Sem.run_bind, hv', Result.andThen_ok, Sem.run_pure]; rfl, _, E', _, rfl, R.back R2, ?_⟩
    rw [← hr]
    exact tup_is (isAll_take hall hu)
  cases e with
  | normal => exact fin hq
  | ret => exact fin hq
  | exit id => exact (show False from hq).elim
  | goto l => exact (show False from hq).elim
  | panic c => exact (show False from hq).elim
  | outgrown => exact (show False from hq).elim
end
def go (tt : TT) (ds : List (Option Tmp)) : List (Nat × Oper) → Prop → St → Prop × St × List (Nat × Oper)
  | [], p, s => (p, s, [])
  | io :: r, p, s => match stepF tt ds io.1 io.2 s with
    | .ok q x => go tt ds r (p ∧ q) (s.app io.2.dst x)
    | .off g q => go tt ds r (p ∧ g = false ∧ q) (s.app io.2.dst ⟨[], .cnd false .un, []⟩)
    | .fail => (False, s, [])
    | .call => (p, s, io :: r)
def callU (P : Program) (tt : TT) (ds : List (Option Tmp)) (r : List (Nat × Oper)) (o : Oper) (s : St) (K : St → Prop) : Prop :=
  match callOf s o.op with
  | some (f, args) => uncP true (rds s o.op.operands.toList) ∧ dlt s.n o.dst ∧ ∃ fp v upd, Run P f args fp s.ow v upd ∧ evOps P tt ds r (s.app o.dst ⟨fp, v, upd⟩) K
  | none => False
def callG (P : Program) (tt : TT) (ds : List (Option Tmp)) (r : List (Nat × Oper)) (g : Bool) (o : Oper) (s : St) (K : St → Prop) : Prop :=
  match callOf s o.op with
  | some (f, args) => uncP g (rds s o.op.operands.toList) ∧ dlt s.n o.dst ∧ ∃ fp v, (g = true → Run P f args fp s.ow v []) ∧ evOps P tt ds r (s.app o.dst ⟨fp, .cnd g v, []⟩) K
  | none => False
def rest (P : Program) (tt : TT) (ds : List (Option Tmp)) (s : St) (K : St → Prop) : List (Nat × Oper) → Prop
  | [] => K s
  | io :: r => match io.2.guard with
    | none => callU P tt ds r io.2 s K
    | some (j, want) => match gOf want (s.gv (ds.getD j none)) with
      | some (some g) => callG P tt ds r g io.2 s K
      | _ => False
section
variable {P : Program} {tt : TT} {ds : List (Option Tmp)} {K : St → Prop}
theorem resU_off {us q q' : Prop} {g : Bool} {r : Res} (h : resU us q r = .off g q') : False := by cases r <;> cases h
theorem pickV_off {g g' : Bool} {c x y : V} {f : V → V} {q q' : Prop} (h : pickV g c x y f q = .off g' q') : False := by
  unfold pickV at h
  split at h <;> cases h
theorem off_skip {id : Nat} {o : Oper} {s : St} {g : Bool} {q : Prop} (h : stepF tt ds id o s = .off g q) (hg : g = false) (hq : q) : SkipStep ds o s ⟨[], .cnd false .un, []⟩ := by
  unfold stepF at h
  unfold SkipStep
  split at h
  · unfold stepU at h
    split at h
    · exact (pickV_off h).elim
    · cases h
    · exact (resU_off h).elim
  · rename_i j want hgd
    simp only
    split at h
    · cases h
    · cases h
    · rename_i g' hgo
      have key : g = g' ∧ q = dlt s.n o.dst := by
        unfold stepG at h
        split at h
        · generalize hp : pickV g' _ _ _ _ _ = pv at h
          cases pv with
          | fail => injection h with e1 e2; exact ⟨e1.symm, e2.symm⟩
          | off => exact (pickV_off hp).elim
          | _ => cases h
        · cases h
        · generalize sem tt s.ow id o.op _ = r at h
          cases r with
          | fail => injection h with e1 e2; exact ⟨e1.symm, e2.symm⟩
          | ok pre x =>
            unfold resG at h
            simp only at h
            split at h
            · cases h
            · split at h
              · cases h
              · injection h with e1 e2; exact ⟨e1.symm, e2.symm⟩
      obtain ⟨rfl, rfl⟩ := key
      rw [hg] at hgo
      exact ⟨hgo, hq, trivial⟩
theorem go_ok : ∀ {l : List (Nat × Oper)} {p : Prop} {s : St}, (go tt ds l p s).1 → rest P tt ds (go tt ds l p s).2.1 K (go tt ds l p s).2.2 → evOps P tt ds l s K ∧ p
  | [], p, s, h1, h2 => ⟨h2, h1⟩
  | io :: r, p, s, h1, h2 => by
    unfold go at h1 h2
    cases hs : stepF tt ds io.1 io.2 s with
    | ok q x =>
      rw [hs] at h1 h2
      obtain ⟨h3, h4, h5⟩ := go_ok h1 h2
      exact ⟨⟨x, .inl (by unfold Main; rw [hs]; exact ⟨h5, rfl⟩), h3⟩, h4⟩
    | off g q =>
      rw [hs] at h1 h2
      obtain ⟨h3, h4, h5, h6⟩ := go_ok h1 h2
      exact ⟨⟨_, .inr (off_skip hs h5 h6), h3⟩, h4⟩
    | fail => rw [hs] at h1; exact h1.elim
    | call =>
      rw [hs] at h1 h2
      refine ⟨?_, h1⟩
      unfold rest at h2
      have hstep : ∀ x, CallStep P ds io.2 s x → Step P tt ds io.1 io.2 s x := fun x hx => .inl (by unfold Main; rw [hs]; exact hx)
      cases hg : io.2.guard with
      | none =>
        simp only [hg] at h2
        unfold callU at h2
        split at h2
        · rename_i f args hc
          obtain ⟨k1, k2, fp, v, upd, k3, k4⟩ := h2
          exact ⟨⟨fp, v, upd⟩, hstep _ (by unfold CallStep; rw [hg]; exact ⟨f, args, hc, k1, k2, k3⟩), k4⟩
        · exact h2.elim
      | some jw =>
        obtain ⟨j, want⟩ := jw
        simp only [hg] at h2
        split at h2
        · rename_i g hgo
          unfold callG at h2
          split at h2
          · rename_i f args hc
            obtain ⟨k1, k2, fp, v, k3, k4⟩ := h2
            exact ⟨⟨fp, .cnd g v, []⟩, hstep _ (by unfold CallStep; rw [hg]; simp only [hgo]; exact ⟨f, args, v, hc, k1, k2, k3, rfl, rfl⟩), k4⟩
          · exact h2.elim
        · exact h2.elim
theorem evOps_go {l : List (Nat × Oper)} {s : St} (h : (go tt ds l True s).1 ∧ rest P tt ds (go tt ds l True s).2.1 K (go tt ds l True s).2.2) : evOps P tt ds l s K := (go_ok h.1 h.2).1
def goD (tt : TT) (ds : List (Option Tmp)) : List It → Log → Prop → St → Prop × St × Log × List It
  | [], log, p, s => (p, s, log, [])
  | it :: r, log, p, s => match stepF tt ds it.id it.o s with
    | .ok q x => goD tt ds r (logAdd it x log) (p ∧ q ∧ confQ it x log) (s.app it.o.dst x)
    | .off g q => goD tt ds r (logAdd it ⟨[], .cnd false .un, []⟩ log) (p ∧ g = false ∧ q) (s.app it.o.dst ⟨[], .cnd false .un, []⟩)
    | .fail => (False, s, log, [])
    | .call => (p, s, log, it :: r)
def callUD (P : Program) (tt : TT) (ds : List (Option Tmp)) (r : List It) (log : Log) (it : It) (s : St) (K : St → Prop) : Prop :=
  match callOf s it.o.op with
  | some (f, args) => uncP true (rds s it.o.op.operands.toList) ∧ dlt s.n it.o.dst ∧ ∃ fp v upd, Run P f args fp s.ow v upd ∧ confQ it ⟨fp, v, upd⟩ log ∧ evD P tt ds r (logAdd it ⟨fp, v, upd⟩ log) (s.app it.o.dst ⟨fp, v, upd⟩) K
  | none => False
def callGD (P : Program) (tt : TT) (ds : List (Option Tmp)) (r : List It) (log : Log) (g : Bool) (it : It) (s : St) (K : St → Prop) : Prop :=
  match callOf s it.o.op with
  | some (f, args) => uncP g (rds s it.o.op.operands.toList) ∧ dlt s.n it.o.dst ∧ ∃ fp v, (g = true → Run P f args fp s.ow v []) ∧ confQ it ⟨fp, .cnd g v, []⟩ log ∧ evD P tt ds r (logAdd it ⟨fp, .cnd g v, []⟩ log) (s.app it.o.dst ⟨fp, .cnd g v, []⟩) K
  | none => False
def restD (P : Program) (tt : TT) (ds : List (Option Tmp)) (s : St) (log : Log) (K : St → Prop) : List It → Prop
  | [] => K s
  | it :: r => match it.o.guard with
    | none => callUD P tt ds r log it s K
    | some (j, want) => match gOf want (s.gv (ds.getD j none)) with
      | some (some g) => callGD P tt ds r log g it s K
      | _ => False
theorem goD_ok : ∀ {l : List It} {log : Log} {p : Prop} {s : St}, (goD tt ds l log p s).1 → restD P tt ds (goD tt ds l log p s).2.1 (goD tt ds l log p s).2.2.1 K (goD tt ds l log p s).2.2.2 → evD P tt ds l log s K ∧ p
  | [], log, p, s, h1, h2 => ⟨h2, h1⟩
  | it :: r, log, p, s, h1, h2 => by
    unfold goD at h1 h2
    cases hs : stepF tt ds it.id it.o s with
    | ok q x =>
      rw [hs] at h1 h2
      obtain ⟨h3, h4, h5, h6⟩ := goD_ok h1 h2
      exact ⟨⟨x, .inl (by unfold Main; rw [hs]; exact ⟨h5, rfl⟩), h6, h3⟩, h4⟩
    | off g q =>
      rw [hs] at h1 h2
      obtain ⟨h3, h4, h5, h6⟩ := goD_ok h1 h2
      exact ⟨⟨_, .inr (off_skip hs h5 h6), confQ_iff.2 fun e he _ => ⟨fun i _ h => (by cases h), fun i h => (by cases h)⟩, h3⟩, h4⟩
    | fail => rw [hs] at h1; exact h1.elim
    | call =>
      rw [hs] at h1 h2
      refine ⟨?_, h1⟩
      unfold restD at h2
      have hstep : ∀ x, CallStep P ds it.o s x → Step P tt ds it.id it.o s x := fun x hx => .inl (by unfold Main; rw [hs]; exact hx)
      cases hg : it.o.guard with
      | none =>
        simp only [hg] at h2
        unfold callUD at h2
        split at h2
        · rename_i f args hc
          obtain ⟨k1, k2, fp, v, upd, k3, k4, k5⟩ := h2
          exact ⟨⟨fp, v, upd⟩, hstep _ (by unfold CallStep; rw [hg]; exact ⟨f, args, hc, k1, k2, k3⟩), k4, k5⟩
        · exact h2.elim
      | some jw =>
        obtain ⟨j, want⟩ := jw
        simp only [hg] at h2
        split at h2
        · rename_i g hgo
          unfold callGD at h2
          split at h2
          · rename_i f args hc
            obtain ⟨k1, k2, fp, v, k3, k4, k5⟩ := h2
            exact ⟨⟨fp, .cnd g v, []⟩, hstep _ (by unfold CallStep; rw [hg]; simp only [hgo]; exact ⟨f, args, v, hc, k1, k2, k3, rfl, rfl⟩), k4, k5⟩
          · exact h2.elim
        · exact h2.elim
theorem evD_go {l : List It} {log : Log} {s : St} (h : (goD tt ds l log True s).1 ∧ restD P tt ds (goD tt ds l log True s).2.1 (goD tt ds l log True s).2.2.1 K (goD tt ds l log True s).2.2.2) : evD P tt ds l log s K := (goD_ok h.1 h.2).1
theorem callP {f : FuncId} {args args' : List V} {ow : List Own} {r : V} {Q : List Nat → V → List (Nat × Own) → Prop} (hv : vmaps (fv ow) args = some args') (hp : Pure P f args' r) (h : Q (idss args) r []) : ∃ fp v upd, Run P f args fp ow v upd ∧ Q fp v upd := ⟨_, r, [], run_pure hp hv, h⟩
theorem callL {f : FuncId} {args args' : List V} {ow : List Own} {r : V} {Q : List Nat → V → List (Nat × Own) → Prop} (hv : vmaps (dv 4 ow) args = some args') (hp : Pure P f args' r) (hf : r.flat = true) (h : Q (dvI 4 ow args) r []) : ∃ fp v upd, Run P f args fp ow v upd ∧ Q fp v upd := ⟨_, r, [], run_lent 4 hp hv hf, h⟩
theorem callE {f : FuncId} {args : List V} {fp : List Nat} {ow : List Own} {r : V} {upd : List (Nat × Own)} {Q : List Nat → V → List (Nat × Own) → Prop} (hp : Run P f args fp ow r upd) (h : Q fp r upd) : ∃ fp v upd, Run P f args fp ow v upd ∧ Q fp v upd := ⟨fp, r, upd, hp, h⟩
theorem callEG {f : FuncId} {args : List V} {fp : List Nat} {ow : List Own} {r : V} {g : Bool} {Q : List Nat → V → Prop} (hp : g = true → Run P f args fp ow r []) (h : Q fp r) : ∃ fp v, (g = true → Run P f args fp ow v []) ∧ Q fp v := ⟨_, r, hp, h⟩
theorem callE0 {f : FuncId} {args : List V} {fp : List Nat} {ow : List Own} {r : V} {Q : List Nat → V → Prop} (hp : Run P f args fp ow r []) (h : Q fp r) : ∃ fp v, Run P f args fp ow v [] ∧ Q fp v := ⟨_, r, hp, h⟩
theorem callP0 {f : FuncId} {args args' : List V} {ow : List Own} {r : V} {Q : List Nat → V → Prop} (hv : vmaps (fv ow) args = some args') (hp : Pure P f args' r) (h : Q (idss args) r) : ∃ fp v, Run P f args fp ow v [] ∧ Q fp v := ⟨_, r, run_pure hp hv, h⟩
theorem callL0 {f : FuncId} {args args' : List V} {ow : List Own} {r : V} {Q : List Nat → V → Prop} (hv : vmaps (dv 4 ow) args = some args') (hp : Pure P f args' r) (hf : r.flat = true) (h : Q (dvI 4 ow args) r) : ∃ fp v, Run P f args fp ow v [] ∧ Q fp v := ⟨_, r, run_lent 4 hp hv hf, h⟩
theorem callPG {f : FuncId} {args args' : List V} {ow : List Own} {r : V} {g : Bool} {Q : List Nat → V → Prop} (hv : vmaps (fv ow) args = some args') (hp : g = true → Pure P f args' r) (h : Q (idss args) r) : ∃ fp v, (g = true → Run P f args fp ow v []) ∧ Q fp v := ⟨_, r, fun hg => run_pure (hp hg) hv, h⟩
theorem callLG {f : FuncId} {args args' : List V} {ow : List Own} {r : V} {g : Bool} {Q : List Nat → V → Prop} (hv : vmaps (dv 4 ow) args = some args') (hp : g = true → Pure P f args' r) (hf : r.flat = true) (h : Q (dvI 4 ow args) r) : ∃ fp v, (g = true → Run P f args fp ow v []) ∧ Q fp v := ⟨_, r, fun hg => run_lent 4 (hp hg) hv hf, h⟩
end
def lkT : List (TypeId × TI) → TypeId → TI
  | [], _ => {}
  | (t, i) :: r, x => if x = t then i else lkT r x
theorem lkT_mem : ∀ {L : List (TypeId × TI)} (x : TypeId), lkT L x = {} ∨ (x, lkT L x) ∈ L
  | [], _ => .inl rfl
  | (t, i) :: r, x => by
    unfold lkT
    split
    · rename_i h; subst h; exact .inr (List.mem_cons_self ..)
    · rcases lkT_mem (L := r) x with h | h
      · exact .inl h
      · exact .inr (List.mem_cons_of_mem _ h)
theorem own_none : ({} : TI).Own := ⟨rfl, rfl, rfl, fun h => absurd rfl h⟩
theorem lkT_ok {P : Program} {L : List (TypeId × TI)} (h : ∀ p ∈ L, TI.Facts P p.1 p.2 ∧ p.2.Own) : TT.Ok P (lkT L) where
  facts t hk := by
    rcases lkT_mem (L := L) t with h1 | h1
    · rw [h1] at hk; exact absurd rfl hk
    · exact (h _ h1).1
  own t := by
    rcases lkT_mem (L := L) t with h1 | h1
    · rw [h1]; exact own_none
    · exact (h _ h1).2
end Go.K
namespace Go.K
open Go Go.RowKit
def fin (P : Program) (tt : TT) (ds : List (Option Tmp)) (K : St → Prop) : Prop × St × List (Nat × Oper) → Prop
  | (p, s, r) => p ∧ rest P tt ds s K r
def finD (P : Program) (tt : TT) (ds : List (Option Tmp)) (K : St → Prop) : Prop × St × Log × List It → Prop
  | (p, s, log, r) => p ∧ restD P tt ds s log K r
section
variable {P : Program} {m : Nat} {s : St} {tt : TT} {ds : List (Option Tmp)} {K : St → Prop}
theorem evOps_fin {l : List (Nat × Oper)} (h : fin P tt ds K (go tt ds l True s)) : evOps P tt ds l s K := evOps_go h
theorem evD_fin {l : List It} {log : Log} (h : finD P tt ds K (goD tt ds l log True s)) : evD P tt ds l log s K := evD_go h
theorem evr (ht : tt.Ok P) (nw : Bool) {id : Nat} {l : List Oper} {Q : Exit → St → Prop} (h : fin P tt (dsts l) (fun s' => Q .normal s') (go tt (dsts l) (tag nw l s.ow.length) True ⟨s.n, s.tm, s.ow ++ frees nw l⟩)) :
    EV P m (.region id l.toArray false) Q s := ev_region ht nw (evOps_fin h)
theorem evrd (hm : P.follows .mixedOrders = true) (ht : tt.Ok P) (nw : Bool) {id : Nat} {l : List Oper} (ann : List (List Nat × Bool)) (hok : okD nw l ann = true) {Q : Exit → St → Prop} (h : finD P tt (dsts l) (fun s' => Q .normal s') (goD tt (dsts l) (its nw l 0 s.ow.length ann) [] True ⟨s.n, s.tm, s.ow ++ frees nw l⟩)) :
    EV P m (.region id l.toArray true) Q s := ev_region_draw hm ht nw ann hok (evD_fin h)
theorem evc {c : Operand} {x y : Code} {Q : Exit → St → Prop} (h : ∀ X Y : Prop, (EV P m x Q s → X) → (EV P m y Q s → Y) → condQ (s.rd c) X Y) : EV P m (.cond c x y) Q s :=
  ev_cond (h _ _ (fun h => h) (fun h => h))
end
theorem callX {Q : List Nat → V → Prop} (h : Q [] .un) : ∃ fp v, Q fp v := ⟨_, _, h⟩
theorem getD_map {α : Type} {f : α → List V} {l : List α} {k : Nat} {z : List V} {d : α} (h : z = f d) : (l.map f).getD k z = f (l.getD k d) := by
  subst h; simp only [List.getD_eq_getElem?_getD, List.getElem?_map]; cases l[k]? <;> rfl
theorem ap_get0 (F l : List Own) : (F ++ l)[F.length]? = l[0]? := by rw [List.getElem?_append_right (Nat.le_refl _)]; simp
theorem ap_getk (F l : List Own) (k : Nat) : (F ++ l)[F.length + k]? = l[k]? := by rw [List.getElem?_append_right (by omega)]; simp
theorem ap_get (F l : List Own) {i : Nat} (h : i < F.length) : (F ++ l)[i]? = F[i]? := List.getElem?_append_left h
theorem ap_set0 (F l : List Own) (o : Own) : (F ++ l).set F.length o = F ++ l.set 0 o := by rw [List.set_append_right _ _ (Nat.le_refl _)]; simp
theorem ap_setk (F l : List Own) (k : Nat) (o : Own) : (F ++ l).set (F.length + k) o = F ++ l.set k o := by rw [List.set_append_right _ _ (by omega)]; simp
theorem ap_set (F l : List Own) {i : Nat} (h : i < F.length) (o : Own) : (F ++ l).set i o = F.set i o ++ l := List.set_append_left _ _ h
theorem aps_get0 (F l : List Own) (i : Nat) (p : Own) : (F.set i p ++ l)[F.length]? = l[0]? := by have := ap_get0 (F.set i p) l; rwa [List.length_set] at this
theorem aps_getk (F l : List Own) (i k : Nat) (p : Own) : (F.set i p ++ l)[F.length + k]? = l[k]? := by have := ap_getk (F.set i p) l k; rwa [List.length_set] at this
theorem aps_set0 (F l : List Own) (i : Nat) (p o : Own) : (F.set i p ++ l).set F.length o = F.set i p ++ l.set 0 o := by have := ap_set0 (F.set i p) l o; rwa [List.length_set] at this
theorem aps_setk (F l : List Own) (i k : Nat) (p o : Own) : (F.set i p ++ l).set (F.length + k) o = F.set i p ++ l.set k o := by have := ap_setk (F.set i p) l k o; rwa [List.length_set] at this
theorem aps_get {F l : List Own} {i : Nat} (h : i < F.length) (p : Own) : (F.set i p ++ l)[i]? = some p := by rw [List.getElem?_append_left (by simpa using h), List.getElem?_set_self h]
theorem aps_set {F l : List Own} {i : Nat} (h : i < F.length) (p o : Own) : (F.set i p ++ l).set i o = F.set i o ++ l := by rw [List.set_append_left _ _ (by simpa using h), List.set_set]
theorem set_get {F : List Own} {i : Nat} (h : i < F.length) (p : Own) : (F.set i p)[i]? = some p := List.getElem?_set_self h
theorem w64 {x : Int} (h1 : -9223372036854775808 ≤ x) (h2 : x ≤ 9223372036854775807) : IntKind.i64.wrap x = x := by rw [IntKind.wrap_i64]; omega
theorem cond_and (c b : Bool) : (bif c then b else false) = (c && b) := by cases c <;> rfl
theorem cond_or (c b : Bool) : (bif c then true else b) = (c || b) := by cases c <;> rfl
theorem tmod_neg {a b : Int} (hb : 0 < b) (h : a.tmod b < 0) : a.tmod b + b = a % b := by
  have e := Int.tmod_eq_emod (a := a) (b := b)
  have h1 := Int.emod_nonneg a (Int.ne_of_gt hb)
  have h2 := Int.emod_lt_of_pos a hb
  split at e <;> omega
theorem tmod_nonneg {a b : Int} (hb : 0 < b) (h : ¬ a.tmod b < 0) : a.tmod b = a % b := by
  have e := Int.tmod_eq_emod (a := a) (b := b)
  have h1 := Int.emod_nonneg a (Int.ne_of_gt hb)
  have h2 := Int.emod_lt_of_pos a hb
  split at e <;> omega
attribute [go_sem] cond_and cond_or ge_iff_le gt_iff_lt fin finD go goD rest restD callU callG callUD callGD stepF stepU stepG pickV offV resU resG callOf gdOf gOf St.gv St.rd St.put St.app rds unc uncs unc1 uncP lk dlt dsts tag frees news its app
  sem semNew semLoad semStore semNil semField semFieldV semIndex semIndexV fills okFlds semBuild repl chunk semBuildSlice semExtract semUn cellsEq sameKinds okv okp semPtrNil semBin semConv semLen minmax V.sl? semAppend semMake boundOf semSlice semNoRoom semBuiltin
  V.mk V.cells? setCells TI.isAgg V.of1 V.of1s V.ones V.one V.ofConst
  logAdd confQ confs memN dis keys condQ thenQ blockQ bodyQ bodyR resOne resPre resAll resTup number
  vmap vmaps vrows dv fv V.flat flats flatRows V.lit lits litRows V.ids idss dvI rowsOf V.under unders rowsUnder ownUnder upds app fitO fitOs fitT fits
  Op.operands Call.operands
  List.getD_cons_zero List.getD_cons_succ List.getD_nil List.getElem?_cons_zero List.getElem?_cons_succ List.getElem?_nil
  List.set_cons_zero List.set_cons_succ List.set_nil List.drop_succ_cons List.drop_zero List.take_succ_cons List.take_zero List.drop_nil List.take_nil
  List.cons_append List.nil_append List.append_nil List.length_cons List.length_nil List.zip_cons_cons List.zip_nil_left List.zip_nil_right
  List.map_cons List.map_nil List.all_cons List.all_nil List.append_toArray List.replicate_succ List.replicate_zero List.flatMap_cons List.flatMap_nil List.toList_toArray
  Option.map_some Option.map_none Option.some.injEq Prod.mk.injEq
  true_and and_true if_true if_false Bool.false_eq_true and_self true_imp_iff not_false_eq_true ne_eq
  Bool.not_true Bool.not_false false_imp_iff true_or or_true false_or or_false beq_self_eq_true Bool.and_true Bool.true_and decide_true decide_false
  Bool.cond_true Bool.cond_false Bool.true_eq_false Bool.or_self Bool.or_false Bool.false_or Bool.or_true Bool.true_or Bool.and_self Bool.and_false Bool.false_and List.set_set imp_self implies_true
  List.length_map List.take_length List.length_append
  Int.toNat_zero Int.toNat_one Nat.zero_add Nat.add_zero Nat.sub_zero Nat.zero_mul
end Go.K
namespace Go.K
open Go Go.ChangeShapes Go.WideShapes Go.ChangeAt Go.RowKit
set_option linter.unusedVariables false
def worldE (w : World) : Ext := fun b => match w.heap[b]? with | some (.cells cs _ _) => some cs | _ => none
theorem worldE_in (w : World) : (worldE w).In w := by
  intro b cs h
  unfold worldE at h
  split at h
  · rename_i c t fr e
    injection h with h
    subst h
    exact ⟨t, fr, e⟩
  · cases h
theorem worldE_cell {w : World} {a : Addr} {x : Value} (h : w.cell? a = some x) : a.spot = none ∧ (worldE w).cell a.block a.off = some x := by
  unfold World.cell? at h
  unfold Ext.cell worldE
  split at h
  · rename_i c t fr e
    rw [e]
    split at h
    · cases h
    · rename_i hs
      exact ⟨by cases hq : a.spot <;> simp_all, h⟩
  · cases h
theorem calls_true {P : Program} {f : FuncId} {args : List V} {vs : List Value} {W : World} (h : Pure P f args (.bool true)) (hv : IsAll (worldE W) [] args vs) :
    Calls P f vs.toArray W fun e w' => e = .returned (.bool true) ∧ Below W.heap.size W w' := by
  refine (h.run W (worldE W) vs (worldE_in W) hv).mono fun e w' hq => ?_
  obtain ⟨v, E', rfl, hb, _, _, _, _, hr⟩ := hq
  unfold V.Is at hr
  exact ⟨by rw [hr], hb⟩
section
variable {H : Type} {enc : TypeId × Value → H} {P : Program}
theorem trodAll_kept (hl : laidOutB P = true) {W W' : World} (hb : Below W.heap.size W W') : ∀ {ts : List TypeId} {vs : List Value} {ds : List (DataW H)} {ps : List MemPlace},
    (∀ t ∈ ts, P.readableRec t = true ∧ t < P.types.size) → (∀ x ∈ ps, x.block < W.heap.size) → DataW.TrodAll enc P W 0 (fun _ => true) true ts vs ds ps → DataW.TrodAll enc P W' 0 (fun b => decide (b < W.heap.size)) true ts vs ds ps
  | [], [], [], ps, _, _, h => h
  | t :: ts, v :: vs, d :: ds, ps, hr, hlt, h => by
    obtain ⟨p, q, h1, h2, rfl⟩ := h
    exact ⟨p, q, Below.trod hl (hr t (List.mem_cons_self ..)).1 (hr t (List.mem_cons_self ..)).2 h1 hb (fun x hx => hlt x (List.mem_append_left _ hx)),
      trodAll_kept hl hb (fun t ht => hr t (List.mem_cons_of_mem _ ht)) (fun x hx => hlt x (List.mem_append_right _ hx)) h2, rfl⟩
  | [], [], _ :: _, _, _, _, h => by simp [DataW.TrodAll] at h
  | [], _ :: _, _, _, _, _, h => by simp [DataW.TrodAll] at h
  | _ :: _, [], _, _, _, _, h => by simp [DataW.TrodAll] at h
  | _ :: _, _ :: _, [], _, _, _, h => by simp [DataW.TrodAll] at h
theorem post_law {f : Func} {s : ChangeSpec} {apart fresh handsOn : Bool} {W W' : World} {args : Array Value} {ds gs : List (DataW H)} {before : List MemPlace} {t : TypeId}
    (hl : laidOutB P = true) (hp0 : (f.params.toList.all fun t => P.readableRec t && decide (t < P.types.size)) = true) (hs : s.vars = [])
    (hW : DataW.Whole enc P f.params.toList s.vars apart W args.toList ds gs before) (hb : Below W.heap.size W W')
    (hr : f.resultTypes = #[t]) (ht : P.underlying t = some .bool) (he : s.fn H (ds ++ gs) = { results := [.lit (.bool true)], args := ds }) :
    s.post enc P f apart fresh handsOn false W args (.bool true) W' := by
  have hp : ∀ t ∈ f.params.toList, P.readableRec t = true ∧ t < P.types.size := fun t ht => by simpa using List.all_eq_true.1 hp0 t ht
  have hlt := hW.lt
  have hW' := hW
  obtain ⟨p, q, hA, hV, rfl, _, _⟩ := hW
  have hV' : q = [] ∧ gs = [] := by
    rw [hs] at hV
    cases gs with
    | nil => exact ⟨hV, rfl⟩
    | cons g r => simp [DataW.TrodVars] at hV
  obtain ⟨rfl, rfl⟩ := hV'
  refine ⟨ds, [], _, [], p, [], hW', ?_, ?_, ?_, World.keptBut_mono (fun x hx => hx.elim) (hb.frame fun _ => False), fun h => by cases h⟩
  · rw [he, hr]
    exact ⟨[], [], shut_bool ht true, rfl, rfl⟩
  · rw [he]
    exact trodAll_kept hl hb hp (fun x hx => hlt x (List.mem_append_left _ hx)) hA
  · rw [he, hs]
    rfl
end
theorem Pure.weak {P : Program} {f : FuncId} {args : List V} {r r' : V} (h : Pure P f args r) (hr : ∀ (E : Ext) (v : Value), r.Is E [] v → r'.Is E [] v) : Pure P f args r' :=
  ⟨h.enters, fun w E vs hi ha => (h.run w E vs hi ha).mono fun e w' hq => by
    obtain ⟨v, E', h1, h2, hd, h3, h4, h5, h6⟩ := hq
    exact ⟨v, E', h1, h2, hd, h3, h4, h5, hr _ _ h6⟩⟩
theorem emp_sl {E : Ext} {L : List Loc} {v : Value} (h : V.emp.Is E L v) : (V.sl []).Is E L v := by
  unfold V.Is at *
  obtain ⟨A, rfl⟩ := h
  exact ⟨A, 0, rfl, Nat.le_refl _, .inl rfl⟩
theorem tup_fst {E : Ext} {x x' : V} {xs : List V} {v : Value} (h : (V.tup (x :: xs)).Is E [] v) (hx : ∀ u, x.Is E [] u → x'.Is E [] u) : (V.tup (x' :: xs)).Is E [] v := by
  rw [V.Is] at h ⊢
  obtain ⟨vs, rfl, h⟩ := h
  rw [IsAll] at h
  obtain ⟨u, r, rfl, hu, hr⟩ := h
  refine ⟨_, rfl, ?_⟩
  rw [IsAll]
  exact ⟨u, r, rfl, hx u hu, hr⟩
structure Rd (P : Program) (t : TypeId) {α : Type} (e : α → List V) (ok : α → Prop) : Prop where
  rd : ∀ {H : Type} (enc : TypeId × Value → H) (w : World) (held : Bool) (fuel : Nat) (cs : List Value) (x : DataW H × List MemPlace),
    DataW.trod enc P w 0 (fun _ => true) held fuel t cs = some x → ∃ a, ok a ∧ IsOnes (worldE w) [] (e a) cs
theorem isOnes_mk {E : Ext} {x : V} {v : Value} (h1 : x.one = true) (h : x.Is E [] v) : IsOnes E [] [x] [v] := by
  unfold IsOnes IsOnes
  exact ⟨v, [], rfl, h1, h, rfl⟩
def inKind (k : IntKind) (n : Int) : Prop := k.min ≤ n ∧ n ≤ k.max
theorem rd_int {P : Program} {t : TypeId} {k : IntKind} (ht : P.underlying t = some (.int k)) : Rd P t (fun n : Int => [.int k n]) (inKind k) := by
  refine ⟨?_⟩
  intro H enc w held fuel cs x h
  obtain ⟨n, rfl, _, hw⟩ := DataW.trod_int ht h
  refine ⟨n, ?_, isOnes_mk rfl (by unfold V.Is; rfl)⟩
  simpa [Lit.wf, inKind] using hw
theorem cellsAt_mk {E : Ext} {b : Nat} : ∀ {o : Nat} {xs : List V} {vs : List Value}, IsOnes E [] xs vs → (∀ i, i < vs.length → E.cell b (o + i) = vs[i]?) → CellsAt E b o xs
  | _, [], _, _, _ => by unfold CellsAt; trivial
  | o, x :: xs, vs, h, hc => by
    unfold IsOnes at h
    obtain ⟨v, r, rfl, h1, hv, h⟩ := h
    unfold CellsAt
    refine ⟨h1, ⟨v, by simpa using hc 0 (by simp), hv⟩, cellsAt_mk h fun i hi => ?_⟩
    have := hc (i + 1) (by simpa using hi)
    rw [show o + 1 + i = o + (i + 1) by omega, this]
    rfl
theorem add_off (a : Addr) (n : Nat) : (a.add n).block = a.block ∧ (a.add n).off = a.off + n := by
  unfold Addr.add
  split <;> simp_all
theorem rowsAt_mk {E : Ext} {b sz : Nat} : ∀ {o : Nat} {rows : List (List V)}, (∀ i r, rows[i]? = some r → r.length = sz ∧ CellsAt E b (o + i * sz) r) → RowsAt E b sz o rows
  | _, [], _ => by unfold RowsAt; trivial
  | o, r :: rs, h => by
    unfold RowsAt
    obtain ⟨h1, h2⟩ := h 0 r rfl
    refine ⟨h1, by simpa using h2, rowsAt_mk fun i x hx => ?_⟩
    have := h (i + 1) x hx
    rw [show o + sz + i * sz = o + (i + 1) * sz by rw [Nat.add_mul]; omega]
    exact this
theorem choose_list {α β : Type} {p : Nat → α → Prop} : ∀ (n : Nat), (∀ i, i < n → ∃ a, p i a) → ∃ l : List α, l.length = n ∧ ∀ i a, l[i]? = some a → p i a
  | 0, _ => ⟨[], rfl, fun i a h => by simp at h⟩
  | n + 1, h => by
    obtain ⟨l, h1, h2⟩ := choose_list (β := β) n (fun i hi => h i (by omega))
    obtain ⟨a, ha⟩ := h n (by omega)
    refine ⟨l ++ [a], by simp [h1], fun i x hx => ?_⟩
    rcases Nat.lt_or_ge i n with hi | hi
    · rw [List.getElem?_append_left (by omega)] at hx
      exact h2 i x hx
    · rw [List.getElem?_append_right (by omega)] at hx
      have : i = n := by
        have := (List.getElem?_eq_some_iff.1 hx).1
        simp at this
        omega
      subst this
      simp [h1] at hx
      subst hx
      exact ha
theorem rd_slice {P : Program} {t u : TypeId} {α : Type} {e : α → List V} {ok : α → Prop} (ht : P.underlying t = some (.slice u)) (he : Rd P u e ok) (hn : ∀ a, (e a).length = P.cellsOf u) (hz : 0 < P.cellsOf u) :
    Rd P t (fun l : List α => [.sl (l.map e)]) (fun l => l.length ≤ maxLen ∧ ∀ a ∈ l, ok a) := by
  refine ⟨?_⟩
  intro H enc w held fuel cs x h
  rcases DataW.trod_slice ht h with ⟨rfl, _⟩ | ⟨a, len, cap, elems, rest, n, _, rfl, _, _, hl, hm, hlen, hel, _⟩
  · refine ⟨[], ⟨Nat.zero_le _, fun a h => by cases h⟩, isOnes_mk rfl ?_⟩
    unfold V.Is
    exact ⟨none, 0, rfl, Nat.le_refl _, .inl rfl⟩
  · have each : ∀ i, i < len → ∃ z, ok z ∧ CellsAt (worldE w) a.block (a.off + i * P.cellsOf u) (e z) ∧ (0 < len → a.spot = none) := by
      intro i hi
      have hq := hel i hi
      have hi2 : i < elems.length := by omega
      rw [List.getElem?_eq_getElem hi2] at hq
      cases hc : w.cells? 0 (a.add (i * P.cellsOf u)) (P.cellsOf u) with
      | none => rw [hc] at hq; cases hq
      | some cs =>
        rw [hc] at hq
        obtain ⟨z, hz1, hz2⟩ := he.rd enc w held n cs _ hq
        obtain ⟨_, hcl, hcc⟩ := World.cells?_some hc
        refine ⟨z, hz1, cellsAt_mk hz2 fun j hj => ?_, fun _ => ?_⟩
        · have h1 := hcc j (by omega)
          have h2 : cs[j]? = some cs[j] := List.getElem?_eq_getElem hj
          rw [h2] at h1 ⊢
          have h3 := (worldE_cell h1).2
          rw [(add_off _ _).1, (add_off _ _).1, (add_off _ _).2, (add_off _ _).2] at h3
          exact h3
        · have h0 := hel 0 (by omega)
          rw [List.getElem?_eq_getElem (show 0 < elems.length by omega)] at h0
          cases hc0 : w.cells? 0 (a.add (0 * P.cellsOf u)) (P.cellsOf u) with
          | none => rw [hc0] at h0; cases h0
          | some cs0 =>
            obtain ⟨_, hcl0, hcc0⟩ := World.cells?_some hc0
            have h1 := hcc0 0 hz
            have h2 : cs0[0]? = some cs0[0] := List.getElem?_eq_getElem (by omega)
            rw [h2] at h1
            have h3 := (worldE_cell h1).1
            simpa [Addr.add] using h3
    obtain ⟨l, hll, hlp⟩ := choose_list (β := Unit) len each
    refine ⟨l, ⟨by omega, fun a ha => ?_⟩, isOnes_mk rfl ?_⟩
    · obtain ⟨i, hi⟩ := List.getElem?_of_mem ha
      exact (hlp i a hi).1
    · unfold V.Is
      refine ⟨some a, cap, by simp [hll], by simp [hll, hl], ?_⟩
      cases l with
      | nil => exact .inl rfl
      | cons z r =>
        right
        have hs := (hlp 0 z rfl).2.2 (by simp at hll; omega)
        refine ⟨a.block, a.off, P.cellsOf u, by cases a; simp_all, rowsAt_mk fun i row hr => ?_⟩
        rw [List.getElem?_map] at hr
        cases hq : (z :: r)[i]? with
        | none => rw [hq] at hr; cases hr
        | some y =>
          rw [hq] at hr
          injection hr with hr
          subst hr
          exact ⟨hn y, (hlp i y hq).2.1⟩
structure RdF (P : Program) (off : Nat) (fs : List Field) {α : Type} (e : α → List V) (ok : α → Prop) (n : Nat) : Prop where
  rd : ∀ {H : Type} (enc : TypeId × Value → H) (w : World) (held : Bool) (fuel : Nat) (cs : List Value), cs.length = off + n →
    (∀ f ∈ fs, ∃ x, DataW.trod enc P w 0 (fun _ => true) held fuel f.type ((cs.drop f.offset).take (P.cellsOf f.type)) = some x) → ∃ a, ok a ∧ IsOnes (worldE w) [] (e a) (cs.drop off)
theorem rdf_nil {P : Program} {off : Nat} : RdF P off [] (fun _ : Unit => []) (fun _ => True) 0 := by
  refine ⟨?_⟩
  intro H enc w held fuel cs hl _
  refine ⟨(), trivial, ?_⟩
  unfold IsOnes
  exact List.drop_eq_nil_of_le (by omega)
theorem ones_append {E : Ext} {L : List Loc} : ∀ {xs ys : List V} {us vs : List Value}, IsOnes E L xs us → IsOnes E L ys vs → IsOnes E L (xs ++ ys) (us ++ vs)
  | [], _, us, _, h, k => by
    unfold IsOnes at h
    subst h
    exact k
  | x :: xs, _, us, _, h, k => by
    unfold IsOnes at h
    obtain ⟨v, r, rfl, h1, hv, h⟩ := h
    show IsOnes E L (x :: (xs ++ _)) _
    unfold IsOnes
    exact ⟨v, _, rfl, h1, hv, ones_append h k⟩
theorem rdf_cons {P : Program} {off k n : Nat} {f : Field} {fs : List Field} {α β : Type} {e1 : α → List V} {ok1 : α → Prop} {e2 : β → List V} {ok2 : β → Prop}
    (hf : f.offset = off) (h1 : Rd P f.type e1 ok1) (hk : P.cellsOf f.type = k) (h2 : RdF P (off + k) fs e2 ok2 n) :
    RdF P off (f :: fs) (fun p : α × β => e1 p.1 ++ e2 p.2) (fun p => ok1 p.1 ∧ ok2 p.2) (k + n) := by
  refine ⟨?_⟩
  intro H enc w held fuel cs hl hx
  obtain ⟨x, hx1⟩ := hx f (List.mem_cons_self ..)
  obtain ⟨a, ha, hia⟩ := h1.rd enc w held fuel _ x hx1
  obtain ⟨b, hb, hib⟩ := h2.rd enc w held fuel cs (by omega) (fun g hg => hx g (List.mem_cons_of_mem _ hg))
  refine ⟨(a, b), ⟨ha, hb⟩, ?_⟩
  rw [hf, hk] at hia
  have : cs.drop off = (cs.drop off).take k ++ cs.drop (off + k) := by rw [← List.drop_drop, List.take_append_drop]
  rw [this]
  exact ones_append hia hib
theorem rd_struct {P : Program} {t : TypeId} {fs : Array Field} {α : Type} {e : α → List V} {ok : α → Prop} {n : Nat} (ht : P.underlying t = some (.struct fs)) (hn : P.cellsOf t = n) (h : RdF P 0 fs.toList e ok n) : Rd P t e ok := by
  refine ⟨?_⟩
  intro H enc w held fuel cs x hx
  obtain ⟨xs, m, rfl, _, hl, hs, hf⟩ := DataW.trod_struct ht hx
  obtain ⟨a, ha, hi⟩ := h.rd enc w held m cs (by omega) (fun f hm => by
    obtain ⟨i, hi⟩ := List.getElem?_of_mem hm
    have h1 : fs[i]? = some f := by rw [← Array.getElem?_toList]; exact hi
    have h2 := hf i f h1
    have h3 : i < xs.length := by rw [hs]; exact (Array.getElem?_eq_some_iff.1 h1).1
    rw [List.getElem?_eq_getElem h3] at h2
    exact ⟨_, h2⟩)
  exact ⟨a, ha, by simpa using hi⟩
theorem rd_to {P : Program} {t : TypeId} {α β : Type} {e : α → List V} {ok : α → Prop} {e' : β → List V} {ok' : β → Prop} (h : Rd P t e ok) (g : α → β) (he : ∀ a, e' (g a) = e a) (hok : ∀ a, ok a → ok' (g a)) : Rd P t e' ok' := by
  refine ⟨?_⟩
  intro H enc w held fuel cs x hx
  obtain ⟨a, ha, hi⟩ := h.rd enc w held fuel cs x hx
  exact ⟨g a, hok a ha, by rw [he]; exact hi⟩
section
variable {H : Type} {enc : TypeId × Value → H} {P : Program} {W : World} {r : Reach} {b0 : Nat} {t : TypeId} {v : Value} {d : DataW H} {ps : List MemPlace}
theorem ones_is {E : Ext} {x : V} {v : Value} (h : IsOnes E [] [x] [v]) : x.Is E [] v := by
  unfold IsOnes at h
  obtain ⟨u, r, e, _, h, _⟩ := h
  injection e with e
  subst e
  exact h
theorem arg_slice {e : TypeId} {α : Type} {en : α → List V} {ok : α → Prop} (ht : P.underlying t = some (.slice e)) (he : Rd P e en ok) (hn : ∀ a, (en a).length = P.cellsOf e) (hz : 0 < P.cellsOf e)
    (hv : Value.okWide P W r b0 t v) (hd : DataW.Trod enc P W 0 (fun _ => true) true t v d ps) : ∃ l : List α, (l.length ≤ maxLen ∧ ∀ a ∈ l, ok a) ∧ (V.sl (l.map en)).Is (worldE W) [] v := by
  obtain ⟨a, len, cap, rfl⟩ := okWide_slice ht hv
  obtain ⟨fuel, hf⟩ := hd
  obtain ⟨l, hl, hi⟩ := (rd_slice ht he hn hz).rd enc W true fuel _ _ hf
  exact ⟨l, hl, ones_is hi⟩
theorem arg_struct {fs : Array Field} {α : Type} {en : α → List V} {ok : α → Prop} (ht : P.underlying t = some (.struct fs)) (he : Rd P t en ok)
    (hv : Value.okWide P W r b0 t v) (hd : DataW.Trod enc P W 0 (fun _ => true) true t v d ps) : ∃ a : α, ok a ∧ (V.agg (en a)).Is (worldE W) [] v := by
  simp only [Value.okWide, ht] at hv
  obtain ⟨cs, rfl, _⟩ := hv
  obtain ⟨fuel, hf⟩ := hd
  obtain ⟨a, ha, hi⟩ := he.rd enc W true fuel _ _ hf
  refine ⟨a, ha, ?_⟩
  unfold V.Is
  exact ⟨cs.toList, by simp, by simpa [Value.cells] using hi⟩
theorem all_nil {E : Ext} : IsAll E [] [] [] := by unfold IsAll; rfl
theorem all_cons {E : Ext} {x : V} {xs : List V} {v : Value} {vs : List Value} (h : x.Is E [] v) (hs : IsAll E [] xs vs) : IsAll E [] (x :: xs) (v :: vs) := by
  unfold IsAll
  exact ⟨v, vs, rfl, h, hs⟩
end
end Go.K
namespace Go.K
open Go Go.ChangeShapes Go.WideShapes Go.ChangeAt Go.RowKit
section
variable {H : Type} {enc : TypeId × Value → H} {P : Program} {W : World} {r : Reach} {b0 : Nat} {t : TypeId} {v : Value} {d : DataW H} {ps : List MemPlace}
end
end Go.K

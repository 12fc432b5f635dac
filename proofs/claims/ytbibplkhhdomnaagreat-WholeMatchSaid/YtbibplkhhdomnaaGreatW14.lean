import Derived.Test.YtbibplkhhdomnaaGreatW13
import Derived.MapKept
import Derived.Test.YtbibplkhhdomnaaGreatW12
set_option linter.all false
namespace Go.K
open Go Go.RowKit
section
variable {P : Program} {B : Nat} {w0 : World} {E0 E E' : Ext} {L0 L : List Loc} {s : St} {a : Act} {w : World} {o : Oper} {m : Nat}
structure RunX (P : Program) (f : FuncId) (args : List V) (ow : List Own) (X : Out → Prop) : Prop where
  enters : Enters P f
  run : ∀ B w0 E0 E L0 L n tm a w vs, RepE B w0 E0 E L0 L ⟨n, tm, ow⟩ a w → IsAll E L args vs →
    Calls P f vs.toArray w fun e w' => ∃ x v E' L', X x ∧ e = .returned v ∧ RepE B w0 E0 E' L0 L' ⟨n, tm, app ow x.upd⟩ a w' ∧ x.r.Is E' L' v
theorem RunX.mono {f : FuncId} {args : List V} {ow : List Own} {X Y : Out → Prop} (h : RunX P f args ow X) (k : ∀ x, X x → Y x) : RunX P f args ow Y where
  enters := h.enters
  run := fun B w0 E0 E L0 L n tm a w vs R ha => (h.run B w0 E0 E L0 L n tm a w vs R ha).mono fun e w' ⟨x, v, E', L', hx, r⟩ => ⟨x, v, E', L', k x hx, r⟩
theorem specS_call {q : Operand} {qs : Array Operand} {ts : Array TypeId} {f : FuncId} {xs : List V} {X : Out → Prop} (hr : RunX P f xs s.ow X) (hc : callOf s (.call ⟨.value q, qs, ts⟩) = some (f, xs)) (hu : uncP true (rds s (Op.call ⟨.value q, qs, ts⟩).operands.toList)) :
    SpecS P s (.call ⟨.value q, qs, ts⟩) X := by
  intro B w0 E0 E L0 L a w o ho R next Q k
  obtain ⟨vs, hrun, hargs⟩ := call_run (P := P) (o := o) R (by rw [ho]; exact hc) (by rw [ho]; exact hu)
  unfold Oper.wp
  rw [hrun, hr.enters, Oper.upon_enter]
  refine (hr.run B w0 E0 E L0 L s.n s.tm a w vs R hargs).mono ?_
  rintro e w' ⟨x, v, E', L', hx, rfl, R', hi⟩
  exact k x v w' E' L' hx R' hi
structure PureX (P : Program) (f : FuncId) (args : List V) (X : V → Prop) : Prop where
  enters : Enters P f
  run : ∀ w E vs, E.In w → IsAll E [] args vs →
    Calls P f vs.toArray w fun e w' => ∃ r v E', X r ∧ e = .returned v ∧ Below w.heap.size w w' ∧ w.drawn ≤ w'.drawn ∧ E.le E' ∧ (∀ b, b < w.heap.size → E' b = E b) ∧ E'.In w' ∧ r.Is E' [] v
theorem PureX.mono {f : FuncId} {args : List V} {X Y : V → Prop} (h : PureX P f args X) (k : ∀ x, X x → Y x) : PureX P f args Y where
  enters := h.enters
  run := fun w E vs hi ha => (h.run w E vs hi ha).mono fun e w' ⟨x, v, E', hx, r⟩ => ⟨x, v, E', k x hx, r⟩
theorem PureX.weak {f : FuncId} {args : List V} {X Y : V → Prop} (h : PureX P f args X) (k : ∀ x, X x → ∃ y, Y y ∧ ∀ E v, x.Is E [] v → y.Is E [] v) : PureX P f args Y where
  enters := h.enters
  run := fun w E vs hi ha => (h.run w E vs hi ha).mono fun e w' ⟨x, v, E', hx, h1, h2, h3, h4, h5, h6, h7⟩ => by
    obtain ⟨y, hy, hk⟩ := k x hx
    exact ⟨y, v, E', hy, h1, h2, h3, h4, h5, h6, hk E' v h7⟩
theorem pureX_of {f : FuncId} {args : List V} {r : V} (h : Pure P f args r) : PureX P f args fun x => x = r where
  enters := h.enters
  run := fun w E vs hi ha => (h.run w E vs hi ha).mono fun e w' ⟨v, E', h1⟩ => ⟨r, v, E', rfl, h1⟩
theorem runX_pure {f : FuncId} {args args' : List V} {ow : List Own} {X : V → Prop} (hp : PureX P f args' X) (hv : vmaps (fv ow) args = some args') : RunX P f args ow fun x => ∃ r, X r ∧ x = ⟨[], r, []⟩ where
  enters := hp.enters
  run := fun B w0 E0 E L0 L n tm a w vs R hargs => by
    refine (hp.run w E vs R.inn (fvs_is R hv hargs)).mono ?_
    rintro e w' ⟨r, v, E', hX, rfl, hb, hd, hle, hlow, hin, hres⟩
    refine ⟨_, v, E', L, ⟨r, hX, rfl⟩, rfl, ?_, is_nil hres⟩
    refine R.upd hle (fun b hbB => hlow b (by have := R.base; omega)) hin (hb.mono R.base) (Locs.to_refl L) R.len (fun id oo l ho hl => ?_) R.apart
    refine (R.owns id oo l ho hl).keep hle (Locs.to_refl L) (fun g hg => ?_)
    obtain ⟨_, h2, h3⟩ := (R.owns id oo l ho hl).lt g hg
    exact ⟨hb.block g h2, fun h => (hlow g h2).trans h⟩
theorem specS_pure {q : Operand} {qs : Array Operand} {ts : Array TypeId} {f : FuncId} {xs args' : List V} {X : V → Prop} (hr : PureX P f args' X) (hc : callOf s (.call ⟨.value q, qs, ts⟩) = some (f, xs)) (hu : uncP true (rds s (Op.call ⟨.value q, qs, ts⟩).operands.toList)) (hv : vmaps (fv s.ow) xs = some args') :
    SpecS P s (.call ⟨.value q, qs, ts⟩) fun x => ∃ r, X r ∧ x = ⟨[], r, []⟩ := specS_call (runX_pure hr hv) hc hu
def bodyX (tt : TT) (rs : List ResultVar) (X : V → Prop) (e : Exit) (s : St) : Prop := ∃ r, X r ∧ bodyQ tt rs r e s
theorem pureX_of_ev {tt : TT} (ht : tt.Ok P) {f : FuncId} {fn : Func} {c : Code} (hf : P.funcs[f]? = some fn) (hb : fn.body = some c) (hn : (fn.name == "runtime.NumGoroutine") = false) {args : List V} {X : V → Prop}
    (hl : args.length ≤ fn.ntmps) (h : EV P 0 c (bodyX tt fn.results.toList X) ⟨fn.ntmps, number 0 args, []⟩) : PureX P f args X := by
  refine ⟨enters_of hf hb hn, fun w E vs hin hargs => ?_⟩
  refine calls_of_wp hf hb ?_
  have R := RepE.start (B := w.heap.size) (w0 := w) (L := []) (s := ⟨0, [], []⟩) hin (Below.refl _ w) (Nat.le_refl _) (Nat.le_refl _) rfl (by simp) (by simp) hargs hl
  refine wp_mono (h _ _ _ [] _ _ (Nat.le_refl 0) ⟨E, [], R⟩) fun e a' w' hq => ?_
  obtain ⟨s', ⟨r, hX, hq⟩, E', L', R'⟩ := hq
  have fin : (resPre tt s' fn.results.toList ∧ (vmaps (dv 4 s'.ow) (resAll tt s' fn.results.toList)).map resTup = some r) →
      a'.defers = [] ∧ ∃ v, (results fn a'.tmps).run P w' = .ok v w' ∧ ∃ r v' E', X r ∧ (Ending.returned v = .returned v') ∧ Below w.heap.size w w' ∧ w.drawn ≤ w'.drawn ∧ E.le E' ∧ (∀ b, b < w.heap.size → E' b = E b) ∧ E'.In w' ∧ r.Is E' [] v' := by
    rintro ⟨hp, hys⟩
    obtain ⟨vs', hv, hall⟩ := res_run ht R' _ hp
    obtain ⟨E1, f1, f2, f3, f4, f5⟩ := R'.frzE (fun _ => True)
    cases hm : vmaps (dv 4 s'.ow) (resAll tt s' fn.results.toList) with
    | none => rw [hm] at hys; cases hys
    | some ys =>
      rw [hm] at hys
      simp only [Option.map_some, Option.some.injEq] at hys
      subst hys
      have hall1 : IsAll E1 [] ys vs' := vmaps_is (fun y y' u h1 hy hyi => by
        obtain ⟨q1, q2⟩ := dv_is R' f1 (fun id ty v sz rows g cap cur => f4 id ty v sz rows g cap cur trivial) 4 hy hyi
        exact ⟨q1, q2 h1⟩) f1 hm hall
      have hv' : (fn.results.mapM (resSem a'.tmps)).run P w' = .ok vs'.toArray w' := by
        rw [Array.mapM_eq_mapM_toList]
        simp [hv]
      exact ⟨R'.defers, _, by rw [results_eq]; simp only [Sem.run_bind, hv', Result.andThen_ok, Sem.run_pure], _, _, E1, hX, rfl, R'.below, R'.drawn, Ext.le_trans R'.le f1, fun b hbb => (f2 b hbb).trans (R'.low b hbb), f3, tup_is hall1⟩
  cases e with
  | normal => exact fin hq
  | ret => exact fin hq
  | exit id => exact (show False from hq).elim
  | goto l => exact (show False from hq).elim
  | panic c => exact (show False from hq).elim
  | outgrown => exact (show False from hq).elim
theorem fitsU {m n N : Nat} {tm tm' : List (Nat × V)} {F k l : List Own} (hN : N = F.length + l.length) (hm : m ≤ N) (hT : fitT N tm tm') (hF : allU N F) (hk : fitOs N k l) : fits m ⟨n, tm, F ++ k⟩ ⟨n, tm', F ++ l⟩ := by
  have e : (F ++ l).length = N := by rw [List.length_append, hN]
  refine ⟨rfl, ?_, ?_, ?_⟩
  · show m ≤ (F ++ l).length
    rw [e]; exact hm
  · show fitT (F ++ l).length tm tm'
    rw [e]; exact hT
  · show fitOs (F ++ l).length (F ++ k) (F ++ l)
    rw [e]; exact fitOs_pre hk hF
def bodyRX (tt : TT) (rs : List ResultVar) (ow : List Own) (X : Out → Prop) (e : Exit) (s : St) : Prop := ∃ x : Out, X x ∧ upds ow.length x.upd ∧ bodyR tt rs ow.length x.r (app ow x.upd) e s
theorem runX_of_ev {tt : TT} (ht : tt.Ok P) {f : FuncId} {fn : Func} {c : Code} (hf : P.funcs[f]? = some fn) (hb : fn.body = some c) (hn : (fn.name == "runtime.NumGoroutine") = false) {args : List V} {ow : List Own} {X : Out → Prop}
    (hl : args.length ≤ fn.ntmps) (h : allU ow.length ow → EV P ow.length c (bodyRX tt fn.results.toList ow X) ⟨fn.ntmps, number 0 args, ow⟩) : RunX P f args ow X := by
  refine ⟨enters_of hf hb hn, fun B w0 E0 E L0 L n tm a w vs R hargs => ?_⟩
  refine calls_of_wp hf hb ?_
  have hlen : L.length = ow.length := R.len
  have R1 := RepE.start (s := ⟨n, tm, ow⟩) R.inn R.below R.drawn R.base R.len R.owns R.apart hargs hl
  have hU : allU ow.length ow := fun o ho => by
    obtain ⟨k, hk, rfl⟩ := List.mem_iff_getElem.1 ho
    obtain ⟨l, hl⟩ := R.loc (List.getElem?_eq_getElem hk)
    rw [← hlen]
    exact own_under (R.owns k _ l (List.getElem?_eq_getElem hk) hl)
  refine wp_mono (h hU _ _ _ L _ _ (Nat.le_of_eq hlen) ⟨E, L, R1⟩) fun e a' w' hq => ?_
  obtain ⟨s', ⟨x, hX, hund, hq⟩, E', L', R'⟩ := hq
  have fin : (resPre tt s' fn.results.toList ∧ resTup (resAll tt s' fn.results.toList) = x.r ∧ unders ow.length (resAll tt s' fn.results.toList) ∧ ∃ extra, s'.ow = app ow x.upd ++ extra) →
      a'.defers = [] ∧ ∃ v, (results fn a'.tmps).run P w' = .ok v w' ∧ ∃ x v' E' L', X x ∧ (Ending.returned v = .returned v') ∧ RepE B w0 E0 E' L0 L' ⟨n, tm, app ow x.upd⟩ a w' ∧ x.r.Is E' L' v' := by
    rintro ⟨hp, hr, hu, extra, hex⟩
    obtain ⟨vs', hv, hall⟩ := res_run ht R' _ hp
    have hv' : (fn.results.mapM (resSem a'.tmps)).run P w' = .ok vs'.toArray w' := by
      rw [Array.mapM_eq_mapM_toList]
      simp [hv]
    have hXl : (app ow x.upd).length = ow.length := app_len
    have hfit : fitOs ow.length s'.ow (app ow x.upd) := by
      rw [hex]
      refine fitOs_refl extra fun o ho => ?_
      rcases app_mem ho with ho | ⟨p, hp, rfl⟩
      · obtain ⟨k, hk, rfl⟩ := List.mem_iff_getElem.1 ho
        obtain ⟨l, hl⟩ := R.loc (List.getElem?_eq_getElem hk)
        rw [← hlen]
        exact own_under (R.owns k _ l (List.getElem?_eq_getElem hk) hl)
      · exact upds_mem hund p hp
    have R2 := R'.weak (m := ow.length) (t := ⟨s'.n, [], app ow x.upd⟩) (Nat.le_of_eq hlen) ⟨rfl, Nat.le_of_eq hXl.symm, trivial, by rw [show (St.mk s'.n [] (app ow x.upd)).ow = app ow x.upd from rfl, hXl]; exact hfit⟩
    rw [show (St.mk s'.n [] (app ow x.upd)).ow = app ow x.upd from rfl, hXl] at R2
    refine ⟨R'.defers, _, by rw [results_eq]; simp only [Sem.run_bind, hv', Result.andThen_ok, Sem.run_pure]; rfl, x, _, E', _, hX, rfl, R.back R2, ?_⟩
    rw [← hr]
    exact tup_is (isAll_take hall hu)
  cases e with
  | normal => exact fin hq
  | ret => exact fin hq
  | exit id => exact (show False from hq).elim
  | goto l => exact (show False from hq).elim
  | panic c => exact (show False from hq).elim
  | outgrown => exact (show False from hq).elim
end
end Go.K
namespace Go.K
open Go Go.RowKit
section
variable {P : Program} {B : Nat} {w0 : World} {E0 E E' : Ext} {L0 L : List Loc} {s : St} {a : Act} {w : World} {o : Oper} {m : Nat} {φ ψ : Array MapEntry → Nat → Prop}
theorem RepE.mpAt (R : RepE B w0 E0 E L0 L s a w) {id : Nat} (h : s.ow[id]? = some (.mp φ)) :
    ∃ g sz cap es clk, L[id]? = some (.lies 0 g sz cap) ∧ B ≤ g ∧ E g = none ∧ w.heap[g]? = some (.map es clk) ∧ φ es clk := by
  obtain ⟨l, hl⟩ := R.loc h
  have hok := R.owns id _ l h hl
  cases l with
  | free => exact hok.elim
  | nil v => exact hok.elim
  | lies v g sz cap =>
    obtain ⟨rfl, h2, h3, es, clk, h4, h5⟩ := hok
    exact ⟨g, sz, cap, es, clk, hl, h2, h3, h4, h5⟩
theorem mp_at {id g sz cap : Nat} {u : Value} (hx : (V.mp id).Is E L u) (hl : L[id]? = some (.lies 0 g sz cap)) : u = .map (some g) := by
  unfold V.Is at hx
  rw [hl] at hx
  rcases hx with ⟨h, _⟩ | ⟨_, h⟩
  · omega
  · exact h
theorem RepE.mpSet (R : RepE B w0 E0 E L0 L s a w) {id g sz cap : Nat} (h : s.ow[id]? = some (.mp φ)) (hl : L[id]? = some (.lies 0 g sz cap)) {w' : World} {es : Array MapEntry} {clk : Nat}
    (hb : Below B w w') (hk : ∀ k, k < w.heap.size → k ≠ g → w'.heap[k]? = w.heap[k]?) (hh : w'.heap[g]? = some (.map es clk)) (hψ : ψ es clk) (hd : w.drawn ≤ w'.drawn := by exact Nat.le_refl _) :
    RepE B w0 E0 E L0 L ⟨s.n, s.tm, s.ow.set id (.mp ψ)⟩ a w' := by
  have hok := R.owns id _ _ h hl
  obtain ⟨h1, h2, h3, _⟩ := hok
  have R' := R.setOwn (o1 := .mp ψ) (l1 := .lies 0 g sz cap) h hl hb (Loc.to_refl _) (fun k hk1 hk2 => hk k hk1 (fun e => hk2 (by rw [e]; rfl))) (by
    rw [locs_same hl]
    exact ⟨rfl, h2, h3, es, clk, hh, hψ⟩) (fun k hk => .inl hk)
  rwa [locs_same hl] at R'
theorem spec_makeMap {t : TypeId} {id : Nat} (hid : s.ow[id]? = some .free) (hφ : φ #[] 0) : SpecS P s (.makeMap t none) fun x => x = ⟨[id], .mp id, [(id, .mp φ)]⟩ := by
  intro B w0 E0 E L0 L a w o ho R next Q k
  have hl := R.freeLoc hid
  have R' := R.setOwn (w' := w.alloc (.map #[] 0)) (o1 := .mp φ) (l1 := .lies 0 w.heap.size 1 1) hid hl (below_alloc w _ R.base) trivial (fun g hg _ => Below.heap_alloc w _ g hg)
    ⟨rfl, R.base, by
      cases hE : E w.heap.size with
      | none => rfl
      | some cs => have := R.inn.lt hE; omega, #[], 0, heap_alloc_new w _, hφ⟩
    (fun g hg => by
      simp only [Own.at?, Option.some.injEq] at hg
      exact .inr (by omega))
  refine wp_of_run (v := .map (some w.heap.size)) (w' := w.alloc (.map #[] 0)) ?_ (k _ _ _ E _ rfl R' (by
    show Loc.mpOk _ _
    rw [List.getElem?_set_self (get_lt hl)]
    exact .inr ⟨rfl, rfl⟩))
  simp [execOp, ho, Instr.makeMap]
theorem ev_free {c : Code} {Q : Exit → St → Prop} (h : EV P m c Q ⟨s.n, s.tm, s.ow ++ [.free]⟩) : EV P m c Q s := by
  rintro B w0 E0 L0 a w hm ⟨E, L, R⟩
  exact h B w0 E0 L0 a w hm ⟨E, _, R.free (l := [.free]) (by simp)⟩
theorem ev_like {c : Code} {Q : Exit → St → Prop} (t : Nat) {y : V} (hy : ∀ (E : Ext) (L : List Loc) (v : Value), (lk s.tm t).Is E L v → y.Is E L v) (h : EV P m c Q ⟨s.n, (t, y) :: s.tm, s.ow⟩) : EV P m c Q s := by
  rintro B w0 E0 L0 a w hm ⟨E, L, R⟩
  refine h B w0 E0 L0 a w hm ⟨E, L, { R with tmps := fun k => ?_, size := R.size, len := R.len, owns := R.owns, apart := R.apart }⟩
  show (lk ((t, y) :: s.tm) k).Is E L _
  unfold lk
  have hk := R.tmps k
  by_cases e : t = k
  · subst e
    rw [if_pos rfl]
    exact hy E L _ hk
  · rw [if_neg e]
    cases hs : s.tm <;> (rw [hs] at hk; exact hk)
end
end Go.K
namespace Go.K
open Go Go.RowKit
section
variable {P : Program} {B : Nat} {w0 : World} {E0 E : Ext} {L0 L : List Loc} {s : St} {a : Act} {w : World}
def okTail (C : List (List Nat)) (k n : Nat) : Bool := (List.range n).all fun i => decide (i < k) || (List.range i).all fun p => memN p (C.getD i [])
theorem okTail_at {C : List (List Nat)} {k n : Nat} (h : okTail C k n = true) {i : Nat} (hi : i < n) (hk : k ≤ i) {p : Nat} (hp : p < i) : p ∈ C.getD i [] := by
  have h1 := List.all_eq_true.1 h i (List.mem_range.2 hi)
  rcases Bool.or_eq_true _ _ ▸ h1 with h2 | h2
  · have := of_decide_eq_true h2; omega
  · exact memN_iff.1 (List.all_eq_true.1 h2 p (List.mem_range.2 hp))
structure LeftK (k : Nat) (l : List Oper) (ds : List (Option Tmp)) (C : List (List Nat)) (listed : Array Bool) (L : List It) : Prop where
  size : listed.size = l.length
  get : ∀ it ∈ L, l[it.ix]? = some it.o ∧ listed[it.ix]? = some false ∧ it.ix < k
  cov : ∀ i, i < k → listed.getD i true = false → ∃ it ∈ L, it.ix = i
  hi : ∀ i, k ≤ i → i < l.length → listed.getD i true = false
  srt : L.Pairwise (Later ds C)
  down : ∀ i, i < l.length → listed.getD i false = true → ∀ d ∈ depsOf (l.getD i default), listed.getD d false = true
structure TailAt (j : Nat) (l : List Oper) (listed : Array Bool) : Prop where
  size : listed.size = l.length
  lo : ∀ i, i < j → listed.getD i false = true
  hi : ∀ i, j ≤ i → i < l.length → listed.getD i true = false
theorem TailAt.ready {j k : Nat} {l : List Oper} {C : List (List Nat)} {listed : Array Bool} (h : TailAt j l listed) (hj : j ≤ l.length) (hk : k ≤ j) (hd : okDeps 0 l = true) (hC : okC l C = true) (hT : okTail C k l.length = true) {i : Nat} (hi : i ∈ Region.ready .any l.toArray listed) : i = j := by
  obtain ⟨h1, h2, h3⟩ := ready_iff.1 hi
  have hji : j ≤ i := by
    rcases Nat.lt_or_ge i j with hlt | hge
    · have := h.lo i hlt
      rw [Array.getD_eq_getD_getElem?] at this h2
      have hsz : i < listed.size := by rw [h.size]; exact h1
      rw [Array.getElem?_eq_getElem hsz, Option.getD_some] at this h2
      rw [this] at h2; cases h2
    · exact hge
  rcases Nat.lt_or_ge j i with hlt | hge
  · exfalso
    have down : ∀ q, q < l.length → listed.getD q false = true → ∀ d ∈ depsOf (l.getD q default), listed.getD d false = true := by
      intro q hq hl d hdd
      have hqj : q < j := by
        rcases Nat.lt_or_ge q j with h' | h'
        · exact h'
        · have := h.hi q h' hq
          rw [Array.getD_eq_getD_getElem?] at this hl
          have hsz : q < listed.size := by rw [h.size]; exact hq
          rw [Array.getElem?_eq_getElem hsz, Option.getD_some] at this hl
          rw [this] at hl; cases hl
      have := okDeps_at hd hq d hdd
      exact h.lo d (by omega)
    have hc := closed hd hC down i h1 h3 j (okTail_at hT h1 (by omega) hlt)
    have := h.hi j (Nat.le_refl _) (by omega)
    rw [Array.getD_eq_getD_getElem?] at this hc
    have hsz : j < listed.size := by rw [h.size]; omega
    rw [Array.getElem?_eq_getElem hsz, Option.getD_some] at this hc
    rw [this] at hc; cases hc
  · omega
theorem TailAt.next {j : Nat} {l : List Oper} {listed : Array Bool} (h : TailAt j l listed) (hj : j < l.length) : TailAt (j + 1) l (listed.setIfInBounds j true) where
  size := by rw [Array.size_setIfInBounds]; exact h.size
  lo := fun i hi => by
    by_cases e : j = i
    · subst e; simp [Array.getD_eq_getD_getElem?, h.size, hj]
    · have := h.lo i (by omega)
      simp only [Array.getD_eq_getD_getElem?, Array.getElem?_setIfInBounds_ne e] at this ⊢; exact this
  hi := fun i hi hl => by
    have := h.hi i (by omega) hl
    simp only [Array.getD_eq_getD_getElem?, Array.getElem?_setIfInBounds_ne (show j ≠ i by omega)] at this ⊢; exact this
def okDT (k : Nat) (l : List Oper) (ann : List (List Nat × Bool)) : Bool :=
  okDeps 0 l && (okC l (closures l []) && (okPairs (dsts l) (closures l []) (its false (l.take k) 0 0 ann) && (okTail (closures l []) k l.length && decide (k ≤ l.length))))
end
end Go.K
namespace Go.K
open Go Go.RowKit
section
variable {P : Program} {B : Nat} {w0 : World} {E0 E : Ext} {L0 L : List Loc} {s : St} {a : Act} {w : World}
def okMid (C : List (List Nat)) (k n : Nat) : Bool := (List.range n).all fun i => decide (i < k) || (List.range (min i (k + 1))).all fun p => memN p (C.getD i [])
theorem okMid_at {C : List (List Nat)} {k n : Nat} (h : okMid C k n = true) {i : Nat} (hi : i < n) (hk : k ≤ i) {p : Nat} (hp : p < min i (k + 1)) : p ∈ C.getD i [] := by
  have h1 := List.all_eq_true.1 h i (List.mem_range.2 hi)
  rcases Bool.or_eq_true _ _ ▸ h1 with h2 | h2
  · have := of_decide_eq_true h2; omega
  · exact memN_iff.1 (List.all_eq_true.1 h2 p (List.mem_range.2 hp))
def MidK (P : Program) (tt : TT) (ds : List (Option Tmp)) (l : List Oper) (k n : Nat) (ann : List (List Nat × Bool)) (s : St) (K : St → Prop) : Prop :=
  ∃ X, (l.getD k default).guard = none ∧ dlt s.n (l.getD k default).dst ∧ SpecS P s (l.getD k default).op X ∧ ∀ x, X x → evD P tt ds (its false (l.drop (k + 1)) (k + 1) n ann) [] (s.app (l.getD k default).dst x) K
def Mid (P : Program) (tt : TT) (ds : List (Option Tmp)) (l : List Oper) (k n : Nat) (ann : List (List Nat × Bool)) (s : St) (K : St → Prop) : Prop := MidK P tt ds l k n ann s fun t => ∃ t0, K t0 ∧ Eqv t0 t
theorem mid_of {tt : TT} {ds : List (Option Tmp)} {l : List Oper} {k n : Nat} {ann : List (List Nat × Bool)} {K : St → Prop} (h : MidK P tt ds l k n ann s K) : Mid P tt ds l k n ann s K := by
  obtain ⟨X, hg, hd, hs, h⟩ := h
  exact ⟨X, hg, hd, hs, fun x hx => evD_mono (fun s hq => ⟨s, hq, Eqv.refl s⟩) (h x hx)⟩
theorem mid_sound {tt : TT} (ht : tt.Ok P) {l : List Oper} {ds : List (Option Tmp)} (hds : ds = l.map (·.dst)) {C : List (List Nat)} {k : Nat} (hkl : k < l.length) (hd : okDeps 0 l = true) (hC : okC l C = true) (hT : okMid C k l.length = true) {K : St → Prop} {Q : Exit → Act → World → Prop}
    (hK : ∀ s' a' w' E' L', K s' → RepE B w0 E0 E' L0 L' s' a' w' → Q .normal a' w') {n : Nat} {ann : List (List Nat × Bool)} (hp : (its false (l.drop (k + 1)) (k + 1) n ann).Pairwise (Later ds C)) :
    ∀ (fuel : Nat) (listed : Array Bool) (s : St) (a : Act) (w : World) (E : Ext) (L : List Loc), l.length - k ≤ fuel → TailAt k l listed → RepE B w0 E0 E L0 L s a w → Mid P tt ds l k n ann s K → wpAny P .any l.toArray Q fuel listed a w := by
  intro fuel listed s a w E L hf hL R ⟨X, hg, hdl, hsp, h⟩
  obtain ⟨fuel, rfl⟩ : ∃ f, fuel = f + 1 := ⟨fuel - 1, by omega⟩
  have hget : l[k]? = some l[k] := List.getElem?_eq_getElem hkl
  have hgd : l.getD k default = l[k] := by rw [List.getD_eq_getElem?_getD, hget]; rfl
  rw [hgd] at hg hdl hsp h
  have down : ∀ q, q < l.length → listed.getD q false = true → ∀ d ∈ depsOf (l.getD q default), listed.getD d false = true := by
    intro q hq hl d hdd
    have hqj : q < k := by
      rcases Nat.lt_or_ge q k with h' | h'
      · exact h'
      · have := hL.hi q h' hq
        rw [Array.getD_eq_getD_getElem?] at this hl
        have hsz : q < listed.size := by rw [hL.size]; exact hq
        rw [Array.getElem?_eq_getElem hsz, Option.getD_some] at this hl
        rw [this] at hl; cases hl
    have := okDeps_at hd hq d hdd
    exact hL.lo d (by omega)
  have hk0 : listed.getD k false = true → False := fun hc => by
    have := hL.hi k (Nat.le_refl _) hkl
    rw [Array.getD_eq_getD_getElem?] at this hc
    have hsz : k < listed.size := by rw [hL.size]; omega
    rw [Array.getElem?_eq_getElem hsz, Option.getD_some] at this hc
    rw [this] at hc; cases hc
  refine ⟨fun hr => ?_, fun i hi => ?_⟩
  · exfalso
    have : k ∈ Region.ready .any l.toArray listed := by
      refine ready_iff.2 ⟨hkl, hL.hi k (Nat.le_refl _) hkl, fun d hdd => ?_⟩
      have hdl : d < k := by
        have := okDeps_at hd hkl d hdd
        omega
      exact hL.lo d hdl
    rw [hr] at this; cases this
  · have hik : i = k := by
      obtain ⟨h1, h2, h3⟩ := ready_iff.1 hi
      rcases Nat.lt_trichotomy i k with hlt | e | hlt
      · exfalso
        have := hL.lo i hlt
        rw [Array.getD_eq_getD_getElem?] at this h2
        have hsz : i < listed.size := by rw [hL.size]; exact h1
        rw [Array.getElem?_eq_getElem hsz, Option.getD_some] at this h2
        rw [this] at h2; cases h2
      · exact e
      · exact (hk0 (closed hd hC down i h1 h3 k (okMid_at hT h1 (by omega) (by omega)))).elim
    subst hik
    have hgeta : l.toArray[i]? = some l[i] := by simpa using hget
    unfold wpOp
    rw [hgeta]
    simp only
    rw [if_pos (by unfold Region.wanted; rw [hg])]
    have hN := hL.next hkl
    refine .inl (hsp B w0 E0 E L0 L a w l[i] rfl R (wpAny P .any l.toArray Q fuel (listed.setIfInBounds i true)) Q fun x v w' E' L' hx R' hi' => ?_)
    have hlen : ∀ (l : List Oper) (i n : Nat) (ann : List (List Nat × Bool)), (its false l i n ann).length = l.length := by
      intro l
      induction l with
      | nil => intros; rfl
      | cons o r ih => intro i n ann; cases ann <;> (unfold its; simp [ih])
    refine drawn_sound ht hds hd hC (fun s t he ⟨t0, q, e⟩ => ⟨t0, q, e.trans he⟩) (fun s' a' w' E' L' ⟨t0, q, e⟩ R' => hK _ a' w' E' L' q (R'.eqv e.symm)) fuel _ _ [] _ _ _ _ _ (by rw [hlen, List.length_drop]; omega) ?_ (R'.put hdl hi') (h x hx)
    refine ⟨by rw [Array.size_setIfInBounds]; exact hL.size, fun it hit => ?_, fun j hj hl => ?_, hp, fun j hj hl d hdd => ?_⟩
    · obtain ⟨h1, h2⟩ := its_spec hit
      rw [List.getElem?_drop] at h2
      rw [show i + 1 + (it.ix - (i + 1)) = it.ix by omega] at h2
      have hlt := get_lt h2
      refine ⟨h2, ?_⟩
      have h3 := hN.hi it.ix h1 hlt
      have hsz : it.ix < (listed.setIfInBounds i true).size := by rw [hN.size]; exact hlt
      rw [Array.getD_eq_getD_getElem?, Array.getElem?_eq_getElem hsz, Option.getD_some] at h3
      rw [Array.getElem?_eq_getElem hsz, h3]
    · have hij : i + 1 ≤ j := by
        rcases Nat.lt_or_ge j (i + 1) with h' | h'
        · have h3 := hN.lo j h'
          have hsz : j < (listed.setIfInBounds i true).size := by rw [hN.size]; exact hj
          rw [Array.getD_eq_getD_getElem?, Array.getElem?_eq_getElem hsz, Option.getD_some] at h3 hl
          rw [h3] at hl; cases hl
        · exact h'
      obtain ⟨it, h1, h2⟩ := its_cov (nw := false) (l := l.drop (i + 1)) (i := i + 1) (n := n) (ann := ann) (k := j - (i + 1)) (by rw [List.length_drop]; omega)
      exact ⟨it, h1, by omega⟩
    · have hji : j < i + 1 := by
        rcases Nat.lt_or_ge j (i + 1) with h' | h'
        · exact h'
        · have h3 := hN.hi j h' hj
          have hsz : j < (listed.setIfInBounds i true).size := by rw [hN.size]; exact hj
          rw [Array.getD_eq_getD_getElem?, Array.getElem?_eq_getElem hsz, Option.getD_some] at h3 hl
          rw [h3] at hl; cases hl
      have := okDeps_at hd hj d hdd
      exact hN.lo d (by omega)
theorem drawn_mid {tt : TT} (ht : tt.Ok P) {l : List Oper} {ds : List (Option Tmp)} (hds : ds = l.map (·.dst)) {C : List (List Nat)} {k : Nat} (hkl : k < l.length) (hd : okDeps 0 l = true) (hC : okC l C = true) (hT : okMid C k l.length = true) {n : Nat} {ann : List (List Nat × Bool)} (hp : (its false (l.drop (k + 1)) (k + 1) n ann).Pairwise (Later ds C)) {K : St → Prop} {Q : Exit → Act → World → Prop}
    (hK : ∀ s' a' w' E' L', K s' → RepE B w0 E0 E' L0 L' s' a' w' → Q .normal a' w') :
    ∀ (fuel : Nat) (listed : Array Bool) (M : List It) (log : Log) (s : St) (a : Act) (w : World) (E : Ext) (L : List Loc), M.length + (l.length - k) ≤ fuel → LeftK k l ds C listed M → RepE B w0 E0 E L0 L s a w →
      evD P tt ds M log s (fun t => ∃ t0, Mid P tt ds l k n ann t0 K ∧ Eqv t0 t) → wpAny P .any l.toArray Q fuel listed a w := by
  have hcl : Closed (fun t => ∃ t0, Mid P tt ds l k n ann t0 K ∧ Eqv t0 t) := fun s t he ⟨t0, q, e⟩ => ⟨t0, q, e.trans he⟩
  intro fuel
  induction fuel with
  | zero =>
    intro listed M log s a w E L hf hL R h
    cases M with
    | cons _ _ => simp at hf
    | nil =>
      obtain ⟨t0, h, he⟩ := h
      refine mid_sound ht hds hkl hd hC hT hK hp 0 listed _ a w E L (by simpa using hf) ⟨hL.size, fun i hi => ?_, hL.hi⟩ (R.eqv he.symm) h
      have hsz : i < listed.size := by rw [hL.size]; omega
      cases hl : listed.getD i false with
      | true => rfl
      | false =>
        obtain ⟨it, hit, _⟩ := hL.cov i hi (by
          rw [Array.getD_eq_getD_getElem?, Array.getElem?_eq_getElem hsz, Option.getD_some] at hl ⊢; exact hl)
        cases hit
  | succ fuel ih =>
    intro listed M log s a w E L hf hL R h
    cases hM : M with
    | nil =>
      subst hM
      obtain ⟨t0, h, he⟩ := h
      refine mid_sound ht hds hkl hd hC hT hK hp (fuel + 1) listed _ a w E L (by simpa using hf) ⟨hL.size, fun i hi => ?_, hL.hi⟩ (R.eqv he.symm) h
      have hsz : i < listed.size := by rw [hL.size]; omega
      cases hl : listed.getD i false with
      | true => rfl
      | false =>
        obtain ⟨it, hit, _⟩ := hL.cov i hi (by
          rw [Array.getD_eq_getD_getElem?, Array.getElem?_eq_getElem hsz, Option.getD_some] at hl ⊢; exact hl)
        cases hit
    | cons it0 r0 =>
    have hm0 : it0 ∈ M := by rw [hM]; exact List.mem_cons_self ..
    refine ⟨fun hr => ?_, fun i hi => ?_⟩
    · exfalso
      obtain ⟨g1, g2, g3⟩ := hL.get it0 hm0
      have hlt : it0.ix < l.length := get_lt g1
      have : it0.ix ∈ Region.ready .any l.toArray listed := by
        refine ready_iff.2 ⟨hlt, getD_some g2, fun d hdd => ?_⟩
        have hdl : d < it0.ix := by have := okDeps_at hd hlt d hdd; omega
        cases hld : listed.getD d false with
        | true => rfl
        | false =>
          have hsz : d < listed.size := by rw [hL.size]; omega
          obtain ⟨jt, hj, hjx⟩ := hL.cov d (by omega) (by
            simp only [Array.getD_eq_getD_getElem?, Array.getElem?_eq_getElem hsz, Option.getD_some] at hld ⊢; exact hld)
          have hsrt := hL.srt
          rw [hM] at hj hsrt
          rcases List.mem_cons.1 hj with rfl | hj
          · omega
          · have := (List.rel_of_pairwise_cons hsrt hj).1; omega
      rw [hr] at this; cases this
    · obtain ⟨hi1, hi2, hi3⟩ := ready_iff.1 hi
      have hik : i < k := by
        rcases Nat.lt_or_ge i k with h' | h'
        · exact h'
        · exfalso
          obtain ⟨g1, g2, g3⟩ := hL.get it0 hm0
          have h1 := closed hd hC hL.down i hi1 hi3 it0.ix (okMid_at hT hi1 h' (by omega))
          rw [getD_some g2] at h1; cases h1
      obtain ⟨y, hy, rfl⟩ := hL.cov i hik hi2
      clear hM hm0 it0 r0
      obtain ⟨pre, post, rfl⟩ := List.append_of_mem hy
      obtain ⟨g1, g2, g3⟩ := hL.get y hy
      have hcl' := closed hd hC hL.down y.ix hi1 hi3
      have hind : ∀ x ∈ pre, Indep ds x y := by
        intro x hx
        have := (List.pairwise_append.1 hL.srt).2.2 x hx y (List.mem_cons_self ..)
        rcases this.2 with h | h
        · have h1 := hcl' _ h
          have h2 := (hL.get x (List.mem_append_left _ hx)).2.1
          rw [getD_some h2] at h1; cases h1
        · exact h
      have hne : ∀ it ∈ pre ++ post, it.ix ≠ y.ix := by
        intro it hit e
        rcases List.mem_append.1 hit with h | h
        · have := ((List.pairwise_append.1 hL.srt).2.2 it h y (List.mem_cons_self ..)).1; omega
        · have := (List.rel_of_pairwise_cons (List.pairwise_append.1 hL.srt).2.1 h).1; omega
      have hmem : ∀ it ∈ pre ++ post, it ∈ pre ++ y :: post := by
        intro it hit
        rcases List.mem_append.1 hit with h | h
        · exact List.mem_append_left _ h
        · exact List.mem_append_right _ (List.mem_cons_of_mem _ h)
      have hnew : LeftK k l ds C (listed.setIfInBounds y.ix true) (pre ++ post) := by
        refine ⟨by rw [Array.size_setIfInBounds]; exact hL.size, fun it hit => ⟨(hL.get it (hmem it hit)).1, ?_, (hL.get it (hmem it hit)).2.2⟩, fun j hj hl => ?_, fun j hj hl => ?_, ?_, fun j hj hl d hdd => ?_⟩
        · rw [Array.getElem?_setIfInBounds_ne (fun e => hne it hit e.symm)]; exact (hL.get it (hmem it hit)).2.1
        · by_cases e : y.ix = j
          · subst e
            simp [Array.getD_eq_getD_getElem?, hL.size, hi1] at hl
          · obtain ⟨it, h1, h2⟩ := hL.cov j hj (by
              simp only [Array.getD_eq_getD_getElem?, Array.getElem?_setIfInBounds_ne e] at hl ⊢; exact hl)
            refine ⟨it, ?_, h2⟩
            rcases List.mem_append.1 h1 with h | h
            · exact List.mem_append_left _ h
            · rcases List.mem_cons.1 h with rfl | h
              · exact absurd h2 e
              · exact List.mem_append_right _ h
        · have := hL.hi j hj hl
          simp only [Array.getD_eq_getD_getElem?, Array.getElem?_setIfInBounds_ne (show y.ix ≠ j by omega)] at this ⊢; exact this
        · exact hL.srt.sublist (List.Sublist.append (List.Sublist.refl _) (List.sublist_cons_self _ _))
        · have keep : ∀ d, listed.getD d false = true → (listed.setIfInBounds y.ix true).getD d false = true := by
            intro d h
            by_cases e : y.ix = d
            · subst e; simp [Array.getD_eq_getD_getElem?, hL.size, hi1]
            · simp only [Array.getD_eq_getD_getElem?, Array.getElem?_setIfInBounds_ne e] at h ⊢; exact h
          by_cases e : y.ix = j
          · subst e; exact keep d (hi3 d hdd)
          · refine keep d (hL.down j hj ?_ d hdd)
            simp only [Array.getD_eq_getD_getElem?, Array.getElem?_setIfInBounds_ne e] at hl ⊢; exact hl
      obtain ⟨z, hz, _, hev⟩ := pull hcl hind h
      have hlen : (pre ++ post).length + (l.length - k) ≤ fuel := by
        simp only [List.length_append, List.length_cons] at hf ⊢; omega
      have := step_sound (o := y.o) (ops := l.toArray) ht R hds hz (Q := Q) (next := wpAny P .any l.toArray Q fuel (listed.setIfInBounds y.ix true)) fun a' w' E' L' R' =>
        ih _ _ _ _ a' w' E' L' hlen hnew R' hev
      have hget : l.toArray[y.ix]? = some y.o := by simpa using g1
      unfold wpOp
      rw [hget]
      simp only
      by_cases hw : Region.wanted y.o (yielded l.toArray a.tmps) = true
      · rw [if_pos hw] at this ⊢; exact .inl this
      · rw [if_neg hw] at this ⊢; exact this
def okDM (k : Nat) (l : List Oper) (ann ann2 : List (List Nat × Bool)) : Bool :=
  okDeps 0 l && (okC l (closures l []) && (okPairs (dsts l) (closures l []) (its false (l.take k) 0 0 ann) && (okMid (closures l []) k l.length && (decide (k < l.length) && okPairs (dsts l) (closures l []) (its false (l.drop (k + 1)) (k + 1) 0 ann2)))))
theorem ev_region_mid (hm : P.follows .mixedOrders = true) {tt : TT} (ht : tt.Ok P) (k : Nat) {m id : Nat} {l : List Oper} (ann ann2 : List (List Nat × Bool)) (hok : okDM k l ann ann2 = true) {Q : Exit → St → Prop}
    (h : evD P tt (dsts l) (its false (l.take k) 0 s.ow.length ann) [] s fun s1 => MidK P tt (dsts l) l k s.ow.length ann2 s1 fun s' => Q .normal s') :
    EV P m (.region id l.toArray true) Q s := by
  rintro B w0 E0 L0 a w _ ⟨E, L, R⟩
  unfold okDM at hok
  simp only [Bool.and_eq_true, decide_eq_true_eq] at hok
  obtain ⟨h1, h2, h3, h4, h5, h6⟩ := hok
  refine wp_region_any hm ?_
  have hlen : ∀ (l : List Oper) (i n : Nat) (ann : List (List Nat × Bool)), (its false l i n ann).length = l.length := by
    intro l
    induction l with
    | nil => intros; rfl
    | cons o r ih => intro i n ann; cases ann <;> (unfold its; simp [ih])
  refine drawn_mid ht (by rw [dsts_eq]) h5 h1 h2 h4 (n := s.ow.length) (ann := ann2) (its_pairs (by rw [okPairs_id (l.drop (k + 1)) (k + 1) s.ow.length 0]; exact h6)) (K := fun t => Q .normal t) (fun s' a' w' E' L' hq R' => ⟨s', hq, E', L', R'⟩) _ _ (its false (l.take k) 0 s.ow.length ann) [] s a _ E L ?_ ?_ R.drew (evD_mono (fun s hq => ⟨s, mid_of hq, Eqv.refl s⟩) h)
  · rw [hlen]; simp; omega
  · refine ⟨by simp, fun it hit => ?_, fun i hi _ => ?_, fun i hk hi => ?_, its_pairs (by rw [okPairs_id (l.take k) 0 s.ow.length 0]; exact h3), fun i hi hl => ?_⟩
    · have := (its_spec hit).2
      simp only [Nat.sub_zero] at this
      have hlt : it.ix < (l.take k).length := get_lt this
      have hlt2 : it.ix < k := by simp at hlt; omega
      rw [List.getElem?_take_of_lt hlt2] at this
      have hlt3 := get_lt this
      exact ⟨this, by simp [hlt3], hlt2⟩
    · obtain ⟨it, h, e⟩ := its_cov (nw := false) (l := l.take k) (i := 0) (n := s.ow.length) (ann := ann) (k := i) (by simp; omega)
      exact ⟨it, h, by omega⟩
    · simp [Array.getD_eq_getD_getElem?, hi]
    · simp [Array.getD_eq_getD_getElem?, hi] at hl
end
end Go.K

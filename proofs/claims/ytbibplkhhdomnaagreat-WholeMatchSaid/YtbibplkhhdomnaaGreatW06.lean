import Derived.Test.YtbibplkhhdomnaaGreatW05
set_option linter.all false
namespace Go.K
open Go Go.RowKit
def St.rd (s : St) : Operand → V
  | .tmp t => lk s.tm t
  | .const v => V.ofConst v
  | .func f => .fn f []
  | .global _ => .un
def St.put (s : St) (d : Option Tmp) (x : V) : St :=
  match d with
  | some d => ⟨s.n, (d, x) :: s.tm, s.ow⟩
  | none => s
def dlt (n : Nat) : Option Tmp → Prop
  | some d => d < n
  | none => True
def unc : V → V
  | .cnd _ x => x
  | x => x
def uncs : List V → List V
  | [] => []
  | x :: r => unc x :: uncs r
def unc1 (g : Bool) : V → Prop
  | .cnd b _ => g = true → b = true
  | _ => True
def uncP (g : Bool) : List V → Prop
  | [] => True
  | x :: r => unc1 g x ∧ uncP g r
def rds (s : St) : List Operand → List V
  | [] => []
  | x :: r => s.rd x :: rds s r
def gOf (want : Bool) : V → Option (Option Bool)
  | .bool b => some (some (if want then b else !b))
  | .cnd b' (.bool b) => some (some (b' && (if want then b else !b)))
  | .cnd false _ => some (some false)
  | .tup [] => some none
  | _ => none
def St.gv (s : St) : Option Tmp → V
  | some d => lk s.tm d
  | none => .un
def Enters (P : Program) (f : FuncId) : Prop := ∀ (args : Array Value) (w : World), (callFunc f args).run P w = .ok (.enter f args) w
theorem enters_of {P : Program} {f : FuncId} {fn : Func} {c : Code} (h : P.funcs[f]? = some fn) (hb : fn.body = some c) (hn : (fn.name == "runtime.NumGoroutine") = false) : Enters P f := by
  intro args w
  have hn' : ¬ fn.name = "runtime.NumGoroutine" := by simpa using hn
  unfold callFunc
  simp [h, hb, hn']
def RunAt (P : Program) (f : FuncId) (args : List V) (ow : List Own) (r : V) (ow' : List Own) : Prop :=
  ∀ B w0 E0 E L0 L n tm a w vs, RepE B w0 E0 E L0 L ⟨n, tm, ow⟩ a w → IsAll E L args vs →
    Calls P f vs.toArray w fun e w' => ∃ v E' L', e = .returned v ∧ RepE B w0 E0 E' L0 L' ⟨n, tm, ow'⟩ a w' ∧ r.Is E' L' v
structure Run (P : Program) (f : FuncId) (args : List V) (fp : List Nat) (ow : List Own) (r : V) (upd : List (Nat × Own)) : Prop where
  enters : Enters P f
  keys : ∀ p ∈ upd, p.1 ∈ fp
  run : ∀ ow2, agree fp ow ow2 → RunAt P f args ow2 r (app ow2 upd)
inductive SF where
  | call
  | fail
  | off (g : Bool) (q : Prop)
  | ok (pre : Prop) (x : Out)
def pickV (g : Bool) (c x y : V) (f : V → V) (q : Prop) : SF :=
  match unc c, unc x, unc y with
  | .bool t, .bool p, .bool q' => .ok (unc1 g c ∧ unc1 (g && t) x ∧ unc1 (g && !t) y ∧ q) ⟨[], f (.bool (cond t p q')), []⟩
  | .bool t, .bool p, _ => .ok (unc1 g c ∧ unc1 g x ∧ (g = true → t = true) ∧ q) ⟨[], f (.bool p), []⟩
  | .bool t, _, .bool p => .ok (unc1 g c ∧ unc1 g y ∧ (g = true → t = false) ∧ q) ⟨[], f (.bool p), []⟩
  | _, _, _ => .fail
def resU (us q : Prop) : Res → SF
  | .fail => .fail
  | .ok pre x => .ok (us ∧ pre ∧ q) x
def resG (g : Bool) (us q : Prop) : Res → SF
  | .fail => .off g q
  | .ok pre x => match x.upd with
    | [] => .ok (us ∧ (g = true → pre) ∧ q) ⟨x.fp, .cnd g x.r, []⟩
    | _ => match g with
      | true => .ok (us ∧ pre ∧ q) ⟨x.fp, .cnd true x.r, x.upd⟩
      | false => .off false q
def offV (g : Bool) (q : Prop) : SF → SF
  | .fail => .off g q
  | x => x
theorem offV_or {g : Bool} {q : Prop} {pv sf : SF} (h : offV g q pv = sf) : (∃ g q, sf = .off g q) ∨ pv = sf := by
  cases pv with
  | fail => exact .inl ⟨_, _, h.symm⟩
  | _ => exact .inr h
def stepU (tt : TT) (id : Nat) (o : Oper) (s : St) : SF :=
  match o.op with
  | .pick c x y => pickV true (s.rd c) (s.rd x) (s.rd y) (fun r => r) (dlt s.n o.dst)
  | .call ⟨.value _, _, _⟩ => .call
  | op => resU (uncP true (rds s op.operands.toList)) (dlt s.n o.dst) (sem tt s.ow id op (uncs (rds s op.operands.toList)))
def stepG (tt : TT) (id : Nat) (g : Bool) (o : Oper) (s : St) : SF :=
  match o.op with
  | .pick c x y => offV g (dlt s.n o.dst) (pickV g (s.rd c) (s.rd x) (s.rd y) (fun r => .cnd g r) (dlt s.n o.dst))
  | .call ⟨.value _, _, _⟩ => .call
  | op => resG g (uncP g (rds s op.operands.toList)) (dlt s.n o.dst) (sem tt s.ow id op (uncs (rds s op.operands.toList)))
def stepF (tt : TT) (ds : List (Option Tmp)) (id : Nat) (o : Oper) (s : St) : SF :=
  match o.guard with
  | none => stepU tt id o s
  | some (j, want) => match gOf want (s.gv (ds.getD j none)) with
    | none => .fail
    | some none => .ok (dlt s.n o.dst) ⟨[], .tup [], []⟩
    | some (some g) => stepG tt id g o s
def callOf (s : St) : Op → Option (FuncId × List V)
  | .call ⟨.value q, args, _⟩ => match unc (s.rd q) with
    | .fn f caps => some (f, uncs (rds s args.toList) ++ caps)
    | _ => none
  | _ => none
def gdOf (ds : List (Option Tmp)) (o : Oper) (s : St) : Option (Option Bool) :=
  match o.guard with
  | none => none
  | some (j, want) => (gOf want (s.gv (ds.getD j none))).getD none
structure CallU (P : Program) (o : Oper) (s : St) (x : Out) : Prop where
  ex : ∃ f args, callOf s o.op = some (f, args) ∧ uncP true (rds s o.op.operands.toList) ∧ dlt s.n o.dst ∧ Run P f args x.fp s.ow x.r x.upd
structure CallG (P : Program) (g : Bool) (o : Oper) (s : St) (x : Out) : Prop where
  ex : ∃ f args r, callOf s o.op = some (f, args) ∧ uncP g (rds s o.op.operands.toList) ∧ dlt s.n o.dst ∧ (g = true → Run P f args x.fp s.ow r []) ∧ x.r = .cnd g r ∧ x.upd = []
def CallStep (P : Program) (ds : List (Option Tmp)) (o : Oper) (s : St) (x : Out) : Prop :=
  match o.guard with
  | none => CallU P o s x
  | some (j, want) => match gOf want (s.gv (ds.getD j none)) with
    | some (some g) => CallG P g o s x
    | _ => False
def SkipStep (ds : List (Option Tmp)) (o : Oper) (s : St) (x : Out) : Prop :=
  match o.guard with
  | none => False
  | some (j, want) => gOf want (s.gv (ds.getD j none)) = some (some false) ∧ dlt s.n o.dst ∧ x = ⟨[], .cnd false .un, []⟩
def Main (P : Program) (tt : TT) (ds : List (Option Tmp)) (id : Nat) (o : Oper) (s : St) (x : Out) : Prop :=
  match stepF tt ds id o s with
  | .ok pre y => pre ∧ x = y
  | .fail => False
  | .off _ _ => False
  | .call => CallStep P ds o s x
def Step (P : Program) (tt : TT) (ds : List (Option Tmp)) (id : Nat) (o : Oper) (s : St) (x : Out) : Prop :=
  Main P tt ds id o s x ∨ SkipStep ds o s x
def St.app (s : St) (d : Option Tmp) (x : Out) : St := (St.mk s.n s.tm (K.app s.ow x.upd)).put d x.r
def evOps (P : Program) (tt : TT) (ds : List (Option Tmp)) : List (Nat × Oper) → St → (St → Prop) → Prop
  | [], s, K => K s
  | io :: r, s, K => ∃ x, Step P tt ds io.1 io.2 s x ∧ evOps P tt ds r (s.app io.2.dst x) K
section
variable {P : Program} {B : Nat} {w0 : World} {E0 E : Ext} {L0 L : List Loc} {s : St} {a : Act} {w : World} {o : Oper}
theorem undef_is : (V.tup []).Is E L undef := by
  unfold V.Is
  exact ⟨[], rfl, by unfold IsAll; rfl⟩
theorem ofConst_is (v : Value) : (V.ofConst v).Is E L v := by
  have one : (V.of1 v).Is E L v := by
    cases h : (V.of1 v).one with
    | true => exact of1_is h
    | false => unfold V.of1 at h ⊢; split at h <;> first | (cases h; done) | (unfold V.Is; trivial)
  cases v with
  | agg cs =>
    unfold V.ofConst
    simp only
    split
    · rename_i h
      unfold V.Is
      exact ⟨cs.toList, by simp, of1s_is h⟩
    · unfold V.Is; trivial
  | _ => exact one
theorem rd_is (R : RepE B w0 E0 E L0 L s a w) (x : Operand) : (s.rd x).Is E L (a.eval x) := by
  cases x with
  | tmp t => exact R.tmps t
  | const v => exact ofConst_is v
  | func f => exact (show (V.fn f []).Is E L _ by unfold V.Is; exact ⟨[], rfl, by unfold IsAll; rfl⟩)
  | global g => exact (show V.un.Is E L _ by unfold V.Is; trivial)
theorem rds_is (R : RepE B w0 E0 E L0 L s a w) : ∀ xs : List Operand, IsAll E L (rds s xs) (xs.map a.eval)
  | [] => by unfold rds IsAll; rfl
  | x :: r => by
    unfold rds IsAll
    exact ⟨_, _, rfl, rd_is R x, rds_is R r⟩
theorem unc_is {x : V} {v : Value} (h : x.Is E L v) (h1 : unc1 true x) : (unc x).Is E L v := by
  cases x with
  | cnd b y =>
    unfold V.Is at h
    exact h.1 (h1 rfl)
  | _ => exact h
theorem uncs_is : ∀ {xs : List V} {vs : List Value}, IsAll E L xs vs → uncP true xs → IsAll E L (uncs xs) vs
  | [], _, h, _ => by unfold uncs; exact h
  | x :: r, vs, h, k => by
    unfold IsAll at h
    obtain ⟨v, rr, rfl, hx, hr⟩ := h
    unfold uncs IsAll
    exact ⟨v, rr, rfl, unc_is hx k.1, uncs_is hr k.2⟩
theorem RepE.put (R : RepE B w0 E0 E L0 L s a w) {d : Option Tmp} (hd : dlt s.n d) {x : V} {v : Value} (h : x.Is E L v) : RepE B w0 E0 E L0 L (s.put d x) (a.put d v) w := by
  cases d with
  | none => exact R
  | some d =>
    have hlt : d < a.tmps.size := by rw [R.size]; exact hd
    refine { R with size := ?_, tmps := ?_, defers := R.defers }
    · show (a.tmps.setIfInBounds d v).size = s.n
      simp [R.size]
    · intro k
      show (lk ((d, x) :: s.tm) k).Is E L ((a.tmps.setIfInBounds d v).getD k undef)
      unfold lk
      by_cases e : d = k
      · subst e
        rw [if_pos rfl]
        simpa [Array.getD_eq_getD_getElem?, hlt] using h
      · rw [if_neg e]
        have := R.tmps k
        simp only [Array.getD_eq_getD_getElem?, Array.getElem?_setIfInBounds_ne e] at this ⊢
        exact this
theorem pick_run {c x y : Operand} (ho : o.op = .pick c x y) {t : Bool} (hc : a.eval c = .bool t) : (execOp a.eval o).run P w = .ok (.value (if t then a.eval x else a.eval y)) w := by
  cases t <;> simp [execOp, ho, hc, asBool]
theorem pick_is (R : RepE B w0 E0 E L0 L s a w) {c x y : Operand} (ho : o.op = .pick c x y) {f : V → V} {q : Prop} {pre : Prop} {r : Out} (h : pickV true (s.rd c) (s.rd x) (s.rd y) f q = .ok pre r) (hpre : pre) :
    ∃ v r', (execOp a.eval o).run P w = .ok (.value v) w ∧ r = ⟨[], f r', []⟩ ∧ r'.Is E L v ∧ q := by
  have hc := rd_is R c; have hx := rd_is R x; have hy := rd_is R y
  unfold pickV at h
  split at h
  · rename_i t p q' e1 e2 e3
    injection h with h4 h5
    subst h4 h5
    obtain ⟨h1, h2, h3, hq⟩ := hpre
    have hc' := unc_is hc h1
    rw [e1] at hc'
    unfold V.Is at hc'
    refine ⟨_, _, pick_run ho hc', rfl, ?_, hq⟩
    cases t with
    | true =>
      have hx' := unc_is hx (by simpa using h2)
      rw [e2] at hx'
      unfold V.Is at hx'
      simp only [if_true, cond_true]
      rw [hx']; exact bool_is p
    | false =>
      have hy' := unc_is hy (by simpa using h3)
      rw [e3] at hy'
      unfold V.Is at hy'
      simp only [Bool.false_eq_true, if_false, cond_false]
      rw [hy']; exact bool_is q'
  · rename_i t p e1 e2 _
    injection h with h4 h5
    subst h4 h5
    obtain ⟨h1, h2, h3, hq⟩ := hpre
    have hc' := unc_is hc h1
    rw [e1] at hc'
    unfold V.Is at hc'
    have ht := h3 rfl
    subst ht
    refine ⟨_, _, pick_run ho hc', rfl, ?_, hq⟩
    have hx' := unc_is hx h2
    rw [e2] at hx'
    unfold V.Is at hx'
    simp only [if_true]
    rw [hx']; exact bool_is p
  · rename_i t p e1 e2 _
    injection h with h4 h5
    subst h4 h5
    obtain ⟨h1, h2, h3, hq⟩ := hpre
    have hc' := unc_is hc h1
    rw [e1] at hc'
    unfold V.Is at hc'
    have ht := h3 rfl
    subst ht
    refine ⟨_, _, pick_run ho hc', rfl, ?_, hq⟩
    have hy' := unc_is hy h2
    rw [e2] at hy'
    unfold V.Is at hy'
    simp only [Bool.false_eq_true, if_false]
    rw [hy']; exact bool_is p
  · cases h
theorem gOf_wanted (R : RepE B w0 E0 E L0 L s a w) {ops : Array Oper} {j : Nat} {want : Bool} (hgd : o.guard = some (j, want)) {d : Option Tmp} (hd : (ops[j]?).bind (·.dst) = d) :
    (∀ {g : Bool}, gOf want (s.gv d) = some (some g) → Region.wanted o (yielded ops a.tmps) = g) ∧
    (gOf want (s.gv d) = some none → Region.wanted o (yielded ops a.tmps) = false) := by
  have hw : Region.wanted o (yielded ops a.tmps) = (yielded ops a.tmps j == some want) := by simp [Region.wanted, hgd]
  cases d with
  | none => constructor <;> (intros; simp [gOf, St.gv] at *)
  | some d =>
    simp only [St.gv]
    have hi := R.tmps d
    have hy : ∀ v, a.tmps.getD d undef = v → (v = .bool true → yielded ops a.tmps j = some true) ∧ (v = .bool false → yielded ops a.tmps j = some false) ∧ (v = undef → yielded ops a.tmps j = none) := by
      intro v hv
      unfold yielded
      rw [hd]
      cases h : a.tmps[d]? with
      | none =>
        have : v = undef := by rw [← hv]; simp [Array.getD_eq_getD_getElem?, h]
        subst this
        refine ⟨(by intro h; cases h), (by intro h; cases h), fun _ => by simp [h]⟩
      | some u =>
        have : u = v := by rw [← hv]; simp [Array.getD_eq_getD_getElem?, h]
        subst this
        refine ⟨?_, ?_, ?_⟩ <;> (intro e; subst e; simp [h, undef])
    obtain ⟨y1, y2, y3⟩ := hy _ rfl
    generalize hx : lk s.tm d = x at hi
    rw [hw]
    unfold gOf
    constructor
    · intro g hg
      split at hg
      · simp only [Option.some.injEq] at hg
        subst hg
        rename_i b
        unfold V.Is at hi
        cases b
        · rw [y2 hi]; cases want <;> rfl
        · rw [y1 hi]; cases want <;> rfl
      · simp only [Option.some.injEq] at hg
        subst hg
        rename_i b' b
        unfold V.Is at hi
        cases b' with
        | false => rw [y3 (hi.2 rfl)]; cases want <;> rfl
        | true =>
          have h1 := hi.1 rfl
          unfold V.Is at h1
          cases b
          · rw [y2 h1]; cases want <;> rfl
          · rw [y1 h1]; cases want <;> rfl
      · simp only [Option.some.injEq] at hg
        subst hg
        unfold V.Is at hi
        rw [y3 (hi.2 rfl)]; cases want <;> rfl
      · cases hg
      · cases hg
    · intro hg
      split at hg
      · cases hg
      · cases hg
      · cases hg
      · unfold V.Is at hi
        obtain ⟨vs, hv, hn⟩ := hi
        unfold IsAll at hn
        subst hn
        rw [y3 hv]; cases want <;> rfl
      · cases hg
def StepsTo (P : Program) (B : Nat) (w0 : World) (E0 : Ext) (L0 : List Loc) (s : St) (a : Act) (w : World) (o : Oper) (x : Out) : Prop :=
  ∀ (next : Act → World → Prop) (Q : Exit → Act → World → Prop),
    (∀ v w' E' L', RepE B w0 E0 E' L0 L' ⟨s.n, s.tm, app s.ow x.upd⟩ a w' → x.r.Is E' L' v → next (a.put o.dst v) w') → o.wp P a w next Q
theorem pure_step (R : RepE B w0 E0 E L0 L s a w) {x : Out} (h : ∃ v, (execOp a.eval o).run P w = .ok (.value v) w ∧ x.r.Is E L v ∧ x.upd = []) : StepsTo P B w0 E0 L0 s a w o x := by
  obtain ⟨v, hr, hi, hu⟩ := h
  intro next Q k
  exact wp_of_run hr (k v w E L (by rw [hu]; exact R) hi)
theorem st_step {x : Out} (h : ∃ v w' L', (execOp a.eval o).run P w = .ok (.value v) w' ∧ RepE B w0 E0 E L0 L' ⟨s.n, s.tm, app s.ow x.upd⟩ a w' ∧ x.r.Is E L' v) : StepsTo P B w0 E0 L0 s a w o x := by
  obtain ⟨v, w', L', hr, R', hi⟩ := h
  intro next Q k
  exact wp_of_run hr (k v w' E L' R' hi)
set_option maxHeartbeats 1000000 in
theorem sem_sound {tt : TT} (ht : tt.Ok P) (R : RepE B w0 E0 E L0 L s a w) {id : Nat} {xs : List V} (hx : IsAll E L xs (o.op.operands.toList.map a.eval)) {pre : Prop} {x : Out} (hs : sem tt s.ow id o.op xs = .ok pre x) (hpre : pre) :
    StepsTo P B w0 E0 L0 s a w o x := by
  have one : ∀ {x : V} {v : Value}, IsAll E L [x] [v] → x.Is E L v := by
    intro x v h
    unfold IsAll at h
    obtain ⟨v', r, e, h, _⟩ := h
    injection e with e _; subst e; exact h
  have two : ∀ {x y : V} {v u : Value}, IsAll E L [x, y] [v, u] → x.Is E L v ∧ y.Is E L u := by
    intro x y v u h
    unfold IsAll at h
    obtain ⟨v', r, e, h, h'⟩ := h
    injection e with e e'; subst e e'
    exact ⟨h, one h'⟩
  have three : ∀ {x y z : V} {v u q : Value}, IsAll E L [x, y, z] [v, u, q] → x.Is E L v ∧ y.Is E L u ∧ z.Is E L q := by
    intro x y z v u q h
    unfold IsAll at h
    obtain ⟨v', r, e, h, h'⟩ := h
    injection e with e e'; subst e e'
    exact ⟨h, two h'⟩
  have val : ∀ {x : Out} {q : Sem Value}, (∃ v, q.run P w = .ok v w ∧ x.r.Is E L v ∧ x.upd = []) → (execOp a.eval o = (do pure (.value (← q)) : Sem Next)) → StepsTo P B w0 E0 L0 s a w o x := by
    rintro x q ⟨v, hv, hi, hu⟩ he
    exact pure_step R ⟨v, by rw [he]; simp [hv], hi, hu⟩
  have vst : ∀ {x : Out} {q : Sem Value}, (∃ v w' L', q.run P w = .ok v w' ∧ RepE B w0 E0 E L0 L' ⟨s.n, s.tm, app s.ow x.upd⟩ a w' ∧ x.r.Is E L' v) → (execOp a.eval o = (do pure (.value (← q)) : Sem Next)) → StepsTo P B w0 E0 L0 s a w o x := by
    rintro x q ⟨v, w', L', hv, hi, hu⟩ he
    exact st_step ⟨v, w', L', by rw [he]; simp [hv], hi, hu⟩
  unfold sem at hs
  split at hs
  · rename_i q y ho
    simp only [okv] at hs
    injection hs with e1 e2; subst e1 e2
    rw [ho] at hx
    exact pure_step R ⟨_, by simp [execOp, ho], one hx, rfl⟩
  · rename_i q y ho
    simp only [okv] at hs
    injection hs with e1 e2; subst e1 e2
    rw [ho] at hx
    exact pure_step R ⟨_, by simp [execOp, ho], one hx, rfl⟩
  · rename_i t ho
    split at hs
    · cases hs
    · rename_i hk
      obtain ⟨z, hz, hzc⟩ := alloc_run (ht.facts t hk) w
      obtain ⟨L', R', hi⟩ := new_step R (v := z) (by rw [hzc]; exact ht.zero t) hs hpre
      intro next Q k
      exact wp_of_run (by simp [execOp, ho, hz]) (k _ _ E L' R' hi)
  · rename_i t q y ho
    rw [ho] at hx
    split at hs
    · rename_i cs hcs
      obtain ⟨L', R', hi⟩ := new_step R (cells?_is hcs (one hx)) hs hpre
      intro next Q k
      exact wp_of_run (by simp [execOp, ho, box_run]) (k _ _ E L' R' hi)
    · cases hs
  · rename_i t parts ho
    rw [ho] at hx
    exact pure_step R (build_step ht ho (by simpa [Op.operands] using hx) hs hpre)
  · rename_i t n parts ho
    rw [ho] at hx
    exact st_step (buildSlice_step ht R ho (by simpa [Op.operands] using hx) hs hpre)
  · rename_i t q p ho
    rw [ho] at hx
    have hk : (tt t).kind ≠ 9 := by
      have h0 := hs
      unfold semLoad at h0
      split at h0
      · split at h0
        · injection h0 with e1 e2; subst e1; exact hpre.2.2.2.2
        · injection h0 with e1 e2; subst e1; exact hpre.2.2.2.2
        · cases h0
      · injection h0 with e1 e2; subst e1; exact hpre.2.2
      · cases h0
    exact val (load_run (ht.facts t hk) R (one hx) hs hpre) (by simp [execOp, ho])
  · rename_i t q1 q2 p y ho
    rw [ho] at hx
    obtain ⟨hp, hq⟩ := two hx
    obtain ⟨w', hrun, R', hr⟩ := store_step (fun h => ht.facts t h) R hp hq hs hpre
    intro next Q k
    refine wp_of_skip (w' := w') (by simp [execOp, ho, hrun]) (k _ _ E L R' ?_)
    rw [hr]; exact undef_is
  · rename_i q p ho
    rw [ho] at hx
    exact pure_step R (nil_step R (one hx) hs hpre q ho rfl)
  · rename_i op t q1 q2 ty y z ho
    rw [ho] at hx
    obtain ⟨hp, hq⟩ := two hx
    exact val (bin_step (ox := q1) (oy := q2) ht R hp hq hs hpre) (by simp [execOp, ho])
  · rename_i op t q p ho
    rw [ho] at hx
    exact val (un_step (one hx) hs) (by simp [execOp, ho])
  · rename_i t1 t2 q p ho
    rw [ho] at hx
    exact val (conv_step ht (one hx) hs hpre) (by simp [execOp, ho])
  · rename_i t q k p ho
    rw [ho] at hx
    exact val (field_step ht R (one hx) hs hpre) (by simp [execOp, ho])
  · rename_i t q k p ho
    rw [ho] at hx
    exact val (fieldV_step ht (one hx) hs hpre) (by simp [execOp, ho])
  · rename_i t q1 q2 y z ho
    rw [ho] at hx
    obtain ⟨hp, hq⟩ := two hx
    exact val (index_step ht R hp hq hs hpre) (by simp [execOp, ho])
  · rename_i t q1 q2 y z ho
    rw [ho] at hx
    obtain ⟨hp, hq⟩ := two hx
    exact val (indexV_step ht hp hq hs hpre) (by simp [execOp, ho])
  · rename_i q k p ho
    rw [ho] at hx
    exact val (extract_step (one hx) hs) (by simp [execOp, ho])
  · rename_i f first caps ho
    rw [ho] at hx
    split at hs
    · rename_i hf
      simp only [okv] at hs
      injection hs with e1 e2; subst e1 e2
      have hf0 : first = #[] := Array.eq_empty_of_size_eq_zero hf
      subst hf0
      refine pure_step R ⟨.func (.func f) #[] (caps.map a.eval), by simp [execOp, ho, Instr.makeFunc], ?_, rfl⟩
      unfold V.Is
      exact ⟨caps.toList.map a.eval, by rw [← Array.toList_map], by simpa [Op.operands] using hx⟩
    · cases hs
  · rename_i t q1 q2 l c ho
    rw [ho] at hx
    obtain ⟨hp, hq⟩ := two hx
    exact vst (make_step ht R hp hq hs hpre) (by simp [execOp, ho])
  · rename_i t q p ho
    rw [ho] at hx
    exact val (slice_step (vl := none) (vh := none) ht R (one hx) (by simp) (by simp) (by simp) (by simp) hs hpre) (by simp [execOp, ho])
  · rename_i t q ql p l ho
    rw [ho] at hx
    obtain ⟨hp, hq⟩ := two hx
    exact val (slice_step (vl := some (a.eval ql)) (vh := none) ht R hp (by rintro _ ⟨⟩; exact ⟨_, rfl, hq⟩) (by simp) (by simp) (by simp) hs hpre) (by simp [execOp, ho])
  · rename_i t q qh p h ho
    rw [ho] at hx
    obtain ⟨hp, hq⟩ := two hx
    exact val (slice_step (vl := none) (vh := some (a.eval qh)) ht R hp (by simp) (by simp) (by rintro _ ⟨⟩; exact ⟨_, rfl, hq⟩) (by simp) hs hpre) (by simp [execOp, ho])
  · rename_i t q ql qh p l h ho
    rw [ho] at hx
    obtain ⟨hp, hl, hh⟩ := three (show IsAll E L [p, l, h] [a.eval q, a.eval ql, a.eval qh] by simpa [Op.operands] using hx)
    exact val (slice_step (vl := some (a.eval ql)) (vh := some (a.eval qh)) ht R hp (by rintro _ ⟨⟩; exact ⟨_, rfl, hl⟩) (by simp) (by rintro _ ⟨⟩; exact ⟨_, rfl, hh⟩) (by simp) hs hpre) (by simp [execOp, ho])
  · rename_i t q qh qm p h m ho
    rw [ho] at hx
    obtain ⟨hp, hh, hm⟩ := three (show IsAll E L [p, h, m] [a.eval q, a.eval qh, a.eval qm] by simpa [Op.operands] using hx)
    exact val (noRoom_step ht R hp hh hm hs hpre) (by simp [execOp, ho])
  · rename_i xs _ _ b args ts ho
    rw [ho] at hx
    have hx' : IsAll E L xs (args.toList.map a.eval) := by simpa [Op.operands, Call.operands] using hx
    have hex : ∀ cs : Array Value, (args.toList.map a.eval) = cs.toList → ∃ cc : Array Bool, execOp a.eval o = builtin b ts o.type cc cs := by
      intro cs hcs
      have : args.map a.eval = cs := by apply Array.ext'; rw [Array.toList_map, hcs]
      refine ⟨args.map fun | .const _ => true | _ => false, ?_⟩
      unfold execOp
      simp only [ho, resolve, pure_bind, invoke, this]
      rfl
    unfold semBuiltin okv at hs
    split at hs
    · rename_i y t hts
      have hts' : ts = #[t] := by apply Array.ext'; rw [hts]
      subst hts'
      obtain ⟨v, r', e, hp, hn⟩ := (show ∃ v r', args.toList.map a.eval = v :: r' ∧ y.Is E L v ∧ IsAll E L [] r' by unfold IsAll at hx'; exact hx')
      unfold IsAll at hn
      subst hn
      obtain ⟨cc, hcc⟩ := hex #[v] (by rw [e])
      exact val (len_step (ts := #[t]) (ty := o.type) ht R rfl hp hs hpre) hcc
    · rename_i k y r'
      obtain ⟨v, r'', e, hp, hn⟩ := (show ∃ v r'', args.toList.map a.eval = v :: r'' ∧ (V.int k y).Is E L v ∧ IsAll E L r' r'' by unfold IsAll at hx'; exact hx')
      unfold V.Is at hp
      subst hp
      split at hs
      · rename_i z hm
        injection hs with e1 e2; subst e1 e2
        obtain ⟨cc, hcc⟩ := hex (Value.int k y :: r'').toArray (by rw [e])
        refine val (q := Builtin.min_ ts o.type (Value.int k y :: r'').toArray) ⟨_, ?_, int_is k z, rfl⟩ hcc
        have := minmax_run (P := P) (E := E) (L := L) (w := w) false k r' r'' y z hm hn
        simpa [Builtin.min_] using this
      · cases hs
    · rename_i k y r'
      obtain ⟨v, r'', e, hp, hn⟩ := (show ∃ v r'', args.toList.map a.eval = v :: r'' ∧ (V.int k y).Is E L v ∧ IsAll E L r' r'' by unfold IsAll at hx'; exact hx')
      unfold V.Is at hp
      subst hp
      split at hs
      · rename_i z hm
        injection hs with e1 e2; subst e1 e2
        obtain ⟨cc, hcc⟩ := hex (Value.int k y :: r'').toArray (by rw [e])
        refine val (q := Builtin.max_ ts o.type (Value.int k y :: r'').toArray) ⟨_, ?_, int_is k z, rfl⟩ hcc
        have := minmax_run (P := P) (E := E) (L := L) (w := w) true k r' r'' y z hm hn
        simpa [Builtin.max_] using this
      · cases hs
    · rename_i p y t t' hts
      split at hs
      · rename_i htt
        subst htt
        have hts' : ts = #[t, t] := by apply Array.ext'; rw [hts]
        subst hts'
        obtain ⟨v, r', e, hp, hn⟩ := (show ∃ v r', args.toList.map a.eval = v :: r' ∧ p.Is E L v ∧ IsAll E L [y] r' by unfold IsAll at hx'; exact hx')
        unfold IsAll at hn
        obtain ⟨u, r'', rfl, hq, hn⟩ := hn
        unfold IsAll at hn
        subst hn
        obtain ⟨cc, hcc⟩ := hex #[v, u] (by rw [e])
        exact vst (append_step (ty := o.type) ht R hp hq hs hpre) hcc
      · cases hs
    · cases hs
  · cases hs
theorem call_run {f : FuncId} {args : List V} (R : RepE B w0 E0 E L0 L s a w) (hc : callOf s o.op = some (f, args)) (hu : uncP true (rds s o.op.operands.toList)) :
    ∃ vs : List Value, (execOp a.eval o).run P w = (callFunc f vs.toArray).run P w ∧ IsAll E L args vs := by
  unfold callOf at hc
  split at hc
  · rename_i q as ts ho
    split at hc
    · rename_i f' caps hq
      simp only [Option.some.injEq, Prod.mk.injEq] at hc
      obtain ⟨rfl, rfl⟩ := hc
      rw [ho] at hu
      have hx := rds_is R (Op.call ⟨.value q, as, ts⟩).operands.toList
      have hops : (Op.call ⟨.value q, as, ts⟩).operands.toList = q :: as.toList := by simp [Op.operands, Call.operands]
      rw [hops] at hu hx
      have hu' : unc1 true (s.rd q) ∧ uncP true (rds s as.toList) := hu
      have hf := unc_is (rd_is R q) hu'.1
      rw [hq] at hf
      unfold V.Is at hf
      obtain ⟨cs, hfv, hcaps⟩ := hf
      have hargs := uncs_is (rds_is R as.toList) hu'.2
      refine ⟨as.toList.map a.eval ++ cs, ?_, isAll_append hargs hcaps⟩
      unfold execOp
      simp only [ho, resolve, hfv, Deferred.ofValue, Sem.run_bind, Sem.run_pure, Result.andThen_ok, invoke]
      congr 2
      simp
    · cases hc
  · cases hc
theorem call_steps {f : FuncId} {args : List V} (R : RepE B w0 E0 E L0 L s a w) (hc : callOf s o.op = some (f, args)) (hu : uncP true (rds s o.op.operands.toList)) {fp : List Nat} {r : V} {upd : List (Nat × Own)} (hr : Run P f args fp s.ow r upd) :
    StepsTo P B w0 E0 L0 s a w o ⟨fp, r, upd⟩ := by
  obtain ⟨vs, hrun, hargs⟩ := call_run (P := P) R hc hu
  intro next Q k
  unfold Oper.wp
  rw [hrun, hr.enters, Oper.upon_enter]
  refine ((hr.run s.ow fun _ _ => rfl) B w0 E0 E L0 L s.n s.tm a w vs R hargs).mono ?_
  rintro e w' ⟨v, E', L', rfl, R', hi⟩
  exact k v w' E' L' R' hi
theorem main_sound {tt : TT} (ht : tt.Ok P) (R : RepE B w0 E0 E L0 L s a w) {ops : Array Oper} {ds : List (Option Tmp)} (hds : ds = ops.toList.map (·.dst)) {id : Nat} {x : Out} {Q : Exit → Act → World → Prop}
    (h : Main P tt ds id o s x) {next : Act → World → Prop} (hK : ∀ a' w' E' L', RepE B w0 E0 E' L0 L' (s.app o.dst x) a' w' → next a' w') :
    if Region.wanted o (yielded ops a.tmps) then o.wp P a w next Q else next (a.put o.dst undef) w := by
  have fin : ∀ {y : Out}, dlt s.n o.dst → StepsTo P B w0 E0 L0 s a w o y → (∀ v w' E' L', RepE B w0 E0 E' L0 L' ⟨s.n, s.tm, app s.ow y.upd⟩ a w' → y.r.Is E' L' v → ∃ E' L', RepE B w0 E0 E' L0 L' (s.app o.dst x) (a.put o.dst v) w') → o.wp P a w next Q := by
    intro y hd hst hy
    refine hst next Q fun v w' E' L' R' hi => ?_
    obtain ⟨E'', L'', R''⟩ := hy v w' E' L' R' hi
    exact hK _ _ _ _ R''
  have same : ∀ {y : Out}, dlt s.n o.dst → x = y → ∀ v w' E' L', RepE B w0 E0 E' L0 L' ⟨s.n, s.tm, app s.ow y.upd⟩ a w' → y.r.Is E' L' v → ∃ E' L', RepE B w0 E0 E' L0 L' (s.app o.dst x) (a.put o.dst v) w' := by
    rintro y hd rfl v w' E' L' R' hi
    exact ⟨E', L', R'.put hd hi⟩
  have guarded : ∀ {y : Out} {r : V}, dlt s.n o.dst → x = ⟨y.fp, .cnd true r, []⟩ → y.upd = [] → y.r = r → ∀ v w' E' L', RepE B w0 E0 E' L0 L' ⟨s.n, s.tm, app s.ow y.upd⟩ a w' → y.r.Is E' L' v → ∃ E' L', RepE B w0 E0 E' L0 L' (s.app o.dst x) (a.put o.dst v) w' := by
    rintro y r hd rfl hu rfl v w' E' L' R' hi
    rw [hu] at R'
    refine ⟨E', L', R'.put hd ?_⟩
    unfold V.Is
    exact ⟨fun _ => hi, (fun h => by cases h)⟩
  have guardedU : ∀ {y : Out}, dlt s.n o.dst → x = ⟨y.fp, .cnd true y.r, y.upd⟩ → ∀ v w' E' L', RepE B w0 E0 E' L0 L' ⟨s.n, s.tm, app s.ow y.upd⟩ a w' → y.r.Is E' L' v → ∃ E' L', RepE B w0 E0 E' L0 L' (s.app o.dst x) (a.put o.dst v) w' := by
    rintro y hd rfl v w' E' L' R' hi
    refine ⟨E', L', R'.put hd ?_⟩
    unfold V.Is
    exact ⟨fun _ => hi, (fun h => by cases h)⟩
  have skipped : ∀ {fp : List Nat} {r : V}, dlt s.n o.dst → x = ⟨fp, .cnd false r, []⟩ → next (a.put o.dst undef) w := by
    rintro fp r hd rfl
    refine hK _ _ E L (R.put hd ?_)
    unfold V.Is
    exact ⟨(fun h => by cases h), fun _ => rfl⟩
  unfold Main at h
  generalize hsf : stepF tt ds id o s = sf at h
  unfold stepF at hsf
  split at hsf
  ·
    rename_i hgd
    rw [if_pos (by simp [Region.wanted, hgd])]
    unfold stepU at hsf
    split at hsf
    · rename_i c y z ho
      subst hsf
      split at h
      · rename_i pre y' hp
        obtain ⟨hpre, rfl⟩ := h
        obtain ⟨v, r', hrun, rfl, hi, hd⟩ := pick_is (P := P) R ho hp hpre
        exact wp_of_run hrun (hK _ _ E L (R.put hd hi))
      · exact h.elim
      · exact h.elim
      · rename_i hp
        unfold pickV at hp
        split at hp <;> cases hp
    · rename_i q as ts ho
      subst hsf
      unfold CallStep at h
      rw [hgd] at h
      obtain ⟨f, args, h1, h2, h3, h4⟩ := h.ex
      exact fin h3 (call_steps R h1 h2 h4) (same h3 rfl)
    · rename_i op hnp hnc
      generalize hs : sem tt s.ow id o.op (uncs (rds s o.op.operands.toList)) = res at hsf
      cases res with
      | fail => subst hsf; exact h.elim
      | ok pre y =>
        subst hsf
        obtain ⟨⟨hu, hp, hd⟩, rfl⟩ := h
        exact fin hd (sem_sound ht R (uncs_is (rds_is R _) hu) hs hp) (same hd rfl)
  · rename_i j want hgd
    have hd : (ops[j]?).bind (·.dst) = ds.getD j none := by
      subst hds
      simp only [List.getD_eq_getElem?_getD, List.getElem?_map, Array.getElem?_toList]
      cases ops[j]? <;> rfl
    obtain ⟨hw1, hw2⟩ := gOf_wanted R hgd hd
    split at hsf
    · subst hsf; exact h.elim
    · rename_i hg
      subst hsf
      obtain ⟨hdl, rfl⟩ := h
      rw [hw2 hg]
      simp only [Bool.false_eq_true, if_false]
      exact hK _ _ E L (R.put hdl undef_is)
    · rename_i g hg
      rw [hw1 hg]
      unfold stepG at hsf
      split at hsf
      · rename_i c y z ho
        rcases offV_or hsf with ⟨_, _, rfl⟩ | hsf
        · exact h.elim
        subst hsf
        split at h
        · rename_i pre y' hp
          obtain ⟨hpre, rfl⟩ := h
          cases g with
          | true =>
            rw [if_pos rfl]
            obtain ⟨v, r', hrun, rfl, hi, hdl⟩ := pick_is (P := P) R ho hp hpre
            refine wp_of_run hrun (hK _ _ E L (R.put hdl ?_))
            unfold V.Is
            exact ⟨fun _ => hi, (fun h => by cases h)⟩
          | false =>
            simp only [Bool.false_eq_true, if_false]
            unfold pickV at hp
            split at hp
            · injection hp with e1 e2
              subst e1 e2
              exact skipped hpre.2.2.2 rfl
            · injection hp with e1 e2
              subst e1 e2
              exact skipped hpre.2.2.2 rfl
            · injection hp with e1 e2
              subst e1 e2
              exact skipped hpre.2.2.2 rfl
            · cases hp
        · exact h.elim
        · exact h.elim
        · rename_i hp
          unfold pickV at hp
          split at hp <;> cases hp
      · rename_i q as ts ho
        subst hsf
        unfold CallStep at h
        rw [hgd] at h
        simp only [hg] at h
        obtain ⟨f, args, r, h1, h2, h3, h4, h5, h6⟩ := h.ex
        obtain ⟨xfp, xr, xu⟩ := x
        simp only at h5 h6
        subst h5 h6
        cases g with
        | true =>
          rw [if_pos rfl]
          exact fin h3 (call_steps R h1 h2 (h4 rfl)) (guarded h3 rfl rfl rfl)
        | false =>
          simp only [Bool.false_eq_true, if_false]
          exact skipped h3 rfl
      · rename_i op hnp hnc
        generalize hs : sem tt s.ow id o.op (uncs (rds s o.op.operands.toList)) = res at hsf
        cases res with
        | fail => subst hsf; exact h.elim
        | ok pre y =>
          unfold resG at hsf
          simp only at hsf
          split at hsf
          · rename_i hyu
            subst hsf
            obtain ⟨⟨hu, hp, hdl⟩, rfl⟩ := h
            cases g with
            | true =>
              rw [if_pos rfl]
              exact fin hdl (sem_sound ht R (uncs_is (rds_is R _) hu) hs (hp rfl)) (guarded hdl rfl hyu rfl)
            | false =>
              simp only [Bool.false_eq_true, if_false]
              exact skipped hdl rfl
          · split at hsf
            · subst hsf
              obtain ⟨⟨hu, hp, hdl⟩, rfl⟩ := h
              rw [if_pos rfl]
              exact fin hdl (sem_sound ht R (uncs_is (rds_is R _) hu) hs hp) (guardedU hdl rfl)
            · subst hsf; exact h.elim
theorem step_sound {tt : TT} (ht : tt.Ok P) (R : RepE B w0 E0 E L0 L s a w) {ops : Array Oper} {ds : List (Option Tmp)} (hds : ds = ops.toList.map (·.dst)) {id : Nat} {x : Out} {Q : Exit → Act → World → Prop}
    (h : Step P tt ds id o s x) {next : Act → World → Prop} (hK : ∀ a' w' E' L', RepE B w0 E0 E' L0 L' (s.app o.dst x) a' w' → next a' w') :
    if Region.wanted o (yielded ops a.tmps) then o.wp P a w next Q else next (a.put o.dst undef) w := by
  rcases h with h | h
  · exact main_sound ht R hds h hK
  · unfold SkipStep at h
    split at h
    · exact h.elim
    · rename_i j want hgd
      obtain ⟨h1, h2, rfl⟩ := h
      have hd : (ops[j]?).bind (·.dst) = ds.getD j none := by
        subst hds
        simp only [List.getD_eq_getElem?_getD, List.getElem?_map, Array.getElem?_toList]
        cases ops[j]? <;> rfl
      rw [(gOf_wanted R hgd hd).1 h1]
      simp only [Bool.false_eq_true, if_false]
      refine hK _ _ E L (R.put h2 ?_)
      unfold V.Is
      exact ⟨(fun h => by cases h), fun _ => rfl⟩
theorem evOps_sound {tt : TT} (ht : tt.Ok P) {ops : Array Oper} {ds : List (Option Tmp)} (hds : ds = ops.toList.map (·.dst)) {K : St → Prop} {Q : Exit → Act → World → Prop}
    (hK : ∀ s' a' w' E' L', K s' → RepE B w0 E0 E' L0 L' s' a' w' → Q .normal a' w') (tg : Nat → Nat) :
    ∀ (l : List Nat) (s : St) (a : Act) (w : World) (E : Ext) (L : List Loc), (∀ i ∈ l, i < ops.size) → RepE B w0 E0 E L0 L s a w → evOps P tt ds (l.map fun i => (tg i, ops.getD i default)) s K → wpOps P ops Q l a w
  | [], s, a, w, E, L, _, R, h => hK s a w E L h R
  | i :: l, s, a, w, E, L, hL, R, h => by
    have hi : i < ops.size := hL i (List.mem_cons_self ..)
    have hget : ops[i]? = some (ops.getD i default) := by simp [hi]
    simp only [wpOps, hget]
    obtain ⟨x, hx, h⟩ := h
    have := step_sound (o := ops.getD i default) ht R hds hx (Q := Q) (next := wpOps P ops Q l) (ops := ops) fun a' w' E' L' R' =>
      evOps_sound ht hds hK tg l _ a' w' E' L' (fun j hj => hL j (List.mem_cons_of_mem _ hj)) R' h
    by_cases hw : Region.wanted (ops.getD i default) (yielded ops a.tmps) = true
    · rw [if_pos hw] at this ⊢
      exact .inl this
    · rw [if_neg hw] at this ⊢
      exact this
def news (nw : Bool) : Op → Bool
  | .call ⟨.value _, _, _⟩ => nw
  | .alloc _ => true
  | .box _ _ => true
  | .buildSlice _ _ _ => true
  | .makeSlice _ _ _ => true
  | .call ⟨.builtin .append, _, _⟩ => true
  | _ => false
def tag (nw : Bool) : List Oper → Nat → List (Nat × Oper)
  | [], _ => []
  | o :: r, n => (n, o) :: tag nw r (if news nw o.op then n + 1 else n)
def frees (nw : Bool) : List Oper → List Own
  | [] => []
  | o :: r => if news nw o.op then .free :: frees nw r else frees nw r
def dsts : List Oper → List (Option Tmp)
  | [] => []
  | o :: r => o.dst :: dsts r
def evReg (P : Program) (tt : TT) (nw : Bool) (l : List Oper) (s : St) (K : St → Prop) : Prop :=
  evOps P tt (dsts l) (tag nw l s.ow.length) ⟨s.n, s.tm, s.ow ++ frees nw l⟩ K
theorem dsts_eq : ∀ l : List Oper, dsts l = l.map (·.dst)
  | [] => rfl
  | _ :: r => by rw [dsts, dsts_eq r]; rfl
theorem frees_free (nw : Bool) : ∀ (l : List Oper), ∀ x ∈ frees nw l, x = .free
  | [], x, h => by cases h
  | o :: r, x, h => by
    unfold frees at h
    split at h
    · rcases List.mem_cons.1 h with h | h
      · exact h
      · exact frees_free nw r x h
    · exact frees_free nw r x h
def tagAt (nw : Bool) : List Oper → Nat → Nat → Nat
  | [], n, _ => n
  | _ :: _, n, 0 => n
  | o :: r, n, i + 1 => tagAt nw r (if news nw o.op then n + 1 else n) i
theorem tag_eq (nw : Bool) : ∀ (l : List Oper) (n : Nat), tag nw l n = (List.range l.length).map fun i => (tagAt nw l n i, l.getD i default)
  | [], _ => rfl
  | o :: r, n => by
    rw [tag, tag_eq nw r, List.length_cons, List.range_succ_eq_map, List.map_cons, List.map_map]
    rfl
theorem RepE.free (R : RepE B w0 E0 E L0 L s a w) {l : List Own} (hl : ∀ x ∈ l, x = .free) : RepE B w0 E0 E L0 (L ++ List.replicate l.length .free) ⟨s.n, s.tm, s.ow ++ l⟩ a w := by
  have hto : Locs.to L (L ++ List.replicate l.length .free) := fun k x h => ⟨x, by rw [List.getElem?_append_left (get_lt h)]; exact h, Loc.to_refl x⟩
  have hget : ∀ {k : Nat} {oo : Own} {ll : Loc}, (s.ow ++ l)[k]? = some oo → (L ++ List.replicate l.length .free)[k]? = some ll → (s.ow[k]? = some oo ∧ L[k]? = some ll) ∨ (oo = .free ∧ ll = .free) := by
    intro k oo ll h1 h2
    rcases Nat.lt_or_ge k s.ow.length with hk | hk
    · rw [List.getElem?_append_left hk] at h1
      rw [List.getElem?_append_left (by rw [R.len]; exact hk)] at h2
      exact .inl ⟨h1, h2⟩
    · rw [List.getElem?_append_right hk] at h1
      rw [List.getElem?_append_right (by rw [R.len]; exact hk)] at h2
      exact .inr ⟨hl _ (List.mem_of_getElem? h1), List.eq_of_mem_replicate (List.mem_of_getElem? h2)⟩
  refine R.upd E.le_refl (fun _ _ => rfl) R.inn (Below.refl B w) hto (by simp [R.len]) (fun k oo ll h1 h2 => ?_) (fun i j oi oj li lj g hij hi hli hj hlj hgi hgj => ?_)
  · rcases hget h1 h2 with ⟨h1, h2⟩ | ⟨rfl, rfl⟩
    · exact (R.owns k oo ll h1 h2).keep E.le_refl hto (fun _ _ => ⟨rfl, fun h => h⟩)
    · exact rfl
  · rcases hget hi hli with ⟨hi, hli⟩ | ⟨rfl, rfl⟩
    · rcases hget hj hlj with ⟨hj, hlj⟩ | ⟨rfl, rfl⟩
      · exact R.apart i j oi oj li lj g hij hi hli hj hlj hgi hgj
      · cases hgj
    · cases hgi
theorem ev_region {tt : TT} (ht : tt.Ok P) (nw : Bool) {m id : Nat} {l : List Oper} {Q : Exit → St → Prop} (h : evReg P tt nw l s fun s' => Q .normal s') :
    EV P m (.region id l.toArray false) Q s := by
  rintro B w0 E0 L0 a w _ ⟨E, L, R⟩
  refine wp_region ?_
  have hsz : l.toArray.size = l.length := by simp
  rw [hsz]
  refine evOps_sound (ds := dsts l) ht (by rw [dsts_eq]) (fun s' a' w' E' L' hk R' => ⟨s', hk, E', L', R'⟩) (tagAt nw l s.ow.length) (List.range l.length) _ a w E _ (by simp) (R.free (frees_free nw l)) ?_
  unfold evReg at h
  rw [tag_eq] at h
  have : (fun i => (tagAt nw l s.ow.length i, l.toArray.getD i default)) = fun i => (tagAt nw l s.ow.length i, l.getD i default) := by
    funext i; simp [List.getD_eq_getElem?_getD, Array.getD_eq_getD_getElem?]
  rw [this]; exact h
end
end Go.K

import Derived.Orders
import Derived.Test.YtbibplkhhdomnaaGreatW07
set_option linter.all false
namespace Go.K
open Go Go.RowKit
structure It where
  ix : Nat
  id : Nat
  o : Oper
  inc : List Nat
  lg : Bool
def memN (i : Nat) : List Nat → Bool
  | [] => false
  | j :: r => (i == j) || memN i r
theorem memN_iff {i : Nat} : ∀ {l : List Nat}, memN i l = true ↔ i ∈ l
  | [] => by simp [memN]
  | j :: r => by simp [memN, memN_iff (l := r)]
def dis : List Nat → List Nat → Bool
  | [], _ => true
  | i :: r, m => !memN i m && dis r m
theorem dis_iff {m : List Nat} : ∀ {l : List Nat}, dis l m = true ↔ ∀ i ∈ l, i ∉ m
  | [] => by simp [dis]
  | j :: r => by
    have : memN j m = false ↔ j ∉ m := by rw [← memN_iff]; cases memN j m <;> simp
    simp [dis, this, dis_iff (l := r)]
abbrev Log := List (Nat × List Nat × List Nat)
def keys : List (Nat × Own) → List Nat
  | [] => []
  | p :: r => p.1 :: keys r
theorem keys_mem {i : Nat} : ∀ {l : List (Nat × Own)}, i ∈ keys l ↔ ∃ p ∈ l, p.1 = i
  | [] => by simp [keys]
  | p :: r => by simp [keys, keys_mem (l := r), eq_comm]
def confs (inc : List Nat) (ids wrs : List Nat) : Log → Bool
  | [] => true
  | (i, ids', wr') :: r => (!memN i inc || (dis wr' ids && dis wrs ids')) && confs inc ids wrs r
theorem confs_iff {inc ids wrs : List Nat} : ∀ {log : Log}, confs inc ids wrs log = true ↔ ∀ e ∈ log, e.1 ∈ inc → (∀ i ∈ e.2.2, i ∉ ids) ∧ (∀ i ∈ wrs, i ∉ e.2.1)
  | [] => by simp [confs]
  | (i, ids', wr') :: r => by
    have h1 : confs inc ids wrs ((i, ids', wr') :: r) = true ↔ (memN i inc = true → dis wr' ids = true ∧ dis wrs ids' = true) ∧ confs inc ids wrs r = true := by
      show ((!memN i inc || (dis wr' ids && dis wrs ids')) && confs inc ids wrs r) = true ↔ _
      cases memN i inc <;> cases dis wr' ids <;> cases dis wrs ids' <;> cases confs inc ids wrs r <;> simp
    rw [h1, memN_iff, dis_iff, dis_iff, confs_iff (log := r)]
    simp
def logAdd (it : It) (x : Out) (log : Log) : Log :=
  match it.lg with
  | true => (it.ix, x.fp, keys x.upd) :: log
  | false => log
def confQ (it : It) (x : Out) (log : Log) : Prop :=
  match it.inc with
  | [] => True
  | inc => confs inc x.fp (keys x.upd) log = true
theorem confQ_iff {it : It} {x : Out} {log : Log} : confQ it x log ↔ ∀ e ∈ log, e.1 ∈ it.inc → (∀ i ∈ e.2.2, i ∉ x.fp) ∧ (∀ i ∈ keys x.upd, i ∉ e.2.1) := by
  unfold confQ
  split
  · rename_i h; rw [h]; simp
  · rename_i h; exact confs_iff
def evD (P : Program) (tt : TT) (ds : List (Option Tmp)) : List It → Log → St → (St → Prop) → Prop
  | [], _, s, K => K s
  | it :: r, log, s, K => ∃ x, Step P tt ds it.id it.o s x ∧ confQ it x log ∧ evD P tt ds r (logAdd it x log) (s.app it.o.dst x) K
def writes : Op → Bool
  | .store _ _ _ => true
  | op => news true op
structure Indep (ds : List (Option Tmp)) (x y : It) : Prop where
  xy : ∀ d, x.o.dst = some d → d ∉ lookT ds y.o ∧ y.o.dst ≠ some d
  yx : ∀ d, y.o.dst = some d → d ∉ lookT ds x.o
  log : writes x.o.op = true ∨ writes y.o.op = true → x.ix ∈ y.inc ∧ x.lg = true
def Closed (K : St → Prop) : Prop := ∀ s t, Eqv s t → K s → K t
section
variable {P : Program} {ds : List (Option Tmp)} {s s' : St} {tt : TT} {K : St → Prop} {log log' : Log}
theorem logAdd_mem {it : It} {x : Out} {e : Nat × List Nat × List Nat} : e ∈ logAdd it x log ↔ e ∈ log ∨ (it.lg = true ∧ e = (it.ix, x.fp, keys x.upd)) := by
  unfold logAdd
  split
  · rename_i h; simp [h, or_comm]
  · rename_i h; simp [h]
theorem evD_less : ∀ {L : List It} {log log' : Log} {s : St}, (∀ e ∈ log', e ∈ log) → evD P tt ds L log s K → evD P tt ds L log' s K
  | [], _, _, _, _, h => h
  | it :: r, log, log', s, hl, h => by
    obtain ⟨x, h1, h2, h3⟩ := h
    refine ⟨x, h1, confQ_iff.2 fun e he => confQ_iff.1 h2 e (hl e he), evD_less (fun e he => ?_) h3⟩
    rcases logAdd_mem.1 he with he | he
    · exact logAdd_mem.2 (.inl (hl e he))
    · exact logAdd_mem.2 (.inr he)
theorem evD_eqv (hK : Closed K) : ∀ {L : List It} {log : Log} {s s' : St}, Eqv s s' → evD P tt ds L log s K → evD P tt ds L log s' K
  | [], _, s, s', he, h => hK s s' he h
  | it :: r, log, s, s', he, h => by
    obtain ⟨x, h1, h2, h3⟩ := h
    exact ⟨x, h1.same he.same, h2, evD_eqv hK he.app h3⟩
theorem sem_upd {id : Nat} {op : Op} {xs : List V} {ow : List Own} {pre : Prop} {x : Out} (hw : writes op = false) (h : sem tt ow id op xs = .ok pre x) : x.upd = [] := by
  have off : ∀ {f : Res} (_ : f = .ok pre x), (∀ a b, f = .ok a b → b.upd = []) → x.upd = [] := fun hf k => k _ _ hf
  unfold sem at h
  split at h
  all_goals first
    | (cases hw; done)
    | (simp only [okv] at h; injection h with e1 e2; subst e1 e2; rfl)
    | skip
  all_goals first
    | (unfold semBuild at h; repeat' (first | (cases h; done) | (injection h with e1 e2; subst e1 e2; rfl) | split at h))
    | (unfold semLoad at h; repeat' (first | (cases h; done) | (injection h with e1 e2; subst e1 e2; rfl) | split at h))
    | (unfold semNil at h; repeat' (first | (cases h; done) | (injection h with e1 e2; subst e1 e2; rfl) | split at h))
    | (unfold semBin okv okp at h; repeat' (first | (cases h; done) | (injection h with e1 e2; subst e1 e2; rfl) | exact (semPtrNil_upd h).1 | split at h))
    | (unfold semUn at h; repeat' (first | (cases h; done) | (injection h with e1 e2; subst e1 e2; rfl) | split at h))
    | (unfold semConv okp at h; repeat' (first | (cases h; done) | (injection h with e1 e2; subst e1 e2; rfl) | split at h))
    | (unfold semField at h; repeat' (first | (cases h; done) | (injection h with e1 e2; subst e1 e2; rfl) | split at h))
    | (unfold semFieldV at h; repeat' (first | (cases h; done) | (injection h with e1 e2; subst e1 e2; rfl) | split at h))
    | (unfold semIndex at h; repeat' (first | (cases h; done) | (injection h with e1 e2; subst e1 e2; rfl) | split at h))
    | (unfold semIndexV at h; repeat' (first | (cases h; done) | (injection h with e1 e2; subst e1 e2; rfl) | split at h))
    | (unfold semExtract at h; repeat' (first | (cases h; done) | (injection h with e1 e2; subst e1 e2; rfl) | split at h))
    | (unfold semSlice okp at h; repeat' (first | (cases h; done) | (injection h with e1 e2; subst e1 e2; rfl) | split at h))
    | (unfold semNoRoom okp at h; repeat' (first | (cases h; done) | (injection h with e1 e2; subst e1 e2; rfl) | split at h))
    | (unfold semBuiltin okv at h
       split at h
       · unfold semLen okp at h; repeat' (first | (cases h; done) | (injection h with e1 e2; subst e1 e2; rfl) | split at h)
       · repeat' (first | (cases h; done) | (injection h with e1 e2; subst e1 e2; rfl) | split at h)
       · repeat' (first | (cases h; done) | (injection h with e1 e2; subst e1 e2; rfl) | split at h)
       · cases hw
       · cases h)
    | (split at h
       · simp only [okv] at h; injection h with e1 e2; subst e1 e2; rfl
       · cases h)
    | (cases h; done)
theorem Main.still {id : Nat} {o : Oper} {x : Out} (hw : writes o.op = false) (h : Main P tt ds id o s x) : x.upd = [] := by
  unfold Main at h
  generalize hsf : stepF tt ds id o s = sf at h
  have pk : ∀ {g : Bool} {c y z : V} {f : V → V} {q : Prop}, pickV g c y z f q = sf → x.upd = [] := by
    intro g c y z f q hp
    unfold pickV at hp
    split at hp
    · subst hp; obtain ⟨_, rfl⟩ := h; rfl
    · subst hp; obtain ⟨_, rfl⟩ := h; rfl
    · subst hp; obtain ⟨_, rfl⟩ := h; rfl
    · subst hp; exact h.elim
  unfold stepF at hsf
  split at hsf
  · unfold stepU at hsf
    split at hsf
    · exact pk hsf
    · rename_i ho; rw [ho] at hw; cases hw
    · generalize hs : sem tt s.ow id o.op (uncs (rds s o.op.operands.toList)) = res at hsf
      cases res with
      | fail => subst hsf; exact h.elim
      | ok pre y => subst hsf; obtain ⟨_, rfl⟩ := h; exact sem_upd hw hs
  · split at hsf
    · subst hsf; exact h.elim
    · subst hsf; obtain ⟨_, rfl⟩ := h; rfl
    · unfold stepG at hsf
      split at hsf
      · rcases offV_or hsf with ⟨_, _, rfl⟩ | hsf
        · exact h.elim
        · exact pk hsf
      · rename_i ho; rw [ho] at hw; cases hw
      · generalize hs : sem tt s.ow id o.op (uncs (rds s o.op.operands.toList)) = res at hsf
        cases res with
        | fail => subst hsf; exact h.elim
        | ok pre y =>
          unfold resG at hsf
          simp only at hsf
          split at hsf
          · subst hsf; obtain ⟨_, rfl⟩ := h; rfl
          · split at hsf
            · subst hsf; obtain ⟨_, rfl⟩ := h; show y.upd = []; exact sem_upd hw hs
            · subst hsf; exact h.elim
theorem Step.still {id : Nat} {o : Oper} {x : Out} (hw : writes o.op = false) (h : Step P tt ds id o s x) : x.upd = [] := by
  rcases h with h | h
  · exact h.still hw
  · unfold SkipStep at h
    split at h
    · exact h.elim
    · obtain ⟨_, _, rfl⟩ := h; rfl
theorem app_n {d : Option Tmp} {x : Out} : (s.app d x).n = s.n := by cases d <;> rfl
theorem app_ow {d : Option Tmp} {x : Out} : (s.app d x).ow = app s.ow x.upd := by cases d <;> rfl
theorem app_lk {d : Option Tmp} {x : Out} {t : Nat} (h : d ≠ some t) : lk (s.app d x).tm t = lk s.tm t := by
  cases d with
  | none => rfl
  | some d =>
    show lk ((d, x.r) :: s.tm) t = _
    unfold lk
    rw [if_neg (fun e => h (by rw [e]))]
    cases hs : s.tm <;> rfl
theorem app_lk_self {d : Nat} {x : Out} : lk (s.app (some d) x).tm d = x.r := by
  show lk ((d, x.r) :: s.tm) d = _
  unfold lk
  rw [if_pos rfl]
theorem pull (hK : Closed K) {y : It} {post : List It} : ∀ {pre : List It} {log : Log} {s : St}, (∀ x ∈ pre, Indep ds x y) → evD P tt ds (pre ++ y :: post) log s K →
    ∃ z, Step P tt ds y.id y.o s z ∧ confQ y z log ∧ evD P tt ds (pre ++ post) log (s.app y.o.dst z) K
  | [], log, s, _, h => by
    obtain ⟨z, h1, h2, h3⟩ := h
    exact ⟨z, h1, h2, evD_less (fun e he => logAdd_mem.2 (.inl he)) h3⟩
  | x :: pre, log, s, hp, h => by
    obtain ⟨u, hx, hcx, h⟩ := h
    have hi := hp x (List.mem_cons_self ..)
    obtain ⟨z, hy, hcy, h2⟩ := pull hK (fun q hq => hp q (List.mem_cons_of_mem _ hq)) h
    have apart : (∀ i ∈ keys u.upd, i ∉ z.fp) ∧ (∀ i ∈ keys z.upd, i ∉ u.fp) := by
      cases hwx : writes x.o.op with
      | true =>
        obtain ⟨hin, hlg⟩ := hi.log (.inl hwx)
        exact confQ_iff.1 hcy (x.ix, u.fp, keys u.upd) (logAdd_mem.2 (.inr ⟨hlg, rfl⟩)) hin
      | false => cases hwy : writes y.o.op with
        | true =>
          obtain ⟨hin, hlg⟩ := hi.log (.inr hwy)
          exact confQ_iff.1 hcy (x.ix, u.fp, keys u.upd) (logAdd_mem.2 (.inr ⟨hlg, rfl⟩)) hin
        | false => rw [hx.still hwx, hy.still hwy]; simp [keys]
    have hy0 : Step P tt ds y.id y.o s z := hy.same ⟨app_n.symm, fun t ht => (app_lk fun e => (hi.xy t e).1 ht).symm, fun i hiz => by
      rw [app_ow]
      exact app_get fun p hpp e => apart.1 i (keys_mem.2 ⟨p, hpp, e⟩) hiz⟩
    have hx0 : Step P tt ds x.id x.o (s.app y.o.dst z) u := hx.same ⟨app_n, fun t ht => app_lk fun e => hi.yx t e ht, fun i hiu => by
      rw [app_ow]
      exact (app_get fun p hpp e => apart.2 i (keys_mem.2 ⟨p, hpp, e⟩) hiu).symm⟩
    refine ⟨z, hy0, confQ_iff.2 fun e he => confQ_iff.1 hcy e (logAdd_mem.2 (.inl he)), u, hx0, hcx, evD_eqv hK ?_ h2⟩
    refine ⟨by simp only [app_n], fun k => ?_, ?_⟩
    · by_cases e1 : x.o.dst = some k
      · have e2 : y.o.dst ≠ some k := (hi.xy k e1).2
        rw [e1, app_lk_self, app_lk e2, app_lk_self]
      · rw [app_lk e1]
        by_cases e2 : y.o.dst = some k
        · rw [e2, app_lk_self, app_lk_self]
        · rw [app_lk e2, app_lk e2, app_lk e1]
    · simp only [app_ow]
      exact (app_comm fun p hpp q hq e => apart.1 p.1 (keys_mem.2 ⟨p, hpp, rfl⟩) (by rw [e]; exact hy.keys q hq)).symm
end
def depsOf (o : Oper) : List Nat := (o.after.toList.filter fun e => Region.binds .any e).map (·.on)
def okDeps : Nat → List Oper → Bool
  | _, [] => true
  | i, o :: r => (depsOf o).all (fun d => decide (d < i)) && okDeps (i + 1) r
def indepB (ds : List (Option Tmp)) (x y : It) : Bool :=
  (match x.o.dst with | some d => !memN d (lookT ds y.o) && y.o.dst != some d | none => true) &&
  (match y.o.dst with | some d => !memN d (lookT ds x.o) | none => true) &&
  (!(writes x.o.op || writes y.o.op) || (memN x.ix y.inc && x.lg))
def okPairs (ds : List (Option Tmp)) (C : List (List Nat)) : List It → Bool
  | [] => true
  | x :: r => r.all (fun y => memN x.ix (C.getD y.ix []) || indepB ds x y) && okPairs ds C r
def okC (l : List Oper) (C : List (List Nat)) : Bool :=
  (List.range l.length).all fun i => (C.getD i []).all fun p => memN p (depsOf (l.getD i default)) || (depsOf (l.getD i default)).any fun q => memN p (C.getD q [])
def addN (x : Nat) (l : List Nat) : List Nat := if memN x l then l else x :: l
def closures : List Oper → List (List Nat) → List (List Nat)
  | [], acc => acc
  | o :: r, acc => closures r (acc ++ [(depsOf o).foldr (fun d l => (acc.getD d []).foldr addN (addN d l)) []])
def its (nw : Bool) : List Oper → Nat → Nat → List (List Nat × Bool) → List It
  | [], _, _, _ => []
  | o :: r, i, n, [] => ⟨i, n, o, [], false⟩ :: its nw r (i + 1) (if news nw o.op then n + 1 else n) []
  | o :: r, i, n, a :: q => ⟨i, n, o, a.1, a.2⟩ :: its nw r (i + 1) (if news nw o.op then n + 1 else n) q
def okD (nw : Bool) (l : List Oper) (ann : List (List Nat × Bool)) : Bool :=
  okDeps 0 l && (okC l (closures l []) && okPairs (dsts l) (closures l []) (its nw l 0 0 ann))
theorem its_all {nw : Bool} {f : It → Bool} (hf : ∀ i n m o c g, f ⟨i, n, o, c, g⟩ = f ⟨i, m, o, c, g⟩) : ∀ (l : List Oper) (i n m : Nat) (ann : List (List Nat × Bool)), (its nw l i n ann).all f = (its nw l i m ann).all f
  | [], _, _, _, _ => rfl
  | o :: r, i, n, m, [] => by unfold its; rw [List.all_cons, List.all_cons, hf i n m, its_all hf r]
  | o :: r, i, n, m, a :: q => by unfold its; rw [List.all_cons, List.all_cons, hf i n m, its_all hf r]
theorem okPairs_id {nw : Bool} {ds : List (Option Tmp)} {C : List (List Nat)} : ∀ (l : List Oper) (i n m : Nat) (ann : List (List Nat × Bool)), okPairs ds C (its nw l i n ann) = okPairs ds C (its nw l i m ann)
  | [], _, _, _, _ => rfl
  | o :: r, i, n, m, [] => by
    unfold its okPairs
    rw [okPairs_id r _ (if news nw o.op then n + 1 else n) (if news nw o.op then m + 1 else m), its_all (by intros; rfl) r _ (if news nw o.op then n + 1 else n) (if news nw o.op then m + 1 else m)]
    rfl
  | o :: r, i, n, m, a :: q => by
    unfold its okPairs
    rw [okPairs_id r _ (if news nw o.op then n + 1 else n) (if news nw o.op then m + 1 else m), its_all (by intros; rfl) r _ (if news nw o.op then n + 1 else n) (if news nw o.op then m + 1 else m)]
    rfl
theorem indepB_iff {ds : List (Option Tmp)} {x y : It} (h : indepB ds x y = true) : Indep ds x y := by
  unfold indepB at h
  rw [Bool.and_eq_true, Bool.and_eq_true] at h
  obtain ⟨⟨h1, h2⟩, h3⟩ := h
  have nm : ∀ {d : Nat} {l : List Nat}, (!memN d l) = true → d ∉ l := fun {d l} h k => by rw [memN_iff.2 k] at h; cases h
  refine ⟨fun d hd => ?_, fun d hd => ?_, fun hw => ?_⟩
  · rw [hd] at h1
    simp only [Bool.and_eq_true] at h1
    exact ⟨nm h1.1, by simpa using h1.2⟩
  · rw [hd] at h2; exact nm h2
  · have : (writes x.o.op || writes y.o.op) = true := by rcases hw with h | h <;> simp [h]
    rw [this] at h3
    simp only [Bool.not_true, Bool.false_or, Bool.and_eq_true] at h3
    exact ⟨memN_iff.1 h3.1, h3.2⟩
def Later (ds : List (Option Tmp)) (C : List (List Nat)) (x y : It) : Prop := x.ix < y.ix ∧ (x.ix ∈ C.getD y.ix [] ∨ Indep ds x y)
theorem its_spec {nw : Bool} : ∀ {l : List Oper} {i n : Nat} {ann : List (List Nat × Bool)} {it : It}, it ∈ its nw l i n ann → i ≤ it.ix ∧ l[it.ix - i]? = some it.o
  | [], _, _, _, _, h => by unfold its at h; cases h
  | o :: r, i, n, [], it, h => by
    unfold its at h
    rcases List.mem_cons.1 h with rfl | h
    · simp
    · obtain ⟨h1, h2⟩ := its_spec h
      refine ⟨by omega, ?_⟩
      rw [show it.ix - i = (it.ix - (i + 1)) + 1 by omega]; exact h2
  | o :: r, i, n, a :: q, it, h => by
    unfold its at h
    rcases List.mem_cons.1 h with rfl | h
    · simp
    · obtain ⟨h1, h2⟩ := its_spec h
      refine ⟨by omega, ?_⟩
      rw [show it.ix - i = (it.ix - (i + 1)) + 1 by omega]; exact h2
theorem its_cov {nw : Bool} : ∀ {l : List Oper} {i n : Nat} {ann : List (List Nat × Bool)} {k : Nat}, k < l.length → ∃ it ∈ its nw l i n ann, it.ix = i + k
  | [], _, _, _, _, h => by cases h
  | o :: r, i, n, [], 0, h => by unfold its; exact ⟨_, List.mem_cons_self .., rfl⟩
  | o :: r, i, n, a :: q, 0, h => by unfold its; exact ⟨_, List.mem_cons_self .., rfl⟩
  | o :: r, i, n, [], k + 1, h => by
    unfold its
    obtain ⟨it, h1, h2⟩ := its_cov (l := r) (i := i + 1) (n := if news nw o.op then n + 1 else n) (ann := []) (k := k) (by simpa using h)
    exact ⟨it, List.mem_cons_of_mem _ h1, by omega⟩
  | o :: r, i, n, a :: q, k + 1, h => by
    unfold its
    obtain ⟨it, h1, h2⟩ := its_cov (l := r) (i := i + 1) (n := if news nw o.op then n + 1 else n) (ann := q) (k := k) (by simpa using h)
    exact ⟨it, List.mem_cons_of_mem _ h1, by omega⟩
theorem its_pairs {nw : Bool} {ds : List (Option Tmp)} {C : List (List Nat)} : ∀ {l : List Oper} {i n : Nat} {ann : List (List Nat × Bool)}, okPairs ds C (its nw l i n ann) = true → (its nw l i n ann).Pairwise (Later ds C) := by
  have key : ∀ {x : It} {L : List It}, (∀ y ∈ L, x.ix < y.ix) → (L.Pairwise (Later ds C)) → L.all (fun y => memN x.ix (C.getD y.ix []) || indepB ds x y) = true → (x :: L).Pairwise (Later ds C) := by
    intro x L h1 h2 h3
    refine List.Pairwise.cons (fun y hy => ⟨h1 y hy, ?_⟩) h2
    have := List.all_eq_true.1 h3 y hy
    rcases Bool.or_eq_true _ _ ▸ this with h | h
    · exact .inl (memN_iff.1 h)
    · exact .inr (indepB_iff h)
  intro l
  induction l with
  | nil => intro i n ann _; unfold its; exact List.Pairwise.nil
  | cons o r ih =>
    intro i n ann h
    cases ann with
    | nil =>
      unfold its okPairs at h
      unfold its
      rw [Bool.and_eq_true] at h
      exact key (fun y hy => by have := (its_spec hy).1; simp only; omega) (ih h.2) h.1
    | cons a q =>
      unfold its okPairs at h
      unfold its
      rw [Bool.and_eq_true] at h
      exact key (fun y hy => by have := (its_spec hy).1; simp only; omega) (ih h.2) h.1
theorem okDeps_at : ∀ {l : List Oper} {i k : Nat}, okDeps i l = true → k < l.length → ∀ d ∈ depsOf (l.getD k default), d < i + k
  | [], _, _, _, h, _, _ => by cases h
  | o :: r, i, 0, h, _, d, hd => by
    unfold okDeps at h
    rw [Bool.and_eq_true] at h
    have := List.all_eq_true.1 h.1 d hd
    simpa using this
  | o :: r, i, k + 1, h, hk, d, hd => by
    unfold okDeps at h
    rw [Bool.and_eq_true] at h
    have := okDeps_at h.2 (by simpa using hk) d hd
    omega
section
variable {P : Program} {B : Nat} {w0 : World} {E0 E : Ext} {L0 L : List Loc} {s : St} {a : Act} {w : World}
structure Left (l : List Oper) (ds : List (Option Tmp)) (C : List (List Nat)) (listed : Array Bool) (L : List It) : Prop where
  size : listed.size = l.length
  get : ∀ it ∈ L, l[it.ix]? = some it.o ∧ listed[it.ix]? = some false
  cov : ∀ i, i < l.length → listed.getD i true = false → ∃ it ∈ L, it.ix = i
  srt : L.Pairwise (Later ds C)
  down : ∀ i, i < l.length → listed.getD i false = true → ∀ d ∈ depsOf (l.getD i default), listed.getD d false = true
theorem closed {l : List Oper} {C : List (List Nat)} {listed : Array Bool} (hd : okDeps 0 l = true) (hC : okC l C = true)
    (down : ∀ i, i < l.length → listed.getD i false = true → ∀ d ∈ depsOf (l.getD i default), listed.getD d false = true) :
    ∀ (i : Nat), i < l.length → (∀ d ∈ depsOf (l.getD i default), listed.getD d false = true) → ∀ p ∈ C.getD i [], listed.getD p false = true := by
  intro i
  induction i using Nat.strongRecOn with
  | ind i ih =>
    intro hi hl p hp
    have h1 := List.all_eq_true.1 (List.all_eq_true.1 hC i (List.mem_range.2 hi)) p hp
    rcases Bool.or_eq_true _ _ ▸ h1 with h | h
    · exact hl p (memN_iff.1 h)
    · obtain ⟨q, hq, hm⟩ := List.any_eq_true.1 h
      have hlt : q < i := by have := okDeps_at hd hi q hq; omega
      exact ih q hlt (Nat.lt_trans hlt hi) (down q (Nat.lt_trans hlt hi) (hl q hq)) p (memN_iff.1 hm)
theorem ready_iff {l : List Oper} {listed : Array Bool} {i : Nat} : i ∈ Region.ready .any l.toArray listed ↔ i < l.length ∧ listed.getD i true = false ∧ ∀ d ∈ depsOf (l.getD i default), listed.getD d false = true := by
  unfold Region.ready
  rw [List.mem_filter]
  have hr : i ∈ List.range l.toArray.size ↔ i < l.length := by simp
  rw [hr]
  constructor
  · rintro ⟨h, k⟩
    rw [Bool.and_eq_true] at k
    obtain ⟨k1, k2⟩ := k
    refine ⟨h, by simpa using k1, fun d hd => ?_⟩
    have hget : l.toArray[i]? = some (l.getD i default) := by simp [h]
    rw [hget] at k2
    simp only [Option.map_some, Option.getD_some] at k2
    unfold depsOf at hd
    obtain ⟨e, he, rfl⟩ := List.mem_map.1 hd
    obtain ⟨he, hb⟩ := List.mem_filter.1 he
    have := Array.all_eq_true'.1 k2 e (by simpa using he)
    rw [hb] at this
    simpa using this
  · rintro ⟨h, k1, k2⟩
    refine ⟨h, ?_⟩
    rw [Bool.and_eq_true]
    refine ⟨by rw [k1]; rfl, ?_⟩
    have hget : l.toArray[i]? = some (l.getD i default) := by simp [h]
    rw [hget]
    simp only [Option.map_some, Option.getD_some]
    refine Array.all_eq_true'.2 fun e he => ?_
    cases hb : Region.binds .any e with
    | false => rfl
    | true =>
      have := k2 e.on (by unfold depsOf; exact List.mem_map.2 ⟨e, List.mem_filter.2 ⟨by simpa using he, hb⟩, rfl⟩)
      rw [this]; rfl
theorem getD_some {x : Array Bool} {i : Nat} {b c : Bool} (h : x[i]? = some c) : x.getD i b = c := by simp [Array.getD_eq_getD_getElem?, h]
theorem drawn_sound {tt : TT} (ht : tt.Ok P) {l : List Oper} {ds : List (Option Tmp)} (hds : ds = l.map (·.dst)) {C : List (List Nat)} (hd : okDeps 0 l = true) (hC : okC l C = true) {K : St → Prop} (hcl : Closed K) {Q : Exit → Act → World → Prop}
    (hK : ∀ s' a' w' E' L', K s' → RepE B w0 E0 E' L0 L' s' a' w' → Q .normal a' w') :
    ∀ (fuel : Nat) (listed : Array Bool) (M : List It) (log : Log) (s : St) (a : Act) (w : World) (E : Ext) (L : List Loc), M.length ≤ fuel → Left l ds C listed M → RepE B w0 E0 E L0 L s a w → evD P tt ds M log s K → wpAny P .any l.toArray Q fuel listed a w := by
  intro fuel
  induction fuel with
  | zero =>
    intro listed M log s a w E L hf hL R h
    cases M with
    | cons _ _ => simp at hf
    | nil =>
      refine ⟨?_, hK _ _ _ _ _ h R⟩
      refine List.eq_nil_iff_forall_not_mem.2 fun i hi => ?_
      obtain ⟨h1, h2, _⟩ := ready_iff.1 hi
      obtain ⟨it, hit, _⟩ := hL.cov i h1 h2
      cases hit
  | succ fuel ih =>
    intro listed M log s a w E L hf hL R h
    refine ⟨fun hr => ?_, fun i hi => ?_⟩
    · cases M with
      | nil => exact hK _ _ _ _ _ h R
      | cons it r =>
        exfalso
        obtain ⟨g1, g2⟩ := hL.get it (List.mem_cons_self ..)
        have hlt : it.ix < l.length := get_lt g1
        have : it.ix ∈ Region.ready .any l.toArray listed := by
          refine ready_iff.2 ⟨hlt, getD_some g2, fun d hdd => ?_⟩
          have hdl : d < it.ix := by have := okDeps_at hd hlt d hdd; omega
          cases hld : listed.getD d false with
          | true => rfl
          | false =>
            have hsz : d < listed.size := by rw [hL.size]; omega
            obtain ⟨jt, hj, hjx⟩ := hL.cov d (by omega) (by
              simp only [Array.getD_eq_getD_getElem?, Array.getElem?_eq_getElem hsz, Option.getD_some] at hld ⊢; exact hld)
            rcases List.mem_cons.1 hj with rfl | hj
            · omega
            · have := (List.rel_of_pairwise_cons hL.srt hj).1; omega
        rw [hr] at this; cases this
    · obtain ⟨hi1, hi2, hi3⟩ := ready_iff.1 hi
      obtain ⟨y, hy, rfl⟩ := hL.cov i hi1 hi2
      obtain ⟨pre, post, rfl⟩ := List.append_of_mem hy
      obtain ⟨g1, g2⟩ := hL.get y hy
      have hcl' := closed hd hC hL.down y.ix hi1 hi3
      have hind : ∀ x ∈ pre, Indep ds x y := by
        intro x hx
        have := (List.pairwise_append.1 hL.srt).2.2 x hx y (List.mem_cons_self ..)
        rcases this.2 with h | h
        · have h1 := hcl' _ h
          have h2 := (hL.get x (List.mem_append_left _ hx)).2
          rw [getD_some h2] at h1; cases h1
        · exact h
      have hne : ∀ it ∈ pre ++ post, it.ix ≠ y.ix := by
        intro it hit e
        rcases List.mem_append.1 hit with h | h
        · have := ((List.pairwise_append.1 hL.srt).2.2 it h y (List.mem_cons_self ..)).1; omega
        · have := (List.rel_of_pairwise_cons (List.pairwise_append.1 hL.srt).2.1 h).1; omega
      have hmem : ∀ it ∈ pre ++ post, it ∈ pre ++ y :: post := by
        intro it hit
        rcases List.mem_append.1 hit with h | h
        · exact List.mem_append_left _ h
        · exact List.mem_append_right _ (List.mem_cons_of_mem _ h)
      have hnew : Left l ds C (listed.setIfInBounds y.ix true) (pre ++ post) := by
        refine ⟨by rw [Array.size_setIfInBounds]; exact hL.size, fun it hit => ⟨(hL.get it (hmem it hit)).1, ?_⟩, fun j hj hl => ?_, ?_, fun j hj hl d hdd => ?_⟩
        · rw [Array.getElem?_setIfInBounds_ne (fun e => hne it hit e.symm)]; exact (hL.get it (hmem it hit)).2
        · by_cases e : y.ix = j
          · subst e
            simp [Array.getD_eq_getD_getElem?, hL.size, hi1] at hl
          · obtain ⟨it, h1, h2⟩ := hL.cov j hj (by
              simp only [Array.getD_eq_getD_getElem?, Array.getElem?_setIfInBounds_ne e] at hl ⊢; exact hl)
            refine ⟨it, ?_, h2⟩
            rcases List.mem_append.1 h1 with h | h
            · exact List.mem_append_left _ h
            · rcases List.mem_cons.1 h with rfl | h
              · exact absurd h2 e
              · exact List.mem_append_right _ h
        · exact hL.srt.sublist (List.Sublist.append (List.Sublist.refl _) (List.sublist_cons_self _ _))
        · have keep : ∀ d, listed.getD d false = true → (listed.setIfInBounds y.ix true).getD d false = true := by
            intro d h
            by_cases e : y.ix = d
            · subst e; simp [Array.getD_eq_getD_getElem?, hL.size, hi1]
            · simp only [Array.getD_eq_getD_getElem?, Array.getElem?_setIfInBounds_ne e] at h ⊢; exact h
          by_cases e : y.ix = j
          · subst e; exact keep d (hi3 d hdd)
          · refine keep d (hL.down j hj ?_ d hdd)
            simp only [Array.getD_eq_getD_getElem?, Array.getElem?_setIfInBounds_ne e] at hl ⊢; exact hl
      obtain ⟨z, hz, _, hev⟩ := pull hcl hind h
      have hlen : (pre ++ post).length ≤ fuel := by
        simp only [List.length_append, List.length_cons] at hf ⊢; omega
      have := step_sound (o := y.o) (ops := l.toArray) ht R hds hz (Q := Q) (next := wpAny P .any l.toArray Q fuel (listed.setIfInBounds y.ix true)) fun a' w' E' L' R' =>
        ih _ _ _ _ a' w' E' L' hlen hnew R' hev
      have hget : l.toArray[y.ix]? = some y.o := by simpa using g1
      unfold wpOp
      rw [hget]
      simp only
      by_cases hw : Region.wanted y.o (yielded l.toArray a.tmps) = true
      · rw [if_pos hw] at this ⊢; exact .inl this
      · rw [if_neg hw] at this ⊢; exact this
def evRegD (P : Program) (tt : TT) (nw : Bool) (l : List Oper) (ann : List (List Nat × Bool)) (s : St) (K : St → Prop) : Prop :=
  evD P tt (dsts l) (its nw l 0 s.ow.length ann) [] ⟨s.n, s.tm, s.ow ++ frees nw l⟩ K
theorem evD_mono {P : Program} {tt : TT} {ds : List (Option Tmp)} {K K' : St → Prop} (hk : ∀ s, K s → K' s) : ∀ {M : List It} {log : Log} {s : St}, evD P tt ds M log s K → evD P tt ds M log s K'
  | [], _, s, h => hk s h
  | _ :: _, _, _, ⟨x, h1, h2, h3⟩ => ⟨x, h1, h2, evD_mono hk h3⟩
theorem ev_region_draw (hm : P.follows .mixedOrders = true) {tt : TT} (ht : tt.Ok P) (nw : Bool) {m id : Nat} {l : List Oper} (ann : List (List Nat × Bool)) (hok : okD nw l ann = true) {Q : Exit → St → Prop} (h : evRegD P tt nw l ann s fun s' => Q .normal s') :
    EV P m (.region id l.toArray true) Q s := by
  rintro B w0 E0 L0 a w _ ⟨E, L, R⟩
  unfold okD at hok
  rw [Bool.and_eq_true, Bool.and_eq_true] at hok
  obtain ⟨h1, h2, h3⟩ := hok
  refine wp_region_any hm ?_
  refine drawn_sound ht (by rw [dsts_eq]) h1 h2 (K := fun t => ∃ t0, Q .normal t0 ∧ Eqv t0 t) (fun s t he ⟨t0, q, e⟩ => ⟨t0, q, e.trans he⟩) (fun s' a' w' E' L' ⟨t0, hq, he⟩ R' => ⟨t0, hq, E', L', R'.eqv he.symm⟩) _ _ (its nw l 0 s.ow.length ann) [] _ a _ E _ ?_ ?_ (R.drew.free (frees_free nw l)) (evD_mono (fun s hq => ⟨s, hq, Eqv.refl s⟩) h)
  · have : ∀ (l : List Oper) (i n : Nat) (ann : List (List Nat × Bool)), (its nw l i n ann).length = l.length := by
      intro l
      induction l with
      | nil => intros; rfl
      | cons o r ih => intro i n ann; cases ann <;> (unfold its; simp [ih])
    rw [this]; simp
  · refine ⟨by simp, fun it hit => ?_, fun i hi _ => ?_, its_pairs (by rw [okPairs_id l 0 s.ow.length 0]; exact h3), fun i hi hl => ?_⟩
    · have := (its_spec hit).2
      simp only [Nat.sub_zero] at this
      refine ⟨this, ?_⟩
      have hlt : it.ix < l.length := get_lt this
      simp [hlt]
    · obtain ⟨it, h, e⟩ := its_cov (nw := nw) (l := l) (i := 0) (n := s.ow.length) (ann := ann) hi
      exact ⟨it, h, by omega⟩
    · simp [Array.getD_eq_getD_getElem?, hi] at hl
end
end Go.K

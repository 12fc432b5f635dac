import Derived.Test.YtbibplkhhdomnaaGreatW06
set_option linter.all false
namespace Go.K
open Go Go.RowKit
def Local (f : List Own → Res) : Prop := ∀ a pre x, f a = .ok pre x → (∀ p ∈ x.upd, p.1 ∈ x.fp) ∧ ∀ b, agree x.fp a b → f b = .ok pre x
theorem Local.const {r : Res} (h : ∀ pre x, r = .ok pre x → x.upd = []) : Local fun _ => r := fun a pre x hr => ⟨fun p hp => (by rw [h pre x hr] at hp; cases hp), fun _ _ => hr⟩
section
variable {tt : TT}
theorem agree_one {i : Nat} {a b : List Own} {o : Option Own} (h : agree [i] a b) (ha : a[i]? = o) : b[i]? = o := by
  rw [← h i (List.mem_cons_self ..)]; exact ha
theorem agree_hd {i : Nat} {l : List Nat} {a b : List Own} {o : Option Own} (h : agree (i :: l) a b) (ha : a[i]? = o) : b[i]? = o := by
  rw [← h i (List.mem_cons_self ..)]; exact ha
theorem semNew_loc (id : Nat) (t : TypeId) (sz : Nat) (cs : List V) : Local fun ow => semNew ow id t sz cs := by
  intro a pre x h
  simp only [semNew] at h
  split at h
  · rename_i ho
    injection h with e1 e2; subst e1 e2
    exact ⟨by simp, fun b hb => by simp only [semNew, agree_one hb ho]⟩
  · cases h
theorem semLoad_loc (i : TI) (p : V) : Local fun ow => semLoad tt i ow p := by
  intro a pre x h
  simp only [semLoad] at h
  split at h
  · split at h
    · rename_i ho
      injection h with e1 e2; subst e1 e2
      exact ⟨by simp, fun b hb => by simp only [semLoad, agree_one hb ho]⟩
    · rename_i ho
      injection h with e1 e2; subst e1 e2
      exact ⟨by simp, fun b hb => by simp only [semLoad, agree_one hb ho]⟩
    · cases h
  · injection h with e1 e2; subst e1 e2
    exact ⟨by simp, fun b hb => rfl⟩
  · cases h
theorem semStore_loc (i : TI) (p y : V) : Local fun ow => semStore tt i ow p y := by
  intro a pre x h
  simp only [semStore] at h
  split at h
  · rename_i hcs
    split at h
    · rename_i ho
      injection h with e1 e2; subst e1 e2
      exact ⟨by simp, fun b hb => by simp only [semStore, hcs, agree_one hb ho]⟩
    · cases h
  · cases h
theorem semNil_loc (p : V) : Local fun ow => semNil ow p := by
  intro a pre x h
  simp only [semNil] at h
  split at h
  · split at h
    · rename_i ho
      injection h with e1 e2; subst e1 e2
      exact ⟨by simp, fun b hb => by simp only [semNil, agree_one hb ho]⟩
    · rename_i ho
      injection h with e1 e2; subst e1 e2
      exact ⟨by simp, fun b hb => by simp only [semNil, agree_one hb ho]⟩
    · cases h
  · injection h with e1 e2; subst e1 e2
    exact ⟨by simp, fun b hb => rfl⟩
  · cases h
theorem semField_loc (t : TypeId) (j : Nat) (p : V) : Local fun ow => semField tt t j ow p := by
  intro a pre x h
  simp only [semField] at h
  split at h
  · split at h
    · rename_i hf ho
      injection h with e1 e2; subst e1 e2
      exact ⟨by simp, fun b hb => by simp only [semField, hf, agree_one hb ho]⟩
    · rename_i hf ho
      injection h with e1 e2; subst e1 e2
      exact ⟨by simp, fun b hb => by simp only [semField, hf, agree_one hb ho]⟩
    · cases h
  · split at h
    · rename_i hf
      injection h with e1 e2; subst e1 e2
      exact ⟨by simp, fun b hb => by simp only [semField, hf]⟩
    · cases h
  · cases h
theorem semIndex_loc (t : TypeId) (p i : V) : Local fun ow => semIndex tt t ow p i := by
  intro a pre x h
  simp only [semIndex] at h
  split at h
  · injection h with e1 e2; subst e1 e2
    exact ⟨by simp, fun b hb => rfl⟩
  · split at h
    · rename_i ho
      injection h with e1 e2; subst e1 e2
      exact ⟨by simp, fun b hb => by simp only [semIndex, agree_one hb ho]⟩
    · rename_i ho
      injection h with e1 e2; subst e1 e2
      exact ⟨by simp, fun b hb => by simp only [semIndex, agree_one hb ho]⟩
    · cases h
  · split at h
    · rename_i ho
      injection h with e1 e2; subst e1 e2
      exact ⟨by simp, fun b hb => by simp only [semIndex, agree_one hb ho]⟩
    · rename_i ho
      injection h with e1 e2; subst e1 e2
      exact ⟨by simp, fun b hb => by simp only [semIndex, agree_one hb ho]⟩
    · cases h
  · injection h with e1 e2; subst e1 e2
    exact ⟨by simp, fun b hb => rfl⟩
  · cases h
theorem semBuildSlice_loc (t : TypeId) (len : Nat) (idx : List Nat) (id : Nat) (xs : List V) : Local fun ow => semBuildSlice tt t len idx ow id xs := by
  intro a pre x h
  simp only [semBuildSlice] at h
  split at h
  · rename_i ho hf
    injection h with e1 e2; subst e1 e2
    exact ⟨by simp, fun b hb => by simp only [semBuildSlice, agree_one hb ho, hf]⟩
  · cases h
theorem semPtrNil_upd {op : BinOp} {i : TI} {q : Prop} {fp : List Nat} {b : Bool} {pre : Prop} {x : Out} (h : semPtrNil op i q fp b = .ok pre x) : x.upd = [] ∧ x.fp = fp := by
  unfold semPtrNil at h
  split at h <;> first | (cases h; done) | (injection h with e1 e2; subst e1 e2; exact ⟨rfl, rfl⟩)
theorem semBin_loc (op : BinOp) (i : TI) (p q : V) : Local fun ow => semBin op i ow p q := by
  intro a pre x h
  have key : x.upd = [] ∧ ∀ b, agree x.fp a b → semBin op i b p q = .ok pre x := by
    simp only [semBin] at h
    split at h
    · refine ⟨?_, fun b _ => h⟩
      simp only [okv, okp] at h
      repeat' (first | (cases h; done) | (injection h with e1 e2; subst e1 e2; rfl) | split at h)
    · refine ⟨?_, fun b _ => h⟩
      simp only [okv, okp] at h
      repeat' (first | (cases h; done) | (injection h with e1 e2; subst e1 e2; rfl) | split at h)
    · refine ⟨?_, fun b _ => h⟩
      simp only [okv, okp] at h
      repeat' (first | (cases h; done) | (injection h with e1 e2; subst e1 e2; rfl) | split at h)
    · refine ⟨?_, fun b _ => h⟩
      simp only [okv, okp] at h
      repeat' (first | (cases h; done) | (injection h with e1 e2; subst e1 e2; rfl) | split at h)
    · split at h
      · rename_i ho
        obtain ⟨h1, h2⟩ := semPtrNil_upd h
        refine ⟨h1, fun b hb => ?_⟩
        rw [h2] at hb
        simp only [semBin, agree_one hb ho]
        exact h
      · rename_i ho
        obtain ⟨h1, h2⟩ := semPtrNil_upd h
        refine ⟨h1, fun b hb => ?_⟩
        rw [h2] at hb
        simp only [semBin, agree_one hb ho]
        exact h
      · cases h
    · exact ⟨(semPtrNil_upd h).1, fun b _ => h⟩
    · exact ⟨(semPtrNil_upd h).1, fun b _ => h⟩
    · cases h
  exact ⟨fun p hp => (by rw [key.1] at hp; cases hp), key.2⟩
theorem semLen_loc (i : TI) (p : V) : Local fun ow => semLen i ow p := by
  intro a pre x h
  simp only [semLen, okp] at h
  split at h
  · injection h with e1 e2; subst e1 e2
    exact ⟨by simp, fun b hb => rfl⟩
  · injection h with e1 e2; subst e1 e2
    exact ⟨by simp, fun b hb => rfl⟩
  · injection h with e1 e2; subst e1 e2
    exact ⟨by simp, fun b hb => rfl⟩
  · split at h
    · rename_i ho
      injection h with e1 e2; subst e1 e2
      exact ⟨by simp, fun b hb => by simp only [semLen, agree_one hb ho]⟩
    · rename_i ho
      injection h with e1 e2; subst e1 e2
      exact ⟨by simp, fun b hb => by simp only [semLen, agree_one hb ho]⟩
    · cases h
  · cases h
theorem sl?_loc {p : V} {a b : List Own} {q : Prop} {fp : List Nat} {rows : List (List V)} (h : p.sl? a = some (q, fp, rows)) (hb : agree fp a b) : p.sl? b = some (q, fp, rows) := by
  unfold V.sl? at h
  split at h
  · exact h
  · exact h
  · split at h
    · rename_i ho
      simp only [Option.some.injEq, Prod.mk.injEq] at h
      obtain ⟨rfl, rfl, rfl⟩ := h
      simp only [V.sl?, agree_one hb ho]
    · rename_i ho
      simp only [Option.some.injEq, Prod.mk.injEq] at h
      obtain ⟨rfl, rfl, rfl⟩ := h
      simp only [V.sl?, agree_one hb ho]
    · cases h
  · cases h
theorem agree_tl {i : Nat} {l : List Nat} {a b : List Own} (h : agree (i :: l) a b) : agree l a b := fun j hj => h j (List.mem_cons_of_mem _ hj)
theorem semAppend_loc (t : TypeId) (id : Nat) (p y : V) : Local fun ow => semAppend tt t ow id p y := by
  intro a pre x h
  simp only [semAppend] at h
  split at h
  · rename_i hsl
    split at h
    · rename_i ho
      injection h with e1 e2; subst e1 e2
      exact ⟨by simp, fun b hb => by simp only [semAppend, sl?_loc hsl (agree_tl hb), agree_hd hb ho]⟩
    · cases h
  · rename_i hsl
    split at h
    · rename_i ho
      injection h with e1 e2; subst e1 e2
      exact ⟨by simp, fun b hb => by simp only [semAppend, sl?_loc hsl (agree_tl hb), agree_hd hb ho]⟩
    · cases h
  · cases h
theorem semMake_loc (t : TypeId) (id : Nat) (p y : V) : Local fun ow => semMake tt t ow id p y := by
  intro a pre x h
  simp only [semMake] at h
  split at h
  · split at h
    · rename_i ho
      injection h with e1 e2; subst e1 e2
      exact ⟨by simp, fun b hb => by simp only [semMake, agree_one hb ho]⟩
    · cases h
  · cases h
theorem semSlice_loc (t : TypeId) (p : V) (lo hi : Option V) : Local fun ow => semSlice tt t ow p lo hi := by
  intro a pre x h
  simp only [semSlice, okp] at h
  split at h
  · split at h
    · rename_i h1 h2
      injection h with e1 e2; subst e1 e2
      exact ⟨by simp, fun b hb => by simp only [semSlice, h1, h2, okp]⟩
    · cases h
  · split at h
    · rename_i h1 h2
      injection h with e1 e2; subst e1 e2
      exact ⟨by simp, fun b hb => by simp only [semSlice, h1, h2, okp]⟩
    · cases h
  · split at h
    · rename_i h1 h2 ho
      injection h with e1 e2; subst e1 e2
      exact ⟨by simp, fun b hb => by simp only [semSlice, h1, h2, agree_one hb ho]⟩
    · rename_i h1 h2 ho
      injection h with e1 e2; subst e1 e2
      exact ⟨by simp, fun b hb => by simp only [semSlice, h1, h2, agree_one hb ho]⟩
    · cases h
  · cases h
theorem semNoRoom_loc (t : TypeId) (p y z : V) : Local fun ow => semNoRoom tt t ow p y z := by
  intro a pre x h
  simp only [semNoRoom, okp] at h
  split at h
  · split at h
    · injection h with e1 e2; subst e1 e2
      exact ⟨by simp, fun b hb => rfl⟩
    · injection h with e1 e2; subst e1 e2
      exact ⟨by simp, fun b hb => rfl⟩
    · split at h
      · rename_i ho
        injection h with e1 e2; subst e1 e2
        exact ⟨by simp, fun b hb => by simp only [semNoRoom, agree_one hb ho]⟩
      · rename_i ho
        injection h with e1 e2; subst e1 e2
        exact ⟨by simp, fun b hb => by simp only [semNoRoom, agree_one hb ho]⟩
      · cases h
    · cases h
  · cases h
theorem semBuiltin_loc (id : Nat) (bt : Builtin) (ts : List TypeId) (xs : List V) : Local fun ow => semBuiltin tt ow id bt ts xs := by
  intro a pre x h
  simp only [semBuiltin] at h
  split at h
  · obtain ⟨h1, h2⟩ := semLen_loc _ _ a pre x h
    exact ⟨h1, fun b hb => h2 b hb⟩
  · rename_i k y r _
    split at h
    · rename_i hm
      simp only [okv] at h
      injection h with e1 e2; subst e1 e2
      exact ⟨by simp, fun b hb => by simp only [semBuiltin, hm, okv]⟩
    · cases h
  · split at h
    · rename_i hm
      simp only [okv] at h
      injection h with e1 e2; subst e1 e2
      exact ⟨by simp, fun b hb => by simp only [semBuiltin, hm, okv]⟩
    · cases h
  · split at h
    · rename_i htt
      obtain ⟨h1, h2⟩ := semAppend_loc _ _ _ _ a pre x h
      exact ⟨h1, fun b hb => by simp only [semBuiltin, htt, if_true]; rw [← htt]; exact h2 b hb⟩
    · cases h
  · cases h
theorem sem_loc (id : Nat) (op : Op) (xs : List V) : Local fun ow => sem tt ow id op xs := by
  unfold sem
  split
  · exact Local.const fun pre x h => by simp only [okv] at h; injection h with e1 e2; subst e2; rfl
  · exact Local.const fun pre x h => by simp only [okv] at h; injection h with e1 e2; subst e2; rfl
  · split
    · exact Local.const fun pre x h => by cases h
    · exact semNew_loc _ _ _ _
  · split
    · exact semNew_loc _ _ _ _
    · exact Local.const fun pre x h => by cases h
  · refine Local.const fun pre x h => ?_
    unfold semBuild at h
    repeat' (first | (cases h; done) | (injection h with e1 e2; subst e1 e2; rfl) | split at h)
  · exact semBuildSlice_loc _ _ _ _ _
  · exact semLoad_loc _ _
  · exact semStore_loc _ _ _
  · exact semNil_loc _
  · exact semBin_loc _ _ _ _
  · refine Local.const fun pre x h => ?_
    unfold semUn at h
    repeat' (first | (cases h; done) | (injection h with e1 e2; subst e1 e2; rfl) | split at h)
  · refine Local.const fun pre x h => ?_
    unfold semConv okp at h
    repeat' (first | (cases h; done) | (injection h with e1 e2; subst e1 e2; rfl) | split at h)
  · exact semField_loc _ _ _
  · refine Local.const fun pre x h => ?_
    unfold semFieldV at h
    repeat' (first | (cases h; done) | (injection h with e1 e2; subst e1 e2; rfl) | split at h)
  · exact semIndex_loc _ _ _
  · refine Local.const fun pre x h => ?_
    unfold semIndexV at h
    repeat' (first | (cases h; done) | (injection h with e1 e2; subst e1 e2; rfl) | split at h)
  · refine Local.const fun pre x h => ?_
    unfold semExtract at h
    repeat' (first | (cases h; done) | (injection h with e1 e2; subst e1 e2; rfl) | split at h)
  · split
    · exact Local.const fun pre x h => by simp only [okv] at h; injection h with e1 e2; subst e2; rfl
    · exact Local.const fun pre x h => by cases h
  · exact semMake_loc _ _ _ _
  · exact semSlice_loc _ _ _ _
  · exact semSlice_loc _ _ _ _
  · exact semSlice_loc _ _ _ _
  · exact semSlice_loc _ _ _ _
  · exact semNoRoom_loc _ _ _ _
  · exact semBuiltin_loc _ _ _ _
  · exact Local.const fun pre x h => by cases h
end
def tmpsOf : List Operand → List Tmp
  | [] => []
  | .tmp t :: r => t :: tmpsOf r
  | _ :: r => tmpsOf r
def lookT (ds : List (Option Tmp)) (o : Oper) : List Tmp :=
  tmpsOf o.op.operands.toList ++ (match o.guard with | some (j, _) => (ds.getD j none).toList | none => [])
structure Same (ds : List (Option Tmp)) (o : Oper) (fp : List Nat) (s s' : St) : Prop where
  n : s'.n = s.n
  tm : ∀ t ∈ lookT ds o, lk s'.tm t = lk s.tm t
  ow : agree fp s.ow s'.ow
theorem rds_loc {s s' : St} : ∀ {xs : List Operand}, (∀ t ∈ tmpsOf xs, lk s'.tm t = lk s.tm t) → rds s' xs = rds s xs
  | [], _ => rfl
  | x :: r, h => by
    have hr : rds s' r = rds s r := rds_loc fun t ht => h t (by cases x <;> first | exact ht | exact List.mem_cons_of_mem _ ht)
    have hx : s'.rd x = s.rd x := by
      cases x with
      | tmp t => exact h t (List.mem_cons_self ..)
      | _ => rfl
    unfold rds
    rw [hr, hx]
theorem rd_mem {s s' : St} {x : Operand} : ∀ {xs : List Operand}, x ∈ xs → (∀ t ∈ tmpsOf xs, lk s'.tm t = lk s.tm t) → s'.rd x = s.rd x
  | [], h, _ => by cases h
  | y :: r, h, k => by
    rcases List.mem_cons.1 h with rfl | h
    · cases x with
      | tmp t => exact k t (List.mem_cons_self ..)
      | _ => rfl
    · exact rd_mem h fun t ht => k t (by cases y <;> first | exact ht | exact List.mem_cons_of_mem _ ht)
section
variable {P : Program} {tt : TT} {ds : List (Option Tmp)} {id : Nat} {o : Oper} {s s' : St} {x : Out}
theorem Same.rds (h : Same ds o x.fp s s') : rds s' o.op.operands.toList = rds s o.op.operands.toList :=
  rds_loc fun t ht => h.tm t (by unfold lookT; exact List.mem_append_left _ ht)
theorem Same.rd (h : Same ds o x.fp s s') {y : Operand} (hy : y ∈ o.op.operands.toList) : s'.rd y = s.rd y :=
  rd_mem hy fun t ht => h.tm t (by unfold lookT; exact List.mem_append_left _ ht)
theorem Same.gv (h : Same ds o x.fp s s') {j : Nat} {want : Bool} (hg : o.guard = some (j, want)) : s'.gv (ds.getD j none) = s.gv (ds.getD j none) := by
  cases hd : ds.getD j none with
  | none => rfl
  | some d => exact h.tm d (by unfold lookT; rw [hg]; simp only [hd]; exact List.mem_append_right _ (List.mem_cons_self ..))
theorem Same.callOf (h : Same ds o x.fp s s') : callOf s' o.op = callOf s o.op := by
  cases hop : o.op with
  | call c =>
    obtain ⟨callee, args, ts⟩ := c
    cases callee with
    | value q =>
      have hr := h.rds
      rw [hop] at hr
      have hops : (Op.call ⟨.value q, args, ts⟩).operands.toList = q :: args.toList := by simp [Op.operands, Call.operands]
      rw [hops] at hr
      unfold K.rds at hr
      injection hr with h1 h2
      unfold K.callOf
      simp only [h1, h2]
    | _ => rfl
  | _ => rfl
theorem agree.trans {l : List Nat} {a b c : List Own} (h : agree l a b) (k : agree l b c) : agree l a c := fun i hi => (h i hi).trans (k i hi)
theorem agree.symm {l : List Nat} {a b : List Own} (h : agree l a b) : agree l b a := fun i hi => (h i hi).symm
theorem Run.same {f : FuncId} {args : List V} {fp : List Nat} {a b : List Own} {r : V} {upd : List (Nat × Own)} (h : Run P f args fp a r upd) (hab : agree fp a b) : Run P f args fp b r upd :=
  ⟨h.enters, h.keys, fun ow2 h2 => h.run ow2 (hab.trans h2)⟩
theorem Main.keys (h : Main P tt ds id o s x) : ∀ p ∈ x.upd, p.1 ∈ x.fp := by
  unfold Main at h
  generalize hsf : stepF tt ds id o s = sf at h
  have pk : ∀ {g : Bool} {c y z : V} {f : V → V} {q : Prop}, pickV g c y z f q = sf → ∀ p ∈ x.upd, p.1 ∈ x.fp := by
    intro g c y z f q hp
    unfold pickV at hp
    split at hp
    · subst hp; obtain ⟨_, rfl⟩ := h; simp
    · subst hp; obtain ⟨_, rfl⟩ := h; simp
    · subst hp; obtain ⟨_, rfl⟩ := h; simp
    · subst hp; exact h.elim
  unfold stepF at hsf
  split at hsf
  · rename_i hgd
    unfold stepU at hsf
    split at hsf
    · exact pk hsf
    · subst hsf
      unfold CallStep at h
      rw [hgd] at h
      obtain ⟨f, args, _, _, _, h4⟩ := h.ex
      exact h4.keys
    · generalize hs : sem tt s.ow id o.op (uncs (rds s o.op.operands.toList)) = res at hsf
      cases res with
      | fail => subst hsf; exact h.elim
      | ok pre y => subst hsf; obtain ⟨_, rfl⟩ := h; exact (sem_loc id o.op _ _ _ _ hs).1
  · rename_i j want hgd
    split at hsf
    · subst hsf; exact h.elim
    · subst hsf; obtain ⟨_, rfl⟩ := h; simp
    · rename_i g hg
      unfold stepG at hsf
      split at hsf
      · rcases offV_or hsf with ⟨_, _, rfl⟩ | hsf
        · exact h.elim
        · exact pk hsf
      · subst hsf
        unfold CallStep at h
        rw [hgd] at h
        simp only [hg] at h
        obtain ⟨f, args, r, _, _, _, _, _, h6⟩ := h.ex
        rw [h6]; simp
      · generalize hs : sem tt s.ow id o.op (uncs (rds s o.op.operands.toList)) = res at hsf
        cases res with
        | fail => subst hsf; exact h.elim
        | ok pre y =>
          unfold resG at hsf
          simp only at hsf
          split at hsf
          · subst hsf; obtain ⟨_, rfl⟩ := h; simp
          · split at hsf
            · subst hsf; obtain ⟨_, rfl⟩ := h; exact (sem_loc id o.op _ _ _ _ hs).1
            · subst hsf; exact h.elim
theorem Step.keys (h : Step P tt ds id o s x) : ∀ p ∈ x.upd, p.1 ∈ x.fp := by
  rcases h with h | h
  · exact h.keys
  · unfold SkipStep at h
    split at h
    · exact h.elim
    · obtain ⟨_, _, rfl⟩ := h; simp
theorem Main.same (h : Main P tt ds id o s x) (hs : Same ds o x.fp s s') : Main P tt ds id o s' x := by
  unfold Main at h ⊢
  generalize hsf : stepF tt ds id o s = sf at h
  have main : (sf = .call ∧ stepF tt ds id o s' = .call) ∨ (∃ pre, sf = .ok pre x ∧ pre ∧ stepF tt ds id o s' = .ok pre x) := by
    unfold stepF at hsf ⊢
    split at hsf
    · rename_i hgd
      unfold stepU at hsf ⊢
      split at hsf
      · rename_i c y z ho
        right
        rw [← hs.rd (y := c) (by rw [ho]; simp [Op.operands]), ← hs.rd (y := y) (by rw [ho]; simp [Op.operands]), ← hs.rd (y := z) (by rw [ho]; simp [Op.operands]), ← hs.n] at hsf
        have hsf' := hsf
        unfold pickV at hsf
        split at hsf
        · subst hsf
          obtain ⟨hp, rfl⟩ := h
          exact ⟨_, rfl, hp, hsf'⟩
        · subst hsf
          obtain ⟨hp, rfl⟩ := h
          exact ⟨_, rfl, hp, hsf'⟩
        · subst hsf
          obtain ⟨hp, rfl⟩ := h
          exact ⟨_, rfl, hp, hsf'⟩
        · subst hsf; exact h.elim
      · subst hsf; exact .inl ⟨rfl, rfl⟩
      · right
        generalize hr : sem tt s.ow id o.op (uncs (rds s o.op.operands.toList)) = res at hsf
        cases res with
        | fail => subst hsf; exact h.elim
        | ok pre y =>
          subst hsf
          obtain ⟨hp, rfl⟩ := h
          have : sem tt s'.ow id o.op (uncs (rds s o.op.operands.toList)) = .ok pre x := (sem_loc id o.op _ _ _ _ hr).2 s'.ow hs.ow
          refine ⟨_, rfl, hp, ?_⟩
          rw [hs.rds, hs.n, this]
          rfl
    · rename_i j want hgd
      rw [hs.gv hgd]
      split at hsf
      · subst hsf; exact h.elim
      · right
        subst hsf
        obtain ⟨hp, rfl⟩ := h
        exact ⟨_, rfl, hp, by rw [hs.n]⟩
      · rename_i g hg
        unfold stepG at hsf ⊢
        split at hsf
        · rename_i c y z ho
          right
          rw [← hs.rd (y := c) (by rw [ho]; simp [Op.operands]), ← hs.rd (y := y) (by rw [ho]; simp [Op.operands]), ← hs.rd (y := z) (by rw [ho]; simp [Op.operands]), ← hs.n] at hsf
          have hsf' := hsf
          rcases offV_or hsf with ⟨_, _, rfl⟩ | hsf
          · exact h.elim
          unfold pickV at hsf
          split at hsf
          · subst hsf
            obtain ⟨hp, rfl⟩ := h
            exact ⟨_, rfl, hp, hsf'⟩
          · subst hsf
            obtain ⟨hp, rfl⟩ := h
            exact ⟨_, rfl, hp, hsf'⟩
          · subst hsf
            obtain ⟨hp, rfl⟩ := h
            exact ⟨_, rfl, hp, hsf'⟩
          · subst hsf; exact h.elim
        · subst hsf; exact .inl ⟨rfl, rfl⟩
        · right
          generalize hr : sem tt s.ow id o.op (uncs (rds s o.op.operands.toList)) = res at hsf
          cases res with
          | fail => subst hsf; exact h.elim
          | ok pre y =>
            have hsf' := hsf
            unfold resG at hsf
            simp only at hsf
            split at hsf
            · subst hsf
              obtain ⟨hp, rfl⟩ := h
              have : sem tt s'.ow id o.op (uncs (rds s o.op.operands.toList)) = .ok pre y := (sem_loc id o.op _ _ _ _ hr).2 s'.ow hs.ow
              refine ⟨_, rfl, hp, ?_⟩
              rw [hs.rds, hs.n, this]
              exact hsf'
            · split at hsf
              · subst hsf
                obtain ⟨hp, rfl⟩ := h
                have : sem tt s'.ow id o.op (uncs (rds s o.op.operands.toList)) = .ok pre y := (sem_loc id o.op _ _ _ _ hr).2 s'.ow hs.ow
                refine ⟨_, rfl, hp, ?_⟩
                rw [hs.rds, hs.n, this]
                exact hsf'
              · subst hsf; exact h.elim
  rcases main with ⟨rfl, h2⟩ | ⟨pre, rfl, h2, h3⟩
  · rw [h2]
    change CallStep P ds o s x at h
    show CallStep P ds o s' x
    unfold CallStep at h ⊢
    split at h
    · obtain ⟨f, args, h3, h4, h5, h6⟩ := h.ex
      exact ⟨f, args, by rw [hs.callOf]; exact h3, by rw [hs.rds]; exact h4, by rw [hs.n]; exact h5, h6.same hs.ow⟩
    · rename_i j want hgd
      rw [hs.gv hgd]
      split at h
      · obtain ⟨f, args, r, h3, h4, h5, h6, h7, h8⟩ := h.ex
        exact ⟨f, args, r, by rw [hs.callOf]; exact h3, by rw [hs.rds]; exact h4, by rw [hs.n]; exact h5, fun hg => (h6 hg).same hs.ow, h7, h8⟩
      · exact h.elim
  · rw [h3]; exact ⟨h2, rfl⟩
theorem Step.same (h : Step P tt ds id o s x) (hs : Same ds o x.fp s s') : Step P tt ds id o s' x := by
  rcases h with h | h
  · exact .inl (h.same hs)
  · right
    unfold SkipStep at h ⊢
    split at h
    · exact h.elim
    · rename_i j want hgd
      obtain ⟨h1, h2, h3⟩ := h
      exact ⟨by rw [hs.gv hgd]; exact h1, by rw [hs.n]; exact h2, h3⟩
theorem app_get : ∀ {l : List (Nat × Own)} {a : List Own} {i : Nat}, (∀ p ∈ l, p.1 ≠ i) → (app a l)[i]? = a[i]?
  | [], a, i, _ => rfl
  | (j, o) :: r, a, i, h => by
    unfold app
    rw [app_get (fun p hp => h p (List.mem_cons_of_mem _ hp)), List.getElem?_set_ne (h (j, o) (List.mem_cons_self ..))]
theorem app_set : ∀ {l : List (Nat × Own)} {a : List Own} {i : Nat} {o : Own}, (∀ p ∈ l, p.1 ≠ i) → app (a.set i o) l = (app a l).set i o
  | [], a, i, o, _ => rfl
  | (j, q) :: r, a, i, o, h => by
    have hj : j ≠ i := h (j, q) (List.mem_cons_self ..)
    unfold app
    rw [List.set_comm _ _ (fun e => hj e.symm), app_set fun p hp => h p (List.mem_cons_of_mem _ hp)]
theorem app_comm : ∀ {l m : List (Nat × Own)} {a : List Own}, (∀ p ∈ l, ∀ q ∈ m, p.1 ≠ q.1) → app (app a l) m = app (app a m) l
  | [], m, a, _ => rfl
  | (j, q) :: r, m, a, h => by
    show app (app (a.set j q) r) m = app ((app a m).set j q) r
    rw [app_comm fun p hp => h p (List.mem_cons_of_mem _ hp), app_set fun p hp e => h (j, q) (List.mem_cons_self ..) p hp e.symm]
structure Eqv (s t : St) : Prop where
  n : t.n = s.n
  tm : ∀ k, lk t.tm k = lk s.tm k
  ow : t.ow = s.ow
theorem Eqv.refl (s : St) : Eqv s s := ⟨rfl, fun _ => rfl, rfl⟩
theorem Eqv.symm {s t : St} (h : Eqv s t) : Eqv t s := ⟨h.n.symm, fun k => (h.tm k).symm, h.ow.symm⟩
theorem Eqv.trans {s t u : St} (h : Eqv s t) (k : Eqv t u) : Eqv s u := ⟨k.n.trans h.n, fun i => (k.tm i).trans (h.tm i), k.ow.trans h.ow⟩
theorem Eqv.same (h : Eqv s s') : Same ds o x.fp s s' := ⟨h.n, fun t _ => h.tm t, fun _ _ => by rw [h.ow]⟩
theorem Eqv.app {d : Option Tmp} (h : Eqv s s') : Eqv (s.app d x) (s'.app d x) := by
  obtain ⟨n, tm, ow⟩ := s
  obtain ⟨n', tm', ow'⟩ := s'
  obtain ⟨h1, h2, h3⟩ := h
  simp only at h1 h2 h3
  subst h1 h3
  cases d with
  | none => exact ⟨rfl, h2, rfl⟩
  | some d => exact ⟨rfl, fun k => by show lk ((d, x.r) :: tm') k = lk ((d, x.r) :: tm) k; unfold lk; rw [h2 k], rfl⟩
theorem RepE.eqv {B : Nat} {w0 : World} {E0 E : Ext} {L0 L : List Loc} {a : Act} {w : World} (R : RepE B w0 E0 E L0 L s a w) (h : Eqv s s') : RepE B w0 E0 E L0 L s' a w := by
  obtain ⟨n, tm, ow⟩ := s
  obtain ⟨n', tm', ow'⟩ := s'
  obtain ⟨h1, h2, h3⟩ := h
  simp only at h1 h2 h3
  subst h1 h3
  exact { R with tmps := fun k => by rw [show lk (St.mk n' tm' ow').tm k = lk (St.mk n' tm ow').tm k from h2 k]; exact R.tmps k }
end
end Go.K

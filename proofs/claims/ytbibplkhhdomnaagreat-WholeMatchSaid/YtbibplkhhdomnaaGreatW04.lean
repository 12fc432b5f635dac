import Derived.Test.YtbibplkhhdomnaaGreatW03
set_option linter.all false
namespace Go.K
open Go Go.RowKit
section
variable {P : Program} {B : Nat} {w0 : World} {E0 E : Ext} {L0 L : List Loc} {s : St} {a : Act} {w : World} {o : Oper}
theorem int_is (k : IntKind) (n : Int) : (V.int k n).Is E L (.int k n) := by unfold V.Is; rfl
theorem bool_is (b : Bool) : (V.bool b).Is E L (.bool b) := by unfold V.Is; rfl
theorem extract_step {k : Nat} {p : V} {x : Value} (hp : p.Is E L x) {pre : Prop} {r : Out} (hs : semExtract k p = .ok pre r) :
    ∃ v, (Instr.extract x k).run P w = .ok v w ∧ r.r.Is E L v ∧ r.upd = [] := by
  unfold semExtract at hs
  split at hs
  · split at hs
    · rename_i xs y hy
      injection hs with e1 e2; subst e1 e2
      unfold V.Is at hp
      obtain ⟨vs, rfl, hall⟩ := hp
      obtain ⟨v, hv, hi⟩ := isAll_get hall hy
      exact ⟨v, by simp [Instr.extract, hv], hi, rfl⟩
    · cases hs
  · cases hs
theorem un_step {op : UnOp} {p : V} {x : Value} (hp : p.Is E L x) {pre : Prop} {r : Out} (hs : semUn op p = .ok pre r) :
    ∃ v, (Op.unary op x).run P w = .ok v w ∧ r.r.Is E L v ∧ r.upd = [] := by
  unfold semUn at hs
  split at hs
  · injection hs with e1 e2; subst e1 e2
    unfold V.Is at hp
    rw [hp]
    exact ⟨_, by simp [Op.unary, Op.intArith], int_is _ _, rfl⟩
  · injection hs with e1 e2; subst e1 e2
    unfold V.Is at hp
    rw [hp]
    exact ⟨_, by simp [Op.unary], bool_is _, rfl⟩
  · injection hs with e1 e2; subst e1 e2
    unfold V.Is at hp
    rw [hp]
    exact ⟨_, by simp [Op.unary, intBits_xor], int_is _ _, rfl⟩
  · cases hs
theorem conv_step {tt : TT} (ht : tt.Ok P) {t1 t2 : TypeId} {p : V} {x : Value} (hp : p.Is E L x) {pre : Prop} {r : Out} (hs : semConv (tt t1) (tt t2) p = .ok pre r) (hpre : pre) :
    ∃ v, (convert t1 t2 x).run P w = .ok v w ∧ r.r.Is E L v ∧ r.upd = [] := by
  unfold semConv okp at hs
  split at hs
  · split at hs
    · rename_i k hk
      injection hs with e1 e2; subst e1 e2
      unfold V.Is at hp
      rw [hp]
      have hu2 := und_int (ht.facts t2 ((ht.own t2).int (by rw [hk]; simp))) hk
      obtain ⟨d, hd⟩ := und_any (ht.facts t1 (by rw [hpre]; decide))
      refine ⟨_, ?_, int_is _ _, rfl⟩
      unfold convert
      simp only [Sem.run_bind, run_underlying hd, run_underlying hu2, Result.andThen_ok]
      cases d <;> rfl
    · cases hs
  · cases hs
theorem eqFields_flat (xs0 ys0 : List Value) (w : World) (d : Nat) : ∀ (fs : List Field) (zs : List Value) (j : Nat) (xs ys : List V) (us vs : List Value) (b : Bool),
    fieldsOk P j fs zs = true → us = xs0.drop j → vs = ys0.drop j → IsOnes E L xs us → IsOnes E L ys vs → sameKinds zs xs = true → cellsEq xs ys = some b →
    (Op.eqFields (d + 1) xs0.toArray ys0.toArray fs).run P w = .ok b w
  | [], [], j, xs, ys, us, vs, b, _, hx, hy, hxi, hyi, hl, h => by
    have : xs = [] := by cases xs <;> simp_all [sameKinds]
    subst this
    cases ys with
    | nil =>
      simp only [cellsEq, Option.some.injEq] at h
      subst h
      simp [Op.eqFields]
    | cons y ys => simp [cellsEq] at h
  | [], z :: zs, j, xs, ys, us, vs, b, hall, _, _, _, _, _, _ => by simp [fieldsOk] at hall
  | f :: fs, [], j, xs, ys, us, vs, b, hall, _, _, _, _, _, _ => by simp [fieldsOk] at hall
  | f :: fs, z :: zs, j, [], ys, us, vs, b, _, _, _, _, _, hl, h => by cases z <;> simp [sameKinds] at hl
  | f :: fs, z :: zs, j, x :: xs, [], us, vs, b, _, _, _, _, _, hl, h => by cases x <;> simp [cellsEq] at h
  | f :: fs, z :: zs, j, x :: xs, y :: ys, us, vs, b, hall, hx, hy, hxi, hyi, hl, h => by
    simp only [fieldsOk, Bool.and_eq_true, bne_iff_ne, ne_eq, beq_iff_eq] at hall
    obtain ⟨⟨⟨hname, hoff⟩, hty⟩, hrest⟩ := hall
    unfold IsOnes at hxi hyi
    obtain ⟨u, us', rfl, -, hxu, hxi⟩ := hxi
    obtain ⟨v, vs', rfl, -, hyv, hyi⟩ := hyi
    have hx1 : us' = xs0.drop (j + 1) := by rw [← List.drop_drop, ← hx]; rfl
    have hy1 : vs' = ys0.drop (j + 1) := by rw [← List.drop_drop, ← hy]; rfl
    have hu0 : xs0[j]? = some u := by
      have := congrArg (·[0]?) hx
      simpa using this.symm
    have hv0 : ys0[j]? = some v := by
      have := congrArg (·[0]?) hy
      simpa using this.symm
    have pr : ∀ (ls : List Value) (q : Value), ls[j]? = some q → (part f.type ls.toArray f.offset).run P w = .ok q w := by
      intro ls q hz
      have hag : (isAgg f.type).run P w = .ok false w := by
        unfold isAgg
        cases hd : P.underlying f.type with
        | none => rw [hd] at hty; simp at hty
        | some dd =>
          rw [hd] at hty
          simp only [Sem.run_bind, run_underlying hd, Result.andThen_ok]
          cases dd <;> simp_all
      unfold part
      simp only [Sem.run_bind, hag, Result.andThen_ok, Sem.run_ite, Bool.false_eq_true, if_false, hoff]
      have : ls.toArray[j]? = some q := by simp [hz]
      rw [this]
      rfl
    have fin : ∀ (e b' : Bool), (Op.equalIn (d + 1) f.type u v).run P w = .ok e w → sameKinds zs xs = true → cellsEq xs ys = some b' →
        (Op.eqFields (d + 1) xs0.toArray ys0.toArray (f :: fs)).run P w = .ok (e && b') w := by
      intro e b' he hl' hc
      unfold Op.eqFields
      simp only [hname, ne_eq, not_false_eq_true, if_true, Sem.run_bind, pr xs0 u hu0, pr ys0 v hv0, Result.andThen_ok, he, Sem.run_ite]
      cases e with
      | true =>
        simp only [Bool.not_true, Bool.false_eq_true, if_false, Bool.true_and]
        exact eqFields_flat xs0 ys0 w d fs zs (j + 1) xs ys us' vs' b' hrest hx1 hy1 hxi hyi hl' hc
      | false => simp
    cases x <;> cases y <;> simp only [cellsEq] at h <;> try (cases h; done)
    · rename_i x y
      cases z <;> simp only [sameKinds] at hl <;> try (cases hl; done)
      unfold V.Is at hxu hyv
      subst hxu hyv
      cases hc : cellsEq xs ys with
      | none => rw [hc] at h; cases h
      | some b' =>
        rw [hc] at h
        simp only [Option.map_some, Option.some.injEq] at h
        subst h
        have hb : P.underlying f.type = some .bool := by
          cases hd : P.underlying f.type with
          | none => rw [hd] at hty; simp at hty
          | some dd => rw [hd] at hty; cases dd <;> simp_all
        exact fin (x == y) b' (by simp [Op.equalIn, run_underlying hb]) hl hc
    · rename_i ka x kb y
      cases z <;> simp only [sameKinds, Bool.and_eq_true, beq_iff_eq] at hl <;> try (cases hl; done)
      obtain ⟨hkz, hl⟩ := hl
      unfold V.Is at hxu hyv
      subst hxu hyv
      split at h
      · rename_i hkk
        subst hkk
        cases hc : cellsEq xs ys with
        | none => rw [hc] at h; cases h
        | some b' =>
          rw [hc] at h
          simp only [Option.map_some, Option.some.injEq] at h
          subst h
          have hb : ∃ q, P.underlying f.type = some (.int q) := by
            cases hd : P.underlying f.type with
            | none => rw [hd] at hty; simp at hty
            | some dd => rw [hd] at hty; cases dd <;> simp_all
          obtain ⟨q, hb⟩ := hb
          exact fin (x == y) b' (by simp [Op.equalIn, run_underlying hb]) hl hc
      · cases h
theorem guard_flat {t : TypeId} (h : P.eqGuardType P.depth t = false) (op : BinOp) (x y : Operand) (xs ys : Array Value) (w : World) : (eqGuard op t x y (.agg xs) (.agg ys)).run P w = .ok () w := by
  unfold eqGuard
  cases op <;> simp [h]
theorem guard_int {t : TypeId} (op : BinOp) (x y : Operand) (k k' : IntKind) (m n : Int) (w : World) : (eqGuard op t x y (.int k m) (.int k' n)).run P w = .ok () w := by
  unfold eqGuard
  cases op <;> simp
theorem equal_flat {t : TypeId} {i : TI} (hk : i.kind = 1) (F : i.Facts P t) (hf : i.flat = true) {xs ys : List V} {us vs : List Value} (hx : IsOnes E L xs us) (hy : IsOnes E L ys vs) {b : Bool} (hl : sameKinds i.zero xs = true) (h : cellsEq xs ys = some b) (w : World) :
    (Op.equal t (.agg us.toArray) (.agg vs.toArray)).run P w = .ok b w ∧ P.eqGuardType P.depth t = false := by
  have hF := F.flat hf
  obtain ⟨fs, hu, _⟩ := und_struct F hk
  unfold flatOk at hF
  rw [hu] at hF
  simp only [Bool.and_eq_true, Bool.not_eq_true'] at hF
  obtain ⟨⟨h1, h2⟩, h3⟩ := hF
  refine ⟨?_, h2⟩
  have hfo : P.fieldsOf t = fs := by unfold Program.fieldsOf; rw [hu]
  show (Op.equalIn (9999 + 1) t _ _).run P w = _
  rw [run_equalIn_struct w 9999 t _ _ (by rw [hfo]; exact hu) h1, hfo]
  exact eqFields_flat us vs w 9998 fs.toList i.zero 0 xs ys us vs b h3 rfl rfl hx hy hl h
theorem equalIn_bool {t : TypeId} (hu : P.underlying t = some .bool) (d : Nat) (m n : Bool) (w : World) : (Op.equalIn (d + 1) t (.bool m) (.bool n)).run P w = .ok (m == n) w := by
  simp only [Op.equalIn, Sem.run_bind, run_underlying hu, Result.andThen_ok, Sem.run_pure]
theorem equalIn_ptr_nil {t e : TypeId} (hu : P.underlying t = some (.pointer e)) (d : Nat) (a : Addr) (w : World) : (Op.equalIn (d + 1) t (.pointer (some a)) (.pointer none)).run P w = .ok false w := by
  simp only [Op.equalIn, Sem.run_bind, run_underlying hu, Result.andThen_ok, Sem.run_pure]
theorem equalIn_nil_nil {t e : TypeId} (hu : P.underlying t = some (.pointer e)) (d : Nat) (w : World) : (Op.equalIn (d + 1) t (.pointer none) (.pointer none)).run P w = .ok true w := by
  simp only [Op.equalIn, Sem.run_bind, run_underlying hu, Result.andThen_ok, Sem.run_pure]
  rfl
theorem equal_bool {t : TypeId} (hu : P.underlying t = some .bool) (m n : Bool) (w : World) : (Op.equal t (.bool m) (.bool n)).run P w = .ok (m == n) w := equalIn_bool hu 9999 m n w
theorem equal_ptr_nil {t e : TypeId} (hu : P.underlying t = some (.pointer e)) (a : Addr) (w : World) : (Op.equal t (.pointer (some a)) (.pointer none)).run P w = .ok false w := equalIn_ptr_nil hu 9999 a w
theorem equal_nil_nil {t e : TypeId} (hu : P.underlying t = some (.pointer e)) (w : World) : (Op.equal t (.pointer none) (.pointer none)).run P w = .ok true w := equalIn_nil_nil hu 9999 w
theorem intDiv_run (k : IntKind) (m n : Int) (h : n ≠ 0) (w : World) :
    (Op.intDiv .quo k m n).run P w = .ok (.int k (k.wrap (m.tdiv n))) w ∧ (Op.intDiv .rem k m n).run P w = .ok (.int k (m.tmod n)) w := by
  unfold Op.intDiv
  constructor <;> (rw [if_neg h]; rfl)
theorem bin_int {op : BinOp} {t : TypeId} {k k' : IntKind} {m n : Int} {i : TI} {pre : Prop} {r : Out} (hs : semBin op i s.ow (.int k m) (.int k' n) = .ok pre r) (hpre : pre) (w : World) :
    ∃ v, (binOp op t (.int k m) (.int k' n)).run P w = .ok v w ∧ r.r.Is E L v ∧ r.upd = [] := by
  simp only [semBin, okv, okp] at hs
  split at hs
  · injection hs with e1 e2; subst e1 e2
    exact ⟨_, by simp only [binOp]; rw [shift_shl k k' m n hpre.1 (by have := hpre.2; omega)]; rfl, int_is _ _, rfl⟩
  · injection hs with e1 e2; subst e1 e2
    exact ⟨_, by simp only [binOp]; rw [shift_shr k k' m n hpre.1 (by have := hpre.2; omega)]; rfl, int_is _ _, rfl⟩
  · split at hs
    · rename_i hkk
      subst hkk
      split at hs
      · injection hs with e1 e2; subst e1 e2
        exact ⟨_, by simp [binOp, Op.intArith], int_is _ _, rfl⟩
      · injection hs with e1 e2; subst e1 e2
        exact ⟨_, by simp [binOp, Op.intArith], int_is _ _, rfl⟩
      · injection hs with e1 e2; subst e1 e2
        exact ⟨_, by simp [binOp, Op.intArith], int_is _ _, rfl⟩
      · injection hs with e1 e2; subst e1 e2
        refine ⟨_, ?_, int_is _ _, rfl⟩
        have := (intDiv_run (P := P) k m n hpre w).1
        simp only [binOp, ne_eq, not_true_eq_false, if_false]
        exact this
      · injection hs with e1 e2; subst e1 e2
        refine ⟨_, ?_, int_is _ _, rfl⟩
        have := (intDiv_run (P := P) k m n hpre w).2
        simp only [binOp, ne_eq, not_true_eq_false, if_false]
        exact this
      · injection hs with e1 e2; subst e1 e2
        exact ⟨_, by simp [binOp, intBits_and], int_is _ _, rfl⟩
      · injection hs with e1 e2; subst e1 e2
        exact ⟨_, by simp [binOp, intBits_or], int_is _ _, rfl⟩
      · injection hs with e1 e2; subst e1 e2
        exact ⟨_, by simp [binOp, intBits_xor], int_is _ _, rfl⟩
      · injection hs with e1 e2; subst e1 e2
        exact ⟨_, by simp [binOp, intBits_andNot], int_is _ _, rfl⟩
      all_goals first
        | (cases hs; done)
        | (injection hs with e1 e2; subst e1 e2
           exact ⟨_, by simp [binOp, Op.intCmp], bool_is _, rfl⟩)
    · cases hs
theorem ptrNil_pre {op : BinOp} {i : TI} {q : Prop} {fp : List Nat} {b : Bool} {pre : Prop} {r : Out} (hs : semPtrNil op i q fp b = .ok pre r) (hpre : pre) : q := by
  unfold semPtrNil at hs
  split at hs <;> first | (cases hs; done) | (injection hs with e1 e2; subst e1; exact hpre.2)
theorem ptrNil_step {tt : TT} (ht : tt.Ok P) {op : BinOp} {t : TypeId} {ox oy : Operand} {x : Option Addr} {q : Prop} {fp : List Nat} {b : Bool} (hb : b = x.isNone) {pre : Prop} {r : Out} (hs : semPtrNil op (tt t) q fp b = .ok pre r) (hpre : pre) :
    ∃ v, (do eqGuard op t ox oy (.pointer x) (.pointer none); binOp op t (.pointer x) (.pointer none) : Sem Value).run P w = .ok v w ∧ r.r.Is E L v ∧ r.upd = [] := by
  subst hb
  unfold semPtrNil at hs
  split at hs
  · injection hs with e1 e2; subst e1 e2
    have hu := und_ptr (ht.facts t (by rw [hpre.1]; decide)) hpre.1
    refine ⟨_, ?_, bool_is _, rfl⟩
    cases x with
    | none => simp only [eqGuard, binOp, Sem.run_bind, Sem.run_pure, Result.andThen_ok, equal_nil_nil hu, Sem.run_ite]; rfl
    | some x => simp only [eqGuard, binOp, Sem.run_bind, Sem.run_pure, Result.andThen_ok, equal_ptr_nil hu, Sem.run_ite]; rfl
  · injection hs with e1 e2; subst e1 e2
    have hu := und_ptr (ht.facts t (by rw [hpre.1]; decide)) hpre.1
    refine ⟨_, ?_, bool_is _, rfl⟩
    cases x with
    | none => simp only [eqGuard, binOp, Sem.run_bind, Sem.run_pure, Result.andThen_ok, equal_nil_nil hu, Sem.run_ite]; rfl
    | some x => simp only [eqGuard, binOp, Sem.run_bind, Sem.run_pure, Result.andThen_ok, equal_ptr_nil hu, Sem.run_ite]; rfl
  · cases hs
theorem bin_step {tt : TT} (ht : tt.Ok P) (R : RepE B w0 E0 E L0 L s a w) {op : BinOp} {t : TypeId} {ox oy : Operand} {p q : V} {x y : Value} (hp : p.Is E L x) (hq : q.Is E L y) {pre : Prop} {r : Out} (hs : semBin op (tt t) s.ow p q = .ok pre r) (hpre : pre) :
    ∃ v, (do eqGuard op t ox oy x y; binOp op t x y : Sem Value).run P w = .ok v w ∧ r.r.Is E L v ∧ r.upd = [] := by
  have hs0 := hs
  unfold semBin okv okp at hs
  split at hs
  ·
    unfold V.Is at hp hq
    subst hp hq
    obtain ⟨v, hv, hi⟩ := bin_int (P := P) (E := E) (L := L) (t := t) hs0 hpre w
    exact ⟨v, by simp only [Sem.run_bind, guard_int, Result.andThen_ok, hv], hi⟩
  ·
    unfold V.Is at hp hq
    subst hp hq
    split at hs
    · injection hs with e1 e2; subst e1 e2
      have hu := und_bool (ht.facts t (by rw [hpre]; decide)) hpre
      exact ⟨_, by simp only [eqGuard, binOp, Sem.run_bind, Sem.run_pure, Result.andThen_ok, equal_bool hu, Sem.run_ite]; rfl, bool_is _, rfl⟩
    · injection hs with e1 e2; subst e1 e2
      have hu := und_bool (ht.facts t (by rw [hpre]; decide)) hpre
      exact ⟨_, by simp only [eqGuard, binOp, Sem.run_bind, Sem.run_pure, Result.andThen_ok, equal_bool hu, Sem.run_ite]; rfl, bool_is _, rfl⟩
    · cases hs
  ·
    unfold V.Is at hp hq
    subst hp hq
    split at hs
    · injection hs with e1 e2; subst e1 e2
      exact ⟨_, by simp only [eqGuard, binOp, Sem.run_bind, Sem.run_pure, Result.andThen_ok, Op.stringOp, beq_toListBytes]; rfl, bool_is _, rfl⟩
    · injection hs with e1 e2; subst e1 e2
      exact ⟨_, by simp only [eqGuard, binOp, Sem.run_bind, Sem.run_pure, Result.andThen_ok, Op.stringOp, beq_toListBytes]; rfl, bool_is _, rfl⟩
    · cases hs
  ·
    unfold V.Is at hp hq
    obtain ⟨us, rfl, hx⟩ := hp
    obtain ⟨vs, rfl, hy⟩ := hq
    split at hs
    · rename_i b hb
      injection hs with e1 e2; subst e1 e2
      obtain ⟨h1, h2, h3⟩ := hpre
      obtain ⟨he, hg⟩ := equal_flat h2 (ht.facts t (by rw [h2]; decide)) h1 hx hy h3 hb w
      exact ⟨_, by simp only [Sem.run_bind, guard_flat hg, Result.andThen_ok, binOp, he, Sem.run_pure], bool_is _, rfl⟩
    · rename_i b hb
      injection hs with e1 e2; subst e1 e2
      obtain ⟨h1, h2, h3⟩ := hpre
      obtain ⟨he, hg⟩ := equal_flat h2 (ht.facts t (by rw [h2]; decide)) h1 hx hy h3 hb w
      exact ⟨_, by simp only [Sem.run_bind, guard_flat hg, Result.andThen_ok, binOp, he, Sem.run_pure], bool_is _, rfl⟩
    · cases hs
  ·
    unfold V.Is at hq
    subst hq
    split at hs
    · rename_i ho
      obtain ⟨rfl, hk⟩ := ptrNil_pre hs hpre
      obtain ⟨g, q, rfl, _⟩ := own_shift R (d := 0) hp (.inl ho) hk
      exact ptrNil_step ht rfl hs hpre
    · rename_i ho
      obtain ⟨rfl, hk⟩ := ptrNil_pre hs hpre
      obtain ⟨g, q, rfl, _⟩ := own_shift R (d := 0) hp (.inr ho) hk
      exact ptrNil_step ht rfl hs hpre
    · cases hs
  · unfold V.Is at hp hq
    obtain ⟨b, q, rfl, _⟩ := hp
    subst hq
    exact ptrNil_step ht rfl hs hpre
  · unfold V.Is at hp hq
    subst hp hq
    exact ptrNil_step ht rfl hs hpre
  · cases hs
end
end Go.K

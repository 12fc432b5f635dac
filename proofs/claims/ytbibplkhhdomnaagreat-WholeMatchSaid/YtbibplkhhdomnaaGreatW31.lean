import Derived.Test.YtbibplkhhdomnaaGreatW30
import Derived.Test.YtbibplkhhdomnaaGreatW15
import Derived.Shelf.SlSortCmp.WholeK
import Derived.Test.YtbibplkhhdomnaaGreatW13
set_option linter.all false
namespace Go.Proofs.YtbibplkhhdomnaaGreat
open Go Go.K Go.RowKit
def encE (e : Ent) : List V := [.int .i64 e.x, .int .i64 e.y, .int .i64 e.h, .int .i64 e.p]
theorem lit_encE (l : List Ent) : litRows (l.map encE) = true := litRows_map (fun _ => rfl) l
theorem ent_get (L : List Ent) (i : Nat) : (L.map encE).getD i [.int .i64 0, .int .i64 0, .int .i64 0, .int .i64 0] = encE (L.getD i ⟨0, 0, 0, 0⟩) := getD_map (f := encE) (d := ⟨0, 0, 0, 0⟩) rfl
section
variable {s : St} {B : Nat} {w0 : World} {E0 E : Ext} {L0 L : List Go.K.Loc} {a : Act} {w : World}
theorem key_is {kx ky : Int} {u : Value} (h : (V.agg [.int .i64 kx, .int .i64 ky]).Is E L u) : u = keyV (kx, ky) := by
  unfold V.Is at h
  obtain ⟨vs, rfl, h⟩ := h
  unfold IsOnes at h
  obtain ⟨v1, r1, rfl, _, h1, h⟩ := h
  unfold IsOnes at h
  obtain ⟨v2, r2, rfl, _, h2, h⟩ := h
  unfold IsOnes at h
  subst h
  unfold V.Is at h1 h2
  subst h1 h2
  rfl
theorem ent_is {v : Ent} {u : Value} (h : (V.agg (encE v)).Is E L u) : u = entV v := by
  unfold V.Is encE at h
  obtain ⟨vs, rfl, h⟩ := h
  unfold IsOnes at h
  obtain ⟨v1, r1, rfl, _, h1, h⟩ := h
  unfold IsOnes at h
  obtain ⟨v2, r2, rfl, _, h2, h⟩ := h
  unfold IsOnes at h
  obtain ⟨v3, r3, rfl, _, h3, h⟩ := h
  unfold IsOnes at h
  obtain ⟨v4, r4, rfl, _, h4, h⟩ := h
  unfold IsOnes at h
  subst h
  unfold V.Is at h1 h2 h3 h4
  subst h1 h2 h3 h4
  rfl
theorem is_ent (v : Ent) : (V.agg (encE v)).Is E L (entV v) := by
  unfold V.Is encE
  refine ⟨encV v, rfl, ?_⟩
  unfold encV IsOnes
  refine ⟨_, _, rfl, rfl, by unfold V.Is; rfl, ?_⟩
  unfold IsOnes
  refine ⟨_, _, rfl, rfl, by unfold V.Is; rfl, ?_⟩
  unfold IsOnes
  refine ⟨_, _, rfl, rfl, by unfold V.Is; rfl, ?_⟩
  unfold IsOnes
  refine ⟨_, _, rfl, rfl, by unfold V.Is; rfl, ?_⟩
  unfold IsOnes; rfl
theorem spec_lookup {m k : Operand} {id n : Nat} {kx ky : Int} (hm : s.rd m = .mp id) (hk : s.rd k = .agg [.int .i64 kx, .int .i64 ky]) (ho : s.ow[id]? = some (.mp (MapOk n))) :
    SpecS Tryz.prog s (.lookup 81 m k false) fun x => ∃ v : Ent, x = ⟨[id], .agg (encE v), []⟩ := by
  intro B w0 E0 E L0 L a w o hop R next Q K
  obtain ⟨g, sz, cap, es, clk, hl, _, _, hg, hes⟩ := R.mpAt ho
  have hx := rd_is R m
  rw [hm] at hx
  have hx := mp_at hx hl
  have hy := rd_is R k
  rw [hk] at hy
  have hy := key_is hy
  obtain ⟨v, hv⟩ := run_lookup hes (kx, ky) w g hg
  refine wp_of_run (v := entV v) (w' := w) ?_ (K _ _ w E L ⟨v, rfl⟩ R (is_ent v))
  simp [execOp, hop, hx, hy, hv, Result.andThen]
theorem spec_update {m k x : Operand} {id n : Nat} {kx ky : Int} {v : Ent} (hm : s.rd m = .mp id) (hk : s.rd k = .agg [.int .i64 kx, .int .i64 ky]) (hv : s.rd x = .agg (encE v)) (ho : s.ow[id]? = some (.mp (MapOk n))) :
    SpecS Tryz.prog s (.mapUpdate 81 m k x) fun x => x = ⟨[id], .tup [], [(id, .mp (MapOk (n + 1)))]⟩ := by
  intro B w0 E0 E L0 L a w o hop R next Q K
  obtain ⟨g, sz, cap, es, clk, hl, hB, _, hg, hes⟩ := R.mpAt ho
  have hx := rd_is R m
  rw [hm] at hx
  have hx := mp_at hx hl
  have hy := rd_is R k
  rw [hk] at hy
  have hy := key_is hy
  have hz := rd_is R x
  rw [hv] at hz
  have hz := ent_is hz
  obtain ⟨es', clk', hrun, hes'⟩ := run_update hes (kx, ky) v w g hg
  have hgl := (Array.getElem?_eq_some_iff.1 hg).1
  have R' := R.mpSet (ψ := MapOk (n + 1)) (w' := w.putObj g (.map es' clk')) ho hl ((Below.refl B w).grown (grownBy_putObj w g _) R.base (fun k e => by cases e; exact hB)) (fun k _ hk => World.putObj_heap_other hk) (World.putObj_heap_same hgl) hes'
  refine wp_of_skip (w' := w.putObj g (.map es' clk')) ?_ (K _ _ _ E L rfl R' undef_is)
  simp [execOp, hop, hx, hy, hz, hrun, Result.andThen]
theorem flat_get : ∀ (L : List Ent) (k j : Nat), j < 4 → (L.flatMap encV)[k * 4 + j]? = (L[k]?).bind fun e => (encV e)[j]?
  | [], k, j, h => by simp
  | e :: L, 0, j, h => by
    rw [List.flatMap_cons, List.getElem?_append_left (by simpa [encV] using h)]; simp
  | e :: L, k + 1, j, h => by
    rw [List.flatMap_cons, List.getElem?_append_right (by simp [encV]; omega), List.getElem?_cons_succ, ← flat_get L k j h]
    congr 1
    simp [encV]; omega
theorem ent_rows {cur : Array Value} {L1 : List Ent} {n : Nat} (hn : n = L1.length) (h : cur.toList.take (n * 4) = L1.flatMap encV) : OwnRows E L cur 4 (L1.map encE) := by
  intro k row hk
  rw [List.getElem?_map] at hk
  cases hL : L1[k]? with
  | none => rw [hL] at hk; cases hk
  | some e =>
    rw [hL] at hk
    simp only [Option.map_some, Option.some.injEq] at hk
    subst hk
    refine ⟨rfl, fun j c hj => ?_⟩
    have hj4 : j < 4 := by have := get_lt hj; simpa [encE] using this
    have hkl := get_lt hL
    have hc : cur[k * 4 + j]? = (encV e)[j]? := by
      have h1 := congrArg (·[k * 4 + j]?) h
      simp only [flat_get L1 k j hj4, hL, Option.bind_some] at h1
      rw [← h1, List.getElem?_take, if_pos (by omega), Array.getElem?_toList]
    rw [hc]
    have : j = 0 ∨ j = 1 ∨ j = 2 ∨ j = 3 := by omega
    rcases this with rfl | rfl | rfl | rfl <;> (simp only [encE, List.getElem?_cons_zero, List.getElem?_cons_succ, Option.some.injEq] at hj; subst hj; exact ⟨rfl, _, rfl, by unfold V.Is; rfl⟩)
theorem take_row (R : RepE B w0 E0 E L0 L s a w) {w' : World} {id : Nat} {v : Value} {L1 : List Ent} (hid : s.ow[id]? = some .free) (hown : w'.ownsRow w.heap.size 95 4 v L1.length (L1.flatMap encV)) (hb : Below w.heap.size w w') (hd : w.drawn ≤ w'.drawn) :
    ∃ L', RepE B w0 E0 E L0 L' ⟨s.n, s.tm, s.ow.set id (.blk 95 0 4 (L1.map encE))⟩ a w' ∧ (V.rs id 0 0 L1.length).Is E L' v := by
  have hl := R.freeLoc hid
  have hlt := get_lt hl
  have hB := hb.mono R.base
  have hkeep : ∀ g, g < w.heap.size → Own.at? .free .free ≠ some g → w'.heap[g]? = w.heap[g]? := fun g hg _ => hb.block g hg
  have nilcase : ∀ A, v = .slice A 0 0 → L1 = [] → ∃ L', RepE B w0 E0 E L0 L' ⟨s.n, s.tm, s.ow.set id (.blk 95 0 4 (L1.map encE))⟩ a w' ∧ (V.rs id 0 0 L1.length).Is E L' v := by
    rintro A rfl rfl
    refine ⟨_, R.setOwn (o1 := .blk 95 0 4 []) (l1 := .nil 0) hid hl hB trivial hkeep ⟨rfl, rfl, by omega⟩ (fun g hg => by cases hg), ?_⟩
    unfold V.Is
    rw [List.getElem?_set_self hlt]
    exact .inr ⟨rfl, rfl, rfl, A, rfl⟩
  rcases hown.2 with ⟨rfl, h0⟩ | ⟨g, cap, cur, rfl, hg1, hg2, h3, h4, h5, h6⟩
  · exact nilcase none rfl (List.eq_nil_of_length_eq_zero h0)
  · by_cases hc : cap = 0
    · subst hc
      have : L1 = [] := List.eq_nil_of_length_eq_zero (by omega)
      subst this
      exact nilcase _ rfl rfl
    · refine ⟨_, R.setOwn (o1 := .blk 95 0 4 (L1.map encE)) (l1 := .lies 0 g 4 cap) hid hl hB trivial hkeep ⟨rfl, rfl, by omega, Nat.le_trans R.base hg1, ?_, h4, by rw [List.length_map]; exact h3, by omega, cur, hg2, h5, ent_rows rfl h6⟩ (fun k hk => ?_), ?_⟩
      · cases hE : E g with
        | none => rfl
        | some cs => have := R.inn.lt hE; omega
      · simp only [Own.at?, Option.some.injEq] at hk
        exact .inr (by omega)
      · unfold V.Is
        rw [List.getElem?_set_self hlt]
        exact .inr ⟨rfl, Nat.zero_le _, h3, _, rfl, fun _ => by simp⟩
theorem spec_appendSeq {q : Operand} {ts : Array TypeId} {id k j n : Nat} (hq : s.rd q = .fn 85 [.own k 0 0 0]) (hid : s.ow[id]? = some .free) (hk : s.ow[k]? = some (.blk 81 0 1 [[.mp j]])) (hj : s.ow[j]? = some (.mp (MapOk n))) (hn : n ≤ 4194304) :
    SpecS Tryz.prog s (.call ⟨.value (.func 84), #[.const (.slice none 0 0), q], ts⟩) fun x => ∃ L1 : List Ent, L1.length ≤ n ∧ x = ⟨[id], .rs id 0 0 L1.length, [(id, .blk 95 0 4 (L1.map encE))]⟩ := by
  intro B w0 E0 E L0 L a w o hop R next Q K
  have hx := rd_is R q
  rw [hq] at hx
  unfold V.Is at hx
  obtain ⟨vs, hf, hvs⟩ := hx
  unfold IsAll at hvs
  obtain ⟨pv, r, rfl, hp, hr⟩ := hvs
  unfold IsAll at hr
  subst hr
  obtain ⟨gk, cap, cur, hlk, h0, hB, hE, hcm, hrc, hc0, hheap, hcs, hrows⟩ := R.blk hk (k := 0) (by simp)
  have hpv := ptr_at hp hlk
  simp only [Nat.zero_mul, Nat.add_zero] at hpv
  subst hpv
  obtain ⟨gm, szm, capm, es, clk, hlm, hBm, hEm, hgm, hes⟩ := R.mpAt hj
  have hcell : w.cell? ⟨gk, 0, none⟩ = some (.map (some gm)) := by
    obtain ⟨_, h1⟩ := hrows 0 [.mp j] rfl
    obtain ⟨_, x, h2, h3⟩ := h1 0 (.mp j) rfl
    have h3 := mp_at h3 hlm
    subst h3
    simp only [World.cell?, hheap]
    simpa using h2
  have hgkl := (Array.getElem?_eq_some_iff.1 hheap).1
  have hcall := appendSeq_calls w gk gm n clk es hes (by unfold maxLen; omega) (by omega) hcell hgkl hgm
  have hrun : (execOp a.eval o).run Tryz.prog w = (callFunc 84 #[.slice none 0 0, .func (.func 85) #[] #[.pointer (some ⟨gk, 0, none⟩)]]).run Tryz.prog w := by
    unfold execOp
    simp only [hop, resolve, Act.eval, Deferred.ofValue, Sem.run_bind, Sem.run_pure, Result.andThen_ok, invoke]
    congr 2
    have hf' : a.eval q = _ := hf
    simp [Act.eval] at hf'
    simp [hf', Act.eval]
  unfold Oper.wp
  rw [hrun, Go.K.enters_of Tryz.func84 rfl (by decide +kernel), Oper.upon_enter]
  refine hcall.mono ?_
  rintro e w' ⟨v, ss, rfl, hl, hown, hb, hd⟩
  obtain ⟨L', R', hi⟩ := take_row R hid hown hb hd
  exact K _ v w' E L' ⟨ss, hl, rfl⟩ R' hi
end
end Go.Proofs.YtbibplkhhdomnaaGreat
namespace Go.Proofs.YtbibplkhhdomnaaGreat
open Nat (reduceAdd reduceSub reduceMul reduceEqDiff reduceLeDiff reduceLT)
open Go Go.K
set_option maxRecDepth 20000
set_option maxHeartbeats 8000000
theorem isnE_pure (n : Int) : Pure Tryz.prog 106 [.int .i64 n] (.bool false) := by
  (refine pure_of_ev tt_ok Tryz.func106 rfl (by decide +kernel) (Nat.le_of_ble_eq_true rfl) ?_; simp only [Tryz.f106])
  repeat' first
    | refine ev_seq (fun K hK => ?_)
    | ((first | refine evr tt_ok false ?_ | refine ev_skip ?_ | refine ev_ret ?_ | refine ev_exit ?_ | refine evc (fun X Y hX hY => ?_)); simp only [go_sem, reduceAdd, reduceSub, reduceMul, reduceEqDiff, reduceLeDiff, Nat.reduceBEq, reduceLT, reduceIte, reduceCtorEq, Int.reduceToNat, bne_self_eq_false]; try (first | (refine ⟨fun h => hX ?_, fun h => hY ?_⟩; clear hX hY) | (refine hX ?_; clear hX hY) | (refine hY ?_; clear hX hY)))
    | refine ev_block ?_
    | (apply hK; clear hK)
    | apply_assumption -exfalso -symm only [*]
    | (refine And.intro ?_ ?_; first | omega | assumption | (unfold maxLen; omega) | (simp only [decide_eq_true_eq, decide_eq_false_iff_not, Int.not_lt, Int.not_le] at h; omega))
def cmE (a b : Int) : Int := if a < b then -1 else if b < a then 1 else 0
theorem cmE_pure (a b : Int) : Pure Tryz.prog 90 [.int .i64 a, .int .i64 b] (.int .i64 (cmE a b)) := by
  have v1 := isnE_pure a
  have v2 := isnE_pure b
  unfold cmE
  by_cases h : a < b
  · rw [if_pos h]
    (refine pure_of_ev tt_ok Tryz.func90 rfl (by decide +kernel) (Nat.le_of_ble_eq_true rfl) ?_; simp only [Tryz.f90])
    repeat' first
      | refine ev_seq (fun K hK => ?_)
      | ((first | refine evr tt_ok false ?_ | refine ev_skip ?_ | refine ev_ret ?_ | refine ev_exit ?_ | refine evc (fun X Y hX hY => ?_)); simp only [go_sem, reduceAdd, reduceSub, reduceMul, reduceEqDiff, reduceLeDiff, Nat.reduceBEq, reduceLT, reduceIte, reduceCtorEq, Int.reduceToNat, h]; try (first | (refine ⟨fun h => hX ?_, fun h => hY ?_⟩; clear hX hY) | (refine hX ?_; clear hX hY) | (refine hY ?_; clear hX hY)))
      | refine ev_block ?_
      | (apply hK; clear hK)
      | apply_assumption -exfalso -symm only [*]
      | (refine And.intro ?_ ?_; first | omega | assumption | (unfold maxLen; omega) | (simp only [decide_eq_true_eq, decide_eq_false_iff_not, Int.not_lt, Int.not_le] at h; omega))
      | ((first | apply callP | apply callPG | apply callP0); (case' hv => (simp only [go_sem, reduceAdd, reduceSub, reduceMul, reduceEqDiff, reduceLeDiff, Nat.reduceBEq, reduceLT, reduceIte, reduceCtorEq, Int.reduceToNat, h]; try exact rfl)); (case' hp => (first | refine' v1 | (refine' (fun hg => ?_); refine' v1) | refine' v2 | (refine' (fun hg => ?_); refine' v2))); (case' h => ((first | refine evOps_fin ?_ | refine And.intro ?_ (evD_fin ?_) | refine evD_fin ?_) <;> simp only [go_sem, reduceAdd, reduceSub, reduceMul, reduceEqDiff, reduceLeDiff, Nat.reduceBEq, reduceLT, reduceIte, reduceCtorEq, Int.reduceToNat, h])))
      | (refine callX ?_; (first | refine evOps_fin ?_ | refine And.intro ?_ (evD_fin ?_) | refine evD_fin ?_) <;> simp only [go_sem, reduceAdd, reduceSub, reduceMul, reduceEqDiff, reduceLeDiff, Nat.reduceBEq, reduceLT, reduceIte, reduceCtorEq, Int.reduceToNat, h])
  · rw [if_neg h]
    by_cases h2 : b < a
    · rw [if_pos h2]
      (refine pure_of_ev tt_ok Tryz.func90 rfl (by decide +kernel) (Nat.le_of_ble_eq_true rfl) ?_; simp only [Tryz.f90])
      repeat' first
        | refine ev_seq (fun K hK => ?_)
        | ((first | refine evr tt_ok false ?_ | refine ev_skip ?_ | refine ev_ret ?_ | refine ev_exit ?_ | refine evc (fun X Y hX hY => ?_)); simp only [go_sem, reduceAdd, reduceSub, reduceMul, reduceEqDiff, reduceLeDiff, Nat.reduceBEq, reduceLT, reduceIte, reduceCtorEq, Int.reduceToNat, h, h2]; try (first | (refine ⟨fun h => hX ?_, fun h => hY ?_⟩; clear hX hY) | (refine hX ?_; clear hX hY) | (refine hY ?_; clear hX hY)))
        | refine ev_block ?_
        | (apply hK; clear hK)
        | apply_assumption -exfalso -symm only [*]
        | (refine And.intro ?_ ?_; first | omega | assumption | (unfold maxLen; omega) | (simp only [decide_eq_true_eq, decide_eq_false_iff_not, Int.not_lt, Int.not_le] at h; omega))
        | ((first | apply callP | apply callPG | apply callP0); (case' hv => (simp only [go_sem, reduceAdd, reduceSub, reduceMul, reduceEqDiff, reduceLeDiff, Nat.reduceBEq, reduceLT, reduceIte, reduceCtorEq, Int.reduceToNat, h, h2]; try exact rfl)); (case' hp => (first | refine' v1 | (refine' (fun hg => ?_); refine' v1) | refine' v2 | (refine' (fun hg => ?_); refine' v2))); (case' h => ((first | refine evOps_fin ?_ | refine And.intro ?_ (evD_fin ?_) | refine evD_fin ?_) <;> simp only [go_sem, reduceAdd, reduceSub, reduceMul, reduceEqDiff, reduceLeDiff, Nat.reduceBEq, reduceLT, reduceIte, reduceCtorEq, Int.reduceToNat, h, h2])))
        | (refine callX ?_; (first | refine evOps_fin ?_ | refine And.intro ?_ (evD_fin ?_) | refine evD_fin ?_) <;> simp only [go_sem, reduceAdd, reduceSub, reduceMul, reduceEqDiff, reduceLeDiff, Nat.reduceBEq, reduceLT, reduceIte, reduceCtorEq, Int.reduceToNat, h, h2])
    · rw [if_neg h2]
      (refine pure_of_ev tt_ok Tryz.func90 rfl (by decide +kernel) (Nat.le_of_ble_eq_true rfl) ?_; simp only [Tryz.f90])
      repeat' first
        | refine ev_seq (fun K hK => ?_)
        | ((first | refine evr tt_ok false ?_ | refine ev_skip ?_ | refine ev_ret ?_ | refine ev_exit ?_ | refine evc (fun X Y hX hY => ?_)); simp only [go_sem, reduceAdd, reduceSub, reduceMul, reduceEqDiff, reduceLeDiff, Nat.reduceBEq, reduceLT, reduceIte, reduceCtorEq, Int.reduceToNat, h, h2]; try (first | (refine ⟨fun h => hX ?_, fun h => hY ?_⟩; clear hX hY) | (refine hX ?_; clear hX hY) | (refine hY ?_; clear hX hY)))
        | refine ev_block ?_
        | (apply hK; clear hK)
        | apply_assumption -exfalso -symm only [*]
        | (refine And.intro ?_ ?_; first | omega | assumption | (unfold maxLen; omega) | (simp only [decide_eq_true_eq, decide_eq_false_iff_not, Int.not_lt, Int.not_le] at h; omega))
        | ((first | apply callP | apply callPG | apply callP0); (case' hv => (simp only [go_sem, reduceAdd, reduceSub, reduceMul, reduceEqDiff, reduceLeDiff, Nat.reduceBEq, reduceLT, reduceIte, reduceCtorEq, Int.reduceToNat, h, h2]; try exact rfl)); (case' hp => (first | refine' v1 | (refine' (fun hg => ?_); refine' v1) | refine' v2 | (refine' (fun hg => ?_); refine' v2))); (case' h => ((first | refine evOps_fin ?_ | refine And.intro ?_ (evD_fin ?_) | refine evD_fin ?_) <;> simp only [go_sem, reduceAdd, reduceSub, reduceMul, reduceEqDiff, reduceLeDiff, Nat.reduceBEq, reduceLT, reduceIte, reduceCtorEq, Int.reduceToNat, h, h2])))
        | (refine callX ?_; (first | refine evOps_fin ?_ | refine And.intro ?_ (evD_fin ?_) | refine evD_fin ?_) <;> simp only [go_sem, reduceAdd, reduceSub, reduceMul, reduceEqDiff, reduceLeDiff, Nat.reduceBEq, reduceLT, reduceIte, reduceCtorEq, Int.reduceToNat, h, h2])
def orE (a b : Int) : Int := if a = 0 then b else a
theorem orE_pure (a b : Int) : Pure Tryz.prog 89 [.sl [[.int .i64 a], [.int .i64 b]]] (.int .i64 (orE a b)) := by
  have w1 : IntKind.i64.wrap 1 = 1 := by decide
  have w2 : IntKind.i64.wrap 2 = 2 := by decide
  have c2 : ((2 : Nat) : Int) = 2 := rfl
  (refine pure_of_ev tt_ok Tryz.func89 rfl (by decide +kernel) (Nat.le_of_ble_eq_true rfl) ?_; simp only [Tryz.f89])
  repeat' first
    | refine ev_seq (fun K hK => ?_)
    | ((first | refine evr tt_ok false ?_ | refine ev_skip ?_ | refine ev_ret ?_ | refine ev_exit ?_ | refine evc (fun X Y hX hY => ?_)); simp only [go_sem, reduceAdd, reduceSub, reduceMul, reduceEqDiff, reduceLeDiff, Nat.reduceBEq, reduceLT, reduceIte, reduceCtorEq, Int.reduceToNat]; try (first | (refine ⟨fun h => hX ?_, fun h => hY ?_⟩; clear hX hY) | (refine hX ?_; clear hX hY) | (refine hY ?_; clear hX hY)))
    | refine ev_block ?_
    | (apply hK; clear hK)
    | apply_assumption -exfalso -symm only [*]
    | (refine And.intro ?_ ?_; first | omega | assumption | (unfold maxLen; omega) | (simp only [decide_eq_true_eq, decide_eq_false_iff_not, Int.not_lt, Int.not_le] at h; omega))
  refine ev_loop (fun i : Nat => i ≤ 2 ∧ (1 ≤ i → a = 0) ∧ (2 ≤ i → b = 0))
    (fun i => ⟨18, [(8, .int .i64 (i : Int)), (7, .int .i64 2), (6, .sl [[.int .i64 a], [.int .i64 b]]), (3, .int .i64 0)], []⟩)
    (fun i => 2 - i) 0 ⟨by omega, by omega, by omega⟩ ?_ ?_
  · simp only [go_sem, reduceAdd, reduceSub, reduceMul, reduceEqDiff, reduceLeDiff, Nat.reduceBEq, reduceLT, reduceIte, reduceCtorEq, Int.reduceToNat, fits, fitT, fitOs, fitO, V.under, unders, rowsUnder]
    repeat' first | rfl | apply And.intro
  · rintro i ⟨hi, h1, h2⟩
    have hc : i = 0 ∨ i = 1 ∨ i = 2 := by omega
    rcases hc with rfl | rfl | rfl
    · by_cases ha : a = 0
      · have ea : (a == 0) = true := by rw [ha]; rfl
        repeat' first
          | refine ev_seq (fun K hK => ?_)
          | ((first | refine evr tt_ok false ?_ | refine ev_skip ?_ | refine ev_ret ?_ | refine ev_exit ?_ | refine evc (fun X Y hX hY => ?_)); simp only [go_sem, reduceAdd, reduceSub, reduceMul, reduceEqDiff, reduceLeDiff, Nat.reduceBEq, reduceLT, reduceIte, reduceCtorEq, Int.reduceToNat, bne, ea, w1, c2, Int.natCast_zero, Int.reduceLT, Int.reduceLE, Int.reduceAdd, Int.zero_add]; try (first | (refine ⟨fun h => hX ?_, fun h => hY ?_⟩; clear hX hY) | (refine hX ?_; clear hX hY) | (refine hY ?_; clear hX hY)))
          | refine ev_block ?_
          | (apply hK; clear hK)
          | apply_assumption -exfalso -symm only [*]
          | (refine And.intro ?_ ?_; first | omega | assumption | (unfold maxLen; omega) | (simp only [decide_eq_true_eq, decide_eq_false_iff_not, Int.not_lt, Int.not_le] at h; omega))
        refine ⟨1, ⟨by omega, by omega, by omega⟩, by (repeat' first | rfl | apply And.intro), by omega⟩
      · have ea : (a == 0) = false := by rw [beq_eq_false_iff_ne]; exact ha
        have er : orE a b = a := if_neg ha
        rw [er]
        repeat' first
          | refine ev_seq (fun K hK => ?_)
          | ((first | refine evr tt_ok false ?_ | refine ev_skip ?_ | refine ev_ret ?_ | refine ev_exit ?_ | refine evc (fun X Y hX hY => ?_)); simp only [go_sem, reduceAdd, reduceSub, reduceMul, reduceEqDiff, reduceLeDiff, Nat.reduceBEq, reduceLT, reduceIte, reduceCtorEq, Int.reduceToNat, bne, ea, w1, c2, Int.natCast_zero, Int.reduceLT, Int.reduceLE, Int.reduceAdd, Int.zero_add]; try (first | (refine ⟨fun h => hX ?_, fun h => hY ?_⟩; clear hX hY) | (refine hX ?_; clear hX hY) | (refine hY ?_; clear hX hY)))
          | refine ev_block ?_
          | (apply hK; clear hK)
          | apply_assumption -exfalso -symm only [*]
          | (refine And.intro ?_ ?_; first | omega | assumption | (unfold maxLen; omega) | (simp only [decide_eq_true_eq, decide_eq_false_iff_not, Int.not_lt, Int.not_le] at h; omega))
    · have ha := h1 (by omega)
      by_cases hb : b = 0
      · have ea : (b == 0) = true := by rw [hb]; rfl
        repeat' first
          | refine ev_seq (fun K hK => ?_)
          | ((first | refine evr tt_ok false ?_ | refine ev_skip ?_ | refine ev_ret ?_ | refine ev_exit ?_ | refine evc (fun X Y hX hY => ?_)); simp only [go_sem, reduceAdd, reduceSub, reduceMul, reduceEqDiff, reduceLeDiff, Nat.reduceBEq, reduceLT, reduceIte, reduceCtorEq, Int.reduceToNat, bne, ea, w2, c2, Int.natCast_one, Int.reduceLT, Int.reduceLE, Int.reduceAdd]; try (first | (refine ⟨fun h => hX ?_, fun h => hY ?_⟩; clear hX hY) | (refine hX ?_; clear hX hY) | (refine hY ?_; clear hX hY)))
          | refine ev_block ?_
          | (apply hK; clear hK)
          | apply_assumption -exfalso -symm only [*]
          | (refine And.intro ?_ ?_; first | omega | assumption | (unfold maxLen; omega) | (simp only [decide_eq_true_eq, decide_eq_false_iff_not, Int.not_lt, Int.not_le] at h; omega))
        refine ⟨2, ⟨by omega, by omega, by omega⟩, by (repeat' first | rfl | apply And.intro), by omega⟩
      · have ea : (b == 0) = false := by rw [beq_eq_false_iff_ne]; exact hb
        have er : orE a b = b := if_pos ha
        rw [er]
        repeat' first
          | refine ev_seq (fun K hK => ?_)
          | ((first | refine evr tt_ok false ?_ | refine ev_skip ?_ | refine ev_ret ?_ | refine ev_exit ?_ | refine evc (fun X Y hX hY => ?_)); simp only [go_sem, reduceAdd, reduceSub, reduceMul, reduceEqDiff, reduceLeDiff, Nat.reduceBEq, reduceLT, reduceIte, reduceCtorEq, Int.reduceToNat, bne, ea, w2, c2, Int.natCast_one, Int.reduceLT, Int.reduceLE, Int.reduceAdd]; try (first | (refine ⟨fun h => hX ?_, fun h => hY ?_⟩; clear hX hY) | (refine hX ?_; clear hX hY) | (refine hY ?_; clear hX hY)))
          | refine ev_block ?_
          | (apply hK; clear hK)
          | apply_assumption -exfalso -symm only [*]
          | (refine And.intro ?_ ?_; first | omega | assumption | (unfold maxLen; omega) | (simp only [decide_eq_true_eq, decide_eq_false_iff_not, Int.not_lt, Int.not_le] at h; omega))
    · have er : orE a b = 0 := by unfold orE; rw [if_pos (h1 (by omega)), h2 (by omega)]
      repeat' first
        | refine ev_seq (fun K hK => ?_)
        | ((first | refine evr tt_ok false ?_ | refine ev_skip ?_ | refine ev_ret ?_ | refine ev_exit ?_ | refine evc (fun X Y hX hY => ?_)); simp only [go_sem, reduceAdd, reduceSub, reduceMul, reduceEqDiff, reduceLeDiff, Nat.reduceBEq, reduceLT, reduceIte, reduceCtorEq, Int.reduceToNat, c2, Int.reduceLT]; try (first | (refine ⟨fun h => hX ?_, fun h => hY ?_⟩; clear hX hY) | (refine hX ?_; clear hX hY) | (refine hY ?_; clear hX hY)))
        | refine ev_block ?_
        | (apply hK; clear hK)
        | apply_assumption -exfalso -symm only [*]
        | (refine And.intro ?_ ?_; first | omega | assumption | (unfold maxLen; omega) | (simp only [decide_eq_true_eq, decide_eq_false_iff_not, Int.not_lt, Int.not_le] at h; omega))
      rw [er]
def celE (a b c d : Int) : Int := orE (cmE b d) (cmE a c)
theorem ecompare_pure (a b c d : Int) : Pure Tryz.prog 64 [.agg [.int .i64 a, .int .i64 b], .agg [.int .i64 c, .int .i64 d]] (.int .i64 (celE a b c d)) := by
  have v1 := cmE_pure b d
  have v2 := cmE_pure a c
  have v := orE_pure (cmE b d) (cmE a c)
  unfold celE
  generalize cmE b d = x at *
  generalize cmE a c = y at *
  generalize orE x y = z at *
  (refine pure_of_ev tt_ok Tryz.func64 rfl (by decide +kernel) (Nat.le_of_ble_eq_true rfl) ?_; simp only [Tryz.f64])
  repeat' first
    | refine ev_seq (fun K hK => ?_)
    | ((first | refine evrd (id := 1) hmix tt_ok false [([], false), ([], false), ([], false), ([], false), ([], true), ([4], false), ([4], false), ([4], false), ([4], false), ([], false), ([], false), ([], false), ([], false)] (by decide +kernel) ?_ | refine evr tt_ok false ?_ | refine ev_skip ?_ | refine ev_ret ?_ | refine ev_exit ?_ | refine evc (fun X Y hX hY => ?_)); simp only [go_sem, reduceAdd, reduceSub, reduceMul, reduceEqDiff, reduceLeDiff, Nat.reduceBEq, reduceLT, reduceIte, reduceCtorEq, Int.reduceToNat]; try (first | (refine ⟨fun h => hX ?_, fun h => hY ?_⟩; clear hX hY) | (refine hX ?_; clear hX hY) | (refine hY ?_; clear hX hY)))
    | refine ev_block ?_
    | (apply hK; clear hK)
    | apply_assumption -exfalso -symm only [*]
    | (refine And.intro ?_ ?_; first | omega | assumption | (unfold maxLen; omega) | (simp only [decide_eq_true_eq, decide_eq_false_iff_not, Int.not_lt, Int.not_le] at h; omega))
    | ((first | apply callP | apply callPG | apply callP0); (case' hv => (simp only [go_sem, reduceAdd, reduceSub, reduceMul, reduceEqDiff, reduceLeDiff, Nat.reduceBEq, reduceLT, reduceIte, reduceCtorEq, Int.reduceToNat]; try exact rfl)); (case' hp => (first | refine' v1 | (refine' (fun hg => ?_); refine' v1) | refine' v2 | (refine' (fun hg => ?_); refine' v2))); (case' h => ((first | refine evOps_fin ?_ | refine And.intro ?_ (evD_fin ?_) | refine evD_fin ?_) <;> simp only [go_sem, reduceAdd, reduceSub, reduceMul, reduceEqDiff, reduceLeDiff, Nat.reduceBEq, reduceLT, reduceIte, reduceCtorEq, Int.reduceToNat])))
    | ((first | apply callL | apply callLG | apply callL0); (case' hv => (simp only [go_sem, reduceAdd, reduceSub, reduceMul, reduceEqDiff, reduceLeDiff, Nat.reduceBEq, reduceLT, reduceIte, reduceCtorEq, Int.reduceToNat]; try exact rfl)); (case' hp => (first | refine' v | (refine' (fun hg => ?_); refine' v))); (case' hf => exact rfl); (case' h => ((first | refine evOps_fin ?_ | refine And.intro ?_ (evD_fin ?_) | refine evD_fin ?_) <;> simp only [go_sem, reduceAdd, reduceSub, reduceMul, reduceEqDiff, reduceLeDiff, Nat.reduceBEq, reduceLT, reduceIte, reduceCtorEq, Int.reduceToNat])))
    | (refine callX ?_; (first | refine evOps_fin ?_ | refine And.intro ?_ (evD_fin ?_) | refine evD_fin ?_) <;> simp only [go_sem, reduceAdd, reduceSub, reduceMul, reduceEqDiff, reduceLeDiff, Nat.reduceBEq, reduceLT, reduceIte, reduceCtorEq, Int.reduceToNat])
def entC (a b : Ent) : Int := celE a.x a.y b.x b.y
theorem less_pure (a b : Ent) : Pure Tryz.prog 63 [.agg (encE a), .agg (encE b)] (.int .i64 (entC a b)) := by
  have v := ecompare_pure a.x a.y b.x b.y
  unfold entC
  simp only [encE]
  generalize celE a.x a.y b.x b.y = z at *
  (refine pure_of_ev tt_ok Tryz.func63 rfl (by decide +kernel) (Nat.le_of_ble_eq_true rfl) ?_; simp only [Tryz.f63])
  repeat' first
    | refine ev_seq (fun K hK => ?_)
    | ((first | refine evr tt_ok false ?_ | refine ev_skip ?_ | refine ev_ret ?_ | refine ev_exit ?_ | refine evc (fun X Y hX hY => ?_)); simp only [go_sem, reduceAdd, reduceSub, reduceMul, reduceEqDiff, reduceLeDiff, Nat.reduceBEq, reduceLT, reduceIte, reduceCtorEq, Int.reduceToNat]; try (first | (refine ⟨fun h => hX ?_, fun h => hY ?_⟩; clear hX hY) | (refine hX ?_; clear hX hY) | (refine hY ?_; clear hX hY)))
    | refine ev_block ?_
    | (apply hK; clear hK)
    | apply_assumption -exfalso -symm only [*]
    | (refine And.intro ?_ ?_; first | omega | assumption | (unfold maxLen; omega) | (simp only [decide_eq_true_eq, decide_eq_false_iff_not, Int.not_lt, Int.not_le] at h; omega))
    | ((first | apply callP | apply callPG | apply callP0); (case' hv => (simp only [go_sem, reduceAdd, reduceSub, reduceMul, reduceEqDiff, reduceLeDiff, Nat.reduceBEq, reduceLT, reduceIte, reduceCtorEq, Int.reduceToNat]; try exact rfl)); (case' hp => (first | refine' v | (refine' (fun hg => ?_); refine' v))); (case' h => ((first | refine evOps_fin ?_ | refine And.intro ?_ (evD_fin ?_) | refine evD_fin ?_) <;> simp only [go_sem, reduceAdd, reduceSub, reduceMul, reduceEqDiff, reduceLeDiff, Nat.reduceBEq, reduceLT, reduceIte, reduceCtorEq, Int.reduceToNat])))
    | (refine callX ?_; (first | refine evOps_fin ?_ | refine And.intro ?_ (evD_fin ?_) | refine evD_fin ?_) <;> simp only [go_sem, reduceAdd, reduceSub, reduceMul, reduceEqDiff, reduceLeDiff, Nat.reduceBEq, reduceLT, reduceIte, reduceCtorEq, Int.reduceToNat])
theorem gone_pure (a : Ent) : Pure Tryz.prog 61 [.agg (encE a)] (.bool (a.h == 0 && a.p == 0)) := by
  simp only [encE]
  (refine pure_of_ev tt_ok Tryz.func61 rfl (by decide +kernel) (Nat.le_of_ble_eq_true rfl) ?_; simp only [Tryz.f61])
  repeat' first
    | refine ev_seq (fun K hK => ?_)
    | ((first | refine evr tt_ok false ?_ | refine ev_skip ?_ | refine ev_ret ?_ | refine ev_exit ?_ | refine evc (fun X Y hX hY => ?_)); simp only [go_sem, reduceAdd, reduceSub, reduceMul, reduceEqDiff, reduceLeDiff, Nat.reduceBEq, reduceLT, reduceIte, reduceCtorEq, Int.reduceToNat]; try (first | (refine ⟨fun h => hX ?_, fun h => hY ?_⟩; clear hX hY) | (refine hX ?_; clear hX hY) | (refine hY ?_; clear hX hY)))
    | refine ev_block ?_
    | (apply hK; clear hK)
    | apply_assumption -exfalso -symm only [*]
    | (refine And.intro ?_ ?_; first | omega | assumption | (unfold maxLen; omega) | (simp only [decide_eq_true_eq, decide_eq_false_iff_not, Int.not_lt, Int.not_le] at h; omega))
end Go.Proofs.YtbibplkhhdomnaaGreat
namespace Go.Proofs.YtbibplkhhdomnaaGreat
open Go Go.Proofs Go.Shelf
def sortEnt_ren : Go.Shelf.Ren := ⟨fun | 6 => 62 | 15 => 88 | 14 => 87 | 28 => 104 | 29 => 105 | 20 => 96 | 21 => 97 | 22 => 98 | 23 => 99 | 24 => 100 | 25 => 101 | 26 => 102 | 27 => 103 | 46 => 111 | 47 => 112 | 48 => 113 | 49 => 114 | 50 => 115 | 57 => 117 | n => n, fun | 22 => 55 | 24 => 95 | 25 => 134 | 3 => 3 | 39 => 157 | 0 => 0 | 53 => 177 | 55 => 179 | 4 => 4 | 46 => 170 | 45 => 169 | 50 => 174 | 5 => 5 | 9 => 9 | 66 => 181 | 70 => 185 | 76 => 189 | 77 => 113 | n => n, fun | n => n⟩
theorem sortEnt : SlLaysF0.n6 Tryz.prog sortEnt_ren := {
  mixed := by kernel_rfl,
  f6 := ⟨Tryz.f62.name, by decide, Tryz.func62.trans (congrArg some (by kernel_rfl))⟩,
  f14 := ⟨Tryz.f87.name, by decide, Tryz.func87.trans (congrArg some (by kernel_rfl))⟩,
  f15 := Tryz.func88.trans (congrArg some (by kernel_rfl)),
  f20 := ⟨Tryz.f96.name, by decide, Tryz.func96.trans (congrArg some (by kernel_rfl))⟩,
  f21 := ⟨Tryz.f97.name, by decide, Tryz.func97.trans (congrArg some (by kernel_rfl))⟩,
  f22 := ⟨Tryz.f98.name, by decide, Tryz.func98.trans (congrArg some (by kernel_rfl))⟩,
  f23 := ⟨Tryz.f99.name, by decide, Tryz.func99.trans (congrArg some (by kernel_rfl))⟩,
  f24 := ⟨Tryz.f100.name, by decide, Tryz.func100.trans (congrArg some (by kernel_rfl))⟩,
  f25 := ⟨Tryz.f101.name, by decide, Tryz.func101.trans (congrArg some (by kernel_rfl))⟩,
  f26 := ⟨Tryz.f102.name, by decide, Tryz.func102.trans (congrArg some (by kernel_rfl))⟩,
  f27 := ⟨Tryz.f103.name, by decide, Tryz.func103.trans (congrArg some (by kernel_rfl))⟩,
  f28 := Tryz.func104.trans (congrArg some (by kernel_rfl)),
  f29 := Tryz.func105.trans (congrArg some (by kernel_rfl)),
  f46 := ⟨Tryz.f111.name, by decide, Tryz.func111.trans (congrArg some (by kernel_rfl))⟩,
  f47 := Tryz.func112.trans (congrArg some (by kernel_rfl)),
  f48 := Tryz.func113.trans (congrArg some (by kernel_rfl)),
  f49 := ⟨Tryz.f114.name, by decide, Tryz.func114.trans (congrArg some (by kernel_rfl))⟩,
  f50 := ⟨Tryz.f115.name, by decide, Tryz.func115.trans (congrArg some (by kernel_rfl))⟩,
  f57 := ⟨Tryz.f117.name, by decide, Tryz.func117.trans (congrArg some (by kernel_rfl))⟩,
  t0 := Tryz.underlying0,
  a0 := Tryz.isAgg0,
  z0 := Tryz.sizeOf0,
  v0 := Tryz.zeroValue0,
  t3 := Tryz.underlying3,
  a3 := Tryz.isAgg3,
  z3 := Tryz.sizeOf3,
  v3 := Tryz.zeroValue3,
  t4 := Tryz.underlying4,
  a4 := Tryz.isAgg4,
  z4 := Tryz.sizeOf4,
  v4 := Tryz.zeroValue4,
  t5 := Tryz.underlying5,
  a5 := Tryz.isAgg5,
  z5 := Tryz.sizeOf5,
  v5 := Tryz.zeroValue5,
  t9 := Tryz.underlying9,
  a9 := Tryz.isAgg9,
  z9 := Tryz.sizeOf9,
  v9 := Tryz.zeroValue9,
  t22 := Tryz.underlying55,
  a22 := Tryz.isAgg55,
  z22 := Tryz.sizeOf55,
  v22 := Tryz.zeroValue55,
  t25 := Tryz.underlying134,
  a25 := Tryz.isAgg134,
  z25 := Tryz.sizeOf134,
  v25 := Tryz.zeroValue134,
  t39 := Tryz.underlying157,
  a39 := Tryz.isAgg157,
  z39 := Tryz.sizeOf157,
  v39 := Tryz.zeroValue157,
  t45 := Tryz.underlying169,
  a45 := Tryz.isAgg169,
  z45 := Tryz.sizeOf169,
  v45 := Tryz.zeroValue169,
  t46 := Tryz.underlying170,
  a46 := Tryz.isAgg170,
  z46 := Tryz.sizeOf170,
  v46 := Tryz.zeroValue170,
  t50 := Tryz.underlying174,
  a50 := Tryz.isAgg174,
  z50 := Tryz.sizeOf174,
  v50 := Tryz.zeroValue174,
  t53 := Tryz.underlying177,
  a53 := Tryz.isAgg177,
  z53 := Tryz.sizeOf177,
  v53 := Tryz.zeroValue177,
  t55 := Tryz.underlying179,
  a55 := Tryz.isAgg179,
  z55 := Tryz.sizeOf179,
  v55 := Tryz.zeroValue179,
  t66 := Tryz.underlying181,
  a66 := Tryz.isAgg181,
  z66 := Tryz.sizeOf181,
  v66 := Tryz.zeroValue181,
  t70 := Tryz.underlying185,
  a70 := Tryz.isAgg185,
  z70 := Tryz.sizeOf185,
  v70 := Tryz.zeroValue185,
  t76 := Tryz.underlying189,
  a76 := Tryz.isAgg189,
  z76 := Tryz.sizeOf189,
  v76 := Tryz.zeroValue189,
  t77 := Tryz.underlying113,
  a77 := Tryz.isAgg113,
  z77 := Tryz.sizeOf113,
  v77 := Tryz.zeroValue113 }
end Go.Proofs.YtbibplkhhdomnaaGreat

import Derived.RangeFuncNested
import Derived.RangeFuncBound
import Derived.RangeFuncCalls
import Derived.RangeFuncLeaves
import Derived.RangeFuncGives
import Derived.Shelf.Abstract
import Derived.WalkKit
import Derived.OwnWalkIn
import Derived.TacticsInMore
import Derived.LoopNIn
import Derived.LoopIn
import Derived.Sort.MapsRangeIn
import Derived.Maps.RangeRun
import Derived.Maps.AppendAt
import Derived.Test.YtbibplkhhdomnaaGreatW13
import Derived.Test.YtbibplkhhdomnaaGreatW14
set_option linter.all false
namespace Go.Proofs.YtbibplkhhdomnaaGreat
open Go Go.RowKit Go.Shelf
open Go.ChangeMaps (setBlock)
attribute [local go_sem] Oper.semAt_some
structure Ent where
  x : Int
  y : Int
  h : Int
  p : Int
def encV (e : Ent) : List Value := [.int .i64 e.x, .int .i64 e.y, .int .i64 e.h, .int .i64 e.p]
def entV (e : Ent) : Value := .agg #[.int .i64 e.x, .int .i64 e.y, .int .i64 e.h, .int .i64 e.p]
def keyV (k : Int × Int) : Value := .agg #[.int .i64 k.1, .int .i64 k.2]
structure MapOk (n : Nat) (es : Array MapEntry) (clk : Nat) : Prop where
  ents : ∀ e ∈ es.toList, (∃ k, e.key = keyV k) ∧ (∃ v, e.val = entV v) ∧ e.born < clk
  nodup : (es.toList.map (·.born)).Nodup
  size : es.size ≤ n
theorem left_push (es : Array MapEntry) (seen : Array Nat) {e : MapEntry} (he : e ∈ (leftOf es seen).toList) : (leftOf es (seen.push e.born)).size < (leftOf es seen).size := by
  have h1 : (leftOf es (seen.push e.born)).toList = (leftOf es seen).toList.filter fun x => x.born != e.born := by
    unfold leftOf
    rw [Array.toList_filter, Array.toList_filter, List.filter_filter]
    congr 1
    funext x
    rw [Array.contains_push]
    cases seen.contains x.born <;> simp [bne, Bool.beq_comm]
    all_goals first | done | (rw [eq_comm])
  rw [← Array.length_toList, ← Array.length_toList, h1]
  exact List.length_filter_lt_length_iff_exists.2 ⟨e, he, by simp⟩
theorem wp_range {F : Fence} {n : Nat} {w : World} {ops : Array Oper} {rest : List Oper} {o : Oper} {a : Act} {Q : Exit → Act → World → Prop} (hg : o.guard = none) (m : Operand) (hop : o.op = Op.range 81 m) (b : Nat) (es : Array MapEntry) (clk : Nat)
    (hm : a.eval m = .map (some b)) (hb : w.heap[b]? = some (.map es clk))
    (hK : wpListIn F n Tryz.prog ops Q rest (a.put o.dst (.pointer (some ⟨w.heap.size, 0, none⟩))) (w.alloc (.mapIter (some b) clk #[] clk))) : wpListIn F n Tryz.prog ops Q (o :: rest) a w := by
  refine wpListIn_plain hg fun K' hK' => ?_
  have hrun := run_range_map (P := Tryz.prog) w 81 _ _ b es clk Tryz.underlying81 hb
  unfold Oper.wpIn
  refine ⟨by simp [Oper.about, hop], ?_⟩
  rw [Oper.semAt_plain F _ _ (by rw [hop]; intro c hc'; cases hc')]
  simp [execOp, hop, hm, hrun, Result.andThen]
  exact hK' _ _ hK
structure NextOk (es : Array MapEntry) (seen : Array Nat) (w : World) (e : MapEntry) (w1 : World) : Prop where
  mem : e ∈ (leftOf es seen).toList
  drew : w1 = w ∨ w1 = w.drew
theorem wp_next {F : Fence} {n : Nat} {w : World} {ops : Array Oper} {rest : List Oper} {o : Oper} {a : Act} {Q : Exit → Act → World → Prop} (hg : o.guard = none) (it : Operand) (hop : o.op = Op.next it false) (r b clk : Nat) (es : Array MapEntry) (seen : Array Nat)
    (hit : a.eval it = .pointer (some ⟨r, 0, none⟩)) (hr : w.heap[r]? = some (.mapIter (some b) clk seen clk)) (hb : w.heap[b]? = some (.map es clk)) (hold : ∀ x ∈ es.toList, x.born < clk)
    (hDone : wpListIn F n Tryz.prog ops Q rest (a.put o.dst (.tuple #[.bool false])) w)
    (hMore : ∀ e w1, NextOk es seen w e w1 → wpListIn F n Tryz.prog ops Q rest (a.put o.dst (.tuple #[.bool true, e.key, e.val])) (setBlock w1 r (.mapIter (some b) clk (seen.push e.born) clk))) :
    wpListIn F n Tryz.prog ops Q (o :: rest) a w := by
  refine wpListIn_plain hg fun K' hK' => ?_
  unfold Oper.wpIn
  refine ⟨by simp [Oper.about, hop], ?_⟩
  rw [Oper.semAt_plain F _ _ (by rw [hop]; intro c hc'; cases hc')]
  rcases run_next_at (P := Tryz.prog) w o.type r b clk clk seen es clk hr hb hold (Nat.le_refl _) with ⟨_, hrun⟩ | ⟨e, he, w1, hal, hrun⟩
  · simp [execOp, hop, hit, hrun, Result.andThen]
    exact hK' _ _ hDone
  · simp [execOp, hop, hit, hrun, Result.andThen]
    exact hK' _ _ (hMore e w1 ⟨he, hal⟩)
theorem setBlock_grown (w w1 : World) (r : Nat) (o : Obj) (hal : w1 = w ∨ w1 = w.drew) : w.grownBy (setBlock w1 r o) (some r) := by
  rcases hal with rfl | rfl
  all_goals exact ⟨rfl, rfl, rfl, by simp [setBlock], fun k _ hk => by
    simp only [setBlock]
    rw [Array.getElem?_setIfInBounds_ne (fun e => hk (by rw [e]))]
    try rfl⟩
def leftIn (es : Array MapEntry) (r : Nat) (w : World) : Nat := match w.heap[r]? with | some (.mapIter _ _ seen _) => (leftOf es seen).size | _ => 0
theorem leftIn_of {es : Array MapEntry} {r : Nat} {w : World} {m : Option Nat} {s c : Nat} {seen : Array Nat} (h : w.heap[r]? = some (.mapIter m s seen c)) : leftIn es r w = (leftOf es seen).size := by
  unfold leftIn; rw [h]
theorem left_mem {es : Array MapEntry} {seen : Array Nat} {e : MapEntry} (h : e ∈ (leftOf es seen).toList) : e ∈ es.toList := by
  unfold leftOf at h
  simp at h ⊢
  exact h.1
def AbidesD {β : Type} (B : Nat) (J : β → World → Prop) : Prop :=
  ∀ s W W' row, J s W → W.grownBy W' row → W.drawn ≤ W'.drawn → (∀ r, row = some r → B ≤ r ∧ ∃ o : Obj, W.heap[r]? = some o ∧ o.isWalk = true) → J s W'
def GivesD (F : Fence) (n : Nat) (g : Nat) (lb : Array Value) (N : Nat) (w : World) : Prop :=
  ∀ (l : Nat) (J : List Ent → World → Prop) (W : World), Below w.heap.size w W → AbidesD W.heap.size J →
    (∀ pre x W1, J pre W1 → pre.length < N → YieldAt F (n - 1) Tryz.prog l #[entV x] W1 fun e W' => e = .returned (.bool true) ∧ J (pre ++ [x]) W' ∧ KeepsWalks W1 W') →
    J [] W →
    CallsIn F n Tryz.prog g (#[.func (.yield l) #[] #[]] ++ lb) W fun e W' => (∃ v, e = .returned v) ∧ ∃ xs, xs.length ≤ N ∧ J xs W'
set_option maxRecDepth 100000 in
set_option maxHeartbeats 1000000 in
theorem values1 (F : Fence) (n : Nat) (h85 : F.fn 85) (hro : F.round = none) (hn : 1 ≤ n) (l Bm b N clk : Nat) (es : Array MapEntry) (hes : MapOk N es clk) (J : List Ent → World → Prop)
    (hY : ∀ pre x W, J pre W → pre.length < N → YieldAt F (n - 1) Tryz.prog l #[entV x] W fun e W' => e = .returned (.bool true) ∧ J (pre ++ [x]) W' ∧ KeepsWalks W W')
    (W : World) (hJ : AbidesD W.heap.size J) (hm : W.cell? ⟨Bm, 0, none⟩ = some (.map (some b))) (hb : W.heap[b]? = some (.map es clk)) (h0 : J [] W) :
    CallsIn F n Tryz.prog 85 #[.func (.yield l) #[] #[], .pointer (some ⟨Bm, 0, none⟩)] W fun e W' => (∃ v, e = .returned v) ∧ ∃ xs : List Ent, xs.length ≤ N ∧ J xs W' := by
  refine callsIn_of_wp Tryz.func85 rfl h85 ?_ hro
  simp only [Tryz.ntmps85, List.size_toArray, List.length_cons, List.length_nil, Nat.reduceAdd, Nat.reduceSub, Array.replicate_succ, Array.replicate_zero, List.push_toArray, List.append_toArray, List.nil_append, List.cons_append]
  gi_wp2_with (first
    | (gi_at_range; refine wp_range rfl _ rfl b es clk rfl hb ?_)
    | gi_in)
  have hblt : b < W.heap.size := (Array.getElem?_eq_some_iff.1 hb).1
  go_frame
  gi_loopw [4] (fun _ wr => ∃ (seen : Array Nat) (xs : List Ent), wr.heap[W.heap.size]? = some (.mapIter (some b) clk seen clk) ∧ wr.heap[b]? = some (.map es clk) ∧ xs.length + (leftOf es seen).size ≤ N ∧ J xs wr)
    (fun _ wr => leftIn es W.heap.size wr)
  case atStart =>
    refine ⟨#[], [], World.alloc_heap_new W _, (Below.heap_alloc W _ b hblt).trans hb, ?_, hJ [] W _ none h0 (World.grownBy_alloc W _ none) (Nat.le_refl _) (fun r e => by cases e)⟩
    have : (leftOf es #[]).size ≤ es.size := by unfold leftOf; exact Array.size_filter_le
    have := hes.size
    simp only [List.length_nil]; omega
  case round =>
    obtain ⟨seen, xs, hr, hb', hlen, hJx⟩ := hrel
    gi_wp2_with (first
      | (gi_at_next; refine wp_next rfl _ rfl W.heap.size b clk es seen rfl hr hb' (fun x hx => (hes.ents x hx).2.2) ?_ ?_)
      | gi_in)
    · gi_wp2
      go_end0
      exact ⟨⟨_, rfl⟩, xs, by omega, hJx⟩
    · rintro e w1 ⟨he, hal⟩
      have hlt := left_push es seen he
      obtain ⟨⟨k, hk⟩, ⟨v, hv⟩, _⟩ := hes.ents e (left_mem he)
      have hg2 := setBlock_grown wr w1 W.heap.size (.mapIter (some b) clk (seen.push e.born) clk) hal
      obtain ⟨w2, hw2⟩ : ∃ w2, setBlock w1 W.heap.size (.mapIter (some b) clk (seen.push e.born) clk) = w2 := ⟨_, rfl⟩
      have hd2 : wr.drawn ≤ w2.drawn := by
        rw [← hw2]
        rcases hal with rfl | rfl
        · exact Nat.le_refl _
        · exact Nat.le_succ _
      rw [hw2] at hg2 ⊢
      have hr2 : w2.heap[W.heap.size]? = some (.mapIter (some b) clk (seen.push e.born) clk) := by
        rw [← hw2]
        simp only [setBlock]
        rw [Array.getElem?_setIfInBounds_self_of_lt]
        have := (Array.getElem?_eq_some_iff.1 hr).1
        rcases hal with rfl | rfl <;> exact this
      have hb2 : w2.heap[b]? = some (.map es clk) := (hg2.block b (Array.getElem?_eq_some_iff.1 hb').1 (fun e => by cases e; omega)).trans hb'
      have hen := run_entry_at (P := Tryz.prog) w2 W.heap.size b clk seen es clk e hr2 hb2 (left_mem he) hes.nodup
      have hJ2 : J xs w2 := hJ xs wr w2 (some W.heap.size) hJx hg2 hd2 (fun r e => by cases e; exact ⟨Nat.le_refl _, _, hr, rfl⟩)
      rw [hk, hv] at hen
      rw [hk, hv]
      unfold keyV entV at hen ⊢
      clear hw2
      have hJ3 : J xs (w2.alloc (.cells #[.int .i64 v.x, .int .i64 v.y, .int .i64 v.h, .int .i64 v.p] 95)) := hJ xs w2 _ none hJ2 (World.grownBy_alloc w2 _ none) (Nat.le_refl _) (fun r e => by cases e)
      obtain ⟨fn, tmps, assign, body, hy, hR⟩ := hY xs v _ hJ3 (by omega)
      unfold entV at hy
      gi_wp2
      refine hR.mono ?_
      rintro e W3 ⟨rfl, hJ3, hk3⟩
      gi_wp2
      have hk0 := KeepsWalks.alloc w2 (.cells #[.int .i64 v.x, .int .i64 v.y, .int .i64 v.h, .int .i64 v.p] 95)
      have hr3 := hk3.same _ _ (hk0.same _ _ hr2 rfl) rfl
      have hb3 := hk3.same _ _ (hk0.same _ _ hb2 rfl) rfl
      go_roundw
      case rel => exact ⟨seen.push _, xs ++ [v], hr3, hb3, by simp only [List.length_append, List.length_cons, List.length_nil]; omega, hJ3⟩
      case measure => rw [leftIn_of hr3, leftIn_of hr]; exact hlt
end Go.Proofs.YtbibplkhhdomnaaGreat
namespace Go.Proofs.YtbibplkhhdomnaaGreat
open Go Go.RowKit Go.Shelf
open Go.ChangeMaps (setBlock)
attribute [local go_sem] Oper.semAt_some
def apAssign : Code := Code.region 2 #[{ dst := some 5, op := Op.alloc 95, type := 0, pos := "iter.go:51", after := #[], guard := none },
  { dst := none, op := Op.store 95 (Operand.tmp 5) (Operand.tmp 7), type := 0, pos := "iter.go:51", after := #[{ on := 0, ground := Ground.data }, { on := 0, ground := Ground.phase }], guard := none }] false
def apBody : Code := Code.block 1 (Code.region 3 #[{ dst := some 8, op := Op.load 55 (Operand.tmp 2), type := 55, pos := "iter.go:52", after := #[], guard := none },
  { dst := some 9, op := Op.load 95 (Operand.tmp 5), type := 95, pos := "iter.go:52", after := #[], guard := none },
  { dst := some 10, op := Op.buildSlice 55 1 #[(0, Operand.tmp 9)], type := 55, pos := "iter.go:52", after := #[{ on := 1, ground := Ground.data }], guard := none },
  { dst := some 11, op := Op.call { callee := Callee.builtin Builtin.append, args := #[Operand.tmp 8, Operand.tmp 10], argTypes := #[55, 55] }, type := 55, pos := "iter.go:52", after := #[{ on := 0, ground := Ground.data }, { on := 2, ground := Ground.data }], guard := none },
  { dst := none, op := Op.store 55 (Operand.tmp 2) (Operand.tmp 11), type := 0, pos := "iter.go:52", after := #[{ on := 3, ground := Ground.data }, { on := 3, ground := Ground.chain }, { on := 0, ground := Ground.phase }, { on := 1, ground := Ground.phase }, { on := 2, ground := Ground.phase }, { on := 3, ground := Ground.phase }], guard := none }] false)
def apRec (fn : FuncId) (sv : Value) (Bs D : Nat) (st : LoopState) (pend : Option Code) : Loop :=
  { state := st, pending := pend, fn, tmps := #[.slice none 0 0, sv, .pointer (some ⟨Bs, 0, none⟩), undef, .slice none 0 0, undef, sv, undef, undef, undef, undef, undef, undef], params := #[7], assign := apAssign, body := apBody, defers := D }
structure ApAt (w0 : World) (fn : FuncId) (sv : Value) (Bs l D : Nat) (ss : List Ent) (W : World) : Prop where
  box : ∃ v, W.heap[Bs]? = some (.cells #[v] 55 (0, 0)) ∧ W.ownsRow w0.heap.size 95 4 v ss.length (ss.flatMap encV)
  L : W.heap[l]? = some (.loop (apRec fn sv Bs D .ready none))
  K : W.heap[D]? = some (.deferred (some []))
  below : Below w0.heap.size w0 W
  drawn : w0.drawn ≤ W.drawn
theorem ownsRow_abides {W W' : World} {row : Option Nat} {base : Nat} {e : TypeId} {size : Nat} {v : Value} {k : Nat} {xs : List Value} (h : W.ownsRow base e size v k xs) (hg : W.grownBy W' row)
    (hrow : ∀ r, row = some r → ∃ o : Obj, W.heap[r]? = some o ∧ o.isWalk = true) : W'.ownsRow base e size v k xs := by
  refine h.kept hg ?_
  rcases h.2 with ⟨rfl, _⟩ | ⟨g, cap, cur, rfl, _, hgb, _⟩
  · exact .inl rfl
  · refine .inr fun e' => ?_
    obtain ⟨o, ho, hw⟩ := hrow g (by simpa [Value.ownBlock] using e'.symm)
    rw [hgb] at ho; cases ho; cases hw
theorem ap_abides (w0 : World) (fn : FuncId) (sv : Value) (Bs l D B : Nat) (hB : w0.heap.size ≤ B) : AbidesD B (ApAt w0 fn sv Bs l D) := fun s W W' row h hg hd hrow => by
  have hrow' : ∀ r, row = some r → ∃ o : Obj, W.heap[r]? = some o ∧ o.isWalk = true := fun r e => (hrow r e).2
  obtain ⟨v, hv, hr⟩ := h.box
  exact ⟨⟨v, (grownBy_keeps hg hrow' hv rfl).trans hv, ownsRow_abides hr hg hrow'⟩, (grownBy_keeps hg hrow' h.L rfl).trans h.L, (grownBy_keeps hg hrow' h.K rfl).trans h.K,
    h.below.grown hg h.below.size (fun k e => Nat.le_trans hB (hrow k e).1), Nat.le_trans h.drawn hd⟩
theorem grownBy_putObj (W : World) (l : Nat) (o : Obj) : W.grownBy (W.putObj l o) (some l) :=
  ⟨rfl, rfl, rfl, by simp, fun k _ hk => World.putObj_heap_other (fun e => hk (by rw [e]))⟩
theorem grownBy_setCell0 (W : World) (b : Nat) (v : Value) : W.grownBy (W.setCell ⟨b, 0, none⟩ v) (some b) :=
  ⟨rfl, rfl, rfl, (KeepsWalks.setCell W _ v).size, fun k _ hk => Below.heap_setCell _ _ _ k (fun e => hk (by rw [e]))⟩
theorem ownsRow_ne {W : World} {base : Nat} {e : TypeId} {size : Nat} {v : Value} {k : Nat} {xs : List Value} (h : W.ownsRow base e size v k xs) {j : Nat} {o : Obj} (hj : W.heap[j]? = some o) (hno : ∀ cur, o ≠ .cells cur e (0, 0)) :
    v.ownBlock = none ∨ v.ownBlock ≠ some j := by
  rcases h.2 with ⟨rfl, _⟩ | ⟨g, cap, cur, rfl, _, hgb, _⟩
  · exact .inl rfl
  · refine .inr fun e' => ?_
    have : g = j := by simpa [Value.ownBlock] using e'
    subst this; rw [hgb] at hj; cases hj; exact hno cur rfl
theorem cell_of_box {W : World} {B : Nat} {v : Value} {t : TypeId} (h : W.heap[B]? = some (.cells #[v] t (0, 0))) : W.cell? ⟨B, 0, none⟩ = some v ∧ W.frozen? ⟨B, 0, none⟩ = false := by
  constructor <;> simp [World.cell?, World.frozen?, h]
theorem heap_setCell_box {W : World} {B : Nat} {v : Value} {t : TypeId} (v' : Value) (h : W.heap[B]? = some (.cells #[v] t (0, 0))) : (W.setCell ⟨B, 0, none⟩ v').heap[B]? = some (.cells #[v'] t (0, 0)) := by
  obtain ⟨hlt, hk⟩ := Array.getElem?_eq_some_iff.1 h
  show (W.heap.modify B _)[B]? = _
  rw [Array.getElem?_eq_getElem (by rw [Array.size_modify]; exact hlt), Array.getElem_modify_self, hk]
  rfl
theorem ownsRow_not_walk {W : World} {base : Nat} {e : TypeId} {size : Nat} {v : Value} {k : Nat} {xs : List Value} (h : W.ownsRow base e size v k xs) : ∀ (j : Nat) (o : Obj), v.ownBlock = some j → W.heap[j]? = some o → o.isWalk = false := by
  intro j o hj ho
  rcases h.2 with ⟨rfl, _⟩ | ⟨g, cap, cur, rfl, _, hgb, _⟩
  · simp [Value.ownBlock] at hj
  · have : g = j := by simpa [Value.ownBlock] using hj
    subst this; rw [hgb] at ho; cases ho; rfl
theorem info_ent : (Tryz.prog.info? 95).map (fun i => (i.zero, i.size, i.bytes)) = some (some (.agg #[.int .i64 0, .int .i64 0, .int .i64 0, .int .i64 0]), 4, 32) := by kernel_rfl
theorem cells_new (w : World) (x : Ent) (t : TypeId) : ∀ j u, (encV x)[j]? = some u → (w.alloc (.cells #[.int .i64 x.x, .int .i64 x.y, .int .i64 x.h, .int .i64 x.p] t)).cell? ((⟨w.heap.size, 0, none⟩ : Addr).add j) = some u := by
  intro j u hj
  have hjl := (List.getElem?_eq_some_iff.1 hj).1
  have : j = 0 ∨ j = 1 ∨ j = 2 ∨ j = 3 := by simp only [encV, List.length_cons, List.length_nil] at hjl; omega
  rcases this with rfl | rfl | rfl | rfl <;> (simp [encV] at hj; subst hj; simp [Addr.add])
theorem wp_append {F : Fence} {n : Nat} {P : Program} (w : World) {ops : Array Oper} {rest : List Oper} {o : Oper} {a : Act} {Q : Exit → Act → World → Prop}
    (hg : o.guard = none) (s x : Operand) (t : TypeId) (hop : o.op = Op.call { callee := Callee.builtin Builtin.append, args := #[s, x], argTypes := #[t, t] })
    (base : Nat) (e : TypeId) (i : TypeInfo) (z : Value) (size bytes : Nat) (h1 : P.underlying t = some (.slice e)) (h2 : P.info? e = some i) (h3 : i.zero = some z) (h4 : i.size = size) (h5 : i.bytes = bytes) (h6 : z.cells.size = size) (h7 : 0 < size)
    (v : Value) (k : Nat) (xs : List Value) (hs : a.eval s = v) (hown : w.ownsRow base e size v k xs) (ad : Addr) (m c : Nat) (news : List Value) (hx : a.eval x = .slice (some ad) m c) (hn : news.length = m * size)
    (hc : ∀ j u, news[j]? = some u → w.cell? (ad.add j) = some u) (h1c : ∀ u ∈ news, u.oneCell' = true) (b1 : k + m ≤ maxLen) (b2 : (k + m) * bytes ≤ 140737488355328) (b3 : base ≤ w.heap.size)
    (hK : ∀ v' w', w'.ownsRow base e size v' (k + m) (xs ++ news) → w.grownBy w' v.ownBlock → w.drawn ≤ w'.drawn → wpListIn F n P ops Q rest (a.put o.dst v') w') :
    wpListIn F n P ops Q (o :: rest) a w := by
  obtain ⟨v', w', hrun, r1, r2, _⟩ := run_append_own (P := P) w base t o.type e i z size bytes h1 h2 h3 h4 h5 h6 h7 v k xs hown ad m c news hn hc h1c b1 b2 b3
  have hd := Go.K.run_drawn _ hrun
  refine wpListIn_plain hg fun K hK' => ?_
  unfold Oper.wpIn
  refine ⟨by simp [Oper.about, hop, resolve, Target.leads, Sem.run_pure], ?_⟩
  rw [Oper.semAt_plain F _ _ (by rw [hop]; intro c hc'; cases hc')]
  simp [execOp, hop, resolve, invoke, builtin, hs, hx, hrun, Result.andThen]
  exact hK' _ _ (hK v' w' r1 r2 hd)
set_option maxRecDepth 100000 in
set_option maxHeartbeats 4000000 in
theorem apYield (F : Fence) (m : Nat) (w0 : World) (fn : FuncId) (hfn : F.fn fn) (sv : Value) (Bs l D : Nat) (hBl : Bs ≠ l) (hDl : D ≠ l) (hDB : D ≠ Bs) (h0B : w0.heap.size ≤ Bs) (h0l : w0.heap.size ≤ l)
    (N : Nat) (hN : N ≤ maxLen) (hNb : N * 32 ≤ 140737488355328) (ss : List Ent) (x : Ent) (W : World) (h : ApAt w0 fn sv Bs l D ss W) (hlen : ss.length < N) :
    YieldAt F m Tryz.prog l #[entV x] W fun e W' => e = .returned (.bool true) ∧ ApAt w0 fn sv Bs l D (ss ++ [x]) W' ∧ KeepsWalks W W' := by
  obtain ⟨i0, hi, hz0, hz1, hz2⟩ := info_parts info_ent
  obtain ⟨v, hv, hrow⟩ := h.box
  refine ⟨fn, #[.slice none 0 0, sv, .pointer (some ⟨Bs, 0, none⟩), undef, .slice none 0 0, undef, sv, entV x, undef, undef, undef, undef, undef], apAssign, apBody, by simpa [apRec] using run_yield (P := Tryz.prog) (args := #[entV x]) h.L rfl, roundIn_of_wpIn hfn ?_⟩
  unfold entV
  have hlW : l < W.heap.size := (Array.getElem?_eq_some_iff.1 h.L).1
  have hBW : Bs < W.heap.size := (Array.getElem?_eq_some_iff.1 hv).1
  have hDW : D < W.heap.size := (Array.getElem?_eq_some_iff.1 h.K).1
  obtain ⟨W1, hW1⟩ : ∃ W1, W.alloc (.cells #[.int .i64 x.x, .int .i64 x.y, .int .i64 x.h, .int .i64 x.p] 95) = W1 := ⟨_, rfl⟩
  have hg1 : W.grownBy W1 none := by rw [← hW1]; exact World.grownBy_alloc W _ none
  have hk1 : KeepsWalks W W1 := by rw [← hW1]; exact KeepsWalks.alloc _ _
  have hv1 : W1.heap[Bs]? = some (.cells #[v] 55 (0, 0)) := by rw [← hW1]; exact (Below.heap_alloc _ _ Bs hBW).trans hv
  have hL1 : W1.heap[l]? = some (.loop (apRec fn sv Bs D .ready none)) := by rw [← hW1]; exact (Below.heap_alloc _ _ l hlW).trans h.L
  have hK1 : W1.heap[D]? = some (.deferred (some [])) := by rw [← hW1]; exact (Below.heap_alloc _ _ D hDW).trans h.K
  have hX1 : W1.heap[W.heap.size]? = some (.cells #[.int .i64 x.x, .int .i64 x.y, .int .i64 x.h, .int .i64 x.p] 95 (0, 0)) := by rw [← hW1]; exact World.alloc_heap_new W _
  have hs1 : W1.heap.size = W.heap.size + 1 := by rw [← hW1]; simp
  have hrow1 : W1.ownsRow w0.heap.size 95 4 v ss.length (ss.flatMap encV) := by rw [← hW1]; exact hrow.alloc _
  have hb1 : Below w0.heap.size w0 W1 := by rw [← hW1]; exact h.below.alloc h.below.size _
  have hl : l < W1.heap.size := by omega
  have hd1 : W1.drawn = W.drawn := by rw [← hW1]; rfl
  have hbr := run_beginRound (P := Tryz.prog) hL1 rfl
  obtain ⟨W2, hW2⟩ : ∃ W2, W1.putObj l (.loop { apRec fn sv Bs D .ready none with state := .busy }) = W2 := ⟨_, rfl⟩
  rw [hW2] at hbr
  have hd2 : W2.drawn = W.drawn := by rw [← hW2]; exact hd1
  have hg2 : W1.grownBy W2 (some l) := by rw [← hW2]; exact grownBy_putObj _ _ _
  have hk2 : KeepsWalks W W2 := hk1.trans (by rw [← hW2]; exact KeepsWalks.putObj _ hL1 rfl)
  have hv2 : W2.heap[Bs]? = some (.cells #[v] 55 (0, 0)) := by rw [← hW2]; exact (World.putObj_heap_other hBl).trans hv1
  have hK2 : W2.heap[D]? = some (.deferred (some [])) := by rw [← hW2]; exact (World.putObj_heap_other hDl).trans hK1
  have hX2 : W2.heap[W.heap.size]? = some (.cells #[.int .i64 x.x, .int .i64 x.y, .int .i64 x.h, .int .i64 x.p] 95 (0, 0)) := by rw [← hW2]; exact (World.putObj_heap_other (by omega)).trans hX1
  have hL2 : W2.heap[l]? = some (.loop { apRec fn sv Bs D .ready none with state := .busy }) := by rw [← hW2]; exact World.putObj_heap_same hl
  have hrow2 : W2.ownsRow w0.heap.size 95 4 v ss.length (ss.flatMap encV) := hrow1.kept hg2 (ownsRow_ne hrow1 hL1 (fun cur e => by cases e))
  have hb2 : Below w0.heap.size w0 W2 := hb1.grown hg2 hb1.size (fun k e => by cases e; exact h0l)
  obtain ⟨hc2, hf2⟩ := cell_of_box hv2
  have hx0 : W2.cell? ⟨W.heap.size, 0, none⟩ = some (.int .i64 x.x) := by simp [World.cell?, hX2]
  have hx1 : W2.cell? ⟨W.heap.size, 1, none⟩ = some (.int .i64 x.y) := by simp [World.cell?, hX2]
  have hx2 : W2.cell? ⟨W.heap.size, 2, none⟩ = some (.int .i64 x.h) := by simp [World.cell?, hX2]
  have hx3 : W2.cell? ⟨W.heap.size, 3, none⟩ = some (.int .i64 x.p) := by simp [World.cell?, hX2]
  have hBlt : Bs < W2.heap.size := (Array.getElem?_eq_some_iff.1 hv2).1
  have hl2 : l < W2.heap.size := (Array.getElem?_eq_some_iff.1 hL2).1
  have hDlt : D < W2.heap.size := (Array.getElem?_eq_some_iff.1 hK2).1
  have ne_of : ∀ {j : Nat} {o : Obj}, W2.heap[j]? = some o → (∀ cur, o ≠ .cells cur 95 (0, 0)) → some j ≠ v.ownBlock := fun hj hno => by
    rcases ownsRow_ne hrow2 hj hno with e | e
    · rw [e]; simp
    · exact fun e' => e e'.symm
  clear hW2
  unfold apAssign
  gi_wp2_with (rw [Oper.semAt_eq _ _ _ (fun c h => by cases h)]; go_simp; try go_bits)
  unfold apBody
  gi_wp2_with (first
    | (gi_at_builtin; refine wp_append _ rfl _ _ 55 rfl w0.heap.size 95 i0 (.agg #[.int .i64 0, .int .i64 0, .int .i64 0, .int .i64 0]) 4 32 Tryz.underlying55 hi hz0 hz1 hz2 rfl (by decide) _ _ _ rfl (hrow2.alloc _) ⟨W2.heap.size, 0, none⟩ 1 1 (encV x) rfl rfl (cells_new _ _ _) (by simp [Value.oneCell', encV]) (by omega) (by omega) (by have := hb2.size; simp; omega) ?_; intro v' w3 hown' hg3 hd3
       have hv3 : w3.heap[Bs]? = some (.cells #[v] 55 (0, 0)) := (hg3.block Bs (by simp; omega) (ne_of hv2 (fun cur e => by cases e))).trans ((Below.heap_alloc _ _ Bs hBlt).trans hv2)
       obtain ⟨hc3, hf3⟩ := cell_of_box hv3
       obtain ⟨g', cap', cur', rfl, hbase', hgb', hr1, hr2, hr3, hr4⟩ : ∃ g' cap' cur', v' = .slice (some ⟨g', 0, none⟩) (ss.length + 1) cap' ∧ w0.heap.size ≤ g' ∧ w3.heap[g']? = some (.cells cur' 95 (0, 0)) ∧ ss.length + 1 ≤ cap' ∧ cap' ≤ maxLen ∧ cur'.size = cap' * 4 ∧ cur'.toList.take ((ss.length + 1) * 4) = ss.flatMap encV ++ encV x := by
         rcases hown'.2 with ⟨_, h0⟩ | h'
         · exact absurd h0 (by omega)
         · exact h'
       go_frame)
    | (rw [Oper.semAt_eq _ _ _ (fun c h => by cases h)]; go_simp; try go_bits))
  have hd3' : W2.drawn ≤ w3.drawn := hd3
  have hg3' : (W2.alloc (.cells #[.int .i64 x.x, .int .i64 x.y, .int .i64 x.h, .int .i64 x.p] 95)).grownBy w3 v.ownBlock := hg3
  have hL3 : w3.heap[l]? = some (.loop { apRec fn sv Bs D .ready none with state := .busy }) := (hg3'.block l (by simp; omega) (ne_of hL2 (fun cur e => by cases e))).trans ((Below.heap_alloc _ _ l hl2).trans hL2)
  have hK3 : w3.heap[D]? = some (.deferred (some [])) := (hg3'.block D (by simp; omega) (ne_of hK2 (fun cur e => by cases e))).trans ((Below.heap_alloc _ _ D hDlt).trans hK2)
  obtain ⟨w4, hw4⟩ : ∃ w4, w3.setCell ⟨Bs, 0, none⟩ (.slice (some ⟨g', 0, none⟩) (ss.length + 1) cap') = w4 := ⟨_, rfl⟩
  have hd4 : w4.drawn = w3.drawn := by rw [← hw4]; rfl
  rw [hw4]
  have hg4 : w3.grownBy w4 (some Bs) := by rw [← hw4]; exact grownBy_setCell0 _ _ _
  have hv4 : w4.heap[Bs]? = some (.cells #[.slice (some ⟨g', 0, none⟩) (ss.length + 1) cap'] 55 (0, 0)) := by rw [← hw4]; exact heap_setCell_box _ hv3
  have hL4 : w4.heap[l]? = some (.loop { apRec fn sv Bs D .ready none with state := .busy }) := (hg4.block l (Array.getElem?_eq_some_iff.1 hL3).1 (fun e => hBl (by cases e; rfl))).trans hL3
  have hK4 : w4.heap[D]? = some (.deferred (some [])) := (hg4.block D (Array.getElem?_eq_some_iff.1 hK3).1 (fun e => hDB (by cases e; rfl))).trans hK3
  have hrow4 := hown'.kept hg4 (ownsRow_ne hown' hv3 (fun cur e => by cases e))
  have hl4 : l < w4.heap.size := (Array.getElem?_eq_some_iff.1 hL4).1
  have hb3 : Below w0.heap.size w0 w3 := (hb2.alloc hb2.size _).grown hg3' (by have := hb2.size; simp; omega) (fun k e => (hrow2.lt k e).1)
  have hb4 : Below w0.heap.size w0 w4 := hb3.grown hg4 hb3.size (fun k e => by cases e; exact h0B)
  have hk4 : KeepsWalks W w4 := ((hk2.trans (KeepsWalks.alloc _ _)).trans (KeepsWalks.of_grownBy hg3' (ownsRow_not_walk (hrow2.alloc _)))).trans (by rw [← hw4]; exact KeepsWalks.setCell _ _ _)
  clear hw4
  refine ⟨_, _, run_endRound none hL4, rfl, ⟨⟨_, (World.putObj_heap_other hBl).trans hv4, ?_⟩, World.putObj_heap_same hl4, (World.putObj_heap_other hDl).trans hK4, hb4.grown (grownBy_putObj _ _ _) hb4.size (fun k e => by cases e; exact h0l), by have := h.drawn; show w0.drawn ≤ w4.drawn; omega⟩, hk4.trans (KeepsWalks.putObj _ hL4 rfl)⟩
  have := hrow4.kept (grownBy_putObj w4 l (.loop { { apRec fn sv Bs D .ready none with state := .busy } with state := if (none : Option Code).isNone then .ready else .done, pending := none })) (ownsRow_ne hrow4 hL4 (fun cur e => by cases e))
  simpa using this
set_option maxRecDepth 100000 in
set_option maxHeartbeats 4000000 in
theorem appendSeq_in (F : Fence) (n : Nat) (h84 : F.fn 84) (hro : F.round = none) (hn : 2 ≤ n) (g : Nat) (lb : Array Value) (hFg : F.fn g) (eg : ∀ args w, (callFunc g args).run Tryz.prog w = .ok (.enter g args) w)
    (N : Nat) (hN : N ≤ maxLen) (hNb : N * 32 ≤ 140737488355328) (w : World) (hseq : GivesD F (n - 1) g lb N w) :
    CallsIn F n Tryz.prog 84 #[.slice none 0 0, .func (.func g) #[] lb] w fun e w' => ∃ (v : Value) (ss : List Ent), e = .returned v ∧ ss.length ≤ N ∧ w'.ownsRow w.heap.size 95 4 v ss.length (ss.flatMap encV) ∧ Below w.heap.size w w' ∧ w.drawn ≤ w'.drawn := by
  have h1 : 1 ≤ n := by omega
  refine callsIn_of_wp_marks Tryz.func84 rfl h84 ?_ hro
  simp only [Tryz.ntmps84, List.size_toArray, List.length_cons, List.length_nil, Nat.reduceAdd, Nat.reduceSub, Array.replicate_succ, Array.replicate_zero, List.push_toArray, List.append_toArray, List.nil_append, List.cons_append]
  gi_wp2
  refine wpIn_rangeFunc ?_
  intro fn hfn
  rw [hro]
  obtain ⟨W0, hW0⟩ : ∃ W0, w.alloc (.cells #[.slice none 0 0] 55) = W0 := ⟨_, rfl⟩
  have hs0 : W0.heap.size = w.heap.size + 1 := by rw [← hW0]; simp
  have hv0 : W0.heap[w.heap.size]? = some (.cells #[.slice none 0 0] 55 (0, 0)) := by rw [← hW0]; exact World.alloc_heap_new w _
  have hb0 : Below w.heap.size w W0 := by rw [← hW0]; exact (Below.refl _ w).alloc (Nat.le_refl _) _
  rw [hW0]
  obtain ⟨W1, hW1⟩ : ∃ W1, (W0.alloc (.deferred (some []))).alloc (.loop (apRec fn (.func (.func g) #[] lb) w.heap.size W0.heap.size .ready none)) = W1 := ⟨_, rfl⟩
  have hold : ∀ k, k < W0.heap.size → W1.heap[k]? = W0.heap[k]? := fun k hk => by
    rw [← hW1]; exact (Below.heap_alloc _ _ k (by simp; omega)).trans (Below.heap_alloc _ _ k hk)
  have hb1 : Below w.heap.size w W1 := by rw [← hW1]; exact (hb0.alloc hb0.size _).alloc (by have := hb0.size; simp; omega) _
  have hs1 : W1.heap.size = W0.heap.size + 2 := by rw [← hW1]; simp
  have hM : ApAt w fn (.func (.func g) #[] lb) w.heap.size (W0.heap.size + 1) W0.heap.size [] W1 :=
    ⟨⟨_, (hold w.heap.size (by omega)).trans hv0, ⟨rfl, .inl ⟨rfl, rfl⟩⟩⟩,
     by rw [← hW1]; have := World.alloc_heap_new (W0.alloc (.deferred (some []))) (.loop (apRec fn (.func (.func g) #[] lb) w.heap.size W0.heap.size .ready none)); rwa [World.size_alloc] at this,
     by rw [← hW1]; exact (Below.heap_alloc _ _ _ (by simp)).trans (World.alloc_heap_new W0 _), hb1, by rw [← hW1, ← hW0]; exact Nat.le_refl _⟩
  refine ⟨W0.heap.size + 1, [{ target := .collected W0.heap.size, args := #[] }], W1, { target := .fn (.func g) lb, args := #[.func (.yield (W0.heap.size + 1)) #[] #[]] }, W1, g,
    #[.func (.yield (W0.heap.size + 1)) #[] #[]] ++ lb, W1, ?_, ?_, ?_, ?_, fun _ => h1, ?_⟩
  · rw [← hW1]; exact run_enterLoop_outer _ _ _ _ _
  · simp [resolve, go_sem]
  · intro f' hf'; simp [Target.leads] at hf'; subst hf'; exact hFg
  · simp [invoke, go_sem, eg]
  · refine (hseq (W0.heap.size + 1) (ApAt w fn (.func (.func g) #[] lb) w.heap.size (W0.heap.size + 1) W0.heap.size) W1 hb1 (ap_abides _ _ _ _ _ _ _ hb1.size)
      (fun pre x W hJ hl => apYield F (n - 1 - 1) w fn hfn _ w.heap.size (W0.heap.size + 1) W0.heap.size (by omega) (by omega) (by omega) (Nat.le_refl _) (by omega) N hN hNb pre x W hJ hl) hM).mono ?_
    rintro e W2 ⟨⟨v0, rfl⟩, ss, hS, h2⟩
    obtain ⟨v, hv, hrow⟩ := h2.box
    have hdr := h2.drawn
    have hend := run_endLoop (P := Tryz.prog) h2.L (by simp [apRec])
    obtain ⟨W3, hW3⟩ : ∃ W3, W2.putObj (W0.heap.size + 1) (.loop { apRec fn (.func (.func g) #[] lb) w.heap.size W0.heap.size .ready none with state := .exhausted }) = W3 := ⟨_, rfl⟩
    have hd3 : W3.drawn = W2.drawn := by rw [← hW3]; rfl
    rw [hW3] at hend
    have hg3 : W2.grownBy W3 (some (W0.heap.size + 1)) := by rw [← hW3]; exact grownBy_putObj _ _ _
    have hv3 : W3.heap[w.heap.size]? = some (.cells #[v] 55 (0, 0)) := by rw [← hW3]; exact (World.putObj_heap_other (by omega)).trans hv
    have hK3 : W3.heap[W0.heap.size]? = some (.deferred (some [])) := by rw [← hW3]; exact (World.putObj_heap_other (by omega)).trans h2.K
    have hrow3 := hrow.kept hg3 (ownsRow_ne hrow h2.L (fun cur e => by cases e))
    have hb3 : Below w.heap.size w W3 := h2.below.grown hg3 h2.below.size (fun k e => by cases e; omega)
    obtain ⟨hc3, hf3⟩ := cell_of_box hv3
    clear hW3
    refine ⟨none, W3, hend, ?_⟩
    gi_wp2
    rw [← hs0]
    show LeavesInM _ _ _ _ _ _ _ _ _
    unfold LeavesInM
    refine ⟨by simp, .inl ⟨_, _, rfl, run_takeDeferred hK3, ?_⟩⟩
    unfold LeavesInM
    have hres := results_tmp (fn := Tryz.f84) (t := 4) rfl #[.slice none 0 0, .func (.func g) #[] lb, .pointer (some ⟨w.heap.size, 0, none⟩), undef, v, undef, .func (.func g) #[] lb, undef, undef, undef, undef, undef, v] Tryz.prog (W3.putObj W0.heap.size (.deferred none))
    refine ⟨_, hres, v, ss, rfl, hS, hrow3.kept (grownBy_putObj _ _ _) (ownsRow_ne hrow3 hK3 (fun cur e => by cases e)), hb3.grown (grownBy_putObj _ _ _) hb3.size (fun k e => by cases e; omega), by show w.drawn ≤ W3.drawn; omega⟩
theorem appendSeq_calls (w : World) (Bm b N clk : Nat) (es : Array MapEntry) (hes : MapOk N es clk) (hN : N ≤ maxLen) (hNb : N * 32 ≤ 140737488355328) (hm : w.cell? ⟨Bm, 0, none⟩ = some (.map (some b))) (hBm : Bm < w.heap.size) (hb : w.heap[b]? = some (.map es clk)) :
    Calls Tryz.prog 84 #[.slice none 0 0, .func (.func 85) #[] #[.pointer (some ⟨Bm, 0, none⟩)]] w fun e w' => ∃ (v : Value) (ss : List Ent), e = .returned v ∧ ss.length ≤ N ∧ w'.ownsRow w.heap.size 95 4 v ss.length (ss.flatMap encV) ∧ Below w.heap.size w w' ∧ w.drawn ≤ w'.drawn := by
  refine callsIn_wide.1 (appendSeq_in Fence.wide 10 trivial rfl (by omega) 85 #[.pointer (some ⟨Bm, 0, none⟩)] trivial (Go.K.enters_of Tryz.func85 rfl (by decide +kernel)) N hN hNb w ?_)
  intro l J W hW hJ hY h0
  exact values1 Fence.wide _ trivial rfl (by omega) l Bm b N clk es hes J hY W hJ ((hW.cell (p := ⟨Bm, 0, none⟩) hBm).trans hm) ((hW.block b (Array.getElem?_eq_some_iff.1 hb).1).trans hb) h0
end Go.Proofs.YtbibplkhhdomnaaGreat
namespace Go.Proofs.YtbibplkhhdomnaaGreat
open Go Go.K Go.RowKit
theorem run_ckey0 (em : Bool) (k : Int × Int) (w : World) (n : Nat) : (Instr.checkKey em (n + 1 + 1) 88 (keyV k)).run Tryz.prog w = .ok () w := by
  have u := run_underlying (P := Tryz.prog) Tryz.underlying88
  have u3 := run_underlying (P := Tryz.prog) Tryz.underlying3
  have a3 := Tryz.isAgg3
  unfold keyV
  simp [Instr.checkKey, u, u3, a3, part, Sem.run_bind, Result.andThen]
theorem run_ckey (em : Bool) (k : Int × Int) (w : World) : (Instr.checkKey em 10000 88 (keyV k)).run Tryz.prog w = .ok () w := run_ckey0 em k w 9998
theorem key_eq (k l : Int × Int) (w : World) : (Op.equal 88 (keyV k) (keyV l)).run Tryz.prog w = .ok (k.1 == l.1 && k.2 == l.2) w := by
  have hi : ∀ k : Int × Int, IsOnes (fun _ => none) [] [.int .i64 k.1, .int .i64 k.2] [.int .i64 k.1, .int .i64 k.2] := fun k => by
    unfold IsOnes
    refine ⟨_, _, rfl, rfl, by unfold V.Is; rfl, ?_⟩
    unfold IsOnes
    refine ⟨_, _, rfl, rfl, by unfold V.Is; rfl, ?_⟩
    unfold IsOnes; rfl
  have F := tt_ok.facts 88 (by decide)
  exact (equal_flat (P := Tryz.prog) (i := tt 88) (by decide) F (by decide) (hi k) (hi l) (b := k.1 == l.1 && k.2 == l.2) rfl (by simp [cellsEq]) w).1
theorem find_ask (k : Int × Int) (w : World) : ∀ (es : List MapEntry) (i : Nat), (∀ e ∈ es, ∃ l, e.key = keyV l) →
    (Instr.findAsking 88 (keyV k) es i).run Tryz.prog w = .ok none w ∨ ∃ j e, es[j]? = some e ∧ e.key = keyV k ∧ (Instr.findAsking 88 (keyV k) es i).run Tryz.prog w = .ok (some (i + j, e.val)) w
  | [], i, _ => .inl rfl
  | e :: es, i, h => by
    obtain ⟨l, hl⟩ := h e (List.mem_cons_self ..)
    have he := key_eq k l w
    unfold Instr.findAsking
    simp only [Sem.run_bind, hl, he, Result.andThen_ok]
    cases hb : (k.1 == l.1 && k.2 == l.2) with
    | true =>
      simp only [Bool.and_eq_true, beq_iff_eq] at hb
      refine .inr ⟨0, e, rfl, ?_, rfl⟩
      rw [hl]; unfold keyV; rw [hb.1, hb.2]
    | false =>
      rcases find_ask k w es (i + 1) (fun x hx => h x (List.mem_cons_of_mem _ hx)) with h1 | ⟨j, e', h1, h2, h3⟩
      · exact .inl h1
      · exact .inr ⟨j + 1, e', by simpa using h1, h2, by rw [show i + (j + 1) = i + 1 + j by omega]; exact h3⟩
theorem find_key (k : Int × Int) (w : World) (es : List MapEntry) (h : ∀ e ∈ es, ∃ l, e.key = keyV l) :
    (Instr.findKey 88 (keyV k) es).run Tryz.prog w = .ok none w ∨ ∃ j e, es[j]? = some e ∧ e.key = keyV k ∧ (Instr.findKey 88 (keyV k) es).run Tryz.prog w = .ok (some (j, e.val)) w := by
  have u := run_underlying (P := Tryz.prog) Tryz.underlying88
  unfold Instr.findKey
  simp only [Sem.run_bind, u, Result.andThen_ok]
  cases es with
  | nil => exact .inl rfl
  | cons e es =>
    obtain ⟨l, hl⟩ := h e (List.mem_cons_self ..)
    have hn : ∀ d, Instr.findNow (.struct d) (keyV k) (e :: es) 0 = none := fun d => by unfold Instr.findNow; rw [hl]; rfl
    rw [hn]
    have := find_ask k w (e :: es) 0 h
    simp only [Nat.zero_add] at this
    exact this
theorem run_lookup {n clk : Nat} {es : Array MapEntry} (hes : MapOk n es clk) (k : Int × Int) (w : World) (g : Nat) (hg : w.heap[g]? = some (.map es clk)) :
    ∃ v : Ent, (Instr.lookup 81 (.map (some g)) (keyV k) false).run Tryz.prog w = .ok (entV v) w := by
  have u := run_underlying (P := Tryz.prog) Tryz.underlying81
  have hgo := MapKept.run_getObj_map (P := Tryz.prog) hg
  unfold Instr.lookup
  simp only [Sem.run_bind, u, Result.andThen_ok, hgo, Sem.run_pure, run_ckey]
  rcases find_key k w es.toList (fun e he => (hes.ents e he).1) with h1 | ⟨j, e, h1, h2, h3⟩
  · refine ⟨⟨0, 0, 0, 0⟩, ?_⟩
    simp only [h1, Result.andThen_ok, Sem.run_bind, Tryz.zeroValue95, Sem.run_pure]
    rfl
  · obtain ⟨v, hv⟩ := (hes.ents e (List.mem_of_getElem? h1)).2.1
    refine ⟨v, ?_⟩
    simp only [h3, Result.andThen_ok, Sem.run_bind, Sem.run_pure, hv]
    rfl
theorem same_key (k : Int × Int) (n : Nat) : Instr.sameBits (n + 1) (keyV k) (keyV k) = true := by
  simp [keyV, Instr.sameBits]
theorem map_push {n clk : Nat} {es : Array MapEntry} (hes : MapOk n es clk) (k : Int × Int) (v : Ent) : MapOk (n + 1) (es.push { key := keyV k, val := entV v, born := clk }) (clk + 1) := by
  refine ⟨fun e he => ?_, ?_, ?_⟩
  · rw [Array.toList_push] at he
    rcases List.mem_append.1 he with he | he
    · obtain ⟨h1, h2, h3⟩ := hes.ents e he
      exact ⟨h1, h2, by omega⟩
    · rw [List.mem_singleton] at he
      subst he
      exact ⟨⟨k, rfl⟩, ⟨v, rfl⟩, by simp⟩
  · rw [Array.toList_push, List.map_append, List.nodup_append]
    refine ⟨hes.nodup, by simp, fun a ha b hb => ?_⟩
    obtain ⟨e, he, rfl⟩ := List.mem_map.1 ha
    have := (hes.ents e he).2.2
    simp only [List.map_cons, List.map_nil, List.mem_singleton] at hb
    omega
  · have := hes.size
    rw [Array.size_push]; omega
theorem map_modify {n clk : Nat} {es : Array MapEntry} (hes : MapOk n es clk) (i : Nat) (k : Int × Int) (v : Ent) : MapOk (n + 1) (es.modify i fun e => { e with key := keyV k, val := entV v }) clk := by
  have hb : (es.modify i fun e => { e with key := keyV k, val := entV v }).toList.map (·.born) = es.toList.map (·.born) := by
    rw [Array.toList_modify]
    refine List.ext_getElem? fun j => ?_
    rw [List.getElem?_map, List.getElem?_map, List.getElem?_modify]
    split
    · cases es.toList[j]? <;> rfl
    · cases es.toList[j]? <;> rfl
  refine ⟨fun e he => ?_, by rw [hb]; exact hes.nodup, by have := hes.size; rw [Array.size_modify]; omega⟩
  rw [Array.toList_modify] at he
  obtain ⟨j, hj, rfl⟩ := List.mem_iff_getElem.1 he
  rw [List.getElem_modify]
  have hj' : j < es.toList.length := by simpa using hj
  have h0 := hes.ents _ (List.getElem_mem hj')
  split
  · exact ⟨⟨k, rfl⟩, ⟨v, rfl⟩, h0.2.2⟩
  · exact h0
theorem run_update {n clk : Nat} {es : Array MapEntry} (hes : MapOk n es clk) (k : Int × Int) (v : Ent) (w : World) (g : Nat) (hg : w.heap[g]? = some (.map es clk)) :
    ∃ es' clk', (Instr.mapUpdate 81 (.map (some g)) (keyV k) (entV v)).run Tryz.prog w = .ok () (w.putObj g (.map es' clk')) ∧ MapOk (n + 1) es' clk' := by
  have u := run_underlying (P := Tryz.prog) Tryz.underlying81
  have hgo := MapKept.run_getObj_map (P := Tryz.prog) hg
  have hso : ∀ o, (setObj g o).run Tryz.prog w = .ok () (w.putObj g o) := fun o => MapKept.run_setObj_map o hg
  unfold Instr.mapUpdate
  simp only [Sem.run_bind, u, Result.andThen_ok, hgo, Sem.run_pure, run_ckey]
  rcases find_key k w es.toList (fun e he => (hes.ents e he).1) with h1 | ⟨j, e, h1, h2, h3⟩
  · refine ⟨_, _, ?_, map_push hes k v⟩
    simp only [h1, Result.andThen_ok, Sem.run_bind, hso]
  · refine ⟨_, _, ?_, map_modify hes j k v⟩
    have he : ((es[j]?).map (·.key)).getD (keyV k) = keyV k := by
      rw [← Array.getElem?_toList, h1]; exact h2
    simp only [h3, Result.andThen_ok, Sem.run_bind, he, Instr.keyThatStays, same_key k 9999, if_true, Sem.run_pure, hso]
end Go.Proofs.YtbibplkhhdomnaaGreat

/-
  A SECOND ENGINE, PART 01: values without addresses, states, what they say of a frame and a world. Plain Lean over the model; no program in sight.
-/
import Derived.Orders
import Derived.Below
import Derived.Laws.OwnMore
import Derived.Laws.MakeOwn
import Derived.Laws.Rows
import Derived.Laws.StructEq
import Derived.Deep.AppendSrc
set_option linter.all false
namespace Go.K
open Go Go.RowKit

/-- A value, without addresses: what is immutable is held whole, what is the run's own is named by a number. -/
inductive V where
  | bool (b : Bool)
  | int (k : IntKind) (n : Int)
  | str (s : ByteArray)
  | nilp
  | nilf
  | emp
  | sl (rows : List (List V))
  | pi (cells : List V) (off : Nat)
  | own (id ver k off : Nat)
  | rs (id ver lo hi : Nat)
  | fn (f : FuncId) (caps : List V)
  | agg (cs : List V)
  | tup (xs : List V)
  | cnd (b : Bool) (x : V)
  | un
  deriving Inhabited

/-- Where an own thing lies. -/
inductive Loc where
  | free
  | lies (ver g sz cap : Nat)
  | nil (ver : Nat)

/-- The immutable blocks that are known: their cells. -/
abbrev Ext := Nat → Option (Array Value)
def Ext.cell (E : Ext) (b o : Nat) : Option Value := (E b).bind (·[o]?)

def Loc.ptrOk (ver k off : Nat) (u : Value) : Option Loc → Prop
  | some (.lies v g sz _) => (ver < v ∧ u.oneCell' = true) ∨ (ver = v ∧ u = .pointer (some ⟨g, k * sz + off, none⟩))
  | some (.nil v) => ver < v ∧ u.oneCell' = true
  | _ => False
def Loc.slOk (ver lo hi : Nat) (u : Value) : Option Loc → Prop
  | some (.lies v g sz cap) => (ver < v ∧ u.oneCell' = true) ∨ (ver = v ∧ lo ≤ hi ∧ hi ≤ cap ∧ ∃ A, u = .slice A (hi - lo) (cap - lo) ∧ (lo < cap → A = some ⟨g, lo * sz, none⟩))
  | some (.nil v) => (ver < v ∧ u.oneCell' = true) ∨ (ver = v ∧ lo = 0 ∧ hi = 0 ∧ ∃ A, u = .slice A 0 0)
  | _ => False

/-- Is it a cell's value? -/
def V.one : V → Bool
  | .agg _ => false
  | .tup _ => false
  | .cnd _ _ => false
  | .un => false
  | _ => true

mutual
def V.Is (E : Ext) (L : List Loc) : V → Value → Prop
  | .bool b, u => u = .bool b
  | .int k n, u => u = .int k n
  | .str s, u => u = .string s
  | .nilp, u => u = .pointer none
  | .nilf, u => u = .nilFunc
  | .emp, u => ∃ A, u = .slice A 0 0
  | .sl rows, u => ∃ A cap, u = .slice A rows.length cap ∧ rows.length ≤ cap ∧ (rows = [] ∨ ∃ b o sz, A = some ⟨b, o, none⟩ ∧ RowsAt E b sz o rows)
  | .pi cells off, u => ∃ b o, u = .pointer (some ⟨b, o + off, none⟩) ∧ CellsAt E b o cells
  | .own id ver k off, u => Loc.ptrOk ver k off u L[id]?
  | .rs id ver lo hi, u => Loc.slOk ver lo hi u L[id]?
  | .fn f caps, u => ∃ vs : List Value, u = .func (.func f) #[] vs.toArray ∧ IsAll E L caps vs
  | .agg cs, u => ∃ vs : List Value, u = .agg vs.toArray ∧ IsOnes E L cs vs
  | .tup xs, u => ∃ vs : List Value, u = .tuple vs.toArray ∧ IsAll E L xs vs
  | .cnd b y, u => (b = true → V.Is E L y u) ∧ (b = false → u = undef)
  | .un, _ => True
def IsAll (E : Ext) (L : List Loc) : List V → List Value → Prop
  | [], vs => vs = []
  | x :: xs, vs => ∃ v r, vs = v :: r ∧ V.Is E L x v ∧ IsAll E L xs r
/-- Values of cells. -/
def IsOnes (E : Ext) (L : List Loc) : List V → List Value → Prop
  | [], vs => vs = []
  | x :: xs, vs => ∃ v r, vs = v :: r ∧ x.one = true ∧ V.Is E L x v ∧ IsOnes E L xs r
def CellsAt (E : Ext) (b : Nat) (o : Nat) : List V → Prop
  | [] => True
  | c :: r => c.one = true ∧ (∃ x, E.cell b o = some x ∧ V.Is E [] c x) ∧ CellsAt E b (o + 1) r
def RowsAt (E : Ext) (b sz : Nat) (o : Nat) : List (List V) → Prop
  | [] => True
  | r :: rs => r.length = sz ∧ CellsAt E b o r ∧ RowsAt E b sz (o + sz) rs
end

/-- E' has all that E has. -/
def Ext.le (E E' : Ext) : Prop := ∀ b cs, E b = some cs → E' b = some cs
theorem Ext.le_refl (E : Ext) : E.le E := fun _ _ h => h
theorem Ext.le_trans {A B C : Ext} (h : A.le B) (k : B.le C) : A.le C := fun b cs e => k b cs (h b cs e)
theorem Ext.le_cell {E E' : Ext} (h : E.le E') {b o : Nat} {x : Value} (e : E.cell b o = some x) : E'.cell b o = some x := by
  unfold Ext.cell at *
  cases hb : E b with
  | none => rw [hb] at e; cases e
  | some cs => rw [h b cs hb]; rw [hb] at e; exact e

/-- How the place of an own thing may change. -/
def Loc.to : Loc → Loc → Prop
  | .free, _ => True
  | .lies v g sz cap, .lies v' g' sz' cap' => v < v' ∨ (v' = v ∧ g' = g ∧ sz' = sz ∧ cap' = cap)
  | .lies v _ _ _, .nil v' => v < v'
  | .nil v, .lies v' _ _ _ => v < v'
  | .nil v, .nil v' => v ≤ v'
  | _, .free => False
theorem Loc.to_refl (l : Loc) : l.to l := by cases l <;> simp [Loc.to]
theorem Loc.to_trans {a b c : Loc} (h : a.to b) (k : b.to c) : a.to c := by
  cases a <;> cases b <;> cases c <;> simp only [Loc.to] at * <;> first | trivial | omega | skip
  all_goals first
    | exact k.elim
    | exact h.elim
    | (rcases h with h | ⟨rfl, rfl, rfl, rfl⟩ <;> rcases k with k | ⟨rfl, rfl, rfl, rfl⟩ <;> first | (left; omega) | (right; exact ⟨rfl, rfl, rfl, rfl⟩))
    | (rcases h with h | ⟨rfl, rfl, rfl, rfl⟩ <;> omega)
    | (rcases k with k | ⟨rfl, rfl, rfl, rfl⟩ <;> omega)
def Locs.to (a b : List Loc) : Prop := ∀ (i : Nat) (l : Loc), a[i]? = some l → ∃ l' : Loc, b[i]? = some l' ∧ l.to l'
theorem Locs.to_refl (a : List Loc) : Locs.to a a := fun _ l h => ⟨l, h, Loc.to_refl l⟩
theorem Locs.to_trans {a b c : List Loc} (h : Locs.to a b) (k : Locs.to b c) : Locs.to a c := fun i l hl => by
  obtain ⟨l', h1, h2⟩ := h i l hl
  obtain ⟨l'', h3, h4⟩ := k i l' h1
  exact ⟨l'', h3, Loc.to_trans h2 h4⟩
theorem Locs.nil_to (b : List Loc) : Locs.to [] b := fun i l h => by simp at h

theorem ptrOk_mono {a b : List Loc} (h : Locs.to a b) {id ver k off : Nat} {u : Value} (hh : Loc.ptrOk ver k off u a[id]?) : Loc.ptrOk ver k off u b[id]? := by
  cases ha : a[id]? with
  | none => rw [ha] at hh; exact hh.elim
  | some l =>
    obtain ⟨l', hb, ht⟩ := h id l ha
    rw [ha] at hh; rw [hb]
    cases l with
    | free => exact hh.elim
    | lies v g sz cap =>
      cases l' with
      | free => exact ht.elim
      | lies v' g' sz' cap' =>
        simp only [Loc.ptrOk, Loc.to] at *
        rcases ht with ht | ⟨rfl, rfl, rfl, rfl⟩
        · rcases hh with ⟨h1, h2⟩ | ⟨h1, h2⟩
          · exact .inl ⟨by omega, h2⟩
          · exact .inl ⟨by omega, by rw [h2]; rfl⟩
        · exact hh
      | nil v' =>
        simp only [Loc.ptrOk, Loc.to] at *
        rcases hh with ⟨h1, h2⟩ | ⟨h1, h2⟩
        · exact ⟨by omega, h2⟩
        · exact ⟨by omega, by rw [h2]; rfl⟩
    | nil v =>
      cases l' with
      | free => exact ht.elim
      | lies v' g' sz' cap' => simp only [Loc.ptrOk, Loc.to] at *; exact .inl ⟨by omega, hh.2⟩
      | nil v' => simp only [Loc.ptrOk, Loc.to] at *; exact ⟨by omega, hh.2⟩
theorem slOk_mono {a b : List Loc} (h : Locs.to a b) {id ver lo hi : Nat} {u : Value} (hh : Loc.slOk ver lo hi u a[id]?) : Loc.slOk ver lo hi u b[id]? := by
  cases ha : a[id]? with
  | none => rw [ha] at hh; exact hh.elim
  | some l =>
    obtain ⟨l', hb, ht⟩ := h id l ha
    rw [ha] at hh; rw [hb]
    have one : ∀ {A : Option Addr} {n c : Nat}, (Value.slice A n c).oneCell' = true := rfl
    cases l with
    | free => exact hh.elim
    | lies v g sz cap =>
      cases l' with
      | free => exact ht.elim
      | lies v' g' sz' cap' =>
        simp only [Loc.slOk, Loc.to] at *
        rcases ht with ht | ⟨rfl, rfl, rfl, rfl⟩
        · rcases hh with ⟨h1, h2⟩ | ⟨h1, _, _, A, h2, _⟩
          · exact .inl ⟨by omega, h2⟩
          · exact .inl ⟨by omega, by rw [h2]; rfl⟩
        · exact hh
      | nil v' =>
        simp only [Loc.slOk, Loc.to] at *
        rcases hh with ⟨h1, h2⟩ | ⟨h1, _, _, A, h2, _⟩
        · exact .inl ⟨by omega, h2⟩
        · exact .inl ⟨by omega, by rw [h2]; rfl⟩
    | nil v =>
      cases l' with
      | free => exact ht.elim
      | lies v' g' sz' cap' =>
        simp only [Loc.slOk, Loc.to] at *
        rcases hh with ⟨h1, h2⟩ | ⟨h1, _, _, A, h2⟩
        · exact .inl ⟨by omega, h2⟩
        · exact .inl ⟨by omega, by rw [h2]; rfl⟩
      | nil v' =>
        simp only [Loc.slOk, Loc.to] at *
        rcases hh with ⟨h1, h2⟩ | ⟨h1, h3, h4, A, h2⟩
        · exact .inl ⟨by omega, h2⟩
        · rcases Nat.lt_or_ge ver v' with h5 | h5
          · exact .inl ⟨h5, by rw [h2]; rfl⟩
          · exact .inr ⟨by omega, h3, h4, A, h2⟩

section
variable {E E' : Ext} (hE : E.le E')
include hE
mutual
theorem V.Is.mono {a b : List Loc} (h : Locs.to a b) : ∀ {x : V} {u : Value}, x.Is E a u → x.Is E' b u
  | .bool _, _, hh => by unfold V.Is at hh ⊢; exact hh
  | .int _ _, _, hh => by unfold V.Is at hh ⊢; exact hh
  | .str _, _, hh => by unfold V.Is at hh ⊢; exact hh
  | .nilp, _, hh => by unfold V.Is at hh ⊢; exact hh
  | .nilf, _, hh => by unfold V.Is at hh ⊢; exact hh
  | .emp, _, hh => by unfold V.Is at hh ⊢; exact hh
  | .sl rows, _, hh => by
    unfold V.Is at hh ⊢
    obtain ⟨A, cap, h1, h2, h3⟩ := hh
    refine ⟨A, cap, h1, h2, h3.imp_right fun ⟨b, o, sz, h4, h5⟩ => ⟨b, o, sz, h4, RowsAt.mono h5⟩⟩
  | .pi cells off, _, hh => by
    unfold V.Is at hh ⊢
    obtain ⟨b, o, h1, h2⟩ := hh
    exact ⟨b, o, h1, CellsAt.mono h2⟩
  | .own _ _ _ _, _, hh => by unfold V.Is at hh ⊢; exact ptrOk_mono h hh
  | .rs _ _ _ _, _, hh => by unfold V.Is at hh ⊢; exact slOk_mono h hh
  | .fn _ _, _, hh => by unfold V.Is at hh ⊢; obtain ⟨vs, e, hv⟩ := hh; exact ⟨vs, e, IsAll.mono h hv⟩
  | .agg _, _, hh => by unfold V.Is at hh ⊢; obtain ⟨vs, e, hv⟩ := hh; exact ⟨vs, e, IsOnes.mono h hv⟩
  | .tup _, _, hh => by unfold V.Is at hh ⊢; obtain ⟨vs, e, hv⟩ := hh; exact ⟨vs, e, IsAll.mono h hv⟩
  | .cnd _ _, _, hh => by unfold V.Is at hh ⊢; exact ⟨fun hb => V.Is.mono h (hh.1 hb), hh.2⟩
  | .un, _, _ => by unfold V.Is; trivial
theorem IsAll.mono {a b : List Loc} (h : Locs.to a b) : ∀ {xs : List V} {vs : List Value}, IsAll E a xs vs → IsAll E' b xs vs
  | [], _, hh => by unfold IsAll at hh ⊢; exact hh
  | _ :: _, _, hh => by unfold IsAll at hh ⊢; obtain ⟨v, r, e, hx, hr⟩ := hh; exact ⟨v, r, e, V.Is.mono h hx, IsAll.mono h hr⟩
theorem IsOnes.mono {a b : List Loc} (h : Locs.to a b) : ∀ {xs : List V} {vs : List Value}, IsOnes E a xs vs → IsOnes E' b xs vs
  | [], _, hh => by unfold IsOnes at hh ⊢; exact hh
  | _ :: _, _, hh => by unfold IsOnes at hh ⊢; obtain ⟨v, r, e, h1, hx, hr⟩ := hh; exact ⟨v, r, e, h1, V.Is.mono h hx, IsOnes.mono h hr⟩
theorem CellsAt.mono {b : Nat} : ∀ {o : Nat} {xs : List V}, CellsAt E b o xs → CellsAt E' b o xs
  | _, [], _ => by unfold CellsAt; trivial
  | o, c :: r, hh => by
    unfold CellsAt at hh ⊢
    obtain ⟨h1, ⟨x, h2, h3⟩, h4⟩ := hh
    exact ⟨h1, ⟨x, Ext.le_cell hE h2, V.Is.mono (Locs.to_refl []) h3⟩, CellsAt.mono h4⟩
theorem RowsAt.mono {b sz : Nat} : ∀ {o : Nat} {rs : List (List V)}, RowsAt E b sz o rs → RowsAt E' b sz o rs
  | _, [], _ => by unfold RowsAt; trivial
  | o, r :: rs, hh => by
    unfold RowsAt at hh ⊢
    exact ⟨hh.1, CellsAt.mono hh.2.1, RowsAt.mono hh.2.2⟩
end
end

theorem V.Is.one {E : Ext} {L : List Loc} {x : V} {u : Value} (h : x.Is E L u) (h1 : x.one = true) : u.oneCell' = true := by
  cases x with
  | agg _ => cases h1
  | tup _ => cases h1
  | cnd _ _ => cases h1
  | un => cases h1
  | bool _ => unfold V.Is at h; subst h; rfl
  | int _ _ => unfold V.Is at h; subst h; rfl
  | str _ => unfold V.Is at h; subst h; rfl
  | nilp => unfold V.Is at h; subst h; rfl
  | nilf => unfold V.Is at h; subst h; rfl
  | emp => unfold V.Is at h; obtain ⟨A, rfl⟩ := h; rfl
  | sl _ => unfold V.Is at h; obtain ⟨A, c, rfl, _⟩ := h; rfl
  | pi _ _ => unfold V.Is at h; obtain ⟨A, c, rfl, _⟩ := h; rfl
  | fn _ _ => unfold V.Is at h; obtain ⟨A, rfl, _⟩ := h; rfl
  | own id ver k off =>
    unfold V.Is at h
    cases hl : L[id]? with
    | none => rw [hl] at h; exact h.elim
    | some l =>
      rw [hl] at h
      cases l with
      | free => exact h.elim
      | lies v g sz cap => rcases h with ⟨_, h⟩ | ⟨_, rfl⟩ <;> first | exact h | rfl
      | nil v => exact h.2
  | rs id ver lo hi =>
    unfold V.Is at h
    cases hl : L[id]? with
    | none => rw [hl] at h; exact h.elim
    | some l =>
      rw [hl] at h
      cases l with
      | free => exact h.elim
      | lies v g sz cap => rcases h with ⟨_, h⟩ | ⟨_, _, _, A, rfl, _⟩ <;> first | exact h | rfl
      | nil v => rcases h with ⟨_, h⟩ | ⟨_, _, _, A, rfl⟩ <;> first | exact h | rfl

/-- The world has the immutable blocks. -/
def Ext.In (E : Ext) (w : World) : Prop := ∀ b cs, E b = some cs → ∃ t fr, w.heap[b]? = some (.cells cs t fr)
theorem Ext.In.cell {E : Ext} {w : World} (h : E.In w) {b o : Nat} {x : Value} (e : E.cell b o = some x) : w.cell? ⟨b, o, none⟩ = some x := by
  unfold Ext.cell at e
  cases hb : E b with
  | none => rw [hb] at e; cases e
  | some cs =>
    rw [hb] at e
    obtain ⟨t, fr, hw⟩ := h b cs hb
    simp only [World.cell?, hw]
    simpa using e
theorem Ext.In.lt {E : Ext} {w : World} (h : E.In w) {b : Nat} {cs : Array Value} (e : E b = some cs) : b < w.heap.size := by
  obtain ⟨t, fr, hw⟩ := h b cs e
  rcases Nat.lt_or_ge b w.heap.size with hl | hl
  · exact hl
  · rw [Array.getElem?_eq_none hl] at hw; cases hw

inductive Own where
  | free
  | gone
  | blk (ty : TypeId) (ver sz : Nat) (rows : List (List V))
  | froz (ty : TypeId) (ver sz : Nat) (rows : List (List V))
  deriving Inhabited

/-- The cells of an own block, row by row. -/
def OwnRows (E : Ext) (L : List Loc) (cur : Array Value) (sz : Nat) (rows : List (List V)) : Prop :=
  ∀ k row, rows[k]? = some row → row.length = sz ∧ ∀ j c, row[j]? = some c → c.one = true ∧ ∃ x, cur[k * sz + j]? = some x ∧ c.Is E L x

/-- What an own thing says of the world. -/
def Own.Ok (B : Nat) (E : Ext) (L : List Loc) (w : World) : Own → Loc → Prop
  | .free, l => l = .free
  | .gone, _ => True
  | .blk ty ver sz rows, .lies v g sz' cap => v = ver ∧ sz' = sz ∧ 0 < sz ∧ B ≤ g ∧ E g = none ∧ cap ≤ maxLen ∧ rows.length ≤ cap ∧ 0 < cap ∧
      ∃ cur, w.heap[g]? = some (.cells cur ty (0, 0)) ∧ cur.size = cap * sz ∧ OwnRows E L cur sz rows
  | .blk _ ver sz rows, .nil v => v = ver ∧ rows = [] ∧ 0 < sz
  | .froz _ ver sz rows, .lies v g sz' cap => v = ver ∧ sz' = sz ∧ rows.length ≤ cap ∧ RowsAt E g sz 0 rows
  | .froz _ ver _ rows, .nil v => v = ver ∧ rows = []
  | _, _ => False

/-- The block that an own thing lies in. -/
def Own.at? : Own → Loc → Option Nat
  | .blk _ _ _ _, .lies _ g _ _ => some g
  | _, _ => none

structure St where
  n : Nat
  tm : List (Nat × V)
  ow : List Own

def lk : List (Nat × V) → Nat → V
  | [], _ => .un
  | (j, v) :: r, k => if j = k then v else lk r k

structure RepE (B : Nat) (w0 : World) (E0 E : Ext) (L0 L : List Loc) (s : St) (a : Act) (w : World) : Prop where
  defers : a.defers = []
  le : E0.le E
  low : ∀ b, b < B → E b = E0 b
  inn : E.In w
  below : Below B w0 w
  base : B ≤ w.heap.size
  lto : Locs.to L0 L
  len : L.length = s.ow.length
  size : a.tmps.size = s.n
  tmps : ∀ k, (lk s.tm k).Is E L (a.tmps.getD k undef)
  owns : ∀ (id : Nat) (o : Own) (l : Loc), s.ow[id]? = some o → L[id]? = some l → o.Ok B E L w l
  apart : ∀ (i j : Nat) (o o' : Own) (l l' : Loc) (g : Nat), i ≠ j → s.ow[i]? = some o → L[i]? = some l → s.ow[j]? = some o' → L[j]? = some l' → o.at? l = some g → o'.at? l' ≠ some g

def Rep (B : Nat) (w0 : World) (E0 : Ext) (L0 : List Loc) (s : St) (a : Act) (w : World) : Prop := ∃ E L, RepE B w0 E0 E L0 L s a w

/-- From any frame and world that the state describes, the code comes to an exit and a state of Q; the first m things are the caller's. -/
def EV (P : Program) (m : Nat) (c : Code) (Q : Exit → St → Prop) (s : St) : Prop :=
  ∀ B w0 E0 L0 a w, L0.length ≤ m → Rep B w0 E0 L0 s a w → c.wp P (fun e a' w' => ∃ s', Q e s' ∧ Rep B w0 E0 L0 s' a' w') a w

end Go.K

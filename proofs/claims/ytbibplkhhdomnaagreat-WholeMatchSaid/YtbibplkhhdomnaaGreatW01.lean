import Derived.Orders
import Derived.Below
import Derived.Laws.OwnMore
import Derived.Laws.MakeOwn
import Derived.Laws.Rows
import Derived.Laws.StructEq
import Derived.Deep.AppendSrc
set_option linter.all false
namespace Go.K
open Go Go.RowKit
theorem ask_drawn {α : Type} : ∀ (x : Ask α) (w : World), w.drawn ≤ (w.ask x).2.drawn
  | .done a, w => Nat.le_refl _
  | .ask what range k, w => by
    unfold World.ask
    simp only
    split
    · exact ask_drawn _ w
    · refine Nat.le_trans ?_ (ask_drawn _ _)
      exact Nat.le_succ _
theorem sys_drawn (w : World) (c : Sys) : w.drawn ≤ (w.sys c).2.drawn := by
  unfold World.sys
  have h := ask_drawn (Kernel.perform c w.os) w
  split
  · exact Nat.le_refl _
  · rename_i r os w' _ heq
    rw [heq] at h
    exact h
theorem farStore_drawn {p : Program} {w w' : World} {a : Addr} {v : Value} {at_ : Bool} {l : List Addr} (h : w.farStore p a v at_ = .ok (w', l)) : w'.drawn = w.drawn := by
  unfold World.farStore at h
  split at h
  · split at h
    · rename_i r hr
      injection h with h
      subst h
      unfold World.viewStore at hr
      simp only [bind, Except.bind, pure, Except.pure] at hr
      repeat' split at hr
      all_goals first | (cases hr; done) | (injection hr with hr; injection hr with hr _; subst hr; rfl)
    · cases h
  · cases h
theorem run_drawn {P : Program} {α : Type} : ∀ (s : Sem α) {w w' : World} {a : α}, s.run P w = .ok a w' → w.drawn ≤ w'.drawn
  | .pure a, w, w', b, h => by simp only [Sem.run, Result.ok.injEq] at h; rw [h.2]; exact Nat.le_refl _
  | .load m a k, w, w', b, h => by
    unfold Sem.run at h
    split at h
    · exact run_drawn _ h
    · split at h
      · exact run_drawn _ h
      · cases h
  | .store m a v k, w, w', b, h => by
    have key : ∀ (v : Value) (X : Halt), (match w.cell? a with | some _ => if w.frozen? a then Result.halt X w else k.run P (w.setCell a v) | none => match w.farStore P a v (m == Mode.atomic) with | .ok (w, _) => k.run P w | .error h => .halt h w) = .ok b w' → w.drawn ≤ w'.drawn := by
      intro v X h
      split at h
      · split at h
        · cases h
        · show (w.setCell a v).drawn ≤ w'.drawn
          exact run_drawn k h
      · split at h
        · rename_i heq
          have h1 := farStore_drawn heq
          have h2 := run_drawn k h
          omega
        · cases h
    cases v <;> first | exact key _ _ h | (simp only [Sem.run] at h; cases h)
  | .new o k, w, w', b, h => by
    unfold Sem.run at h
    show (World.mk (w.heap.push o) w.tape w.drawn w.os w.output).drawn ≤ w'.drawn
    exact run_drawn _ h
  | .shape r k, w, w', b, h => by unfold Sem.run at h; exact run_drawn _ h
  | .freeze a n k, w, w', b, h => by
    unfold Sem.run at h
    have := run_drawn k h
    have e : (w.freeze a n).drawn = w.drawn := by unfold World.freeze; split <;> rfl
    omega
  | .frozen a k, w, w', b, h => by unfold Sem.run at h; exact run_drawn _ h
  | .getObj r k, w, w', b, h => by
    unfold Sem.run at h
    split at h
    · cases h
    · exact run_drawn _ h
    · cases h
  | .setObj r o k, w, w', b, h => by
    unfold Sem.run at h
    split at h
    · cases h
    · show (World.mk (w.heap.setIfInBounds r o) w.tape w.drawn w.os w.output).drawn ≤ w'.drawn
      exact run_drawn k h
    · cases h
  | .choose q k, w, w', b, h => by
    unfold Sem.run at h
    split at h
    · exact run_drawn _ h
    · refine Nat.le_trans ?_ (run_drawn _ h)
      exact Nat.le_succ _
  | .sys c k, w, w', b, h => by
    unfold Sem.run at h
    exact Nat.le_trans (sys_drawn w c) (run_drawn _ h)
  | .program k, w, w', b, h => by unfold Sem.run at h; exact run_drawn _ h
  | .mark m k, w, w', b, h => by unfold Sem.run at h; exact run_drawn k h
  | .halt x, w, w', b, h => by unfold Sem.run at h; cases h
inductive V where
  | bool (b : Bool)
  | int (k : IntKind) (n : Int)
  | str (s : ByteArray)
  | nilp
  | nilf
  | emp
  | sl (rows : List (List V))
  | pi (cells : List V) (off : Nat)
  | own (id ver k off : Nat)
  | rs (id ver lo hi : Nat)
  | mp (id : Nat)
  | fn (f : FuncId) (caps : List V)
  | agg (cs : List V)
  | tup (xs : List V)
  | cnd (b : Bool) (x : V)
  | un
  deriving Inhabited
inductive Loc where
  | free
  | lies (ver g sz cap : Nat)
  | nil (ver : Nat)
abbrev Ext := Nat → Option (Array Value)
def Ext.cell (E : Ext) (b o : Nat) : Option Value := (E b).bind (·[o]?)
def Loc.ptrOk (ver k off : Nat) (u : Value) : Option Loc → Prop
  | some (.lies v g sz _) => (ver < v ∧ u.oneCell' = true) ∨ (ver = v ∧ u = .pointer (some ⟨g, k * sz + off, none⟩))
  | some (.nil v) => ver < v ∧ u.oneCell' = true
  | _ => False
def Loc.slOk (ver lo hi : Nat) (u : Value) : Option Loc → Prop
  | some (.lies v g sz cap) => (ver < v ∧ u.oneCell' = true) ∨ (ver = v ∧ lo ≤ hi ∧ hi ≤ cap ∧ ∃ A, u = .slice A (hi - lo) (cap - lo) ∧ (lo < cap → A = some ⟨g, lo * sz, none⟩))
  | some (.nil v) => (ver < v ∧ u.oneCell' = true) ∨ (ver = v ∧ lo = 0 ∧ hi = 0 ∧ ∃ A, u = .slice A 0 0)
  | _ => False
def Loc.mpOk (u : Value) : Option Loc → Prop
  | some (.lies v g _ _) => (0 < v ∧ u.oneCell' = true) ∨ (v = 0 ∧ u = .map (some g))
  | some (.nil v) => 0 < v ∧ u.oneCell' = true
  | _ => False
def V.one : V → Bool
  | .agg _ => false
  | .tup _ => false
  | .cnd _ _ => false
  | .un => false
  | _ => true
mutual
def V.Is (E : Ext) (L : List Loc) : V → Value → Prop
  | .bool b, u => u = .bool b
  | .int k n, u => u = .int k n
  | .str s, u => u = .string s
  | .nilp, u => u = .pointer none
  | .nilf, u => u = .nilFunc
  | .emp, u => ∃ A, u = .slice A 0 0
  | .sl rows, u => ∃ A cap, u = .slice A rows.length cap ∧ rows.length ≤ cap ∧ (rows = [] ∨ ∃ b o sz, A = some ⟨b, o, none⟩ ∧ RowsAt E b sz o rows)
  | .pi cells off, u => ∃ b o, u = .pointer (some ⟨b, o + off, none⟩) ∧ CellsAt E b o cells
  | .own id ver k off, u => Loc.ptrOk ver k off u L[id]?
  | .rs id ver lo hi, u => Loc.slOk ver lo hi u L[id]?
  | .mp id, u => Loc.mpOk u L[id]?
  | .fn f caps, u => ∃ vs : List Value, u = .func (.func f) #[] vs.toArray ∧ IsAll E L caps vs
  | .agg cs, u => ∃ vs : List Value, u = .agg vs.toArray ∧ IsOnes E L cs vs
  | .tup xs, u => ∃ vs : List Value, u = .tuple vs.toArray ∧ IsAll E L xs vs
  | .cnd b y, u => (b = true → V.Is E L y u) ∧ (b = false → u = undef)
  | .un, _ => True
def IsAll (E : Ext) (L : List Loc) : List V → List Value → Prop
  | [], vs => vs = []
  | x :: xs, vs => ∃ v r, vs = v :: r ∧ V.Is E L x v ∧ IsAll E L xs r
def IsOnes (E : Ext) (L : List Loc) : List V → List Value → Prop
  | [], vs => vs = []
  | x :: xs, vs => ∃ v r, vs = v :: r ∧ x.one = true ∧ V.Is E L x v ∧ IsOnes E L xs r
def CellsAt (E : Ext) (b : Nat) (o : Nat) : List V → Prop
  | [] => True
  | c :: r => c.one = true ∧ (∃ x, E.cell b o = some x ∧ V.Is E [] c x) ∧ CellsAt E b (o + 1) r
def RowsAt (E : Ext) (b sz : Nat) (o : Nat) : List (List V) → Prop
  | [] => True
  | r :: rs => r.length = sz ∧ CellsAt E b o r ∧ RowsAt E b sz (o + sz) rs
end
def Ext.le (E E' : Ext) : Prop := ∀ b cs, E b = some cs → E' b = some cs
theorem Ext.le_refl (E : Ext) : E.le E := fun _ _ h => h
theorem Ext.le_trans {A B C : Ext} (h : A.le B) (k : B.le C) : A.le C := fun b cs e => k b cs (h b cs e)
theorem Ext.le_cell {E E' : Ext} (h : E.le E') {b o : Nat} {x : Value} (e : E.cell b o = some x) : E'.cell b o = some x := by
  unfold Ext.cell at *
  cases hb : E b with
  | none => rw [hb] at e; cases e
  | some cs => rw [h b cs hb]; rw [hb] at e; exact e
def Loc.to : Loc → Loc → Prop
  | .free, _ => True
  | .lies v g sz cap, .lies v' g' sz' cap' => v < v' ∨ (v' = v ∧ g' = g ∧ sz' = sz ∧ cap' = cap)
  | .lies v _ _ _, .nil v' => v < v'
  | .nil v, .lies v' _ _ _ => v < v'
  | .nil v, .nil v' => v ≤ v'
  | _, .free => False
theorem Loc.to_refl (l : Loc) : l.to l := by cases l <;> simp [Loc.to]
theorem Loc.to_trans {a b c : Loc} (h : a.to b) (k : b.to c) : a.to c := by
  cases a <;> cases b <;> cases c <;> simp only [Loc.to] at * <;> first | trivial | omega | skip
  all_goals first
    | exact k.elim
    | exact h.elim
    | (rcases h with h | ⟨rfl, rfl, rfl, rfl⟩ <;> rcases k with k | ⟨rfl, rfl, rfl, rfl⟩ <;> first | (left; omega) | (right; exact ⟨rfl, rfl, rfl, rfl⟩))
    | (rcases h with h | ⟨rfl, rfl, rfl, rfl⟩ <;> omega)
    | (rcases k with k | ⟨rfl, rfl, rfl, rfl⟩ <;> omega)
def Locs.to (a b : List Loc) : Prop := ∀ (i : Nat) (l : Loc), a[i]? = some l → ∃ l' : Loc, b[i]? = some l' ∧ l.to l'
theorem Locs.to_refl (a : List Loc) : Locs.to a a := fun _ l h => ⟨l, h, Loc.to_refl l⟩
theorem Locs.to_trans {a b c : List Loc} (h : Locs.to a b) (k : Locs.to b c) : Locs.to a c := fun i l hl => by
  obtain ⟨l', h1, h2⟩ := h i l hl
  obtain ⟨l'', h3, h4⟩ := k i l' h1
  exact ⟨l'', h3, Loc.to_trans h2 h4⟩
theorem Locs.nil_to (b : List Loc) : Locs.to [] b := fun i l h => by simp at h
theorem ptrOk_mono {a b : List Loc} (h : Locs.to a b) {id ver k off : Nat} {u : Value} (hh : Loc.ptrOk ver k off u a[id]?) : Loc.ptrOk ver k off u b[id]? := by
  cases ha : a[id]? with
  | none => rw [ha] at hh; exact hh.elim
  | some l =>
    obtain ⟨l', hb, ht⟩ := h id l ha
    rw [ha] at hh; rw [hb]
    cases l with
    | free => exact hh.elim
    | lies v g sz cap =>
      cases l' with
      | free => exact ht.elim
      | lies v' g' sz' cap' =>
        simp only [Loc.ptrOk, Loc.to] at *
        rcases ht with ht | ⟨rfl, rfl, rfl, rfl⟩
        · rcases hh with ⟨h1, h2⟩ | ⟨h1, h2⟩
          · exact .inl ⟨by omega, h2⟩
          · exact .inl ⟨by omega, by rw [h2]; rfl⟩
        · exact hh
      | nil v' =>
        simp only [Loc.ptrOk, Loc.to] at *
        rcases hh with ⟨h1, h2⟩ | ⟨h1, h2⟩
        · exact ⟨by omega, h2⟩
        · exact ⟨by omega, by rw [h2]; rfl⟩
    | nil v =>
      cases l' with
      | free => exact ht.elim
      | lies v' g' sz' cap' => simp only [Loc.ptrOk, Loc.to] at *; exact .inl ⟨by omega, hh.2⟩
      | nil v' => simp only [Loc.ptrOk, Loc.to] at *; exact ⟨by omega, hh.2⟩
theorem slOk_mono {a b : List Loc} (h : Locs.to a b) {id ver lo hi : Nat} {u : Value} (hh : Loc.slOk ver lo hi u a[id]?) : Loc.slOk ver lo hi u b[id]? := by
  cases ha : a[id]? with
  | none => rw [ha] at hh; exact hh.elim
  | some l =>
    obtain ⟨l', hb, ht⟩ := h id l ha
    rw [ha] at hh; rw [hb]
    have one : ∀ {A : Option Addr} {n c : Nat}, (Value.slice A n c).oneCell' = true := rfl
    cases l with
    | free => exact hh.elim
    | lies v g sz cap =>
      cases l' with
      | free => exact ht.elim
      | lies v' g' sz' cap' =>
        simp only [Loc.slOk, Loc.to] at *
        rcases ht with ht | ⟨rfl, rfl, rfl, rfl⟩
        · rcases hh with ⟨h1, h2⟩ | ⟨h1, _, _, A, h2, _⟩
          · exact .inl ⟨by omega, h2⟩
          · exact .inl ⟨by omega, by rw [h2]; rfl⟩
        · exact hh
      | nil v' =>
        simp only [Loc.slOk, Loc.to] at *
        rcases hh with ⟨h1, h2⟩ | ⟨h1, _, _, A, h2, _⟩
        · exact .inl ⟨by omega, h2⟩
        · exact .inl ⟨by omega, by rw [h2]; rfl⟩
    | nil v =>
      cases l' with
      | free => exact ht.elim
      | lies v' g' sz' cap' =>
        simp only [Loc.slOk, Loc.to] at *
        rcases hh with ⟨h1, h2⟩ | ⟨h1, _, _, A, h2⟩
        · exact .inl ⟨by omega, h2⟩
        · exact .inl ⟨by omega, by rw [h2]; rfl⟩
      | nil v' =>
        simp only [Loc.slOk, Loc.to] at *
        rcases hh with ⟨h1, h2⟩ | ⟨h1, h3, h4, A, h2⟩
        · exact .inl ⟨by omega, h2⟩
        · rcases Nat.lt_or_ge ver v' with h5 | h5
          · exact .inl ⟨h5, by rw [h2]; rfl⟩
          · exact .inr ⟨by omega, h3, h4, A, h2⟩
theorem mpOk_mono {a b : List Loc} (h : Locs.to a b) {id : Nat} {u : Value} (hh : Loc.mpOk u a[id]?) : Loc.mpOk u b[id]? := by
  cases ha : a[id]? with
  | none => rw [ha] at hh; exact hh.elim
  | some l =>
    obtain ⟨l', hb, ht⟩ := h id l ha
    rw [ha] at hh; rw [hb]
    cases l with
    | free => exact hh.elim
    | lies v g sz cap =>
      cases l' with
      | free => exact ht.elim
      | lies v' g' sz' cap' =>
        simp only [Loc.mpOk, Loc.to] at *
        rcases ht with ht | ⟨rfl, rfl, rfl, rfl⟩
        · rcases hh with ⟨h1, h2⟩ | ⟨h1, h2⟩
          · exact .inl ⟨by omega, h2⟩
          · exact .inl ⟨by omega, by rw [h2]; rfl⟩
        · exact hh
      | nil v' =>
        simp only [Loc.mpOk, Loc.to] at *
        rcases hh with ⟨h1, h2⟩ | ⟨h1, h2⟩
        · exact ⟨by omega, h2⟩
        · exact ⟨by omega, by rw [h2]; rfl⟩
    | nil v =>
      cases l' with
      | free => exact ht.elim
      | lies v' g' sz' cap' => simp only [Loc.mpOk, Loc.to] at *; exact .inl ⟨by omega, hh.2⟩
      | nil v' => simp only [Loc.mpOk, Loc.to] at *; exact ⟨by omega, hh.2⟩
section
variable {E E' : Ext} (hE : E.le E')
include hE
mutual
theorem V.Is.mono {a b : List Loc} (h : Locs.to a b) : ∀ {x : V} {u : Value}, x.Is E a u → x.Is E' b u
  | .bool _, _, hh => by unfold V.Is at hh ⊢; exact hh
  | .int _ _, _, hh => by unfold V.Is at hh ⊢; exact hh
  | .str _, _, hh => by unfold V.Is at hh ⊢; exact hh
  | .nilp, _, hh => by unfold V.Is at hh ⊢; exact hh
  | .nilf, _, hh => by unfold V.Is at hh ⊢; exact hh
  | .emp, _, hh => by unfold V.Is at hh ⊢; exact hh
  | .sl rows, _, hh => by
    unfold V.Is at hh ⊢
    obtain ⟨A, cap, h1, h2, h3⟩ := hh
    refine ⟨A, cap, h1, h2, h3.imp_right fun ⟨b, o, sz, h4, h5⟩ => ⟨b, o, sz, h4, RowsAt.mono h5⟩⟩
  | .pi cells off, _, hh => by
    unfold V.Is at hh ⊢
    obtain ⟨b, o, h1, h2⟩ := hh
    exact ⟨b, o, h1, CellsAt.mono h2⟩
  | .own _ _ _ _, _, hh => by unfold V.Is at hh ⊢; exact ptrOk_mono h hh
  | .rs _ _ _ _, _, hh => by unfold V.Is at hh ⊢; exact slOk_mono h hh
  | .mp _, _, hh => by unfold V.Is at hh ⊢; exact mpOk_mono h hh
  | .fn _ _, _, hh => by unfold V.Is at hh ⊢; obtain ⟨vs, e, hv⟩ := hh; exact ⟨vs, e, IsAll.mono h hv⟩
  | .agg _, _, hh => by unfold V.Is at hh ⊢; obtain ⟨vs, e, hv⟩ := hh; exact ⟨vs, e, IsOnes.mono h hv⟩
  | .tup _, _, hh => by unfold V.Is at hh ⊢; obtain ⟨vs, e, hv⟩ := hh; exact ⟨vs, e, IsAll.mono h hv⟩
  | .cnd _ _, _, hh => by unfold V.Is at hh ⊢; exact ⟨fun hb => V.Is.mono h (hh.1 hb), hh.2⟩
  | .un, _, _ => by unfold V.Is; trivial
theorem IsAll.mono {a b : List Loc} (h : Locs.to a b) : ∀ {xs : List V} {vs : List Value}, IsAll E a xs vs → IsAll E' b xs vs
  | [], _, hh => by unfold IsAll at hh ⊢; exact hh
  | _ :: _, _, hh => by unfold IsAll at hh ⊢; obtain ⟨v, r, e, hx, hr⟩ := hh; exact ⟨v, r, e, V.Is.mono h hx, IsAll.mono h hr⟩
theorem IsOnes.mono {a b : List Loc} (h : Locs.to a b) : ∀ {xs : List V} {vs : List Value}, IsOnes E a xs vs → IsOnes E' b xs vs
  | [], _, hh => by unfold IsOnes at hh ⊢; exact hh
  | _ :: _, _, hh => by unfold IsOnes at hh ⊢; obtain ⟨v, r, e, h1, hx, hr⟩ := hh; exact ⟨v, r, e, h1, V.Is.mono h hx, IsOnes.mono h hr⟩
theorem CellsAt.mono {b : Nat} : ∀ {o : Nat} {xs : List V}, CellsAt E b o xs → CellsAt E' b o xs
  | _, [], _ => by unfold CellsAt; trivial
  | o, c :: r, hh => by
    unfold CellsAt at hh ⊢
    obtain ⟨h1, ⟨x, h2, h3⟩, h4⟩ := hh
    exact ⟨h1, ⟨x, Ext.le_cell hE h2, V.Is.mono (Locs.to_refl []) h3⟩, CellsAt.mono h4⟩
theorem RowsAt.mono {b sz : Nat} : ∀ {o : Nat} {rs : List (List V)}, RowsAt E b sz o rs → RowsAt E' b sz o rs
  | _, [], _ => by unfold RowsAt; trivial
  | o, r :: rs, hh => by
    unfold RowsAt at hh ⊢
    exact ⟨hh.1, CellsAt.mono hh.2.1, RowsAt.mono hh.2.2⟩
end
end
theorem V.Is.one {E : Ext} {L : List Loc} {x : V} {u : Value} (h : x.Is E L u) (h1 : x.one = true) : u.oneCell' = true := by
  cases x with
  | agg _ => cases h1
  | tup _ => cases h1
  | cnd _ _ => cases h1
  | un => cases h1
  | bool _ => unfold V.Is at h; subst h; rfl
  | int _ _ => unfold V.Is at h; subst h; rfl
  | str _ => unfold V.Is at h; subst h; rfl
  | nilp => unfold V.Is at h; subst h; rfl
  | nilf => unfold V.Is at h; subst h; rfl
  | emp => unfold V.Is at h; obtain ⟨A, rfl⟩ := h; rfl
  | sl _ => unfold V.Is at h; obtain ⟨A, c, rfl, _⟩ := h; rfl
  | pi _ _ => unfold V.Is at h; obtain ⟨A, c, rfl, _⟩ := h; rfl
  | fn _ _ => unfold V.Is at h; obtain ⟨A, rfl, _⟩ := h; rfl
  | own id ver k off =>
    unfold V.Is at h
    cases hl : L[id]? with
    | none => rw [hl] at h; exact h.elim
    | some l =>
      rw [hl] at h
      cases l with
      | free => exact h.elim
      | lies v g sz cap => rcases h with ⟨_, h⟩ | ⟨_, rfl⟩ <;> first | exact h | rfl
      | nil v => exact h.2
  | rs id ver lo hi =>
    unfold V.Is at h
    cases hl : L[id]? with
    | none => rw [hl] at h; exact h.elim
    | some l =>
      rw [hl] at h
      cases l with
      | free => exact h.elim
      | lies v g sz cap => rcases h with ⟨_, h⟩ | ⟨_, _, _, A, rfl, _⟩ <;> first | exact h | rfl
      | nil v => rcases h with ⟨_, h⟩ | ⟨_, _, _, A, rfl⟩ <;> first | exact h | rfl
  | mp id =>
    unfold V.Is at h
    cases hl : L[id]? with
    | none => rw [hl] at h; exact h.elim
    | some l =>
      rw [hl] at h
      cases l with
      | free => exact h.elim
      | lies v g sz cap => rcases h with ⟨_, h⟩ | ⟨_, rfl⟩ <;> first | exact h | rfl
      | nil v => exact h.2
def Ext.In (E : Ext) (w : World) : Prop := ∀ b cs, E b = some cs → ∃ t fr, w.heap[b]? = some (.cells cs t fr)
theorem Ext.In.cell {E : Ext} {w : World} (h : E.In w) {b o : Nat} {x : Value} (e : E.cell b o = some x) : w.cell? ⟨b, o, none⟩ = some x := by
  unfold Ext.cell at e
  cases hb : E b with
  | none => rw [hb] at e; cases e
  | some cs =>
    rw [hb] at e
    obtain ⟨t, fr, hw⟩ := h b cs hb
    simp only [World.cell?, hw]
    simpa using e
theorem Ext.In.lt {E : Ext} {w : World} (h : E.In w) {b : Nat} {cs : Array Value} (e : E b = some cs) : b < w.heap.size := by
  obtain ⟨t, fr, hw⟩ := h b cs e
  rcases Nat.lt_or_ge b w.heap.size with hl | hl
  · exact hl
  · rw [Array.getElem?_eq_none hl] at hw; cases hw
inductive Own where
  | free
  | gone
  | blk (ty : TypeId) (ver sz : Nat) (rows : List (List V))
  | froz (ty : TypeId) (ver sz : Nat) (rows : List (List V))
  | mp (φ : Array MapEntry → Nat → Prop)
  deriving Inhabited
def OwnRows (E : Ext) (L : List Loc) (cur : Array Value) (sz : Nat) (rows : List (List V)) : Prop :=
  ∀ k row, rows[k]? = some row → row.length = sz ∧ ∀ j c, row[j]? = some c → c.one = true ∧ ∃ x, cur[k * sz + j]? = some x ∧ c.Is E L x
def Own.Ok (B : Nat) (E : Ext) (L : List Loc) (w : World) : Own → Loc → Prop
  | .free, l => l = .free
  | .gone, _ => True
  | .blk ty ver sz rows, .lies v g sz' cap => v = ver ∧ sz' = sz ∧ 0 < sz ∧ B ≤ g ∧ E g = none ∧ cap ≤ maxLen ∧ rows.length ≤ cap ∧ 0 < cap ∧
      ∃ cur, w.heap[g]? = some (.cells cur ty (0, 0)) ∧ cur.size = cap * sz ∧ OwnRows E L cur sz rows
  | .blk _ ver sz rows, .nil v => v = ver ∧ rows = [] ∧ 0 < sz
  | .froz _ ver sz rows, .lies v g sz' cap => v = ver ∧ sz' = sz ∧ rows.length ≤ cap ∧ RowsAt E g sz 0 rows
  | .froz _ ver _ rows, .nil v => v = ver ∧ rows = []
  | .mp φ, .lies v g _ _ => v = 0 ∧ B ≤ g ∧ E g = none ∧ ∃ es clk, w.heap[g]? = some (.map es clk) ∧ φ es clk
  | _, _ => False
def Own.at? : Own → Loc → Option Nat
  | .blk _ _ _ _, .lies _ g _ _ => some g
  | .mp _, .lies _ g _ _ => some g
  | _, _ => none
structure St where
  n : Nat
  tm : List (Nat × V)
  ow : List Own
def lk : List (Nat × V) → Nat → V
  | [], _ => .un
  | (j, v) :: r, k => if j = k then v else lk r k
structure RepE (B : Nat) (w0 : World) (E0 E : Ext) (L0 L : List Loc) (s : St) (a : Act) (w : World) : Prop where
  defers : a.defers = []
  le : E0.le E
  low : ∀ b, b < B → E b = E0 b
  inn : E.In w
  below : Below B w0 w
  drawn : w0.drawn ≤ w.drawn
  base : B ≤ w.heap.size
  lto : Locs.to L0 L
  len : L.length = s.ow.length
  size : a.tmps.size = s.n
  tmps : ∀ k, (lk s.tm k).Is E L (a.tmps.getD k undef)
  owns : ∀ (id : Nat) (o : Own) (l : Loc), s.ow[id]? = some o → L[id]? = some l → o.Ok B E L w l
  apart : ∀ (i j : Nat) (o o' : Own) (l l' : Loc) (g : Nat), i ≠ j → s.ow[i]? = some o → L[i]? = some l → s.ow[j]? = some o' → L[j]? = some l' → o.at? l = some g → o'.at? l' ≠ some g
def Rep (B : Nat) (w0 : World) (E0 : Ext) (L0 : List Loc) (s : St) (a : Act) (w : World) : Prop := ∃ E L, RepE B w0 E0 E L0 L s a w
def EV (P : Program) (m : Nat) (c : Code) (Q : Exit → St → Prop) (s : St) : Prop :=
  ∀ B w0 E0 L0 a w, L0.length ≤ m → Rep B w0 E0 L0 s a w → c.wp P (fun e a' w' => ∃ s', Q e s' ∧ Rep B w0 E0 L0 s' a' w') a w
end Go.K
namespace Go.K
open Go Go.RowKit
def V.of1 : Value → V
  | .bool b => .bool b
  | .int k n => .int k n
  | .string s => .str s
  | .pointer none => .nilp
  | .slice none 0 0 => .emp
  | .nilFunc => .nilf
  | _ => .un
def V.of1s : List Value → List V
  | [] => []
  | x :: r => .of1 x :: V.of1s r
def V.ones : List V → Bool
  | [] => true
  | x :: r => x.one && V.ones r
def V.ofConst : Value → V
  | .agg cs => if V.ones (V.of1s cs.toList) then .agg (V.of1s cs.toList) else .un
  | v => .of1 v
structure TI where
  kind : Nat := 9
  flds : List (Nat × TypeId) := []
  el : TypeId := 0
  len : Nat := 0
  int : Option IntKind := none
  zero : List Value := []
  z : List V := []
  sz : Nat := 0
  bytes : Nat := 0
  flat : Bool := false
def sumOf : TypeDesc → Nat × List (Nat × TypeId) × TypeId × Nat × Option IntKind
  | .struct fs => (1, fs.toList.map (fun f => (f.offset, f.type)), 0, 0, none)
  | .array n e => (2, [], e, n, none)
  | .slice e => (3, [], e, 0, none)
  | .pointer e => (4, [], e, 0, none)
  | .bool => (5, [], 0, 0, none)
  | .int k => (6, [], 0, 0, some k)
  | .string => (7, [], 0, 0, none)
  | .func _ _ _ => (8, [], 0, 0, none)
  | _ => (10, [], 0, 0, none)
def fieldsOk (P : Program) : Nat → List Field → List Value → Bool
  | _, [], [] => true
  | j, f :: fs, z :: zs => f.name != "_" && f.offset == j &&
      (match P.underlying f.type, z with | some .bool, .bool _ => true | some (.int k), .int k' _ => k == k' | _, _ => false) && fieldsOk P (j + 1) fs zs
  | _, _, _ => false
def flatOk (P : Program) (t : TypeId) (zero : List Value) : Bool :=
  match P.underlying t with
  | some (.struct fs) => !P.stoodInHeld t && !P.eqGuardType P.depth t && fieldsOk P 0 fs.toList zero
  | _ => false
structure TI.Facts (P : Program) (t : TypeId) (i : TI) : Prop where
  info : (P.info? t).map (fun x => (x.zero.map (·.cells.toList), x.size, x.bytes)) = some (some i.zero, i.sz, i.bytes)
  und : (P.underlying t).map sumOf = some (i.kind, i.flds, i.el, i.len, i.int)
  flat : i.flat = true → flatOk P t i.zero = true
structure TI.Own (i : TI) : Prop where
  z : i.z = V.of1s i.zero
  ones : V.ones i.z = true
  len : i.z.length = i.sz
  int : i.int ≠ none → i.kind ≠ 9
abbrev TT := TypeId → TI
structure TT.Ok (P : Program) (tt : TT) : Prop where
  facts : ∀ t, (tt t).kind ≠ 9 → (tt t).Facts P t
  own : ∀ t, (tt t).Own
def TI.isAgg (i : TI) : Bool := i.kind == 1 || i.kind == 2
structure Out where
  fp : List Nat
  r : V
  upd : List (Nat × Own)
inductive Res where
  | fail
  | ok (pre : Prop) (x : Out)
def V.mk (agg : Bool) (cs : List V) : V :=
  match agg, cs with
  | true, cs => .agg cs
  | false, [x] => x
  | _, _ => .un
def V.cells? : V → Option (List V)
  | .agg cs => some cs
  | .tup _ => none
  | .cnd _ _ => none
  | .un => none
  | v => some [v]
def semNew (ow : List Own) (id : Nat) (t : TypeId) (sz : Nat) (cs : List V) : Res :=
  match ow[id]? with
  | some .free => .ok (cs.length = sz ∧ 0 < sz) ⟨[id], .own id 0 0 0, [(id, .blk t 0 sz [cs])]⟩
  | _ => .fail
def semLoad (tt : TT) (i : TI) (ow : List Own) : V → Res
  | .own id ver k off => match ow[id]? with
    | some (.blk ty v _ rows) => .ok (v = ver ∧ k < rows.length ∧ off + i.sz ≤ (rows.getD k (tt ty).z).length ∧ (i.isAgg = true ∨ i.sz = 1) ∧ i.kind ≠ 9) ⟨[id], V.mk i.isAgg (((rows.getD k (tt ty).z).drop off).take i.sz), []⟩
    | some (.froz ty v _ rows) => .ok (v = ver ∧ k < rows.length ∧ off + i.sz ≤ (rows.getD k (tt ty).z).length ∧ (i.isAgg = true ∨ i.sz = 1) ∧ i.kind ≠ 9) ⟨[id], V.mk i.isAgg (((rows.getD k (tt ty).z).drop off).take i.sz), []⟩
    | _ => .fail
  | .pi cells off => .ok (off + i.sz ≤ cells.length ∧ (i.isAgg = true ∨ i.sz = 1) ∧ i.kind ≠ 9) ⟨[], V.mk i.isAgg ((cells.drop off).take i.sz), []⟩
  | _ => .fail
def setCells : List V → Nat → List V → List V
  | cs, _, [] => cs
  | cs, off, x :: r => setCells (cs.set off x) (off + 1) r
def semStore (tt : TT) (i : TI) (ow : List Own) (p x : V) : Res :=
  match p, x.cells? with
  | .own id ver k off, some cs => match ow[id]? with
    | some (.blk ty v sz rows) => .ok (v = ver ∧ k < rows.length ∧ cs.length = i.sz ∧ off + cs.length ≤ sz ∧ i.kind ≠ 9) ⟨[id], .tup [], [(id, .blk ty v sz (rows.set k (setCells (rows.getD k (tt ty).z) off cs)))]⟩
    | _ => .fail
  | _, _ => .fail
def semNil (ow : List Own) : V → Res
  | .own id ver k off => match ow[id]? with
    | some (.blk _ v _ rows) => .ok (v = ver ∧ k < rows.length) ⟨[id], .own id ver k off, []⟩
    | some (.froz _ v _ rows) => .ok (v = ver ∧ k < rows.length) ⟨[id], .own id ver k off, []⟩
    | _ => .fail
  | .pi cells off => .ok True ⟨[], .pi cells off, []⟩
  | _ => .fail
def semField (tt : TT) (t : TypeId) (j : Nat) (ow : List Own) : V → Res
  | .own id ver k o => match (tt t).flds[j]?, ow[id]? with
    | some (off, ft), some (.blk _ v _ rows) => .ok (v = ver ∧ k < rows.length ∧ (tt t).kind = 1 ∧ (tt ft).kind ≠ 9 ∧ (tt ft).sz ≠ 0) ⟨[id], .own id ver k (o + off), []⟩
    | some (off, ft), some (.froz _ v _ rows) => .ok (v = ver ∧ k < rows.length ∧ (tt t).kind = 1 ∧ (tt ft).kind ≠ 9 ∧ (tt ft).sz ≠ 0) ⟨[id], .own id ver k (o + off), []⟩
    | _, _ => .fail
  | .pi cells o => match (tt t).flds[j]? with
    | some (off, ft) => .ok ((tt t).kind = 1 ∧ (tt ft).kind ≠ 9 ∧ (tt ft).sz ≠ 0) ⟨[], .pi cells (o + off), []⟩
    | _ => .fail
  | _ => .fail
def semFieldV (tt : TT) (t : TypeId) (k : Nat) : V → Res
  | .agg cs => match (tt t).flds[k]? with
    | some (off, ft) => .ok ((tt t).kind = 1 ∧ (tt ft).kind ≠ 9 ∧ off + (tt ft).sz ≤ cs.length ∧ ((tt ft).isAgg = true ∨ (tt ft).sz = 1)) ⟨[], V.mk (tt ft).isAgg ((cs.drop off).take (tt ft).sz), []⟩
    | _ => .fail
  | _ => .fail
def semIndex (tt : TT) (t : TypeId) (ow : List Own) : V → V → Res
  | .sl rows, .int _ i => .ok ((tt t).kind = 3 ∧ (tt (tt t).el).kind ≠ 9 ∧ 0 ≤ i ∧ i < rows.length ∧ (rows.getD i.toNat (tt (tt t).el).z).length = (tt (tt t).el).sz) ⟨[], .pi (rows.getD i.toNat (tt (tt t).el).z) 0, []⟩
  | .rs id ver lo hi, .int _ i => match ow[id]? with
    | some (.blk _ v sz rows) => .ok (v = ver ∧ hi ≤ rows.length ∧ (tt t).kind = 3 ∧ (tt (tt t).el).kind ≠ 9 ∧ sz = (tt (tt t).el).sz ∧ 0 ≤ i ∧ lo + i < hi) ⟨[id], .own id ver (lo + i.toNat) 0, []⟩
    | some (.froz _ v sz rows) => .ok (v = ver ∧ hi ≤ rows.length ∧ (tt t).kind = 3 ∧ (tt (tt t).el).kind ≠ 9 ∧ sz = (tt (tt t).el).sz ∧ 0 ≤ i ∧ lo + i < hi) ⟨[id], .own id ver (lo + i.toNat) 0, []⟩
    | _ => .fail
  | .own id ver k o, .int _ i => match ow[id]? with
    | some (.blk _ v _ rows) => .ok (v = ver ∧ k < rows.length ∧ (tt t).kind = 2 ∧ (tt (tt t).el).kind ≠ 9 ∧ 0 ≤ i ∧ i < (tt t).len) ⟨[id], .own id ver k (o + i.toNat * (tt (tt t).el).sz), []⟩
    | some (.froz _ v _ rows) => .ok (v = ver ∧ k < rows.length ∧ (tt t).kind = 2 ∧ (tt (tt t).el).kind ≠ 9 ∧ 0 ≤ i ∧ i < (tt t).len) ⟨[id], .own id ver k (o + i.toNat * (tt (tt t).el).sz), []⟩
    | _ => .fail
  | .pi cells o, .int _ i => .ok ((tt t).kind = 2 ∧ (tt (tt t).el).kind ≠ 9 ∧ 0 ≤ i ∧ i < (tt t).len) ⟨[], .pi cells (o + i.toNat * (tt (tt t).el).sz), []⟩
  | _, _ => .fail
def semIndexV (tt : TT) (t : TypeId) : V → V → Res
  | .agg cs, .int _ i => .ok ((tt t).kind = 2 ∧ (tt (tt t).el).kind ≠ 9 ∧ 0 ≤ i ∧ i < (tt t).len ∧ i.toNat * (tt (tt t).el).sz + (tt (tt t).el).sz ≤ cs.length ∧ ((tt (tt t).el).isAgg = true ∨ (tt (tt t).el).sz = 1))
      ⟨[], V.mk (tt (tt t).el).isAgg ((cs.drop (i.toNat * (tt (tt t).el).sz)).take (tt (tt t).el).sz), []⟩
  | _, _ => .fail
def fills (place : Nat → Option (Nat × Nat)) : List V → List (Nat × V) → Option (List V)
  | cs, [] => some cs
  | cs, (k, x) :: r => match place k, x.cells? with
    | some (off, size), some xs => if xs.length = size ∧ off + size ≤ cs.length then fills place (setCells cs off xs) r else none
    | _, _ => none
def okFlds (tt : TT) : List (Nat × TypeId) → Prop
  | [] => True
  | p :: r => (tt p.2).kind ≠ 9 ∧ okFlds tt r
theorem okFlds_mem {tt : TT} : ∀ {l : List (Nat × TypeId)}, okFlds tt l → ∀ p ∈ l, (tt p.2).kind ≠ 9
  | [], _, p, h => by cases h
  | q :: r, hu, p, h => by
    rcases List.mem_cons.1 h with rfl | h
    · exact hu.1
    · exact okFlds_mem hu.2 p h
def semBuild (tt : TT) (t : TypeId) (idx : List Nat) (xs : List V) : Res :=
  match (tt t).kind with
  | 1 => match fills (fun k => ((tt t).flds[k]?).map fun p => (p.1, (tt p.2).sz)) (tt t).z (idx.zip xs) with
    | some cs => .ok (okFlds tt (tt t).flds) ⟨[], .agg cs, []⟩
    | none => .fail
  | 2 => match fills (fun k => some (k * (tt (tt t).el).sz, (tt (tt t).el).sz)) (tt t).z (idx.zip xs) with
    | some cs => .ok ((tt (tt t).el).kind ≠ 9) ⟨[], .agg cs, []⟩
    | none => .fail
  | _ => .fail
def repl (z : List V) : Nat → List V
  | 0 => []
  | n + 1 => z ++ repl z n
def chunk (sz : Nat) : Nat → List V → List (List V)
  | 0, _ => []
  | n + 1, cs => cs.take sz :: chunk sz n (cs.drop sz)
def semBuildSlice (tt : TT) (t : TypeId) (len : Nat) (idx : List Nat) (ow : List Own) (id : Nat) (xs : List V) : Res :=
  match ow[id]?, fills (fun k => some (k * (tt (tt t).el).sz, (tt (tt t).el).sz)) (repl (tt (tt t).el).z len) (idx.zip xs) with
  | some .free, some cs => .ok ((tt t).kind = 3 ∧ (tt (tt t).el).kind ≠ 9 ∧ 0 < (tt (tt t).el).sz ∧ len * (tt (tt t).el).sz ≤ 1000 ∧ len ≤ maxLen)
      ⟨[id], .rs id 0 0 len, [(id, .blk (tt t).el 0 (tt (tt t).el).sz (chunk (tt (tt t).el).sz len cs))]⟩
  | _, _ => .fail
def semExtract (k : Nat) : V → Res
  | .tup xs => match xs[k]? with
    | some x => .ok True ⟨[], x, []⟩
    | none => .fail
  | _ => .fail
def semUn : UnOp → V → Res
  | .neg, .int k n => .ok True ⟨[], .int k (k.wrap (0 - n)), []⟩
  | .not, .bool b => .ok True ⟨[], .bool !b, []⟩
  | .xor, .int k n => .ok True ⟨[], .int k (bits .xor k (if k.signed then -1 else k.max) n), []⟩
  | _, _ => .fail
def cellsEq : List V → List V → Option Bool
  | [], [] => some true
  | .int k a :: r, .int k' b :: r' => if k = k' then (cellsEq r r').map fun x => a == b && x else none
  | .bool a :: r, .bool b :: r' => (cellsEq r r').map fun x => a == b && x
  | _, _ => none
def sameKinds : List Value → List V → Bool
  | [], [] => true
  | .int k _ :: zs, .int k' _ :: xs => k == k' && sameKinds zs xs
  | .bool _ :: zs, .bool _ :: xs => sameKinds zs xs
  | _, _ => false
def okv (r : V) : Res := .ok True ⟨[], r, []⟩
def okp (p : Prop) (r : V) : Res := .ok p ⟨[], r, []⟩
def semPtrNil (op : BinOp) (i : TI) (q : Prop) (fp : List Nat) (b : Bool) : Res :=
  match op with
  | .eql => .ok (i.kind = 4 ∧ q) ⟨fp, .bool b, []⟩
  | .neq => .ok (i.kind = 4 ∧ q) ⟨fp, .bool (!b), []⟩
  | _ => .fail
def semBin (op : BinOp) (i : TI) (ow : List Own) : V → V → Res
  | .int k a, .int k' b =>
    match op with
    | .shl => okp (0 ≤ b ∧ b ≤ k.bits) (.int k (k.wrap (a * 2 ^ b.toNat)))
    | .shr => okp (0 ≤ b ∧ b ≤ k.bits) (.int k (a / 2 ^ b.toNat))
    | _ => if k = k' then
      (match op with
      | .add => okv (.int k (k.wrap (a + b)))
      | .sub => okv (.int k (k.wrap (a - b)))
      | .mul => okv (.int k (k.wrap (a * b)))
      | .quo => okp (b ≠ 0) (.int k (k.wrap (a.tdiv b)))
      | .rem => okp (b ≠ 0) (.int k (a.tmod b))
      | .and => okv (.int k (bits .and k a b))
      | .or => okv (.int k (bits .or k a b))
      | .xor => okv (.int k (bits .xor k a b))
      | .andNot => okv (.int k (bits .andNot k a b))
      | .eql => okv (.bool (a == b))
      | .neq => okv (.bool (a != b))
      | .lss => okv (.bool (decide (a < b)))
      | .leq => okv (.bool (decide (a ≤ b)))
      | .gtr => okv (.bool (decide (a > b)))
      | .geq => okv (.bool (decide (a ≥ b)))
      | _ => .fail)
      else .fail
  | .bool a, .bool b =>
    match op with
    | .eql => okp (i.kind = 5) (.bool (a == b))
    | .neq => okp (i.kind = 5) (.bool (!(a == b)))
    | _ => .fail
  | .str a, .str b =>
    match op with
    | .eql => okv (.bool (a == b))
    | .neq => okv (.bool (!(a == b)))
    | _ => .fail
  | .agg xs, .agg ys =>
    match op, cellsEq xs ys with
    | .eql, some b => okp (i.flat = true ∧ i.kind = 1 ∧ sameKinds i.zero xs = true) (.bool b)
    | .neq, some b => okp (i.flat = true ∧ i.kind = 1 ∧ sameKinds i.zero xs = true) (.bool (!b))
    | _, _ => .fail
  | .own id ver k _, .nilp =>
    match ow[id]? with
    | some (.blk _ v _ rows) => semPtrNil op i (v = ver ∧ k < rows.length) [id] false
    | some (.froz _ v _ rows) => semPtrNil op i (v = ver ∧ k < rows.length) [id] false
    | _ => .fail
  | .pi _ _, .nilp => semPtrNil op i True [] false
  | .nilp, .nilp => semPtrNil op i True [] true
  | _, _ => .fail
def semConv (a b : TI) : V → Res
  | .int _ n => match b.int with
    | some k => okp (a.kind = 6) (.int k (k.wrap n))
    | none => .fail
  | _ => .fail
def semLen (i : TI) (ow : List Own) : V → Res
  | .str s => okp (i.kind = 7) (.int .i64 s.size)
  | .sl rows => okp (i.kind = 3) (.int .i64 rows.length)
  | .emp => okp (i.kind = 3) (.int .i64 0)
  | .rs id ver lo hi => match ow[id]? with
    | some (.blk _ v _ _) => .ok (v = ver ∧ i.kind = 3) ⟨[id], .int .i64 ((hi - lo : Nat) : Int), []⟩
    | some (.froz _ v _ _) => .ok (v = ver ∧ i.kind = 3) ⟨[id], .int .i64 ((hi - lo : Nat) : Int), []⟩
    | _ => .fail
  | _ => .fail
def minmax (mx : Bool) (k : IntKind) (x : Int) : List V → Option Int
  | [] => some x
  | .int k' y :: r => if k = k' then minmax mx k (if mx then (if x < y then y else x) else (if y < x then y else x)) r else none
  | _ => none
def V.sl? (ow : List Own) : V → Option (Prop × List Nat × List (List V))
  | .sl rows => some (True, [], rows)
  | .emp => some (True, [], [])
  | .rs id ver lo hi => match ow[id]? with
    | some (.blk _ v _ rows) => some (v = ver ∧ hi ≤ rows.length, [id], (rows.drop lo).take (hi - lo))
    | some (.froz _ v _ rows) => some (v = ver ∧ hi ≤ rows.length, [id], (rows.drop lo).take (hi - lo))
    | _ => none
  | _ => none
def semAppend (tt : TT) (t : TypeId) (ow : List Own) (id : Nat) (s x : V) : Res :=
  match s, x.sl? ow with
  | .rs r ver lo hi, some (q, fp, new) => match ow[r]? with
    | some (.blk ty v sz rows) => .ok (q ∧ v = ver ∧ lo = 0 ∧ hi = rows.length ∧ (tt t).kind = 3 ∧ (tt t).el = ty ∧ (tt ty).kind ≠ 9 ∧ (tt ty).sz = sz ∧ (new.getD 0 (tt ty).z).length = sz ∧
        rows.length + new.length ≤ maxLen ∧ (rows.length + new.length) * (tt ty).bytes ≤ 140737488355328) ⟨r :: fp, .rs r (ver + 1) 0 (rows.length + new.length), [(r, .blk ty (ver + 1) sz (rows ++ new))]⟩
    | _ => .fail
  | .emp, some (q, fp, new) => match ow[id]? with
    | some .free => .ok (q ∧ (tt t).kind = 3 ∧ (tt (tt t).el).kind ≠ 9 ∧ 0 < (tt (tt t).el).sz ∧ (new.getD 0 (tt (tt t).el).z).length = (tt (tt t).el).sz ∧ new.length ≤ maxLen ∧ new.length * (tt (tt t).el).bytes ≤ 140737488355328)
        ⟨id :: fp, .rs id 0 0 new.length, [(id, .blk (tt t).el 0 (tt (tt t).el).sz new)]⟩
    | _ => .fail
  | _, _ => .fail
def semMake (tt : TT) (t : TypeId) (ow : List Own) (id : Nat) : V → V → Res
  | .int _ l, .int _ c => match ow[id]? with
    | some .free => .ok ((tt t).kind = 3 ∧ (tt (tt t).el).kind ≠ 9 ∧ 0 < (tt (tt t).el).sz ∧ l = c ∧ 0 ≤ l ∧ l ≤ maxLen ∧ (tt (tt t).el).bytes * l.toNat ≤ 281474976710656)
        ⟨[id], .rs id 0 0 l.toNat, [(id, .blk (tt t).el 0 (tt (tt t).el).sz (List.replicate l.toNat (tt (tt t).el).z))]⟩
    | _ => .fail
  | _, _ => .fail
def boundOf (d : Int) : Option V → Option Int
  | none => some d
  | some (.int _ i) => some i
  | _ => none
def semSlice (tt : TT) (t : TypeId) (ow : List Own) (x : V) (lo hi : Option V) : Res :=
  match x with
  | .sl rows => match boundOf 0 lo, boundOf rows.length hi with
    | some l, some h => okp ((tt t).kind = 3 ∧ (tt (tt t).el).kind ≠ 9 ∧ (rows.getD 0 (tt (tt t).el).z).length = (tt (tt t).el).sz ∧ 0 ≤ l ∧ l ≤ h ∧ h ≤ rows.length) (.sl ((rows.drop l.toNat).take (h - l).toNat))
    | _, _ => .fail
  | .emp => match boundOf 0 lo, boundOf 0 hi with
    | some l, some h => okp ((tt t).kind = 3 ∧ (tt (tt t).el).kind ≠ 9 ∧ l = 0 ∧ h = 0) .emp
    | _, _ => .fail
  | .rs id ver a b => match boundOf 0 lo, boundOf (b - a : Nat) hi, ow[id]? with
    | some l, some h, some (.blk _ v sz rows) => .ok ((tt t).kind = 3 ∧ (tt (tt t).el).kind ≠ 9 ∧ v = ver ∧ sz = (tt (tt t).el).sz ∧ 0 ≤ l ∧ l ≤ h ∧ h ≤ (b - a : Nat) ∧ b ≤ rows.length) ⟨[id], .rs id ver (a + l.toNat) (a + h.toNat), []⟩
    | some l, some h, some (.froz _ v sz rows) => .ok ((tt t).kind = 3 ∧ (tt (tt t).el).kind ≠ 9 ∧ v = ver ∧ sz = (tt (tt t).el).sz ∧ 0 ≤ l ∧ l ≤ h ∧ h ≤ (b - a : Nat) ∧ b ≤ rows.length) ⟨[id], .rs id ver (a + l.toNat) (a + h.toNat), []⟩
    | _, _, _ => .fail
  | _ => .fail
def semNoRoom (tt : TT) (t : TypeId) (ow : List Own) : V → V → V → Res
  | x, .int _ h, .int _ m => match x with
    | .sl rows => okp ((tt t).kind = 3 ∧ (tt (tt t).el).kind ≠ 9 ∧ h = 0 ∧ m = 0 ∧ rows.length ≤ rows.length) .emp
    | .emp => okp ((tt t).kind = 3 ∧ (tt (tt t).el).kind ≠ 9 ∧ h = 0 ∧ m = 0) .emp
    | .rs id ver _ _ => match ow[id]? with
      | some (.blk _ v _ _) => .ok ((tt t).kind = 3 ∧ (tt (tt t).el).kind ≠ 9 ∧ h = 0 ∧ m = 0 ∧ v = ver) ⟨[id], .emp, []⟩
      | some (.froz _ v _ _) => .ok ((tt t).kind = 3 ∧ (tt (tt t).el).kind ≠ 9 ∧ h = 0 ∧ m = 0 ∧ v = ver) ⟨[id], .emp, []⟩
      | _ => .fail
    | _ => .fail
  | _, _, _ => .fail
def semBuiltin (tt : TT) (ow : List Own) (id : Nat) (b : Builtin) (ts : List TypeId) (xs : List V) : Res :=
  match b, xs, ts with
  | .len, [x], [t] => semLen (tt t) ow x
  | .min, .int k x :: r, _ => match minmax false k x r with | some y => okv (.int k y) | none => .fail
  | .max, .int k x :: r, _ => match minmax true k x r with | some y => okv (.int k y) | none => .fail
  | .append, [s, x], [t, t'] => if t = t' then semAppend tt t ow id s x else .fail
  | _, _, _ => .fail
def sem (tt : TT) (ow : List Own) (id : Nat) : Op → List V → Res
  | .move _, [x] => okv x
  | .assign _, [x] => okv x
  | .alloc t, [] => match (tt t).kind with | 9 => .fail | _ => semNew ow id t (tt t).sz (tt t).z
  | .box t _, [x] => match x.cells? with | some cs => semNew ow id t cs.length cs | none => .fail
  | .build t parts, xs => semBuild tt t (parts.toList.map (·.1)) xs
  | .buildSlice t n parts, xs => semBuildSlice tt t n (parts.toList.map (·.1)) ow id xs
  | .load t _, [p] => semLoad tt (tt t) ow p
  | .store t _ _, [p, x] => semStore tt (tt t) ow p x
  | .nilCheck _, [x] => semNil ow x
  | .binOp op t _ _ _, [x, y] => semBin op (tt t) ow x y
  | .unOp op _ _, [x] => semUn op x
  | .convert a b _, [x] => semConv (tt a) (tt b) x
  | .fieldAddr t _ k, [p] => semField tt t k ow p
  | .field t _ k, [x] => semFieldV tt t k x
  | .indexAddr t _ _, [x, i] => semIndex tt t ow x i
  | .index t _ _, [x, i] => semIndexV tt t x i
  | .extract _ k, [x] => semExtract k x
  | .makeFunc (.func f) first _, xs => if first.size = 0 then okv (.fn f xs) else .fail
  | .makeSlice t _ _, [l, c] => semMake tt t ow id l c
  | .slice t _ none none none, [x] => semSlice tt t ow x none none
  | .slice t _ (some _) none none, [x, l] => semSlice tt t ow x (some l) none
  | .slice t _ none (some _) none, [x, h] => semSlice tt t ow x none (some h)
  | .slice t _ (some _) (some _) none, [x, l, h] => semSlice tt t ow x (some l) (some h)
  | .slice t _ none (some _) (some _), [x, h, m] => semNoRoom tt t ow x h m
  | .call ⟨.builtin b, _, ts⟩, xs => semBuiltin tt ow id b ts.toList xs
  | _, _ => .fail
def app : List Own → List (Nat × Own) → List Own
  | ow, [] => ow
  | ow, (i, o) :: r => app (ow.set i o) r
def agree (l : List Nat) (a b : List Own) : Prop := ∀ i ∈ l, a[i]? = b[i]?
end Go.K

import Derived.Test.YtokhaefcnbiadaaML
set_option linter.all false
namespace Go.Proofs.Ytokhaefcnbiadaa
open Go Go.K
/-! ### plain: the cells of a block -/
theorem ix_of (S j : Nat) : ix S (j / S / S) (j / S % S) (j % S) = j := by
  unfold ix
  rw [Nat.div_add_mod', Nat.div_add_mod']
theorem cnd_inj {p : Prob} {i j : Nat} (h : cndAt p i = cndAt p j) : i = j := by
  unfold cndAt at h
  simp only [Cnd.mk.injEq] at h
  obtain ⟨h1, h2, h3⟩ := h
  rw [← ix_of p.S i, ← ix_of p.S j]
  rw [show i / p.S / p.S = j / p.S / p.S by omega, show i / p.S % p.S = j / p.S % p.S by omega, show i % p.S = j % p.S by omega]
theorem cell_cnd {p : Prob} {b : Blc} (h : p.ok) (hb : blkOk p b) {t : Nat} (ht : t < htM p b * wdM p b) : cndAt p (cellAt p b t) = ⟨b.k, b.y + ((t / wdM p b : Nat) : Int), b.x + ((t % wdM p b : Nat) : Int)⟩ ∧ t / wdM p b < htM p b ∧ t % wdM p b < wdM p b := by
  obtain ⟨bk, bkk, by', bx, wd, ht', w1, h1, wS, hS⟩ := blkW h hb
  have hr : t / wdM p b < htM p b := by rw [Nat.div_lt_iff_lt_mul (by omega)]; exact ht
  have hc : t % wdM p b < wdM p b := Nat.mod_lt _ (by omega)
  refine ⟨?_, hr, hc⟩
  unfold cellAt
  rw [cnd_at p (by omega) (by omega)]
  simp only [Cnd.mk.injEq]
  omega
theorem cells_nodup {p : Prob} {b : Blc} (h : p.ok) (hb : blkOk p b) : (cellsOf p b).Nodup := by
  unfold cellsOf cellsN List.Nodup
  rw [List.pairwise_map]
  refine (List.pairwise_lt_range).imp_of_mem fun {i j} hi hj hij e => ?_
  rw [List.mem_range] at hi hj
  have ci := cell_cnd h hb hi
  have cj := cell_cnd h hb hj
  rw [e, cj.1] at ci
  have hx := ci.1
  simp only [Cnd.mk.injEq] at hx
  have d1 := Nat.div_add_mod' i (wdM p b)
  have d2 := Nat.div_add_mod' j (wdM p b)
  have q1 : j / wdM p b = i / wdM p b := by omega
  have q2 : j % wdM p b = i % wdM p b := by omega
  rw [q1, q2] at d2
  omega
theorem bel_last {p : Prob} {b : Blc} (hc : ∀ c, inW p c → (belM b c ↔ c.k = b.k ∧ b.x ≤ c.x ∧ c.x ≤ lastX p b ∧ b.y ≤ c.y ∧ c.y ≤ lastY p b)) : True := trivial
theorem cnd_in {p : Prob} (h : p.ok) {j : Nat} (hj : j < p.N) : inW p (cndAt p j) := by
  obtain ⟨hs, hk, hn, r0, r1, k1, k2⟩ := winOk h
  have hS : 0 < p.S := by omega
  have h1 : j % p.S < p.S := Nat.mod_lt _ hS
  have h2 : j / p.S % p.S < p.S := Nat.mod_lt _ hS
  have h3 : j / p.S / p.S < p.K := by
    rw [Nat.div_lt_iff_lt_mul hS, Nat.div_lt_iff_lt_mul hS]
    have : p.N = p.S * (p.S * p.K) := rfl
    rw [this] at hj
    rw [Nat.mul_comm p.K p.S, Nat.mul_comm (p.S * p.K) p.S]
    exact hj
  unfold inW cndAt
  simp only
  generalize j / p.S / p.S = a at *
  generalize j / p.S % p.S = b at *
  generalize j % p.S = c at *
  omega
theorem mem_cells {p : Prob} {b : Blc} (h : p.ok) (hb : blkOk p b) {j : Nat} (hj : j < p.N) : j ∈ cellsOf p b ↔ belM b (cndAt p j) := by
  have hz := sz_in hb.2.1 hb.2.2
  have ex : lastX p b = min (b.x + (szM b.l - 1)) p.re := rfl
  have ey : lastY p b = min (b.y + (szM b.l - 1)) p.re := rfl
  obtain ⟨bk, bkk, by', bx, wd, ht', w1, h1, wS, hS⟩ := blkW h hb
  constructor
  · intro hm
    unfold cellsOf cellsN at hm
    obtain ⟨t, ht, rfl⟩ := List.mem_map.1 hm
    rw [List.mem_range] at ht
    obtain ⟨e, hr, hc⟩ := cell_cnd h hb ht
    rw [e]
    unfold belM
    simp only
    generalize t / wdM p b = a at *
    generalize t % wdM p b = c at *
    refine ⟨trivial, ?_, ?_, ?_, ?_⟩ <;> omega
  · intro hm
    have hi := cnd_in h hj
    unfold belM at hm
    unfold inW at hi
    have e : cndAt p j = ⟨((j / p.S / p.S : Nat) : Int), ((j / p.S % p.S : Nat) : Int) - p.re, ((j % p.S : Nat) : Int) - p.re⟩ := rfl
    rw [e] at hm hi
    simp only at hm hi
    unfold cellsOf cellsN
    refine List.mem_map.2 ⟨(j / p.S % p.S - (b.y + p.re).toNat) * wdM p b + (j % p.S - (b.x + p.re).toNat), ?_, ?_⟩
    · rw [List.mem_range, Nat.mul_comm (htM p b)]
      exact lt_mul (by omega) (by omega)
    · rw [cell_eq p b (by omega)]
      rw [show b.k.toNat = j / p.S / p.S by omega, show (b.y + p.re).toNat + (j / p.S % p.S - (b.y + p.re).toNat) = j / p.S % p.S by omega, show (b.x + p.re).toNat + (j % p.S - (b.x + p.re).toNat) = j % p.S by omega]
      exact ix_of _ _
theorem nodup_sub {α : Type} [BEq α] [LawfulBEq α] : ∀ (l m : List α), l.Nodup → (∀ x ∈ l, x ∈ m) → l.length ≤ m.length
  | [], m, _, _ => Nat.zero_le _
  | a :: l, m, hn, h => by
    have hm := h a (List.mem_cons_self ..)
    have h1 := nodup_sub l (m.erase a) (List.nodup_cons.1 hn).2 (fun x hx => by
      have hne : x ≠ a := fun e => (List.nodup_cons.1 hn).1 (e ▸ hx)
      exact (List.mem_erase_of_ne hne).2 (h x (List.mem_cons_of_mem _ hx)))
    have h2 := List.length_erase_of_mem hm
    have h3 := List.length_pos_of_mem hm
    rw [List.length_cons]
    omega
/-- How many of the first candidates are in a block. -/
def belN (p : Prob) (b : Blc) (n : Nat) : Nat := ((List.range n).filter fun j => decide (belM b (cndAt p j))).length
theorem belN_succ (p : Prob) (b : Blc) (n : Nat) : belN p b (n + 1) = belN p b n + if belM b (cndAt p n) then 1 else 0 := by
  unfold belN
  rw [List.range_succ, List.filter_append, List.length_append, List.filter_cons]
  split <;> rename_i hh
  · rw [if_pos (by simpa using hh)]; rfl
  · rw [if_neg (by simpa using hh)]; rfl
theorem belN_le (p : Prob) (b : Blc) (n : Nat) : belN p b n ≤ n := by
  unfold belN
  exact Nat.le_trans (List.length_filter_le _ _) (by simp)
theorem belN_all {p : Prob} {b : Blc} (h : p.ok) (hb : blkOk p b) : belN p b p.N = htM p b * wdM p b := by
  have hl : (cellsOf p b).length = htM p b * wdM p b := by simp [cellsOf, cellsN]
  rw [← hl]
  unfold belN
  have hlt : ∀ x ∈ cellsOf p b, x < p.N := fun x hx => by
    refine visAll_lt (bl := [b]) h (fun i hi => ?_) x (by unfold visAll; simp [hx])
    have : i = 0 := by simpa using hi
    subst this
    exact hb
  refine Nat.le_antisymm (nodup_sub _ _ ((List.nodup_range).filter _) fun x hx => ?_) (nodup_sub _ _ (cells_nodup h hb) fun x hx => ?_)
  · obtain ⟨h1, h2⟩ := List.mem_filter.1 hx
    exact (mem_cells h hb (List.mem_range.1 h1)).2 (by simpa using h2)
  · exact List.mem_filter.2 ⟨List.mem_range.2 (hlt x hx), by simpa using (mem_cells h hb (hlt x hx)).1 hx⟩
end Go.Proofs.Ytokhaefcnbiadaa

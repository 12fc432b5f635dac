import Derived.Test.YtokhaefcnbiadaaMK
set_option linter.all false
namespace Go.Proofs.Ytokhaefcnbiadaa
open Go Go.K
set_option maxRecDepth 20000
set_option maxHeartbeats 8000000
/-! ### partition -/
def wdM (p : Prob) (b : Blc) : Nat := (lastX p b - b.x + 1).toNat
def htM (p : Prob) (b : Blc) : Nat := (lastY p b - b.y + 1).toNat
def cellAt (p : Prob) (b : Blc) (t : Nat) : Nat := ix p.S b.k.toNat ((b.y + p.re).toNat + t / wdM p b) ((b.x + p.re).toNat + t % wdM p b)
def cellsN (p : Prob) (b : Blc) (t : Nat) : List Nat := (List.range t).map (cellAt p b)
def cellsOf (p : Prob) (b : Blc) : List Nat := cellsN p b (htM p b * wdM p b)
theorem cellsN_succ (p : Prob) (b : Blc) (t : Nat) : cellsN p b (t + 1) = cellsN p b t ++ [cellAt p b t] := by unfold cellsN; rw [List.range_succ, List.map_append]; rfl
theorem cell_eq (p : Prob) (b : Blc) {r c : Nat} (hc : c < wdM p b) : cellAt p b (r * wdM p b + c) = ix p.S b.k.toNat ((b.y + p.re).toNat + r) ((b.x + p.re).toNat + c) := by
  unfold cellAt
  rw [(dm hc).1, (dm hc).2]
def Blc.z : Blc := ⟨0, 0, 0, 0⟩
def vis (p : Prob) (bl : List Blc) (i t : Nat) : List Nat := (bl.take i).flatMap (cellsOf p) ++ cellsN p (bl.getD i Blc.z) t
def visAll (p : Prob) (bl : List Blc) : List Nat := bl.flatMap (cellsOf p)
theorem vis_zero (p : Prob) (bl : List Blc) : vis p bl 0 0 = [] := rfl
theorem vis_next (p : Prob) (bl : List Blc) {i : Nat} (hi : i < bl.length) : vis p bl i (htM p (bl.getD i Blc.z) * wdM p (bl.getD i Blc.z)) = vis p bl (i + 1) 0 := by
  unfold vis
  rw [take_getD hi Blc.z, List.flatMap_append]
  simp [cellsOf, cellsN]
theorem vis_end (p : Prob) (bl : List Blc) : vis p bl bl.length 0 = visAll p bl := by
  unfold vis visAll
  rw [List.take_length]; simp [cellsN]
theorem vis_succ (p : Prob) (bl : List Blc) (i t : Nat) : vis p bl i (t + 1) = vis p bl i t ++ [cellAt p (bl.getD i Blc.z) t] := by
  unfold vis
  rw [cellsN_succ, List.append_assoc]
theorem cellsN_pre (p : Prob) (b : Blc) {t n : Nat} (h : t ≤ n) : (cellsN p b t).Sublist (cellsN p b n) := by
  unfold cellsN
  exact (List.range_sublist.2 h).map _
theorem vis_sub (p : Prob) (bl : List Blc) {i t : Nat} (hi : i < bl.length) (ht : t ≤ htM p (bl.getD i Blc.z) * wdM p (bl.getD i Blc.z)) : (vis p bl i t).Sublist (visAll p bl) := by
  have e : visAll p bl = ((bl.take i).flatMap (cellsOf p) ++ cellsOf p (bl.getD i Blc.z)) ++ (bl.drop (i + 1)).flatMap (cellsOf p) := by
    unfold visAll
    conv => lhs; rw [← List.take_append_drop (i + 1) bl]
    rw [List.flatMap_append, take_getD hi Blc.z, List.flatMap_append]
    simp
  rw [e]
  exact List.Sublist.trans (List.Sublist.append (List.Sublist.refl _) (cellsN_pre p _ ht)) (List.sublist_append_left _ _)
def seenR (n : Nat) (l : List Nat) : List (List V) := (List.range n).map fun j => [.bool (decide (j ∈ l))]
theorem seen_len (n : Nat) (l : List Nat) : (seenR n l).length = n := by simp [seenR]
theorem lit_seen (n : Nat) (l : List Nat) : litRows (seenR n l) = true := litRows_map (fun _ => rfl) _
theorem seen_zero (n : Nat) : List.replicate n [V.bool false] = seenR n [] := by
  unfold seenR
  simp only [List.not_mem_nil, decide_false]
  rw [List.map_const', List.length_range]
theorem seen_get (n : Nat) (l : List Nat) {j : Nat} (h : j < n) : (seenR n l).getD j [.bool false] = [.bool (decide (j ∈ l))] := by
  unfold seenR
  rw [List.getD_eq_getElem?_getD, List.getElem?_map, List.getElem?_range h]; rfl
theorem seen_set (n : Nat) (l : List Nat) {j : Nat} (h : j < n) : (seenR n l).set j [.bool true] = seenR n (l ++ [j]) := by
  refine List.ext_getElem? fun i => ?_
  by_cases hi : i < n
  · by_cases e : j = i
    · subst e
      rw [List.getElem?_set_self (by rw [seen_len]; exact h)]
      unfold seenR
      rw [List.getElem?_map, List.getElem?_range h]; simp
    · rw [List.getElem?_set_ne e]
      unfold seenR
      rw [List.getElem?_map, List.getElem?_map, List.getElem?_range hi]
      simp [show ¬ i = j from fun h => e h.symm]
  · rw [List.getElem?_eq_none (by rw [List.length_set, seen_len]; omega), List.getElem?_eq_none (by rw [seen_len]; omega)]
def partM (p : Prob) (bl : List Blc) : Bool := decide ((visAll p bl).Nodup ∧ (visAll p bl).length = p.N)
structure BlkW (p : Prob) (b : Blc) : Prop where
  k : ((b.k.toNat : Nat) : Int) = b.k
  kk : b.k.toNat < p.K
  y : (((b.y + p.re).toNat : Nat) : Int) = b.y + p.re
  x : (((b.x + p.re).toNat : Nat) : Int) = b.x + p.re
  wd : ((wdM p b : Nat) : Int) = lastX p b - b.x + 1
  ht : ((htM p b : Nat) : Int) = lastY p b - b.y + 1
  w1 : 1 ≤ wdM p b
  h1 : 1 ≤ htM p b
  wS : (b.x + p.re).toNat + wdM p b ≤ p.S
  hS : (b.y + p.re).toNat + htM p b ≤ p.S
theorem blkW {p : Prob} {b : Blc} (h : p.ok) (hb : blkOk p b) : BlkW p b := by
  obtain ⟨hs, hk, hn, r0, r1, k1, k2⟩ := winOk h
  obtain ⟨⟨c1, c2, c3, c4, c5, c6⟩, l0, l6⟩ := hb
  simp only at c1 c2 c3 c4 c5 c6
  have hz := sz_in l0 l6
  have ex : lastX p b = min (b.x + (szM b.l - 1)) p.re := rfl
  have ey : lastY p b = min (b.y + (szM b.l - 1)) p.re := rfl
  have wd : ((wdM p b : Nat) : Int) = lastX p b - b.x + 1 := by unfold wdM; omega
  have ht : ((htM p b : Nat) : Int) = lastY p b - b.y + 1 := by unfold htM; omega
  exact ⟨by omega, by omega, by omega, by omega, wd, ht, by omega, by omega, by omega, by omega⟩
theorem blc_get (L : List Blc) (i : Nat) : (L.map enBl).getD i [.int .i64 0, .int .i64 0, .int .i64 0, .int .i64 0] = [.int .i64 (L.getD i Blc.z).k, .int .i64 (L.getD i Blc.z).y, .int .i64 (L.getD i Blc.z).x, .int .i64 (L.getD i Blc.z).l] := getD_map (f := enBl) (d := Blc.z) rfl
theorem nodup_snoc {l : List Nat} {a : Nat} (h : l.Nodup) (ha : a ∉ l) : (l ++ [a]).Nodup := by
  rw [List.nodup_append]
  refine ⟨h, by simp, fun x hx y hy => ?_⟩
  rw [List.mem_singleton] at hy
  subst hy
  exact fun e => ha (e ▸ hx)
theorem not_snoc {l : List Nat} {a : Nat} (ha : a ∈ l) : ¬ (l ++ [a]).Nodup := by
  rw [List.nodup_append]
  exact fun h => h.2.2 a ha a (List.mem_singleton.2 rfl) rfl
/-- All the numbers of a loop's turn. -/
structure ParW (p : Prob) (b : Blc) (r c : Nat) (e : Nat) : Prop where
  a1 : IntKind.i64.wrap (b.k * (2 * p.re + 1)) = ((b.k.toNat * p.S : Nat) : Int)
  a2 : IntKind.i64.wrap (((b.k.toNat * p.S : Nat) : Int) + (b.y + (r : Int))) = ((b.k.toNat * p.S : Nat) : Int) + (b.y + (r : Int))
  a3 : IntKind.i64.wrap (((b.k.toNat * p.S : Nat) : Int) + (b.y + (r : Int)) + p.re) = ((b.k.toNat * p.S + ((b.y + p.re).toNat + r) : Nat) : Int)
  a4 : IntKind.i64.wrap (((b.k.toNat * p.S + ((b.y + p.re).toNat + r) : Nat) : Int) * (2 * p.re + 1)) = (((b.k.toNat * p.S + ((b.y + p.re).toNat + r)) * p.S : Nat) : Int)
  a5 : IntKind.i64.wrap ((((b.k.toNat * p.S + ((b.y + p.re).toNat + r)) * p.S : Nat) : Int) + (b.x + (c : Int))) = (((b.k.toNat * p.S + ((b.y + p.re).toNat + r)) * p.S : Nat) : Int) + (b.x + (c : Int))
  a6 : IntKind.i64.wrap ((((b.k.toNat * p.S + ((b.y + p.re).toNat + r)) * p.S : Nat) : Int) + (b.x + (c : Int)) + p.re) = (e : Int)
  a7 : e < p.N
theorem parW {p : Prob} {b : Blc} (h : p.ok) (hb : blkOk p b) {r c : Nat} (hr : r < htM p b) (hc : c < wdM p b) : ParW p b r c (cellAt p b (r * wdM p b + c)) := by
  obtain ⟨hs, hk, hn, r0, r1, k1, k2⟩ := winOk h
  obtain ⟨bk, bkk, by', bx, wd, ht, w1, h1, wS, hS⟩ := blkW h hb
  rw [cell_eq p b hc]
  have hl := ix_lt (S := p.S) (K := p.K) (k := b.k.toNat) (r := (b.y + p.re).toNat + r) (c := (b.x + p.re).toNat + c) bkk (by omega) (by omega)
  have hN : p.N = p.S * (p.S * p.K) := rfl
  rw [← hN] at hl
  have hix : ix p.S b.k.toNat ((b.y + p.re).toNat + r) ((b.x + p.re).toNat + c) = (b.k.toNat * p.S + ((b.y + p.re).toNat + r)) * p.S + ((b.x + p.re).toNat + c) := rfl
  have e1 : ((b.k.toNat * p.S : Nat) : Int) = b.k * (2 * p.re + 1) := by rw [Int.natCast_mul, bk, hs]
  have e2 : (((b.k.toNat * p.S + ((b.y + p.re).toNat + r)) * p.S : Nat) : Int) = ((b.k.toNat * p.S + ((b.y + p.re).toNat + r) : Nat) : Int) * (2 * p.re + 1) := by rw [Int.natCast_mul, hs]
  have l1 : b.k.toNat * p.S ≤ 256 * 63 := Nat.mul_le_mul (by omega) (by omega)
  have hb2 := hb.1
  obtain ⟨c1, c2, c3, c4, c5, c6⟩ := hb2
  simp only at c1 c2 c3 c4 c5 c6
  refine ⟨?_, w64 (by omega) (by omega), ?_, ?_, w64 (by omega) (by omega), ?_, hl⟩
  · rw [← e1]; exact w64 (by omega) (by omega)
  · rw [w64 (by omega) (by omega)]; omega
  · rw [← e2]; exact w64 (by omega) (by omega)
  · rw [w64 (by omega) (by omega), hix]; omega
theorem nodup_le : ∀ (n : Nat) (l : List Nat), l.Nodup → (∀ x ∈ l, x < n) → l.length ≤ n
  | 0, l, _, h => by
    cases l with
    | nil => exact Nat.le_refl _
    | cons a t => exact absurd (h a (List.mem_cons_self ..)) (by omega)
  | n + 1, l, hn, h => by
    by_cases hm : n ∈ l
    · have h1 := nodup_le n (l.erase n) (hn.erase n) (fun x hx => by
        have := hn.mem_erase_iff.1 hx
        have := h x this.2
        omega)
      have h2 := List.length_erase_of_mem hm
      have h3 := List.length_pos_of_mem hm
      omega
    · have := nodup_le n l hn (fun x hx => by
        have := h x hx
        have : x ≠ n := fun e => hm (e ▸ hx)
        omega)
      omega
theorem visAll_lt {p : Prob} (h : p.ok) {bl : List Blc} (hv : ∀ i, i < bl.length → blkOk p (bl.getD i Blc.z)) : ∀ x ∈ visAll p bl, x < p.N := by
  intro x hx
  unfold visAll at hx
  obtain ⟨b, hb, hx⟩ := List.mem_flatMap.1 hx
  obtain ⟨i, hi, rfl⟩ := List.getElem_of_mem hb
  have hk := hv i hi
  rw [List.getD_eq_getElem?_getD, List.getElem?_eq_getElem hi] at hk
  simp only [Option.getD_some] at hk
  unfold cellsOf cellsN at hx
  obtain ⟨t, ht, rfl⟩ := List.mem_map.1 hx
  rw [List.mem_range] at ht
  have w1 := (blkW h hk).w1
  have e : t = t / wdM p bl[i] * wdM p bl[i] + t % wdM p bl[i] := (Nat.div_add_mod' t _).symm
  have := (parW h hk (r := t / wdM p bl[i]) (c := t % wdM p bl[i]) (by rw [Nat.div_lt_iff_lt_mul (by omega)]; exact ht) (Nat.mod_lt _ (by omega))).a7
  rw [← e] at this
  exact this
end Go.Proofs.Ytokhaefcnbiadaa

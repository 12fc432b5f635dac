import Derived.Test.YtbibplkhhdomnaaGreatW23
set_option linter.all false
namespace Go.Proofs.YtbibplkhhdomnaaGreat
open Go Go.K
set_option maxRecDepth 20000
set_option maxHeartbeats 8000000
def wdM (p : Prob) (b : Blc) : Nat := (lastX p b - b.x + 1).toNat
def htM (p : Prob) (b : Blc) : Nat := (lastY p b - b.y + 1).toNat
def cellAt (p : Prob) (b : Blc) (t : Nat) : Nat := ix p.S b.k.toNat ((b.y + p.re).toNat + t / wdM p b) ((b.x + p.re).toNat + t % wdM p b)
def cellsN (p : Prob) (b : Blc) (t : Nat) : List Nat := (List.range t).map (cellAt p b)
def cellsOf (p : Prob) (b : Blc) : List Nat := cellsN p b (htM p b * wdM p b)
theorem cellsN_succ (p : Prob) (b : Blc) (t : Nat) : cellsN p b (t + 1) = cellsN p b t ++ [cellAt p b t] := by unfold cellsN; rw [List.range_succ, List.map_append]; rfl
theorem cell_eq (p : Prob) (b : Blc) {r c : Nat} (hc : c < wdM p b) : cellAt p b (r * wdM p b + c) = ix p.S b.k.toNat ((b.y + p.re).toNat + r) ((b.x + p.re).toNat + c) := by
  unfold cellAt
  rw [(dm hc).1, (dm hc).2]
def Blc.z : Blc := ⟨0, 0, 0, 0⟩
def vis (p : Prob) (bl : List Blc) (i t : Nat) : List Nat := (bl.take i).flatMap (cellsOf p) ++ cellsN p (bl.getD i Blc.z) t
def visAll (p : Prob) (bl : List Blc) : List Nat := bl.flatMap (cellsOf p)
theorem vis_zero (p : Prob) (bl : List Blc) : vis p bl 0 0 = [] := rfl
theorem vis_next (p : Prob) (bl : List Blc) {i : Nat} (hi : i < bl.length) : vis p bl i (htM p (bl.getD i Blc.z) * wdM p (bl.getD i Blc.z)) = vis p bl (i + 1) 0 := by
  unfold vis
  rw [take_getD hi Blc.z, List.flatMap_append]
  simp [cellsOf, cellsN]
theorem vis_end (p : Prob) (bl : List Blc) : vis p bl bl.length 0 = visAll p bl := by
  unfold vis visAll
  rw [List.take_length]; simp [cellsN]
theorem vis_succ (p : Prob) (bl : List Blc) (i t : Nat) : vis p bl i (t + 1) = vis p bl i t ++ [cellAt p (bl.getD i Blc.z) t] := by
  unfold vis
  rw [cellsN_succ, List.append_assoc]
theorem cellsN_pre (p : Prob) (b : Blc) {t n : Nat} (h : t ≤ n) : (cellsN p b t).Sublist (cellsN p b n) := by
  unfold cellsN
  exact (List.range_sublist.2 h).map _
theorem vis_sub (p : Prob) (bl : List Blc) {i t : Nat} (hi : i < bl.length) (ht : t ≤ htM p (bl.getD i Blc.z) * wdM p (bl.getD i Blc.z)) : (vis p bl i t).Sublist (visAll p bl) := by
  have e : visAll p bl = ((bl.take i).flatMap (cellsOf p) ++ cellsOf p (bl.getD i Blc.z)) ++ (bl.drop (i + 1)).flatMap (cellsOf p) := by
    unfold visAll
    conv => lhs; rw [← List.take_append_drop (i + 1) bl]
    rw [List.flatMap_append, take_getD hi Blc.z, List.flatMap_append]
    simp
  rw [e]
  exact List.Sublist.trans (List.Sublist.append (List.Sublist.refl _) (cellsN_pre p _ ht)) (List.sublist_append_left _ _)
def seenR (n : Nat) (l : List Nat) : List (List V) := (List.range n).map fun j => [.bool (decide (j ∈ l))]
theorem seen_len (n : Nat) (l : List Nat) : (seenR n l).length = n := by simp [seenR]
theorem lit_seen (n : Nat) (l : List Nat) : litRows (seenR n l) = true := litRows_map (fun _ => rfl) _
theorem seen_zero (n : Nat) : List.replicate n [V.bool false] = seenR n [] := by
  unfold seenR
  simp only [List.not_mem_nil, decide_false]
  rw [List.map_const', List.length_range]
theorem seen_get (n : Nat) (l : List Nat) {j : Nat} (h : j < n) : (seenR n l).getD j [.bool false] = [.bool (decide (j ∈ l))] := by
  unfold seenR
  rw [List.getD_eq_getElem?_getD, List.getElem?_map, List.getElem?_range h]; rfl
theorem seen_set (n : Nat) (l : List Nat) {j : Nat} (h : j < n) : (seenR n l).set j [.bool true] = seenR n (l ++ [j]) := by
  refine List.ext_getElem? fun i => ?_
  by_cases hi : i < n
  · by_cases e : j = i
    · subst e
      rw [List.getElem?_set_self (by rw [seen_len]; exact h)]
      unfold seenR
      rw [List.getElem?_map, List.getElem?_range h]; simp
    · rw [List.getElem?_set_ne e]
      unfold seenR
      rw [List.getElem?_map, List.getElem?_map, List.getElem?_range hi]
      simp [show ¬ i = j from fun h => e h.symm]
  · rw [List.getElem?_eq_none (by rw [List.length_set, seen_len]; omega), List.getElem?_eq_none (by rw [seen_len]; omega)]
def partM (p : Prob) (bl : List Blc) : Bool := decide ((visAll p bl).Nodup ∧ (visAll p bl).length = p.N)
structure BlkW (p : Prob) (b : Blc) : Prop where
  k : ((b.k.toNat : Nat) : Int) = b.k
  kk : b.k.toNat < p.K
  y : (((b.y + p.re).toNat : Nat) : Int) = b.y + p.re
  x : (((b.x + p.re).toNat : Nat) : Int) = b.x + p.re
  wd : ((wdM p b : Nat) : Int) = lastX p b - b.x + 1
  ht : ((htM p b : Nat) : Int) = lastY p b - b.y + 1
  w1 : 1 ≤ wdM p b
  h1 : 1 ≤ htM p b
  wS : (b.x + p.re).toNat + wdM p b ≤ p.S
  hS : (b.y + p.re).toNat + htM p b ≤ p.S
theorem blkW {p : Prob} {b : Blc} (h : p.ok) (hb : blkOk p b) : BlkW p b := by
  obtain ⟨hs, hk, hn, r0, r1, k1, k2⟩ := winOk h
  obtain ⟨⟨c1, c2, c3, c4, c5, c6⟩, l0, l6⟩ := hb
  simp only at c1 c2 c3 c4 c5 c6
  have hz := sz_in l0 l6
  have ex : lastX p b = min (b.x + (szM b.l - 1)) p.re := rfl
  have ey : lastY p b = min (b.y + (szM b.l - 1)) p.re := rfl
  have wd : ((wdM p b : Nat) : Int) = lastX p b - b.x + 1 := by unfold wdM; omega
  have ht : ((htM p b : Nat) : Int) = lastY p b - b.y + 1 := by unfold htM; omega
  exact ⟨by omega, by omega, by omega, by omega, wd, ht, by omega, by omega, by omega, by omega⟩
theorem blc_get (L : List Blc) (i : Nat) : (L.map enBl).getD i [.int .i64 0, .int .i64 0, .int .i64 0, .int .i64 0] = [.int .i64 (L.getD i Blc.z).k, .int .i64 (L.getD i Blc.z).y, .int .i64 (L.getD i Blc.z).x, .int .i64 (L.getD i Blc.z).l] := getD_map (f := enBl) (d := Blc.z) rfl
theorem nodup_snoc {l : List Nat} {a : Nat} (h : l.Nodup) (ha : a ∉ l) : (l ++ [a]).Nodup := by
  rw [List.nodup_append]
  refine ⟨h, by simp, fun x hx y hy => ?_⟩
  rw [List.mem_singleton] at hy
  subst hy
  exact fun e => ha (e ▸ hx)
theorem not_snoc {l : List Nat} {a : Nat} (ha : a ∈ l) : ¬ (l ++ [a]).Nodup := by
  rw [List.nodup_append]
  exact fun h => h.2.2 a ha a (List.mem_singleton.2 rfl) rfl
structure ParW (p : Prob) (b : Blc) (r c : Nat) (e : Nat) : Prop where
  a1 : IntKind.i64.wrap (b.k * (2 * p.re + 1)) = ((b.k.toNat * p.S : Nat) : Int)
  a2 : IntKind.i64.wrap (((b.k.toNat * p.S : Nat) : Int) + (b.y + (r : Int))) = ((b.k.toNat * p.S : Nat) : Int) + (b.y + (r : Int))
  a3 : IntKind.i64.wrap (((b.k.toNat * p.S : Nat) : Int) + (b.y + (r : Int)) + p.re) = ((b.k.toNat * p.S + ((b.y + p.re).toNat + r) : Nat) : Int)
  a4 : IntKind.i64.wrap (((b.k.toNat * p.S + ((b.y + p.re).toNat + r) : Nat) : Int) * (2 * p.re + 1)) = (((b.k.toNat * p.S + ((b.y + p.re).toNat + r)) * p.S : Nat) : Int)
  a5 : IntKind.i64.wrap ((((b.k.toNat * p.S + ((b.y + p.re).toNat + r)) * p.S : Nat) : Int) + (b.x + (c : Int))) = (((b.k.toNat * p.S + ((b.y + p.re).toNat + r)) * p.S : Nat) : Int) + (b.x + (c : Int))
  a6 : IntKind.i64.wrap ((((b.k.toNat * p.S + ((b.y + p.re).toNat + r)) * p.S : Nat) : Int) + (b.x + (c : Int)) + p.re) = (e : Int)
  a7 : e < p.N
theorem parW {p : Prob} {b : Blc} (h : p.ok) (hb : blkOk p b) {r c : Nat} (hr : r < htM p b) (hc : c < wdM p b) : ParW p b r c (cellAt p b (r * wdM p b + c)) := by
  obtain ⟨hs, hk, hn, r0, r1, k1, k2⟩ := winOk h
  obtain ⟨bk, bkk, by', bx, wd, ht, w1, h1, wS, hS⟩ := blkW h hb
  rw [cell_eq p b hc]
  have hl := ix_lt (S := p.S) (K := p.K) (k := b.k.toNat) (r := (b.y + p.re).toNat + r) (c := (b.x + p.re).toNat + c) bkk (by omega) (by omega)
  have hN : p.N = p.S * (p.S * p.K) := rfl
  rw [← hN] at hl
  have hix : ix p.S b.k.toNat ((b.y + p.re).toNat + r) ((b.x + p.re).toNat + c) = (b.k.toNat * p.S + ((b.y + p.re).toNat + r)) * p.S + ((b.x + p.re).toNat + c) := rfl
  have e1 : ((b.k.toNat * p.S : Nat) : Int) = b.k * (2 * p.re + 1) := by rw [Int.natCast_mul, bk, hs]
  have e2 : (((b.k.toNat * p.S + ((b.y + p.re).toNat + r)) * p.S : Nat) : Int) = ((b.k.toNat * p.S + ((b.y + p.re).toNat + r) : Nat) : Int) * (2 * p.re + 1) := by rw [Int.natCast_mul, hs]
  have l1 : b.k.toNat * p.S ≤ 256 * 63 := Nat.mul_le_mul (by omega) (by omega)
  have hb2 := hb.1
  obtain ⟨c1, c2, c3, c4, c5, c6⟩ := hb2
  simp only at c1 c2 c3 c4 c5 c6
  refine ⟨?_, w64 (by omega) (by omega), ?_, ?_, w64 (by omega) (by omega), ?_, hl⟩
  · rw [← e1]; exact w64 (by omega) (by omega)
  · rw [w64 (by omega) (by omega)]; omega
  · rw [← e2]; exact w64 (by omega) (by omega)
  · rw [w64 (by omega) (by omega), hix]; omega
theorem nodup_le : ∀ (n : Nat) (l : List Nat), l.Nodup → (∀ x ∈ l, x < n) → l.length ≤ n
  | 0, l, _, h => by
    cases l with
    | nil => exact Nat.le_refl _
    | cons a t => exact absurd (h a (List.mem_cons_self ..)) (by omega)
  | n + 1, l, hn, h => by
    by_cases hm : n ∈ l
    · have h1 := nodup_le n (l.erase n) (hn.erase n) (fun x hx => by
        have := hn.mem_erase_iff.1 hx
        have := h x this.2
        omega)
      have h2 := List.length_erase_of_mem hm
      have h3 := List.length_pos_of_mem hm
      omega
    · have := nodup_le n l hn (fun x hx => by
        have := h x hx
        have : x ≠ n := fun e => hm (e ▸ hx)
        omega)
      omega
theorem visAll_lt {p : Prob} (h : p.ok) {bl : List Blc} (hv : ∀ i, i < bl.length → blkOk p (bl.getD i Blc.z)) : ∀ x ∈ visAll p bl, x < p.N := by
  intro x hx
  unfold visAll at hx
  obtain ⟨b, hb, hx⟩ := List.mem_flatMap.1 hx
  obtain ⟨i, hi, rfl⟩ := List.getElem_of_mem hb
  have hk := hv i hi
  rw [List.getD_eq_getElem?_getD, List.getElem?_eq_getElem hi] at hk
  simp only [Option.getD_some] at hk
  unfold cellsOf cellsN at hx
  obtain ⟨t, ht, rfl⟩ := List.mem_map.1 hx
  rw [List.mem_range] at ht
  have w1 := (blkW h hk).w1
  have e : t = t / wdM p bl[i] * wdM p bl[i] + t % wdM p bl[i] := (Nat.div_add_mod' t _).symm
  have := (parW h hk (r := t / wdM p bl[i]) (c := t % wdM p bl[i]) (by rw [Nat.div_lt_iff_lt_mul (by omega)]; exact ht) (Nat.mod_lt _ (by omega))).a7
  rw [← e] at this
  exact this
end Go.Proofs.YtbibplkhhdomnaaGreat
namespace Go.Proofs.YtbibplkhhdomnaaGreat
open Nat (reduceAdd reduceSub reduceMul reduceEqDiff reduceLeDiff reduceLT)
open Go Go.K
set_option maxRecDepth 20000
set_option maxHeartbeats 8000000
theorem part_pure (p : Prob) (h : p.ok) (bl : List Blc) (hl : (bl.length : Int) < 4611686018427387904) (hv : ∀ i, i < bl.length → blkOk p (bl.getD i Blc.z)) : Pure Tryz.prog 21 [.agg (encP p), .sl (bl.map enBl)] (.bool (partM p bl)) := by
  obtain ⟨hs, hk, hn, r0, r1, k1, k2⟩ := winOk h
  obtain ⟨s1, s2⟩ := side_in (r := p.re) ⟨r0, r1⟩
  obtain ⟨w1, w2⟩ := win_in (c := p.ct) (r := p.re) ⟨by omega, by omega⟩ ⟨r0, r1⟩
  have hNi : p.ct * (2 * p.re + 1) * (2 * p.re + 1) = ((p.N : Nat) : Int) := by
    unfold Prob.N
    rw [Int.natCast_mul, Int.natCast_mul, hs, hk, Int.mul_comm (2 * p.re + 1) ((2 * p.re + 1) * p.ct), Int.mul_comm (2 * p.re + 1) p.ct]
  replace w2 := w2.trans hNi
  have hla := fun b hb => last_pure p b h hb
  have hpw := fun b hb r c => @parW p b h hb r c
  have hbw := fun b hb => @blkW p b h hb
  have hsub := @vis_sub p bl
  have hmem := visAll_lt h hv
  have hz0 := seen_zero p.N
  have hnx := @vis_next p bl
  have hsc := vis_succ p bl
  have hfin : partM p bl = decide ((vis p bl bl.length 0).Nodup ∧ (vis p bl bl.length 0).length = p.N) := by rw [vis_end]; rfl
  have hbad : ∀ i t, i < bl.length → t ≤ htM p (bl.getD i Blc.z) * wdM p (bl.getD i Blc.z) → ¬ (vis p bl i t).Nodup → partM p bl = false := fun i t h1 h2 h3 => by
    unfold partM
    rw [decide_eq_false_iff_not]
    exact fun h => h3 (List.Nodup.sublist (hsub h1 h2) h.1)
  have hv0 := vis_zero p bl
  generalize hP : partM p bl = res at *
  generalize hnn : p.N = n at *
  have m0 : (0 : Int) ≤ (n : Int) := by omega
  have m1 : (n : Int) ≤ ((maxLen : Nat) : Int) := by unfold maxLen; omega
  have m2 : 1 * n ≤ 281474976710656 := by omega
  have m3 : n ≤ 281474976710656 := by omega
  simp only [encP, enBl] at hla ⊢
  (refine pure_of_ev tt_ok Tryz.func21 rfl (by decide +kernel) (Nat.le_of_ble_eq_true rfl) ?_; simp only [Tryz.f21])
  repeat' first
    | refine ev_seq (fun K hK => ?_)
    | ((first | refine evrd (id := 2) hmix tt_ok false [([], false), ([], false), ([], false), ([], false), ([], false), ([], false), ([], false), ([], true), ([7], false), ([7], false), ([7], false), ([7], false), ([7], false), ([7], false), ([7], false), ([], false), ([], false)] (by decide +kernel) ?_ | refine evr tt_ok false ?_ | refine ev_skip ?_ | refine ev_ret ?_ | refine ev_exit ?_ | refine evc (fun X Y hX hY => ?_)); simp only [go_sem, reduceAdd, reduceSub, reduceMul, reduceEqDiff, reduceLeDiff, Nat.reduceBEq, reduceLT, reduceIte, reduceCtorEq, Int.reduceToNat, s1, s2, w1, w2, m0, m1, m2, m3, hz0, List.length_map, Int.toNat_natCast, Nat.one_mul]; try (first | (refine ⟨fun h => hX ?_, fun h => hY ?_⟩; clear hX hY) | (refine hX ?_; clear hX hY) | (refine hY ?_; clear hX hY)))
    | refine ev_block ?_
    | (apply hK; clear hK)
    | apply_assumption -exfalso -symm only [*]
    | (refine And.intro ?_ ?_; first | omega | assumption | (unfold maxLen; omega) | (simp only [decide_eq_true_eq, decide_eq_false_iff_not, Int.not_lt, Int.not_le] at h; omega))
  refine ev_loop (fun i : Nat => i ≤ bl.length ∧ (vis p bl i 0).Nodup ∧ (vis p bl i 0).length ≤ n)
    (fun i => ⟨88, [(36, .int .i64 (i : Int)), (35, .int .i64 (bl.length : Int)), (34, .sl (bl.map enBl)), (7, .int .i64 ((n : Int) - ((vis p bl i 0).length : Int))), (6, .rs 1 0 0 n), (5, .int .i64 (2 * p.re + 1)), (2, .own 0 0 0 0)],
      [.blk 37 0 11 [[.int .i64 p.f.x, .int .i64 p.f.y, .int .i64 p.f.w, .int .i64 p.f.h, .sl (p.f.v.map enB), .sl (p.s.map enBm), .int .i64 p.cx, .int .i64 p.cy, .int .i64 p.fr, .int .i64 p.ct, .int .i64 p.re]], .blk 4 0 1 (seenR n (vis p bl i 0))]⟩)
    (fun i => bl.length - i) 0 ⟨Nat.zero_le _, by rw [hv0]; exact List.nodup_nil, by rw [hv0]; exact Nat.zero_le _⟩ ?_ ?_
  · rw [hv0]
    have e0 : (n : Int) - ((([] : List Nat).length : Nat) : Int) = (n : Int) := by simp
    rw [e0]
    simp only [go_sem, reduceAdd, reduceSub, reduceMul, reduceEqDiff, reduceLeDiff, Nat.reduceBEq, reduceLT, reduceIte, reduceCtorEq, Int.reduceToNat, fits, fitT, fitOs, fitO, V.under, unders, rowsUnder]
    repeat' first | rfl | exact rowsUnder_lit _ (lit_seen _ _) | (simp only [V.under, unders, rowsUnder, Nat.reduceLT]; done) | apply And.intro
  · rintro i ⟨hi, hnd, hle⟩
    have hb0 : 0 ≤ (i : Int) := by omega
    have hw : IntKind.i64.wrap ((i : Int) + 1) = ((i + 1 : Nat) : Int) := by rw [w64] <;> omega
    by_cases hlt : (i : Int) < bl.length
    · have hil : i < bl.length := by omega
      have hg := blc_get bl i
      have hbk := hv i hil
      have la := hla _ hbk
      have pw := hpw _ hbk
      have hbd := hbad i
      have hsub2 := fun t ht => hsub (i := i) (t := t) hil ht
      have hn2 := hnx hil
      have hsc2 := hsc i
      obtain ⟨bk, bkk, by', bx, wd, ht, wd1, ht1, wS, hS⟩ := hbw _ hbk
      generalize bl.getD i Blc.z = b at *
      have hb4 := hbk.1
      obtain ⟨c1, c2, c3, c4, c5, c6⟩ := hb4
      simp only at c1 c2 c3 c4 c5 c6
      repeat' first
        | refine ev_seq (fun K hK => ?_)
        | ((first | refine evrd (id := 2) hmix tt_ok false [([], false), ([], false), ([], false), ([], false), ([], false), ([], false), ([], false), ([], true), ([7], false), ([7], false), ([7], false), ([7], false), ([7], false), ([7], false), ([7], false), ([], false), ([], false)] (by decide +kernel) ?_ | refine evr tt_ok false ?_ | refine ev_skip ?_ | refine ev_ret ?_ | refine ev_exit ?_ | refine evc (fun X Y hX hY => ?_)); simp only [go_sem, reduceAdd, reduceSub, reduceMul, reduceEqDiff, reduceLeDiff, Nat.reduceBEq, reduceLT, reduceIte, reduceCtorEq, Int.reduceToNat, hlt, hb0, hg, Int.toNat_natCast, List.length_map]; try (first | (refine ⟨fun h => hX ?_, fun h => hY ?_⟩; clear hX hY) | (refine hX ?_; clear hX hY) | (refine hY ?_; clear hX hY)))
        | refine ev_block ?_
        | (apply hK; clear hK)
        | apply_assumption -exfalso -symm only [*]
        | (refine And.intro ?_ ?_; first | omega | assumption | (unfold maxLen; omega) | (simp only [decide_eq_true_eq, decide_eq_false_iff_not, Int.not_lt, Int.not_le] at h; omega))
        | ((first | apply callP | apply callPG | apply callP0); (case' hv => (simp only [go_sem, reduceAdd, reduceSub, reduceMul, reduceEqDiff, reduceLeDiff, Nat.reduceBEq, reduceLT, reduceIte, reduceCtorEq, Int.reduceToNat, hlt, hb0, hg, Int.toNat_natCast, List.length_map]; try exact rfl)); (case' hp => (first | refine' la | (refine' (fun hg => ?_); refine' la))); (case' h => ((first | refine evOps_fin ?_ | refine And.intro ?_ (evD_fin ?_) | refine evD_fin ?_) <;> simp only [go_sem, reduceAdd, reduceSub, reduceMul, reduceEqDiff, reduceLeDiff, Nat.reduceBEq, reduceLT, reduceIte, reduceCtorEq, Int.reduceToNat, hlt, hb0, hg, Int.toNat_natCast, List.length_map])))
        | (refine callX ?_; (first | refine evOps_fin ?_ | refine And.intro ?_ (evD_fin ?_) | refine evD_fin ?_) <;> simp only [go_sem, reduceAdd, reduceSub, reduceMul, reduceEqDiff, reduceLeDiff, Nat.reduceBEq, reduceLT, reduceIte, reduceCtorEq, Int.reduceToNat, hlt, hb0, hg, Int.toNat_natCast, List.length_map])
      refine ev_loop (fun r : Nat => r ≤ htM p b ∧ (vis p bl i (r * wdM p b)).Nodup ∧ (vis p bl i (r * wdM p b)).length ≤ n)
        (fun r => ⟨88, [(12, .int .i64 (b.y + (r : Int))), (11, .int .i64 (lastY p b)), (10, .int .i64 (lastX p b)), (9, .own 2 0 0 0), (36, .int .i64 (i : Int)), (35, .int .i64 (bl.length : Int)), (34, .sl (bl.map enBl)), (7, .int .i64 ((n : Int) - ((vis p bl i (r * wdM p b)).length : Int))), (6, .rs 1 0 0 n), (5, .int .i64 (2 * p.re + 1)), (2, .own 0 0 0 0)],
          [.blk 37 0 11 [[.int .i64 p.f.x, .int .i64 p.f.y, .int .i64 p.f.w, .int .i64 p.f.h, .sl (p.f.v.map enB), .sl (p.s.map enBm), .int .i64 p.cx, .int .i64 p.cy, .int .i64 p.fr, .int .i64 p.ct, .int .i64 p.re]], .blk 4 0 1 (seenR n (vis p bl i (r * wdM p b))), .blk 68 0 4 [[.int .i64 b.k, .int .i64 b.y, .int .i64 b.x, .int .i64 b.l]]]⟩)
        (fun r => htM p b - r) 0 ⟨Nat.zero_le _, by rw [Nat.zero_mul]; exact hnd, by rw [Nat.zero_mul]; exact hle⟩ ?_ ?_
      · rw [Nat.zero_mul, show b.y + ((0 : Nat) : Int) = b.y from Int.add_zero _]
        simp only [go_sem, reduceAdd, reduceSub, reduceMul, reduceEqDiff, reduceLeDiff, Nat.reduceBEq, reduceLT, reduceIte, reduceCtorEq, Int.reduceToNat, fits, fitT, fitOs, fitO, V.under, unders, rowsUnder]
        repeat' first | rfl | exact rowsUnder_lit _ (lit_seen _ _) | (simp only [V.under, unders, rowsUnder, Nat.reduceLT]; done) | apply And.intro
      · rintro r ⟨hr, hnd1, hle1⟩
        have hr1 : IntKind.i64.wrap (b.y + (r : Int) + 1) = b.y + ((r + 1 : Nat) : Int) := by rw [w64] <;> omega
        by_cases hrl : b.y + (r : Int) ≤ lastY p b
        · have hrh : r < htM p b := by omega
          repeat' first
            | refine ev_seq (fun K hK => ?_)
            | ((first | refine evrd (id := 2) hmix tt_ok false [([], false), ([], false), ([], false), ([], false), ([], false), ([], false), ([], false), ([], true), ([7], false), ([7], false), ([7], false), ([7], false), ([7], false), ([7], false), ([7], false), ([], false), ([], false)] (by decide +kernel) ?_ | refine evr tt_ok false ?_ | refine ev_skip ?_ | refine ev_ret ?_ | refine ev_exit ?_ | refine evc (fun X Y hX hY => ?_)); simp only [go_sem, reduceAdd, reduceSub, reduceMul, reduceEqDiff, reduceLeDiff, Nat.reduceBEq, reduceLT, reduceIte, reduceCtorEq, Int.reduceToNat, hrl]; try (first | (refine ⟨fun h => hX ?_, fun h => hY ?_⟩; clear hX hY) | (refine hX ?_; clear hX hY) | (refine hY ?_; clear hX hY)))
            | refine ev_block ?_
            | (apply hK; clear hK)
            | apply_assumption -exfalso -symm only [*]
            | (refine And.intro ?_ ?_; first | omega | assumption | (unfold maxLen; omega) | (simp only [decide_eq_true_eq, decide_eq_false_iff_not, Int.not_lt, Int.not_le] at h; omega))
          refine ev_loop (fun c : Nat => c ≤ wdM p b ∧ (vis p bl i (r * wdM p b + c)).Nodup ∧ (vis p bl i (r * wdM p b + c)).length ≤ n)
            (fun c => ⟨88, [(13, .int .i64 (b.x + (c : Int))), (12, .int .i64 (b.y + (r : Int))), (11, .int .i64 (lastY p b)), (10, .int .i64 (lastX p b)), (9, .own 2 0 0 0), (36, .int .i64 (i : Int)), (35, .int .i64 (bl.length : Int)), (34, .sl (bl.map enBl)), (7, .int .i64 ((n : Int) - ((vis p bl i (r * wdM p b + c)).length : Int))), (6, .rs 1 0 0 n), (5, .int .i64 (2 * p.re + 1)), (2, .own 0 0 0 0)],
              [.blk 37 0 11 [[.int .i64 p.f.x, .int .i64 p.f.y, .int .i64 p.f.w, .int .i64 p.f.h, .sl (p.f.v.map enB), .sl (p.s.map enBm), .int .i64 p.cx, .int .i64 p.cy, .int .i64 p.fr, .int .i64 p.ct, .int .i64 p.re]], .blk 4 0 1 (seenR n (vis p bl i (r * wdM p b + c))), .blk 68 0 4 [[.int .i64 b.k, .int .i64 b.y, .int .i64 b.x, .int .i64 b.l]]]⟩)
            (fun c => wdM p b - c) 0 ⟨Nat.zero_le _, hnd1, hle1⟩ ?_ ?_
          · rw [Nat.add_zero, show b.x + ((0 : Nat) : Int) = b.x from Int.add_zero _]
            simp only [go_sem, reduceAdd, reduceSub, reduceMul, reduceEqDiff, reduceLeDiff, Nat.reduceBEq, reduceLT, reduceIte, reduceCtorEq, Int.reduceToNat, fits, fitT, fitOs, fitO, V.under, unders, rowsUnder]
            repeat' first | rfl | exact rowsUnder_lit _ (lit_seen _ _) | (simp only [V.under, unders, rowsUnder, Nat.reduceLT]; done) | apply And.intro
          · rintro c ⟨hc, hnd2, hle2⟩
            have hc1 : IntKind.i64.wrap (b.x + (c : Int) + 1) = b.x + ((c + 1 : Nat) : Int) := by rw [w64] <;> omega
            by_cases hcl : b.x + (c : Int) ≤ lastX p b
            · obtain ⟨a1, a2, a3, a4, a5, a6, a7⟩ := pw r c hrh (show c < wdM p b by omega)
              rw [hnn] at a7
              have hv2 := hsc2 (r * wdM p b + c)
              have htb : r * wdM p b + c + 1 ≤ htM p b * wdM p b := by
                have := lt_mul (w := wdM p b) (h := htM p b) (r := r) (c := c) hrh (by omega)
                rw [Nat.mul_comm (htM p b)]; omega
              have hbb := hbd (r * wdM p b + c + 1) hil htb
              have hcn : r * wdM p b + (c + 1) = r * wdM p b + c + 1 := rfl
              rw [hv2] at hbb
              rw [← hcn] at hv2
              generalize cellAt p b (r * wdM p b + c) = e at *
              generalize vis p bl i (r * wdM p b + c) = L at *
              have sg := seen_get n L a7
              have ss := seen_set n L a7
              have sl := seen_len n L
              have e0 : (0 : Int) ≤ (e : Int) := by omega
              have e1 : (e : Int) < (n : Int) := by omega
              by_cases hm : e ∈ L
              · rw [decide_eq_true hm] at sg
                have hR := hbb (not_snoc hm)
                rw [hR]
                repeat' first
                  | refine ev_seq (fun K hK => ?_)
                  | ((first | refine evrd (id := 2) hmix tt_ok false [([], false), ([], false), ([], false), ([], false), ([], false), ([], false), ([], false), ([], true), ([7], false), ([7], false), ([7], false), ([7], false), ([7], false), ([7], false), ([7], false), ([], false), ([], false)] (by decide +kernel) ?_ | refine evr tt_ok false ?_ | refine ev_skip ?_ | refine ev_ret ?_ | refine ev_exit ?_ | refine evc (fun X Y hX hY => ?_)); simp only [go_sem, reduceAdd, reduceSub, reduceMul, reduceEqDiff, reduceLeDiff, Nat.reduceBEq, reduceLT, reduceIte, reduceCtorEq, Int.reduceToNat, hcl, a1, a2, a3, a4, a5, a6, a7, e0, e1, sg, sl, Int.toNat_natCast, Nat.zero_add, Nat.sub_zero, Nat.le_refl]; try (first | (refine ⟨fun h => hX ?_, fun h => hY ?_⟩; clear hX hY) | (refine hX ?_; clear hX hY) | (refine hY ?_; clear hX hY)))
                  | refine ev_block ?_
                  | (apply hK; clear hK)
                  | apply_assumption -exfalso -symm only [*]
                  | (refine And.intro ?_ ?_; first | omega | assumption | (unfold maxLen; omega) | (simp only [decide_eq_true_eq, decide_eq_false_iff_not, Int.not_lt, Int.not_le] at h; omega))
              · rw [decide_eq_false hm] at sg
                have hnd3 := nodup_snoc hnd2 hm
                have hle3 : (L ++ [e]).length ≤ n := nodup_le n _ hnd3 (fun x hx => hmem x ((hsub2 (r * wdM p b + c + 1) htb).subset (by rw [← hcn, hv2]; exact hx)))
                have hlL : (L ++ [e]).length = L.length + 1 := by simp
                have wl : IntKind.i64.wrap ((n : Int) - (L.length : Int) - 1) = (n : Int) - (((L ++ [e]).length : Nat) : Int) := by
                  rw [w64] <;> omega
                repeat' first
                  | refine ev_seq (fun K hK => ?_)
                  | ((first | refine evrd (id := 2) hmix tt_ok false [([], false), ([], false), ([], false), ([], false), ([], false), ([], false), ([], false), ([], true), ([7], false), ([7], false), ([7], false), ([7], false), ([7], false), ([7], false), ([7], false), ([], false), ([], false)] (by decide +kernel) ?_ | refine evr tt_ok false ?_ | refine ev_skip ?_ | refine ev_ret ?_ | refine ev_exit ?_ | refine evc (fun X Y hX hY => ?_)); simp only [go_sem, reduceAdd, reduceSub, reduceMul, reduceEqDiff, reduceLeDiff, Nat.reduceBEq, reduceLT, reduceIte, reduceCtorEq, Int.reduceToNat, hcl, hc1, a1, a2, a3, a4, a5, a6, a7, e0, e1, sg, ss, sl, wl, Int.toNat_natCast, Nat.zero_add, Nat.sub_zero, Nat.le_refl]; try (first | (refine ⟨fun h => hX ?_, fun h => hY ?_⟩; clear hX hY) | (refine hX ?_; clear hX hY) | (refine hY ?_; clear hX hY)))
                  | refine ev_block ?_
                  | (apply hK; clear hK)
                  | apply_assumption -exfalso -symm only [*]
                  | (refine And.intro ?_ ?_; first | omega | assumption | (unfold maxLen; omega) | (simp only [decide_eq_true_eq, decide_eq_false_iff_not, Int.not_lt, Int.not_le] at h; omega))
                refine ⟨c + 1, ⟨by omega, by rw [hv2]; exact hnd3, by rw [hv2]; exact hle3⟩, ?_, by omega⟩
                rw [hv2]
                repeat' first | rfl | (rw [hlL]; done) | exact rowsUnder_lit _ (lit_seen _ _) | (simp only [V.under, unders, rowsUnder, Nat.reduceLT]; done) | apply And.intro
            · have hce : c = wdM p b := by omega
              have he : r * wdM p b + c = (r + 1) * wdM p b := by rw [hce, Nat.succ_mul]
              rw [he] at hnd2 hle2 ⊢
              repeat' first
                | refine ev_seq (fun K hK => ?_)
                | ((first | refine evrd (id := 2) hmix tt_ok false [([], false), ([], false), ([], false), ([], false), ([], false), ([], false), ([], false), ([], true), ([7], false), ([7], false), ([7], false), ([7], false), ([7], false), ([7], false), ([7], false), ([], false), ([], false)] (by decide +kernel) ?_ | refine evr tt_ok false ?_ | refine ev_skip ?_ | refine ev_ret ?_ | refine ev_exit ?_ | refine evc (fun X Y hX hY => ?_)); simp only [go_sem, reduceAdd, reduceSub, reduceMul, reduceEqDiff, reduceLeDiff, Nat.reduceBEq, reduceLT, reduceIte, reduceCtorEq, Int.reduceToNat, hcl, hr1]; try (first | (refine ⟨fun h => hX ?_, fun h => hY ?_⟩; clear hX hY) | (refine hX ?_; clear hX hY) | (refine hY ?_; clear hX hY)))
                | refine ev_block ?_
                | (apply hK; clear hK)
                | apply_assumption -exfalso -symm only [*]
                | (refine And.intro ?_ ?_; first | omega | assumption | (unfold maxLen; omega) | (simp only [decide_eq_true_eq, decide_eq_false_iff_not, Int.not_lt, Int.not_le] at h; omega))
              refine ⟨r + 1, ⟨by omega, hnd2, hle2⟩, ?_, by omega⟩
              repeat' first | rfl | exact rowsUnder_lit _ (lit_seen _ _) | (simp only [V.under, unders, rowsUnder, Nat.reduceLT]; done) | apply And.intro
        · have hre : r = htM p b := by omega
          rw [hre, hn2] at hnd1 hle1 ⊢
          rw [hre] at hrl
          repeat' first
            | refine ev_seq (fun K hK => ?_)
            | ((first | refine evrd (id := 2) hmix tt_ok false [([], false), ([], false), ([], false), ([], false), ([], false), ([], false), ([], false), ([], true), ([7], false), ([7], false), ([7], false), ([7], false), ([7], false), ([7], false), ([7], false), ([], false), ([], false)] (by decide +kernel) ?_ | refine evr tt_ok false ?_ | refine ev_skip ?_ | refine ev_ret ?_ | refine ev_exit ?_ | refine evc (fun X Y hX hY => ?_)); simp only [go_sem, reduceAdd, reduceSub, reduceMul, reduceEqDiff, reduceLeDiff, Nat.reduceBEq, reduceLT, reduceIte, reduceCtorEq, Int.reduceToNat, hrl, hw]; try (first | (refine ⟨fun h => hX ?_, fun h => hY ?_⟩; clear hX hY) | (refine hX ?_; clear hX hY) | (refine hY ?_; clear hX hY)))
            | refine ev_block ?_
            | (apply hK; clear hK)
            | apply_assumption -exfalso -symm only [*]
            | (refine And.intro ?_ ?_; first | omega | assumption | (unfold maxLen; omega) | (simp only [decide_eq_true_eq, decide_eq_false_iff_not, Int.not_lt, Int.not_le] at h; omega))
          refine ⟨i + 1, ⟨by omega, hnd1, hle1⟩, ?_, by omega⟩
          repeat' first | rfl | exact rowsUnder_lit _ (lit_seen _ _) | (simp only [V.under, unders, rowsUnder, Nat.reduceLT]; done) | apply And.intro
    · obtain rfl : i = bl.length := by omega
      have hd : decide ((vis p bl bl.length 0).Nodup ∧ (vis p bl bl.length 0).length = n) = ((n : Int) - ((vis p bl bl.length 0).length : Int) == 0) := by
        rw [Bool.eq_iff_iff, decide_eq_true_eq, beq_iff_eq]
        exact ⟨fun h => by have := h.2; omega, fun h => ⟨hnd, by omega⟩⟩
      repeat' first
        | refine ev_seq (fun K hK => ?_)
        | ((first | refine evrd (id := 2) hmix tt_ok false [([], false), ([], false), ([], false), ([], false), ([], false), ([], false), ([], false), ([], true), ([7], false), ([7], false), ([7], false), ([7], false), ([7], false), ([7], false), ([7], false), ([], false), ([], false)] (by decide +kernel) ?_ | refine evr tt_ok false ?_ | refine ev_skip ?_ | refine ev_ret ?_ | refine ev_exit ?_ | refine evc (fun X Y hX hY => ?_)); simp only [go_sem, reduceAdd, reduceSub, reduceMul, reduceEqDiff, reduceLeDiff, Nat.reduceBEq, reduceLT, reduceIte, reduceCtorEq, Int.reduceToNat, hlt]; try (first | (refine ⟨fun h => hX ?_, fun h => hY ?_⟩; clear hX hY) | (refine hX ?_; clear hX hY) | (refine hY ?_; clear hX hY)))
        | refine ev_block ?_
        | (apply hK; clear hK)
        | apply_assumption -exfalso -symm only [*]
        | (refine And.intro ?_ ?_; first | omega | assumption | (unfold maxLen; omega) | (simp only [decide_eq_true_eq, decide_eq_false_iff_not, Int.not_lt, Int.not_le] at h; omega))
      rw [hfin, hd]
end Go.Proofs.YtbibplkhhdomnaaGreat

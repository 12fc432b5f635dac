import Derived.Test.YtbibplkhhdomnaaGreatW18
import Derived.Test.YtbibplkhhdomnaaGreatW21
set_option linter.all false
namespace Go.Proofs.YtbibplkhhdomnaaGreat
open Nat (reduceAdd reduceSub reduceMul reduceEqDiff reduceLeDiff reduceLT)
open Go Go.K
set_option maxRecDepth 20000
set_option maxHeartbeats 8000000
def enK (k : Nat) : List V := [.int .i64 (k : Int)]
theorem lit_enK (l : List Nat) : litRows (l.map enK) = true := litRows_map (fun _ => rfl) l
theorem enK_get (L : List Nat) (i : Nat) : (L.map enK).getD i [.int .i64 0] = [.int .i64 (((L.getD i 0) : Nat) : Int)] := getD_map (f := enK) (d := 0) rfl
def rowOf (p : Prob) (d : Bool) (k : Nat) : List V := if d then [.sl ((endsM p k).map enCl)] else [.emp]
def srow (p : Prob) (d : Nat → Bool) : List (List V) := (List.range p.ct.toNat).map fun k => rowOf p (d k) k
theorem srow_len (p : Prob) (d : Nat → Bool) : (srow p d).length = p.ct.toNat := by simp [srow]
theorem lit_row (p : Prob) (d : Bool) (k : Nat) : lits (rowOf p d k) = true := by unfold rowOf; cases d <;> rfl
theorem lit_srow (p : Prob) (d : Nat → Bool) : litRows (srow p d) = true := litRows_map (fun k => lit_row p (d k) k) _
theorem srow_get (p : Prob) (d : Nat → Bool) {k : Nat} (hk : k < p.ct.toNat) (hd : d k = true) (z : List V) : (srow p d).getD k z = [.sl ((endsM p k).map enCl)] := by
  unfold srow
  rw [List.getD_eq_getElem?_getD, List.getElem?_map, List.getElem?_range hk]
  simp [rowOf, hd]
theorem srow_zero (p : Prob) : srow p (fun _ => false) = List.replicate p.ct.toNat [.emp] := by
  refine List.ext_getElem? fun j => ?_
  unfold srow
  rw [List.getElem?_map, List.getElem?_replicate]
  by_cases hj : j < p.ct.toNat
  · rw [List.getElem?_range hj, if_pos hj]; rfl
  · rw [if_neg hj, List.getElem?_eq_none (by simp; omega)]; rfl
theorem srow_set (p : Prob) (d : Nat → Bool) {k : Nat} (hk : k < p.ct.toNat) : (srow p d).set k [.sl ((endsM p k).map enCl)] = srow p (fun i => d i || i == k) := by
  refine List.ext_getElem? fun j => ?_
  by_cases hj : j < p.ct.toNat
  · by_cases e : k = j
    · subst e
      rw [List.getElem?_set_self (by rw [srow_len]; exact hk)]
      unfold srow
      rw [List.getElem?_map, List.getElem?_range hk]
      simp [rowOf]
    · rw [List.getElem?_set_ne e]
      unfold srow
      rw [List.getElem?_map, List.getElem?_map, List.getElem?_range hj]
      have : (j == k) = false := by rw [beq_eq_false_iff_ne]; exact fun h => e h.symm
      simp [this]
  · rw [List.getElem?_eq_none (by rw [List.length_set, srow_len]; omega), List.getElem?_eq_none (by rw [srow_len]; omega)]
def hasK (ks : List Nat) (j : Nat) (i : Nat) : Bool := (ks.take j).contains i
theorem hasK_zero (ks : List Nat) : hasK ks 0 = fun _ => false := by funext i; simp [hasK]
theorem hasK_succ (ks : List Nat) {j : Nat} (h : j < ks.length) : (fun i => hasK ks j i || i == ks.getD j 0) = hasK ks (j + 1) := by
  funext i
  unfold hasK
  rw [take_getD h 0, Bool.eq_iff_iff]
  simp
theorem srow_one (p : Prob) (d : Nat → Bool) {k : Nat} (hk : k < p.ct.toNat) (x : V) : ((srow p d).getD k [.emp]).set 0 x = [x] := by
  unfold srow
  rw [List.getD_eq_getElem?_getD, List.getElem?_map, List.getElem?_range hk]
  cases h : d k <;> simp [rowOf, h]
def seaV (p : Prob) (d : Nat → Bool) : List V := [.int .i64 p.f.x, .int .i64 p.f.y, .int .i64 p.f.w, .int .i64 p.f.h, .sl (p.f.v.map enB), .sl (p.s.map enBm), .int .i64 p.cx, .int .i64 p.cy, .int .i64 p.fr, .int .i64 p.ct, .int .i64 p.re, .pi (pyrV p.f) 0, .sl (srow p d)]
theorem begin_pure (p : Prob) (h : p.ok) (hb : bytesL p.f.v) (ks : List Nat) (hk : ∀ j, j < ks.length → ((ks.getD j 0 : Nat) : Int) < p.ct) (hl : ks.length ≤ 256) : Pure Tryz.prog 15 [.agg (encP p), .sl (ks.map enK)] (.pi (seaV p (hasK ks ks.length)) 0) := by
  obtain ⟨h1, h2, h3, h4, h5, h6, h7⟩ := id h
  obtain ⟨a1, a2, a3, a4, a5⟩ := h3
  simp only at a1 a2 a3 a4
  have np := new_pure p.f h1 hb
  have hz : List.replicate p.ct.toNat [V.emp] = srow p (hasK ks 0) := by rw [hasK_zero, srow_zero]
  have m0 : (0 : Int) ≤ p.ct := by omega
  have m1 : p.ct ≤ ((maxLen : Nat) : Int) := by unfold maxLen; omega
  have m2 : 24 * p.ct.toNat ≤ 281474976710656 := by omega
  have hlen := fun d => srow_len p d
  have hD := pyr_len p.f
  have me := mends_pure p h
  simp only [encP, seaV] at *
  generalize pyrV p.f = D at *
  (refine pure_of_ev tt_ok Tryz.func15 rfl (by decide +kernel) (Nat.le_of_ble_eq_true rfl) ?_; simp only [Tryz.f15])
  repeat' first
    | refine ev_seq (fun K hK => ?_)
    | ((first | refine evrd (id := 2) hmix tt_ok false [([], true), ([], true), ([], false), ([], false), ([], false), ([0, 1], false), ([], false), ([], false), ([], false)] (by decide +kernel) ?_ | refine evrd (id := 6) hmix tt_ok false [([], true), ([], true), ([], true), ([], true), ([], true), ([], false), ([], false), ([0, 1, 2, 3, 4], false), ([], false), ([], false)] (by decide +kernel) ?_ | refine evr tt_ok false ?_ | refine ev_skip ?_ | refine ev_ret ?_ | refine ev_exit ?_ | refine evc (fun X Y hX hY => ?_)); simp only [go_sem, reduceAdd, reduceSub, reduceMul, reduceEqDiff, reduceLeDiff, Nat.reduceBEq, reduceLT, reduceIte, reduceCtorEq, Int.reduceToNat, List.length_map, m0, m1, m2, hz]; try (first | (refine ⟨fun h => hX ?_, fun h => hY ?_⟩; clear hX hY) | (refine hX ?_; clear hX hY) | (refine hY ?_; clear hX hY)))
    | refine ev_block ?_
    | (apply hK; clear hK)
    | apply_assumption -exfalso -symm only [*]
    | (refine And.intro ?_ ?_; first | omega | assumption | (unfold maxLen; omega) | (simp only [decide_eq_true_eq, decide_eq_false_iff_not, Int.not_lt, Int.not_le] at h; omega))
    | ((first | apply callP | apply callPG | apply callP0); (case' hv => (simp only [go_sem, reduceAdd, reduceSub, reduceMul, reduceEqDiff, reduceLeDiff, Nat.reduceBEq, reduceLT, reduceIte, reduceCtorEq, Int.reduceToNat, List.length_map, m0, m1, m2, hz]; try exact rfl)); (case' hp => (first | refine' np | (refine' (fun hg => ?_); refine' np))); (case' h => ((first | refine evOps_fin ?_ | refine And.intro ?_ (evD_fin ?_) | refine evD_fin ?_) <;> simp only [go_sem, reduceAdd, reduceSub, reduceMul, reduceEqDiff, reduceLeDiff, Nat.reduceBEq, reduceLT, reduceIte, reduceCtorEq, Int.reduceToNat, List.length_map, m0, m1, m2, hz])))
    | (refine callX ?_; (first | refine evOps_fin ?_ | refine And.intro ?_ (evD_fin ?_) | refine evD_fin ?_) <;> simp only [go_sem, reduceAdd, reduceSub, reduceMul, reduceEqDiff, reduceLeDiff, Nat.reduceBEq, reduceLT, reduceIte, reduceCtorEq, Int.reduceToNat, List.length_map, m0, m1, m2, hz])
  refine ev_loop (fun j : Nat => j ≤ ks.length)
    (fun j => ⟨41, [(26, .int .i64 (j : Int)), (25, .int .i64 (ks.length : Int)), (24, .sl (ks.map enK)), (7, .own 2 0 0 0), (2, .own 0 0 0 0)],
      [.blk 37 0 11 [[.int .i64 p.f.x, .int .i64 p.f.y, .int .i64 p.f.w, .int .i64 p.f.h, .sl (p.f.v.map enB), .sl (p.s.map enBm), .int .i64 p.cx, .int .i64 p.cy, .int .i64 p.fr, .int .i64 p.ct, .int .i64 p.re]], .blk 85 0 1 (srow p (hasK ks j)), .blk 105 0 13 [[.int .i64 p.f.x, .int .i64 p.f.y, .int .i64 p.f.w, .int .i64 p.f.h, .sl (p.f.v.map enB), .sl (p.s.map enBm), .int .i64 p.cx, .int .i64 p.cy, .int .i64 p.fr, .int .i64 p.ct, .int .i64 p.re, .pi D 0, .rs 1 0 0 p.ct.toNat]]]⟩)
    (fun j => ks.length - j) 0 (Nat.zero_le _) ?_ ?_
  · simp only [go_sem, reduceAdd, reduceSub, reduceMul, reduceEqDiff, reduceLeDiff, Nat.reduceBEq, reduceLT, reduceIte, reduceCtorEq, Int.reduceToNat, fits, fitT, fitOs, fitO, V.under, unders, rowsUnder]
    repeat' first | rfl | exact rowsUnder_lit _ (lit_srow _ _) | (simp only [V.under, unders, rowsUnder, Nat.reduceLT]; done) | apply And.intro
  · intro j hj
    have hb0 : 0 ≤ (j : Int) := by omega
    have hw : IntKind.i64.wrap ((j : Int) + 1) = ((j + 1 : Nat) : Int) := by rw [w64] <;> omega
    by_cases hlt : (j : Int) < ks.length
    · have hg := enK_get ks j
      have hkk := hk j (by omega)
      have hs := srow_set p (hasK ks j) (k := ks.getD j 0) (by omega)
      have hone := srow_one p (hasK ks j) (k := ks.getD j 0) (by omega)
      rw [hasK_succ ks (by omega)] at hs
      generalize ks.getD j 0 = k at *
      have r := me (k : Int) ⟨by omega, hkk⟩
      have k0 : (0 : Int) ≤ (k : Int) := by omega
      have k1 : k < p.ct.toNat := by omega
      have k2 : (k : Int) < ((p.ct.toNat : Nat) : Int) := by omega
      repeat' first
        | refine ev_seq (fun K hK => ?_)
        | ((first | refine evrd (id := 2) hmix tt_ok false [([], true), ([], true), ([], false), ([], false), ([], false), ([0, 1], false), ([], false), ([], false), ([], false)] (by decide +kernel) ?_ | refine evrd (id := 6) hmix tt_ok false [([], true), ([], true), ([], true), ([], true), ([], true), ([], false), ([], false), ([0, 1, 2, 3, 4], false), ([], false), ([], false)] (by decide +kernel) ?_ | refine evr tt_ok false ?_ | refine ev_skip ?_ | refine ev_ret ?_ | refine ev_exit ?_ | refine evc (fun X Y hX hY => ?_)); simp only [go_sem, reduceAdd, reduceSub, reduceMul, reduceEqDiff, reduceLeDiff, Nat.reduceBEq, reduceLT, reduceIte, reduceCtorEq, Int.reduceToNat, List.length_map, hb0, hw, hlt, hg, k0, k1, k2, hs, hlen, Int.toNat_natCast, Nat.zero_add, Nat.sub_zero, Nat.le_refl]; try (first | (refine ⟨fun h => hX ?_, fun h => hY ?_⟩; clear hX hY) | (refine hX ?_; clear hX hY) | (refine hY ?_; clear hX hY)))
        | refine ev_block ?_
        | (apply hK; clear hK)
        | apply_assumption -exfalso -symm only [*]
        | (refine And.intro ?_ ?_; first | omega | assumption | (unfold maxLen; omega) | (simp only [decide_eq_true_eq, decide_eq_false_iff_not, Int.not_lt, Int.not_le] at h; omega))
        | ((first | apply callP | apply callPG | apply callP0); (case' hv => (simp only [go_sem, reduceAdd, reduceSub, reduceMul, reduceEqDiff, reduceLeDiff, Nat.reduceBEq, reduceLT, reduceIte, reduceCtorEq, Int.reduceToNat, List.length_map, hb0, hw, hlt, hg, k0, k1, k2, hs, hlen, Int.toNat_natCast, Nat.zero_add, Nat.sub_zero, Nat.le_refl]; try exact rfl)); (case' hp => (first | refine' r | (refine' (fun hg => ?_); refine' r))); (case' h => ((first | refine evOps_fin ?_ | refine And.intro ?_ (evD_fin ?_) | refine evD_fin ?_) <;> simp only [go_sem, reduceAdd, reduceSub, reduceMul, reduceEqDiff, reduceLeDiff, Nat.reduceBEq, reduceLT, reduceIte, reduceCtorEq, Int.reduceToNat, List.length_map, hb0, hw, hlt, hg, k0, k1, k2, hs, hlen, Int.toNat_natCast, Nat.zero_add, Nat.sub_zero, Nat.le_refl])))
        | (refine callX ?_; (first | refine evOps_fin ?_ | refine And.intro ?_ (evD_fin ?_) | refine evD_fin ?_) <;> simp only [go_sem, reduceAdd, reduceSub, reduceMul, reduceEqDiff, reduceLeDiff, Nat.reduceBEq, reduceLT, reduceIte, reduceCtorEq, Int.reduceToNat, List.length_map, hb0, hw, hlt, hg, k0, k1, k2, hs, hlen, Int.toNat_natCast, Nat.zero_add, Nat.sub_zero, Nat.le_refl])
      refine ⟨j + 1, by omega, ?_, by omega⟩
      repeat' first | rfl | exact rowsUnder_lit _ (lit_srow _ _) | (simp only [V.under, unders, rowsUnder, Nat.reduceLT]; done) | (rw [hone]; exact hs.symm) | apply And.intro
    · obtain rfl : j = ks.length := by omega
      have htk : List.take p.ct.toNat (srow p (hasK ks ks.length)) = srow p (hasK ks ks.length) := List.take_of_length_le (by rw [srow_len]; exact Nat.le_refl _)
      repeat' first
        | refine ev_seq (fun K hK => ?_)
        | ((first | refine evrd (id := 2) hmix tt_ok false [([], true), ([], true), ([], false), ([], false), ([], false), ([0, 1], false), ([], false), ([], false), ([], false)] (by decide +kernel) ?_ | refine evrd (id := 6) hmix tt_ok false [([], true), ([], true), ([], true), ([], true), ([], true), ([], false), ([], false), ([0, 1, 2, 3, 4], false), ([], false), ([], false)] (by decide +kernel) ?_ | refine evr tt_ok false ?_ | refine ev_skip ?_ | refine ev_ret ?_ | refine ev_exit ?_ | refine evc (fun X Y hX hY => ?_)); simp only [go_sem, reduceAdd, reduceSub, reduceMul, reduceEqDiff, reduceLeDiff, Nat.reduceBEq, reduceLT, reduceIte, reduceCtorEq, Int.reduceToNat, hlt, List.length_map, hlen, vrows_lit _ (lit_srow p (hasK ks ks.length)), Nat.le_refl, Nat.sub_zero, htk]; try (first | (refine ⟨fun h => hX ?_, fun h => hY ?_⟩; clear hX hY) | (refine hX ?_; clear hX hY) | (refine hY ?_; clear hX hY)))
        | refine ev_block ?_
        | (apply hK; clear hK)
        | apply_assumption -exfalso -symm only [*]
        | (refine And.intro ?_ ?_; first | omega | assumption | (unfold maxLen; omega) | (simp only [decide_eq_true_eq, decide_eq_false_iff_not, Int.not_lt, Int.not_le] at h; omega))
      all_goals rfl
def cellB (p : Prob) (b : Blc) (c : Cel) : Int := maxM p.f b.l (c.x + b.x) (c.y + b.y)
def boundN (p : Prob) (b : Blc) : Nat → Int := smN fun j => cellB p b ((endsM p b.k).getD j ⟨0, 0⟩)
def boundM (p : Prob) (b : Blc) : Int := boundN p b (endsM p b.k).length
theorem max_byte {f : Fld} (h : f.ok) (hb : bytesL f.v) (l x y : Int) : 0 ≤ maxM f l x y ∧ maxM f l x y ≤ 255 := by
  unfold maxM
  split
  · omega
  · refine at_byte ?_ x y
    exact (lvf_fine h hb (j := l.toNat) (by omega)).2.2.2.2.2.2.2.2.2
theorem ends_len (p : Prob) (k : Int) : (endsM p k).length ≤ p.s.length := endsN_len p k _
theorem ends_at {p : Prob} (h : p.ok) (k : Int) (j : Nat) : -5000 ≤ ((endsM p k).getD j ⟨0, 0⟩).x ∧ ((endsM p k).getD j ⟨0, 0⟩).x ≤ 5000 ∧ -5000 ≤ ((endsM p k).getD j ⟨0, 0⟩).y ∧ ((endsM p k).getD j ⟨0, 0⟩).y ≤ 5000 := by
  rw [List.getD_eq_getElem?_getD]
  by_cases hj : j < (endsM p k).length
  · rw [List.getElem?_eq_getElem hj]
    exact ends_in h k _ (List.getElem_mem hj)
  · rw [List.getElem?_eq_none (by omega)]
    exact ⟨by decide, by decide, by decide, by decide⟩
theorem boundN_in {p : Prob} (h : p.ok) (hb : bytesL p.f.v) (b : Blc) (i : Nat) (hi : i ≤ 32) : 0 ≤ boundN p b i ∧ boundN p b i ≤ 8160 := by
  have := smN_bound (m := 255) (by decide) i (g := fun j => cellB p b ((endsM p b.k).getD j ⟨0, 0⟩)) (fun j hj => max_byte h.1 hb _ _ _)
  have e : boundN p b i = smN (fun j => cellB p b ((endsM p b.k).getD j ⟨0, 0⟩)) i := rfl
  omega
theorem sbound_pure (p : Prob) (h : p.ok) (hb : bytesL p.f.v) (d : Nat → Bool) (b : Blc) (hk : 0 ≤ b.k ∧ b.k < p.ct) (hd : d b.k.toNat = true) (hx : -100 ≤ b.x ∧ b.x ≤ 100) (hy : -100 ≤ b.y ∧ b.y ≤ 100) :
    Pure Tryz.prog 41 [.pi (seaV p d) 0, .agg (enBl b)] (.int .i64 (boundM p b)) := by
  obtain ⟨h1, h2, h3, h4, h5, h6, h7⟩ := id h
  have g1 := srow_get p d (k := b.k.toNat) (by omega) hd [.emp]
  have ek : ((b.k.toNat : Nat) : Int) = b.k := by omega
  rw [ek] at g1
  have hlen := srow_len p d
  have hD := pyr_len p.f
  have pm := fun x y => pmax_pure p.f h1 hb b.l x y
  have hel := ends_len p b.k
  have hsl := h2.1
  have k2 : b.k < ((p.ct.toNat : Nat) : Int) := by omega
  have k3 : b.k.toNat < p.ct.toNat := by omega
  have he := ends_at h b.k
  have hbn := boundN_in h hb b
  unfold boundM
  have hsucc : ∀ i, boundN p b (i + 1) = boundN p b i + maxM p.f b.l (((endsM p b.k).getD i ⟨0, 0⟩).x + b.x) (((endsM p b.k).getD i ⟨0, 0⟩).y + b.y) := fun i => rfl
  have hby := max_byte h1 hb
  have hz0 : boundN p b 0 = 0 := rfl
  generalize endsM p b.k = L at *
  simp only [seaV, enBl]
  generalize srow p d = S at *
  generalize pyrV p.f = D at *
  (refine pure_of_ev tt_ok Tryz.func41 rfl (by decide +kernel) (Nat.le_of_ble_eq_true rfl) ?_; simp only [Tryz.f41])
  repeat' first
    | refine ev_seq (fun K hK => ?_)
    | ((first | refine evrd (id := 2) hmix tt_ok false [([], false), ([], false), ([], false), ([], false), ([], false), ([], false), ([], false), ([], false), ([], false), ([], false)] (by decide +kernel) ?_ | refine evrd (id := 5) hmix tt_ok false [([], true), ([], false), ([], false), ([], false), ([], false), ([], false), ([], false), ([], false), ([], false), ([], false), ([], false), ([], false), ([], false), ([], false), ([], false), ([], false), ([], false), ([0], false), ([], false), ([], false), ([], false)] (by decide +kernel) ?_ | refine evr tt_ok false ?_ | refine ev_skip ?_ | refine ev_ret ?_ | refine ev_exit ?_ | refine evc (fun X Y hX hY => ?_)); simp only [go_sem, reduceAdd, reduceSub, reduceMul, reduceEqDiff, reduceLeDiff, Nat.reduceBEq, reduceLT, reduceIte, reduceCtorEq, Int.reduceToNat, List.length_map, hk.1, k2, k3, hlen, g1]; try (first | (refine ⟨fun h => hX ?_, fun h => hY ?_⟩; clear hX hY) | (refine hX ?_; clear hX hY) | (refine hY ?_; clear hX hY)))
    | refine ev_block ?_
    | (apply hK; clear hK)
    | apply_assumption -exfalso -symm only [*]
    | (refine And.intro ?_ ?_; first | omega | assumption | (unfold maxLen; omega) | (simp only [decide_eq_true_eq, decide_eq_false_iff_not, Int.not_lt, Int.not_le] at h; omega))
  refine ev_loop (fun i : Nat => i ≤ L.length)
    (fun i => ⟨43, [(17, .int .i64 (i : Int)), (16, .int .i64 (L.length : Int)), (15, .sl (L.map enCl)), (5, .int .i64 (boundN p b i)), (3, .own 0 0 0 0), (0, .pi [.int .i64 p.f.x, .int .i64 p.f.y, .int .i64 p.f.w, .int .i64 p.f.h, .sl (p.f.v.map enB), .sl (p.s.map enBm), .int .i64 p.cx, .int .i64 p.cy, .int .i64 p.fr, .int .i64 p.ct, .int .i64 p.re, .pi D 0, .sl S] 0)],
      [.blk 68 0 4 [[.int .i64 b.k, .int .i64 b.y, .int .i64 b.x, .int .i64 b.l]]]⟩)
    (fun i => L.length - i) 0 (Nat.zero_le _) ?_ ?_
  · simp only [go_sem, reduceAdd, reduceSub, reduceMul, reduceEqDiff, reduceLeDiff, Nat.reduceBEq, reduceLT, reduceIte, reduceCtorEq, Int.reduceToNat, fits, fitT, fitOs, fitO, V.under, unders, rowsUnder, hz0]
    repeat' first | rfl | (simp only [V.under, unders, rowsUnder, Nat.reduceLT]; done) | apply And.intro
  · intro i hi
    have hb0 : 0 ≤ (i : Int) := by omega
    have hw : IntKind.i64.wrap ((i : Int) + 1) = ((i + 1 : Nat) : Int) := by rw [w64] <;> omega
    by_cases hlt : (i : Int) < L.length
    · have hg := cel_get L i
      have hc := he i
      have hs := hsucc i
      have n0 := hbn i (by omega)
      have n1 := hbn (i + 1) (by omega)
      generalize L.getD i ⟨0, 0⟩ = c at *
      have w1 : IntKind.i64.wrap (c.x + b.x) = c.x + b.x := w64 (by omega) (by omega)
      have w2 : IntKind.i64.wrap (c.y + b.y) = c.y + b.y := w64 (by omega) (by omega)
      have r := pm (c.x + b.x) (c.y + b.y) ⟨by omega, by omega⟩ ⟨by omega, by omega⟩
      have hm := hby b.l (c.x + b.x) (c.y + b.y)
      generalize maxM p.f b.l (c.x + b.x) (c.y + b.y) = v at *
      have w3 : IntKind.i64.wrap v = v := w64 (by omega) (by omega)
      have w4 : IntKind.i64.wrap (boundN p b i + v) = boundN p b (i + 1) := by rw [w64 (by omega) (by omega), hs]
      repeat' first
        | refine ev_seq (fun K hK => ?_)
        | ((first | refine evrd (id := 2) hmix tt_ok false [([], false), ([], false), ([], false), ([], false), ([], false), ([], false), ([], false), ([], false), ([], false), ([], false)] (by decide +kernel) ?_ | refine evrd (id := 5) hmix tt_ok false [([], true), ([], false), ([], false), ([], false), ([], false), ([], false), ([], false), ([], false), ([], false), ([], false), ([], false), ([], false), ([], false), ([], false), ([], false), ([], false), ([], false), ([0], false), ([], false), ([], false), ([], false)] (by decide +kernel) ?_ | refine evr tt_ok false ?_ | refine ev_skip ?_ | refine ev_ret ?_ | refine ev_exit ?_ | refine evc (fun X Y hX hY => ?_)); simp only [go_sem, reduceAdd, reduceSub, reduceMul, reduceEqDiff, reduceLeDiff, Nat.reduceBEq, reduceLT, reduceIte, reduceCtorEq, Int.reduceToNat, List.length_map, hb0, hw, hlt, hg, w1, w2, w3, w4, Int.toNat_natCast]; try (first | (refine ⟨fun h => hX ?_, fun h => hY ?_⟩; clear hX hY) | (refine hX ?_; clear hX hY) | (refine hY ?_; clear hX hY)))
        | refine ev_block ?_
        | (apply hK; clear hK)
        | apply_assumption -exfalso -symm only [*]
        | (refine And.intro ?_ ?_; first | omega | assumption | (unfold maxLen; omega) | (simp only [decide_eq_true_eq, decide_eq_false_iff_not, Int.not_lt, Int.not_le] at h; omega))
        | ((first | apply callP | apply callPG | apply callP0); (case' hv => (simp only [go_sem, reduceAdd, reduceSub, reduceMul, reduceEqDiff, reduceLeDiff, Nat.reduceBEq, reduceLT, reduceIte, reduceCtorEq, Int.reduceToNat, List.length_map, hb0, hw, hlt, hg, w1, w2, w3, w4, Int.toNat_natCast]; try exact rfl)); (case' hp => (first | refine' r | (refine' (fun hg => ?_); refine' r))); (case' h => ((first | refine evOps_fin ?_ | refine And.intro ?_ (evD_fin ?_) | refine evD_fin ?_) <;> simp only [go_sem, reduceAdd, reduceSub, reduceMul, reduceEqDiff, reduceLeDiff, Nat.reduceBEq, reduceLT, reduceIte, reduceCtorEq, Int.reduceToNat, List.length_map, hb0, hw, hlt, hg, w1, w2, w3, w4, Int.toNat_natCast])))
        | (refine callX ?_; (first | refine evOps_fin ?_ | refine And.intro ?_ (evD_fin ?_) | refine evD_fin ?_) <;> simp only [go_sem, reduceAdd, reduceSub, reduceMul, reduceEqDiff, reduceLeDiff, Nat.reduceBEq, reduceLT, reduceIte, reduceCtorEq, Int.reduceToNat, List.length_map, hb0, hw, hlt, hg, w1, w2, w3, w4, Int.toNat_natCast])
      exact ⟨i + 1, by omega, by (repeat' first | rfl | apply And.intro), by omega⟩
    · obtain rfl : i = L.length := by omega
      repeat' first
        | refine ev_seq (fun K hK => ?_)
        | ((first | refine evrd (id := 2) hmix tt_ok false [([], false), ([], false), ([], false), ([], false), ([], false), ([], false), ([], false), ([], false), ([], false), ([], false)] (by decide +kernel) ?_ | refine evrd (id := 5) hmix tt_ok false [([], true), ([], false), ([], false), ([], false), ([], false), ([], false), ([], false), ([], false), ([], false), ([], false), ([], false), ([], false), ([], false), ([], false), ([], false), ([], false), ([], false), ([0], false), ([], false), ([], false), ([], false)] (by decide +kernel) ?_ | refine evr tt_ok false ?_ | refine ev_skip ?_ | refine ev_ret ?_ | refine ev_exit ?_ | refine evc (fun X Y hX hY => ?_)); simp only [go_sem, reduceAdd, reduceSub, reduceMul, reduceEqDiff, reduceLeDiff, Nat.reduceBEq, reduceLT, reduceIte, reduceCtorEq, Int.reduceToNat, List.length_map, hlt]; try (first | (refine ⟨fun h => hX ?_, fun h => hY ?_⟩; clear hX hY) | (refine hX ?_; clear hX hY) | (refine hY ?_; clear hX hY)))
        | refine ev_block ?_
        | (apply hK; clear hK)
        | apply_assumption -exfalso -symm only [*]
        | (refine And.intro ?_ ?_; first | omega | assumption | (unfold maxLen; omega) | (simp only [decide_eq_true_eq, decide_eq_false_iff_not, Int.not_lt, Int.not_le] at h; omega))
end Go.Proofs.YtbibplkhhdomnaaGreat

import Derived.Test.YtbibplkhhdomnaaGreatW24
import Derived.Test.YtbibplkhhdomnaaGreatW25
import Derived.Test.YtbibplkhhdomnaaGreatW21
set_option linter.all false
namespace Go.Proofs.YtbibplkhhdomnaaGreat
open Go Go.K
theorem ix_of (S j : Nat) : ix S (j / S / S) (j / S % S) (j % S) = j := by
  unfold ix
  rw [Nat.div_add_mod', Nat.div_add_mod']
theorem cell_cnd {p : Prob} {b : Blc} (h : p.ok) (hb : blkOk p b) {t : Nat} (ht : t < htM p b * wdM p b) : cndAt p (cellAt p b t) = ⟨b.k, b.y + ((t / wdM p b : Nat) : Int), b.x + ((t % wdM p b : Nat) : Int)⟩ ∧ t / wdM p b < htM p b ∧ t % wdM p b < wdM p b := by
  obtain ⟨bk, bkk, by', bx, wd, ht', w1, h1, wS, hS⟩ := blkW h hb
  have hr : t / wdM p b < htM p b := by rw [Nat.div_lt_iff_lt_mul (by omega)]; exact ht
  have hc : t % wdM p b < wdM p b := Nat.mod_lt _ (by omega)
  refine ⟨?_, hr, hc⟩
  unfold cellAt
  rw [cnd_at p (by omega) (by omega)]
  simp only [Cnd.mk.injEq]
  omega
theorem cells_nodup {p : Prob} {b : Blc} (h : p.ok) (hb : blkOk p b) : (cellsOf p b).Nodup := by
  unfold cellsOf cellsN List.Nodup
  rw [List.pairwise_map]
  refine (List.pairwise_lt_range).imp_of_mem fun {i j} hi hj hij e => ?_
  rw [List.mem_range] at hi hj
  have ci := cell_cnd h hb hi
  have cj := cell_cnd h hb hj
  rw [e, cj.1] at ci
  have hx := ci.1
  simp only [Cnd.mk.injEq] at hx
  have d1 := Nat.div_add_mod' i (wdM p b)
  have d2 := Nat.div_add_mod' j (wdM p b)
  have q1 : j / wdM p b = i / wdM p b := by omega
  have q2 : j % wdM p b = i % wdM p b := by omega
  rw [q1, q2] at d2
  omega
theorem cnd_in {p : Prob} (h : p.ok) {j : Nat} (hj : j < p.N) : inW p (cndAt p j) := by
  obtain ⟨hs, hk, hn, r0, r1, k1, k2⟩ := winOk h
  have hS : 0 < p.S := by omega
  have h1 : j % p.S < p.S := Nat.mod_lt _ hS
  have h2 : j / p.S % p.S < p.S := Nat.mod_lt _ hS
  have h3 : j / p.S / p.S < p.K := by
    rw [Nat.div_lt_iff_lt_mul hS, Nat.div_lt_iff_lt_mul hS]
    have : p.N = p.S * (p.S * p.K) := rfl
    rw [this] at hj
    rw [Nat.mul_comm p.K p.S, Nat.mul_comm (p.S * p.K) p.S]
    exact hj
  unfold inW cndAt
  simp only
  generalize j / p.S / p.S = a at *
  generalize j / p.S % p.S = b at *
  generalize j % p.S = c at *
  omega
theorem mem_cells {p : Prob} {b : Blc} (h : p.ok) (hb : blkOk p b) {j : Nat} (hj : j < p.N) : j ∈ cellsOf p b ↔ belM b (cndAt p j) := by
  have hz := sz_in hb.2.1 hb.2.2
  have ex : lastX p b = min (b.x + (szM b.l - 1)) p.re := rfl
  have ey : lastY p b = min (b.y + (szM b.l - 1)) p.re := rfl
  obtain ⟨bk, bkk, by', bx, wd, ht', w1, h1, wS, hS⟩ := blkW h hb
  constructor
  · intro hm
    unfold cellsOf cellsN at hm
    obtain ⟨t, ht, rfl⟩ := List.mem_map.1 hm
    rw [List.mem_range] at ht
    obtain ⟨e, hr, hc⟩ := cell_cnd h hb ht
    rw [e]
    unfold belM
    simp only
    generalize t / wdM p b = a at *
    generalize t % wdM p b = c at *
    refine ⟨trivial, ?_, ?_, ?_, ?_⟩ <;> omega
  · intro hm
    have hi := cnd_in h hj
    unfold belM at hm
    unfold inW at hi
    have e : cndAt p j = ⟨((j / p.S / p.S : Nat) : Int), ((j / p.S % p.S : Nat) : Int) - p.re, ((j % p.S : Nat) : Int) - p.re⟩ := rfl
    rw [e] at hm hi
    simp only at hm hi
    unfold cellsOf cellsN
    refine List.mem_map.2 ⟨(j / p.S % p.S - (b.y + p.re).toNat) * wdM p b + (j % p.S - (b.x + p.re).toNat), ?_, ?_⟩
    · rw [List.mem_range, Nat.mul_comm (htM p b)]
      exact lt_mul (by omega) (by omega)
    · rw [cell_eq p b (by omega)]
      rw [show b.k.toNat = j / p.S / p.S by omega, show (b.y + p.re).toNat + (j / p.S % p.S - (b.y + p.re).toNat) = j / p.S % p.S by omega, show (b.x + p.re).toNat + (j % p.S - (b.x + p.re).toNat) = j % p.S by omega]
      exact ix_of _ _
def belN (p : Prob) (b : Blc) (n : Nat) : Nat := ((List.range n).filter fun j => decide (belM b (cndAt p j))).length
end Go.Proofs.YtbibplkhhdomnaaGreat
namespace Go.Proofs.YtbibplkhhdomnaaGreat
open Go Go.K
def belC (bl : List Blc) (c : Cnd) : Nat → Nat
  | 0 => 0
  | k + 1 => belC bl c k + if belM (bl.getD k Blc.z) c then 1 else 0
theorem cells_count {p : Prob} {b : Blc} (h : p.ok) (hb : blkOk p b) {j : Nat} (hj : j < p.N) : (cellsOf p b).count j = if belM b (cndAt p j) then 1 else 0 := by
  rw [(cells_nodup h hb).count]
  by_cases hm : belM b (cndAt p j)
  · rw [if_pos hm, if_pos ((mem_cells h hb hj).2 hm)]
  · rw [if_neg hm, if_neg (fun h' => hm ((mem_cells h hb hj).1 h'))]
theorem vis_count {p : Prob} {bl : List Blc} (h : p.ok) (hv : ∀ i, i < bl.length → blkOk p (bl.getD i Blc.z)) {j : Nat} (hj : j < p.N) : ∀ k, k ≤ bl.length → ((bl.take k).flatMap (cellsOf p)).count j = belC bl (cndAt p j) k
  | 0, _ => by simp [belC]
  | k + 1, hk => by
    rw [take_getD (by omega) Blc.z, List.flatMap_append, List.count_append, vis_count h hv hj k (by omega)]
    simp only [List.flatMap_cons, List.flatMap_nil, List.append_nil]
    rw [cells_count h (hv k (by omega)) hj]; rfl
theorem part_perm {p : Prob} {bl : List Blc} (h : p.ok) (hv : ∀ i, i < bl.length → blkOk p (bl.getD i Blc.z)) : partM p bl = true ↔ (visAll p bl).Perm (List.range p.N) := by
  unfold partM
  rw [decide_eq_true_eq]
  constructor
  · rintro ⟨hn, hl⟩
    rw [List.perm_ext_iff_of_nodup hn List.nodup_range]
    intro a
    rw [List.mem_range]
    refine ⟨fun ha => visAll_lt h hv a ha, fun ha => ?_⟩
    by_cases hm : a ∈ visAll p bl
    · exact hm
    · have := nodup_le p.N (a :: visAll p bl) (List.nodup_cons.2 ⟨hm, hn⟩) (fun x hx => by
        rcases List.mem_cons.1 hx with rfl | hx
        · exact ha
        · exact visAll_lt h hv x hx)
      rw [List.length_cons, hl] at this
      omega
  · intro hp
    exact ⟨hp.nodup_iff.2 List.nodup_range, by rw [hp.length_eq, List.length_range]⟩
theorem part_one {p : Prob} {bl : List Blc} (h : p.ok) (hv : ∀ i, i < bl.length → blkOk p (bl.getD i Blc.z)) : partM p bl = true ↔ ∀ j, j < p.N → belC bl (cndAt p j) bl.length = 1 := by
  rw [part_perm h hv, List.perm_iff_count]
  have hc : ∀ j, j < p.N → (visAll p bl).count j = belC bl (cndAt p j) bl.length := fun j hj => by
    have := vis_count h hv hj bl.length (Nat.le_refl _)
    rwa [List.take_length] at this
  constructor
  · intro hp j hj
    have := hp j
    rw [List.count_range, if_pos hj] at this
    rw [← hc j hj]; exact this
  · intro hp j
    rw [List.count_range]
    by_cases hj : j < p.N
    · rw [if_pos hj]; exact (hc j hj).trans (hp j hj)
    · rw [if_neg hj]; exact List.count_eq_zero_of_not_mem fun hm => hj (visAll_lt h hv j hm)
theorem in_cnd {p : Prob} (h : p.ok) {c : Cnd} (hc : inW p c) : ∃ j, j < p.N ∧ cndAt p j = c := by
  obtain ⟨hs, hk, hn, r0, r1, k1, k2⟩ := winOk h
  obtain ⟨c1, c2, c3, c4, c5, c6⟩ := hc
  refine ⟨ix p.S c.k.toNat (c.y + p.re).toNat (c.x + p.re).toNat, ix_lt (by omega) (by omega) (by omega), ?_⟩
  rw [cnd_at p (by omega) (by omega)]
  cases c
  simp only [Cnd.mk.injEq] at *
  omega
end Go.Proofs.YtbibplkhhdomnaaGreat
namespace Go.Proofs.YtbibplkhhdomnaaGreat
open Go Go.K
set_option maxRecDepth 20000
set_option maxHeartbeats 8000000
def mxN (L : List Int) : Nat → Int
  | 0 => L.getD 0 0
  | n + 1 => max (mxN L n) (L.getD (n + 1) 0)
end Go.Proofs.YtbibplkhhdomnaaGreat
namespace Go.Proofs.YtbibplkhhdomnaaGreat
open Go Go.K
set_option maxRecDepth 20000
set_option maxHeartbeats 8000000
def pkX (f : Fld) (i : Nat) (b : Int) : Int := if b = 0 then 0 else f.x + ((i % f.W : Nat) : Int)
def pkY (f : Fld) (i : Nat) (b : Int) : Int := if b = 0 then 0 else f.y + ((i / f.W : Nat) : Int)
end Go.Proofs.YtbibplkhhdomnaaGreat
namespace Go.Proofs.YtbibplkhhdomnaaGreat
open Go Go.K
set_option maxRecDepth 20000
set_option maxHeartbeats 8000000
def inSq (f : Fld) (k x y : Int) (j i : Nat) : Prop := x ≤ f.x + i ∧ f.x + i < x + k ∧ y ≤ f.y + j ∧ f.y + j < y + k
instance decInSq (f : Fld) (k x y : Int) (j i : Nat) : Decidable (inSq f k x y j i) := by unfold inSq; infer_instance
def rowB (f : Fld) (k x y : Int) (j : Nat) (b : Int) : Nat → Int
  | 0 => b
  | i + 1 => if inSq f k x y j i then max (rowB f k x y j b i) (cellV f j i) else rowB f k x y j b i
def allB (f : Fld) (k x y : Int) : Nat → Int
  | 0 => 0
  | j + 1 => rowB f k x y j (allB f k x y j) f.W
structure Top (f : Fld) (k x y : Int) (p : Nat → Nat → Prop) (m : Int) : Prop where
  pos : 0 ≤ m
  all : ∀ j i, p j i → inSq f k x y j i → cellV f j i ≤ m
  att : m = 0 ∨ ∃ j i, p j i ∧ inSq f k x y j i ∧ cellV f j i = m
theorem lvf_max {f : Fld} (h : f.ok) (hb : bytesL f.v) (n : Nat) (x y : Int) : SqMax f (2 ^ n) x y (atM (lvf f n) x y) := by
  have hw := h.1
  have hh := h.2.2.1
  unfold lvf
  by_cases hz : f.w = 0
  · rw [if_pos hz]
    have e : ∀ x y, atM f x y = 0 := fun x y => at_out (by unfold inF; omega)
    have e2 : ∀ x y, atM ⟨0, 0, 0, 0, []⟩ x y = 0 := fun x y => at_out (by unfold inF; simp only; omega)
    rw [e2]
    exact ⟨Int.le_refl _, fun i j _ _ _ _ => by rw [e]; exact Int.le_refl _, .inl rfl⟩
  · rw [if_neg hz]
    exact lev_max hb hw hh n x y
def pkF (L : List Int) : Nat → Nat × Int
  | 0 => (0, 0)
  | n + 1 => if (pkF L n).2 < L.getD n 0 then (n, L.getD n 0) else pkF L n
end Go.Proofs.YtbibplkhhdomnaaGreat
namespace Go.Proofs.YtbibplkhhdomnaaGreat
open Go Go.K
theorem smN_mono {g k : Nat → Int} : ∀ n : Nat, (∀ i, i < n → g i ≤ k i) → smN g n ≤ smN k n
  | 0, _ => Int.le_refl _
  | n + 1, h => by
    have h1 := smN_mono n fun i hi => h i (by omega)
    have h2 := h n (by omega)
    show smN g n + g n ≤ smN k n + k n
    omega
theorem far_no {x : Int} (h : -32768 ≤ x ∧ x ≤ 32768) : farM x = false := by
  unfold farM
  rw [Bool.or_eq_false_iff, decide_eq_false_iff_not, decide_eq_false_iff_not]; omega
theorem maxM_at {f : Fld} {l x y : Int} (h0 : 0 ≤ l) (h6 : l ≤ 6) (hx : -32768 ≤ x ∧ x ≤ 32768) (hy : -32768 ≤ y ∧ y ≤ 32768) : maxM f l x y = atM (lvf f l.toNat) x y := by
  unfold maxM
  rw [if_neg]
  rw [far_no hx, far_no hy]
  simp
  omega
theorem max_le {f : Fld} (h : f.ok) (hb : bytesL f.v) {l x y u v : Int} (h0 : 0 ≤ l) (h6 : l ≤ 6) (hx : -32000 ≤ x ∧ x ≤ 32000) (hy : -32000 ≤ y ∧ y ≤ 32000) (hu : x ≤ u ∧ u < x + szM l) (hv : y ≤ v ∧ v < y + szM l) : maxM f 0 u v ≤ maxM f l x y := by
  have hz := sz_in h0 h6
  rw [maxM_at h0 h6 (by omega) (by omega), maxM_at (by omega) (by omega) (by omega) (by omega)]
  have s1 := lvf_max h hb l.toNat x y
  have s0 := lvf_max h hb 0 u v
  rcases s0.att with e | ⟨i, j, i0, i1, j0, j1, e⟩
  · rw [show (0 : Int).toNat = 0 from rfl, e]; exact s1.pos
  · rw [show (0 : Int).toNat = 0 from rfl, ← e]
    have e1 : (2 : Int) ^ 0 = 1 := rfl
    rw [e1] at i1 j1
    have es : (2 : Int) ^ l.toNat = szM l := rfl
    have := s1.all (u + i - x) (v + j - y) (by omega) (by omega) (by omega) (by omega)
    rwa [show x + (u + i - x) = u + i by omega, show y + (v + j - y) = v + j by omega] at this
theorem bound_le {p : Prob} (h : p.ok) (hb : bytesL p.f.v) {b : Blc} (hk : blkOk p b) {c : Cnd} (hc : inW p c) (hm : belM b c) : boundM p (toB c) ≤ boundM p b := by
  obtain ⟨m1, m2, m3, m4, m5⟩ := hm
  obtain ⟨⟨c1, c2, c3, c4, c5, c6⟩, l0, l6⟩ := hk
  obtain ⟨d1, d2, d3, d4, d5, d6⟩ := hc
  simp only at c1 c2 c3 c4 c5 c6
  have hr := h.2.2.2.2.2.1
  have e : endsM p (toB c).k = endsM p b.k := by show endsM p c.k = _; rw [m1]
  unfold boundM boundN
  rw [e]
  refine smN_mono _ fun i _ => ?_
  have he := ends_at h b.k i
  unfold cellB
  show maxM p.f 0 (_ + c.x) (_ + c.y) ≤ _
  exact max_le h.1 hb l0 l6 (by omega) (by omega) (by omega) (by omega)
structure Good (p : Prob) (m : Mat) : Prop where
  ok : allOk p m
  pa : partM p m.l = true
  no : noBad p m
theorem check_zero {p : Prob} {m : Mat} : checkM p m = 0 ↔ p.ok ∧ inW p m.b ∧ (poseOk p m ∧ m.sc = boundM p (toB m.b)) ∧ (m.l.length : Int) ≤ 16384 ∧ Good p m := by
  unfold checkM
  by_cases h1 : p.ok
  · rw [if_pos h1]
    by_cases h2 : inW p m.b
    · rw [if_pos h2]
      unfold check1
      by_cases h3 : poseOk p m ∧ m.sc = boundM p (toB m.b)
      · rw [if_pos h3]
        unfold check2
        by_cases h4 : (m.l.length : Int) ≤ 16384
        · rw [if_pos h4]
          unfold check3
          by_cases h5 : allOk p m
          · rw [if_pos h5]
            by_cases h6 : partM p m.l = true
            · rw [if_pos h6]
              by_cases h7 : noBad p m
              · rw [if_pos h7]; exact ⟨fun _ => ⟨h1, h2, h3, h4, h5, h6, h7⟩, fun _ => rfl⟩
              · rw [if_neg h7]; exact ⟨fun h => (by cases h), fun h => absurd h.2.2.2.2.no h7⟩
            · rw [if_neg h6]; exact ⟨fun h => (by cases h), fun h => absurd h.2.2.2.2.pa h6⟩
          · rw [if_neg h5]; exact ⟨fun h => (by cases h), fun h => absurd h.2.2.2.2.ok h5⟩
        · rw [if_neg h4]; exact ⟨fun h => (by cases h), fun h => absurd h.2.2.2.1 h4⟩
      · rw [if_neg h3]; exact ⟨fun h => (by cases h), fun h => absurd h.2.2.1 h3⟩
    · rw [if_neg h2]; exact ⟨fun h => (by cases h), fun h => absurd h.2.1 h2⟩
  · rw [if_neg h1]; exact ⟨fun h => (by cases h), fun h => absurd h.1 h1⟩
def corM (b : Blc) : Cnd := ⟨b.k, b.y, b.x⟩
def betM (s : Int) (c : Cnd) (t : Int) (d : Cnd) : Prop := t < s ∨ s = t ∧ befM c d
instance (s : Int) (c : Cnd) (t : Int) (d : Cnd) : Decidable (betM s c t d) := by unfold betM; infer_instance
theorem bet_trans {s t u : Int} {a b c : Cnd} (h : ¬ betM s a t b) (k : ¬ betM t b u c) : ¬ betM s a u c := by
  unfold betM befM at *; omega
theorem bet_irr (s : Int) (a : Cnd) : ¬ betM s a s a := by unfold betM befM; omega
theorem bet_asymm {s t : Int} {a b : Cnd} (h : betM s a t b) : ¬ betM t b s a := by unfold betM befM at *; omega
theorem bet_eq {s t : Int} {a b : Cnd} (h : ¬ betM s a t b) (k : ¬ betM t b s a) : s = t ∧ a = b := by
  cases a; cases b
  simp only [Cnd.mk.injEq]
  unfold betM befM at *
  simp only at h k
  omega
def nbM (p : Prob) (c : Cnd) (s : Int) (d : Cnd) : Prop := ¬ betM (boundM p (toB c)) c s d
def stlM (p : Prob) (b : Blc) (s : Int) (d : Cnd) : Prop := boundM p b < s ∨ boundM p b = s ∧ ¬ befM (corM b) d
instance (p : Prob) (b : Blc) (s : Int) (d : Cnd) : Decidable (stlM p b s d) := by unfold stlM; infer_instance
theorem stl_iff {p : Prob} {b : Blc} {m : Mat} : stlM p b m.sc m.b ↔ ¬ badB p m b := by
  unfold stlM badB corM
  by_cases h : befM ⟨b.k, b.y, b.x⟩ m.b
  · simp only [h, not_true_eq_false, and_false, or_false, and_true]; omega
  · simp only [h, not_false_eq_true, and_true, and_false, or_false]; omega
theorem stl_bet {p : Prob} {b : Blc} {s : Int} {d : Cnd} : stlM p b s d ↔ ¬ betM (boundM p b) (corM b) s d := by
  unfold stlM betM
  by_cases h : befM (corM b) d
  · simp only [h, not_true_eq_false, and_false, or_false, and_true]; omega
  · simp only [h, not_false_eq_true, and_true, and_false, or_false]; omega
def qdM (b : Blc) (t : Nat) : Blc := ⟨b.k, b.y + ((t / 2 : Nat) : Int) * szM (b.l - 1), b.x + ((t % 2 : Nat) : Int) * szM (b.l - 1), b.l - 1⟩
theorem sz_two {l : Int} (h1 : 1 ≤ l) (h6 : l ≤ 6) : szM l = 2 * szM (l - 1) := by
  have : l = 1 ∨ l = 2 ∨ l = 3 ∨ l = 4 ∨ l = 5 ∨ l = 6 := by omega
  rcases this with rfl | rfl | rfl | rfl | rfl | rfl <;> decide
theorem t4 {t : Nat} (h : t < 4) : t = 0 ∨ t = 1 ∨ t = 2 ∨ t = 3 := by omega
structure QdW (p : Prob) (b : Blc) (t : Nat) : Prop where
  l : (qdM b t).l = b.l - 1
  k : (qdM b t).k = b.k
  y0 : b.y ≤ (qdM b t).y
  y1 : (qdM b t).y ≤ b.y + 32
  x0 : b.x ≤ (qdM b t).x
  x1 : (qdM b t).x ≤ b.x + 32
theorem qdW {p : Prob} {b : Blc} (l1 : 1 ≤ b.l) (l6 : b.l ≤ 6) {t : Nat} (ht : t < 4) : QdW p b t := by
  have hz := sz_in (l := b.l) (by omega) l6
  have h2 := sz_two l1 l6
  have e : (qdM b t).y = b.y + ((t / 2 : Nat) : Int) * szM (b.l - 1) := rfl
  have e2 : (qdM b t).x = b.x + ((t % 2 : Nat) : Int) * szM (b.l - 1) := rfl
  refine ⟨rfl, rfl, ?_, ?_, ?_, ?_⟩ <;> rcases t4 ht with rfl | rfl | rfl | rfl <;> simp only [Nat.reduceDiv, Nat.reduceMod] at e e2 <;> omega
theorem qd_ok {p : Prob} {b : Blc} (hb : blkOk p b) (l1 : 1 ≤ b.l) {t : Nat} (hi : inW p (corM (qdM b t))) : blkOk p (qdM b t) := by
  refine ⟨hi, ?_, ?_⟩
  · show 0 ≤ b.l - 1; omega
  · have := hb.2.2; show b.l - 1 ≤ 6; omega
theorem qd_cnt {p : Prob} {b : Blc} (hb : blkOk p b) (l1 : 1 ≤ b.l) (c : Cnd) : (if belM (qdM b 0) c then 1 else 0) + (if belM (qdM b 1) c then 1 else 0) + (if belM (qdM b 2) c then 1 else 0) + (if belM (qdM b 3) c then 1 else 0) = if belM b c then 1 else 0 := by
  have hz := sz_in (l := b.l - 1) (by omega) (by have := hb.2.2; omega)
  have h2 := sz_two l1 hb.2.2
  simp only [belM, qdM, h2, Nat.reduceDiv, Nat.reduceMod, Int.ofNat_zero, Int.natCast_zero, Int.natCast_one, Int.zero_mul, Int.one_mul, Int.add_zero]
  generalize szM (b.l - 1) = h at *
  by_cases h1 : c.k = b.k <;> by_cases hx : c.x < b.x + h <;> by_cases hy : c.y < b.y + h
  all_goals repeat' split
  all_goals omega
theorem qd_out {p : Prob} {b : Blc} (hb : blkOk p b) (l1 : 1 ≤ b.l) {t : Nat} (ht : t < 4) (hi : ¬ inW p (corM (qdM b t))) {c : Cnd} (hc : inW p c) : ¬ belM (qdM b t) c := by
  obtain ⟨q1, q2, q3, q4, q5, q6⟩ := qdW (p := p) l1 hb.2.2 ht
  obtain ⟨⟨c1, c2, c3, c4, c5, c6⟩, l0, l6⟩ := hb
  simp only at c1 c2 c3 c4 c5 c6
  unfold belM
  unfold inW at *
  have e : (corM (qdM b t)).k = (qdM b t).k := rfl
  have e2 : (corM (qdM b t)).y = (qdM b t).y := rfl
  have e3 : (corM (qdM b t)).x = (qdM b t).x := rfl
  omega
theorem qd_in {p : Prob} {b : Blc} (hb : blkOk p b) (l1 : 1 ≤ b.l) {c : Cnd} (hc : inW p c) (hm : belM b c) : ∃ t, t < 4 ∧ inW p (corM (qdM b t)) ∧ belM (qdM b t) c := by
  have h := qd_cnt hb l1 c
  rw [if_pos hm] at h
  have key : ∃ t, t < 4 ∧ belM (qdM b t) c := by
    by_cases h0 : belM (qdM b 0) c
    · exact ⟨0, by omega, h0⟩
    · by_cases h1 : belM (qdM b 1) c
      · exact ⟨1, by omega, h1⟩
      · by_cases h2 : belM (qdM b 2) c
        · exact ⟨2, by omega, h2⟩
        · by_cases h3 : belM (qdM b 3) c
          · exact ⟨3, by omega, h3⟩
          · rw [if_neg h0, if_neg h1, if_neg h2, if_neg h3] at h; omega
  obtain ⟨t, ht, hq⟩ := key
  refine ⟨t, ht, ?_, hq⟩
  by_cases hi : inW p (corM (qdM b t))
  · exact hi
  · exact absurd hq (qd_out hb l1 ht hi hc)
def foldQ (p : Prob) (f : Blc → Mat → Mat) (b : Blc) : Nat → Mat → Mat
  | 0, m => m
  | t + 1, m => if inW p (corM (qdM b t)) then f (qdM b t) (foldQ p f b t m) else foldQ p f b t m
def impM (p : Prob) : Nat → Blc → Mat → Mat
  | 0, b, m => if stlM p b m.sc m.b then m else ⟨corM b, m.px, m.py, m.ph, boundM p b, m.l⟩
  | n + 1, b, m => if stlM p b m.sc m.b then m else foldQ p (impM p n) b 4 m
structure Imp (p : Prob) (m m' : Mat) (S : Cnd → Prop) : Prop where
  up : ¬ betM m.sc m.b m'.sc m'.b
  nb : ∀ c, inW p c → S c → nbM p c m'.sc m'.b
  at' : (m'.sc = m.sc ∧ m'.b = m.b) ∨ (inW p m'.b ∧ m'.sc = boundM p (toB m'.b))
  l : m'.l = m.l
  px : m'.px = m.px
  py : m'.py = m.py
  ph : m'.ph = m.ph
theorem Imp.refl {p : Prob} {m : Mat} {S : Cnd → Prop} (h : ∀ c, inW p c → S c → nbM p c m.sc m.b) : Imp p m m S := ⟨bet_irr _ _, h, .inl ⟨rfl, rfl⟩, rfl, rfl, rfl, rfl⟩
theorem Imp.trans {p : Prob} {m m' m'' : Mat} {S T U : Cnd → Prop} (h : Imp p m m' S) (k : Imp p m' m'' T) (hU : ∀ c, inW p c → U c → S c ∨ T c) : Imp p m m'' U := by
  refine ⟨bet_trans h.up k.up, fun c hc hu => ?_, ?_, k.l.trans h.l, k.px.trans h.px, k.py.trans h.py, k.ph.trans h.ph⟩
  · rcases hU c hc hu with hs | ht
    · exact bet_trans (h.nb c hc hs) k.up
    · exact k.nb c hc ht
  · rcases k.at' with ⟨e1, e2⟩ | h2
    · rcases h.at' with ⟨e3, e4⟩ | h3
      · exact .inl ⟨e1.trans e3, e2.trans e4⟩
      · exact .inr (by rw [e1, e2]; exact h3)
    · exact .inr h2
theorem stl_nb {p : Prob} (h : p.ok) (hb : bytesL p.f.v) {b : Blc} (hk : blkOk p b) {s : Int} {d : Cnd} (hs : stlM p b s d) : ∀ c, inW p c → belM b c → nbM p c s d := by
  intro c hc hm
  have h1 := bound_le h hb hk hc hm
  have h2 := stl_bet.1 hs
  unfold nbM
  refine bet_trans ?_ h2
  obtain ⟨m1, m2, m3, m4, m5⟩ := hm
  unfold betM befM corM
  simp only
  omega
theorem bel_zero {b : Blc} (h : b.l = 0) {c : Cnd} (hm : belM b c) : corM b = c := by
  obtain ⟨m1, m2, m3, m4, m5⟩ := hm
  have e : szM b.l = 1 := by rw [h]; rfl
  rw [e] at m3 m5
  cases c
  unfold corM
  simp only [Cnd.mk.injEq] at *
  omega
theorem toB_cor {b : Blc} (h : b.l = 0) : toB (corM b) = b := by
  cases b
  unfold toB corM
  simp only [Blc.mk.injEq] at *
  simp [h]
theorem imp_spec {p : Prob} (h : p.ok) (hb : bytesL p.f.v) : ∀ (n : Nat) (b : Blc) (m : Mat), b.l = n → blkOk p b → Imp p m (impM p n b m) (belM b)
  | 0, b, m, hl, hk => by
    unfold impM
    by_cases hs : stlM p b m.sc m.b
    · rw [if_pos hs]; exact .refl (stl_nb h hb hk hs)
    · rw [if_neg hs]
      have hs2 : betM (boundM p b) (corM b) m.sc m.b := by
        by_cases hh : betM (boundM p b) (corM b) m.sc m.b
        · exact hh
        · exact absurd (stl_bet.2 hh) hs
      refine ⟨bet_asymm hs2, fun c hc hm => ?_, .inr ⟨hk.1, ?_⟩, rfl, rfl, rfl, rfl⟩
      · obtain rfl := bel_zero hl hm
        unfold nbM
        rw [toB_cor hl]
        exact bet_irr _ _
      · show boundM p b = boundM p (toB (corM b))
        rw [toB_cor hl]
  | n + 1, b, m, hl, hk => by
    unfold impM
    by_cases hs : stlM p b m.sc m.b
    · rw [if_pos hs]; exact .refl (stl_nb h hb hk hs)
    · rw [if_neg hs]
      have l1 : 1 ≤ b.l := by omega
      have key : ∀ t, t ≤ 4 → Imp p m (foldQ p (impM p n) b t m) (fun c => ∃ u, u < t ∧ belM (qdM b u) c) := by
        intro t
        induction t with
        | zero => intro _; exact .refl (fun c hc ⟨u, hu, _⟩ => by omega)
        | succ t ih =>
          intro ht
          have i1 := ih (by omega)
          unfold foldQ
          by_cases hi : inW p (corM (qdM b t))
          · rw [if_pos hi]
            refine i1.trans (imp_spec h hb n (qdM b t) _ (by show b.l - 1 = _; omega) (qd_ok hk l1 hi)) ?_
            rintro c hc ⟨u, hu, hm⟩
            by_cases e : u = t
            · subst e; exact .inr hm
            · exact .inl ⟨u, by omega, hm⟩
          · rw [if_neg hi]
            refine i1.trans (T := fun _ => False) (.refl fun c hc hF => hF.elim) ?_
            rintro c hc ⟨u, hu, hm⟩
            by_cases e : u = t
            · subst e; exact absurd hm (qd_out hk l1 (by omega) hi hc)
            · exact .inl ⟨u, by omega, hm⟩
      have i4 := key 4 (Nat.le_refl _)
      refine i4.trans (T := fun _ => False) (.refl fun c hc hF => hF.elim) ?_
      intro c hc hm
      obtain ⟨t, ht, _, hq⟩ := qd_in hk l1 hc hm
      exact .inl ⟨t, ht, hq⟩
def catQ (p : Prob) (f : Blc → List Blc) (b : Blc) : Nat → List Blc
  | 0 => []
  | t + 1 => catQ p f b t ++ if inW p (corM (qdM b t)) then f (qdM b t) else []
def cerL (p : Prob) (s : Int) (d : Cnd) : Nat → Blc → List Blc
  | 0, b => [b]
  | n + 1, b => if stlM p b s d then [b] else catQ p (cerL p s d n) b 4
def cerM (p : Prob) (n : Nat) (b : Blc) (m : Mat) : Mat := ⟨m.b, m.px, m.py, m.ph, m.sc, m.l ++ cerL p m.sc m.b n b⟩
theorem fold_cat (p : Prob) (n : Nat) (b : Blc) (m : Mat) : ∀ t, foldQ p (cerM p n) b t m = ⟨m.b, m.px, m.py, m.ph, m.sc, m.l ++ catQ p (cerL p m.sc m.b n) b t⟩
  | 0 => by unfold foldQ catQ; rw [List.append_nil]
  | t + 1 => by
    unfold foldQ catQ
    rw [fold_cat p n b m t]
    split
    · unfold cerM; simp only; rw [List.append_assoc]
    · rw [List.append_nil]
def cntL (l : List Blc) (c : Cnd) : Nat := l.countP fun b => decide (belM b c)
theorem cntL_app (l k : List Blc) (c : Cnd) : cntL (l ++ k) c = cntL l c + cntL k c := List.countP_append
theorem cntL_one (b : Blc) (c : Cnd) : cntL [b] c = if belM b c then 1 else 0 := by
  unfold cntL
  rw [List.countP_cons, List.countP_nil]
  simp
theorem belC_cnt (l : List Blc) (c : Cnd) : ∀ k, k ≤ l.length → belC l c k = cntL (l.take k) c
  | 0, _ => by simp [belC, cntL]
  | k + 1, hk => by
    unfold belC
    rw [belC_cnt l c k (by omega), take_getD (by omega) Blc.z, cntL_app, cntL_one]
theorem cer_spec {p : Prob} {s : Int} {d : Cnd} (ho : ∀ c, inW p c → nbM p c s d) : ∀ (n : Nat) (b : Blc), b.l = n → blkOk p b → (∀ q ∈ cerL p s d n b, blkOk p q ∧ stlM p q s d) ∧ (∀ c, inW p c → cntL (cerL p s d n b) c = if belM b c then 1 else 0) ∧ (cerL p s d n b).length ≤ 4 ^ n
  | 0, b, hl, hk => by
    unfold cerL
    refine ⟨fun q hq => ?_, fun c _ => cntL_one b c, Nat.le_refl _⟩
    rw [List.mem_singleton] at hq
    subst hq
    refine ⟨hk, stl_bet.2 ?_⟩
    have := ho (corM q) hk.1
    unfold nbM at this
    rwa [toB_cor hl] at this
  | n + 1, b, hl, hk => by
    unfold cerL
    by_cases hs : stlM p b s d
    · rw [if_pos hs]
      refine ⟨fun q hq => ?_, fun c _ => cntL_one b c, ?_⟩
      · rw [List.mem_singleton] at hq
        subst hq
        exact ⟨hk, hs⟩
      · exact Nat.pos_of_ne_zero (by simp)
    · rw [if_neg hs]
      have l1 : 1 ≤ b.l := by omega
      obtain ⟨w, hw⟩ : ∃ w : Nat, w = 4 ^ n := ⟨_, rfl⟩
      have key : ∀ t, t ≤ 4 → (∀ q ∈ catQ p (cerL p s d n) b t, blkOk p q ∧ stlM p q s d) ∧ (catQ p (cerL p s d n) b t).length ≤ t * w := by
        intro t
        induction t with
        | zero => intro _; exact ⟨fun q hq => (by cases hq), Nat.zero_le _⟩
        | succ t ih =>
          intro ht
          obtain ⟨i1, i2⟩ := ih (by omega)
          unfold catQ
          by_cases hi : inW p (corM (qdM b t))
          · rw [if_pos hi]
            obtain ⟨j1, _, j3⟩ := cer_spec ho n (qdM b t) (by show b.l - 1 = _; omega) (qd_ok hk l1 hi)
            rw [← hw] at j3
            refine ⟨fun q hq => ?_, ?_⟩
            · rcases List.mem_append.1 hq with hq | hq
              · exact i1 q hq
              · exact j1 q hq
            · rw [List.length_append, Nat.add_mul, Nat.one_mul]; omega
          · rw [if_neg hi, List.append_nil]
            exact ⟨i1, by rw [Nat.add_mul, Nat.one_mul]; omega⟩
      have cn : ∀ c, inW p c → ∀ t, t < 4 → cntL (catQ p (cerL p s d n) b (t + 1)) c = cntL (catQ p (cerL p s d n) b t) c + if belM (qdM b t) c then 1 else 0 := by
        intro c hc t ht
        rw [show catQ p (cerL p s d n) b (t + 1) = catQ p (cerL p s d n) b t ++ (if inW p (corM (qdM b t)) then cerL p s d n (qdM b t) else []) from rfl, cntL_app]
        by_cases hi : inW p (corM (qdM b t))
        · rw [if_pos hi, (cer_spec ho n (qdM b t) (by show b.l - 1 = _; omega) (qd_ok hk l1 hi)).2.1 c hc]
        · rw [if_neg hi, if_neg (qd_out hk l1 ht hi hc)]; rfl
      obtain ⟨k1, k2⟩ := key 4 (Nat.le_refl _)
      refine ⟨k1, fun c hc => ?_, ?_⟩
      · rw [cn c hc 3 (by omega), cn c hc 2 (by omega), cn c hc 1 (by omega), cn c hc 0 (by omega), ← qd_cnt hk l1 c]
        show 0 + _ + _ + _ + _ = _
        omega
      · rw [Nat.pow_succ, ← hw]; omega
def lvM (S : Int) : Nat := if S ≤ 1 then 0 else if S ≤ 2 then 1 else if S ≤ 4 then 2 else if S ≤ 8 then 3 else if S ≤ 16 then 4 else if S ≤ 32 then 5 else 6
theorem lv_le (S : Int) : lvM S ≤ 6 := by unfold lvM; (repeat' split) <;> omega
theorem lv_lt {S : Int} (h : S ≤ 64) {j : Nat} (hj : j ≤ 6) : (2 : Int) ^ j < S ↔ j < lvM S := by
  have : j = 0 ∨ j = 1 ∨ j = 2 ∨ j = 3 ∨ j = 4 ∨ j = 5 ∨ j = 6 := by omega
  unfold lvM
  rcases this with rfl | rfl | rfl | rfl | rfl | rfl | rfl <;> simp only [Int.reducePow] <;> (repeat' split) <;> omega
def rotM (p : Prob) (k : Nat) : Blc := ⟨(k : Int), -p.re, -p.re, (lvM (2 * p.re + 1) : Nat)⟩
def mat0 : Mat := ⟨⟨0, 0, 0⟩, 0, 0, 0, -1, []⟩
def fndI (p : Prob) : Nat → Mat
  | 0 => mat0
  | k + 1 => impM p (lvM (2 * p.re + 1)) (rotM p k) (fndI p k)
def fndC (p : Prob) (s : Int) (d : Cnd) : Nat → List Blc
  | 0 => []
  | k + 1 => fndC p s d k ++ cerL p s d (lvM (2 * p.re + 1)) (rotM p k)
theorem root_ok {p : Prob} (h : p.ok) {k : Nat} (hk : k < p.K) : blkOk p (rotM p k) := by
  obtain ⟨hs, hkk, hn, r0, r1, k1, k2⟩ := winOk h
  have := lv_le (2 * p.re + 1)
  refine ⟨⟨?_, ?_, ?_, ?_, ?_, ?_⟩, ?_, ?_⟩ <;> simp only [rotM] <;> omega
theorem rot_bel {p : Prob} (h : p.ok) {k : Nat} {c : Cnd} (hc : inW p c) : belM (rotM p k) c ↔ c.k = k := by
  obtain ⟨hs, hkk, hn, r0, r1, k1, k2⟩ := winOk h
  have h1 := lv_le (2 * p.re + 1)
  have h2 : ¬ (2 : Int) ^ lvM (2 * p.re + 1) < 2 * p.re + 1 := fun hh => absurd ((lv_lt (by omega) h1).1 hh) (by omega)
  have e : szM (rotM p k).l = 2 ^ lvM (2 * p.re + 1) := by unfold szM rotM; simp only; rw [Int.toNat_natCast]
  unfold belM inW at *
  rw [e]
  simp only [rotM]
  omega
theorem fndI_spec {p : Prob} (h : p.ok) (hb : bytesL p.f.v) : ∀ k, k ≤ p.K → Imp p mat0 (fndI p k) (fun c => c.k < k)
  | 0, _ => .refl fun c hc hh => by have := hc.1; omega
  | k + 1, hk => by
    unfold fndI
    refine (fndI_spec h hb k (by omega)).trans (imp_spec h hb _ (rotM p k) _ rfl (root_ok h hk)) ?_
    intro c hc hu
    by_cases e : c.k = k
    · exact .inr ((rot_bel h hc).2 e)
    · exact .inl (by omega)
theorem score_in {p : Prob} (h : p.ok) (hb : bytesL p.f.v) (b : Blc) : 0 ≤ boundM p b ∧ boundM p b ≤ 8160 := boundN_in h hb _ _ (by have := ends_len p b.k; have := h.2.1.1; omega)
structure Opt (p : Prob) (s : Int) (d : Cnd) : Prop where
  nb : ∀ c, inW p c → nbM p c s d
  in' : inW p d
  sc : s = boundM p (toB d)
theorem Opt.uniq {p : Prob} {s t : Int} {c d : Cnd} (h : Opt p s c) (k : Opt p t d) : s = t ∧ c = d := by
  have h1 := h.nb d k.in'
  have h2 := k.nb c h.in'
  unfold nbM at h1 h2
  rw [← h.sc] at h2
  rw [← k.sc] at h1
  exact bet_eq h2 h1
theorem inW_first {p : Prob} (h : p.ok) : inW p ⟨0, -p.re, -p.re⟩ := by
  obtain ⟨hs, hk, hn, r0, r1, k1, k2⟩ := winOk h
  unfold inW; simp only; omega
theorem opt_of {p : Prob} (h : p.ok) (hb : bytesL p.f.v) : Opt p (fndI p p.K).sc (fndI p p.K).b := by
  obtain ⟨hs, hk, hn, r0, r1, k1, k2⟩ := winOk h
  have hi := fndI_spec h hb p.K (Nat.le_refl _)
  have hn : ∀ c, inW p c → nbM p c (fndI p p.K).sc (fndI p p.K).b := fun c hc => hi.nb c hc (by have := hc.2.1; omega)
  rcases hi.at' with ⟨e1, e2⟩ | ⟨h1, h2⟩
  · exfalso
    have := hn _ (inW_first h)
    unfold nbM betM at this
    have hs := score_in h hb (toB ⟨0, -p.re, -p.re⟩)
    rw [e1] at this
    exact this (.inl (by show (-1 : Int) < _; omega))
  · exact ⟨hn, h1, h2⟩
def cerAll (p : Prob) : List Blc := fndC p (fndI p p.K).sc (fndI p p.K).b p.K
def fndM (p : Prob) : Mat := ⟨(fndI p p.K).b, p.cx + 64 * (fndI p p.K).b.x, p.cy + 64 * (fndI p p.K).b.y, (p.fr + (fndI p p.K).b.k) % 256, (fndI p p.K).sc, cerAll p⟩
theorem fndC_spec {p : Prob} (h : p.ok) {s : Int} {d : Cnd} (ho : ∀ c, inW p c → nbM p c s d) : ∀ k, k ≤ p.K → (∀ q ∈ fndC p s d k, blkOk p q ∧ stlM p q s d) ∧ (∀ c, inW p c → cntL (fndC p s d k) c = if c.k < k then 1 else 0) ∧ (fndC p s d k).length ≤ k * 4096
  | 0, _ => ⟨fun q hq => (by cases hq), fun c hc => by rw [if_neg (by have := hc.1; omega)]; rfl, Nat.zero_le _⟩
  | k + 1, hk => by
    obtain ⟨i1, i2, i3⟩ := fndC_spec h ho k (by omega)
    obtain ⟨j1, j2, j3⟩ := cer_spec ho (lvM (2 * p.re + 1)) (rotM p k) rfl (root_ok h hk)
    unfold fndC
    refine ⟨fun q hq => ?_, fun c hc => ?_, ?_⟩
    · rcases List.mem_append.1 hq with hq | hq
      · exact i1 q hq
      · exact j1 q hq
    · rw [cntL_app, i2 c hc, j2 c hc]
      by_cases e : c.k = k
      · rw [if_neg (by omega), if_pos ((rot_bel h hc).2 e), if_pos (by omega)]
      · rw [if_neg (c := belM _ c) (fun hh => e ((rot_bel h hc).1 hh))]
        by_cases e2 : c.k < k
        · rw [if_pos e2, if_pos (by omega)]
        · rw [if_neg e2, if_neg (by omega)]
    · have : 4 ^ lvM (2 * p.re + 1) ≤ 4 ^ 6 := Nat.pow_le_pow_right (by omega) (lv_le _)
      have e6 : (4 : Nat) ^ 6 = 4096 := rfl
      rw [List.length_append, Nat.succ_mul]; omega
theorem mem_getD {l : List Blc} {i : Nat} (h : i < l.length) : l.getD i Blc.z ∈ l := by
  rw [List.getD_eq_getElem?_getD, List.getElem?_eq_getElem h]; exact List.getElem_mem h
theorem found {p : Prob} (h : p.ok) (hb : bytesL p.f.v) : Good p (fndM p) := by
  obtain ⟨hs, hk, hn, r0, r1, k1, k2⟩ := winOk h
  have o := opt_of h hb
  obtain ⟨i1, i2, i3⟩ := fndC_spec h o.nb p.K (Nat.le_refl _)
  have ha : ∀ i, i < (cerAll p).length → blkOk p ((cerAll p).getD i Blc.z) := fun i hi => (i1 _ (mem_getD hi)).1
  refine ⟨ha, (part_one h ha).2 fun j hj => ?_, fun i hi => stl_iff.1 (i1 _ (mem_getD hi)).2⟩
  have hc := cnd_in h hj
  have := i2 _ hc
  rw [if_pos (by have := hc.2.1; omega)] at this
  show belC (cerAll p) _ (cerAll p).length = 1
  rw [belC_cnt _ _ _ (Nat.le_refl _), List.take_length]
  exact this
theorem vis_len {p : Prob} (h : p.ok) : ∀ (l : List Blc), (∀ q ∈ l, blkOk p q) → l.length ≤ (visAll p l).length
  | [], _ => Nat.zero_le _
  | b :: l, hq => by
    have h1 := vis_len h l fun q hq' => hq q (List.mem_cons_of_mem _ hq')
    have h2 := blkW h (hq b (List.mem_cons_self ..))
    have h3 : (cellsOf p b).length = htM p b * wdM p b := by simp [cellsOf, cellsN]
    have h4 : 1 * 1 ≤ htM p b * wdM p b := Nat.mul_le_mul h2.h1 h2.w1
    have e : visAll p (b :: l) = cellsOf p b ++ visAll p l := rfl
    rw [e, List.length_append, List.length_cons]
    omega
theorem good_len {p : Prob} (h : p.ok) {m : Mat} (hg : Good p m) : m.l.length ≤ p.N := by
  have h1 := hg.pa
  unfold partM at h1
  rw [decide_eq_true_eq] at h1
  rw [← h1.2]
  refine vis_len h _ fun q hq => ?_
  obtain ⟨i, hi, rfl⟩ := List.getElem_of_mem hq
  have := hg.ok i hi
  rwa [List.getD_eq_getElem?_getD, List.getElem?_eq_getElem hi] at this
theorem fnd_check {p : Prob} (h : p.ok) (hb : bytesL p.f.v) : checkM p (fndM p) = 0 := by
  have g := found h hb
  have o := opt_of h hb
  have hl := good_len h g
  have hN := (winOk h).n
  exact check_zero.2 ⟨h, o.in', ⟨⟨rfl, rfl, rfl⟩, o.sc⟩, by omega, g⟩
end Go.Proofs.YtbibplkhhdomnaaGreat

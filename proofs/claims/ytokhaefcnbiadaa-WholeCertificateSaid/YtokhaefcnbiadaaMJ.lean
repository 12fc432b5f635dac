import Derived.Test.YtokhaefcnbiadaaMI
import Derived.Test.YtokhaefcnbiadaaK18
set_option linter.all false
namespace Go.Proofs.Ytokhaefcnbiadaa
open Go Go.K
set_option maxRecDepth 20000
set_option maxHeartbeats 8000000
/-! ### Trivial -/
structure Mat where
  b : Cnd
  (px py ph sc : Int)
  l : List Blc
def encM (m : Mat) : List V := [.int .i64 m.b.k, .int .i64 m.b.y, .int .i64 m.b.x, .int .i64 m.px, .int .i64 m.py, .int .i64 m.ph, .int .i64 m.sc, .sl (m.l.map enBl)]
structure MaR where
  m : Mat
  e : Int
def encMa (r : MaR) : V := .tup [.agg (encM r.m), .int .i64 r.e]
def Mat.zero : Mat := ⟨⟨0, 0, 0⟩, 0, 0, 0, 0, []⟩
def toB (c : Cnd) : Blc := ⟨c.k, c.y, c.x, 0⟩
def enCB (c : Cnd) : List V := [.int .i64 c.k, .int .i64 c.y, .int .i64 c.x, .int .i64 0]
theorem enCB_map (l : List Cnd) : (l.map toB).map enBl = l.map enCB := by rw [List.map_map]; rfl
theorem lit_enCB (l : List Cnd) : litRows (l.map enCB) = true := litRows_map (fun _ => rfl) l
def trivM (p : Prob) (c : Cnd) : MaR := if p.ok then (if inW p c then ⟨⟨c, p.cx + 64 * c.x, p.cy + 64 * c.y, (p.fr + c.k) % 256, boundM p ⟨c.k, c.y, c.x, 0⟩, (allL p).map toB⟩, 0⟩ else ⟨Mat.zero, 2⟩) else ⟨Mat.zero, 1⟩
theorem cnd_get (L : List Cnd) (i : Nat) : (L.map enC).getD i [.int .i64 0, .int .i64 0, .int .i64 0] = [.int .i64 (L.getD i ⟨0, 0, 0⟩).k, .int .i64 (L.getD i ⟨0, 0, 0⟩).y, .int .i64 (L.getD i ⟨0, 0, 0⟩).x] := getD_map (f := enC) (d := ⟨0, 0, 0⟩) rfl
theorem allN_get (p : Prob) {n i : Nat} (h : i < n) : (allN p n).getD i ⟨0, 0, 0⟩ = cndAt p i := by
  unfold allN
  rw [List.getD_eq_getElem?_getD, List.getElem?_map, List.getElem?_range h]; rfl
theorem allB_step (p : Prob) (n : Nat) : (allN p (n + 1)).map enCB = (allN p n).map enCB ++ [[.int .i64 (cndAt p n).k, .int .i64 (cndAt p n).y, .int .i64 (cndAt p n).x, .int .i64 0]] := by
  rw [allN_succ, List.map_append]; rfl
theorem allB_stepx (p : Prob) {k r c : Nat} (hr : r < p.S) (hc : c < p.S) : (allN p (ix p.S k r c + 1)).map enCB = (allN p (ix p.S k r c)).map enCB ++ [[.int .i64 (k : Int), .int .i64 ((r : Int) - p.re), .int .i64 ((c : Int) - p.re), .int .i64 0]] := by
  rw [allB_step, cnd_at p hr hc]
end Go.Proofs.Ytokhaefcnbiadaa

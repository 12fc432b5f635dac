import Derived.Test.YtmpmggbcmioipaaH7
set_option linter.all false
namespace Go.Proofs.Ytmpmggbcmioipaa
open Go Go.K
structure Cmd where
  (t f : Int)
structure Bounds where
  (t l s r : Int)
structure Slip where
  (t l x y : Int)
structure GoT where
  c : Cmd
  b : Bounds
structure TryT where
  (k h : Int)
  e : Slip
structure Lb where
  b : Bounds
  bump : Bool
def encPose (p : Pose) : List V := [.int .i64 p.x, .int .i64 p.y, .int .i64 p.h]
def encVec (v : Vec) : List V := [.int .i64 v.x, .int .i64 v.y, .int .i64 v.d]
def encCmd (c : Cmd) : List V := [.int .i64 c.t, .int .i64 c.f]
def encBounds (b : Bounds) : List V := [.int .i64 b.t, .int .i64 b.l, .int .i64 b.s, .int .i64 b.r]
def encSlip (e : Slip) : List V := [.int .i64 e.t, .int .i64 e.l, .int .i64 e.x, .int .i64 e.y]
def encGo (g : GoT) : List V := [.int .i64 g.c.t, .int .i64 g.c.f, .int .i64 g.b.t, .int .i64 g.b.l, .int .i64 g.b.s, .int .i64 g.b.r]
def encTry (g : TryT) : List V := [.int .u8 g.k, .int .u8 g.h, .int .i64 g.e.t, .int .i64 g.e.l, .int .i64 g.e.x, .int .i64 g.e.y]
def encLb (g : Lb) : List V := [.int .i64 g.b.t, .int .i64 g.b.l, .int .i64 g.b.s, .int .i64 g.b.r, .bool g.bump]
end Go.Proofs.Ytmpmggbcmioipaa

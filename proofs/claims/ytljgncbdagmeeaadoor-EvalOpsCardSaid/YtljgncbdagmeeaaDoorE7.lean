/- The tasks' types, and how they are laid as data. -/
import Derived.Test.YtljgncbdagmeeaaDoorE6
namespace Go.Proofs.YtljgncbdagmeeaaDoorE
open Go

structure PartT where
  op : Int
  arg : Int
  work : Int
  deriving DecidableEq
structure EdgeT where
  src : Int
  dst : Int
  deriving DecidableEq
structure FutureT where
  maker : Int
  user : Int
  pos : Int
  deriving DecidableEq
structure BarrierT where
  ins : List Int
  outs : List Int
  deriving DecidableEq
structure DescT where
  period : Int
  deadline : Int
  parts : List PartT
  edges : List EdgeT
  futures : List FutureT
  barriers : List BarrierT
  deriving DecidableEq

abbrev intD (n : Int) : D := .int .i64 n
abbrev boolD (b : Bool) : D := .bool b
abbrev intsD (τ : Bool) (l : List Int) : D := .list τ (l.map intD)
abbrev partD (p : PartT) : D := .agg [intD p.op, intD p.arg, intD p.work]
abbrev edgeD (e : EdgeT) : D := .agg [intD e.src, intD e.dst]
abbrev futureD (f : FutureT) : D := .agg [intD f.maker, intD f.user, intD f.pos]
abbrev barrierD (b : BarrierT) : D := .agg [intsD true b.ins, intsD true b.outs]
abbrev descD (τ : Bool) (d : DescT) : D := .agg [intD d.period, intD d.deadline, .list τ (d.parts.map partD), .list τ (d.edges.map edgeD), .list τ (d.futures.map futureD), .list τ (d.barriers.map barrierD)]

end Go.Proofs.YtljgncbdagmeeaaDoorE

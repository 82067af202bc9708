import Derived.Test.YteciceelinbfoaaDoorRdk
import Derived.Test.YteciceelinbfoaaDoorRc
set_option linter.unusedVariables false
namespace Go.Proofs.YteciceelinbfoaaDoor
open Go.RowKit Mq

/-- A shape: a configuration by numbers. -/
def u8c (b : Nat) : List Value := [.int .u8 b]
def rssc (s : SlV Rul) : List Value := [slv s]
def RssOk : World → SlV Rul → Prop := SlOk rulc 6 (fun _ r => r.Ok)
structure ShV where
  n : Nat
  links : SlV Nat
  maps : SlV (SlV Rul)
  names : SlV Nat
  nets : SlV Nat
  ways : SlV Nat
def shc (s : ShV) : List Value := [.int .u8 s.n, slv s.links, slv s.maps, slv s.names, slv s.nets, slv s.ways]
structure ShOk (w : World) (s : ShV) : Prop where
  n : s.n < 256
  links : SlOk u8c 1 (fun _ b => b < 256) w s.links
  maps : SlOk rssc 1 RssOk w s.maps
  names : SlOk u8c 1 (fun _ b => b < 256) w s.names
  nets : SlOk u8c 1 (fun _ b => b < 256) w s.nets
  ways : SlOk u8c 1 (fun _ b => b < 256) w s.ways
end Go.Proofs.YteciceelinbfoaaDoor

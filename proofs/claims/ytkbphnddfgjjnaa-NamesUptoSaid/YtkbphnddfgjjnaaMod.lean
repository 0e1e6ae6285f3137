/- The program's data, as Lean has them, and how they lie in cells. No condition. -/
import Derived.Test.YtkbphnddfgjjnaaEngS
namespace La
open Go Go.Eng

structure Entry where
  name : List UInt8
  fid : Int
deriving DecidableEq, Inhabited

structure Node where
  fid : Int
  dir : Bool
  data : List UInt8
  entries : List Entry
  version : Int
deriving DecidableEq, Inhabited

structure Act where
  kind : Int
  fid : Int
  dir : Int
  name : List UInt8
  to : Int
  toName : List UInt8
  data : List UInt8
deriving DecidableEq, Inhabited

structure Rec where
  act : Act
  version : Int
  id : Int
deriving DecidableEq, Inhabited

def i (n : Int) : AV := .int .i64 n
def byteRow (b : UInt8) : List AV := [.int .u8 (b.toNat : Int)]
def bytesAV (d : List UInt8) : AV := .sl (d.map byteRow)
def intRow (n : Int) : List AV := [.int .i64 n]
def entryRow (e : Entry) : List AV := [.str e.name, .int .i64 e.fid]
def nodeRow (n : Node) : List AV := [.int .i64 n.fid, .bool n.dir, .sl (n.data.map byteRow), .sl (n.entries.map entryRow), .int .i64 n.version]
def actRow (a : Act) : List AV := [.int .i64 a.kind, .int .i64 a.fid, .int .i64 a.dir, .str a.name, .int .i64 a.to, .str a.toName, .sl (a.data.map byteRow)]
def recRow (r : Rec) : List AV := [.int .i64 r.act.kind, .int .i64 r.act.fid, .int .i64 r.act.dir, .str r.act.name, .int .i64 r.act.to, .str r.act.toName, .sl (r.act.data.map byteRow), .int .i64 r.version, .int .i64 r.id]
end La

/- The abstract machine: what the walk rewrites by. No condition. -/
import Derived.Test.YtkbphnddfgjjnaaEngP
namespace Go.Eng
attribute [go_sem] go runL stepOp pureOp evS ev evSL strip ofValue guardOf isCall St.put St.room hget hset hdel loadOp Eng.loadCells KD.isA storeOp cellsAt putAt
  pickAV binAV KD.isBool intBin addStr unAV fieldAddrAV fieldAV indexAddrAV indexAV natOf sliceAV lenAV buildAV partsS partsE fillAV buildSliceOp setRows appendOp srcRows
  kill refs refsL BlkFree HpFree srcId rowsLeaf AV.leaf resAV resL resOne one callArgs view viewL AV.pureB AV.scalar scalarL exitTo St.drop
  runD spPure locsO locsL locsG appAll Sp.app Sp.wr skel leAny setAll hsetAll
attribute [go_sem] List.getD_cons_zero List.getD_cons_succ List.set_cons_zero List.set_cons_succ List.getD_nil List.map_cons List.map_nil List.length_cons List.length_nil Option.map_some Option.map_none
  List.replicate_succ List.replicate_zero List.cons_append List.nil_append List.all_cons List.all_nil List.drop_succ_cons List.drop_zero List.take_succ_cons List.take_zero
  true_and and_true if_true if_false Option.bind_some Bool.false_eq_true Bool.and_true Bool.true_and Bool.and_self ne_eq Nat.reduceEqDiff List.toList_toArray Option.bind_some Option.toList Option.bind_none List.append_nil Nat.zero_add Nat.add_zero Int.toNat_natCast
end Go.Eng

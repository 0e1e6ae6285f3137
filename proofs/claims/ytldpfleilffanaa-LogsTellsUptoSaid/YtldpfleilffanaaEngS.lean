/- The abstract machine: what the walk rewrites by. No condition. -/
import Derived.Test.YtldpfleilffanaaEngZ
namespace Go.Eng
attribute [go_sem] go runL mkc stepOp pureOp evS ev evSL strip ofValue guardOf isCall St.put St.room hget hset hdel loadOp Eng.loadCells KD.isA storeOp cellsAt putAt
  pickAV binAV KD.isBool intBin addStr unAV fieldAddrAV fieldAV indexAddrAV indexAV natOf sliceAV lenAV buildAV partsS partsE fillAV buildSliceOp setRows appendOp srcRows
  kill refs refsL BlkFree HpFree srcId rowsLeaf AV.leaf resAV resL resOne one callArgs view viewL AV.pureB AV.scalar scalarL exitTo St.drop
  clearOp copyOp delOp putOp mapOf zeroAV KD.isI64 lookAV AV.deepB runD spPure locsO locsL locsG Op.operands Call.operands appAll Sp.app Sp.wr skel leAny setAll hsetAll ren renL renB renH Eng.sub Eng.del killL closed wk leWk emptyB subH frz frzL frzH spCall convAV
attribute [go_sem] List.getD_cons_zero List.getD_cons_succ List.set_cons_zero List.set_cons_succ List.getD_nil List.map_cons List.map_nil List.length_cons List.length_nil Option.map_some Option.map_none
  List.replicate_succ List.replicate_zero List.cons_append List.nil_append List.all_cons List.all_nil List.drop_succ_cons List.drop_zero List.take_succ_cons List.take_zero
  true_and and_true if_true if_false Option.bind_some Bool.false_eq_true Bool.and_true Bool.true_and Bool.and_self ne_eq Nat.reduceEqDiff List.toList_toArray Option.bind_some Option.toList Option.bind_none List.append_nil List.length_map List.append_toArray List.length_append List.take_length Nat.le_refl List.any_nil List.any_cons List.all_append Option.isSome_some Option.isSome_none Option.isNone_none Option.isNone_some List.all_nil List.contains_nil List.contains_cons Bool.or_false Nat.zero_add Nat.add_zero Int.toNat_natCast
end Go.Eng

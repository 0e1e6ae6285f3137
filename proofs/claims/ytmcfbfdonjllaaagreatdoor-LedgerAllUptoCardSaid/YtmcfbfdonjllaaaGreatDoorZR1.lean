/- Texts of this claim, part 1: Glb, EngA, EngB, EngC, EngD, EngE, EngF, EngG, EngH, EngI, EngX, EngY, EngJ, EngK, EngL, EngN. No condition. -/
import Derived.KernelRfl
import Derived.Calls
import Derived.Orders
import Derived.Laws.World
import Derived.Laws.Cells
import Derived.Laws.Entries
import Derived.Laws.Strings
import Derived.Laws.Concat
import Derived.Laws.Cover1
import Derived.Laws.BytesArg
import Derived.Laws.Slices
import Derived.Laws.AppendOwn
import Derived.Tactics
set_option maxRecDepth 10000
set_option maxHeartbeats 4000000
set_option linter.unusedSimpArgs false
set_option linter.unusedVariables false
theorem Wz:type_of% @List.getElem?_eq_getElem:=@List.getElem?_eq_getElem
theorem W1:type_of% @List.take_of_length_le:=@List.take_of_length_le
theorem W2:type_of% @List.getElem?_map:=@List.getElem?_map
theorem W3:type_of% @List.mem_of_getElem?:=@List.mem_of_getElem?
theorem W4:type_of% @List.take_length:=@List.take_length
theorem W5:type_of% @List.mem_map:=@List.mem_map
theorem W6:type_of% @List.getElem?_eq_some_iff:=@List.getElem?_eq_some_iff
theorem W7:type_of% @Nat.le_refl:=@Nat.le_refl
theorem W8:type_of% @List.length_filter_le:=@List.length_filter_le
theorem W9:type_of% @List.getElem?_of_mem:=@List.getElem?_of_mem
theorem YA:type_of% @List.length_take:=@List.length_take
theorem YB:type_of% @List.mem_append_right:=@List.mem_append_right
theorem YC:type_of% @Array.getElem?_eq_getElem:=@Array.getElem?_eq_getElem
theorem YF:type_of% @List.mem_of_mem_take:=@List.mem_of_mem_take
theorem YI:type_of% @List.mem_filter:=@List.mem_filter
theorem YJ:type_of% @Nat.mul_le_mul_right:=@Nat.mul_le_mul_right
theorem YK:type_of% @List.findIdx?_eq_some_iff_getElem:=@List.findIdx?_eq_some_iff_getElem
theorem YL:type_of% @List.findIdx?_eq_none_iff:=@List.findIdx?_eq_none_iff
theorem YM:type_of% @List.getElem?_set:=@List.getElem?_set
theorem YN:type_of% @List.length_set:=@List.length_set
theorem YO:type_of% @List.getElem?_append_right:=@List.getElem?_append_right
theorem YP:type_of% @List.getElem?_append_left:=@List.getElem?_append_left
theorem YQ:type_of% @List.mem_append_left:=@List.mem_append_left
theorem YR:type_of% @Classical.choose_spec:=@Classical.choose_spec
theorem YS:type_of% @List.contains_iff_mem:=@List.contains_iff_mem
theorem YU:type_of% @List.getElem?_take:=@List.getElem?_take
theorem YV:type_of% @Option.map_eq_some_iff:=@Option.map_eq_some_iff
theorem YW:type_of% @List.getElem_mem:=@List.getElem_mem
theorem YX:type_of% @List.length_drop:=@List.length_drop
theorem YY:type_of% @List.mem_of_mem_drop:=@List.mem_of_mem_drop
theorem YZ:type_of% @Nat.lt_of_lt_of_le:=@Nat.lt_of_lt_of_le
theorem Ya:type_of% @List.filter_eq_self:=@List.filter_eq_self
theorem Yb:type_of% @Bool.not_eq_true':=@Bool.not_eq_true'
theorem Yc:type_of% @Nat.zero_add:=@Nat.zero_add
theorem Yd:type_of% @Option.isSome_iff_exists:=@Option.isSome_iff_exists
theorem Ye:type_of% @Array.getElem?_eq_some_iff:=@Array.getElem?_eq_some_iff
theorem Yf:type_of% @List.map_map:=@List.map_map
theorem Yg:type_of% @List.mem_or_eq_of_mem_set:=@List.mem_or_eq_of_mem_set
theorem Yh:type_of% @Array.getElem?_append_left:=@Array.getElem?_append_left
theorem Yi:type_of% @Array.getElem?_setIfInBounds:=@Array.getElem?_setIfInBounds
theorem Yj:type_of% @List.map_congr_left:=@List.map_congr_left
theorem Yk:type_of% @Nat.add_sub_cancel_left:=@Nat.add_sub_cancel_left
theorem Yl:type_of% @Nat.le_trans:=@Nat.le_trans
theorem Ym:type_of% @Nat.sub_self:=@Nat.sub_self
theorem Yn:type_of% @List.mem_range:=@List.mem_range
theorem Yo:type_of% @List.getElem?_range:=@List.getElem?_range
theorem Yp:type_of% @Nat.zero_le:=@Nat.zero_le
theorem Yq:type_of% @List.drop_of_length_le:=@List.drop_of_length_le
theorem Yr:type_of% @List.length_replicate:=@List.length_replicate
theorem Ys:type_of% @List.getElem?_replicate:=@List.getElem?_replicate
theorem Yt:type_of% @Nat.min_eq_left:=@Nat.min_eq_left
theorem Yu:type_of% @Bool.eq_iff_iff:=@Bool.eq_iff_iff
theorem Yv:type_of% @Bool.false_or:=@Bool.false_or
theorem Yw:type_of% @List.filter_sublist:=@List.filter_sublist
theorem Yx:type_of% @List.pairwise_iff_getElem:=@List.pairwise_iff_getElem
theorem Yy:type_of% @Nat.succ_mul:=@Nat.succ_mul
theorem Yz:type_of% @List.mem_replicate:=@List.mem_replicate
theorem Y0:type_of% @Bool.true_and:=@Bool.true_and
theorem Y1:type_of% @Bool.or_false:=@Bool.or_false
theorem q9{p:Prop}(h:p:=by (simp only[pins,gH,gI,gJ,gK];(repeat' refine ZH ?_ ?_);all_goals first | exact YH _ | rfl | simp[go_sem])):p:=h
theorem z6{p:Prop}(h:p:=by simp only[go_sem];exact rfl):p:=h
theorem z7{p:Prop}(h:p:=by simp only[go_sem];try exact rfl):p:=h
theorem z8{p:Prop}(h:p:=by omega):p:=h
theorem w3{p:Prop}(h:p:=by simp[go_sem]):p:=h
theorem w4{p:Prop}(h:p:=by simp only[go_sem,hw];try exact rfl):p:=h
theorem w5{p:Prop}(h:p:=by simp only[go_sem,ZN];try exact rfl):p:=h
theorem w6{p:Prop}(h:p:=by simp only[go_sem,Bool.false_or,Bool.or_true,Bool.true_or,Bool.or_false,↓reduceIte];try exact rfl):p:=h
theorem w7{p:Prop}(h:p:=by simp only[go_sem,Bool.false_or,Bool.or_true,Bool.true_or,Bool.or_false,↓reduceIte];exact rfl):p:=h
theorem w8{p:Prop}(h:p:=by simp):p:=h
theorem w9{p:Prop}(h:p:=by kernel_rfl):p:=h
theorem y6{p:Prop}(h:p:=by simp only[go_sem,how'];try exact rfl):p:=h
theorem y7{p:Prop}(h:p:=by simp[go_sem,hw]):p:=h
theorem y8{p:Prop}(h:p:=by simp only[go_sem,hkd,bne_self_eq_false,cond_true,cond_false,Bool.not_true,Bool.not_false];try exact rfl):p:=h
theorem y9{p:Prop}(h:p:=by simp only[go_sem,kill];exact rfl):p:=h
theorem k0{p:Prop}(h:p:=by simp only[go_sem,ZD];try exact rfl):p:=h
theorem k6{p:Prop}(h:p:=by simp;omega):p:=h
theorem k7{p:Prop}(h:p:=by simp[go_sem,hkd,bne_self_eq_false,cond_true,cond_false,Bool.not_true,Bool.not_false]):p:=h
theorem k8{p:Prop}(h:p:=by simp only[go_sem,hw1];try exact rfl):p:=h
theorem k9{p:Prop}(h:p:=by simp[go_sem,hcaps]):p:=h
theorem j0{p:Prop}(h:p:=by simp only[go_sem,dT];exact rfl):p:=h
theorem j5{p:Prop}(h:p:=by simp[Op.operands]):p:=h
theorem j6{p:Prop}(h:p:=by simp only[go_sem,mv1,kill];exact rfl):p:=h
theorem j7{p:Prop}(h:p:=by simp[go_sem,htk]):p:=h
theorem j8{p:Prop}(h:p:=by decide):p:=h
theorem j9{p:Prop}(h:p:=by simp only[go_sem,hg,ZK];try exact rfl):p:=h
theorem x6{p:Prop}(h:p:=by simp[hE]):p:=h
theorem x7{p:Prop}(h:p:=by simpa using h):p:=h
theorem x8{p:Prop}(h:p:=by simp only[go_sem,hg1,ZN];try exact rfl):p:=h
theorem x9{p:Prop}(h:p:=by simp[hge]):p:=h
theorem u1{p:Prop}(h:p:=by first | rfl | (simp only[go_sem];exact rfl)):p:=h
theorem u2{p:Prop}(h:p:=by simp only[go_sem,ZR];try exact rfl):p:=h
theorem u3{p:Prop}(h:p:=by simp[go_sem,how']):p:=h
theorem u4{p:Prop}(h:p:=by simp[hde]):p:=h
theorem u5{p:Prop}(h:p:=by simp only[go_sem,hg];try exact rfl):p:=h
theorem u6{p:Prop}(h:p:=by simp only[go_sem,hg,ZR];try exact rfl):p:=h
theorem u7{p:Prop}(h:p:=by rw[hx];trivial):p:=h
theorem u9{p:Prop}(h:p:=by simp only[go_sem,hg,ZN];try exact rfl):p:=h
theorem v7{p:Prop}(h:p:=by simp only[go_sem,hw1,hw2,hm,hid,Ne.symm hid,hgl,aG];try exact rfl):p:=h
theorem v8{p:Prop}(h:p:=by simp[bK,iB,pM];exact rfl):p:=h
theorem s6{p:Prop}(h:p:=by simp only[go_sem,hg,ZE];try exact rfl):p:=h
theorem s7{p:Prop}(h:p:=by simp[go_sem,hst]):p:=h
theorem s8{p:Prop}(h:p:=by simp[refs]):p:=h
theorem s9{p:Prop}(h:p:=by rintro rfl;exact hn (by simp[refs])):p:=h
theorem p6{p:Prop}(h:p:=by simp only[go_sem,hg1];try exact rfl):p:=h
theorem p7{p:Prop}(h:p:=by first | trivial | simp[go_sem]):p:=h
theorem p8{p:Prop}(h:p:=by simp[go_sem,hw1]):p:=h
theorem p9{p:Prop}(h:p:=by simp only[go_sem,hg,ZC];try exact rfl):p:=h
theorem n3{p:Prop}(h:p:=by simp only[go_sem,ZD,ZN];try exact rfl):p:=h
theorem n4{p:Prop}(h:p:=by simp[go_sem,hg1,ZN]):p:=h
theorem n9{p:Prop}(h:p:=by simp only[go_sem,hw,hgl,hLlt];try exact rfl):p:=h
theorem QA{p:Prop}(h:p:=by simp only[go_sem,hwl1];try exact rfl):p:=h
theorem QB{p:Prop}(h:p:=by simp only[go_sem,hw1,hid,Ne.symm hid];try exact rfl):p:=h
theorem QC{p:Prop}(h:p:=by simp only[go_sem,hid,Ne.symm hid,hcl];try exact rfl):p:=h
theorem QD{p:Prop}(h:p:=by simp only[μ2,upd];rw[if_neg he];exact hg):p:=h
theorem QE{p:Prop}(h:p:=by simp[he]):p:=h
theorem QF{p:Prop}(h:p:=by simp only[go_sem,ZK];try exact rfl):p:=h
theorem QG{p:Prop}(h:p:=by simp only[go_sem,hwn,hwv];try exact rfl):p:=h
theorem QH{p:Prop}(h:p:=by simp only[go_sem,hw,ZR];try exact rfl):p:=h
theorem QI{p:Prop}(h:p:=by rw[List.length_take];omega):p:=h
theorem QJ{p:Prop}(h:p:=by simp only[go_sem,hwp];try exact rfl):p:=h
theorem QK{p:Prop}(h:p:=by rintro ⟨id,h⟩;exact (hi.dom id b (mc h).2).2.2.1 hb):p:=h
theorem QL{p:Prop}(h:p:=by simp only[go_sem,hw3];try exact rfl):p:=h
theorem QM{p:Prop}(h:p:=by simp[go_sem,hk2]):p:=h
theorem QN{p:Prop}(h:p:=by simpa using hl):p:=h
theorem QO{p:Prop}(h:p:=by rw[eh,List.length_map];exact hl):p:=h
theorem QP{p:Prop}(h:p:=by simp only[go_sem,ZN,ax];try exact rfl):p:=h
theorem QQ{p:Prop}(h:p:=by simp only[go_sem,ZN,ZD];try exact rfl):p:=h
theorem QR{p:Prop}(h:p:=by simpa using hj):p:=h
theorem QS{p:Prop}(h:p:=by simp[go_sem,hstv,hon]):p:=h
theorem QT{p:Prop}(h:p:=by simp only[refs];exact aX hx h):p:=h
theorem QU{p:Prop}(h:p:=by simp[go_sem,ZN]):p:=h
theorem QV{p:Prop}(h:p:=by simp only[go_sem,e4,beq_self_eq_true,cond_true];try exact rfl):p:=h
theorem QW{p:Prop}(h:p:=by simp only[go_sem,hm];try exact rfl):p:=h
theorem QX{p:Prop}(h:p:=by simp[hk]):p:=h
theorem QY{p:Prop}(h:p:=by simp only[go_sem,ZA];try exact rfl):p:=h
theorem QZ{p:Prop}(h:p:=by simp[go_sem,hst,jgR,xV,ZV,List.take_length]):p:=h
theorem Qa{p:Prop}(h:p:=by simp only[go_sem,hv,hq];exact rfl):p:=h
theorem Qb{p:Prop}(h:p:=by rintro rfl;exact hS hb):p:=h
theorem Qc{p:Prop}(h:p:=by simp[go_sem,hs1]):p:=h
theorem Qd{p:Prop}(h:p:=by simp[go_sem,hcaps,-List.map_set]):p:=h
theorem Qe{p:Prop}(h:p:=by simp[go_sem,hw1,hid,Ne.symm hid]):p:=h
theorem Qf{p:Prop}(h:p:=by simp only[go_sem,hd,cond_true,cond_false];try exact rfl):p:=h
theorem Qg{p:Prop}(h:p:=by rw[List.all_append,dg,Bool.true_and];rfl):p:=h
theorem Qh{p:Prop}(h:p:=by simp[go_sem,hid,Ne.symm hid,aG]):p:=h
theorem Qi{p:Prop}(h:p:=by simp[go_sem,hw,hgl,hLlt]):p:=h
theorem Qj{p:Prop}(h:p:=by simp only[go_sem,hgb,ZK];try exact rfl):p:=h
theorem Qk{p:Prop}(h:p:=by rw[hy];trivial):p:=h
theorem Ql{p:Prop}(h:p:=by cases h):p:=h
theorem Qm{p:Prop}(h:p:=by simp[go_sem,hg1]):p:=h
theorem Qn{p:Prop}(h:p:=by simp only[go_sem,hg,ZJ];try exact rfl):p:=h
theorem Qo{p:Prop}(h:p:=by rw[List.all_append,bg,Bool.true_and];exact jP _ rfl):p:=h
theorem Qp{p:Prop}(h:p:=by simp[go_sem,hid,Ne.symm hid]):p:=h
theorem Qq{p:Prop}(h:p:=by simp only[go_sem,hwm1];try exact rfl):p:=h
theorem Qr{p:Prop}(h:p:=by rintro rfl;rw[hnod] at hg;cases hg):p:=h
theorem Qs{p:Prop}(h:p:=by simp[go_sem,bx,bc,cD]):p:=h
theorem Qt{p:Prop}(h:p:=by simp only[go_sem,hk];try exact rfl):p:=h
theorem Qu{p:Prop}(h:p:=by simp[go_sem,hwl1]):p:=h
theorem Qv{p:Prop}(h:p:=by simpa using e2):p:=h
theorem Qw{p:Prop}(h:p:=by simp[fk,nQ,wk]):p:=h
theorem Qx{p:Prop}(h:p:=by rw[hg];rfl):p:=h
theorem Qy{p:Prop}(h:p:=by simp[go_sem,hwn,hwv]):p:=h
theorem Qz{p:Prop}(h:p:=by rw[hs];exact hs0):p:=h
theorem Q0{p:Prop}(h:p:=by simp[go_sem,hs1,htq,ZC,hkk,haw]):p:=h
theorem Q3{p:Prop}(h:p:=by simp[h0]):p:=h
theorem Q4{p:Prop}(h:p:=by have:=hbs.data;show b.data.length<=_;omega):p:=h
theorem Q5{p:Prop}(h:p:=by simp[go_sem,e4,beq_self_eq_true,cond_true]):p:=h
theorem Q6{p:Prop}(h:p:=by simp only[go_sem,hA1,hB1,gD,gE,gF,gG,hwb1,gA,gB,gC];try exact rfl):p:=h
theorem Q7{p:Prop}(h:p:=by simp[haw]):p:=h
theorem Q8{p:Prop}(h:p:=by simp only[go_sem,Nat.sub_zero,List.drop_zero,hA1];try exact rfl):p:=h
theorem Q9{p:Prop}(h:p:=by simpa using hi):p:=h
theorem Za{p:Prop}(h:p:=by simpa using hz):p:=h
theorem Zb{p:Prop}(h:p:=by simpa using h1):p:=h
theorem Zc{p:Prop}(h:p:=by simp[ha]):p:=h
theorem Zd{p:Prop}(h:p:=by simp[go_sem,hsame,hm]):p:=h
theorem Ze{p:Prop}(h:p:=by rw[<-ha];simp[Sp.app]):p:=h
theorem Zf{p:Prop}(h:p:=by rw[dU,if_neg (by rw[hai];exact Bool.false_ne_true)];exact hb):p:=h
theorem Zg{p:Prop}(h:p:=by first | exact .inl ⟨rfl,rfl⟩ | exact .inr ⟨rfl,rfl⟩):p:=h
theorem Zh{p:Prop}(h:p:=by simp only[go_sem,hg1,ZN,cond_true,cond_false];try exact rfl):p:=h
theorem Zi{p:Prop}(h:p:=by simp only[go_sem,hd,hv,cond_true,cond_false];try exact rfl):p:=h
theorem Zj{p:Prop}(h:p:=by simp only[go_sem,hg,a_];try exact rfl):p:=h
theorem Zk{p:Prop}(h:p:=by simp[go_sem,hwp]):p:=h
theorem Zl{p:Prop}(h:p:=by simp[hxe]):p:=h
theorem Zm{p:Prop}(h:p:=by simp only[go_sem,hg,ZV];try exact rfl):p:=h
theorem Zn{p:Prop}(h:p:=by simp only[go_sem,hg,ZP];try exact rfl):p:=h
theorem Zo{p:Prop}(h:p:=by simp[go_sem,hne]):p:=h
theorem Zp{p:Prop}(h:p:=by simp only[go_sem,hg,hs];try exact rfl):p:=h
theorem Zq{p:Prop}(h:p:=by simp only[go_sem,beq_self_eq_true,cond_true];try exact rfl):p:=h
theorem Zr{p:Prop}(h:p:=by simp only[go_sem,hg,ZI];try exact rfl):p:=h
theorem Zs{p:Prop}(h:p:=by have:=fA x.act;omega):p:=h
theorem Zt{p:Prop}(h:p:=by rw[List.all_append,ea];rfl):p:=h
theorem Zu{p:Prop}(h:p:=by simp[go_sem,hd,cond_true,cond_false]):p:=h
theorem Zv{p:Prop}(h:p:=by simp only[go_sem,hg1,cond_true,cond_false];try exact rfl):p:=h
theorem Zw{p:Prop}(h:p:=by rw[hg];exact hc):p:=h
theorem Zx{p:Prop}(h:p:=by simp[go_sem,bx]):p:=h
theorem Zy{p:Prop}(h:p:=by simp only[go_sem,hwi];try exact rfl):p:=h
theorem Zz{p:Prop}(h:p:=by simp[go_sem,hs1,aV]):p:=h
theorem Z0{p:Prop}(h:p:=by simp only[go_sem,hwr];try exact rfl):p:=h
theorem Z1{p:Prop}(h:p:=by simp only[go_sem,bx];try exact rfl):p:=h
theorem Z2{p:Prop}(h:p:=by exact aj.nrm rfl (fc ⟨a.fid,a.kind==2,[],[],0⟩ v)):p:=h
theorem Z3{p:Prop}(h:p:=by simp[go_sem,hv,hq]):p:=h
theorem Z4{p:Prop}(h:p:=by simpa using hk):p:=h
theorem Z5{p:Prop}(h:p:=by simp[go_sem,hgt,htq,hk,ZK,ZN,hnk]):p:=h
theorem Z6{p:Prop}(h:p:=by simp only[go_sem,hgl,hgk,hgf,aS,cc,aq];try exact rfl):p:=h
theorem Z7{p:Prop}(h:p:=by simp[hqe]):p:=h
theorem Z8{p:Prop}(h:p:=by rintro rfl;rw[hn] at hg;cases hg):p:=h
theorem Z9{p:Prop}(h:p:=by simp[h]):p:=h
theorem WA{p:Prop}(h:p:=by simp only[refs];exact aX hx hid):p:=h
theorem WB{p:Prop}(h:p:=by rw[kI,List.length_map];exact hl):p:=h
theorem WC{p:Prop}(h:p:=by rw[jm,List.length_map];exact hl):p:=h
theorem WD{p:Prop}(h:p:=by simp only[go_sem,qL];exact rfl):p:=h
theorem WE{p:Prop}(h:p:=by simp only[refs];exact aX e hid):p:=h
theorem WG{p:Prop}(h:p:=by simpa[refs] using hid):p:=h
theorem WH{p:Prop}(h:p:=by simp only[go_sem,hf1,hf2,hf3,hf4];try exact rfl):p:=h
theorem WI{p:Prop}(h:p:=by rw[List.length_map,<-hS,List.length_set];omega):p:=h
theorem WJ{p:Prop}(h:p:=by simp only[go_sem,xX,mR hf.ri.up];try exact rfl):p:=h
theorem WK{p:Prop}(h:p:=by simpa[refs] using hx):p:=h
theorem WL{p:Prop}(h:p:=by simp[go_sem,hm]):p:=h
theorem WM{p:Prop}(h:p:=by rw[hrl row (List.mem_of_getElem? hi')];omega):p:=h
theorem WN{p:Prop}(h:p:=by rintro rfl;rw[hi.fresh hfree] at hg;cases hg):p:=h
theorem WO{p:Prop}(h:p:=by rw[hRl row (List.mem_of_getElem? hi')];omega):p:=h
theorem WQ{p:Prop}(h:p:=by simp[hk5]):p:=h
theorem WR{p:Prop}(h:p:=by rw[hs row (List.mem_of_getElem? hi')];omega):p:=h
theorem WS{p:Prop}(h:p:=by simp[go_sem,hon,ZR]):p:=h
theorem WT{p:Prop}(h:p:=by simp[bj,hn]):p:=h
theorem WU{p:Prop}(h:p:=by simpa using h2):p:=h
theorem WV{p:Prop}(h:p:=by intro h;exact hn.1 (by rw[<-h.1];exact hq)):p:=h
theorem WW{p:Prop}(h:p:=by simp only[go_sem,hga,hgb,ZE];try exact rfl):p:=h
theorem WX{p:Prop}(h:p:=by simp only[go_sem,hgk,ZI,hwk];try exact rfl):p:=h
theorem WY{p:Prop}(h:p:=by simp[go_sem,htk,htq,ZK,hd]):p:=h
theorem WZ{p:Prop}(h:p:=by simpa[AV.scalar] using hx):p:=h
theorem Wa{p:Prop}(h:p:=by rintro ⟨id,h⟩;cases h):p:=h
theorem Wb{p:Prop}(h:p:=by rw[hu];rfl):p:=h
theorem Wc{p:Prop}(h:p:=by rw[cB,if_pos k1];exact j1):p:=h
theorem We{p:Prop}(h:p:=by simp[go_sem,hwm1]):p:=h
theorem Wf{p:Prop}(h:p:=by simp[go_sem,htk,htq,ZK]):p:=h
theorem Wg{p:Prop}(h:p:=by simp[go_sem,hon]):p:=h
theorem Wi{p:Prop}(h:p:=by rw[hA];exact hge):p:=h
theorem Wj{p:Prop}(h:p:=by rw[hA];exact hde):p:=h
theorem Wk{p:Prop}(h:p:=by simp[efA]):p:=h
theorem Wl{p:Prop}(h:p:=by simpa using hkl):p:=h
theorem Wm{p:Prop}(h:p:=by simpa using hw0):p:=h
theorem Wn{p:Prop}(h:p:=by simp[go_sem,bP]):p:=h
theorem Wo{p:Prop}(h:p:=by simp[go_sem,bo]):p:=h
theorem Wp{p:Prop}(h:p:=by rw[l_];exact ha):p:=h
theorem Wq{p:Prop}(h:p:=by simpa[exitTo] using h):p:=h
theorem Wr{p:Prop}(h:p:=by cases hr):p:=h
theorem Ws{p:Prop}(h:p:=by rw[hh];trivial):p:=h
theorem Wt{p:Prop}(h:p:=by rw[hne];decide):p:=h
theorem Wu{p:Prop}(h:p:=by simp[go_sem,hgt,hnk]):p:=h
theorem Wv{p:Prop}(h:p:=by simpa using e):p:=h
theorem Ww{p:Prop}(h:p:=by simp[hsd]):p:=h
theorem Wx{p:Prop}(h:p:=by simp[hge,hd]):p:=h
theorem Wy{p:Prop}(h:p:=by simp<;>omega):p:=h
namespace Go.Eng
structure Glb where
 B:Nat->Prop
 V:World->Prop
 same:∀w w':World,(∀b,B b->w'.heap[b]? = w.heap[b]?)->V w->V w'
def glb:Glb:=⟨λ_=>False,λ_=>True,λ_ _ _ _=>trivial⟩
end Go.Eng
namespace Go.Eng
theorem gH {α:Type _} (a:α) (l m:List α):(a::l)++m=a::(l++m):=rfl
theorem gI {α:Type _} (l:List α):[]++l=l:=rfl
theorem gJ {α β:Type _} (f:α->β) (a:α) (l:List α):(a::l).map f=f a::l.map f:=rfl
theorem gK {α β:Type _} (f:α->β):([]:List α).map f=[]:=rfl
theorem gL {α:Type _} (a b:α):(some a=some b)=(a=b):=Option.some.injEq a b
theorem gM {α β:Type _} (a:α) (b:β) (c:α) (d:β):((a,b)=(c,d))=(a=c/\b=d):=Prod.mk.injEq a b c d
inductive AV where
 | any
 | int (k:IntKind) (n:Int)
 | bool (b:Bool)
 | str (s:List UInt8)
 | nilp
 | nili
  | ifc
 | nils
 | nilm
 | sl (rows:List (List AV))
 | rp (cells:List AV) (off:Nat)
 | rm (kvs:List (Int×AV))
 | fn (f:FuncId) (caps:List AV)
 | agg (cells:List AV)
 | tup (vs:List AV)
 | ptr (id size row off:Nat)
 | osl (id size off len:Nat)
 | mp (id:Nat)
 | exs (id size off len cap:Nat)
 | cnd (c:Bool) (v:AV)
 deriving Inhabited
def u0:Nat->Nat->List (Nat×AV)->List (Nat×AV)
 |_,0,r=>r
 |k,n+1,r=>(k,.any)::u0 (k+1) n r
@[go_sem,simp] theorem u0Z (k:Nat) (r):u0 k 0 r=r:=rfl
@[go_sem,simp] theorem u0S (k n:Nat) (r):u0 k (n+1) r=(k,.any)::u0 (k+1) n r:=rfl
def aH (S:Nat->Prop) (w w':World):Prop:=∀b,S b->w'.heap[b]? = w.heap[b]?
theorem aH.refl (S:Nat->Prop) (w:World):aH S w w:=λ_ _=>rfl
theorem qe {w w':World} {a:Addr} (h:w'.heap[a.block]? = w.heap[a.block]?):w'.cell? a=w.cell? a:=by
 unfold World.cell?;rw[h]
structure MapOK (es:Array MapEntry) (clk:Nat) (kvs:List (Int×AV)) (vals:Int->Value):Prop where
 key:∀e,e∈es.toList->∃k x,e.key=.int .i64 k/\(k,x)∈kvs/\e.val=vals k
 has:∀p,p∈kvs->∃e,e∈es.toList/\e.key=.int .i64 p.1
 once:(es.toList.map (·.key)).Nodup
 len:es.size=kvs.length
 rise:kvs.Pairwise λa b=>a.1<b.1
 born:∀e,e∈es.toList->e.born<clk
 nodup:(es.toList.map (·.born)).Nodup
inductive RdP (S:Nat->Prop) (w:World):Value->AV->Prop
 | int (k:IntKind) (n:Int):RdP S w (.int k n) (.int k n)
 | bool (b:Bool):RdP S w (.bool b) (.bool b)
 | str (s:ByteArray) (l:List UInt8) (h:s.data.toList=l):RdP S w (.string s) (.str l)
 | nilp:RdP S w (.pointer none) .nilp
 | nili:RdP S w .nilIface .nili
 | ifc (t:TypeId) (p:Value):RdP S w (.iface t p) .ifc
 | nils:RdP S w (.slice none 0 0) .nils
 | nilm:RdP S w (.map none) .nilm
 | sl (A:Option Addr) (len cap:Nat) (rows:List (List AV)) (size g off:Nat) (vals:Nat->Nat->Value)
   (hl:rows.length=len) (hc:len<=cap) (hs:∀row,row∈rows->row.length=size)
   (hA:0<len->A=some ⟨g,off,none⟩/\S g)
   (hcell:∀i j,i<len->j<size->w.cell? ⟨g,off+(i*size+j),none⟩=some (vals i j))
   (hr:∀i row,rows[i]? = some row->∀j x,row[j]? = some x->RdP S w (vals i j) x):RdP S w (.slice A len cap) (.sl rows)
 | rp (g o off:Nat) (cells:List AV) (vals:Nat->Value) (hS:S g)
   (hcell:∀j,j<cells.length->w.cell? ⟨g,o+j,none⟩=some (vals j))
   (hr:∀j x,cells[j]? = some x->RdP S w (vals j) x):RdP S w (.pointer (some ⟨g,o+off,none⟩)) (.rp cells off)
 | rm (g:Nat) (es:Array MapEntry) (clk:Nat) (kvs:List (Int×AV)) (vals:Int->Value) (hS:S g)
   (hg:w.heap[g]? = some (.map es clk)) (hm:MapOK es clk kvs vals)
   (hr:∀p,p∈kvs->RdP S w (vals p.1) p.2):RdP S w (.map (some g)) (.rm kvs)
 | fn (f:FuncId) (vals:Array Value) (caps:List AV) (hl:vals.size=caps.length)
   (hr:∀j x,caps[j]? = some x->RdP S w (vals.getD j undef) x):RdP S w (.func (.func f) #[] vals) (.fn f caps)
 | agg (cs:Array Value) (cells:List AV) (hl:cs.size=cells.length)
   (hr:∀j x,cells[j]? = some x->RdP S w (cs.getD j undef) x):RdP S w (.agg cs) (.agg cells)
theorem RdP.mono {S S':Nat->Prop} {w w':World} {v:Value} {x:AV} (h:RdP S w v x) (hw:aH S w w') (hs:∀b,S b->S' b):RdP S' w' v x:=by
 induction h with
 | int k n=>exact .int k n
 | bool b=>exact .bool b
 | str s l h=>exact .str s l h
 | nilp=>exact .nilp
 | nili=>exact .nili
 | ifc t p=>exact .ifc t p
 | nils=>exact .nils
 | nilm=>exact .nilm
 | sl A len cap rows size g off vals hl hc hsz hA hcell hr ih=>
  refine .sl A len cap rows size g off vals hl hc hsz (λh=>⟨(hA h).1,hs _ (hA h).2⟩) (λi j hi hj=>?_) ih;rw[qe (hw g (hA z8).2)];exact hcell i j hi hj
 | rp g o off cells vals hS hcell hr ih=>
  refine .rp g o off cells vals (hs _ hS) (λj hj=>?_) ih;rw[qe (hw g hS)];exact hcell j hj
 | rm g es clk kvs vals hS hg hm hr ih=>exact .rm g es clk kvs vals (hs _ hS) ((hw g hS).trans hg) hm ih
 | fn f vals caps hl hr ih=>exact .fn f vals caps hl ih
 | agg cs cells hl hr ih=>exact .agg cs cells hl ih
def ag (w:World) (g:Nat):Option (TypeId×Nat):=
 match w.heap[g]? with
 | some (.cells c e (0,0))=>some (e,c.size)
 | _=>none
theorem aN {w w':World} {g:Nat} (h:w'.heap[g]? = w.heap[g]?):ag w' g=ag w g:=by unfold ag;rw[h]
inductive Rd (μ:Nat->Option Nat) (S:Nat->Prop) (w:World):Value->AV->Prop
 | any (v:Value):Rd μ S w v .any
 | pure {v:Value} {x:AV} (h:RdP S w v x):Rd μ S w v x
 | agg (cs:Array Value) (cells:List AV) (hl:cs.size=cells.length)
   (hr:∀j x,cells[j]? = some x->Rd μ S w (cs.getD j undef) x):Rd μ S w (.agg cs) (.agg cells)
 | tup (vs:Array Value) (xs:List AV) (hl:vs.size=xs.length)
   (hr:∀j x,xs[j]? = some x->Rd μ S w (vs.getD j undef) x):Rd μ S w (.tuple vs) (.tup xs)
 | fn (f:FuncId) (vals:Array Value) (caps:List AV) (hl:vals.size=caps.length)
   (hr:∀j x,caps[j]? = some x->Rd μ S w (vals.getD j undef) x):Rd μ S w (.func (.func f) #[] vals) (.fn f caps)
 | ptr (id size row off g:Nat) (hg:μ id=some g):Rd μ S w (.pointer (some ⟨g,row*size+off,none⟩)) (.ptr id size row off)
 | osl (id size off len cap:Nat) (A:Option Addr) (hc:len<=cap)
   (h:(len=0/\cap=0)\/∃g e n,μ id=some g/\A=some ⟨g,off*size,none⟩/\ag w g=some (e,n)/\(off+cap)*size=n) :
   Rd μ S w (.slice A len cap) (.osl id size off len)
 | mp (id g:Nat) (hg:μ id=some g):Rd μ S w (.map (some g)) (.mp id)
 | exs (id size off len cap g e n:Nat) (hc:len<=cap) (hg:μ id=some g) (hr:ag w g=some (e,n)) (hn:(off+cap)*size=n):Rd μ S w (.slice (some ⟨g,off*size,none⟩) len cap) (.exs id size off len cap)
 | cndT (v:Value) (x:AV) (h:Rd μ S w v x):Rd μ S w v (.cnd true x)
 | cndF (x:AV):Rd μ S w undef (.cnd false x)
theorem Rd.mono {μ μ':Nat->Option Nat} {S S':Nat->Prop} {w w':World} {v:Value} {x:AV} (h:Rd μ S w v x) (hw:aH S w w') (hs:∀b,S b->S' b)
  (hm:∀id g,μ id=some g->μ' id=some g) (hz:∀id g,μ id=some g->ag w' g=ag w g):Rd μ' S' w' v x:=by
 induction h with
 | any v=>exact .any v
 | pure h=>exact .pure (h.mono hw hs)
 | agg cs cells hl hr ih=>exact .agg cs cells hl ih
 | tup vs xs hl hr ih=>exact .tup vs xs hl ih
 | fn f vals caps hl hr ih=>exact .fn f vals caps hl ih
 | ptr id size row off g hg=>exact .ptr id size row off g (hm _ _ hg)
 | osl id size off len cap A hc h=>
  refine .osl id size off len cap A hc ?_
  rcases h with h | ⟨g,e,n,h1,h2,h3,h4⟩
  ·exact .inl h
  ·exact .inr ⟨g,e,n,hm _ _ h1,h2,(hz _ _ h1).trans h3,h4⟩
 | mp id g hg=>exact .mp id g (hm _ _ hg)
 | exs id size off len cap g e n hc hg hr hn=>exact .exs id size off len cap g e n hc (hm _ _ hg) ((hz _ _ hg).trans hr) hn
 | cndT v x h ih=>exact .cndT v x ih
 | cndF x=>exact .cndF x
inductive Blk where
 | cells (elem:TypeId) (size:Nat) (rows:List (List AV))
 | map (kvs:List (Int×AV))
  | iter (kvs:List (Int×AV)) (seen:List Int)
  | cap (id s N:Nat)
  | pin (id g t n:Nat)
 deriving Inhabited
structure IterOK (w:World) (S:Nat->Prop) (g:Nat) (kvs:List (Int×AV)) (seen:List Int) (es:Array MapEntry) (clk:Nat) (vals:Int->Value) (had:Array Nat):Prop where
 lies:∃m,w.heap[g]? = some (.mapIter (some m) clk had clk)/\S m/\w.heap[m]? = some (.map es clk)
 map:MapOK es clk kvs vals
 last:∀k r,seen=k::r->∃e,e∈es.toList/\e.key=.int .i64 k/\had.back? = some e.born
 had:∀e,e∈es.toList->∀k,e.key=.int .i64 k->(had.contains e.born=true↔k∈seen)
def qM (t n:Nat):Option (TypeId×Nat):=if n=0 then none else some (t,n)
def cR (μ:Nat->Option Nat) (S:Nat->Prop) (w:World) (id:Nat):Blk->Prop
 | .cells e s rows=>(rows=[]/\μ id=none)\/∃g c,μ id=some g/\w.heap[g]? = some (.cells c e (0,0))/\rows.length*s<=c.size/\(∀row,row∈rows->row.length=s) /\
   ∀(i:Nat) row,rows[i]? = some row->∀(j:Nat) x,row[j]? = some x->Rd μ S w (c.getD (i*s+j) undef) x
 | .map kvs=>∃g es clk vals,μ id=some g/\w.heap[g]? = some (.map es clk)/\MapOK es clk kvs vals/\∀p,p∈kvs->RdP S w (vals p.1) p.2
 | .iter kvs seen=>∃g es clk vals had,μ id=some g/\IterOK w S g kvs seen es clk vals had/\∀p,p∈kvs->RdP S w (vals p.1) p.2
 | .cap id' s N=>μ id=none/\∃g e,μ id'=some g/\ag w g=some (e,N*s)
 | .pin id' g t n=>μ id=none/\μ id'=some g/\ag w g=qM t n
theorem cR.mono {μ μ':Nat->Option Nat} {S S':Nat->Prop} {w w':World} {id:Nat} {b:Blk} (h:cR μ S w id b) (hw:aH S w w') (hs:∀b,S b->S' b)
  (hm:∀id g,μ id=some g->μ' id=some g) (hz:∀id g,μ id=some g->ag w' g=ag w g)
  (hn:μ id=none->μ' id=none) (hb:∀g,μ id=some g->w'.heap[g]? = w.heap[g]?):cR μ' S' w' id b:=by
 cases b with
 | cells e s rows=>
  rcases h with ⟨h1,h2⟩ | ⟨g,c,h1,h2,h3,h4,h5⟩
  ·exact .inl ⟨h1,hn h2⟩
  ·exact .inr ⟨g,c,hm _ _ h1,(hb _ h1).trans h2,h3,h4,λi row hi j x hj=>(h5 i row hi j x hj).mono hw hs hm hz⟩
 | map kvs=>
  obtain ⟨g,es,clk,vals,h1,h2,h3,h4⟩:=h;exact ⟨g,es,clk,vals,hm _ _ h1,(hb _ h1).trans h2,h3,λp hi=>(h4 p hi).mono hw hs⟩
 | iter kvs seen=>
  obtain ⟨g,es,clk,vals,had,h1,h2,h4⟩:=h;obtain ⟨m,k1,k2,k3⟩:=h2.lies;exact ⟨g,es,clk,vals,had,hm _ _ h1,⟨⟨m,(hb _ h1).trans k1,hs _ k2,(hw m k2).trans k3⟩,h2.map,h2.last,h2.had⟩,λp hi=>(h4 p hi).mono hw hs⟩
 | cap id' s N=>
  obtain ⟨h1,g,e,h2,h3⟩:=h;exact ⟨hn h1,g,e,hm _ _ h2,(hz _ _ h2).trans h3⟩
 | pin id' g t n=>
  obtain ⟨h1,h2,h3⟩:=h;exact ⟨hn h1,hm _ _ h2,(hz _ _ h2).trans h3⟩
structure St where
 tm:List AV
 hp:List (Nat×Blk)
def aa:List (Nat×Blk)->Nat->Option Blk
 | [],_=>none
 | (i,b)::r,id=>if i=id then some b else aa r id
def aG:List (Nat×Blk)->Nat->Blk->List (Nat×Blk)
 | [],id,b=>[(id,b)]
 | (i,c)::r,id,b=>if i=id then (id,b)::r else (i,c)::aG r id b
def dT:List (Nat×Blk)->Nat->List (Nat×Blk)
 | [],_=>[]
 | (i,c)::r,id=>if i=id then dT r id else (i,c)::dT r id
theorem ai (h:List (Nat×Blk)) (id id':Nat) (b:Blk):aa (aG h id b) id'=if id=id' then some b else aa h id':=by
 induction h with
 | nil=>simp[aG,aa]
 | cons p r ih=>
  obtain ⟨i,c⟩:=p;simp only[aG]
  by_cases h1:i=id
  ·subst h1;simp only[if_true,aa];split<;>simp_all
  ·simp only[h1,if_false,aa,ih]
   by_cases h2:i=id'
   ·subst h2;simp only[if_true];rw[if_neg (λe=>h1 e.symm)]
   ·simp[h2]
theorem bB (h:List (Nat×Blk)) (id id':Nat):aa (dT h id) id'=if id=id' then none else aa h id':=by
 induction h with
 | nil=>simp[dT,aa]
 | cons p r ih=>
  obtain ⟨i,c⟩:=p;simp only[dT]
  by_cases h1:i=id
  ·subst h1;simp only[if_true,ih,aa];split<;>simp_all
  ·simp only[h1,if_false,aa,ih]
   by_cases h2:i=id'
   ·subst h2;simp only[if_true];rw[if_neg (λe=>h1 e.symm)]
   ·simp[h2]
structure Ctx where
 w0:World
 A0:Nat->Prop
 R0:Nat->Prop
 g0:(∀b,glb.B b->b<w0.heap.size/\¬A0 b)/\glb.V w0
structure Frm (A:Nat->Prop) (w w':World):Prop where
 os:w'.os=w.os
 tape:w'.tape=w.tape
 output:w'.output=w.output
 size:w.heap.size<=w'.heap.size
 block:∀b,b<w.heap.size->¬A b->w'.heap[b]? = w.heap[b]?
theorem Frm.refl (A:Nat->Prop) (w:World):Frm A w w:=⟨rfl,rfl,rfl,W7 _,λ_ _ _=>rfl⟩
theorem Frm.step {A:Nat->Prop} {w0 w w':World} (h:Frm A w0 w) (T:Nat->Prop) (k:Frm T w w') (ht:∀b,T b->A b\/w0.heap.size<=b):Frm A w0 w':=
 ⟨k.os.trans h.os,k.tape.trans h.tape,k.output.trans h.output,Yl h.size k.size,λb hb hA=>by
  rw[k.block b (YZ hb h.size) (λhT=>by rcases ht b hT with h1 | h1;exact hA h1;omega)];exact h.block b hb hA⟩
structure Inv (C:Ctx) (μ:Nat->Option Nat) (S:Nat->Prop) (σ:St) (a:Act) (w:World):Prop where
 size:a.tmps.size=σ.tm.length
 defers:a.defers=[]
 tm:∀t x,σ.tm[t]? = some x->Rd μ S w (a.tmps.getD t undef) x
 hp:∀id b,aa σ.hp id=some b->cR μ S w id b
 dom:∀id g,μ id=some g->(∃b,aa σ.hp id=some b)/\(C.A0 g\/C.w0.heap.size<=g)/\¬S g/\g<w.heap.size
 inj:∀id id' g,μ id=some g->μ id'=some g->id=id'
 frm:Frm C.A0 C.w0 w
 sb:∀b,S b->b<w.heap.size/\(C.R0 b\/C.A0 b\/C.w0.heap.size<=b)
def Rel (C:Ctx) (σ:St) (a:Act) (w:World):Prop:=∃μ S,Inv C μ S σ a w
def GOK (μ:Nat->Option Nat) (w:World):Prop:=(∀b,glb.B b->b<w.heap.size/\¬∃id,μ id=some b)/\glb.V w
theorem Inv.gok {C:Ctx} {μ:Nat->Option Nat} {S:Nat->Prop} {σ:St} {a:Act} {w:World} (h:Inv C μ S σ a w):GOK μ w:=
 ⟨λb hb=>⟨YZ (C.g0.1 b hb).1 h.frm.size,λ⟨id,hg⟩=>((h.dom id b hg).2.1).elim (C.g0.1 b hb).2 (λk=>absurd (C.g0.1 b hb).1 z8)⟩,
  glb.same C.w0 w (λb hb=>h.frm.block b (C.g0.1 b hb).1 (C.g0.1 b hb).2) C.g0.2⟩
theorem GOK.sub {μ μ':Nat->Option Nat} {w:World} (h:GOK μ w) (hm:∀i g,μ' i=some g->∃j,μ j=some g):GOK μ' w:=
 ⟨λb hb=>⟨(h.1 b hb).1,λ⟨i,hi⟩=>(h.1 b hb).2 (hm i b hi)⟩,h.2⟩
theorem GOK.nil {μ:Nat->Option Nat} {w:World} (h:GOK μ w):GOK (λ_=>none) w:=h.sub λ_ _ h=>nomatch h
theorem GOK.frm {μ μ':Nat->Option Nat} {w w':World} (h:GOK μ w) (hf:Frm (λg=>∃id,μ id=some g) w w') (hm:∀id g,μ' id=some g->(∃id',μ id'=some g)\/w.heap.size<=g):GOK μ' w':=
 ⟨λb hb=>⟨YZ (h.1 b hb).1 hf.size,λ⟨i,hi⟩=>(hm i b hi).elim (h.1 b hb).2 (λk=>absurd (h.1 b hb).1 z8)⟩,
  glb.same w w' (λb hb=>hf.block b (h.1 b hb).1 (h.1 b hb).2) h.2⟩
end Go.Eng
namespace Go.Eng
inductive KD where
 | other | bool | int (k:IntKind) | str | sl (e:TypeId) | map (k e:TypeId) | ptr (e:TypeId) | struct | iface | func
def jX (P:Program) (t:TypeId):KD->Prop
 | .other=>True
 | .bool=>P.underlying t=some .bool
 | .int k=>P.underlying t=some (.int k)
 | .str=>P.underlying t=some .string
 | .sl e=>P.underlying t=some (.slice e)
 | .map k e=>P.underlying t=some (.map k e)
 | .ptr e=>P.underlying t=some (.pointer e)
 | .struct=>∃F,P.underlying t=some (.struct F)/\∀f,f∈F->(P.info? f.type).isSome=true
 | .iface=>∃ms,P.underlying t=some (.interface ms)
 | .func=>∃a b c,P.underlying t=some (.func a b c)
def KD.isA:KD->Option Bool
 | .other=>none
 | .struct=>some true
 | _=>some false
def ofValue:Value->AV
 | .int k n=>.int k n
 | .bool b=>.bool b
 | .string s=>.str s.data.toList
 | .pointer none=>.nilp
 | .slice none 0 0=>.nils
 | .map none=>.nilm
 | .nilIface=>.nili
 | _=>.any
structure Tab where
 und:TypeId->KD
 siz:TypeId->Nat
 byt:TypeId->Nat
 zer:TypeId->List AV
 fld:TypeId->Nat->Option (TypeId×Nat)
structure TabOK (P:Program) (T:Tab):Prop where
 und:∀t,jX P t (T.und t)
 siz:∀t,T.siz t≠0->∃i,P.info? t=some i/\i.size=T.siz t/\i.bytes=T.byt t/\∃z,i.zero=some z/\z.cells.toList.map ofValue=T.zer t/\z.cells.size=T.siz t /\
  (T.und t).isA=some (match z with | .agg _=>true | _=>false)
 fld:∀t j ft off,T.fld t j=some (ft,off)->∃F f,P.underlying t=some (.struct F)/\F[j]? = some f/\f.type=ft/\f.offset=off/\T.siz ft≠0
theorem Ay (S:Nat->Prop) (w:World) (v:Value) (h:ofValue v≠.any):RdP S w v (ofValue v):=by
 revert h
 unfold ofValue;split<;>intro h<;>first | exact .int _ _ | exact .bool _ | exact .str _ _ rfl | exact .nilp | exact .nils | exact .nilm | exact .nili | exact absurd rfl h
theorem oG (μ:Nat->Option Nat) (S:Nat->Prop) (w:World) (v:Value):Rd μ S w v (ofValue v):=by
 by_cases h:ofValue v=.any
 ·rw[h];exact .any v
 ·exact .pure (Ay S w v h)
def ev (σ:St):Operand->AV
 | .tmp t=>σ.tm.getD t .any
 | .const v=>ofValue v
 | .func f=>.fn f []
 | .global _=>.any
theorem Inv.ev {C:Ctx} {μ:Nat->Option Nat} {S:Nat->Prop} {σ:St} {a:Act} {w:World} (h:Inv C μ S σ a w) (o:Operand):Rd μ S w (a.eval o) (ev σ o):=by
 cases o with
 | tmp t=>
  simp only[Act.eval,Eng.ev];cases e:σ.tm[t]? with
  | none=>rw[List.getD_eq_getElem?_getD,e];exact .any _
  | some x=>rw[List.getD_eq_getElem?_getD,e];exact h.tm t x e
 | const v=>exact oG μ S w v
 | func f=>exact .fn f #[] [] rfl (λj x hx=>by simp at hx)
 | global g=>exact .any _
def St.put (σ:St) (d:Option Tmp) (x:AV):St:=
 match d with
 | some t=>{ σ with tm:=σ.tm.set t x }
 | none=>σ
@[simp] theorem St.hY (σ:St) (d:Option Tmp) (x:AV):(σ.put d x).hp=σ.hp:=by cases d<;>rfl
theorem Inv.put {C:Ctx} {μ:Nat->Option Nat} {S:Nat->Prop} {σ:St} {a:Act} {w:World} (h:Inv C μ S σ a w) (d:Option Tmp) {u:Value} {x:AV} (hu:Rd μ S w u x) :
  Inv C μ S (σ.put d x) (a.put d u) w:=by
 cases d with
 | none=>exact h
 | some t=>
  refine { h with size:=?_,tm:=?_,defers:=h.defers }
  ·simp[Act.put,St.put,h.size]
  ·intro i y hi;simp only[St.put,YM] at hi
   by_cases e:t=i
   ·subst e;simp only[if_true] at hi;split at hi
    ·rename_i hl;injection hi with hi;subst hi
     have:(a.put (some t) u).tmps.getD t undef=u:=by
      simp only[Act.put];rw[Array.getD_eq_getD_getElem?,Array.getElem?_setIfInBounds_self_of_lt (by rw[h.size];exact hl)];rfl
     rw[this];exact hu
    ·cases hi
   ·rw[if_neg e] at hi;have:(a.put (some t) u).tmps.getD i undef=a.tmps.getD i undef:=by
     simp only[Act.put];rw[Array.getD_eq_getD_getElem?,Array.getElem?_setIfInBounds_ne e,<-Array.getD_eq_getD_getElem?]
    rw[this];exact h.tm i y hi
def eP (P:Program) (C:Ctx) (o:Oper) (σ σ':St):Prop:=
 ∀a w (K:Act->World->Prop) (Q:Exit->Act->World->Prop),Rel C σ a w->(∀a' w',Rel C σ' a' w'->K a' w')->o.wp P a w K Q
theorem ec {P:Program} {C:Ctx} {o:Oper} {σ:St} {x:AV}
  (h:∀μ S a w,Inv C μ S σ a w->∃u,(execOp a.eval o).run P w=.ok (.value u) w/\Rd μ S w u x):eP P C o σ (σ.put o.dst x):=by
 intro a w K Q ⟨μ,S,hi⟩ hK;obtain ⟨u,hr,hu⟩:=h μ S a w hi;unfold Oper.wp;rw[hr];exact hK _ _ ⟨μ,S,hi.put o.dst hu⟩
section inv
variable {μ:Nat->Option Nat} {S:Nat->Prop} {w:World} {v:Value}
theorem Rd.aL {k:IntKind} {n:Int} (h:Rd μ S w v (.int k n)):v=.int k n:=by cases h with | pure h=>cases h;rfl
theorem Rd.eU {b:Bool} (h:Rd μ S w v (.bool b)):v=.bool b:=by cases h with | pure h=>cases h;rfl
theorem Rd.fG {l:List UInt8} (h:Rd μ S w v (.str l)):∃s:ByteArray,v=.string s/\s.data.toList=l:=by cases h with | pure h=>cases h with | str s l h=>exact ⟨s,rfl,h⟩
theorem Rd.gm (h:Rd μ S w v .nils):v=.slice none 0 0:=by cases h with | pure h=>cases h;rfl
theorem Rd.zH (h:Rd μ S w v .nilm):v=.map none:=by cases h with | pure h=>cases h;rfl
theorem Rd.iZ {id size row off:Nat} (h:Rd μ S w v (.ptr id size row off)):∃g,μ id=some g/\v=.pointer (some ⟨g,row*size+off,none⟩):=by
 cases h with
 | pure h=>cases h
 | ptr _ _ _ _ g hg=>exact ⟨g,hg,rfl⟩
theorem Rd.tZ {id:Nat} (h:Rd μ S w v (.mp id)):∃g,μ id=some g/\v=.map (some g):=by
 cases h with
 | pure h=>cases h
 | mp _ g hg=>exact ⟨g,hg,rfl⟩
theorem Rd.bZ {id size off len:Nat} (h:Rd μ S w v (.osl id size off len)):∃A cap,v=.slice A len cap/\len<=cap /\
  ((len=0/\cap=0)\/∃g e n,μ id=some g/\A=some ⟨g,off*size,none⟩/\ag w g=some (e,n)/\(off+cap)*size=n):=by
 cases h with
 | pure h=>cases h
 | osl _ _ _ _ cap A hc h=>exact ⟨A,cap,rfl,hc,h⟩
theorem Rd.nC {cells:List AV} (h:Rd μ S w v (.agg cells)):∃cs:Array Value,v=.agg cs/\cs.size=cells.length/\∀j x,cells[j]? = some x->Rd μ S w (cs.getD j undef) x:=by
 cases h with
 | pure h=>cases h with | agg cs _ hl hr=>exact ⟨cs,rfl,hl,λj x hx=>.pure (hr j x hx)⟩
 | agg cs _ hl hr=>exact ⟨cs,rfl,hl,hr⟩
theorem Rd.I2 {xs:List AV} (h:Rd μ S w v (.tup xs)):∃vs:Array Value,v=.tuple vs/\vs.size=xs.length/\∀j x,xs[j]? = some x->Rd μ S w (vs.getD j undef) x:=by
 cases h with
 | pure h=>cases h
 | tup vs _ hl hr=>exact ⟨vs,rfl,hl,hr⟩
theorem Rd.BE {f:FuncId} {caps:List AV} (h:Rd μ S w v (.fn f caps)):∃vals:Array Value,v=.func (.func f) #[] vals/\vals.size=caps.length/\∀j x,caps[j]? = some x->Rd μ S w (vals.getD j undef) x:=by
 cases h with
 | pure h=>cases h with | fn _ vals _ hl hr=>exact ⟨vals,rfl,hl,λj x hx=>.pure (hr j x hx)⟩
 | fn _ vals _ hl hr=>exact ⟨vals,rfl,hl,hr⟩
theorem Rd.gY {rows:List (List AV)} (h:Rd μ S w v (.sl rows)):RdP S w v (.sl rows):=by cases h with | pure h=>exact h
theorem Rd.ov {cells:List AV} {off:Nat} (h:Rd μ S w v (.rp cells off)):RdP S w v (.rp cells off):=by cases h with | pure h=>exact h
theorem Rd.ou {kvs:List (Int×AV)} (h:Rd μ S w v (.rm kvs)):RdP S w v (.rm kvs):=by cases h with | pure h=>exact h
theorem RdP.gY {rows:List (List AV)} (h:RdP S w v (.sl rows)):∃(A:Option Addr) (cap size g off:Nat) (vals:Nat->Nat->Value),v=.slice A rows.length cap/\rows.length<=cap/\(∀row,row∈rows->row.length=size) /\
  (0<rows.length->A=some ⟨g,off,none⟩/\S g)/\(∀i j,i<rows.length->j<size->w.cell? ⟨g,off+(i*size+j),none⟩=some (vals i j)) /\
  (∀(i:Nat) row,rows[i]? = some row->∀(j:Nat) x,row[j]? = some x->RdP S w (vals i j) x):=by
 cases h with
 | sl A len cap _ size g off vals hl hc hs hA hcell hr=>subst hl;exact ⟨A,cap,size,g,off,vals,rfl,hc,hs,hA,hcell,hr⟩
theorem RdP.ov {cells:List AV} {off:Nat} (h:RdP S w v (.rp cells off)):∃(g o:Nat) (vals:Nat->Value),v=.pointer (some ⟨g,o+off,none⟩)/\S g /\
  (∀j,j<cells.length->w.cell? ⟨g,o+j,none⟩=some (vals j))/\∀(j:Nat) x,cells[j]? = some x->RdP S w (vals j) x:=by
 cases h with
 | rp g o off _ vals hS hcell hr=>exact ⟨g,o,vals,rfl,hS,hcell,hr⟩
theorem RdP.ou {kvs:List (Int×AV)} (h:RdP S w v (.rm kvs)):∃(g:Nat) (es:Array MapEntry) (clk:Nat) (vals:Int->Value),v=.map (some g)/\S g /\
  w.heap[g]? = some (.map es clk)/\MapOK es clk kvs vals/\∀p,p∈kvs->RdP S w (vals p.1) p.2:=by
 cases h with
 | rm g es clk _ vals hS hg hm hr=>exact ⟨g,es,clk,vals,rfl,hS,hg,hm,hr⟩
theorem MapOK.size_eq {es:Array MapEntry} {clk:Nat} {kvs:List (Int×AV)} {vals:Int->Value} (h:MapOK es clk kvs vals):es.size=kvs.length:=h.len
end inv
def loadCells (T:Tab) (t:TypeId) (cells:List AV) (off:Nat):Option (Prop×AV):=
 match (T.und t).isA with
 | some true=>some (T.siz t≠0/\off+T.siz t<=cells.length,.agg ((cells.drop off).take (T.siz t)))
 | some false=>some (off<cells.length,cells.getD off .any)
 | none=>none
def BD (op:BinOp) (k:IntKind) (a b:Int):Option AV:=
 match op with
 | .add=>some (.int k (k.wrap (a+b)))
 | .sub=>some (.int k (k.wrap (a-b)))
 | .mul=>some (.int k (k.wrap (a*b)))
 | .eql=>some (.bool (a==b))
 | .neq=>some (.bool (a != b))
 | .lss=>some (.bool (decide (a<b)))
 | .leq=>some (.bool (decide (a<=b)))
 | .gtr=>some (.bool (decide (a>b)))
 | .geq=>some (.bool (decide (a≥b)))
 | _=>none
class TabC (P:Program) (T:outParam Tab):Prop where
 ok:TabOK P T
end Go.Eng
namespace Go.Eng
def strip:AV->Prop×AV
 | .cnd g v=>(g=true,v)
 | x=>(True,x)
def evS (σ:St) (o:Operand):Prop×AV:=strip (ev σ o)
theorem Rd.strip {μ:Nat->Option Nat} {S:Nat->Prop} {w:World} {v:Value} {x:AV} (h:Rd μ S w v x) (hp:(Eng.strip x).1):Rd μ S w v (Eng.strip x).2:=by
 cases x<;>try exact h
 rename_i g x;simp only[Eng.strip] at hp ⊢;subst hp;cases h with
 | pure h=>cases h
 | cndT _ _ h=>exact h
theorem Inv.evS {C:Ctx} {μ:Nat->Option Nat} {S:Nat->Prop} {σ:St} {a:Act} {w:World} (h:Inv C μ S σ a w) (o:Operand) (hp:(Eng.evS σ o).1):Rd μ S w (a.eval o) (Eng.evS σ o).2:=
 (h.ev o).strip hp
def yg (c a b:AV):Option (Prop×AV):=
 match strip c with
 | (pc,.bool c)=>
  match strip a,strip b with
  | (pa,.bool x),(pb,.bool y)=>some (pc/\(c=true->pa)/\(c=false->pb),.bool (cond c x y))
  | _,_=>none
 | _=>none
def lJ (T:Tab) (σ:St) (t:TypeId) (x:AV):Option (Prop×AV):=
 match x with
 | .rp cells off=>loadCells T t cells off
 | .ptr id size row off=>
  match aa σ.hp id with
  | some (.cells _ s rows)=>
   if s=size then (loadCells T t (rows.getD row []) off).map λr=>(row<rows.length/\r.1,r.2) else none
  | _=>none
 | _=>none
def KD.isBool:KD->Bool
 | .bool=>true
 | _=>false
def CP (T:Tab) (t:TypeId) (op:BinOp) (x y:AV):Option AV:=
 match x,y with
 | .int k a,.int k' b=>if k=k' then BD op k a b else none
 | .bool a,.bool b=>
  if (T.und t).isBool then
   match op with
   | .eql=>some (.bool (a==b))
   | .neq=>some (.bool (a != b))
   | _=>none
  else none
 | .str a,.str b=>
  match op with
  | .eql=>some (.bool (a==b))
  | .neq=>some (.bool (!(a==b)))
  | .lss=>some (.bool (Op.bytesLess a b))
  | .leq=>some (.bool (Op.bytesLess a b||a==b))
  | .gtr=>some (.bool (!(Op.bytesLess a b||a==b)))
  | .geq=>some (.bool (!Op.bytesLess a b))
  | _=>none
 | _,_=>none
def sY (op:BinOp) (x y:AV):Option (Prop×AV):=
 match op,x,y with
 | .add,.str a,.str b=>some (a.length+b.length<2 ^ 62,.str (a++b))
 | .shr,.int k a,.int _ b=>some (0<=b,.int k (a.fdiv (2 ^ (min b.toNat k.bits))))
 | .shl,.int k a,.int _ b=>some (0<=b,.int k (k.wrap (a*2 ^ (min b.toNat k.bits))))
 | .and,.int k a,.int k' b=>some (k=k',.int k (k.wrap (BitVec.ofInt k.bits a &&& BitVec.ofInt k.bits b).toNat))
 | .or,.int k a,.int k' b=>some (k=k',.int k (k.wrap (BitVec.ofInt k.bits a ||| BitVec.ofInt k.bits b).toNat))
 | .quo,.int k a,.int k' b=>some (k=k'/\b≠0,.int k (k.wrap (a.tdiv b)))
 | .rem,.int k a,.int k' b=>some (k=k'/\b≠0,.int k (a.tmod b))
 | _,_,_=>none
def br {α:Type}:List (Int×α)->Int->Option α
 | [],_=>none
 | p::r,k=>if p.1=k then some p.2 else br r k
def mapOf (σ:St) (x:AV):Option (List (Int×AV)):=
 match x with
 | .rm kvs=>some kvs
 | .nilm=>some []
 | .mp id=>
  match aa σ.hp id with
  | some (.map kvs)=>some kvs
  | _=>none
 | _=>none
def yI (T:Tab) (e:TypeId):Option AV:=
 match (T.und e).isA with
 | some true=>some (.agg (T.zer e))
 | some false=>some ((T.zer e).getD 0 .any)
 | none=>none
def KD.wc:KD->Bool
 | .int .i64=>true
 | _=>false
def qJ (T:Tab) (σ:St) (t:TypeId) (x i:AV) (ok:Bool):Option (Prop×AV):=
 match T.und t,mapOf σ x,i with
 | .map k e,some kvs,.int .i64 n=>
  match yI T e with
  | some z=>some ((T.und k).wc=true/\T.siz e≠0,bif ok then .tup [(br kvs n).getD z,.bool (br kvs n).isSome] else (br kvs n).getD z)
  | none=>none
 | _,_,_=>none
def Hl (op:UnOp) (x:AV):Option AV:=
 match op,x with
 | .not,.bool b=>some (.bool (!b))
 | .neg,.int k n=>some (.int k (k.wrap (0-n)))
 | _,_=>none
def iw (T:Tab) (t:TypeId) (x:AV) (j:Nat):Option AV:=
 match T.fld t j,x with
 | some (_,o),.rp cells off=>some (.rp cells (off+o))
 | some (_,o),.ptr id size row off=>some (.ptr id size row (off+o))
 | _,_=>none
def ph (T:Tab) (t:TypeId) (x:AV) (j:Nat):Option (Prop×AV):=
 match T.fld t j,x with
 | some (ft,o),.agg cells=>loadCells T ft cells o
 | _,_=>none
def iz (T:Tab) (t:TypeId) (x i:AV):Option (Prop×AV):=
 match T.und t,x,i with
 | .sl e,.sl rows,.int _ n=>some (T.siz e≠0/\0<=n/\n.toNat<rows.length/\(rows.getD n.toNat []).length=T.siz e,.rp (rows.getD n.toNat []) 0)
 | .sl e,.osl id size off len,.int _ n=>some (T.siz e=size/\size≠0/\0<=n/\n.toNat<len,.ptr id size (off+n.toNat) 0)
 | _,_,_=>none
def pq (T:Tab) (t:TypeId) (x i:AV):Option (Prop×AV):=
 match T.und t,x,i with
 | .str,.str s,.int _ n=>some (0<=n/\n.toNat<s.length,.int .u8 ((s.getD n.toNat 0).toNat))
 | _,_,_=>none
def jI:Option AV->Nat->Option (Prop×Nat)
 | none,d=>some (True,d)
 | some (.int _ n),_=>some (0<=n,n.toNat)
 | some _,_=>none
def pV (T:Tab) (t:TypeId) (x:AV) (lo hi:Option AV):Option (Prop×AV):=
 match T.und t,x with
 | .str,.str s=>
  match jI lo 0,jI hi s.length with
  | some (p,l),some (q,h)=>some (p/\q/\l<=h/\h<=s.length,.str ((s.take h).drop l))
  | _,_=>none
 | .sl e,.sl rows=>
  match jI lo 0,jI hi rows.length with
  | some (p,l),some (q,h)=>some (T.siz e≠0/\p/\q/\l<=h/\h<=rows.length/\(∀row,row∈rows->row.length=T.siz e),.sl ((rows.take h).drop l))
  | _,_=>none
 | .sl e,.osl id size off len=>
  match jI lo 0,jI hi len with
  | some (p,l),some (q,h)=>some (T.siz e=size/\size≠0/\p/\q/\l<=h/\h<=len,.osl id size (off+l) (h-l))
  | _,_=>none
 | _,_=>none
def rF (T:Tab) (σ:St) (t:TypeId) (x:AV):Option AV:=
 match T.und t,x with
 | .str,.str s=>some (.int .i64 s.length)
 | .sl _,.sl rows=>some (.int .i64 rows.length)
 | .sl _,.nils=>some (.int .i64 0)
 | .sl _,.osl _ _ _ len=>some (.int .i64 len)
 | .map _ _,.nilm=>some (.int .i64 0)
 | .map _ _,.rm kvs=>some (.int .i64 kvs.length)
 | .map _ _,.mp id=>
  match aa σ.hp id with
  | some (.map kvs)=>some (.int .i64 kvs.length)
  | _=>none
 | _,_=>none
def eN (σ:St):List Operand->Prop×List AV
 | []=>(True,[])
 | o::r=>((evS σ o).1/\(eN σ r).1,(evS σ o).2::(eN σ r).2)
def numOf:List AV->Int
 | [.int _ n]=>n
 | _=>0
def byteOf (row:List AV):UInt8:=UInt8.ofNat (numOf row).toNat
def Fk (row:List AV):Prop:=∃n,row=[.int .u8 n]
def tk (T:Tab) (s t:TypeId) (x:AV):Option (Prop×AV):=
 match T.und s,T.und t,x with
 | .int _,.int k,.int _ n=>some (True,.int k (k.wrap n))
 | .sl e,.str,.sl rows=>some (T.und e=.int .u8/\∀row,row∈rows->Fk row,.str (rows.map byteOf))
 | .sl e,.str,.nils=>some (T.und e=.int .u8,.str [])
 | _,_,_=>none
def eX (T:Tab) (σ:St) (op:Op):Option (Prop×AV):=
 match op with
 | .move x | .assign x=>some (True,ev σ x)
 | .pick c a b=>yg (ev σ c) (ev σ a) (ev σ b)
 | .load t x=>(lJ T σ t (evS σ x).2).map λr=>((evS σ x).1/\r.1,r.2)
 | .nilCheck x=>
  match (evS σ x).2 with
  | .ptr id size row off=>some ((evS σ x).1,.ptr id size row off)
  | .rp cells off=>some ((evS σ x).1,.rp cells off)
  | _=>none
 | .binOp op t x y _=>
  match CP T t op (evS σ x).2 (evS σ y).2 with
  | some r=>some ((evS σ x).1/\(evS σ y).1,r)
  | none=>(sY op (evS σ x).2 (evS σ y).2).map λr=>((evS σ x).1/\(evS σ y).1/\r.1,r.2)
 | .unOp op _ x=>(Hl op (evS σ x).2).map λr=>((evS σ x).1,r)
 | .fieldAddr t x j=>(iw T t (evS σ x).2 j).map λr=>((evS σ x).1,r)
 | .field t x j=>(ph T t (evS σ x).2 j).map λr=>((evS σ x).1/\r.1,r.2)
 | .indexAddr t x i=>(iz T t (evS σ x).2 (evS σ i).2).map λr=>((evS σ x).1/\(evS σ i).1/\r.1,r.2)
 | .index t x i=>(pq T t (evS σ x).2 (evS σ i).2).map λr=>((evS σ x).1/\(evS σ i).1/\r.1,r.2)
 | .slice t x lo hi none=>(pV T t (evS σ x).2 (lo.map λo=>(evS σ o).2) (hi.map λo=>(evS σ o).2)).map λr=>
   ((evS σ x).1/\(eN σ lo.toList).1/\(eN σ hi.toList).1/\r.1,r.2)
 | .extract x j=>
  match (evS σ x).2 with
  | .tup vs=>some ((evS σ x).1/\j<vs.length,vs.getD j .any)
  | _=>none
 | .makeFunc (.func f) first captured=>if first.toList.isEmpty then some ((eN σ captured.toList).1,.fn f (eN σ captured.toList).2) else none
 | .call { callee:=.builtin .len,args,argTypes }=>
  match args.toList,argTypes.toList with
  | [x],[t]=>(rF T σ t (evS σ x).2).map λr=>((evS σ x).1,r)
  | _,_=>none
 | .convert s t x=>(tk T s t (evS σ x).2).map λr=>((evS σ x).1/\r.1,r.2)
 | .lookup t x i ok=>(qJ T σ t (evS σ x).2 (evS σ i).2 ok).map λr=>((evS σ x).1/\(evS σ i).1/\r.1,r.2)
 | _=>none
section sound
variable {P:Program} {T:Tab} {C:Ctx} {μ:Nat->Option Nat} {S:Nat->Prop} {σ:St} {a:Act} {w:World}
theorem kM (hT:TabOK P T) {t:TypeId} {b:Bool} (h:(T.und t).isA=some b):(isAgg t).run P w=.ok b w:=by
 have hk:=hT.und t;unfold isAgg;cases e:T.und t<;>rw[e] at h hk<;>simp only[KD.isA,gL,reduceCtorEq] at h<;>subst h<;>simp only[jX] at hk
 case struct=>obtain ⟨F,hF,_⟩:=hk;simp[run_underlying hF]
 case iface=>obtain ⟨F,hF⟩:=hk;simp[run_underlying hF]
 case func=>obtain ⟨a,b,c,hF⟩:=hk;simp[run_underlying hF]
 all_goals simp[run_underlying hk]
theorem bD (hT:TabOK P T) {t:TypeId} (h:T.siz t≠0):(sizeOf t).run P w=.ok (T.siz t) w:=by
 obtain ⟨i,hi,hs,_⟩:=hT.siz t h;simp[sizeOf,typeInfo,hi,hs]
theorem add_plain (g o n:Nat):Addr.add ⟨g,o,none⟩ n=⟨g,o+n,none⟩:=Addr.add_lit g o n
theorem ni (hT:TabOK P T) {t:TypeId} {g o off:Nat} {cells:List AV} {vals:Nat->Value} {p:Prop} {x:AV}
  (h:loadCells T t cells off=some (p,x)) (hp:p)
  (hc:∀j,j<cells.length->w.cell? ⟨g,o+j,none⟩=some (vals j)) (hr:∀(j:Nat) y,cells[j]? = some y->Rd μ S w (vals j) y) :
  ∃u,(loadVar t ⟨g,o+off,none⟩).run P w=.ok u w/\Rd μ S w u x:=by
 unfold loadCells at h;cases e:(T.und t).isA with
 | none=>simp[e] at h
 | some b=>
  cases b with
  | true=>
   simp only[e,gL,gM] at h;obtain ⟨rfl,rfl⟩:=h;obtain ⟨hz,hp⟩:=hp;refine ⟨.agg ((List.range (T.siz t)).map λj=>vals (off+j)).toArray,?_,?_⟩
   ·have:=run_loadCells_list (P:=P) (w:=w) ⟨g,o+off,none⟩ ((List.range (T.siz t)).map λj=>vals (off+j)) (λj v hv=>by
     rw[W2] at hv;rw[add_plain];have hj:j<T.siz t:=by
      by_cases hj:j<T.siz t
      ·exact hj
      ·rw[List.getElem?_eq_none QR] at hv;simp at hv
     rw[Yo hj] at hv;simp at hv;rw[<-hv,Nat.add_assoc];exact hc _ z8)
    simp only[List.length_map,List.length_range] at this;simp[loadVar,kM hT e,bD hT hz,this]
   ·refine .agg _ _ k6 (λj y hy=>?_);rw[YU] at hy;split at hy
    ·rename_i hj;rw[List.getElem?_drop] at hy;have:(((List.range (T.siz t)).map λj=>vals (off+j)).toArray).getD j undef=vals (off+j):=by
      simp[Array.getD_eq_getD_getElem?,hj]
     rw[this];exact hr _ _ hy
    ·cases hy
  | false=>
   simp only[e,gL,gM] at h;obtain ⟨rfl,rfl⟩:=h;refine ⟨vals off,?_,?_⟩
   ·simp[loadVar,kM hT e,hc off hp]
   ·refine hr off _ ?_;rw[List.getD_eq_getElem?_getD,Wz hp];rfl
theorem cell_of {g:Nat} {c:Array Value} {e:TypeId} {f:Nat×Nat} (h:w.heap[g]? = some (.cells c e f)) (k:Nat):w.cell? ⟨g,k,none⟩=c[k]?:=by
 simp[World.cell?,h]
theorem uL (hT:TabOK P T) (hi:Inv C μ S σ a w) {t:TypeId} {v:Value} {x r:AV} {p:Prop} (h:lJ T σ t x=some (p,r)) (hp:p) (hv:Rd μ S w v x) :
  ∃u,(Instr.loadAt t v).run P w=.ok u w/\Rd μ S w u r:=by
 cases x<;>simp only[lJ,reduceCtorEq] at h
 case rp cells off=>
  obtain ⟨g,o,vals,rfl,hS,hc,hr⟩:=hv.ov.ov;obtain ⟨u,h1,h2⟩:=ni (μ:=μ) (S:=S) (P:=P) (w:=w) hT h hp hc (λj y hy=>.pure (hr j y hy));exact ⟨u,by simpa[Instr.loadAt,Instr.sureAddr] using h1,h2⟩
 case ptr id size row off=>
  obtain ⟨g,hg,rfl⟩:=hv.iZ;split at h
  ·rename_i e s rows hb;split at h
   ·rename_i hs;subst hs;cases hl:loadCells T t (rows.getD row []) off with
    | none=>rw[hl] at h;cases h
    | some q=>
     obtain ⟨p',r'⟩:=q;simp only[hl,Option.map_some,gL,gM] at h;obtain ⟨rfl,rfl⟩:=h;obtain ⟨hrow,hp'⟩:=hp;have hbk:=hi.hp id _ hb
     rcases hbk with ⟨rfl,h2⟩ | ⟨g',c,h1,h2,h3,h4,h5⟩
     ·rw[h2] at hg;cases hg
     ·rw[h1] at hg;injection hg with hg;subst hg
      have hrow':rows[row]? = some (rows.getD row []):=by
       rw[List.getD_eq_getElem?_getD,Wz hrow];rfl
      have hlen:(rows.getD row []).length=s:=h4 _ (W3 hrow');have hle:row*s+s<=rows.length*s:=by
       have:=YJ s (Nat.succ_le_of_lt hrow)
       rwa [Yy] at this
      obtain ⟨u,k1,k2⟩:=ni (μ:=μ) (S:=S) (P:=P) (w:=w) (g:=g') (o:=row*s) (vals:=λj=>c.getD (row*s+j) undef) hT hl hp'
       (λj hj=>by
        rw[cell_of h2,Array.getD_eq_getD_getElem?,YC z8];rfl)
       (λj y hy=>h5 row _ hrow' j y hy)
      exact ⟨u,by simpa[Instr.loadAt,Instr.sureAddr] using k1,k2⟩
   ·cases h
  ·cases h
theorem si (hT:TabOK P T) {t:TypeId} {v:Value} {x r:AV} {j:Nat} (h:iw T t x j=some r) (hv:Rd μ S w v x) :
  ∃u,(Instr.fieldAt t v j).run P w=.ok u w/\Rd μ S w u r:=by
 unfold iw at h;split at h
 ·rename_i q o cells off hf;injection h with h;subst h
  obtain ⟨F,f,h1,h2,h3,h4,h5⟩:=hT.fld _ _ _ _ hf;obtain ⟨g,o',vals,rfl,hS,hc,hr⟩:=hv.ov.ov;refine ⟨.pointer (some ⟨g,o'+(off+o),none⟩),?_,.pure (.rp g o' (off+o) cells vals hS hc hr)⟩;simp[Instr.fieldAt,run_underlying h1,h2,Instr.sureAddr,fieldPlace,h3,bD hT h5,h5,h4,add_plain,Nat.add_assoc]
 ·rename_i q o id size row off hf;injection h with h;subst h
  obtain ⟨F,f,h1,h2,h3,h4,h5⟩:=hT.fld _ _ _ _ hf;obtain ⟨g,hg,rfl⟩:=hv.iZ;refine ⟨.pointer (some ⟨g,row*size+(off+o),none⟩),?_,.ptr id size row (off+o) g hg⟩;simp[Instr.fieldAt,run_underlying h1,h2,Instr.sureAddr,fieldPlace,h3,bD hT h5,h5,h4,add_plain,Nat.add_assoc]
 ·cases h
theorem Ju (hT:TabOK P T) {t:TypeId} {off:Nat} {cells:List AV} {cs:Array Value} {p:Prop} {x:AV} (h:loadCells T t cells off=some (p,x)) (hp:p)
  (hl:cs.size=cells.length) (hr:∀(j:Nat) y,cells[j]? = some y->Rd μ S w (cs.getD j undef) y):∃u,(part t cs off).run P w=.ok u w/\Rd μ S w u x:=by
 unfold loadCells at h;cases e:(T.und t).isA with
 | none=>simp[e] at h
 | some b=>
  cases b with
  | true=>
   simp only[e,gL,gM] at h;obtain ⟨rfl,rfl⟩:=h;obtain ⟨hz,hp⟩:=hp;refine ⟨.agg (cs.extract off (off+T.siz t)),by simp[part,kM hT e,bD hT hz],.agg _ _ k6 (λj y hy=>?_)⟩;rw[YU] at hy;split at hy
   ·rename_i hj;rw[List.getElem?_drop] at hy;have:(cs.extract off (off+T.siz t)).getD j undef=cs.getD (off+j) undef:=by
     simp only[Array.getD_eq_getD_getElem?,Array.getElem?_extract];rw[if_pos z8]
    rw[this];exact hr _ _ hy
   ·cases hy
  | false=>
   simp only[e,gL,gM] at h;obtain ⟨rfl,rfl⟩:=h;have hlt:off<cs.size:=by omega
   refine ⟨cs[off],by simp[part,kM hT e,hlt],?_⟩;have:=hr off (cells.getD off .any) (by rw[List.getD_eq_getElem?_getD,Wz hp];rfl)
   rwa [Array.getD_eq_getD_getElem?,YC hlt] at this
theorem AS (hT:TabOK P T) {t:TypeId} {v:Value} {x r:AV} {j:Nat} {p:Prop} (h:ph T t x j=some (p,r)) (hp:p) (hv:Rd μ S w v x) :
  ∃u,(Instr.field t v j).run P w=.ok u w/\Rd μ S w u r:=by
 unfold ph at h;split at h
 ·rename_i ft o cells hf;obtain ⟨F,f,h1,h2,h3,h4,h5⟩:=hT.fld _ _ _ _ hf;obtain ⟨cs,rfl,hl,hr⟩:=hv.nC;obtain ⟨u,k1,k2⟩:=Ju (μ:=μ) (S:=S) (P:=P) (w:=w) hT h hp hl hr;refine ⟨u,?_,k2⟩;simp[Instr.field,run_underlying h1,h2,asAgg,h3,h4,k1]
 ·cases h
theorem sj (hT:TabOK P T) {t:TypeId} {v vi:Value} {x i r:AV} {p:Prop} (h:iz T t x i=some (p,r)) (hp:p) (hv:Rd μ S w v x) (hvi:Rd μ S w vi i) :
  ∃u,(Instr.indexAt t v vi).run P w=.ok u w/\Rd μ S w u r:=by
 unfold iz at h;split at h
 ·rename_i e rows k n hu;simp only[gL,gM] at h;obtain ⟨rfl,rfl⟩:=h;obtain ⟨hz,h0,hn,hl⟩:=hp;obtain rfl:=hvi.aL;have ht:=hT.und t;rw[hu] at ht;obtain ⟨A,cap,size,g,off,vals,rfl,hc,hs,hA,hcell,hr⟩:=hv.gY.gY;obtain ⟨rfl,hS⟩:=hA z8;have hrow:rows[n.toNat]? = some (rows.getD n.toNat []):=by
   rw[List.getD_eq_getElem?_getD,Wz hn];rfl
  have hsz:size=T.siz e:=by rw[<-hl];exact (hs _ (W3 hrow)).symm
  subst hsz;refine ⟨.pointer (some ⟨g,off+n.toNat*T.siz e+0,none⟩),?_,.pure (.rp g (off+n.toNat*T.siz e) 0 _ (vals n.toNat) hS (λj hj=>?_) (λj y hy=>hr _ _ hrow j y hy))⟩
  ·simp only[jX] at ht;simp[Instr.indexAt,asIntOf,run_underlying ht,bD hT hz,add_plain,h0,show n<(rows.length:Int) by omega]
  ·rw[Nat.add_assoc];exact hcell _ _ hn z8
 ·rename_i e id size off len k n hu;simp only[gL,gM] at h;obtain ⟨rfl,rfl⟩:=h;obtain ⟨hz,hz0,h0,hn⟩:=hp;obtain rfl:=hvi.aL;have ht:=hT.und t;rw[hu] at ht;obtain ⟨A,cap,rfl,hc,h⟩:=hv.bZ
  rcases h with ⟨h1,h2⟩ | ⟨g,e',m,h1,rfl,h3,h4⟩
  ·omega
  ·refine ⟨.pointer (some ⟨g,(off+n.toNat)*size+0,none⟩),?_,.ptr id size (off+n.toNat) 0 g h1⟩;simp only[jX] at ht;simp[Instr.indexAt,asIntOf,run_underlying ht,bD hT (by rw[hz];exact hz0),add_plain,h0,show n<(len:Int) by omega,hz,Nat.add_mul]
 ·cases h
theorem AT (hT:TabOK P T) {t:TypeId} {v vi:Value} {x i r:AV} {p:Prop} (h:pq T t x i=some (p,r)) (hp:p) (hv:Rd μ S w v x) (hvi:Rd μ S w vi i) :
  ∃u,(Instr.index t v vi).run P w=.ok u w/\Rd μ S w u r:=by
 unfold pq at h;split at h
 ·rename_i s k n hu;simp only[gL,gM] at h;obtain ⟨rfl,rfl⟩:=h;obtain ⟨h0,hn⟩:=hp;obtain rfl:=hvi.aL;obtain ⟨b,rfl,rfl⟩:=hv.fG;have ht:=hT.und t;rw[hu] at ht;simp only[jX] at ht;have hlt:n.toNat<b.size:=by simpa using hn
  have e:b[n.toNat]? = some (b.data.toList.getD n.toNat 0):=by
   rw[getElem?_pos b n.toNat hlt,List.getD_eq_getElem?_getD,Wz hn];rfl
  refine ⟨.int .u8 (b.data.toList.getD n.toNat 0).toNat,?_,.pure (.int _ _)⟩;simp[Instr.index,asIntOf,run_underlying ht,h0,hlt];rfl
 ·cases h
def ORd (μ:Nat->Option Nat) (S:Nat->Prop) (w:World):Option AV->Option Value->Prop
 | none,none=>True
 | some x,some v=>Rd μ S w v x
 | _,_=>False
def gf (vo:Option Value) (d l:Nat):Prop:=
 match vo with
 | none=>l=d
 | some v=>∃k,v=.int k (l:Int)
theorem g_ (o:Option AV) (vo:Option Value) (d l:Nat) (q:Prop) (h:jI o d=some (q,l)) (hq:q)
  (ho:ORd μ S w o vo) :
  gf vo d l:=by
 unfold jI at h;cases vo with
 | none=>
  cases o with
  | none=>simp only[gL,gM] at h;exact h.2.symm
  | some x=>exact ho.elim
 | some v=>
  cases o with
  | none=>exact ho.elim
  | some x=>
   cases x<;>simp only[gL,gM,reduceCtorEq] at h;obtain ⟨rfl,rfl⟩:=h;rename_i k n;obtain rfl:=Rd.aL ho;exact ⟨k,by simp only[Value.int.injEq,true_and];omega⟩
theorem fN (isS:Bool) (len cap l h:Nat) (lo hi:Option Value) (hlo:gf lo 0 l)
  (hhi:gf hi len h) (hlh:l<=h) (hc:h<=cap):(Instr.sliceBounds isS len cap lo hi none).run P w=.ok (l,h,cap) w:=by
 cases lo with
 | none=>
  subst hlo;cases hi with
  | none=>subst hhi;simp[Instr.sliceBounds]
  | some v=>obtain ⟨k,rfl⟩:=hhi;simp[Instr.sliceBounds,Instr.sliceBound,asIntOf,hc]
 | some u=>
  obtain ⟨k',rfl⟩:=hlo;cases hi with
  | none=>subst hhi;simp[Instr.sliceBounds,Instr.sliceBound,asIntOf,hlh]
  | some v=>obtain ⟨k,rfl⟩:=hhi;simp[Instr.sliceBounds,Instr.sliceBound,asIntOf,hc,hlh]
theorem AU (hT:TabOK P T) {t:TypeId} {v:Value} {x r:AV} {lo hi:Option AV} {vlo vhi:Option Value} {p:Prop} (h:pV T t x lo hi=some (p,r)) (hp:p) (hv:Rd μ S w v x)
  (hlo:ORd μ S w lo vlo) (hhi:ORd μ S w hi vhi) :
  ∃u,(Instr.sliceAt t v vlo vhi none).run P w=.ok u w/\Rd μ S w u r:=by
 unfold pV at h;have ht:=hT.und t;split at h
 ·rename_i s hu;rw[hu] at ht;simp only[jX] at ht;obtain ⟨b,rfl,rfl⟩:=hv.fG;cases e1:jI lo 0 with
  | none=>rw[e1] at h;cases h
  | some q1=>
   obtain ⟨q1,l⟩:=q1;cases e2:jI hi b.data.toList.length with
   | none=>rw[e1,e2] at h;cases h
   | some q2=>
    obtain ⟨q2,m⟩:=q2;simp only[e1,e2,gL,gM] at h;obtain ⟨rfl,rfl⟩:=h;obtain ⟨h1,h2,h3,h4⟩:=hp;have hb:b.data.toList.length=b.size:=by simp
    have k1:=g_ (μ:=μ) (S:=S) (w:=w) lo vlo 0 l q1 e1 h1 hlo;have k2:=g_ (μ:=μ) (S:=S) (w:=w) hi vhi _ m q2 e2 h2 hhi;rw[hb] at k2 h4;refine ⟨.string (b.extract l m),?_,.pure (.str _ _ ?_)⟩
    ·simp[Instr.sliceAt,Instr.slice,run_underlying ht,fN (P:=P) (w:=w) false b.size b.size l m vlo vhi k1 k2 h3 h4]
    ·rw[ByteArray.data_extract,Array.toList_extract,List.extract_eq_take_drop,List.drop_take]
 ·rename_i e rows hu;rw[hu] at ht;simp only[jX] at ht;obtain ⟨A,cap,size,g,off,vals,rfl,hc,hs,hA,hcell,hr⟩:=hv.gY.gY;cases e1:jI lo 0 with
  | none=>rw[e1] at h;cases h
  | some q1=>
   obtain ⟨q1,l⟩:=q1;cases e2:jI hi rows.length with
   | none=>rw[e1,e2] at h;cases h
   | some q2=>
    obtain ⟨q2,m⟩:=q2;simp only[e1,e2,gL,gM] at h;obtain ⟨rfl,rfl⟩:=h;obtain ⟨hz,h1,h2,h3,h4,h5⟩:=hp;have k1:=g_ (μ:=μ) (S:=S) (w:=w) lo vlo 0 l q1 e1 h1 hlo;have k2:=g_ (μ:=μ) (S:=S) (w:=w) hi vhi _ m q2 e2 h2 hhi;have hlen:((rows.take m).drop l).length=m-l:=by simp;omega
    have hsz:rows≠[]->size=T.siz e:=λhne=>by
     obtain ⟨row,hrow⟩:=List.exists_mem_of_ne_nil rows hne;rw[<-h5 row hrow,hs row hrow]
    have hrun:(Instr.sliceAt t (.slice A rows.length cap) vlo vhi none).run P w=.ok (.slice (if cap=l then A else A.map (·.add (l*T.siz e))) (m-l) (cap-l)) w:=by
     simp[Instr.sliceAt,Instr.slice,run_underlying ht,fN (P:=P) (w:=w) true rows.length cap l m vlo vhi k1 k2 h3 z8,bD hT hz]
    refine ⟨_,hrun,.pure (.sl _ _ _ _ size g (off+l*size) (λi j=>vals (l+i) j) hlen z8 (λrow hrow=>hs row (YF (YY hrow))) (λhpos=>?_) (λi j hi hj=>?_) (λi row hrow j y hy=>?_))⟩
    ·have hne:rows≠[]:=by intro e;subst e;simp at h4;omega
     obtain ⟨rfl,hS⟩:=hA z8;rw[if_neg z8];exact ⟨by simp[add_plain,hsz hne],hS⟩
    ·have:=hcell (l+i) j z8 hj;rw[Nat.add_mul] at this;rw[<-this]
     congr 2;omega
    ·rw[List.getElem?_drop,YU] at hrow;split at hrow
     ·exact hr _ row hrow j y hy
     ·cases hrow
 ·rename_i e id size off len hu;rw[hu] at ht;simp only[jX] at ht;obtain ⟨A,cap,rfl,hc,hor⟩:=hv.bZ;cases e1:jI lo 0 with
  | none=>rw[e1] at h;cases h
  | some q1=>
   obtain ⟨q1,l⟩:=q1;cases e2:jI hi len with
   | none=>rw[e1,e2] at h;cases h
   | some q2=>
    obtain ⟨q2,m⟩:=q2;simp only[e1,e2,gL,gM] at h;obtain ⟨rfl,rfl⟩:=h;obtain ⟨hz,hz0,h1,h2,h3,h4⟩:=hp;have k1:=g_ (μ:=μ) (S:=S) (w:=w) lo vlo 0 l q1 e1 h1 hlo;have k2:=g_ (μ:=μ) (S:=S) (w:=w) hi vhi _ m q2 e2 h2 hhi;have hrun:(Instr.sliceAt t (.slice A len cap) vlo vhi none).run P w=.ok (.slice (if cap=l then A else A.map (·.add (l*T.siz e))) (m-l) (cap-l)) w:=by
     simp[Instr.sliceAt,Instr.slice,run_underlying ht,fN (P:=P) (w:=w) true len cap l m vlo vhi k1 k2 h3 z8,bD hT (by rw[hz];exact hz0)]
    refine ⟨_,hrun,.osl id size (off+l) (m-l) (cap-l) _ z8 ?_⟩
    rcases hor with ⟨j1,j2⟩ | ⟨g,e',n,j1,rfl,j3,j4⟩
    ·exact .inl ⟨by omega,by omega⟩
    ·by_cases hcl:cap=l
     ·exact .inl ⟨by omega,by omega⟩
     ·refine .inr ⟨g,e',n,j1,?_,j3,?_⟩
      ·rw[if_neg hcl];simp[add_plain,hz,Nat.add_mul]
      ·rw[show off+l+(cap-l)=off+cap from by omega];exact j4
 ·cases h
theorem D0 (hT:TabOK P T) {t:TypeId} (h:(T.und t).isBool=true):P.underlying t=some .bool:=by
 have hk:=hT.und t;cases e:T.und t<;>rw[e] at h hk<;>simp only[KD.isBool,Bool.false_eq_true] at h;exact hk
theorem run_equal_bool {t:TypeId} (h:P.underlying t=some .bool) (a b:Bool):(Op.equal t (.bool a) (.bool b)).run P w=.ok (a==b) w:=by
 have e:∀d,(Op.equalIn (d+1) t (.bool a) (.bool b)).run P w=.ok (a==b) w:=λd=>by
  unfold Op.equalIn;simp[run_underlying h]
 exact e 9999
theorem EW (hT:TabOK P T) {op:BinOp} {t:TypeId} {ox oy:Operand} {v u:Value} {x y r:AV} (h:CP T t op x y=some r) (hv:Rd μ S w v x) (hu:Rd μ S w u y) :
  ∃q,(do eqGuard op t ox oy v u;binOp op t v u:Sem Value).run P w=.ok q w/\Rd μ S w q r:=by
 unfold CP at h;split at h
 ·rename_i k a k' b;obtain rfl:=hv.aL;obtain rfl:=hu.aL;split at h
  ·rename_i hk;subst hk;unfold BD at h;split at h<;>first
    | cases h;done
    | (injection h with h;subst h;refine ⟨_,by simp[eqGuard_at_int,binOp,Op.intArith,Op.intCmp];rfl,.pure (by first | exact .int _ _ | exact .bool _)⟩)
  ·cases h
 ·rename_i a b;obtain rfl:=hv.eU;obtain rfl:=hu.eU;split at h
  ·rename_i hb;have hb:=D0 hT hb;split at h<;>first
    | (cases h;done)
    | (injection h with h;subst h;refine ⟨_,by simp only[eqGuard_at_bool,binOp,pure_bind,Sem.run_bind,run_equal_bool hb];rfl,.pure (.bool _)⟩)
  ·cases h
 ·rename_i a b;obtain ⟨s,rfl,rfl⟩:=hv.fG;obtain ⟨s',rfl,rfl⟩:=hu.fG;split at h<;>first
   | cases h;done
   | (injection h with h;subst h;refine ⟨_,by simp only[eqGuard_at_string,binOp,Op.stringOp,ByteArray.toList_eq,pure_bind];rfl,.pure (.bool _)⟩)
 ·cases h
end sound
end Go.Eng
namespace Go.Eng
section sound
variable {P:Program} {T:Tab} {C:Ctx} {μ:Nat->Option Nat} {S:Nat->Prop} {σ:St} {a:Act} {w:World}
theorem yu {op:BinOp} {t:TypeId} {ox oy:Operand} {v u:Value} {x y r:AV} {p:Prop} (h:sY op x y=some (p,r)) (hp:p) (hv:Rd μ S w v x) (hu:Rd μ S w u y) :
  ∃q,(do eqGuard op t ox oy v u;binOp op t v u:Sem Value).run P w=.ok q w/\Rd μ S w q r:=by
 unfold sY at h;split at h
 ·simp only[gL,gM] at h;obtain ⟨rfl,rfl⟩:=h;obtain ⟨s,rfl,rfl⟩:=hv.fG;obtain ⟨s',rfl,rfl⟩:=hu.fG;have h1:s.data.toList.length=s.size:=by simp
  have h2:s'.data.toList.length=s'.size:=by simp
  rw[h1,h2] at hp;refine ⟨.string (s++s'),?_,.pure (.str _ _ w8)⟩;simp only[eqGuard_at_string,pure_bind,binOp_string_add];exact run_string_add_sum w s s' z8
 ·rename_i k a k' b;simp only[gL,gM] at h;obtain ⟨rfl,rfl⟩:=h;obtain rfl:=hv.aL;obtain rfl:=hu.aL;refine ⟨_,?_,.pure (.int _ _)⟩;simp[eqGuard_at_int,binOp,Op.shift,show ¬b<0 by omega]
 ·rename_i k a k' b;simp only[gL,gM] at h;obtain ⟨rfl,rfl⟩:=h;obtain rfl:=hv.aL;obtain rfl:=hu.aL;refine ⟨_,?_,.pure (.int _ _)⟩;simp[eqGuard_at_int,binOp,Op.shift,show ¬b<0 by omega]
 ·simp only[gL,gM] at h;obtain ⟨rfl,rfl⟩:=h;subst hp;obtain rfl:=hv.aL;obtain rfl:=hu.aL;refine ⟨_,?_,.pure (.int _ _)⟩;simp[eqGuard_at_int,binOp,Op.intBits]
 ·simp only[gL,gM] at h;obtain ⟨rfl,rfl⟩:=h;subst hp;obtain rfl:=hv.aL;obtain rfl:=hu.aL;refine ⟨_,?_,.pure (.int _ _)⟩;simp[eqGuard_at_int,binOp,Op.intBits]
 ·simp only[gL,gM] at h;obtain ⟨rfl,rfl⟩:=h;obtain ⟨rfl,hb⟩:=hp;obtain rfl:=hv.aL;obtain rfl:=hu.aL;refine ⟨_,?_,.pure (.int _ _)⟩;simp[eqGuard_at_int,binOp,Op.intDiv,hb]
 ·simp only[gL,gM] at h;obtain ⟨rfl,rfl⟩:=h;obtain ⟨rfl,hb⟩:=hp;obtain rfl:=hv.aL;obtain rfl:=hu.aL;refine ⟨_,?_,.pure (.int _ _)⟩;simp[eqGuard_at_int,binOp,Op.intDiv,hb]
 ·cases h
theorem Hg {op:UnOp} {v:Value} {x r:AV} (h:Hl op x=some r) (hv:Rd μ S w v x):∃q,(Op.unary op v).run P w=.ok q w/\Rd μ S w q r:=by
 unfold Hl at h;split at h
 ·injection h with h;subst h
  obtain rfl:=hv.eU;exact ⟨_,rfl,.pure (.bool _)⟩
 ·injection h with h;subst h
  obtain rfl:=hv.aL;exact ⟨_,rfl,.pure (.int _ _)⟩
 ·cases h
theorem Co (hi:Inv C μ S σ a w) {c x y:Operand} {r:AV} {p:Prop} (h:yg (ev σ c) (ev σ x) (ev σ y)=some (p,r)) (hp:p) :
  ∃b,a.eval c=.bool b/\Rd μ S w (if b then a.eval x else a.eval y) r:=by
 unfold yg at h;have hc:=(hi.ev c).strip;have hx:=(hi.ev x).strip;have hy:=(hi.ev y).strip
 revert h hc hx hy
 generalize strip (ev σ c)=qc;generalize strip (ev σ x)=qx;generalize strip (ev σ y)=qy;intro h hc hx hy;split at h
 ·rename_i pc b;split at h
  ·simp only[gL,gM] at h;obtain ⟨rfl,rfl⟩:=h;obtain ⟨h1,h2,h3⟩:=hp;refine ⟨b,(hc h1).eU,?_⟩;cases b with
   | true=>simpa using hx (h2 rfl)
   | false=>simpa using hy (h3 rfl)
  ·cases h
 ·cases h
theorem run_getObj_map {g clk:Nat} {es:Array MapEntry} (h:w.heap[g]? = some (.map es clk)):(getObj g).run P w=.ok (.map es clk) w:=by
 simp[getObj,Sem.run,h]
theorem EZ (hT:TabOK P T) (hi:Inv C μ S σ a w) {t ty:TypeId} {v:Value} {x r:AV} (h:rF T σ t x=some r) (hv:Rd μ S w v x) :
  ∃u,(Builtin.len_ #[t] ty #[v]).run P w=.ok u w/\Rd μ S w u r:=by
 unfold rF at h;have ht:=hT.und t;split at h<;>(try cases h)<;>rename_i hu<;>rw[hu] at ht<;>simp only[jX] at ht
 ·obtain ⟨s,rfl,rfl⟩:=hv.fG;exact ⟨.int .i64 s.size,by simp[Builtin.len_,run_underlying ht,goInt],by simpa using Rd.pure (.int .i64 s.size)⟩
 ·obtain ⟨A,cap,size,g,off,vals,rfl,_⟩:=hv.gY.gY;exact ⟨_,by simp[Builtin.len_,run_underlying ht,goInt],.pure (.int _ _)⟩
 ·obtain rfl:=hv.gm;exact ⟨_,by simp[Builtin.len_,run_underlying ht,goInt],.pure (.int _ _)⟩
 ·obtain ⟨A,cap,rfl,_⟩:=hv.bZ;exact ⟨_,by simp[Builtin.len_,run_underlying ht,goInt],.pure (.int _ _)⟩
 ·obtain rfl:=hv.zH;exact ⟨_,by simp[Builtin.len_,run_underlying ht,goInt],.pure (.int _ _)⟩
 ·obtain ⟨g,es,clk,vals,rfl,hS,hg,hm,hr⟩:=hv.ou.ou;refine ⟨.int .i64 es.size,by simp[Builtin.len_,run_underlying ht,goInt,run_getObj_map hg],?_⟩;rw[hm.size_eq];exact .pure (.int _ _)
 ·split at h<;>(try cases h);rename_i kvs hb;obtain ⟨g,hg,rfl⟩:=hv.tZ;obtain ⟨g',es,clk,vals,h1,h2,h3,h4⟩:=hi.hp _ _ hb;rw[h1] at hg;injection hg with hg;subst hg
  refine ⟨.int .i64 es.size,by simp[Builtin.len_,run_underlying ht,goInt,run_getObj_map h2],?_⟩;rw[h3.size_eq];exact .pure (.int _ _)
theorem mC (os:List Operand):(eN σ os).2.length=os.length:=by
 induction os with
 | nil=>rfl
 | cons o r ih=>simp[eN,ih]
theorem Inv.eN (hi:Inv C μ S σ a w):∀(os:List Operand),(Eng.eN σ os).1->∀(j:Nat) x,(Eng.eN σ os).2[j]? = some x->∃o,os[j]? = some o/\Rd μ S w (a.eval o) x
 | [],_,j,x,hx=>by simp[Eng.eN] at hx
 | o::r,hp,j,x,hx=>by
  simp only[Eng.eN] at hp hx;cases j with
  | zero=>simp only[List.getElem?_cons_zero,gL] at hx;subst hx;exact ⟨o,rfl,hi.evS o hp.1⟩
  | succ j=>simp only[List.getElem?_cons_succ] at hx ⊢;exact hi.eN r hp.2 j x hx
theorem GO (hi:Inv C μ S σ a w) (o:Option Operand) (h:(eN σ o.toList).1):ORd μ S w (o.map λo=>(evS σ o).2) (o.map a.eval):=by
 cases o with
 | none=>trivial
 | some o=>exact hi.evS o h.1
theorem Cl (hT:TabOK P T) {s t:TypeId} {v:Value} {x r:AV} {p:Prop} (h:tk T s t x=some (p,r)) (hp:p) (hv:Rd μ S w v x) :
  ∃u,(convert s t v).run P w=.ok u w/\Rd μ S w u r:=by
 unfold tk at h;have hs:=hT.und s;have ht:=hT.und t;split at h<;>(try cases h)<;>rename_i h1 h2<;>rw[h1] at hs<;>rw[h2] at ht<;>simp only[jX] at hs ht
 ·rename_i _ k k' n;obtain rfl:=hv.aL;have e:P.intKind t=k:=by simp[Program.intKind,ht]
  exact ⟨_,run_convert_int w s t _ _ (by rw[hs];rfl) (by rw[e];exact ht),by rw[e];exact .pure (.int _ _)⟩
 ·rename_i e rows;obtain ⟨he,hrow⟩:=hp;have he':=hT.und e;rw[he] at he';simp only[jX] at he';obtain ⟨A,cap,size,g,off,vals,rfl,hc,hsz,hA,hcell,hr⟩:=hv.gY.gY;have hstr:(strOfNums (rows.map numOf)).data.toList=rows.map byteOf:=by rw[strOfNums_data,Yf];rfl
  by_cases h0:rows=[]
  ·subst h0;cases A with
   | none=>exact ⟨_,run_convert_bytes_nil w s e hs he' _ _ t ht,.pure (.str _ _ rfl)⟩
   | some a=>
    obtain ⟨b,o,i⟩:=a;refine ⟨.string ByteArray.empty,?_,.pure (.str _ _ rfl)⟩;rw[run_convert_bytes_string w s t e _ _ _ hs he' ht];have hl:(Go.loadCells ⟨b,o,i⟩ ([]:List (List AV)).length).run P w=.ok (([]:List Int).map (Value.int .u8)).toArray w:=by simp[Go.loadCells,loadCellsFrom]
    rw[run_bytesToString w _ _ cap [] hl];rfl
  ·have hpos:0<rows.length:=by
    rcases Nat.eq_zero_or_pos rows.length with h | h
    ·exact absurd (List.eq_nil_of_length_eq_zero h) h0
    ·exact h
   obtain ⟨rfl,_⟩:=hA hpos;have hs1:size=1:=by
    obtain ⟨row,hmem⟩:=List.exists_mem_of_ne_nil rows h0;obtain ⟨n,rfl⟩:=hrow row hmem;rw[<-hsz _ hmem];rfl
   subst hs1;refine ⟨_,run_convert_bytes_arg w s e hs he' g off rows.length cap (rows.map numOf) w8 (λi hi=>?_) t ht,.pure (.str _ _ hstr)⟩;have h1:=hcell i 0 hi z8;have hrow':rows[i]? = some rows[i]:=Wz hi;obtain ⟨n,hn⟩:=hrow _ (YW hi);have h3:=hr i _ hrow' 0 (.int .u8 n) (by rw[hn];rfl);have hval:vals i 0=.int .u8 n:=(Rd.pure (μ:=μ) h3).aL;have e2:off+(i*1+0)=off+i:=by omega
   rw[e2] at h1;rw[h1,List.getD_eq_getElem?_getD,W2,hrow',hn,hval];rfl
 ·rename_i e;obtain rfl:=hv.gm;have he':=hT.und e;rw[show T.und e=.int .u8 from hp] at he';exact ⟨_,run_convert_bytes_nil w s e hs he' _ _ t ht,.pure (.str _ _ rfl)⟩
theorem dj {α:Type} {n:Int} {x:α}:∀{kvs:List (Int×α)},br kvs n=some x->(n,x)∈kvs
 | [],h=>by cases h
 | p::r,h=>by
  simp only[br] at h;split at h
  ·rename_i e;subst e;injection h with h;subst h;exact List.mem_cons_self ..
  ·exact List.mem_cons_of_mem _ (dj h)
theorem bX {α:Type} {n:Int} {x:α}:∀{kvs:List (Int×α)},kvs.Pairwise (λa b=>a.1<b.1)->(n,x)∈kvs->br kvs n=some x
 | p::r,hs,h=>by
  simp only[br];rw[List.pairwise_cons] at hs
  rcases List.mem_cons.1 h with e | h
  ·rw[<-e,if_pos rfl]
  ·rw[if_neg (λe=>by have:=hs.1 _ h;simp only at this;omega)];exact bX hs.2 h
theorem nG {α:Type} {n:Int}:∀{kvs:List (Int×α)},br kvs n=none->∀x,(n,x)∉kvs
 | [],_,x,h=>by cases h
 | p::r,hn,x,h=>by
  simp only[br] at hn;split at hn
  ·cases hn
  ·rename_i e
   rcases List.mem_cons.1 h with e' | h
   ·exact e (by rw[<-e'])
   ·exact nG hn x h
theorem zj (n:Int):∀(es:List MapEntry) (i:Nat),(∀e,e∈es->∃k,e.key=.int .i64 k) ->
  (∃j e,es[j]? = some e/\e.key=.int .i64 n/\Instr.findNow (.int .i64) (.int .i64 n) es i=some (some (i+j,e.val))) \/
  ((∀e,e∈es->e.key≠.int .i64 n)/\Instr.findNow (.int .i64) (.int .i64 n) es i=some none)
 | [],i,_=>.inr ⟨λe h=>by simp at h,rfl⟩
 | e::es,i,h=>by
  obtain ⟨k,hk⟩:=h e w8
  by_cases hkn:n=k
  ·subst hkn;exact .inl ⟨0,e,rfl,hk,by simp[Instr.findNow,Instr.sameNow,hk]⟩
  ·rcases zj n es (i+1) (λe he=>h e QE) with ⟨j,e',h1,h2,h3⟩ | ⟨h1,h2⟩
   ·refine .inl ⟨j+1,e',by simpa using h1,h2,?_⟩;simp only[Instr.findNow,Instr.sameNow,hk,if_true,show (n==k)=false from by simpa using hkn];rw[h3,show i+1+j=i+(j+1) from by omega]
   ·refine .inr ⟨λe' he=>?_,?_⟩
    ·rcases List.mem_cons.1 he with rfl | he
     ·rw[hk];intro hc;injection hc with _ hc;exact hkn hc.symm
     ·exact h1 e' he
    ·simp only[Instr.findNow,Instr.sameNow,hk,if_true,show (n==k)=false from by simpa using hkn];exact h2
theorem run_findKey {key:TypeId} (hk:P.underlying key=some (.int .i64)) {es:List MapEntry} {n:Int} {r:Option (Nat×Value)} (h:Instr.findNow (.int .i64) (.int .i64 n) es 0=some r) :
  (Instr.findKey key (.int .i64 n) es).run P w=.ok r w:=by
 unfold Instr.findKey;simp[run_underlying hk,h]
theorem run_checkKey {key:TypeId} (hk:P.underlying key=some (.int .i64)) (b:Bool) (n:Int):(Instr.checkKey b 10000 key (.int .i64 n)).run P w=.ok () w:=by
 unfold Instr.checkKey;simp[run_underlying hk]
theorem BC (hT:TabOK P T) {k:TypeId} (h:(T.und k).wc=true):P.underlying k=some (.int .i64):=by
 have ht:=hT.und k;unfold KD.wc at h;split at h
 ·rename_i e;rw[e] at ht;exact ht
 ·cases h
theorem MapOK.find {es:Array MapEntry} {clk:Nat} {kvs:List (Int×AV)} {vals:Int->Value} (h:MapOK es clk kvs vals) (n:Int) :
  (∃j e x,es.toList[j]? = some e/\e.key=.int .i64 n/\e.val=vals n/\br kvs n=some x/\Instr.findNow (.int .i64) (.int .i64 n) es.toList 0=some (some (j,vals n))) \/
  (br kvs n=none/\(∀e,e∈es.toList->e.key≠.int .i64 n)/\Instr.findNow (.int .i64) (.int .i64 n) es.toList 0=some none):=by
 rcases zj n es.toList 0 (λe he=>by obtain ⟨k,x,hk,_⟩:=h.key e he;exact ⟨k,hk⟩) with ⟨j,e,h1,h2,h3⟩ | ⟨h1,h2⟩
 ·obtain ⟨k,x,k1,k2,k3⟩:=h.key e (W3 h1);rw[h2] at k1;injection k1 with _ k1
  subst k1;refine .inl ⟨j,e,x,h1,h2,k3,bX h.rise k2,?_⟩;rw[h3,Yc,k3]
 ·refine .inr ⟨?_,h1,h2⟩;cases e:br kvs n with
  | none=>rfl
  | some x=>
   obtain ⟨e',he,hk⟩:=h.has _ (dj e);exact absurd hk (h1 e' he)
theorem KU (hT:TabOK P T) {e:TypeId} (hs:T.siz e≠0) {z:AV} (hz:yI T e=some z):∃v,(∀w,(zeroValue e).run P w=.ok v w)/\∀μ S w,Rd μ S w v z:=by
 obtain ⟨i,h1,h2,h3,zv,h4,h5,h6,h7⟩:=hT.siz e hs;refine ⟨zv,λw=>?_,λμ S w=>?_⟩
 ·simp[zeroValue,typeInfo,h1,h4]
 ·unfold yI at hz;rw[h7] at hz;have hcell:∀(j:Nat) x,(T.zer e)[j]? = some x->Rd μ S w (zv.cells.getD j undef) x:=λj x hx=>by
   rw[<-h5,W2] at hx;cases e2:zv.cells.toList[j]? with
   | none=>rw[e2] at hx;cases hx
   | some u=>
    rw[e2] at hx;simp only[Option.map_some,gL] at hx;subst hx;have:zv.cells.getD j undef=u:=by
     rw[Array.getD_eq_getD_getElem?,<-Array.getElem?_toList,e2];rfl
    rw[this];exact oG μ S w u
  have hlen:(T.zer e).length=T.siz e:=by rw[<-h5,List.length_map,Array.length_toList,h6]
  cases zv with
  | agg cs=>
   simp only[gL] at hz;subst hz;exact .agg cs _ (by rw[hlen];exact h6) hcell
  | _=>
   simp only[gL] at hz;subst hz;have hl1:T.siz e=1:=by rw[<-h6];rfl
   have hx:(T.zer e)[0]? = some ((T.zer e).getD 0 .any):=by
    rw[List.getD_eq_getElem?_getD,Wz z8];rfl
   exact hcell 0 _ hx
theorem LG (hi:Inv C μ S σ a w) {v:Value} {x:AV} {kvs:List (Int×AV)} (h:mapOf σ x=some kvs) (hv:Rd μ S w v x) :
  (v=.map none/\kvs=[])\/∃g es clk vals,v=.map (some g)/\w.heap[g]? = some (.map es clk)/\MapOK es clk kvs vals/\∀p,p∈kvs->RdP S w (vals p.1) p.2:=by
 unfold mapOf at h;split at h
 ·injection h with h;subst h
  obtain ⟨g,es,clk,vals,h1,h2,h3,h4,h5⟩:=hv.ou.ou;exact .inr ⟨g,es,clk,vals,h1,h3,h4,h5⟩
 ·injection h with h;subst h
  exact .inl ⟨hv.zH,rfl⟩
 ·split at h
  ·rename_i id kvs' hb;injection h with h;subst h
   obtain ⟨g,hg,rfl⟩:=hv.tZ;obtain ⟨g',es,clk,vals,k1,k2,k3,k4⟩:=hi.hp _ _ hb;rw[k1] at hg;injection hg with hg;subst hg
   exact .inr ⟨g',es,clk,vals,rfl,k2,k3,k4⟩
  ·cases h
 ·cases h
theorem Cn (hT:TabOK P T) (hi:Inv C μ S σ a w) {t:TypeId} {v vi:Value} {x i r:AV} {ok:Bool} {p:Prop} (h:qJ T σ t x i ok=some (p,r)) (hp:p) (hv:Rd μ S w v x) (hvi:Rd μ S w vi i) :
  ∃u,(Instr.lookup t v vi ok).run P w=.ok u w/\Rd μ S w u r:=by
 unfold qJ at h;split at h
 ·rename_i k e kvs n hu hm;split at h
  ·rename_i z hz;simp only[gL,gM] at h;obtain ⟨rfl,rfl⟩:=h;obtain ⟨hk,hs⟩:=hp;have hk:=BC hT hk;have ht:=hT.und t;rw[hu] at ht;simp only[jX] at ht;obtain rfl:=hvi.aL;obtain ⟨zv,hz1,hz2⟩:=KU hT hs hz;have fin:∀(u:Value) (y:AV) (b:Bool),Rd μ S w u y->Rd μ S w (if ok then .tuple #[u,.bool b] else u) (bif ok then .tup [y,.bool b] else y):=λu y b hu=>by
    cases ok with
    | false=>exact hu
    | true=>
     refine .tup _ _ rfl λj x hx=>?_
     rcases j with _ | _ | j
     ·simp at hx;subst hx;exact hu
     ·simp at hx;subst hx;exact .pure (.bool b)
     ·simp at hx
   rcases LG hi hm hv with ⟨rfl,rfl⟩ | ⟨g,es,clk,vals,rfl,h2,h3,h4⟩
   ·refine ⟨if ok then .tuple #[zv,.bool false] else zv,?_,fin zv z false (hz2 μ S w)⟩;simp[Instr.lookup,run_underlying ht,run_checkKey hk,run_findKey (w:=w) hk (es:=[]) (n:=n) (r:=none) rfl,hz1]
   ·rcases h3.find n with ⟨j,en,y,k1,k2,k3,k4,k5⟩ | ⟨k1,k2,k3⟩
    ·refine ⟨if ok then .tuple #[vals n,.bool true] else vals n,?_,?_⟩
     ·simp[Instr.lookup,run_underlying ht,run_checkKey hk,run_findKey (w:=w) hk k5,run_getObj_map h2]
     ·rw[k4];exact fin _ _ true (.pure (h4 _ (dj k4)))
    ·refine ⟨if ok then .tuple #[zv,.bool false] else zv,?_,?_⟩
     ·simp[Instr.lookup,run_underlying ht,run_checkKey hk,run_findKey (w:=w) hk k3,run_getObj_map h2,hz1]
     ·rw[k1];exact fin _ _ false (hz2 μ S w)
  ·cases h
 ·cases h
theorem lZ (hT:TabOK P T) (hi:Inv C μ S σ a w) (o:Oper) {p:Prop} {x:AV} (h:eX T σ o.op=some (p,x)) (hp:p) :
  ∃u,(execOp a.eval o).run P w=.ok (.value u) w/\Rd μ S w u x:=by
 unfold eX at h;unfold execOp;split at h
 ·simp only[gL,gM] at h;obtain ⟨rfl,rfl⟩:=h;rename_i he;rw[he];exact ⟨_,rfl,hi.ev _⟩
 ·simp only[gL,gM] at h;obtain ⟨rfl,rfl⟩:=h;rename_i he;rw[he];exact ⟨_,rfl,hi.ev _⟩
 ·rename_i he;rw[he];obtain ⟨b,h1,h2⟩:=Co hi h hp;refine ⟨_,?_,h2⟩;simp[h1,asBool]
 ·rename_i t y he;rw[he];cases hl:lJ T σ t (evS σ y).2 with
  | none=>rw[hl] at h;cases h
  | some q=>
   simp only[hl,Option.map_some,gL,gM] at h;obtain ⟨rfl,rfl⟩:=h;obtain ⟨u,h1,h2⟩:=uL hT hi (p:=q.1) (r:=q.2) hl hp.2 (hi.evS y hp.1);exact ⟨u,by simp[h1],h2⟩
 ·rename_i y he;rw[he];split at h<;>(try cases h)
  ·rename_i id size row off hy;have hv:=hi.evS y hp;rw[hy] at hv;obtain ⟨g,hg,hv'⟩:=hv.iZ;exact ⟨_,by simp[hv'],.ptr id size row off g hg⟩
  ·rename_i cells off hy;have hv:=hi.evS y hp;rw[hy] at hv;obtain ⟨g,o',vals,hv',_⟩:=hv.ov.ov;exact ⟨a.eval y,by simp[hv'],hv⟩
 ·rename_i op t y z ty he;rw[he];split at h
  ·rename_i r hb;simp only[gL,gM] at h;obtain ⟨rfl,rfl⟩:=h;obtain ⟨q,h1,h2⟩:=EW (P:=P) (μ:=μ) (S:=S) (w:=w) (ox:=y) (oy:=z) hT hb (hi.evS y hp.1) (hi.evS z hp.2);exact ⟨q,by simp only[Sem.run_bind] at h1 ⊢;rw[h1];rfl,h2⟩
  ·cases hl:sY op (evS σ y).2 (evS σ z).2 with
   | none=>rw[hl] at h;cases h
   | some q=>
    simp only[hl,Option.map_some,gL,gM] at h;obtain ⟨rfl,rfl⟩:=h;obtain ⟨u,h1,h2⟩:=yu (P:=P) (μ:=μ) (S:=S) (w:=w) (t:=t) (ox:=y) (oy:=z) (p:=q.1) (r:=q.2) hl hp.2.2 (hi.evS y hp.1) (hi.evS z hp.2.1);exact ⟨u,by simp only[Sem.run_bind] at h1 ⊢;rw[h1];rfl,h2⟩
 ·rename_i op t y he;rw[he];cases hl:Hl op (evS σ y).2 with
  | none=>rw[hl] at h;cases h
  | some q=>
   simp only[hl,Option.map_some,gL,gM] at h;obtain ⟨rfl,rfl⟩:=h;obtain ⟨u,h1,h2⟩:=Hg (P:=P) (μ:=μ) (S:=S) (w:=w) hl (hi.evS y hp);exact ⟨u,by simp[h1],h2⟩
 ·rename_i t y j he;rw[he];cases hl:iw T t (evS σ y).2 j with
  | none=>rw[hl] at h;cases h
  | some q=>
   simp only[hl,Option.map_some,gL,gM] at h;obtain ⟨rfl,rfl⟩:=h;obtain ⟨u,h1,h2⟩:=si (P:=P) (μ:=μ) (S:=S) (w:=w) hT hl (hi.evS y hp);exact ⟨u,by simp[h1],h2⟩
 ·rename_i t y j he;rw[he];cases hl:ph T t (evS σ y).2 j with
  | none=>rw[hl] at h;cases h
  | some q=>
   simp only[hl,Option.map_some,gL,gM] at h;obtain ⟨rfl,rfl⟩:=h;obtain ⟨u,h1,h2⟩:=AS (P:=P) (μ:=μ) (S:=S) (w:=w) hT (p:=q.1) (r:=q.2) hl hp.2 (hi.evS y hp.1);exact ⟨u,by simp[h1],h2⟩
 ·rename_i t y j he;rw[he];cases hl:iz T t (evS σ y).2 (evS σ j).2 with
  | none=>rw[hl] at h;cases h
  | some q=>
   simp only[hl,Option.map_some,gL,gM] at h;obtain ⟨rfl,rfl⟩:=h;obtain ⟨u,h1,h2⟩:=sj (P:=P) (μ:=μ) (S:=S) (w:=w) hT (p:=q.1) (r:=q.2) hl hp.2.2 (hi.evS y hp.1) (hi.evS j hp.2.1);exact ⟨u,by simp[h1],h2⟩
 ·rename_i t y j he;rw[he];cases hl:pq T t (evS σ y).2 (evS σ j).2 with
  | none=>rw[hl] at h;cases h
  | some q=>
   simp only[hl,Option.map_some,gL,gM] at h;obtain ⟨rfl,rfl⟩:=h;obtain ⟨u,h1,h2⟩:=AT (P:=P) (μ:=μ) (S:=S) (w:=w) hT (p:=q.1) (r:=q.2) hl hp.2.2 (hi.evS y hp.1) (hi.evS j hp.2.1);exact ⟨u,by simp[h1],h2⟩
 ·rename_i t y lo hi' he;rw[he];cases hl:pV T t (evS σ y).2 (lo.map λo=>(evS σ o).2) (hi'.map λo=>(evS σ o).2) with
  | none=>rw[hl] at h;cases h
  | some q=>
   simp only[hl,Option.map_some,gL,gM] at h;obtain ⟨rfl,rfl⟩:=h;obtain ⟨u,h1,h2⟩:=AU (P:=P) (μ:=μ) (S:=S) (w:=w) hT (p:=q.1) (r:=q.2) hl hp.2.2.2 (hi.evS y hp.1) (GO hi lo hp.2.1) (GO hi hi' hp.2.2.1);exact ⟨u,by simp[h1],h2⟩
 ·rename_i y j he;rw[he];split at h<;>(try cases h);rename_i vs hy;have hv:=hi.evS y hp.1;rw[hy] at hv;obtain ⟨us,hv',hl,hr⟩:=hv.I2;have hj:j<us.size:=by omega
  refine ⟨us[j],by simp[hv',Instr.extract,hj],?_⟩;have:=hr j (vs.getD j .any) (by rw[List.getD_eq_getElem?_getD,Wz hp.2];rfl)
  rwa [Array.getD_eq_getD_getElem?,YC hj] at this
 ·rename_i f first captured he;rw[he]
  split at h<;>(try cases h);rename_i hf;have hf:first=#[]:=by
   cases first with | mk l=>cases l<;>simp_all
  subst hf;refine ⟨.func (.func f) #[] (captured.map a.eval),by simp[Instr.makeFunc],.fn f _ _ (by rw[mC];simp) (λj x hx=>?_)⟩;obtain ⟨o,ho,hr⟩:=hi.eN _ hp j x hx;have:(captured.map a.eval).getD j undef=a.eval o:=by
   rw[Array.getD_eq_getD_getElem?,Array.getElem?_map];have:captured[j]? = some o:=by simpa using ho
   rw[this];rfl
  rw[this];exact hr
 ·rename_i args ats he;rw[he];split at h<;>(try cases h);rename_i y t hy ht;cases hl:rF T σ t (evS σ y).2 with
  | none=>rw[hl] at h;cases h
  | some q=>
   simp only[hl,Option.map_some,gL,gM] at h;obtain ⟨rfl,rfl⟩:=h;have e1:args=#[y]:=by cases args;simp_all
   have e2:ats=#[t]:=by cases ats;simp_all
   subst e1 e2;obtain ⟨u,h1,h2⟩:=EZ (ty:=o.type) (P:=P) (μ:=μ) (S:=S) (w:=w) hT hi hl (hi.evS y hp);exact ⟨u,by simp[resolve,invoke,builtin,h1],h2⟩
 ·rename_i s t y he;rw[he];cases hl:tk T s t (evS σ y).2 with
  | none=>rw[hl] at h;cases h
  | some q=>
   simp only[hl,Option.map_some,gL,gM] at h;obtain ⟨rfl,rfl⟩:=h;obtain ⟨u,h1,h2⟩:=Cl (P:=P) (μ:=μ) (S:=S) (w:=w) hT (p:=q.1) (r:=q.2) hl hp.2 (hi.evS y hp.1);exact ⟨u,by simp[h1],h2⟩
 ·rename_i t y i ok he;rw[he];cases hl:qJ T σ t (evS σ y).2 (evS σ i).2 ok with
  | none=>rw[hl] at h;cases h
  | some q=>
   simp only[hl,Option.map_some,gL,gM] at h;obtain ⟨rfl,rfl⟩:=h;obtain ⟨u,h1,h2⟩:=Cn (P:=P) (μ:=μ) (S:=S) (w:=w) hT hi (p:=q.1) (r:=q.2) hl hp.2.2 (hi.evS y hp.1) (hi.evS i hp.2.1);exact ⟨u,by simp[h1],h2⟩
 ·cases h
end sound
end Go.Eng
namespace Go.Eng
section
variable {P:Program} {T:Tab} {C:Ctx} {μ:Nat->Option Nat} {S:Nat->Prop} {σ:St} {a:Act} {w:World}
def upd (μ:Nat->Option Nat) (id:Nat) (g:Option Nat):Nat->Option Nat:=λi=>if i=id then g else μ i
theorem bb (w:World) (o:Obj) (k:Nat) (h:k<w.heap.size):(w.alloc o).heap[k]? = w.heap[k]?:=by
 show (w.heap.push o)[k]? = _
 rw[Array.getElem?_push,if_neg z8]
theorem jg (w:World) (o:Obj):(w.alloc o).heap[w.heap.size]? = some o:=by
 show (w.heap.push o)[w.heap.size]? = _
 simp
def AV.leaf:AV->Bool
 | .any | .agg _ | .tup _ | .cnd ..=>false
 | _=>true
theorem Rd.leaf {v:Value} {x:AV} (h:Rd μ S w v x) (hx:x.leaf=true):v.oneCell'=true:=by
 cases h with
 | any=>cases hx
 | pure h=>cases h<;>first | rfl | cases hx
 | agg=>cases hx
 | tup=>cases hx
 | fn=>rfl
 | ptr=>rfl
 | osl=>rfl
 | mp=>rfl
 | exs=>rfl
 | cndT=>cases hx
 | cndF=>cases hx
theorem Inv.fresh (hi:Inv C μ S σ a w) {id:Nat} (hf:aa σ.hp id=none):μ id=none:=by
 cases e:μ id with
 | none=>rfl
 | some g=>obtain ⟨⟨b,hb⟩,_⟩:=hi.dom id g e;rw[hf] at hb;cases hb
theorem Inv.new (hi:Inv C μ S σ a w) (id:Nat) (hf:aa σ.hp id=none) (o:Obj) (b:Blk) (hb:cR (upd μ id (some w.heap.size)) S (w.alloc o) id b) :
  Inv C (upd μ id (some w.heap.size)) S ⟨σ.tm,(id,b)::σ.hp⟩ a (w.alloc o):=by
 have hn:=hi.fresh hf;have hw:aH S w (w.alloc o):=λb hb=>bb w o b (hi.sb b hb).1
 have hm:∀i g,μ i=some g->upd μ id (some w.heap.size) i=some g:=λi g h=>by
  unfold upd;rw[if_neg (by rintro rfl;rw[hn] at h;cases h)];exact h
 have hz:∀i g,μ i=some g->ag (w.alloc o) g=ag w g:=λi g h=>aN (bb w o g (hi.dom i g h).2.2.2)
 refine ⟨hi.size,hi.defers,λt x hx=>(hi.tm t x hx).mono hw (λ_ h=>h) hm hz,?_,?_,?_,?_,?_⟩
 ·intro i c hc;simp only[aa] at hc
  by_cases e:id=i
  ·subst e;simp only[if_true,gL] at hc;subst hc;exact hb
  ·rw[if_neg e] at hc;have hn':μ i=none->upd μ id (some w.heap.size) i=none:=λh=>by
    unfold upd;rw[if_neg (λh=>e h.symm)];exact h
   exact (hi.hp i c hc).mono hw (λ_ h=>h) hm hz hn' (λg h=>bb w o g (hi.dom i g h).2.2.2)
 ·intro i g hg;unfold upd at hg;split at hg
  ·rename_i e;injection hg with hg
   subst hg e;exact ⟨⟨b,by simp[aa]⟩,.inr hi.frm.size,λh=>Nat.lt_irrefl _ (hi.sb _ h).1,by simp⟩
  ·rename_i e;obtain ⟨⟨c,h1⟩,h2,h3,h4⟩:=hi.dom i g hg;exact ⟨⟨c,by simp only[aa];rw[if_neg (λh=>e h.symm)];exact h1⟩,h2,h3,by simp;omega⟩
 ·intro i j g h1 h2;unfold upd at h1 h2;split at h1<;>split at h2
  ·simp_all
  ·injection h1 with h1;subst h1;exact absurd (hi.dom j _ h2).2.2.2 (Nat.lt_irrefl _)
  ·injection h2 with h2;subst h2;exact absurd (hi.dom i _ h1).2.2.2 (Nat.lt_irrefl _)
  ·exact hi.inj i j g h1 h2
 ·exact ⟨hi.frm.os,hi.frm.tape,hi.frm.output,by simp;have:=hi.frm.size;omega,λb hb hA=>by
   rw[bb w o b (YZ hb hi.frm.size)];exact hi.frm.block b hb hA⟩
 ·intro b hb;exact ⟨by simp;have:=(hi.sb b hb).1;omega,(hi.sb b hb).2⟩
theorem Inv.write (hi:Inv C μ S σ a w) (id g:Nat) (hg:μ id=some g) {w':World} (hos:w'.os=w.os) (htp:w'.tape=w.tape) (hout:w'.output=w.output)
  (hsz:w'.heap.size=w.heap.size) (hne:∀b,b≠g->w'.heap[b]? = w.heap[b]?) (hrow:ag w' g=ag w g) (b:Blk) (hb:cR μ S w' id b) :
  Inv C μ S ⟨σ.tm,aG σ.hp id b⟩ a w':=by
 obtain ⟨⟨b0,hb0⟩,hA,hS,hlt⟩:=hi.dom id g hg;have hw:aH S w w':=λc hc=>hne c (by rintro rfl;exact hS hc)
 have hz:∀i q,μ i=some q->ag w' q=ag w q:=λi q h=>by
  by_cases e:q=g
  ·subst e;exact hrow
  ·exact aN (hne q e)
 refine ⟨hi.size,hi.defers,λt x hx=>(hi.tm t x hx).mono hw (λ_ h=>h) (λ_ _ h=>h) hz,?_,?_,hi.inj,?_,?_⟩
 ·intro i c hc;rw[ai] at hc;split at hc
  ·rename_i e;injection hc with hc;subst hc e;exact hb
  ·rename_i e;exact (hi.hp i c hc).mono hw (λ_ h=>h) (λ_ _ h=>h) hz (λh=>h) (λq hq=>hne q (by rintro rfl;exact e (hi.inj _ _ _ hg hq)))
 ·intro i q hq;obtain ⟨⟨c,h1⟩,h2,h3,h4⟩:=hi.dom i q hq;refine ⟨?_,h2,h3,by omega⟩;rw[ai];split
  ·exact ⟨_,rfl⟩
  ·exact ⟨c,h1⟩
 ·refine hi.frm.step (λb=>b=g) ⟨hos,htp,hout,by omega,λb _ h=>hne b h⟩ (λb h=>by rw[h];exact hA)
 ·intro b hb;exact ⟨by have:=(hi.sb b hb).1;omega,(hi.sb b hb).2⟩
theorem eY (g o:Nat) (e:TypeId):∀(vs:List Value) (i:Nat) (w:World) (c:Array Value),w.heap[g]? = some (.cells c e (0,0))->(∀v,v∈vs->v.oneCell'=true) ->
  o+i+vs.length<=c.size->∃w',(storeCells ⟨g,o,none⟩ vs i).run P w=.ok () w'/\w'.os=w.os/\w'.tape=w.tape/\w'.output=w.output/\w'.heap.size=w.heap.size /\
   (∀b,b≠g->w'.heap[b]? = w.heap[b]?)/\∃c':Array Value,w'.heap[g]? = some (.cells c' e (0,0))/\c'.size=c.size /\
    ∀k,c'.getD k undef=if o+i<=k/\k<o+i+vs.length then vs.getD (k-(o+i)) undef else c.getD k undef
 | [],i,w,c,hc,_,_=>⟨w,by simp[storeCells],rfl,rfl,rfl,rfl,λ_ _=>rfl,c,hc,rfl,λk=>by rw[if_neg w8]⟩
 | v::r,i,w,c,hc,h1,hle=>by
  simp only[List.length_cons] at hle;have hcell:w.cell? ⟨g,o+i,none⟩=some (c[o+i]'z8):=by
   simp[World.cell?,hc,show o+i<c.size by omega]
  have hfz:w.frozen? ⟨g,o+i,none⟩=false:=by simp[World.frozen?,hc]
  have aG:(w.setCell ⟨g,o+i,none⟩ v).heap[g]? = some (.cells (c.setIfInBounds (o+i) v) e (0,0)):=by
   simp[World.setCell,Array.getElem?_modify,hc]
  obtain ⟨w',h2,h3,h4,h5,h6,h7,c',h8,h9,h10⟩:=eY g o e r (i+1) (w.setCell ⟨g,o+i,none⟩ v) (c.setIfInBounds (o+i) v) aG
   (λu hu=>h1 u (List.mem_cons_of_mem _ hu)) k6
  refine ⟨w',?_,h3,h4,h5,by rw[h6];simp,λb hb=>?_,c',h8,by rw[h9];simp,λk=>?_⟩
  ·simp only[storeCells,add_plain,Sem.run_bind,run_store P w _ v _ (h1 v (List.mem_cons_self ..)),hcell,hfz,Bool.false_eq_true,if_false,Result.andThen_ok];exact h2
  ·rw[h7 b hb];simp only[World.setCell,Array.getElem?_modify];rw[if_neg (by rintro rfl;exact hb rfl)]
  ·rw[h10 k]
   by_cases e1:k=o+i
   ·subst e1;rw[if_neg z8,if_pos w8];simp[show o+i<c.size by omega]
   ·have:(c.setIfInBounds (o+i) v).getD k undef=c.getD k undef:=by
     rw[Array.getD_eq_getD_getElem?,Array.getElem?_setIfInBounds_ne (λh=>e1 h.symm),<-Array.getD_eq_getD_getElem?]
    rw[this]
    by_cases e2:o+i<=k/\k<o+i+(r.length+1)
    ·rw[if_pos z8,if_pos Qv];rw[show k-(o+i)=(k-(o+(i+1)))+1 from by omega];simp
    ·rw[if_neg z8,if_neg Qv]
def putAt:List AV->Nat->List AV->List AV
 | l,_,[]=>l
 | l,o,x::r=>putAt (l.set o x) (o+1) r
theorem gu:∀(xs:List AV) (l:List AV) (o:Nat),(putAt l o xs).length=l.length
 | [],_,_=>rfl
 | x::r,l,o=>by simp[putAt,gu r]
theorem qN:∀(xs:List AV) (l:List AV) (o k:Nat),o+xs.length<=l.length->(putAt l o xs)[k]? = if o<=k/\k<o+xs.length then xs[k-o]? else l[k]?
 | [],l,o,k,_=>by rw[if_neg w8];rfl
 | x::r,l,o,k,h=>by
  simp only[List.length_cons] at h;simp only[putAt];rw[qN r _ _ _ k6]
  by_cases e:k=o
  ·subst e;rw[if_neg z8,if_pos w8];simp[show k<l.length by omega]
  ·rw[List.getElem?_set_ne (λh=>e h.symm)]
   by_cases e2:o<=k/\k<o+(r.length+1)
   ·rw[if_pos z8,if_pos Qv];rw[show k-o=(k-(o+1))+1 from by omega];simp
   ·rw[if_neg z8,if_neg Qv]
def kc (T:Tab) (t:TypeId) (x:AV):Option (List AV):=
 match (T.und t).isA,x with
 | some true,.agg xs=>some xs
 | some false,x=>some [x]
 | _,_=>none
def gN (T:Tab) (σ:St) (t:TypeId) (addr x:AV):Option (Prop×List (Nat×Blk)):=
 match addr,kc T t x with
 | .ptr id size row off,some xs=>
  match aa σ.hp id with
  | some (.cells e s rows)=>
   if s=size then some (T.siz t≠0/\xs.length=T.siz t/\xs.all AV.leaf=true/\row<rows.length/\off+T.siz t<=s,aG σ.hp id (.cells e s (rows.set row (putAt (rows.getD row []) off xs))))
   else none
  | _=>none
 | _,_=>none
theorem oW {t:TypeId} {v:Value} {x:AV} {xs:List AV} (h:kc T t x=some xs) (hl:xs.all AV.leaf=true) (hv:Rd μ S w v x) :
  v.cells.size=xs.length/\(∀u,u∈v.cells.toList->u.oneCell'=true)/\∀(j:Nat) y,xs[j]? = some y->Rd μ S w (v.cells.getD j undef) y:=by
 unfold kc at h;split at h
 ·injection h with h;subst h
  obtain ⟨cs,rfl,h1,h2⟩:=hv.nC;refine ⟨h1,λu hu=>?_,h2⟩;obtain ⟨j,hj,rfl⟩:=List.mem_iff_getElem.1 hu;simp only[Value.cells,Array.length_toList] at hj;rename_i ys _;have hy:ys[j]? = some (ys[j]'z8):=Wz z8;have:=h2 j _ hy;rw[Array.getD_eq_getD_getElem?,YC hj] at this;exact Rd.leaf (by simpa[Value.cells] using this) (List.all_eq_true.1 hl _ (W3 hy))
 ·injection h with h;subst h
  have hone:=hv.leaf QN;have hc:v.cells=#[v]:=by cases v<;>first | rfl | cases hone
  rw[hc];refine ⟨rfl,λu hu=>by simp at hu;subst hu;exact hone,λj y hy=>?_⟩;cases j with
  | zero=>simp only[List.getElem?_cons_zero,gL] at hy;subst hy;exact hv
  | succ j=>simp at hy
 ·cases h
theorem rS {i j i' j' s:Nat} (hj:j<s) (hj':j'<s) (h:i*s+j=i'*s+j'):i=i'/\j=j':=by
 have h1:i=i':=by
  have e1:(i*s+j) / s=i:=by rw[Nat.mul_comm,Nat.mul_add_div z8,Nat.div_eq_of_lt hj];omega
  have e2:(i'*s+j') / s=i':=by rw[Nat.mul_comm,Nat.mul_add_div z8,Nat.div_eq_of_lt hj'];omega
  rw[<-e1,<-e2,h]
 subst h1;exact ⟨rfl,by omega⟩
theorem AW (hT:TabOK P T) (hi:Inv C μ S σ a w) {t:TypeId} {va v:Value} {addr x:AV} {p:Prop} {hp':List (Nat×Blk)} (h:gN T σ t addr x=some (p,hp')) (hp:p)
  (hva:Rd μ S w va addr) (hv:Rd μ S w v x):∃w',(Instr.storeAt t va v).run P w=.ok () w'/\Inv C μ S ⟨σ.tm,hp'⟩ a w':=by
 unfold gN at h;split at h
 ·rename_i id size row off xs hx;split at h
  ·rename_i e s rows hb;split at h
   ·rename_i hs;subst hs;simp only[gL,gM] at h;obtain ⟨rfl,rfl⟩:=h;obtain ⟨hz,hl,hleaf,hrow,hoff⟩:=hp;obtain ⟨g,hg,rfl⟩:=hva.iZ;obtain ⟨k1,k2,k3⟩:=oW hx hleaf hv
    rcases hi.hp id _ hb with ⟨rfl,h2⟩ | ⟨g',c,h1,h2,h3,h4,h5⟩
    ·rw[h2] at hg;cases hg
    ·rw[h1] at hg;injection hg with hg;subst hg
     have hle:row*s+s<=rows.length*s:=by
      have:=YJ s (Nat.succ_le_of_lt hrow)
      rwa [Yy] at this
     have hvl:v.cells.toList.length=T.siz t:=by rw[Array.length_toList,k1,hl]
     obtain ⟨w',r1,r2,r3,r4,r5,r6,c',r7,r8,r9⟩:=eY (P:=P) g' (row*s+off) e v.cells.toList 0 w c h2 k2 z8;refine ⟨w',?_,?_⟩
     ·simp[Instr.storeAt,Instr.sureAddr,storeVar,bD hT hz,k1,hl,r1]
     ·have hrs:ag w' g'=ag w g':=by simp[ag,r7,h2,r8]
      have hS:¬S g':=(hi.dom id g' h1).2.2.1;have hw:aH S w w':=λb hb=>r6 b Qb
      have hz':∀i q,μ i=some q->ag w' q=ag w q:=λi q _=>by
       by_cases e:q=g'
       ·subst e;exact hrs
       ·exact aN (r6 q e)
      have hmono:∀{v x},Rd μ S w v x->Rd μ S w' v x:=λh=>h.mono hw (λ_ h=>h) (λ_ _ h=>h) hz'
      have hrow':rows[row]? = some (rows.getD row []):=by
       rw[List.getD_eq_getElem?_getD,Wz hrow];rfl
      have hlen:(rows.getD row []).length=s:=h4 _ (W3 hrow');refine hi.write id g' h1 r2 r3 r4 r5 r6 hrs _ (.inr ⟨g',c',h1,r7,by simp;omega,λq hq=>?_,λi q hq j y hy=>?_⟩)
      ·rcases Yg hq with h | h
       ·exact h4 q h
       ·rw[h,gu,hlen]
      ·rw[r9];rw[YM] at hq
       by_cases ei:row=i
       ·subst ei;simp only[if_true,hrow] at hq;injection hq with hq;subst hq
        have hj:j<s:=by
         by_cases h:j<s
         ·exact h
         ·rw[List.getElem?_eq_none (by rw[gu,hlen];omega)] at hy;cases hy
        rw[qN _ _ _ _ (by rw[hlen];omega)] at hy
        by_cases e2:off<=j/\j<off+xs.length
        ·rw[if_pos e2] at hy;rw[if_pos z8];have:=hmono (k3 _ _ hy);rw[show row*s+j-(row*s+off+0)=j-off from by omega]
         rwa [Array.getD_eq_getD_getElem?,<-Array.getElem?_toList,<-List.getD_eq_getElem?_getD] at this
        ·rw[if_neg e2] at hy;rw[if_neg z8];exact hmono (h5 row _ hrow' j y hy)
       ·rw[if_neg ei] at hq;have hj:j<s:=by
         by_cases h:j<s
         ·exact h
         ·rw[List.getElem?_eq_none (by rw[h4 _ (W3 hq)];omega)] at hy;cases hy
        rw[if_neg (λhh=>ei (rS (i:=row) (j:=i*s+j-row*s) (i':=i) (j':=j) (s:=s) z8 hj z8).1)];exact hmono (h5 i q hq j y hy)
   ·cases h
  ·cases h
 ·cases h
end
end Go.Eng
namespace Go.Eng
section
variable {P:Program} {T:Tab} {C:Ctx} {μ:Nat->Option Nat} {S:Nat->Prop} {σ:St} {a:Act} {w:World}
def RdL (μ:Nat->Option Nat) (S:Nat->Prop) (w:World) (cs:Array Value) (xs:List AV):Prop:=
 cs.size=xs.length/\∀(j:Nat) x,xs[j]? = some x->Rd μ S w (cs.getD j undef) x
theorem qq (off:Nat):∀(l:List Value) (k:Nat) (cells:Array Value),off+k+l.length<=cells.size ->
  ((l.zipIdx k).foldl (λcs (x:Value×Nat)=>cs.setIfInBounds (off+x.2) x.1) cells).size=cells.size /\
  ∀m,((l.zipIdx k).foldl (λcs (x:Value×Nat)=>cs.setIfInBounds (off+x.2) x.1) cells).getD m undef =
   if off+k<=m/\m<off+k+l.length then l.getD (m-(off+k)) undef else cells.getD m undef
 | [],k,cells,_=>⟨rfl,λm=>by rw[if_neg w8];rfl⟩
 | v::r,k,cells,h=>by
  simp only[List.length_cons] at h;simp only[List.zipIdx_cons,List.foldl_cons];obtain ⟨h1,h2⟩:=qq off r (k+1) (cells.setIfInBounds (off+k) v) k6;refine ⟨by rw[h1];simp,λm=>?_⟩;rw[h2 m]
  by_cases e:m=off+k
  ·subst e;rw[if_neg z8,if_pos w8];simp[show off+k<cells.size by omega]
  ·have:(cells.setIfInBounds (off+k) v).getD m undef=cells.getD m undef:=by
    rw[Array.getD_eq_getD_getElem?,Array.getElem?_setIfInBounds_ne (λh=>e h.symm),<-Array.getD_eq_getD_getElem?]
   rw[this]
   by_cases e2:off+k<=m/\m<off+k+(r.length+1)
   ·rw[if_pos z8,if_pos Qv];rw[show m-(off+k)=(m-(off+(k+1)))+1 from by omega];simp
   ·rw[if_neg z8,if_neg Qv]
def xH:List AV->List (Nat×Nat×List AV)->List AV
 | l,[]=>l
 | l,(off,_,xs)::r=>xH (putAt l off xs) r
theorem RdL.putAt {cs cs':Array Value} {l xs:List AV} {off:Nat} {vs:Array Value} (h:RdL μ S w cs l) (hx:RdL μ S w vs xs) (hoff:off+xs.length<=l.length) (hsz:cs'.size=cs.size)
  (hg:∀m,cs'.getD m undef=if off<=m/\m<off+vs.size then vs.getD (m-off) undef else cs.getD m undef):RdL μ S w cs' (Eng.putAt l off xs):=by
 refine ⟨by rw[hsz,h.1,gu],λj x hj=>?_⟩;rw[qN _ _ _ _ hoff] at hj;rw[hg j]
 by_cases e:off<=j/\j<off+xs.length
 ·rw[if_pos e] at hj;rw[if_pos (by rw[hx.1];exact e)];exact hx.2 _ _ hj
 ·rw[if_neg e] at hj;rw[if_neg (by rw[hx.1];exact e)];exact h.2 _ _ hj
theorem tI (place:Nat->Option (Nat×Nat)):∀(parts:List (Nat×Value)) (aps:List (Nat×Nat×List AV)) (cells:Array Value) (l:List AV),RdL μ S w cells l ->
  parts.length=aps.length->(∀(i:Nat) q r,parts[i]? = some q->aps[i]? = some r->place q.1=some (r.1,r.2.1)/\RdL μ S w q.2.cells r.2.2/\r.2.2.length=r.2.1/\r.1+r.2.1<=l.length) ->
  ∃cells',Instr.fill place cells parts=some cells'/\RdL μ S w cells' (xH l aps)
 | [],aps,cells,l,h,hl,_=>by
  cases aps with
  | nil=>exact ⟨cells,rfl,h⟩
  | cons=>simp at hl
 | (i,v)::parts,aps,cells,l,h,hl,hp=>by
  cases aps with
  | nil=>simp at hl
  | cons q aps=>
   obtain ⟨off,size,xs⟩:=q;obtain ⟨h1,h2,h3,h4⟩:=hp 0 (i,v) (off,size,xs) rfl rfl;simp only at h1 h2 h3 h4;have hvs:v.cells.size=size:=by rw[h2.1,h3]
   have hcs:=h.1;obtain ⟨k1,k2⟩:=qq off v.cells.toList 0 cells (by rw[Array.length_toList];omega);have hput:RdL μ S w ((v.cells.toList.zipIdx 0).foldl (λcs (x:Value×Nat)=>cs.setIfInBounds (off+x.2) x.1) cells) (putAt l off xs):=
    h.putAt h2 (by rw[h3];exact h4) k1 (λm=>by
     rw[k2 m];simp only[Array.length_toList,Nat.add_zero];split
     ·rw[List.getD_eq_getElem?_getD,Array.getElem?_toList,<-Array.getD_eq_getD_getElem?]
     ·rfl)
   obtain ⟨cells',j1,j2⟩:=tI place parts aps _ (putAt l off xs) hput QN (λm q r hq hr=>by
    have:=hp (m+1) q r (by simpa using hq) (by simpa using hr)
    rwa [gu])
   refine ⟨cells',?_,j2⟩;unfold Instr.fill;rw[h1];simp only[hvs,ne_eq,not_true_eq_false,decide_false,Yv,decide_eq_true_eq];rw[if_neg z8,<-Array.foldl_toList,Array.toList_zipIdx];exact j1
theorem vb (hT:TabOK P T) {t:TypeId} (h:T.siz t≠0):∃z,(∀w,(zeroValue t).run P w=.ok z w)/\z.cells.size=T.siz t/\(∀μ S w,RdL μ S w z.cells (T.zer t)) /\
  ((T.und t).isA=some (match z with | .agg _=>true | _=>false)):=by
 obtain ⟨i,hi,_,_,z,h1,h2,h3,h4⟩:=hT.siz t h;refine ⟨z,λw=>by simp[zeroValue,typeInfo,hi,h1],h3,λμ S w=>⟨by rw[<-h2];simp,λj x hx=>?_⟩,h4⟩;rw[<-h2,W2,Array.getElem?_toList] at hx;cases e:z.cells[j]? with
 | none=>rw[e] at hx;cases hx
 | some v=>
  rw[e] at hx;simp only[Option.map_some,gL] at hx;subst hx;rw[Array.getD_eq_getD_getElem?,e];exact oG μ S w v
def lR (T:Tab) (σ:St) (t:TypeId):List (Nat×Operand)->Option (Prop×List (Nat×Nat×List AV))
 | []=>some (True,[])
 | (j,o)::r=>
  match T.fld t j,lR T σ t r with
  | some (ft,off),some (p,l)=>
   match kc T ft (evS σ o).2 with
   | some xs=>some ((evS σ o).1/\xs.length=T.siz ft/\xs.all AV.leaf=true/\off+T.siz ft<=(T.zer t).length/\p,(off,T.siz ft,xs)::l)
   | none=>none
  | _,_=>none
def lQ (T:Tab) (σ:St) (e:TypeId) (n:Nat):List (Nat×Operand)->Option (Prop×List (Nat×List AV))
 | []=>some (True,[])
 | (j,o)::r=>
  match lQ T σ e n r,kc T e (evS σ o).2 with
  | some (p,l),some xs=>some ((evS σ o).1/\xs.length=T.siz e/\xs.all AV.leaf=true/\j<n/\p,(j,xs)::l)
  | _,_=>none
def fE (T:Tab) (σ:St) (t:TypeId) (parts:List (Nat×Operand)):Option (Prop×AV):=
 match T.und t,lR T σ t parts with
 | .struct,some (p,l)=>some (T.siz t≠0/\p,.agg (xH (T.zer t) l))
 | _,_=>none
theorem zh (F:Array Field) (h:∀f,f∈F->(P.info? f.type).isSome=true) :
  ((F.mapM λf=>do pure (f.offset,<-sizeOf f.type):Sem (Array (Nat×Nat)))).run P w=.ok (F.map λf=>(f.offset,P.cellsOf f.type)) w:=by
 rw[Array.mapM_eq_mapM_toList];have:∀(l:List Field),(∀f,f∈l->(P.info? f.type).isSome=true)->((l.mapM λf=>do pure (f.offset,<-sizeOf f.type):Sem (List (Nat×Nat)))).run P w=.ok (l.map λf=>(f.offset,P.cellsOf f.type)) w:=by
  intro l
  induction l with
  | nil=>intro _;simp
  | cons f r ih=>
   intro h;obtain ⟨i,hi⟩:=Yd.1 (h f (List.mem_cons_self ..));have hs:(sizeOf f.type).run P w=.ok (P.cellsOf f.type) w:=by simp[sizeOf,typeInfo,hi,Program.cellsOf]
   simp only[List.mapM_cons,Sem.run_bind,hs,Result.andThen_ok,Sem.run_pure,ih (λg hg=>h g (List.mem_cons_of_mem _ hg)),List.map_cons]
 rw[Sem.run_map,this F.toList (λf hf=>h f (by simpa using hf))]
 apply congrArg (λq=>Result.ok q w)
 apply Array.ext'
 simp
theorem pH (hT:TabOK P T) (hi:Inv C μ S σ a w) {t:TypeId} {F:Array Field} (hF:P.underlying t=some (.struct F)):∀(parts:List (Nat×Operand)) (p:Prop) (l:List (Nat×Nat×List AV)),
  lR T σ t parts=some (p,l)->p->parts.length=l.length/\∀(i:Nat) q r,(parts.map λq=>(q.1,a.eval q.2))[i]? = some q->l[i]? = some r ->
   (F.map λf=>(f.offset,P.cellsOf f.type))[q.1]? = some (r.1,r.2.1)/\RdL μ S w q.2.cells r.2.2/\r.2.2.length=r.2.1/\r.1+r.2.1<=(T.zer t).length
 | [],p,l,h,_=>by
  simp only[lR,gL,gM] at h;obtain ⟨_,rfl⟩:=h;exact ⟨rfl,λi q r hq=>by simp at hq⟩
 | (j,o)::parts,p,l,h,hp=>by
  unfold lR at h;split at h
  ·rename_i ft off p' l' hfld hrest;split at h
   ·rename_i xs hxs;simp only[gL,gM] at h;obtain ⟨rfl,rfl⟩:=h;obtain ⟨h1,h2,h3,h4,h5⟩:=hp;obtain ⟨k1,k2⟩:=pH hT hi hF parts p' l' hrest h5;refine ⟨by simp[k1],λi q r hq hr=>?_⟩;cases i with
    | succ i=>exact k2 i q r (by simpa using hq) (by simpa using hr)
    | zero=>
     simp only[List.map_cons,List.getElem?_cons_zero,gL] at hq hr;subst hq hr;obtain ⟨F',f,e1,e2,e3,e4,e5⟩:=hT.fld _ _ _ _ hfld;rw[hF] at e1;injection e1 with e1
     injection e1 with e1
     subst e1;obtain ⟨c1,c2,c3⟩:=oW hxs h3 (hi.evS o h1);obtain ⟨inf,e6,e7,_⟩:=hT.siz ft e5;refine ⟨?_,⟨c1,c3⟩,h2,h4⟩;simp[e2,e3,e4,Program.cellsOf,e6,e7]
   ·cases h
  ·cases h
theorem AQ (hT:TabOK P T) (hi:Inv C μ S σ a w) {t:TypeId} {parts:Array (Nat×Operand)} {p:Prop} {x:AV} (h:fE T σ t parts.toList=some (p,x)) (hp:p) :
  ∃u,(Instr.build t (parts.map λ(i,o)=>(i,a.eval o))).run P w=.ok u w/\Rd μ S w u x:=by
 unfold fE at h;split at h
 ·rename_i p' l hu hps;simp only[gL,gM] at h;obtain ⟨rfl,rfl⟩:=h;obtain ⟨h1,h3⟩:=hp;have ht:=hT.und t;rw[hu] at ht;obtain ⟨F,hF,hinf⟩:=ht;obtain ⟨z,z1,z2,z3,z4⟩:=vb hT h1;obtain ⟨k1,k2⟩:=pH hT hi hF parts.toList p' l hps h3;obtain ⟨cells',f1,f2⟩:=tI (μ:=μ) (S:=S) (w:=w) ((F.map λf=>(f.offset,P.cellsOf f.type))[·]?) (parts.toList.map λq=>(q.1,a.eval q.2)) l z.cells (T.zer t) (z3 μ S w) (by simpa using k1) k2;refine ⟨.agg cells',?_,.agg cells' _ f2.1 f2.2⟩;simp only[Instr.build,Sem.run_bind,z1,Result.andThen_ok,run_underlying hF,zh F hinf];rw[show (parts.map λ(x:Nat×Operand)=>(x.1,a.eval x.2)).toList=parts.toList.map λq=>(q.1,a.eval q.2) by simp];rw[f1];simp
 ·cases h
end
end Go.Eng
namespace Go.Eng
section
variable {P:Program} {T:Tab} {C:Ctx} {μ:Nat->Option Nat} {S:Nat->Prop} {σ:St} {a:Act} {w:World}
mutual
def refs:AV->List Nat
 | .ptr id _ _ _=>[id]
 | .osl id _ _ _=>[id]
 | .mp id=>[id]
 | .exs id _ _ _ _=>[id]
 | .agg cells=>aB cells
 | .tup vs=>aB vs
 | .fn _ caps=>aB caps
 | .cnd _ v=>refs v
 | _=>[]
def aB:List AV->List Nat
 | []=>[]
 | x::r=>refs x++aB r
end
theorem aX {x:AV}:∀{l:List AV} {j:Nat} {id:Nat},l[j]? = some x->id∈refs x->id∈aB l
 | [],j,id,h,_=>by simp at h
 | y::r,j,id,h,hx=>by
  simp only[aB,List.mem_append];cases j with
  | zero=>simp only[List.getElem?_cons_zero,gL] at h;subst h;exact .inl hx
  | succ j=>exact .inr (aX x7 hx)
theorem Rd.other {v:Value} {x:AV} (h:Rd μ S w v x) {id:Nat} (hn:id∉refs x) (g:Option Nat):Rd (upd μ id g) S w v x:=by
 induction h with
 | any v=>exact .any v
 | pure h=>exact .pure h
 | agg cs cells hl hr ih=>exact .agg cs cells hl (λj x hx=>ih j x hx (λh=>hn QT))
 | tup vs xs hl hr ih=>exact .tup vs xs hl (λj x hx=>ih j x hx (λh=>hn QT))
 | fn f vals caps hl hr ih=>exact .fn f vals caps hl (λj x hx=>ih j x hx (λh=>hn QT))
 | ptr i size row off g' hg=>
  refine .ptr i size row off g' ?_;unfold upd;rw[if_neg s9];exact hg
 | osl i size off len cap A hc h=>
  refine .osl i size off len cap A hc ?_
  rcases h with h | ⟨g',e,n,h1,h2,h3,h4⟩
  ·exact .inl h
  ·refine .inr ⟨g',e,n,?_,h2,h3,h4⟩;unfold upd;rw[if_neg s9];exact h1
 | mp i g' hg=>
  refine .mp i g' ?_;unfold upd;rw[if_neg s9];exact hg
 | exs i size off len cap g' e n hc hg hr hn'=>
  refine .exs i size off len cap g' e n hc ?_ hr hn';unfold upd;rw[if_neg s9];exact hg
 | cndT v x h ih=>exact .cndT v x (ih (λh=>hn (by simpa[refs] using h)))
 | cndF x=>exact .cndF x
def kill (id:Nat) (x:AV):AV:=if (refs x).contains id then .any else x
def bo (id:Nat):Blk->Prop
 | .cells _ _ rows=>(rows.all λrow=>row.all λx=>!(refs x).contains id)=true
 | .map _=>True
 | .iter ..=>True
 | .cap id' _ _=>id'≠id
 | .pin id' _ _ _=>id'≠id
def ez (id:Nat):List (Nat×Blk)->Prop
 | []=>True
 | (i,b)::r=>(i≠id->bo id b)/\ez id r
theorem ez.get {id:Nat}:∀{h:List (Nat×Blk)},ez id h->∀{i b},aa h i=some b->i≠id->bo id b
 | [],_,i,b,hb,_=>by simp[aa] at hb
 | (j,c)::r,hf,i,b,hb,hi=>by
  simp only[aa] at hb;split at hb
  ·rename_i e;injection hb with hb;subst hb e
   exact hf.1 hi
  ·exact hf.2.get hb hi
theorem ng {id:Nat} {rows:List (List AV)} (h:(rows.all λrow=>row.all λx=>!(refs x).contains id)=true):∀row,row∈rows->∀x,x∈row->id∉refs x:=by
 intro row hrow x hx;have:=List.all_eq_true.1 (List.all_eq_true.1 h row hrow) x hx;simpa using this
theorem cR.other {id i:Nat} {b:Blk} (h:cR μ S w i b) (hi:i≠id) (hf:bo id b) (g:Option Nat):cR (upd μ id g) S w i b:=by
 have e:upd μ id g i=μ i:=by unfold upd;rw[if_neg hi]
 cases b with
 | cells t s rows=>
  simp only[cR,e]
  rcases h with h | ⟨g',c,h1,h2,h3,h4,h5⟩
  ·exact .inl h
  ·exact .inr ⟨g',c,h1,h2,h3,h4,λk row hk j x hx=>(h5 k row hk j x hx).other (ng hf row (W3 hk) x (W3 hx)) g⟩
 | map kvs=>
  simp only[cR,e];exact h
 | iter kvs seen=>
  simp only[cR,e];exact h
 | cap id' s N=>
  obtain ⟨h1,g',e',h2,h3⟩:=h;refine ⟨e.trans h1,g',e',?_,h3⟩;unfold upd;rw[if_neg hf];exact h2
 | pin id' g' t n=>
  obtain ⟨h1,h2,h3⟩:=h;refine ⟨e.trans h1,?_,h3⟩;unfold upd;rw[if_neg hf];exact h2
def St.drop (σ:St) (id:Nat):St:=⟨σ.tm.map (kill id),dT σ.hp id⟩
theorem Jx {v:Value} {x:AV} (h:Rd μ S w v x) (id:Nat) (g:Option Nat):Rd (upd μ id g) S w v (kill id x):=by
 unfold kill;split
 ·exact .any v
 ·rename_i hn;exact h.other (by simpa using hn) g
theorem Inv.drop (hi:Inv C μ S σ a w) (id:Nat) (hf:ez id σ.hp):Inv C (upd μ id none) S (σ.drop id) a w:=by
 refine ⟨by simp[St.drop,hi.size],hi.defers,λt x hx=>?_,λi b hb=>?_,λi g hg=>?_,λi j g h1 h2=>?_,hi.frm,hi.sb⟩
 ·simp only[St.drop,W2] at hx;cases e:σ.tm[t]? with
  | none=>rw[e] at hx;cases hx
  | some y=>
   rw[e] at hx;simp only[Option.map_some,gL] at hx;subst hx;exact Jx (hi.tm t y e) id none
 ·simp only[St.drop,bB] at hb;split at hb
  ·cases hb
  ·rename_i e;exact (hi.hp i b hb).other (λh=>e h.symm) (hf.get hb (λh=>e h.symm)) none
 ·unfold upd at hg;split at hg
  ·cases hg
  ·rename_i e;obtain ⟨⟨c,h1⟩,h2⟩:=hi.dom i g hg;exact ⟨⟨c,by simp only[St.drop,bB];rw[if_neg (λh=>e h.symm)];exact h1⟩,h2⟩
 ·unfold upd at h1 h2;split at h1
  ·cases h1
  ·split at h2
   ·cases h2
   ·exact hi.inj i j g h1 h2
def St.room (σ:St) (id:Nat):Prop×St:=
 match aa σ.hp id with
 | none=>(True,σ)
 | some _=>(ez id σ.hp,σ.drop id)
theorem nL (σ:St) (id:Nat):aa (σ.room id).2.hp id=none:=by
 unfold St.room;split
 ·assumption
 ·simp[St.drop,bB]
theorem Inv.room (hi:Inv C μ S σ a w) (id:Nat) (hp:(σ.room id).1):∃μ',Inv C μ' S (σ.room id).2 a w:=by
 unfold St.room at hp ⊢;split
 ·exact ⟨μ,hi⟩
 ·rename_i b hb;rw[hb] at hp;exact ⟨_,hi.drop id hp⟩
theorem lW (t:TypeId) (cs:Array Value):(newRow t cs).run P w=.ok ⟨w.heap.size,0,none⟩ (w.alloc (.cells cs t)):=rfl
theorem xq (μ:Nat->Option Nat) (S:Nat->Prop) (w:World) (id e s:Nat) (rows:List (List AV)) (cs:Array Value) (hs:cs.size=rows.length*s) (hrow:∀row,row∈rows->row.length=s)
  (h:∀(i:Nat) row,rows[i]? = some row->∀(j:Nat) x,row[j]? = some x->Rd μ S w (cs.getD (i*s+j) undef) x) (hn:μ id=none) (hS:∀b,S b->b<w.heap.size)
  (hd:∀i g,μ i=some g->g<w.heap.size):cR (upd μ id (some w.heap.size)) S (w.alloc (.cells cs e)) id (.cells e s rows):=by
 refine .inr ⟨w.heap.size,cs,by simp[upd],jg w _,by omega,hrow,λi row hi j x hx=>?_⟩;refine (h i row hi j x hx).mono (λb hb=>bb w _ b (hS b hb)) (λ_ h=>h) (λi' g hg=>?_) (λi' g hg=>aN (bb w _ g (hd i' g hg)));unfold upd;rw[if_neg Z8];exact hg
theorem xd (hi:Inv C μ S σ a w) {id t:Nat} (hf:aa σ.hp id=none) {v:Value} {xs:List AV} (hx:RdL μ S w v.cells xs) :
  ∃w',(Instr.box t v).run P w=.ok (.pointer (some ⟨w.heap.size,0,none⟩)) w'/\Inv C (upd μ id (some w.heap.size)) S ⟨σ.tm,(id,.cells t xs.length [xs])::σ.hp⟩ a w':=by
 refine ⟨w.alloc (.cells v.cells t),by simp[Instr.box,newVar,lW],?_⟩;refine hi.new id hf _ _ (xq μ S w id t xs.length [xs] v.cells (by simp[hx.1]) w8 (λi row hi' j x hj=>?_) (hi.fresh hf) (λb hb=>(hi.sb b hb).1) (λi g hg=>(hi.dom i g hg).2.2.2));cases i with
 | zero=>simp only[List.getElem?_cons_zero,gL] at hi';subst hi';simpa using hx.2 j x hj
 | succ i=>simp at hi'
theorem AP (hT:TabOK P T) (hi:Inv C μ S σ a w) {id t:Nat} (hf:aa σ.hp id=none) (ht:T.siz t≠0) :
  ∃w',(Instr.alloc t true (.tuple #[])).run P w=.ok (.pointer (some ⟨w.heap.size,0,none⟩)) w'/\Inv C (upd μ id (some w.heap.size)) S ⟨σ.tm,(id,.cells t (T.zer t).length [T.zer t])::σ.hp⟩ a w':=by
 obtain ⟨z,z1,_,z3,_⟩:=vb hT ht;obtain ⟨w',h1,h2⟩:=xd (P:=P) (t:=t) hi hf (z3 μ S w);refine ⟨w',?_,h2⟩;simp only[Instr.alloc,Sem.run_bind,z1,Result.andThen_ok];exact h1
theorem vu (hi:Inv C μ S σ a w) {id t:Nat} (hf:aa σ.hp id=none) :
  ∃w',(Instr.makeMap t none).run P w=.ok (.map (some w.heap.size)) w'/\Inv C (upd μ id (some w.heap.size)) S ⟨σ.tm,(id,.map [])::σ.hp⟩ a w':=by
 refine ⟨w.alloc (.map #[] 0),rfl,?_⟩;refine hi.new id hf _ _ ⟨w.heap.size,#[],0,λ_=>undef,by simp[upd],jg w _,⟨λe h=>by simp at h,λp h=>by simp at h,by simp,rfl,List.Pairwise.nil,λe h=>by simp at h,by simp⟩,λp h=>by simp at h⟩
def lY:List (List AV)->List (Nat×List AV)->List (List AV)
 | l,[]=>l
 | l,(j,xs)::r=>lY (l.set j xs) r
structure RdR (μ:Nat->Option Nat) (S:Nat->Prop) (w:World) (s:Nat) (cs:Array Value) (rows:List (List AV)):Prop where
 size:cs.size=rows.length*s
 len:∀row,row∈rows->row.length=s
 rd:∀(i:Nat) row,rows[i]? = some row->∀(j:Nat) x,row[j]? = some x->Rd μ S w (cs.getD (i*s+j) undef) x
theorem ru (hi:Inv C μ S σ a w) {e n:Nat} (hs:T.siz e≠0):∀(parts:List (Nat×Operand)) (p:Prop) (l:List (Nat×List AV)) (cs:Array Value) (rows:List (List AV)),
  lQ T σ e n parts=some (p,l)->p->rows.length=n->RdR μ S w (T.siz e) cs rows ->
  ∃cs',Instr.fill (λi=>some (i*T.siz e,T.siz e)) cs (parts.map λq=>(q.1,a.eval q.2))=some cs'/\RdR μ S w (T.siz e) cs' (lY rows l)
 | [],p,l,cs,rows,h,_,_,hr=>by
  simp only[lQ,gL,gM] at h;obtain ⟨_,rfl⟩:=h;exact ⟨cs,rfl,hr⟩
 | (k,o)::parts,p,l,cs,rows,h,hp,hn,hr=>by
  unfold lQ at h;split at h
  ·rename_i p' l' xs hrest hxs;simp only[gL,gM] at h;obtain ⟨rfl,rfl⟩:=h;obtain ⟨h1,h2,h3,h4,h5⟩:=hp;obtain ⟨c1,c2,c3⟩:=oW hxs h3 (hi.evS o h1);have hvs:(a.eval o).cells.size=T.siz e:=by rw[c1,h2]
   have hle:k*T.siz e+T.siz e<=cs.size:=by
    rw[hr.size,hn];have:=YJ (T.siz e) (Nat.succ_le_of_lt h4)
    rwa [Yy] at this
   obtain ⟨k1,k2⟩:=qq (k*T.siz e) (a.eval o).cells.toList 0 cs (by rw[Array.length_toList];omega);obtain ⟨cs',j1,j2⟩:=ru hi hs parts p' l' _ (rows.set k xs) hrest h5 (by simp[hn]) ⟨by rw[k1,hr.size];simp,λrow hrow=>by
     rcases Yg hrow with h | h
     ·exact hr.len row h
     ·rw[h,h2],λi row hi' j x hj=>by
     rw[k2];simp only[Array.length_toList,Nat.add_zero,hvs];rw[YM] at hi'
     by_cases ei:k=i
     ·subst ei;simp only[if_true,hn,h4] at hi';injection hi' with hi';subst hi'
      have hjl:j<T.siz e:=by
       by_cases h:j<T.siz e
       ·exact h
       ·rw[List.getElem?_eq_none z8] at hj;cases hj
      rw[if_pos z8,show k*T.siz e+j-k*T.siz e=j from by omega];have:=c3 j x hj
      rwa [Array.getD_eq_getD_getElem?,<-Array.getElem?_toList,<-List.getD_eq_getElem?_getD] at this
     ·rw[if_neg ei] at hi';have hjl:j<T.siz e:=by
       by_cases h:j<T.siz e
       ·exact h
       ·rw[List.getElem?_eq_none (by rw[hr.len row (W3 hi')];omega)] at hj;cases hj
      rw[if_neg (λhh=>ei (rS (i:=k) (j:=i*T.siz e+j-k*T.siz e) (i':=i) (j':=j) (s:=T.siz e) z8 hjl z8).1)];exact hr.rd i row hi' j x hj⟩
   refine ⟨cs',?_,j2⟩;simp only[List.map_cons];unfold Instr.fill;simp only[hvs,ne_eq,not_true_eq_false,decide_false,Yv,decide_eq_true_eq];rw[if_neg z8,<-Array.foldl_toList,Array.toList_zipIdx];exact j1
  ·cases h
theorem nP (hT:TabOK P T) {e:Nat} (n:Nat) (hs:T.siz e≠0):∃z,(∀w,(zeroValue e).run P w=.ok z w)/\z.cells.size=T.siz e /\
  (∀(μ:Nat->Option Nat) (S:Nat->Prop) (w:World),RdR μ S w (T.siz e) ((Array.range (n*T.siz e)).map (z.cells[· % z.cells.size]!)) (List.replicate n (T.zer e))):=by
 obtain ⟨z,z1,z2,z3,_⟩:=vb hT hs;refine ⟨z,z1,z2,λμ S w=>⟨by simp,λrow hrow=>?_,λi row hi j x hj=>?_⟩⟩
 ·rw[List.eq_of_mem_replicate hrow,<-(z3 μ S w).1,z2]
 ·have hin:i<n:=by
   by_cases h:i<n
   ·exact h
   ·rw[List.getElem?_eq_none k6] at hi;cases hi
  rw[Ys,if_pos hin] at hi;injection hi with hi;subst hi
  have hjl:j<T.siz e:=by
   by_cases h:j<T.siz e
   ·exact h
   ·rw[List.getElem?_eq_none (by rw[<-(z3 μ S w).1,z2];omega)] at hj;cases hj
  have hlt:i*T.siz e+j<n*T.siz e:=by
   have:=YJ (T.siz e) (Nat.succ_le_of_lt hin);rw[Yy] at this;omega
  have hmod:(i*T.siz e+j) % T.siz e=j:=by rw[Nat.mul_comm,Nat.mul_add_mod,Nat.mod_eq_of_lt hjl]
  have:=(z3 μ S w).2 j x hj;rw[Array.getD_eq_getD_getElem?] at this ⊢;have e2:((Array.range (n*T.siz e)).map (z.cells[· % z.cells.size]!))[i*T.siz e+j]? = some (z.cells[j]!):=by
   rw[Array.getElem?_map,Array.getElem?_range,if_pos hlt,Option.map_some,z2,hmod]
  rw[e2];have hj':j<z.cells.size:=by omega
  rw[YC hj'] at this;simpa[hj'] using this
def dx (T:Tab) (σ:St) (t n:Nat) (parts:List (Nat×Operand)):Option (Prop×TypeId×List (List AV)):=
 match T.und t with
 | .sl e=>
  match lQ T σ e n parts with
  | some (p,l)=>some (T.siz e≠0/\n*T.siz e<=2 ^ 24/\p,e,lY (List.replicate n (T.zer e)) l)
  | none=>none
 | _=>none
theorem nn:∀(l:List (Nat×List AV)) (rows:List (List AV)),(lY rows l).length=rows.length
 | [],_=>rfl
 | (j,xs)::r,rows=>by simp[lY,nn r]
theorem qV (hT:TabOK P T) (hi:Inv C μ S σ a w) {id t n:Nat} (hf:aa σ.hp id=none) {parts:Array (Nat×Operand)} {p:Prop} {e:TypeId} {rows:List (List AV)}
  (h:dx T σ t n parts.toList=some (p,e,rows)) (hp:p) :
  ∃w',(Instr.buildSlice t n (parts.map λ(i,o)=>(i,a.eval o))).run P w=.ok (.slice (some ⟨w.heap.size,0,none⟩) n n) w' /\
   Inv C (upd μ id (some w.heap.size)) S ⟨σ.tm,(id,.cells e (T.siz e) rows)::σ.hp⟩ a w'/\rows.length=n/\ag w' w.heap.size=some (e,n*T.siz e):=by
 unfold dx at h;split at h
 ·rename_i e' hu;split at h
  ·rename_i p' l hps;simp only[gL,gM] at h;obtain ⟨rfl,rfl,rfl⟩:=h;obtain ⟨h1,h2,h3⟩:=hp;have ht:=hT.und t;rw[hu] at ht;simp only[jX] at ht;obtain ⟨z,z1,z2,z3⟩:=nP hT n h1;have hz3:RdR μ S w (T.siz e') ((Array.range (n*T.siz e')).map ((if n*T.siz e'=0 then #[] else z.cells)[· % (if n*T.siz e'=0 then #[] else z.cells).size]!)) (List.replicate n (T.zer e')):=by
    by_cases h0:n*T.siz e'=0
    ·have hn:n=0:=by
      rcases Nat.mul_eq_zero.1 h0 with h | h
      ·exact h
      ·exact absurd h h1
     subst hn;exact ⟨by simp,λrow h=>by simp at h,λi row h=>by simp at h⟩
    ·rw[if_neg h0];exact z3 μ S w
   obtain ⟨cs',f1,f2⟩:=ru (T:=T) hi (e:=e') (n:=n) h1 parts.toList p' l _ _ hps h3 w8 hz3;have hl:(lY (List.replicate n (T.zer e')) l).length=n:=by rw[nn];simp
   refine ⟨w.alloc (.cells cs' e'),?_,?_,hl,?_⟩
   ·rw[show (parts.toList.map λq=>(q.1,a.eval q.2))=(parts.map λ(x:Nat×Operand)=>(x.1,a.eval x.2)).toList by simp] at f1;simp only[Instr.buildSlice,Sem.run_bind,run_underlying ht,Result.andThen_ok,bD hT h1];rw[if_neg z8]
    by_cases h0:n*T.siz e'=0
    ·simp only[h0,if_true] at f1 ⊢;simp only[Sem.run_pure,Result.andThen_ok,Sem.run_bind];rw[f1];rfl
    ·simp only[h0,if_false] at f1 ⊢;simp only[Sem.run_pure,Result.andThen_ok,Sem.run_bind,z1];rw[f1];rfl
   ·exact hi.new id hf _ _ (xq μ S w id e' (T.siz e') _ cs' f2.size f2.len f2.rd (hi.fresh hf) (λb hb=>(hi.sb b hb).1) (λi g hg=>(hi.dom i g hg).2.2.2))
   ·unfold ag;rw[jg];simp[f2.size,hl]
  ·cases h
 ·cases h
end
end Go.Eng
namespace Go.Eng
section
variable {P:Program} {T:Tab} {C:Ctx} {μ:Nat->Option Nat} {S:Nat->Prop} {σ:St} {a:Act} {w:World}
def mv (μ:Nat->Option Nat) (id d:Nat):Nat->Option Nat:=λi=>if i=d then μ id else if i=id then none else μ i
theorem Rd.Ad {v:Value} {x:AV} (h:Rd μ S w v x) {id d:Nat} (hn:id∉refs x) (hd:d=id\/μ d=none):Rd (mv μ id d) S w v x:=by
 have key:∀i g,μ i=some g->i≠id->mv μ id d i=some g:=λi g hg hi=>by
  unfold mv;split
  ·rename_i e;subst e
   rcases hd with rfl | hd
   ·exact hg
   ·rw[hd] at hg;cases hg
  ·first | exact hg | (rw[if_neg hi];exact hg)
 induction h with
 | any v=>exact .any v
 | pure h=>exact .pure h
 | agg cs cells hl hr ih=>exact .agg cs cells hl (λj x hx=>ih j x hx (λh=>hn QT))
 | tup vs xs hl hr ih=>exact .tup vs xs hl (λj x hx=>ih j x hx (λh=>hn QT))
 | fn f vals caps hl hr ih=>exact .fn f vals caps hl (λj x hx=>ih j x hx (λh=>hn QT))
 | ptr i size row off g' hg=>exact .ptr i size row off g' (key _ _ hg s9)
 | osl i size off len cap A hc h=>
  refine .osl i size off len cap A hc ?_
  rcases h with h | ⟨g',e,n,h1,h2,h3,h4⟩
  ·exact .inl h
  ·exact .inr ⟨g',e,n,key _ _ h1 s9,h2,h3,h4⟩
 | mp i g' hg=>exact .mp i g' (key _ _ hg s9)
 | exs i size off len cap g' e n hc hg hr hn'=>exact .exs i size off len cap g' e n hc (key _ _ hg s9) hr hn'
 | cndT v x h ih=>exact .cndT v x (ih (λh=>hn (by simpa[refs] using h)))
 | cndF x=>exact .cndF x
theorem cR.Ad {id d i j:Nat} {b:Blk} (h:cR μ S w i b) (hf:bo id b) (hd:d=id\/μ d=none) (hj:mv μ id d j=μ i):cR (mv μ id d) S w j b:=by
 cases b with
 | cells t s rows=>
  simp only[cR,hj]
  rcases h with h | ⟨g',c,h1,h2,h3,h4,h5⟩
  ·exact .inl h
  ·exact .inr ⟨g',c,h1,h2,h3,h4,λk row hk j x hx=>(h5 k row hk j x hx).Ad (ng hf row (W3 hk) x (W3 hx)) hd⟩
 | map kvs=>simp only[cR,hj];exact h
 | iter kvs seen=>simp only[cR,hj];exact h
 | cap id' s N=>
  obtain ⟨h1,g',e',h2,h3⟩:=h;refine ⟨hj.trans h1,g',e',?_,h3⟩;unfold mv;have hf:id'≠id:=hf
  by_cases e1:id'=d
  ·subst e1
   rcases hd with hd | hd
   ·exact absurd hd hf
   ·rw[hd] at h2;cases h2
  ·rw[if_neg e1,if_neg hf];exact h2
 | pin id' g' t n=>
  obtain ⟨h1,h2,h3⟩:=h;refine ⟨hj.trans h1,?_,h3⟩;unfold mv;have hf:id'≠id:=hf
  by_cases e1:id'=d
  ·subst e1
   rcases hd with hd | hd
   ·exact absurd hd hf
   ·rw[hd] at h2;cases h2
  ·rw[if_neg e1,if_neg hf];exact h2
theorem Inv.move (hi:Inv C μ S σ a w) {id d:Nat} {b:Blk} (hb:aa σ.hp id=some b) (hd:d=id\/aa σ.hp d=none) (hf:ez id σ.hp) (hbf:bo id b) :
  Inv C (mv μ id d) S ⟨σ.tm.map (kill id),(d,b)::dT σ.hp id⟩ a w:=by
 have hd':d=id\/μ d=none:=hd.imp (λh=>h) (λh=>hi.fresh h);refine ⟨by simp[hi.size],hi.defers,λt x hx=>?_,λi c hc=>?_,λi g hg=>?_,λi j g h1 h2=>?_,hi.frm,hi.sb⟩
 ·simp only[W2] at hx;cases e:σ.tm[t]? with
  | none=>rw[e] at hx;cases hx
  | some y=>
   rw[e] at hx;simp only[Option.map_some,gL] at hx;subst hx;unfold kill;split
   ·exact .any _
   ·rename_i hn;exact (hi.tm t y e).Ad (by simpa using hn) hd'
 ·simp only[aa,bB] at hc;split at hc
  ·rename_i e;injection hc with hc;subst hc e
   exact (hi.hp id b hb).Ad hbf hd' (by simp[mv])
  ·rename_i e;split at hc
   ·cases hc
   ·rename_i e';refine (hi.hp i c hc).Ad (hf.get hc (λh=>e' h.symm)) hd' ?_;unfold mv;rw[if_neg (λh=>e h.symm),if_neg (λh=>e' h.symm)]
 ·unfold mv at hg;split at hg
  ·rename_i e;obtain ⟨_,h2⟩:=hi.dom id g hg;exact ⟨⟨b,by simp[aa,e]⟩,h2⟩
  ·rename_i e;split at hg
   ·cases hg
   ·rename_i e';obtain ⟨⟨c,h1⟩,h2⟩:=hi.dom i g hg;exact ⟨⟨c,by simp only[aa,bB];rw[if_neg (λh=>e h.symm),if_neg (λh=>e' h.symm)];exact h1⟩,h2⟩
 ·unfold mv at h1 h2;split at h1
  ·split at h2
   ·simp_all
   ·split at h2
    ·cases h2
    ·rename_i e1 e2 e3;exact absurd (hi.inj _ _ _ h1 h2) (λh=>e3 h.symm)
  ·split at h1
   ·cases h1
   ·split at h2
    ·rename_i e1 e2 e3;exact absurd (hi.inj _ _ _ h2 h1) (λh=>e2 h.symm)
    ·split at h2
     ·cases h2
     ·exact hi.inj i j g h1 h2
theorem iy {id:Nat} {b:Blk}:∀{h:List (Nat×Blk)},ez id h->ez id (aG h id b)
 | [],_=>⟨λh=>absurd rfl h,trivial⟩
 | (i,c)::r,hf=>by
  simp only[aG];split
  ·exact ⟨λh=>absurd rfl h,hf.2⟩
  ·exact ⟨hf.1,iy hf.2⟩
theorem kK (id:Nat) (b:Blk):∀(h:List (Nat×Blk)),dT (aG h id b) id=dT h id
 | []=>by simp[aG,dT]
 | (i,c)::r=>by
  simp only[aG];split
  ·rename_i e;subst e;simp[dT]
  ·rename_i e;simp[dT,e,kK id b r]
theorem Inv.drew (hi:Inv C μ S σ a w):Inv C μ S σ a w.drew:=by
 have hz:∀(i g:Nat),μ i=some g->ag w.drew g=ag w g:=λ_ _ _=>rfl
 exact ⟨hi.size,hi.defers,λt x hx=>(hi.tm t x hx).mono (λ_ _=>rfl) (λ_ h=>h) (λ_ _ h=>h) hz,
  λi c h=>(hi.hp i c h).mono (λ_ _=>rfl) (λ_ h=>h) (λ_ _ h=>h) hz (λh=>h) (λ_ _=>rfl),hi.dom,hi.inj,
  ⟨hi.frm.os,hi.frm.tape,hi.frm.output,hi.frm.size,hi.frm.block⟩,hi.sb⟩
def cW (σ:St) (x:AV):Option (List (List AV)):=
 match x with
 | .sl rows=>some rows
 | .nils=>some []
 | .osl id s off len=>
  match aa σ.hp id with
  | some (.cells _ s' rows)=>if s=s' then some ((rows.drop off).take len) else none
  | _=>none
 | _=>none
structure Src (μ:Nat->Option Nat) (S:Nat->Prop) (w:World) (size:Nat) (v:Value) (rows:List (List AV)) (vs:List Value):Prop where
 form:∃A cap,v=.slice A rows.length cap/\(0<rows.length->∃g o,A=some ⟨g,o,none⟩/\∀(k:Nat) u,vs[k]? = some u->w.cell? ⟨g,o+k,none⟩=some u)
 len:vs.length=rows.length*size
 rlen:∀row,row∈rows->row.length=size
 rd:∀(i:Nat) row,rows[i]? = some row->∀(j:Nat) x,row[j]? = some x->Rd μ S w (vs.getD (i*size+j) undef) x
theorem iM {rows:List (List AV)} {i size:Nat} {row:List AV} (h:rows[i]? = some row):i*size+size<=rows.length*size:=by
 have hi:i<rows.length:=by
  by_cases h':i<rows.length
  ·exact h'
  ·rw[List.getElem?_eq_none z8] at h;cases h
 have:=YJ size (Nat.succ_le_of_lt hi)
 rwa [Yy] at this
theorem ma (hi:Inv C μ S σ a w) {v:Value} {x:AV} {rows:List (List AV)} {size:Nat} (h:cW σ x=some rows) (hv:Rd μ S w v x) (hs:∀row,row∈rows->row.length=size)
  (hlen:∀id s off len,x=.osl id s off len->rows.length=len):∃vs,Src μ S w size v rows vs:=by
 unfold cW at h;split at h
 ·injection h with h;subst h
  rename_i rows;obtain ⟨A,cap,size',g,off,vals,rfl,hc,hs',hA,hcell,hr⟩:=hv.gY.gY
  by_cases h0:rows=[]
  ·subst h0;exact ⟨[],⟨A,cap,rfl,λh=>by simp at h⟩,by simp,by simp,λi row h=>by simp at h⟩
  ·obtain ⟨row0,hrow0⟩:=List.exists_mem_of_ne_nil rows h0;have he:size'=size:=by rw[<-hs' row0 hrow0,hs row0 hrow0]
   subst he;refine ⟨(List.range (rows.length*size')).map λk=>vals (k / size') (k % size'),⟨A,cap,rfl,λhp=>?_⟩,by simp,hs,λi row hi' j x hx=>?_⟩
   ·obtain ⟨rfl,_⟩:=hA hp;refine ⟨g,off,rfl,λk u hu=>?_⟩;rw[W2] at hu
    by_cases hk:k<rows.length*size'
    ·rw[Yo hk] at hu;simp only[Option.map_some,gL] at hu;subst hu;have hsz:0<size':=by
      rcases Nat.eq_zero_or_pos size' with h | h
      ·subst h;simp at hk
      ·exact h
     have:=hcell (k / size') (k % size') (by rw[Nat.div_lt_iff_lt_mul hsz];exact hk) (Nat.mod_lt _ hsz)
     rwa [Nat.div_add_mod'] at this
    ·rw[List.getElem?_eq_none (by simpa using Nat.le_of_not_lt hk)] at hu;cases hu
   ·have hj:j<size':=by
     by_cases h:j<size'
     ·exact h
     ·rw[List.getElem?_eq_none WR] at hx;cases hx
    have hlt:=iM (size:=size') hi';have hsz:0<size':=by omega
    rw[List.getD_eq_getElem?_getD,W2,Yo z8];have e1:(i*size'+j) / size'=i:=by rw[Nat.mul_comm,Nat.mul_add_div hsz,Nat.div_eq_of_lt hj];omega
    have e2:(i*size'+j) % size'=j:=by rw[Nat.mul_comm,Nat.mul_add_mod,Nat.mod_eq_of_lt hj]
    simp only[Option.map_some,Option.getD_some,e1,e2];exact .pure (hr i row hi' j x hx)
 ·injection h with h;subst h
  obtain rfl:=hv.gm;exact ⟨[],⟨none,0,rfl,λh=>by simp at h⟩,by simp,by simp,λi row h=>by simp at h⟩
 ·rename_i id s off len;have hl:=hlen id s off len rfl;obtain ⟨A,cap,rfl,hc,hor⟩:=hv.bZ;split at h
  ·rename_i e s' R hb;split at h
   ·rename_i hss;subst hss;injection h with h;subst h
    rcases hor with ⟨h1,h2⟩ | ⟨g,e',n,h1,rfl,h3,h4⟩
    ·subst h1;simp only[List.take_zero] at hs hl ⊢;exact ⟨[],⟨A,cap,rfl,λh=>by simp at h⟩,by simp,by simp,λi row h=>by simp at h⟩
    ·rcases hi.hp id _ hb with ⟨_,k2⟩ | ⟨g',c,k1,k2,k3,k4,k5⟩
     ·rw[k2] at h1;cases h1
     ·rw[k1] at h1;injection h1 with h1;subst h1
      rw[ag,k2] at h3;simp only[gL,gM] at h3;obtain ⟨_,h3⟩:=h3
      by_cases h0:((R.drop off).take len)=[]
      ·rw[h0] at hl;refine ⟨[],⟨some ⟨g',off*s,none⟩,cap,by rw[h0,<-hl],λh=>by rw[h0] at h;simp at h⟩,by rw[h0];simp,by rw[h0];simp,λi row h=>by rw[h0] at h;simp at h⟩
      ·obtain ⟨row0,hrow0⟩:=List.exists_mem_of_ne_nil _ h0;have he:s=size:=by rw[<-hs row0 hrow0,k4 row0 (YY (YF hrow0))]
       subst he;have hle:(off+len)*s<=c.size:=by
        refine Yl (YJ s (by omega:off+len<=off+cap)) z8
       rw[Nat.add_mul] at hle;refine ⟨(List.range (len*s)).map λk=>c.getD (off*s+k) undef,⟨_,cap,by rw[hl],λ_=>⟨g',off*s,rfl,λk u hu=>?_⟩⟩,by simp[hl],hs,λi row hi' j x hx=>?_⟩
       ·rw[W2] at hu
        by_cases hk:k<len*s
        ·rw[Yo hk] at hu;simp only[Option.map_some,gL] at hu;subst hu;rw[cell_of k2,Array.getD_eq_getD_getElem?,YC z8];rfl
        ·rw[List.getElem?_eq_none (by simpa using Nat.le_of_not_lt hk)] at hu;cases hu
       ·have hj:j<s:=by
         by_cases h:j<s
         ·exact h
         ·rw[List.getElem?_eq_none WR] at hx;cases hx
        have hlt:=iM (size:=s) hi';rw[hl] at hlt;rw[List.getD_eq_getElem?_getD,W2,Yo z8];simp only[Option.map_some,Option.getD_some];rw[YU] at hi';split at hi'
        ·rw[List.getElem?_drop] at hi';have:=k5 (off+i) row hi' j x hx;rw[Nat.add_mul] at this
         rwa [<-Nat.add_assoc]
        ·cases hi'
   ·cases h
  ·cases h
 ·cases h
theorem vX (n:Nat):∀(r c:Nat),Builtin.growBy n r c<=max c (n+(n+768) / 4)
 | 0,c=>by unfold Builtin.growBy;omega
 | r+1,c=>by
  unfold Builtin.growBy;split
  ·omega
  ·have:=vX n r (c+(c+768) / 4);omega
theorem oD (need cap:Nat) (h:cap<need):Builtin.nextslicecap need cap<=2*need+768:=by
 unfold Builtin.nextslicecap;have:=vX need 4 cap;split
 ·omega
 ·split<;>omega
end
end Go.Eng
namespace Go.Eng
section
variable {P:Program} {T:Tab} {C:Ctx} {μ:Nat->Option Nat} {S:Nat->Prop} {σ:St} {a:Act} {w:World}
theorem jv {size:Nat} {v:Value} {rows:List (List AV)} {vs:List Value} (h:Src μ S w size v rows vs):(Builtin.firstCells size rows.length v).run P w=.ok vs.toArray w:=by
 obtain ⟨A,cap,rfl,hf⟩:=h.form
 by_cases h0:0<rows.length
 ·obtain ⟨g,o,rfl,hc⟩:=hf h0;have:=run_loadCells_list (P:=P) (w:=w) ⟨g,o,none⟩ vs (λj u hu=>by rw[add_plain];exact hc j u hu);rw[h.len] at this;simpa[Builtin.firstCells] using this
 ·have e:rows.length=0:=by omega
  have hv:vs=[]:=List.eq_nil_of_length_eq_zero (by rw[h.len,e];simp);subst hv;cases A with
  | none=>simp[Builtin.firstCells]
  | some ad=>simp[Builtin.firstCells,e,Go.loadCells,Go.loadCellsFrom]
theorem bh (w:World) (o:Obj):(w.drew.alloc o).heap[w.heap.size]? = some o:=jg w.drew o
theorem h_ (hT:TabOK P T) {t e ty:TypeId} (ht:P.underlying t=some (.slice e)) (hs:T.siz e≠0) (hb:T.byt e≠0) {A:Option Addr} {len cap:Nat} {v:Value} {R rows:List (List AV)} {olds vs:List Value}
  (ho:Src μ S w (T.siz e) (.slice A len cap) R olds) (hx:Src μ S w (T.siz e) v rows vs) (hlen:R.length=len) (hg:¬len+rows.length<=cap) (hsz:(2*(len+rows.length)+768)*T.byt e<=281474976710656) :
  ∃(nc:Nat) (z:Array Value),len+rows.length<=nc/\z.size=(nc-(len+rows.length))*T.siz e/\(Builtin.append_ #[t,t] ty #[.slice A len cap,v]).run P w =
   .ok (.slice (some ⟨w.heap.size,0,none⟩) (len+rows.length) nc) (w.drew.alloc (.cells (olds.toArray++vs.toArray++z) e)):=by
 obtain ⟨i,hi,hi1,hi2,z,hz,_,hzs,_⟩:=hT.siz e hs;obtain ⟨B,cap',rfl,_⟩:=hx.form;have hn:=oD (len+rows.length) cap z8;have hfit:Builtin.nextslicecap (len+rows.length) cap*i.bytes<=281474976710656:=by
  rw[hi2];exact Yl (YJ _ hn) hsz
 have h1:=jv (P:=P) ho;rw[hlen] at h1;have hw1:Src μ S w.drew (T.siz e) (.slice A len cap) R olds:=⟨ho.form,ho.len,ho.rlen,λi row hi j x hx=>(ho.rd i row hi j x hx).mono (λ_ _=>rfl) (λ_ h=>h) (λ_ _ h=>h) (λ_ _ _=>rfl)⟩;have hw2:Src μ S w.drew (T.siz e) (.slice B rows.length cap') rows vs:=⟨hx.form,hx.len,hx.rlen,λi row hi j x h=>(hx.rd i row hi j x h).mono (λ_ _=>rfl) (λ_ h=>h) (λ_ _ h=>h) (λ_ _ _=>rfl)⟩;have g1:=jv (P:=P) hw1;have g2:=jv (P:=P) hw2;rw[hlen] at g1;refine ⟨grownCap w (len+rows.length) cap e,Builtin.zeroCells z.cells (grownCap w (len+rows.length) cap e-(len+rows.length)),grownCap_ge w _ _ _,by simp[Builtin.zeroCells,hzs],?_⟩;have hb':i.bytes≠0:=by rw[hi2];exact hb
 simp[Builtin.append_,run_underlying ht,sizeOf,typeInfo,hi,hi1,Builtin.lenOf,hg,hb',show ¬281474976710656<Builtin.nextslicecap (len+rows.length) cap*i.bytes by omega,g1,g2,Question.forced,zeroValue,hz,lW,grownCap];rw[<-Array.append_assoc];simp
theorem ik (hT:TabOK P T) {t e ty:TypeId} (ht:P.underlying t=some (.slice e)) (hs:T.siz e≠0) {A:Option Addr} {len cap:Nat} {v:Value} {rows:List (List AV)} {vs:List Value}
  (hx:Src μ S w (T.siz e) v rows vs) (hg:len+rows.length<=cap) :
  (Builtin.append_ #[t,t] ty #[.slice A len cap,v]).run P w =
   (((match A with | some a=>storeCells (a.add (len*T.siz e)) vs | none=>pure ()):Sem Unit).run P w).andThen (λ_ w'=>.ok (.slice A (len+rows.length) cap) w'):=by
 obtain ⟨i,hi,hi1,hi2,z,hz,_,hzs,_⟩:=hT.siz e hs;have g2:=jv (P:=P) hx;obtain ⟨B,cap',rfl,_⟩:=hx.form;cases A<;>simp[Builtin.append_,run_underlying ht,sizeOf,typeInfo,hi,hi1,Builtin.lenOf,hg,g2]
def ek (rows:List (List AV)):Bool:=rows.all λrow=>row.all AV.leaf
def rowsOf (s:Nat) (rows:List (List AV)):Prop:=∀row,row∈rows->row.length=s
def jT:AV->Option Nat
 | .osl id _ _ _=>some id
 | _=>none
def fz (T:Tab) (σ:St) (d:Nat) (t:TypeId) (x y:AV):Option (Prop×St×AV):=
 match T.und t,cW σ y with
 | .sl e,some rows=>
  match x with
  | .nils=>
   some (T.siz e≠0/\T.byt e≠0/\rowsOf (T.siz e) rows/\(∀id s off len,y=.osl id s off len->rows.length=len)/\ek rows=true/\(2*(0+rows.length)+768)*T.byt e<=281474976710656 /\
     aa σ.hp d=none,
    ⟨σ.tm,(d,.cells e (T.siz e) rows)::σ.hp⟩,.osl d (T.siz e) 0 (0+rows.length))
  | .osl id s 0 len=>
   match aa σ.hp id with
   | some (.cells e' s' R)=>
    if s=T.siz e/\s'=s/\e'=e then
     some (T.siz e≠0/\T.byt e≠0/\rowsOf (T.siz e) rows/\(∀id s off len,y=.osl id s off len->rows.length=len)/\ek rows=true/\(2*(len+rows.length)+768)*T.byt e<=281474976710656 /\
       (d=id\/aa σ.hp d=none)/\jT y≠some id/\len<=R.length/\ez id σ.hp/\bo id (.cells e (T.siz e) (R.take len++rows)),
      ⟨σ.tm.map (kill id),(d,.cells e (T.siz e) (R.take len++rows))::dT σ.hp id⟩,.osl d (T.siz e) 0 (len+rows.length))
    else none
   | _=>none
  | _=>none
 | _,_=>none
theorem q_ {size:Nat} {v:Value} {rows:List (List AV)} {vs:List Value} (h:Src μ S w size v rows vs) (hl:ek rows=true):∀u,u∈vs->u.oneCell'=true:=by
 intro u hu;obtain ⟨k,hk,rfl⟩:=List.mem_iff_getElem.1 hu;have hlen:=h.len;have hsz:0<size:=by
  rcases Nat.eq_zero_or_pos size with h' | h'
  ·subst h';omega
  ·exact h'
 have hi:k / size<rows.length:=by rw[Nat.div_lt_iff_lt_mul hsz];omega
 have hrow:rows[k / size]? = some rows[k / size]:=Wz hi;have hm:=Nat.mod_lt k hsz;have hrl:rows[k / size].length=size:=h.rlen _ (W3 hrow);have hx:rows[k / size][k % size]? = some (rows[k / size][k % size]'z8):=Wz z8;have:=h.rd _ _ hrow _ _ hx;rw[Nat.div_add_mod',List.getD_eq_getElem?_getD,Wz hk] at this;exact this.leaf (List.all_eq_true.1 (List.all_eq_true.1 hl _ (W3 hrow)) _ (W3 hx))
theorem jo {s:Nat} {R rows:List (List AV)} {olds vs:List Value} {cs:Array Value} (hR:olds.length=R.length*s) (hRl:rowsOf s R) (hrl:rowsOf s rows)
  (h1:∀(i:Nat) row,R[i]? = some row->∀(j:Nat) x,row[j]? = some x->Rd μ S w (olds.getD (i*s+j) undef) x)
  (h2:∀(i:Nat) row,rows[i]? = some row->∀(j:Nat) x,row[j]? = some x->Rd μ S w (vs.getD (i*s+j) undef) x) (hvs:vs.length=rows.length*s)
  (hc:∀k,k<olds.length+vs.length->cs.getD k undef=(olds++vs).getD k undef) :
  ∀(i:Nat) row,(R++rows)[i]? = some row->∀(j:Nat) x,row[j]? = some x->Rd μ S w (cs.getD (i*s+j) undef) x:=by
 intro i row hi j x hx
 by_cases h:i<R.length
 ·rw[YP h] at hi;have hj:j<s:=by
   by_cases h':j<s
   ·exact h'
   ·rw[List.getElem?_eq_none (by rw[hRl row (W3 hi)];omega)] at hx;cases hx
  have hlt:=iM (size:=s) hi;rw[hc _ z8,List.getD_eq_getElem?_getD,YP z8,<-List.getD_eq_getElem?_getD];exact h1 i row hi j x hx
 ·rw[YO z8] at hi;have hj:j<s:=by
   by_cases h':j<s
   ·exact h'
   ·rw[List.getElem?_eq_none (by rw[hrl row (W3 hi)];omega)] at hx;cases hx
  have hlt:=iM (size:=s) hi;have e:i*s+j=R.length*s+((i-R.length)*s+j):=by
   have:i*s=R.length*s+(i-R.length)*s:=by rw[<-Nat.add_mul];congr 1;omega
   omega
  rw[hc _ z8,List.getD_eq_getElem?_getD,YO z8,show i*s+j-olds.length=(i-R.length)*s+j from by omega,<-List.getD_eq_getElem?_getD];exact h2 _ row hi j x hx
theorem yw (hT:TabOK P T) (hi:Inv C μ S σ a w) {d:Nat} {t ty:TypeId} {x y r:AV} {vx vy:Value} {p:Prop} {σ':St} (h:fz T σ d t x y=some (p,σ',r)) (hp:p)
  (hvx:Rd μ S w vx x) (hvy:Rd μ S w vy y) :
  ∃u w' μ',(Builtin.append_ #[t,t] ty #[vx,vy]).run P w=.ok u w'/\Inv C μ' S σ' a w'/\Rd μ' S w' u r:=by
 unfold fz at h;split at h
 ·rename_i e rows hu hsrc;have ht:=hT.und t;rw[hu] at ht;simp only[jX] at ht;split at h
  ·-- onto nil
   simp only[gL,gM] at h;obtain ⟨rfl,rfl,rfl⟩:=h;obtain ⟨hs,hb,hrl,hlen,hleaf,hsz,hfree⟩:=hp;obtain rfl:=hvx.gm;obtain ⟨vs,hvs⟩:=ma hi hsrc hvy hrl hlen
   by_cases h0:rows.length=0
   ·have hr:=ik (ty:=ty) (A:=none) (len:=0) (cap:=0) hT ht hs hvs z8;simp only[Sem.run_pure,Result.andThen_ok] at hr;have hrows:rows=[]:=List.eq_nil_of_length_eq_zero h0;subst hrows;have hn:=hi.fresh hfree;refine ⟨_,w,μ,hr,⟨hi.size,hi.defers,hi.tm,λi b hb=>?_,λi g hg=>?_,hi.inj,hi.frm,hi.sb⟩,.osl d _ 0 _ 0 none w8 (.inl ⟨by simp,rfl⟩)⟩
    ·simp only[aa] at hb;split at hb
     ·rename_i e';injection hb with hb;subst hb e';exact .inl ⟨rfl,hn⟩
     ·exact hi.hp i b hb
    ·obtain ⟨⟨c,h1⟩,h2⟩:=hi.dom i g hg;refine ⟨⟨c,?_⟩,h2⟩;simp only[aa];rw[if_neg Z8];exact h1
   ·have ho:Src μ S w (T.siz e) (.slice none 0 0) [] []:=⟨⟨none,0,rfl,λh=>by simp at h⟩,by simp,by simp,λi row h=>by simp at h⟩;obtain ⟨nc,z,h1,h2,h3⟩:=h_ (ty:=ty) hT ht hs hb ho hvs rfl z8 hsz;have hi1:=hi.drew;have hm:∀{v x},Rd μ S w v x->Rd μ S w.drew v x:=λh=>h.mono (λ_ _=>rfl) (λ_ h=>h) (λ_ _ h=>h) (λ_ _ _=>rfl)
    have hcs:(#[]++vs.toArray++z).size=rows.length*T.siz e+z.size:=by simp[hvs.len]
    refine ⟨_,_,_,h3,hi1.new d hfree _ (.cells e (T.siz e) rows) (.inr ⟨w.heap.size,_,by simp[upd],bh w _,by simp[hvs.len],hrl,λi row hi' j x hx=>?_⟩),?_⟩
    ·have hlt:=iM (size:=T.siz e) hi';have hj:j<T.siz e:=by
      by_cases h:j<T.siz e
      ·exact h
      ·rw[List.getElem?_eq_none WM] at hx;cases hx
     have:=hvs.rd i row hi' j x hx;have e2:(#[]++vs.toArray++z).getD (i*T.siz e+j) undef=vs.getD (i*T.siz e+j) undef:=by
      rw[Array.getD_eq_getD_getElem?,List.getD_eq_getElem?_getD];simp only[Array.empty_append];rw[Yh (by simp[hvs.len];omega)];simp
     rw[show (List.toArray []++vs.toArray++z)=(#[]++vs.toArray++z) from rfl,e2];exact (hm this).mono (λb hb=>bb _ _ b (hi1.sb b hb).1) (λ_ h=>h) (λi' g hg=>by
      unfold upd;rw[if_neg WN];exact hg) (λi' g hg=>aN (bb _ _ g (hi1.dom i' g hg).2.2.2))
    ·refine .osl d _ 0 _ nc _ h1 (.inr ⟨w.heap.size,e,_,by simp[upd],by simp,?_,rfl⟩);unfold ag;rw[bh];simp only[gL,gM,true_and];simp only[Array.size_append,List.size_toArray,List.length_nil,hvs.len,h2,Yc,<-Nat.add_mul]
     congr 1
     omega
  ·-- onto what is held
   rename_i id s len;split at h
   ·rename_i e' s' R hb0;split at h
    ·rename_i hcond;obtain ⟨rfl,rfl,rfl⟩:=hcond;simp only[gL,gM] at h;obtain ⟨rfl,rfl,rfl⟩:=h;obtain ⟨hs,hb,hrl,hlen,hleaf,hsz,hd,hid,hR,hfree,hbf⟩:=hp;obtain ⟨vs,hvs⟩:=ma hi hsrc hvy hrl hlen;have hRl:rowsOf (T.siz e') (R.take len):=by
      rcases hi.hp id _ hb0 with ⟨rfl,_⟩ | ⟨g,c,_,_,_,k4,_⟩
      ·intro row hrow;simp at hrow
      ·exact λrow hrow=>k4 row (YF hrow)
     have hRt:(R.take len).length=len:=by simp;omega
     obtain ⟨olds,ho⟩:=ma hi (x:=.osl id (T.siz e') 0 len) (rows:=R.take len) (size:=T.siz e') (by simp[cW,hb0]) hvx hRl (λ_ _ _ _ h=>by injection h with _ _ _ h;rw[hRt,h]);have hdd:d=id\/μ d=none:=hd.imp (λh=>h) (λh=>hi.fresh h);obtain ⟨A,cap,rfl,hc,hor⟩:=hvx.bZ
     by_cases hroom:len+rows.length<=cap
     ·have hr:=ik (ty:=ty) (A:=A) (len:=len) (cap:=cap) hT ht hs hvs hroom
      rcases hor with ⟨h1,h2⟩ | ⟨g,e2,n,h1,rfl,h3,h4⟩
      ·-- nothing comes onto nothing
       have h0:rows=[]:=List.eq_nil_of_length_eq_zero z8;subst h0 h1 h2;have hv0:vs=[]:=List.eq_nil_of_length_eq_zero (by rw[hvs.len];simp);subst hv0;have hr':(Builtin.append_ #[t,t] ty #[.slice A 0 0,vy]).run P w=.ok (.slice A 0 0) w:=by
        rw[hr];cases A<;>simp[storeCells]
       have hi0:Inv C μ S ⟨σ.tm,aG σ.hp id (.cells e' (T.siz e') (R.take 0++[]))⟩ a w:=by
        refine ⟨hi.size,hi.defers,hi.tm,λi b hb=>?_,λi q hq=>?_,hi.inj,hi.frm,hi.sb⟩
        ·rw[ai] at hb;split at hb
         ·rename_i e3;injection hb with hb;subst hb e3
          rcases hi.hp id _ hb0 with ⟨_,k⟩ | ⟨g,c,k1,k2,_⟩
          ·exact .inl ⟨by simp,k⟩
          ·exact .inr ⟨g,c,k1,k2,by simp,by simp,λi row h=>by simp at h⟩
         ·exact hi.hp i b hb
        ·obtain ⟨⟨c,k1⟩,k2⟩:=hi.dom i q hq;refine ⟨?_,k2⟩;rw[ai];split
         ·exact ⟨_,rfl⟩
         ·exact ⟨c,k1⟩
       have hfree':ez id (aG σ.hp id (.cells e' (T.siz e') (R.take 0++[]))):=iy hfree;have:=hi0.move (id:=id) (d:=d) (b:=.cells e' (T.siz e') (R.take 0++[])) (by rw[ai];simp) (hd.imp (λh=>h) (λh=>by
        rw[ai];split
        ·rename_i e4;subst e4;rw[hb0] at h;cases h
        ·exact h)) hfree' hbf
       refine ⟨_,w,mv μ id d,hr',?_,.osl d _ 0 _ 0 A w8 (.inl ⟨by simp,rfl⟩)⟩;simp only[kK] at this;exact this
      ·-- in place
       rcases hi.hp id _ hb0 with ⟨_,k⟩ | ⟨g',c,k1,k2,k3,k4,k5⟩
       ·rw[k] at h1;cases h1
       ·rw[k1] at h1;injection h1 with h1;subst h1
        rw[ag,k2] at h3;simp only[gL,gM] at h3;obtain ⟨rfl,rfl⟩:=h3;have hcs:(len+rows.length)*T.siz e'<=c.size:=Yl (YJ _ z8) (Nat.le_of_eq h4);rw[Nat.add_mul] at hcs;obtain ⟨w',r1,r2,r3,r4,r5,r6,c',r7,r8,r9⟩:=eY (P:=P) g' (len*T.siz e') e' vs 0 w c k2 (q_ hvs hleaf) (by rw[hvs.len];omega);have hr':(Builtin.append_ #[t,t] ty #[.slice (some ⟨g',0*T.siz e',none⟩) len cap,vy]).run P w=.ok (.slice (some ⟨g',0*T.siz e',none⟩) (len+rows.length) cap) w':=by
         rw[hr];simp only[Nat.zero_mul,add_plain,Yc,r1,Result.andThen_ok]
        have hrs:ag w' g'=ag w g':=by simp[ag,r7,k2,r8]
        have hS:¬S g':=(hi.dom id g' k1).2.2.1;have hw:aH S w w':=λb hb=>r6 b Qb
        have hz':∀i q,μ i=some q->ag w' q=ag w q:=λi q _=>by
         by_cases e:q=g'
         ·subst e;exact hrs
         ·exact aN (r6 q e)
        have hmono:∀{v x},Rd μ S w v x->Rd μ S w' v x:=λh=>h.mono hw (λ_ h=>h) (λ_ _ h=>h) hz'
        have hRlen:len*T.siz e'<=R.length*T.siz e':=YJ _ hR;have hi0:Inv C μ S ⟨σ.tm,aG σ.hp id (.cells e' (T.siz e') (R.take len++rows))⟩ a w':=
         hi.write id g' k1 r2 r3 r4 r5 r6 hrs _ (.inr ⟨g',c',k1,r7,by rw[List.length_append,hRt,Nat.add_mul,r8];omega,λrow hrow=>by
           rcases List.mem_append.1 hrow with h | h
           ·exact hRl row h
           ·exact hrl row h,
          jo (olds:=(List.range (len*T.siz e')).map λk=>c.getD k undef) (vs:=vs) (by simp[hRt]) hRl hrl (λi row hi' j x hx=>by
            have hlt:=iM (size:=T.siz e') hi';rw[hRt] at hlt;have hj:j<T.siz e':=by
             by_cases h:j<T.siz e'
             ·exact h
             ·rw[List.getElem?_eq_none WO] at hx;cases hx
            rw[List.getD_eq_getElem?_getD,W2,Yo z8];rw[YU] at hi';split at hi'
            ·exact hmono (k5 i row hi' j x hx)
            ·cases hi') (λi row hi' j x hx=>hmono (hvs.rd i row hi' j x hx)) hvs.len (λk hk=>by
           simp only[List.length_map,List.length_range] at hk;rw[r9]
           by_cases hkl:k<len*T.siz e'
           ·rw[if_neg z8,List.getD_eq_getElem?_getD,YP Wl,W2,Yo hkl];rfl
           ·rw[if_pos z8,List.getD_eq_getElem?_getD,List.getD_eq_getElem?_getD,YO Wl];simp)⟩)
        have hfree':ez id (aG σ.hp id (.cells e' (T.siz e') (R.take len++rows))):=iy hfree;have:=hi0.move (id:=id) (d:=d) (b:=.cells e' (T.siz e') (R.take len++rows)) (by rw[ai];simp) (hd.imp (λh=>h) (λh=>by
         rw[ai];split
         ·rename_i e4;subst e4;rw[hb0] at h;cases h
         ·exact h)) hfree' hbf
        rw[kK] at this;refine ⟨_,w',_,hr',this,.osl d _ 0 _ cap _ hroom (.inr ⟨g',e',c.size,?_,rfl,by simp[ag,r7,r8],h4⟩)⟩;simp[mv,k1]
     ·-- a new block
      obtain ⟨nc,z,h1,h2,h3⟩:=h_ (ty:=ty) hT ht hs hb ho hvs hRt hroom hsz;have hi1:=(hi.drop id hfree).drew;have hfr:aa (σ.drop id).hp d=none:=by
       simp only[St.drop,bB];split
       ·rfl
       ·rename_i e4
        rcases hd with rfl | hd
        ·exact absurd rfl e4
        ·exact hd
      have hnod:upd μ id none d=none:=hi1.fresh hfr;have hm:∀{v x},Rd μ S w v x->id∉refs x->Rd (upd μ id none) S w.drew v x:=λh hn=>
       (h.other hn none).mono (λ_ _=>rfl) (λ_ h=>h) (λ_ _ h=>h) (λ_ _ _=>rfl)
      have hno:=ng hbf;refine ⟨_,_,_,h3,hi1.new d hfr _ (.cells e' (T.siz e') (R.take len++rows)) (.inr ⟨w.heap.size,_,by simp[upd],bh w _,by simp[ho.len,hvs.len,hRt,Nat.add_mul],λrow hrow=>by
           rcases List.mem_append.1 hrow with h | h
           ·exact hRl row h
           ·exact hrl row h,?_⟩),?_⟩
      ·have hup:∀{v x},Rd (upd μ id none) S w.drew v x ->
         Rd (upd (upd μ id none) d (some w.heap.size)) S (World.alloc w.drew (.cells (olds.toArray++vs.toArray++z) e')) v x:=λh=>
        h.mono (λb hb=>bb _ _ b (hi1.sb b hb).1) (λ_ h=>h) (λi' g hg=>by
         show (if i'=d then some w.heap.size else upd μ id none i')=some g
         rw[if_neg Qr];exact hg) (λi' g hg=>aN (bb _ _ g (hi1.dom i' g hg).2.2.2))
       have key:=jo (μ:=upd μ id none) (S:=S) (w:=w.drew) (R:=R.take len) (rows:=rows) (cs:=olds.toArray++vs.toArray++z) (s:=T.siz e') ho.len hRl hrl
        (λi row hi' j x hx=>hm (ho.rd i row hi' j x hx) (hno row (YQ _ (W3 hi')) x (W3 hx)))
        (λi row hi' j x hx=>hm (hvs.rd i row hi' j x hx) (hno row (YB _ (W3 hi')) x (W3 hx))) hvs.len (λk hk=>by
         rw[Array.getD_eq_getD_getElem?,List.getD_eq_getElem?_getD,Yh Z4];simp[List.append_toArray])
       exact λi row hi' j x hx=>hup (key i row hi' j x hx)
      ·refine .osl d _ 0 _ nc _ h1 (.inr ⟨w.heap.size,e',_,by simp[upd],by simp,?_,rfl⟩);unfold ag;rw[bh];simp only[gL,gM,true_and];simp only[Array.size_append,List.size_toArray,ho.len,hvs.len,hRt,h2,Yc,<-Nat.add_mul]
       congr 1
       omega
    ·cases h
   ·cases h
  ·cases h
 ·cases h
end
end Go.Eng
namespace Go.Eng
section
variable {P:Program} {T:Tab} {C:Ctx} {μ:Nat->Option Nat} {S:Nat->Prop} {σ:St} {a:Act} {w:World}
theorem Inv.IZ (hi:Inv C μ S σ a w) {H:List (Nat×Blk)} (h:∀id,aa H id=aa σ.hp id):Inv C μ S ⟨σ.tm,H⟩ a w:=
 ⟨hi.size,hi.defers,hi.tm,λid b hb=>hi.hp id b ((h id).symm.trans hb),λid g hg=>by
  obtain ⟨⟨b,k1⟩,k2⟩:=hi.dom id g hg;exact ⟨⟨b,(h id).trans k1⟩,k2⟩,hi.inj,hi.frm,hi.sb⟩
def aZ (rows:List (List AV)) (off:Nat) (new:List (List AV)):List (List AV):=rows.take off++new++rows.drop (off+new.length)
theorem ej {rows new:List (List AV)} {off:Nat} (h:off+new.length<=rows.length):(aZ rows off new).length=rows.length:=by
 simp[aZ];omega
theorem pE {rows new:List (List AV)} {off:Nat} (h:off+new.length<=rows.length) (i:Nat) :
  (aZ rows off new)[i]? = if off<=i/\i<off+new.length then new[i-off]? else rows[i]?:=by
 unfold aZ;have hl:(rows.take off).length=off:=by simp;omega
 by_cases h1:i<off
 ·rw[if_neg z8,List.append_assoc,YP z8,YU,if_pos h1]
 ·by_cases h2:i<off+new.length
  ·rw[if_pos z8,List.append_assoc,YO z8,hl,YP z8]
  ·rw[if_neg z8,YO k6,List.getElem?_drop]
   congr 1
   simp;omega
theorem mb (hi:Inv C μ S σ a w) {id e s off g:Nat} {rows new:List (List AV)} {vs:List Value} (hb:aa σ.hp id=some (.cells e s rows)) (hg:μ id=some g)
  (hoff:off+new.length<=rows.length) (hl:vs.length=new.length*s) (hrl:∀row,row∈new->row.length=s) (h1:∀u,u∈vs->u.oneCell'=true)
  (hr:∀(i:Nat) row,new[i]? = some row->∀(j:Nat) x,row[j]? = some x->Rd μ S w (vs.getD (i*s+j) undef) x) :
  ∃w',(storeCells ⟨g,off*s,none⟩ vs).run P w=.ok () w'/\Inv C μ S ⟨σ.tm,aG σ.hp id (.cells e s (aZ rows off new))⟩ a w':=by
 rcases hi.hp id _ hb with ⟨_,k⟩ | ⟨g',c,k1,k2,k3,k4,k5⟩
 ·rw[k] at hg;cases hg
 ·rw[k1] at hg;injection hg with hg;subst hg
  have hle:(off+new.length)*s<=rows.length*s:=YJ _ hoff;rw[Nat.add_mul] at hle;obtain ⟨w',r1,r2,r3,r4,r5,r6,c',r7,r8,r9⟩:=eY (P:=P) g' (off*s) e vs 0 w c k2 h1 (by rw[hl];omega);refine ⟨w',r1,?_⟩;have hrs:ag w' g'=ag w g':=by simp[ag,r7,k2,r8]
  have hS:¬S g':=(hi.dom id g' k1).2.2.1;have hw:aH S w w':=λb hb=>r6 b Qb
  have hz':∀i q,μ i=some q->ag w' q=ag w q:=λi q _=>by
   by_cases e:q=g'
   ·subst e;exact hrs
   ·exact aN (r6 q e)
  have hmono:∀{v x},Rd μ S w v x->Rd μ S w' v x:=λh=>h.mono hw (λ_ h=>h) (λ_ _ h=>h) hz'
  refine hi.write id g' k1 r2 r3 r4 r5 r6 hrs _ (.inr ⟨g',c',k1,r7,by rw[ej hoff,r8];exact k3,λq hq=>?_,λi q hq j y hy=>?_⟩)
  ·obtain ⟨i,hi'⟩:=W9 hq;rw[pE hoff] at hi';split at hi'
   ·exact hrl q (W3 hi')
   ·exact k4 q (W3 hi')
  ·rw[pE hoff] at hq;rw[r9];split at hq
   ·rename_i hin;have hj:j<s:=by
     by_cases h:j<s
     ·exact h
     ·rw[List.getElem?_eq_none (by rw[hrl q (W3 hq)];omega)] at hy;cases hy
    have hlt:=iM (size:=s) hq;have e1:i*s+j=off*s+((i-off)*s+j):=by
     rw[<-Nat.add_assoc,<-Nat.add_mul,show off+(i-off)=i from by omega]
    rw[if_pos z8,show i*s+j-(off*s+0)=(i-off)*s+j from by omega];exact hmono (hr _ q hq j y hy)
   ·rename_i hout;have hj:j<s:=by
     by_cases h:j<s
     ·exact h
     ·rw[List.getElem?_eq_none (by rw[k4 q (W3 hq)];omega)] at hy;cases hy
    have hk:¬(off*s+0<=i*s+j/\i*s+j<off*s+0+vs.length):=by
     rw[hl]
     by_cases h:i<off
     ·have:=YJ s (show i+1<=off by omega);rw[Yy] at this;omega
     ·have:=YJ s (show off+new.length<=i by omega);rw[Nat.add_mul] at this;omega
    rw[if_neg hk];exact hmono (k5 i q hq j y hy)
def oY (T:Tab) (σ:St) (t:TypeId) (x:AV):Option (Prop×List (Nat×Blk)):=
 match T.und t,x with
 | .sl _,.nils=>some (True,σ.hp)
 | .sl e,.osl id s off len=>
  match aa σ.hp id with
  | some (.cells e' s' rows)=>
   if s'=s then some (T.siz e=s/\s≠0/\(T.zer e).all AV.leaf=true/\off+len<=rows.length,aG σ.hp id (.cells e' s' (aZ rows off (List.replicate len (T.zer e)))))
   else none
  | _=>none
 | _,_=>none
theorem wa {σ:St} {id:Nat} {b:Blk} (hb:aa σ.hp id=some b):∀i,aa (aG σ.hp id b) i=aa σ.hp i:=λi=>by
 rw[ai];split
 ·rename_i e;subst e;exact hb.symm
 ·rfl
theorem pF (rows:List (List AV)) (off:Nat):aZ rows off []=rows:=by simp[aZ]
theorem AR (hT:TabOK P T) (hi:Inv C μ S σ a w) {t ty:TypeId} {v:Value} {x:AV} {p:Prop} {hp':List (Nat×Blk)} (h:oY T σ t x=some (p,hp')) (hp:p) (hv:Rd μ S w v x) :
  ∃w',(Builtin.clear_ #[t] ty #[v]).run P w=.ok (.tuple #[]) w'/\Inv C μ S ⟨σ.tm,hp'⟩ a w':=by
 unfold oY at h;have ht:=hT.und t;split at h
 ·rename_i e hu;rw[hu] at ht;simp only[jX] at ht;simp only[gL,gM] at h;obtain ⟨_,rfl⟩:=h;obtain rfl:=hv.gm;exact ⟨w,by simp[Builtin.clear_,run_underlying ht],hi⟩
 ·rename_i e id s off len hu;rw[hu] at ht;simp only[jX] at ht;split at h
  ·rename_i e' s' rows hb;split at h
   ·rename_i hss;subst hss;simp only[gL,gM] at h;obtain ⟨rfl,rfl⟩:=h;obtain ⟨hz,hz0,hleaf,hle⟩:=hp;subst hz;obtain ⟨A,cap,rfl,hc,hor⟩:=hv.bZ
    by_cases h0:len=0
    ·subst h0;refine ⟨w,by cases A<;>simp[Builtin.clear_,run_underlying ht],hi.IZ λi=>?_⟩;rw[List.replicate_zero,pF];exact wa hb i
    ·rcases hor with ⟨h1,_⟩ | ⟨g,e2,n,h1,rfl,h3,h4⟩
     ·exact absurd h1 h0
     ·obtain ⟨z,z1,z2,z3⟩:=nP hT (e:=e) len hz0;have e5:Builtin.zeroCells z.cells len=(Array.range (len*T.siz e)).map (z.cells[· % z.cells.size]!):=by rw[Builtin.zeroCells,z2]
      have hr:=z3 μ S w;rw[<-e5] at hr;generalize hzs:Builtin.zeroCells z.cells len=zs at hr;clear e5 z3;obtain ⟨q1,q2,q3⟩:=hr;simp only[Yr] at q1;have hs0:0<T.siz e:=by omega
      have hzl:(T.zer e).length=T.siz e:=q2 (T.zer e) (Yz.2 ⟨h0,rfl⟩);obtain ⟨w',r1,r2⟩:=mb (P:=P) hi (off:=off) (new:=List.replicate len (T.zer e)) (vs:=zs.toList) hb h1 (by simpa using hle)
       (by rw[Array.length_toList,q1];simp) (λrow hrow=>q2 row hrow) (λu hu=>by
        obtain ⟨k,hk⟩:=W9 hu;have hk':k<len*T.siz e:=by
         have:=(W6.1 hk).1;rw[Array.length_toList,q1] at this;exact this
        have hdiv:k / T.siz e<len:=(Nat.div_lt_iff_lt_mul hs0).2 hk';have hmod:=Nat.mod_lt k hs0;have:=q3 (k / T.siz e) (T.zer e) (by rw[Ys,if_pos hdiv]) (k % T.siz e) ((T.zer e).getD (k % T.siz e) .any) (by
         rw[List.getD_eq_getElem?_getD,Wz z8];rfl)
        have e3:k / T.siz e*T.siz e+k % T.siz e=k:=by rw[Nat.mul_comm];exact Nat.div_add_mod k (T.siz e)
        rw[e3] at this;have e4:zs.getD k undef=u:=by
         rw[Array.getD_eq_getD_getElem?,<-Array.getElem?_toList,hk];rfl
        rw[e4] at this;exact this.leaf (List.all_eq_true.1 hleaf _ (by rw[List.getD_eq_getElem?_getD,Wz z8];exact YW _)))
       (λi row hrow j x hx=>by
        have:=q3 i row hrow j x hx
        rwa [Array.getD_eq_getD_getElem?,<-Array.getElem?_toList,<-List.getD_eq_getElem?_getD] at this)
      refine ⟨w',?_,r2⟩;obtain ⟨m,rfl⟩:∃m,len=m+1:=⟨len-1,by omega⟩;simp[Builtin.clear_,run_underlying ht,z1,hzs,r1]
   ·cases h
  ·cases h
 ·cases h
theorem CA {size n:Nat} {v:Value} {rows:List (List AV)} {vs:List Value} (h:Src μ S w size v rows vs) (hl:ek (rows.take n)=true):∀u,u∈vs.take (min rows.length n*size)->u.oneCell'=true:=by
 intro u hu;obtain ⟨k,hk⟩:=W9 hu;rw[YU] at hk;split at hk
 ·rename_i hkn;have hsz:0<size:=by
   rcases Nat.eq_zero_or_pos size with h' | h'
   ·subst h';omega
   ·exact h'
  have hi:k / size<min rows.length n:=by rw[Nat.div_lt_iff_lt_mul hsz];exact hkn
  have hrow:rows[k / size]? = some (rows[k / size]'z8):=Wz z8;have hm:=Nat.mod_lt k hsz;have hrl:(rows[k / size]'z8).length=size:=h.rlen _ (W3 hrow);have hx:(rows[k / size]'z8)[k % size]? = some ((rows[k / size]'z8)[k % size]'z8):=Wz z8;have:=h.rd _ _ hrow _ _ hx;rw[Nat.div_add_mod',List.getD_eq_getElem?_getD,hk] at this;have hmem:(rows[k / size]'z8)∈rows.take n:=by
   refine W3 (i:=k / size) ?_;rw[YU,if_pos z8];exact hrow
  exact this.leaf (List.all_eq_true.1 (List.all_eq_true.1 hl _ hmem) _ (W3 hx))
 ·cases hk
theorem Ce {size n:Nat} {v:Value} {rows:List (List AV)} {vs:List Value} (h:Src μ S w size v rows vs) (hn:n<=rows.length):(Builtin.firstCells size n v).run P w=.ok (vs.take (n*size)).toArray w:=by
 obtain ⟨A,cap,rfl,hf⟩:=h.form;have hle:n*size<=rows.length*size:=YJ _ hn
 by_cases h0:0<rows.length
 ·obtain ⟨g,o,rfl,hc⟩:=hf h0;have:=run_loadCells_list (P:=P) (w:=w) ⟨g,o,none⟩ (vs.take (n*size)) (λj u hu=>by
   rw[YU] at hu;split at hu
   ·rw[add_plain];exact hc j u hu
   ·cases hu)
  rw[YA,h.len,Yt hle] at this;simpa[Builtin.firstCells] using this
 ·have e:n=0:=by omega
  subst e;cases A with
  | none=>simp[Builtin.firstCells]
  | some ad=>simp[Builtin.firstCells,Go.loadCells,Go.loadCellsFrom]
def tl (T:Tab) (σ:St) (t:TypeId) (x y:AV):Option (Prop×List (Nat×Blk)×AV):=
 match T.und t,cW σ y,x with
 | .sl e,some R,.osl id s off len=>
  match aa σ.hp id with
  | some (.cells e' s' rows)=>
   if s'=s then some (T.siz e=s/\s≠0/\rowsOf s R/\(∀id s off len,y=.osl id s off len->R.length=len)/\ek (R.take len)=true/\off+len<=rows.length,
    aG σ.hp id (.cells e' s' (aZ rows off (R.take len))),.int .i64 (min R.length len:Nat))
   else none
  | _=>none
 | _,_,_=>none
theorem G9 (hT:TabOK P T) {t e u ty:TypeId} (ht:P.underlying t=some (.slice e)) (hz:T.siz e≠0) (A B:Option Addr) (len cap lenB capB:Nat) {vs:List Value}
  (hf:(Builtin.firstCells (T.siz e) (min lenB len) (.slice B lenB capB)).run P w=.ok vs.toArray w) :
  (Builtin.copy_ #[t,u] ty #[.slice A len cap,.slice B lenB capB]).run P w =
   (((match A with | some ad=>storeCells ad vs | none=>pure ()):Sem Unit).run P w).andThen (λ_ w'=>.ok (goInt (min lenB len:Nat)) w'):=by
 have hf':(Builtin.firstCells (T.siz e) (Nat.min lenB len) (.slice B lenB capB)).run P w=.ok vs.toArray w:=hf;cases A<;>simp[Builtin.copy_,run_underlying ht,Builtin.lenOf,bD hT hz,hf']<;>rfl
theorem Cm (hT:TabOK P T) (hi:Inv C μ S σ a w) {t u ty:TypeId} {vx vy:Value} {x y r:AV} {p:Prop} {hp':List (Nat×Blk)} (h:tl T σ t x y=some (p,hp',r)) (hp:p) (hvx:Rd μ S w vx x) (hvy:Rd μ S w vy y) :
  ∃v w',(Builtin.copy_ #[t,u] ty #[vx,vy]).run P w=.ok v w'/\Inv C μ S ⟨σ.tm,hp'⟩ a w'/\Rd μ S w' v r:=by
 unfold tl at h;have ht:=hT.und t;split at h
 ·rename_i e R id s off len hu hsrc;rw[hu] at ht;simp only[jX] at ht;split at h
  ·rename_i e' s' rows hb;split at h
   ·rename_i hss;subst hss;simp only[gL,gM] at h;obtain ⟨rfl,rfl,rfl⟩:=h;obtain ⟨hz,hz0,hrl,hlen,hleaf,hle⟩:=hp;subst hz;obtain ⟨vs,hvs⟩:=ma hi hsrc hvy hrl hlen;obtain ⟨A,cap,rfl,hc,hor⟩:=hvx.bZ;obtain ⟨B,capB,rfl,_⟩:=hvs.form;have hfirst:=Ce (P:=P) (n:=min R.length len) hvs z8;have hrun:=G9 (t:=t) (u:=u) (ty:=ty) (w:=w) hT ht hz0 A B len cap R.length capB hfirst
    by_cases h0:min R.length len=0
    ·have hn:R.take len=[]:=List.eq_nil_of_length_eq_zero QI;have ev:vs.take (min R.length len*T.siz e)=[]:=by rw[h0];simp
     rw[ev] at hrun;refine ⟨_,w,by rw[hrun];cases A<;>simp[storeCells]<;>rfl,hi.IZ λi=>?_,.pure (.int _ _)⟩;rw[hn,pF];exact wa hb i
    ·rcases hor with ⟨h1,_⟩ | ⟨g,e2,n,h1,rfl,h3,h4⟩
     ·omega
     ·have hleaf':=CA hvs hleaf;have hmul:min R.length len*T.siz e<=R.length*T.siz e:=YJ _ (Nat.min_le_left _ _);obtain ⟨w',r1,r2⟩:=mb (P:=P) hi (off:=off) (new:=R.take len) (vs:=vs.take (min R.length len*T.siz e)) hb h1 k6
       (by rw[YA,hvs.len,YA,Yt hmul,Nat.min_comm]) (λrow hrow=>hrl row (YF hrow)) (λq hq=>hleaf' q hq) (λi row hrow j x hx=>by
        rw[YU] at hrow;split at hrow
        ·rename_i hil;have hlt:=iM (size:=T.siz e) hrow;have hj:j<T.siz e:=by
          by_cases h:j<T.siz e
          ·exact h
          ·rw[List.getElem?_eq_none (by rw[hrl row (W3 hrow)];omega)] at hx;cases hx
         have hi2:i<R.length:=(W6.1 hrow).1;have:=YJ (T.siz e) (show i+1<=min R.length len by omega);rw[Yy] at this;rw[List.getD_eq_getElem?_getD,YU,if_pos z8,<-List.getD_eq_getElem?_getD];exact hvs.rd i row hrow j x hx
        ·cases hrow)
      exact ⟨_,w',by rw[hrun];simp only[r1];rfl,r2,.pure (.int _ _)⟩
   ·cases h
  ·cases h
 ·cases h
end
end Go.Eng
namespace Go.Eng
section
variable {P:Program} {T:Tab} {C:Ctx} {μ:Nat->Option Nat} {S:Nat->Prop} {σ:St} {a:Act} {w:World}
def aU {α:Type}:List (Int×α)->Int->α->List (Int×α)
 | [],n,v=>[(n,v)]
 | p::r,n,v=>if p.1=n then (n,v)::r else if n<p.1 then (n,v)::p::r else p::aU r n v
def eB {α:Type} (kvs:List (Int×α)) (n:Int):List (Int×α):=kvs.filter λp=>!(p.1==n)
theorem cj {α:Type} {n:Int} {v:α}:∀{kvs:List (Int×α)},kvs.Pairwise (λa b=>a.1<b.1)->∀k x,(k,x)∈aU kvs n v↔(k=n/\x=v)\/(k≠n/\(k,x)∈kvs)
 | [],_,k,x=>by simp[aU]
 | p::r,hs,k,x=>by
  rw[List.pairwise_cons] at hs;have ih:=cj (n:=n) (v:=v) hs.2 k x;obtain ⟨q,y⟩:=p;simp only[aU]
  by_cases h1:q=n
  ·subst h1;rw[if_pos rfl];have:∀z,(q,z)∉r:=λz hz=>by have:=hs.1 _ hz;simp only at this;omega
   simp only[List.mem_cons,gM];constructor
   ·rintro (⟨rfl,rfl⟩ | h)
    ·exact .inl ⟨rfl,rfl⟩
    ·exact .inr ⟨by rintro rfl;exact this _ h,.inr h⟩
   ·rintro (⟨rfl,rfl⟩ | ⟨h,(⟨rfl,_⟩ | h2)⟩)
    ·exact .inl ⟨rfl,rfl⟩
    ·exact absurd rfl h
    ·exact .inr h2
  ·rw[if_neg h1]
   by_cases h2:n<q
   ·rw[if_pos h2];simp only[List.mem_cons,gM];constructor
    ·rintro (⟨rfl,rfl⟩ | ⟨rfl,rfl⟩ | h)
     ·exact .inl ⟨rfl,rfl⟩
     ·exact .inr ⟨h1,.inl ⟨rfl,rfl⟩⟩
     ·refine .inr ⟨by rintro rfl;have:=hs.1 _ h;simp only at this;omega,.inr h⟩
    ·rintro (⟨rfl,rfl⟩ | ⟨h,(⟨rfl,rfl⟩ | h2)⟩)
     ·exact .inl ⟨rfl,rfl⟩
     ·exact .inr (.inl ⟨rfl,rfl⟩)
     ·exact .inr (.inr h2)
   ·rw[if_neg h2];simp only[List.mem_cons,gM,ih];constructor
    ·rintro (⟨rfl,rfl⟩ | ⟨rfl,rfl⟩ | ⟨h,h3⟩)
     ·exact .inr ⟨h1,.inl ⟨rfl,rfl⟩⟩
     ·exact .inl ⟨rfl,rfl⟩
     ·exact .inr ⟨h,.inr h3⟩
    ·rintro (⟨rfl,rfl⟩ | ⟨h,(⟨rfl,rfl⟩ | h3)⟩)
     ·exact .inr (.inl ⟨rfl,rfl⟩)
     ·exact .inl ⟨rfl,rfl⟩
     ·exact .inr (.inr ⟨h,h3⟩)
theorem cu {α:Type} {n:Int} {v:α}:∀{kvs:List (Int×α)},kvs.Pairwise (λa b=>a.1<b.1)->(aU kvs n v).Pairwise λa b=>a.1<b.1
 | [],_=>by simp[aU]
 | p::r,hs=>by
  have hs0:=hs;rw[List.pairwise_cons] at hs;simp only[aU]
  by_cases h1:p.1=n
  ·rw[if_pos h1,List.pairwise_cons];exact ⟨λq hq=>by rw[<-h1];exact hs.1 q hq,hs.2⟩
  ·rw[if_neg h1]
   by_cases h2:n<p.1
   ·rw[if_pos h2,List.pairwise_cons];refine ⟨λq hq=>?_,hs0⟩
    rcases List.mem_cons.1 hq with rfl | hq
    ·exact h2
    ·have:=hs.1 q hq;simp only;omega
   ·rw[if_neg h2,List.pairwise_cons];refine ⟨λq hq=>?_,cu hs.2⟩;obtain ⟨k,x⟩:=q
    rcases (cj hs.2 k x).1 hq with ⟨rfl,rfl⟩ | ⟨_,h⟩
    ·simp only;omega
    ·exact hs.1 _ h
theorem kg {α:Type} {n:Int} {v:α}:∀{kvs:List (Int×α)},kvs.Pairwise (λa b=>a.1<b.1)->(aU kvs n v).length=bif (br kvs n).isSome then kvs.length else kvs.length+1
 | [],_=>by simp[aU,br]
 | p::r,hs=>by
  rw[List.pairwise_cons] at hs;have ih:=kg (n:=n) (v:=v) hs.2;unfold aU br
  by_cases h1:p.1=n
  ·simp[h1]
  ·by_cases h2:n<p.1
   ·have:br r n=none:=by
     cases e:br r n with
     | none=>rfl
     | some x=>have:=hs.1 _ (dj e);simp only at this;omega
    simp[this,h1,h2]
   ·simp only[h1,h2,if_false,List.length_cons,ih];cases (br r n).isSome<;>rfl
theorem jq {α:Type} {n:Int} {kvs:List (Int×α)} (h:kvs.Pairwise (λa b=>a.1<b.1)):(eB kvs n).Pairwise λa b=>a.1<b.1:=h.filter _
theorem kS {α:Type} {n:Int} {v:α} {kvs:List (Int×α)} (h:kvs.Pairwise (λa b=>a.1<b.1)) (k:Int):br (aU kvs n v) k=if k=n then some v else br kvs k:=by
 split
 ·rename_i e;subst e;exact bX (cu h) ((cj h k v).2 (.inl ⟨rfl,rfl⟩))
 ·rename_i e;cases e1:br kvs k with
  | some x=>exact bX (cu h) ((cj h k x).2 (.inr ⟨e,dj e1⟩))
  | none=>
   cases e2:br (aU kvs n v) k with
   | none=>rfl
   | some x=>
    rcases (cj h k x).1 (dj e2) with ⟨h1,_⟩ | ⟨_,h2⟩
    ·exact absurd h1 e
    ·exact absurd h2 (nG e1 x)
def AV.aW:AV->Bool
 | .int .. | .bool _ | .str _ | .nilp | .nili | .ifc | .nils | .nilm | .sl _ | .rp .. | .rm _=>true
 | _=>false
theorem Rd.toP {μ:Nat->Option Nat} {S:Nat->Prop} {w:World} {v:Value} {x:AV} (h:Rd μ S w v x) (hx:x.aW=true):RdP S w v x:=by
 cases h with
 | pure h=>exact h
 | _=>cases hx
def AV.kF:AV->Bool
 | .agg cells=>cells.all AV.aW
 | x=>x.aW
theorem Rd.deep {v:Value} {x:AV} (h:Rd μ S w v x) (hx:x.kF=true):RdP S w v x:=by
 cases x with
 | agg cells=>
  obtain ⟨cs,rfl,hl,hr⟩:=h.nC;exact .agg cs cells hl λj y hy=>(hr j y hy).toP (List.all_eq_true.1 hx y (W3 hy))
 | _=>exact h.toP hx
def uv (T:Tab) (σ:St) (t:TypeId) (x k v:AV):Option (Prop×List (Nat×Blk)):=
 match T.und t,x,k with
 | .map kt _,.mp id,.int .i64 n=>
  match aa σ.hp id with
  | some (.map kvs)=>some ((T.und kt).wc=true/\v.kF=true,aG σ.hp id (.map (aU kvs n v)))
  | _=>none
 | _,_,_=>none
theorem kV {α:Type}:∀{l:List α} {i j:Nat} {x:α},l.Nodup->l[i]? = some x->l[j]? = some x->i=j
 | [],i,j,x,_,h,_=>by simp at h
 | y::r,i,j,x,hn,hi,hj=>by
  rw[List.nodup_cons] at hn;cases i with
  | zero=>
   cases j with
   | zero=>rfl
   | succ j=>
    simp only[List.getElem?_cons_zero,gL] at hi;subst hi;exact absurd (W3 QR) hn.1
  | succ i=>
   cases j with
   | zero=>
    simp only[List.getElem?_cons_zero,gL] at hj;subst hj;exact absurd (W3 Q9) hn.1
   | succ j=>exact congrArg (·+1) (kV hn.2 Q9 QR)
theorem Ji {es:Array MapEntry} {clk:Nat} {kvs:List (Int×AV)} {vals:Int->Value} (h:MapOK es clk kvs vals) {j:Nat} {e:MapEntry} {n:Int} {x:AV} (hj:es.toList[j]? = some e) (hk:e.key=.int .i64 n) (hx:br kvs n=some x)
  (v:Value) (V:AV):MapOK (es.modify j λe=>{ e with key:=.int .i64 n,val:=v }) clk (aU kvs n V) (λm=>if m=n then v else vals m):=by
 have hkeys:((es.modify j λe=>{ e with key:=.int .i64 n,val:=v }).toList.map (·.key))=es.toList.map (·.key):=by
  apply List.ext_getElem?
  intro i;rw[Array.toList_modify,W2,W2,List.getElem?_modify]
  by_cases e1:j=i
  ·subst e1;simp[hj,hk]
  ·simp[e1]
 have hborn:((es.modify j λe=>{ e with key:=.int .i64 n,val:=v }).toList.map (·.born))=es.toList.map (·.born):=by
  apply List.ext_getElem?
  intro i;rw[Array.toList_modify,W2,W2,List.getElem?_modify]
  by_cases e1:j=i
  ·subst e1;simp[hj]
  ·simp[e1]
 refine ⟨λe' he=>?_,λp hp=>?_,by rw[hkeys];exact h.once,?_,cu h.rise,λe' he=>?_,by rw[hborn];exact h.nodup⟩
 ·obtain ⟨i,hi⟩:=W9 he;rw[Array.toList_modify,List.getElem?_modify] at hi
  by_cases e1:j=i
  ·subst e1;rw[hj] at hi;have hi:some { e with key:=.int .i64 n,val:=v }=some e':=by simpa using hi
   injection hi with hi
   subst hi;exact ⟨n,V,rfl,(cj h.rise n V).2 (.inl ⟨rfl,rfl⟩),by simp⟩
  ·simp only[e1,if_false] at hi;have hi':es.toList[i]? = some e':=by simpa using hi
   obtain ⟨k,y,h1,h2,h3⟩:=h.key e' (W3 hi');have hne:k≠n:=by
    rintro rfl;exact e1 (kV h.once (by rw[W2,hj,Option.map_some,hk]) (by rw[W2,hi',Option.map_some,h1]))
   exact ⟨k,y,h1,(cj h.rise k y).2 (.inr ⟨hne,h2⟩),by rw[if_neg hne];exact h3⟩
 ·obtain ⟨k,y⟩:=p;have hm:Value.int .i64 k∈es.toList.map (·.key):=by
   rcases (cj h.rise k y).1 hp with ⟨rfl,_⟩ | ⟨_,h2⟩
   ·exact W5.2 ⟨e,W3 hj,hk⟩
   ·obtain ⟨e',he,hk'⟩:=h.has _ h2;exact W5.2 ⟨e',he,hk'⟩
  rw[<-hkeys] at hm;obtain ⟨e',he,hk'⟩:=W5.1 hm;exact ⟨e',he,hk'⟩
 ·rw[Array.size_modify,kg h.rise,hx,h.len];rfl
 ·have:e'.born∈es.toList.map (·.born):=by rw[<-hborn];exact W5.2 ⟨e',he,rfl⟩
  obtain ⟨e2,he2,hb2⟩:=W5.1 this;rw[<-hb2];exact h.born e2 he2
theorem Jh {es:Array MapEntry} {clk:Nat} {kvs:List (Int×AV)} {vals:Int->Value} (h:MapOK es clk kvs vals) {n:Int} (hx:br kvs n=none) (v:Value) (V:AV) :
  MapOK (es.push { key:=.int .i64 n,val:=v,born:=clk }) (clk+1) (aU kvs n V) (λm=>if m=n then v else vals m):=by
 have hno:∀e,e∈es.toList->e.key≠.int .i64 n:=λe he hk=>by
  obtain ⟨k,y,h1,h2,_⟩:=h.key e he;rw[hk] at h1;injection h1 with _ h1;subst h1
  exact nG hx y h2
 refine ⟨λe he=>?_,λp hp=>?_,?_,?_,cu h.rise,λe he=>?_,?_⟩
 ·rw[Array.toList_push,List.mem_append,List.mem_singleton] at he
  rcases he with he | rfl
  ·obtain ⟨k,y,h1,h2,h3⟩:=h.key e he;have hne:k≠n:=by rintro rfl;exact hno e he h1
   exact ⟨k,y,h1,(cj h.rise k y).2 (.inr ⟨hne,h2⟩),by rw[if_neg hne];exact h3⟩
  ·exact ⟨n,V,rfl,(cj h.rise n V).2 (.inl ⟨rfl,rfl⟩),by simp⟩
 ·obtain ⟨k,y⟩:=p
  rcases (cj h.rise k y).1 hp with ⟨rfl,_⟩ | ⟨_,h2⟩
  ·exact ⟨_,by rw[Array.toList_push];exact YB _ (List.mem_singleton.2 rfl),rfl⟩
  ·obtain ⟨e',he,hk'⟩:=h.has _ h2;exact ⟨e',by rw[Array.toList_push];exact YQ _ he,hk'⟩
 ·rw[Array.toList_push,List.map_append,List.nodup_append];refine ⟨h.once,by simp,λx hx y hy hxy=>?_⟩;simp only[List.map_cons,List.map_nil,List.mem_singleton] at hy;obtain ⟨e,he,hk⟩:=W5.1 hx;exact hno e he (by rw[hk,hxy,hy])
 ·rw[Array.size_push,kg h.rise,hx,h.len];rfl
 ·rw[Array.toList_push,List.mem_append,List.mem_singleton] at he
  rcases he with he | rfl
  ·exact Nat.lt_succ_of_lt (h.born e he)
  ·exact Nat.lt_succ_self _
 ·rw[Array.toList_push,List.map_append,List.nodup_append];refine ⟨h.nodup,by simp,λx hx y hy hxy=>?_⟩;simp only[List.map_cons,List.map_nil,List.mem_singleton] at hy;obtain ⟨e,he,hk⟩:=W5.1 hx;have:=h.born e he;omega
theorem Jg {es:Array MapEntry} {clk:Nat} {kvs:List (Int×AV)} {vals:Int->Value} (h:MapOK es clk kvs vals) {j:Nat} {e:MapEntry} {n:Int} (hj:es.toList[j]? = some e) (hk:e.key=.int .i64 n) :
  MapOK (es.eraseIdxIfInBounds j) clk (eB kvs n) vals:=by
 have hjl:j<es.size:=by
  have:=(W6.1 hj).1;simpa using this
 have hL:(es.eraseIdxIfInBounds j).toList=es.toList.eraseIdx j:=by
  unfold Array.eraseIdxIfInBounds;rw[dif_pos hjl,Array.toList_eraseIdx]
 have hsub:(es.toList.eraseIdx j).Sublist es.toList:=List.eraseIdx_sublist _ _;have hne:∀e',e'∈es.toList.eraseIdx j->e'.key≠.int .i64 n:=λe' he hk'=>by
  rw[List.mem_eraseIdx_iff_getElem?] at he;obtain ⟨i,hi,hi2⟩:=he;exact hi (kV h.once (by rw[W2,hi2,Option.map_some,hk']) (by rw[W2,hj,Option.map_some,hk]))
 refine ⟨λe' he=>?_,λp hp=>?_,?_,?_,jq h.rise,λe' he=>?_,?_⟩
 ·rw[hL] at he;obtain ⟨k,y,h1,h2,h3⟩:=h.key e' (hsub.subset he);refine ⟨k,y,h1,YI.2 ⟨h2,?_⟩,h3⟩;have:k≠n:=by rintro rfl;exact hne e' he h1
  simpa using this
 ·obtain ⟨hp1,hp2⟩:=YI.1 hp;obtain ⟨e',he,hk'⟩:=h.has _ hp1;refine ⟨e',?_,hk'⟩;rw[hL,List.mem_eraseIdx_iff_getElem?];obtain ⟨i,hi⟩:=W9 he;refine ⟨i,?_,hi⟩;rintro rfl;rw[hj] at hi;injection hi with hi;subst hi
  rw[hk] at hk';injection hk' with _ hk'
  simp[hk'] at hp2
 ·rw[hL];exact h.once.sublist (hsub.map _)
 ·have hmem:∃x,(n,x)∈kvs:=by
   obtain ⟨k,x,h1,h2,_⟩:=h.key e (W3 hj);rw[hk] at h1;injection h1 with _ h1;subst h1
   exact ⟨x,h2⟩
  have hlen:∀(l:List (Int×AV)),l.Pairwise (λa b=>a.1<b.1)->(∃x,(n,x)∈l)->(eB l n).length+1=l.length:=by
   intro l
   induction l with
   | nil=>rintro _ ⟨x,hx⟩;simp at hx
   | cons p r ih=>
    intro hs hx;rw[List.pairwise_cons] at hs
    by_cases e1:p.1=n
    ·have:r.filter (λp=>!(p.1==n))=r:=Ya.2 λq hq=>by
      have:=hs.1 q hq;have:q.1≠n:=by omega
      simpa using this
     simp[eB,e1,this]
    ·have h2:∃x,(n,x)∈r:=by
      obtain ⟨x,hx⟩:=hx
      rcases List.mem_cons.1 hx with h | h
      ·exact absurd (by rw[<-h]) e1
      ·exact ⟨x,h⟩
     have:=ih hs.2 h2;simp only[eB] at this ⊢;rw[List.filter_cons,if_pos (by simpa using e1)];simp[this]
  have h1:=hlen kvs h.rise hmem;have h2:(es.eraseIdxIfInBounds j).size+1=es.size:=by
   rw[<-Array.length_toList,hL,List.length_eraseIdx,if_pos (by simpa using hjl),Array.length_toList];omega
  have:=h.len;omega
 ·rw[hL] at he;exact h.born e' (hsub.subset he)
 ·rw[hL];exact h.nodup.sublist (hsub.map _)
theorem oJ {g:Nat} {o b:Obj} (hb:w.heap[g]? = some b) (hc:∀c e f,b≠.cells c e f):∃w',(setObj g o).run P w=.ok () w'/\w'.os=w.os/\w'.tape=w.tape/\w'.output=w.output/\w'.heap.size=w.heap.size/\(∀b,b≠g->w'.heap[b]? = w.heap[b]?)/\w'.heap[g]? = some o:=by
 have h:g<w.heap.size:=(Ye.1 hb).1;refine ⟨{ w with heap:=w.heap.setIfInBounds g o },?_,rfl,rfl,rfl,by simp,λb hb=>by simp[Ne.symm hb],by simp[h]⟩;unfold setObj;rw[Sem.run.eq_def];simp only[hb];cases b with
 | cells c e f=>exact absurd rfl (hc c e f)
 | _=>rfl
theorem D3 {n m:Int} (h:n=m):(Instr.keyThatStays (.int .i64 n) (.int .i64 m)).run P w=.ok (.int .i64 m) w:=by
 subst h;unfold Instr.keyThatStays;rw[show Instr.sameBits 10000 (.int .i64 n) (.int .i64 n)=true from by unfold Instr.sameBits;simp];rfl
theorem xe (hT:TabOK P T) (hi:Inv C μ S σ a w) {t:TypeId} {vx vk vv:Value} {x k v:AV} {p:Prop} {hp':List (Nat×Blk)} (h:uv T σ t x k v=some (p,hp')) (hp:p)
  (hvx:Rd μ S w vx x) (hvk:Rd μ S w vk k) (hvv:Rd μ S w vv v):∃w',(Instr.mapUpdate t vx vk vv).run P w=.ok () w'/\Inv C μ S ⟨σ.tm,hp'⟩ a w':=by
 unfold uv at h;split at h
 ·rename_i kt e id n hu;split at h
  ·rename_i kvs hb;simp only[gL,gM] at h;obtain ⟨rfl,rfl⟩:=h;obtain ⟨hk,hd⟩:=hp;have hk:=BC hT hk;have ht:=hT.und t;rw[hu] at ht;simp only[jX] at ht;obtain rfl:=hvk.aL;obtain ⟨g,hg,rfl⟩:=hvx.tZ;obtain ⟨g',es,clk,vals,k1,k2,k3,k4⟩:=hi.hp _ _ hb;rw[k1] at hg;injection hg with hg;subst hg
   have hgs:g'<w.heap.size:=by
    by_cases h:g'<w.heap.size
    ·exact h
    ·rw[Array.getElem?_eq_none z8] at k2;cases k2
   have hS:¬S g':=(hi.dom id g' k1).2.2.1;have hdeep:=hvv.deep hd;have fin:∀(es':Array MapEntry) (clk':Nat),MapOK es' clk' (aU kvs n v) (λm=>if m=n then vv else vals m)->(Instr.mapUpdate t (.map (some g')) (.int .i64 n) vv).run P w=(setObj g' (.map es' clk')).run P w ->
     ∃w',(Instr.mapUpdate t (.map (some g')) (.int .i64 n) vv).run P w=.ok () w'/\Inv C μ S ⟨σ.tm,aG σ.hp id (.map (aU kvs n v))⟩ a w':=λes' clk' hm hrun=>by
    obtain ⟨w',r1,r2,r3,r4,r5,r6,r7⟩:=oJ (P:=P) (o:=.map es' clk') k2 (λ_ _ _ h=>nomatch h);have hw:aH S w w':=λb hb=>r6 b Qb
    refine ⟨w',by rw[hrun,r1],hi.write id g' k1 r2 r3 r4 r5 r6 (by simp[ag,r7,k2]) _ ⟨g',es',clk',_,k1,r7,hm,λq hq=>?_⟩⟩;obtain ⟨m,y⟩:=q
    rcases (cj k3.rise m y).1 hq with ⟨rfl,rfl⟩ | ⟨hne,hin⟩
    ·simp only[if_true];exact hdeep.mono hw (λ_ h=>h)
    ·simp only[if_neg hne];exact (k4 _ hin).mono hw (λ_ h=>h)
   rcases k3.find n with ⟨j,en,y,q1,q2,q3,q4,q5⟩ | ⟨q1,q2,q3⟩
   ·refine fin _ clk (Ji k3 q1 q2 q4 vv v) ?_;have q1':es[j]? = some en:=by rw[<-Array.getElem?_toList];exact q1
    simp[Instr.mapUpdate,run_underlying ht,run_checkKey hk,run_findKey (w:=w) hk q5,run_getObj_map k2,q1',q2,D3]
   ·refine fin _ (clk+1) (Jh k3 q1 vv v) ?_;simp[Instr.mapUpdate,run_underlying ht,run_checkKey hk,run_findKey (w:=w) hk q3,run_getObj_map k2]
  ·cases h
 ·cases h
def yV (T:Tab) (σ:St) (t:TypeId) (x k:AV):Option (Prop×List (Nat×Blk)):=
 match T.und t,x,k with
 | .map kt _,.mp id,.int .i64 n=>
  match aa σ.hp id with
  | some (.map kvs)=>some ((T.und kt).wc=true,aG σ.hp id (.map (eB kvs n)))
  | _=>none
 | _,_,_=>none
theorem EX (hT:TabOK P T) (hi:Inv C μ S σ a w) {t u ty:TypeId} {vx vk:Value} {x k:AV} {p:Prop} {hp':List (Nat×Blk)} (h:yV T σ t x k=some (p,hp')) (hp:p)
  (hvx:Rd μ S w vx x) (hvk:Rd μ S w vk k):∃w',(Builtin.delete_ #[t,u] ty #[vx,vk]).run P w=.ok (.tuple #[]) w'/\Inv C μ S ⟨σ.tm,hp'⟩ a w':=by
 unfold yV at h;split at h
 ·rename_i kt e id n hu;split at h
  ·rename_i kvs hb;simp only[gL,gM] at h;obtain ⟨rfl,rfl⟩:=h;have hk:=BC hT hp;have ht:=hT.und t;rw[hu] at ht;simp only[jX] at ht;obtain rfl:=hvk.aL;obtain ⟨g,hg,rfl⟩:=hvx.tZ;obtain ⟨g',es,clk,vals,k1,k2,k3,k4⟩:=hi.hp _ _ hb;rw[k1] at hg;injection hg with hg;subst hg
   have hgs:g'<w.heap.size:=by
    by_cases h:g'<w.heap.size
    ·exact h
    ·rw[Array.getElem?_eq_none z8] at k2;cases k2
   have hS:¬S g':=(hi.dom id g' k1).2.2.1;have fin:∀(es':Array MapEntry),MapOK es' clk (eB kvs n) vals->(Builtin.delete_ #[t,u] ty #[.map (some g'),.int .i64 n]).run P w=((setObj g' (.map es' clk)).run P w).andThen (λ_ w=>.ok (.tuple #[]) w) ->
     ∃w',(Builtin.delete_ #[t,u] ty #[.map (some g'),.int .i64 n]).run P w=.ok (.tuple #[]) w'/\Inv C μ S ⟨σ.tm,aG σ.hp id (.map (eB kvs n))⟩ a w':=λes' hm hrun=>by
    obtain ⟨w',r1,r2,r3,r4,r5,r6,r7⟩:=oJ (P:=P) (o:=.map es' clk) k2 (λ_ _ _ h=>nomatch h);have hw:aH S w w':=λb hb=>r6 b Qb
    exact ⟨w',by rw[hrun,r1];rfl,hi.write id g' k1 r2 r3 r4 r5 r6 (by simp[ag,r7,k2]) _ ⟨g',es',clk,_,k1,r7,hm,λq hq=>(k4 q (YI.1 hq).1).mono hw (λ_ h=>h)⟩⟩
   rcases k3.find n with ⟨j,en,y,q1,q2,q3,q4,q5⟩ | ⟨q1,q2,q3⟩
   ·refine fin _ (Jg k3 q1 q2) ?_;simp[Builtin.delete_,run_underlying ht,run_checkKey hk,run_findKey (w:=w) hk q5,run_getObj_map k2]
   ·refine fin es (by
     have:eB kvs n=kvs:=Ya.2 λq hq=>by
      have:q.1≠n:=by rintro rfl;exact nG q1 q.2 hq
      simpa using this
     rw[this];exact k3) ?_
    simp[Builtin.delete_,run_underlying ht,run_checkKey hk,run_findKey (w:=w) hk q3,run_getObj_map k2]
  ·cases h
 ·cases h
end
end Go.Eng
namespace Go.Eng
section
variable {P:Program} {T:Tab} {C:Ctx} {σ σ':St}
def eE (T:Tab) (σ:St) (d:Option Tmp) (op:Op):Option (Prop×St):=
 match op,d with
 | .build t parts,d=>(fE T σ t parts.toList).map λr=>(r.1,σ.put d r.2)
 | .alloc t,some d=>
  some (T.siz t≠0/\(T.zer t).length=T.siz t/\(σ.room d).1,
   (⟨(σ.room d).2.tm,(d,.cells t (T.siz t) [T.zer t])::(σ.room d).2.hp⟩:St).put (some d) (.ptr d (T.siz t) 0 0))
 | .box t x,some d=>
  match kc T t (evS (σ.room d).2 x).2 with
  | some xs=>
   some ((evS (σ.room d).2 x).1/\xs.length=T.siz t/\xs.all AV.leaf=true/\(σ.room d).1,
    (⟨(σ.room d).2.tm,(d,.cells t (T.siz t) [xs])::(σ.room d).2.hp⟩:St).put (some d) (.ptr d (T.siz t) 0 0))
  | none=>none
 | .buildSlice t n parts,some d=>
  match dx T (σ.room d).2 t n parts.toList with
  | some (p,e,rows)=>
   some (p/\(σ.room d).1,(⟨(σ.room d).2.tm,(d,.cells e (T.siz e) rows)::(σ.room d).2.hp⟩:St).put (some d) (.osl d (T.siz e) 0 n))
  | none=>none
 | .makeMap _ none,some d=>
  some ((σ.room d).1,(⟨(σ.room d).2.tm,(d,.map [])::(σ.room d).2.hp⟩:St).put (some d) (.mp d))
 | .store t x y,none=>(gN T σ t (evS σ x).2 (evS σ y).2).map λr=>((evS σ x).1/\(evS σ y).1/\r.1,⟨σ.tm,r.2⟩)
 | .call { callee:=.builtin .append,args,argTypes },some d=>
  match args.toList,argTypes.toList with
  | [x,y],[t,u]=>
   if t=u then (fz T σ d t (evS σ x).2 (evS σ y).2).map λr=>((evS σ x).1/\(evS σ y).1/\r.1,r.2.1.put (some d) r.2.2) else none
  | _,_=>none
 | .call { callee:=.builtin .clear,args,argTypes },d=>
  match args.toList,argTypes.toList with
  | [x],[t]=>(oY T σ t (evS σ x).2).map λr=>((evS σ x).1/\r.1,(⟨σ.tm,r.2⟩:St).put d (.tup []))
  | _,_=>none
 | .call { callee:=.builtin .copy,args,argTypes },d=>
  match args.toList,argTypes.toList with
  | [x,y],[t,_]=>(tl T σ t (evS σ x).2 (evS σ y).2).map λr=>((evS σ x).1/\(evS σ y).1/\r.1,(⟨σ.tm,r.2.1⟩:St).put d r.2.2)
  | _,_=>none
 | .call { callee:=.builtin .delete,args,argTypes },d=>
  match args.toList,argTypes.toList with
  | [x,y],[t,_]=>(yV T σ t (evS σ x).2 (evS σ y).2).map λr=>((evS σ x).1/\(evS σ y).1/\r.1,(⟨σ.tm,r.2⟩:St).put d (.tup []))
  | _,_=>none
 | .mapUpdate t m k x,none=>(uv T σ t (evS σ m).2 (evS σ k).2 (evS σ x).2).map λr=>((evS σ m).1/\(evS σ k).1/\(evS σ x).1/\r.1,⟨σ.tm,r.2⟩)
 | .insert t m k x,none=>(uv T σ t (evS σ m).2 (evS σ k).2 (evS σ x).2).map λr=>((evS σ m).1/\(evS σ k).1/\(evS σ x).1/\r.1,⟨σ.tm,r.2⟩)
 | op,d=>(eX T σ op).map λr=>(r.1,σ.put d r.2)
theorem qZ {o:Oper} {H:List (Nat×Blk)} {x:AV} (h:∀μ S a w,Inv C μ S σ a w->∃u w',(execOp a.eval o).run P w=.ok (.value u) w'/\Inv C μ S ⟨σ.tm,H⟩ a w'/\Rd μ S w' u x) :
  eP P C o σ ((⟨σ.tm,H⟩:St).put o.dst x):=by
 intro a w K Q ⟨μ,S,hi⟩ hK;obtain ⟨u,w',hr,hi',hu⟩:=h μ S a w hi;unfold Oper.wp;rw[hr];exact hK _ _ ⟨μ,S,hi'.put o.dst hu⟩
theorem xj {o:Oper} (hd:o.dst=none) {H:List (Nat×Blk)} (h:∀μ S a w,Inv C μ S σ a w->∃w',(execOp a.eval o).run P w=.ok .skip w'/\Inv C μ S ⟨σ.tm,H⟩ a w'):eP P C o σ ⟨σ.tm,H⟩:=by
 intro a w K Q ⟨μ,S,hi⟩ hK;obtain ⟨w',hr,hi'⟩:=h μ S a w hi;unfold Oper.wp;rw[hr]
 show K (a.put o.dst undef) w'
 rw[hd];exact hK _ _ ⟨μ,S,hi'⟩
theorem E7 (hT:TabOK P T) {o:Oper} {p:Prop} {x:AV} (h:eX T σ o.op=some (p,x)) (hp:p):eP P C o σ (σ.put o.dst x):=
 ec λ_ _ _ _ hi=>lZ hT hi o h hp
theorem fa {o:Oper} {d:Tmp} (hd:o.dst=some d) {x:AV}
  (h:∀μ S a w,Inv C μ S σ a w->∃u w' μ' S',(execOp a.eval o).run P w=.ok (.value u) w'/\Inv C μ' S' σ' a w'/\Rd μ' S' w' u x):eP P C o σ (σ'.put (some d) x):=by
 intro a w K Q ⟨μ,S,hi⟩ hK;obtain ⟨u,w',μ',S',hr,hi',hu⟩:=h μ S a w hi;unfold Oper.wp;rw[hr]
 show K (a.put o.dst u) w'
 rw[hd];exact hK _ _ ⟨μ',S',hi'.put (some d) hu⟩
theorem cn (hT:TabOK P T) (o:Oper) {p:Prop} (h:eE T σ o.dst o.op=some (p,σ')) (hp:p):eP P C o σ σ':=by
 have hpure:(eX T σ o.op).map (λr=>(r.1,σ.put o.dst r.2))=some (p,σ')->eP P C o σ σ':=λh=>by
  cases e:eX T σ o.op with
  | none=>rw[e] at h;cases h
  | some q=>
   simp only[e,Option.map_some,gL,gM] at h;obtain ⟨rfl,rfl⟩:=h;exact E7 hT (p:=q.1) (x:=q.2) e hp
 unfold eE at h;split at h
 ·rename_i t parts hop;cases e:fE T σ t parts.toList with
  | none=>rw[e] at h;cases h
  | some q=>
   simp only[e,Option.map_some,gL,gM] at h;obtain ⟨rfl,rfl⟩:=h;refine ec λμ S a w hi=>?_
   obtain ⟨u,h1,h2⟩:=AQ hT hi (p:=q.1) (x:=q.2) e hp;exact ⟨u,by simp only[execOp,hop,Sem.run_bind,h1];rfl,h2⟩
 ·rename_i t d hop hd;simp only[gL,gM] at h;obtain ⟨rfl,rfl⟩:=h;obtain ⟨h1,h2,h3⟩:=hp;refine fa hd λμ S a w hi=>?_
  obtain ⟨μ1,hi1⟩:=hi.room d h3;obtain ⟨w',r1,r2⟩:=AP (P:=P) hT hi1 (nL σ d) h1;rw[h2] at r2;exact ⟨_,w',_,S,by simp only[execOp,hop,Sem.run_bind,r1];rfl,r2,by simpa using Rd.ptr d (T.siz t) 0 0 w.heap.size (by simp[upd])⟩
 ·rename_i t y d hop hd;split at h
  ·rename_i xs hxs;simp only[gL,gM] at h;obtain ⟨rfl,rfl⟩:=h;obtain ⟨h0,h1,h2,h3⟩:=hp;refine fa hd λμ S a w hi=>?_
   obtain ⟨μ1,hi1⟩:=hi.room d h3;obtain ⟨c1,_,c3⟩:=oW hxs h2 (hi1.evS y h0);obtain ⟨w',r1,r2⟩:=xd (P:=P) (t:=t) hi1 (nL σ d) ⟨c1,c3⟩;rw[h1] at r2;exact ⟨_,w',_,S,by simp only[execOp,hop,Sem.run_bind,r1];rfl,r2,by simpa using Rd.ptr d (T.siz t) 0 0 w.heap.size (by simp[upd])⟩
  ·cases h
 ·rename_i t n parts d hop hd;split at h
  ·rename_i q e rows hb;simp only[gL,gM] at h;obtain ⟨rfl,rfl⟩:=h;obtain ⟨h1,h3⟩:=hp;refine fa hd λμ S a w hi=>?_
   obtain ⟨μ1,hi1⟩:=hi.room d h3;obtain ⟨w',r1,r2,r3,r4⟩:=qV (P:=P) hT hi1 (nL σ d) hb h1;refine ⟨_,w',_,S,by simp only[execOp,hop,Sem.run_bind,r1];rfl,r2,.osl d (T.siz e) 0 n n _ (W7 _) (.inr ⟨w.heap.size,e,n*T.siz e,by simp[upd],by simp,r4,by simp⟩)⟩
  ·cases h
 ·rename_i t d hop hd;simp only[gL,gM] at h;obtain ⟨rfl,rfl⟩:=h;refine fa hd λμ S a w hi=>?_
  obtain ⟨μ1,hi1⟩:=hi.room d hp;obtain ⟨w',r1,r2⟩:=vu (P:=P) (t:=t) hi1 (nL σ d);exact ⟨_,w',_,S,by simp only[execOp,hop,Sem.run_bind,Option.map_none,r1];rfl,r2,.mp d w.heap.size (by simp[upd])⟩
 ·rename_i t x y hop hd;cases e:gN T σ t (evS σ x).2 (evS σ y).2 with
  | none=>rw[e] at h;cases h
  | some q=>
   simp only[e,Option.map_some,gL,gM] at h;obtain ⟨rfl,rfl⟩:=h;obtain ⟨h1,h2,h3⟩:=hp;intro a w K Q ⟨μ,S,hi⟩ hK;obtain ⟨w',r1,r2⟩:=AW (P:=P) hT hi (p:=q.1) (hp':=q.2) e h3 (hi.evS x h1) (hi.evS y h2);unfold Oper.wp;have:(execOp a.eval o).run P w=.ok .skip w':=by simp only[execOp,hop,Sem.run_bind,r1];rfl
   rw[this]
   show K (a.put o.dst undef) w'
   rw[hd];exact hK _ _ ⟨μ,S,r2⟩
 ·rename_i args ats d hop hd;split at h
  ·rename_i x y t u hx ht;split at h
   ·rename_i htu;subst htu;cases e:fz T σ d t (evS σ x).2 (evS σ y).2 with
    | none=>rw[e] at h;cases h
    | some q=>
     simp only[e,Option.map_some,gL,gM] at h;obtain ⟨rfl,rfl⟩:=h;obtain ⟨h1,h2,h3⟩:=hp;have e1:args=#[x,y]:=by cases args;simp_all
     have e2:ats=#[t,t]:=by cases ats;simp_all
     subst e1 e2;refine fa hd λμ S a w hi=>?_
     obtain ⟨u,w',μ',r1,r2,r3⟩:=yw (P:=P) (ty:=o.type) hT hi (p:=q.1) (σ':=q.2.1) (r:=q.2.2) e h3 (hi.evS x h1) (hi.evS y h2);exact ⟨u,w',μ',S,by simp[execOp,hop,resolve,invoke,builtin,r1],r2,r3⟩
   ·cases h
  ·cases h
 ·rename_i args ats hop;split at h
  ·rename_i x t hx ht;cases e:oY T σ t (evS σ x).2 with
   | none=>rw[e] at h;cases h
   | some q=>
    simp only[e,Option.map_some,gL,gM] at h;obtain ⟨rfl,rfl⟩:=h;have e1:args=#[x]:=congrArg List.toArray hx;have e2:ats=#[t]:=congrArg List.toArray ht;subst e1 e2;refine qZ λμ S a w hi=>?_
    obtain ⟨w',r1,r2⟩:=AR (P:=P) (ty:=o.type) hT hi (p:=q.1) (hp':=q.2) e hp.2 (hi.evS x hp.1);exact ⟨_,w',by simp[execOp,hop,resolve,invoke,builtin,r1],r2,.tup #[] [] rfl (λj x h=>by simp at h)⟩
  ·cases h
 ·rename_i args ats hop;split at h
  ·rename_i x y t u hx ht;cases e:tl T σ t (evS σ x).2 (evS σ y).2 with
   | none=>rw[e] at h;cases h
   | some q=>
    simp only[e,Option.map_some,gL,gM] at h;obtain ⟨rfl,rfl⟩:=h;have e1:args=#[x,y]:=congrArg List.toArray hx;have e2:ats=#[t,u]:=congrArg List.toArray ht;subst e1 e2;refine qZ λμ S a w hi=>?_
    obtain ⟨v,w',r1,r2,r3⟩:=Cm (P:=P) (u:=u) (ty:=o.type) hT hi (p:=q.1) (hp':=q.2.1) (r:=q.2.2) e hp.2.2 (hi.evS x hp.1) (hi.evS y hp.2.1);exact ⟨v,w',by simp[execOp,hop,resolve,invoke,builtin,r1],r2,r3⟩
  ·cases h
 ·rename_i args ats hop;split at h
  ·rename_i x y t u hx ht;cases e:yV T σ t (evS σ x).2 (evS σ y).2 with
   | none=>rw[e] at h;cases h
   | some q=>
    simp only[e,Option.map_some,gL,gM] at h;obtain ⟨rfl,rfl⟩:=h;have e1:args=#[x,y]:=congrArg List.toArray hx;have e2:ats=#[t,u]:=congrArg List.toArray ht;subst e1 e2;refine qZ λμ S a w hi=>?_
    obtain ⟨w',r1,r2⟩:=EX (P:=P) (u:=u) (ty:=o.type) hT hi (p:=q.1) (hp':=q.2) e hp.2.2 (hi.evS x hp.1) (hi.evS y hp.2.1);exact ⟨_,w',by simp[execOp,hop,resolve,invoke,builtin,r1],r2,.tup #[] [] rfl (λj x h=>by simp at h)⟩
  ·cases h
 ·rename_i t m k x hop hd;cases e:uv T σ t (evS σ m).2 (evS σ k).2 (evS σ x).2 with
  | none=>rw[e] at h;cases h
  | some q=>
   simp only[e,Option.map_some,gL,gM] at h;obtain ⟨rfl,rfl⟩:=h;refine xj hd λμ S a w hi=>?_
   obtain ⟨w',r1,r2⟩:=xe (P:=P) hT hi (p:=q.1) (hp':=q.2) e hp.2.2.2 (hi.evS m hp.1) (hi.evS k hp.2.1) (hi.evS x hp.2.2.1);exact ⟨w',by simp only[execOp,hop,Sem.run_bind,r1];rfl,r2⟩
 ·rename_i t m k x hop hd;cases e:uv T σ t (evS σ m).2 (evS σ k).2 (evS σ x).2 with
  | none=>rw[e] at h;cases h
  | some q=>
   simp only[e,Option.map_some,gL,gM] at h;obtain ⟨rfl,rfl⟩:=h;refine xj hd λμ S a w hi=>?_
   obtain ⟨w',r1,r2⟩:=xe (P:=P) hT hi (p:=q.1) (hp':=q.2) e hp.2.2.2 (hi.evS m hp.1) (hi.evS k hp.2.1) (hi.evS x hp.2.2.1);exact ⟨w',by simp only[execOp,hop,Sem.run_bind,r1];rfl,r2⟩
 ·exact hpure h
def WpL (P:Program) (C:Ctx) (ops:Array Oper) (l:List Oper) (Q:Exit->Act->World->Prop) (σ:St):Prop:=∀a w,Rel C σ a w->wpList P ops Q l a w
def guardOf (ops:Array Oper) (σ:St) (g:Option (Nat×Bool)):Option Bool:=
 match g with
 | none=>some true
 | some (j,want)=>
  match (ops[j]?).bind (·.dst) with
  | some d=>
   match σ.tm.getD d .any with
   | .bool b=>some (b==want)
   | .cnd c (.bool b)=>some (c&&(b==want))
   | _=>none
  | none=>none
theorem bs {ops:Array Oper} {o:Oper} {c:Bool} {μ:Nat->Option Nat} {S:Nat->Prop} {a:Act} {w:World} (hi:Inv C μ S σ a w) (h:guardOf ops σ o.guard=some c) :
  Region.wanted o (yielded ops a.tmps)=c:=by
 unfold Region.wanted;unfold guardOf at h;split at h
 ·rename_i hg;injection h with h;subst h
  rw[hg]
 ·rename_i j want hg;rw[hg];split at h
  ·rename_i d hd;have hv:=hi.ev (.tmp d);simp only[Act.eval,Eng.ev] at hv;have hy:yielded ops a.tmps j=match a.tmps[d]? with | some (.bool b)=>some b | _=>none:=by
    unfold yielded;rw[hd];rfl
   simp only[hy];split at h
   ·rename_i b hb;injection h with h;subst h
    rw[hb] at hv;have:=hv.eU;rw[Array.getD_eq_getD_getElem?] at this;cases e:a.tmps[d]? with
    | none=>rw[e] at this;cases this
    | some v=>rw[e] at this;simp only[Option.getD_some] at this;subst this;cases b<;>cases want<;>rfl
   ·rename_i g b hb;injection h with h;subst h
    rw[hb] at hv;rw[Array.getD_eq_getD_getElem?] at hv;cases e:a.tmps[d]? with
    | none=>
     rw[e] at hv;simp only[Option.getD_none] at hv;cases g with
     | false=>cases want<;>rfl
     | true=>
      cases hv with
      | pure h=>cases h
      | cndT _ _ h=>cases h.eU
    | some v=>
     rw[e] at hv;simp only[Option.getD_some] at hv;cases hv with
     | pure h=>cases h
     | cndT _ _ h=>obtain rfl:=h.eU;cases b<;>cases want<;>rfl
     | cndF=>cases want<;>rfl
   ·cases h
  ·cases h
theorem nu {ops:Array Oper} {o:Oper} {l:List Oper} {Q:Exit->Act->World->Prop} (hg:guardOf ops σ o.guard=some true) (ht:eP P C o σ σ') (h:WpL P C ops l Q σ'):WpL P C ops (o::l) Q σ:=by
 intro a w hr;unfold wpList;obtain ⟨μ,S,hi⟩:=hr;rw[bs hi hg];exact .inl (ht a w _ Q ⟨μ,S,hi⟩ λa' w' hr'=>h a' w' hr')
theorem Bg {ops:Array Oper} {o:Oper} {l:List Oper} {Q:Exit->Act->World->Prop} (hg:guardOf ops σ o.guard=some false) (h:WpL P C ops l Q (σ.put o.dst .any)):WpL P C ops (o::l) Q σ:=by
 intro a w hr;unfold wpList;obtain ⟨μ,S,hi⟩:=hr;rw[bs hi hg];exact h _ _ ⟨μ,S,hi.put o.dst (.any _)⟩
def mkc (c:Bool):AV->AV
 | .cnd d y=>.cnd (c&&d) y
 | x=>.cnd c x
theorem yk {μ:Nat->Option Nat} {S:Nat->Prop} {w:World} {v:Value} {c:Bool} {x:AV} (h:Rd μ S w v (.cnd c x)):Rd μ S w v (mkc c x):=by
 unfold mkc;split
 ·rename_i d y;cases h with
  | pure h=>cases h
  | cndT _ _ h=>
   cases h with
   | pure h=>cases h
   | cndT _ _ h=>exact .cndT _ _ h
   | cndF _=>exact .cndF _
  | cndF _=>exact .cndF _
 ·exact h
theorem Dx (hT:TabOK P T) {ops:Array Oper} {o:Oper} {l:List Oper} {Q:Exit->Act->World->Prop} {c:Bool} {p:Prop} {x:AV} (hg:guardOf ops σ o.guard=some c) (hs:eX T σ o.op=some (p,x)) (hp:c=true->p)
  (h:WpL P C ops l Q (σ.put o.dst (mkc c x))):WpL P C ops (o::l) Q σ:=by
 intro a w hr;unfold wpList;obtain ⟨μ,S,hi⟩:=hr;rw[bs hi hg];cases c with
 | false=>exact h _ _ ⟨μ,S,hi.put o.dst (yk (.cndF x))⟩
 | true=>
  refine .inl ?_;obtain ⟨u,h1,h2⟩:=lZ hT hi o hs (hp rfl);unfold Oper.wp;rw[h1];exact h _ _ ⟨μ,S,hi.put o.dst (yk (.cndT u x h2))⟩
def Gg:Op->Bool
 | .call { callee:=.value _,.. }=>true
 | _=>false
def jZ (T:Tab) (ops:Array Oper):List Oper->St->Option (Prop×List Oper×St)
 | [],σ=>some (True,[],σ)
 | o::l,σ=>
  if Gg o.op then some (True,o::l,σ) else
  match o.guard with
  | none=>
   match eE T σ o.dst o.op with
   | some (p,σ')=>(jZ T ops l σ').map λr=>(p/\r.1,r.2)
   | none=>some (True,o::l,σ)
  | some g=>
   match eX T σ o.op with
   | some (p,x)=>
    match guardOf ops σ (some g) with
    | some c=>(jZ T ops l (σ.put o.dst (mkc c x))).map λr=>((c=true->p)/\r.1,r.2)
    | none=>some (True,o::l,σ)
   | none=>
    match guardOf ops σ (some g) with
    | some c=>
     if c=true then
      match eE T σ o.dst o.op with
      | some (p,σ')=>(jZ T ops l σ').map λr=>(p/\r.1,r.2)
      | none=>some (True,o::l,σ)
     else jZ T ops l (σ.put o.dst .any)
    | none=>some (True,o::l,σ)
theorem jR (hT:TabOK P T) (ops:Array Oper) {Q:Exit->Act->World->Prop}:∀(l:List Oper) (σ:St) {p:Prop} {l':List Oper} {σ':St},jZ T ops l σ=some (p,l',σ')->p->WpL P C ops l' Q σ'->WpL P C ops l Q σ
 | [],σ,p,l',σ',h,_,hK=>by
  simp only[jZ,gL,gM] at h;obtain ⟨_,rfl,rfl⟩:=h;exact hK
 | o::l,σ,p,l',σ',h,hp,hK=>by
  unfold jZ at h;split at h
  ·simp only[gL,gM] at h;obtain ⟨_,rfl,rfl⟩:=h;exact hK
  ·split at h
   ·rename_i hg;split at h
    ·rename_i q σ1 hs;cases e:jZ T ops l σ1 with
     | none=>rw[e] at h;cases h
     | some r=>
      obtain ⟨r1,r2,r3⟩:=r;simp only[e,Option.map_some,gL,gM] at h;obtain ⟨rfl,rfl,rfl⟩:=h;exact nu Qx (cn hT o hs hp.1) (jR hT ops l σ1 e hp.2 hK)
    ·simp only[gL,gM] at h;obtain ⟨_,rfl,rfl⟩:=h;exact hK
   ·rename_i g hg;split at h
    ·rename_i q x hs;split at h
     ·rename_i c hc;cases e:jZ T ops l (σ.put o.dst (mkc c x)) with
      | none=>rw[e] at h;cases h
      | some r=>
       obtain ⟨r1,r2,r3⟩:=r;simp only[e,Option.map_some,gL,gM] at h;obtain ⟨rfl,rfl,rfl⟩:=h;exact Dx hT Zw hs hp.1 (jR hT ops l _ e hp.2 hK)
     ·simp only[gL,gM] at h;obtain ⟨_,rfl,rfl⟩:=h;exact hK
    ·split at h
     ·rename_i c hc;split at h
      ·rename_i hct;subst hct;split at h
       ·rename_i q σ1 hs;cases e:jZ T ops l σ1 with
        | none=>rw[e] at h;cases h
        | some r=>
         obtain ⟨r1,r2,r3⟩:=r;simp only[e,Option.map_some,gL,gM] at h;obtain ⟨rfl,rfl,rfl⟩:=h;exact nu Zw (cn hT o hs hp.1) (jR hT ops l σ1 e hp.2 hK)
       ·simp only[gL,gM] at h;obtain ⟨_,rfl,rfl⟩:=h;exact hK
      ·rename_i hct;have hcf:c=false:=by simpa using hct
       subst hcf;exact Bg Zw (jR hT ops l _ h hp hK)
     ·simp only[gL,gM] at h;obtain ⟨_,rfl,rfl⟩:=h;exact hK
theorem k_ (hT:TabOK P T) (ops:Array Oper) (l2:List Oper) {Q:Exit->Act->World->Prop}:∀(l:List Oper) (σ:St) {p:Prop} {l':List Oper} {σ':St},jZ T ops l σ=some (p,l',σ')->p->WpL P C ops (l'++l2) Q σ'->WpL P C ops (l++l2) Q σ
 | [],σ,p,l',σ',h,_,hK=>by
  simp only[jZ,gL,gM] at h;obtain ⟨_,rfl,rfl⟩:=h;exact hK
 | o::l,σ,p,l',σ',h,hp,hK=>by
  unfold jZ at h;split at h
  ·simp only[gL,gM] at h;obtain ⟨_,rfl,rfl⟩:=h;exact hK
  ·split at h
   ·rename_i hg;split at h
    ·rename_i q σ1 hs;cases e:jZ T ops l σ1 with
     | none=>rw[e] at h;cases h
     | some r=>
      obtain ⟨r1,r2,r3⟩:=r;simp only[e,Option.map_some,gL,gM] at h;obtain ⟨rfl,rfl,rfl⟩:=h;exact nu Qx (cn hT o hs hp.1) (k_ hT ops l2 l σ1 e hp.2 hK)
    ·simp only[gL,gM] at h;obtain ⟨_,rfl,rfl⟩:=h;exact hK
   ·rename_i g hg;split at h
    ·rename_i q x hs;split at h
     ·rename_i c hc;cases e:jZ T ops l (σ.put o.dst (mkc c x)) with
      | none=>rw[e] at h;cases h
      | some r=>
       obtain ⟨r1,r2,r3⟩:=r;simp only[e,Option.map_some,gL,gM] at h;obtain ⟨rfl,rfl,rfl⟩:=h;exact Dx hT Zw hs hp.1 (k_ hT ops l2 l _ e hp.2 hK)
     ·simp only[gL,gM] at h;obtain ⟨_,rfl,rfl⟩:=h;exact hK
    ·split at h
     ·rename_i c hc;split at h
      ·rename_i hct;subst hct;split at h
       ·rename_i q σ1 hs;cases e:jZ T ops l σ1 with
        | none=>rw[e] at h;cases h
        | some r=>
         obtain ⟨r1,r2,r3⟩:=r;simp only[e,Option.map_some,gL,gM] at h;obtain ⟨rfl,rfl,rfl⟩:=h;exact nu Zw (cn hT o hs hp.1) (k_ hT ops l2 l σ1 e hp.2 hK)
       ·simp only[gL,gM] at h;obtain ⟨_,rfl,rfl⟩:=h;exact hK
      ·rename_i hct;have hcf:c=false:=by simpa using hct
       subst hcf;exact Bg Zw (k_ hT ops l2 l _ h hp hK)
     ·simp only[gL,gM] at h;obtain ⟨_,rfl,rfl⟩:=h;exact hK
end
end Go.Eng
namespace Go.Eng
section
variable {P:Program} {T:Tab} {C:Ctx} {σ σ':St}
inductive It where
 | code (c:Code)
 | ops (all:Array Oper) (l:List Oper)
 | blk (id:Nat)
 | back (J:St->Prop)
def aft (R:Act->World->Prop) (s:(Act->World->Prop)×(Nat->Act->World->Prop)):Exit->Act->World->Prop
 | .normal,a,w=>s.1 a w
 | .ret,a,w=>R a w
 | .exit id,a,w=>s.2 id a w
 | _,_,_=>False
def sem (P:Program) (C:Ctx) (R:Act->World->Prop):List It->(Act->World->Prop)×(Nat->Act->World->Prop)
 | []=>(R,λ_ _ _=>False)
 | .code c::k=>(λa w=>c.wp P (aft R (sem P C R k)) a w,(sem P C R k).2)
 | .ops all l::k=>(λa w=>wpList P all (aft R (sem P C R k)) l a w,(sem P C R k).2)
 | .blk id::k=>((sem P C R k).1,λi=>if id=i then (sem P C R k).1 else (sem P C R k).2 i)
 | .back J::k=>(λa w=>∃σ',J σ'/\Rel C σ' a w,(sem P C R k).2)
def eI (C:Ctx) (Ret:St->Prop):Act->World->Prop:=λa w=>∃σ',Ret σ'/\Rel C σ' a w
def Cw (P:Program) (C:Ctx) (Ret:St->Prop) (k:List It) (σ:St):Prop:=∀a w,Rel C σ a w->(sem P C (eI C Ret) k).1 a w
def Le (C:Ctx) (σ σ':St):Prop:=∀a w,Rel C σ a w->Rel C σ' a w
variable {Ret:St->Prop} {k:List It}
theorem af (hl:Le C σ σ') (h:Cw P C Ret k σ'):Cw P C Ret k σ:=λa w hr=>h a w (hl a w hr)
theorem iE (h:Ret σ):Cw P C Ret [] σ:=λ_ _ hr=>⟨σ,h,hr⟩
theorem FL {id:Nat} (h:Cw P C Ret k σ):Cw P C Ret (.blk id::k) σ:=h
theorem ZB {J:St->Prop} (h:J σ):Cw P C Ret (.back J::k) σ:=λ_ _ hr=>⟨σ,h,hr⟩
theorem CV (h:Cw P C Ret k σ):Cw P C Ret (.code .skip::k) σ:=λa w hr=>wp_skip (h a w hr)
theorem lr (h:Ret σ):Cw P C Ret (.code .ret::k) σ:=λ_ _ hr=>wp_ret ⟨σ,h,hr⟩
theorem qh {x y:Code} (h:Cw P C Ret (.code x::.code y::k) σ):Cw P C Ret (.code (.seq x y)::k) σ:=λa w hr=>
 wp_seq (wp_mono (h a w hr) λe a w q=>by cases e<;>first | exact q | exact q.elim)
theorem vI {id:Nat} {ops:Array Oper} (h:Cw P C Ret (.ops ops ops.toList::k) σ):Cw P C Ret (.code (.region id ops false)::k) σ:=λa w hr=>
 wp_region_list (h a w hr)
theorem su {c:Operand} {x y:Code} {b:Bool} {p:Prop} (hc:evS σ c=(p,.bool b)) (hp:p) (ht:b=true->Cw P C Ret (.code x::k) σ) (hf:b=false->Cw P C Ret (.code y::k) σ) :
  Cw P C Ret (.code (.cond c x y)::k) σ:=λa w hr=>by
 obtain ⟨μ,S,hi⟩:=hr;have hv:=hi.evS c (by rw[hc];exact hp);rw[hc] at hv;exact wp_cond_split hv.eU (λh=>ht h a w ⟨μ,S,hi⟩) (λh=>hf h a w ⟨μ,S,hi⟩)
theorem yT {id:Nat} {c:Code} (h:Cw P C Ret (.code c::.blk id::k) σ):Cw P C Ret (.code (.block id c)::k) σ:=λa w hr=>
 wp_block (wp_mono (h a w hr) λe a w q=>by
  cases e with
  | exit i=>
   simp only[aft,sem] at q;simp only[Exit.inBlock]
   by_cases e:id=i
   ·rw[if_pos e] at q;rw[if_pos e.symm];exact q
   ·rw[if_neg e] at q;rw[if_neg (λh=>e h.symm)];exact q
  | _=>first | exact q | exact q.elim)
def exitTo:Nat->List It->Option (List It)
 | id,.blk i::k=>if i=id then some k else exitTo id k
 | id,_::k=>exitTo id k
 | _,[]=>none
theorem nk {R:Act->World->Prop} {id:Nat}:∀{k k':List It},exitTo id k=some k'->(sem P C R k).2 id=(sem P C R k').1
 | [],_,h=>by cases h
 | .blk i::k,k',h=>by
  simp only[exitTo] at h;simp only[sem];split at h
  ·rename_i e;injection h with h;subst h;rw[if_pos e]
  ·rename_i e;rw[if_neg e];exact nk h
 | .code c::k,k',h=>by simp only[sem];exact nk (k:=k) Wq
 | .ops a l::k,k',h=>by simp only[sem];exact nk (k:=k) Wq
 | .back J::k,k',h=>by simp only[sem];exact nk (k:=k) Wq
theorem CS {id:Nat} {k':List It} (he:exitTo id k=some k') (h:Cw P C Ret k' σ):Cw P C Ret (.code (.exit id)::k) σ:=λa w hr=>
 wp_exit (by show (sem P C _ k).2 id a w;rw[nk he];exact h a w hr)
theorem jz {all:Array Oper} (h:Cw P C Ret k σ):Cw P C Ret (.ops all []::k) σ:=λa w hr=>h a w hr
theorem FO (hT:TabOK P T) {all:Array Oper} {l l':List Oper} {p:Prop} (h:jZ T all l σ=some (p,l',σ')) (hp:p) (hk:Cw P C Ret (.ops all l'::k) σ'):Cw P C Ret (.ops all l::k) σ:=
 jR hT all l σ h hp hk
theorem bE {all:Array Oper} {o:Oper} {l:List Oper} (hg:guardOf all σ o.guard=some true) (ht:eP P C o σ σ') (hk:Cw P C Ret (.ops all l::k) σ'):Cw P C Ret (.ops all (o::l)::k) σ:=
 nu hg ht hk
open Classical in
theorem least {p:Nat->Prop} (h:∃n,p n):∃n,p n/\∀m,m<n->¬p m:=by
 obtain ⟨n,hn⟩:=h
 induction n using Nat.strongRecOn with
 | _ n ih=>
  by_cases h':∃m,m<n/\p m
  ·obtain ⟨m,h1,h2⟩:=h';exact ih m h1 h2
  ·exact ⟨n,hn,λm hm hp=>h' ⟨m,hm,hp⟩⟩
theorem IH {ι:Type} (I:ι->St) (m:ι->Nat) (i0:ι) {c:Code} (h0:Le C σ (I i0))
  (round:∀i,Cw P C Ret (.code c::.back (λs=>∃j,m j<m i/\Le C s (I j))::k) (I i)):Cw P C Ret (.code (.loop c)::k) σ:=by
 classical
 intro a w hr
 let At (a:Act) (w:World) (n:Nat):Prop:=∃i,m i=n/\Rel C (I i) a w
 let M (a:Act) (w:World):Nat:=if h:∃n,At a w n then Classical.choose (least h) else 0
 have hM:∀a w,(∃n,At a w n)->At a w (M a w)/\∀n,At a w n->M a w<=n:=λa w h=>by
  have e:M a w=Classical.choose (least h):=dif_pos h;obtain ⟨h1,h2⟩:=YR (least h);rw[e];refine ⟨h1,λn hn=>?_⟩
  rcases Nat.lt_or_ge n (Classical.choose (least h)) with h3 | h3
  ·exact absurd hn (h2 n h3)
  ·exact h3
 refine wp_loop (λa w=>∃i,Rel C (I i) a w) M ⟨i0,h0 a w hr⟩ λa' w' ⟨i',hi'⟩=>?_
 obtain ⟨⟨i,hi,hri⟩,_⟩:=hM a' w' ⟨m i',i',rfl,hi'⟩;have:=round i a' w' hri;refine wp_mono this λe a2 w2 q=>?_
 cases e with
 | normal=>
  obtain ⟨s,⟨j,hj,hle⟩,hrs⟩:=q;have hrj:=hle a2 w2 hrs;refine ⟨⟨j,hrj⟩,?_⟩;have:=(hM a2 w2 ⟨m j,j,rfl,hrj⟩).2 (m j) ⟨j,rfl,hrj⟩;omega
 | _=>first | exact q | exact q.elim
def yo (T:Tab) (σ:St):ResultVar->Option (Prop×AV)
 | .tmp t=>some (True,σ.tm.getD t .any)
 | .cell a t=>lJ T σ t (σ.tm.getD a .any)
def yn (a:Act):ResultVar->Sem Value
 | .tmp t=>pure (a.tmps.getD t undef)
 | .cell x t=>do loadVar t (<-asAddr (a.tmps.getD x undef))
theorem Ca (fn:Func) (a:Act):results fn a.tmps=(do
  let vs <-fn.results.mapM (yn a)
  pure (if h:vs.size=1 then vs[0] else .tuple vs)):=rfl
def B_ (T:Tab) (σ:St):List ResultVar->Option (Prop×List AV)
 | []=>some (True,[])
 | r::rs=>
  match yo T σ r,B_ T σ rs with
  | some (p,x),some (q,l)=>some (p/\q,x::l)
  | _,_=>none
def one:List AV->AV
 | [x]=>x
 | l=>.tup l
def pN (T:Tab) (σ:St) (rs:List ResultVar):Option (Prop×AV):=(B_ T σ rs).map λr=>(r.1,one r.2)
section
variable {μ:Nat->Option Nat} {S:Nat->Prop} {a:Act} {w:World}
theorem ux (hT:TabOK P T) (hi:Inv C μ S σ a w):∀(rs:List ResultVar) {p:Prop} {l:List AV},B_ T σ rs=some (p,l)->p ->
  ∃vs:List Value,(rs.mapM (yn a)).run P w=.ok vs w /\
   vs.length=l.length/\∀(j:Nat) x,l[j]? = some x->Rd μ S w (vs.getD j undef) x
 | [],p,l,h,_=>by
  simp only[B_,gL,gM] at h;obtain ⟨_,rfl⟩:=h;exact ⟨[],by simp,rfl,λj x hx=>by simp at hx⟩
 | r::rs,p,l,h,hp=>by
  unfold B_ at h;split at h
  ·rename_i p1 x q l' h1 h2;simp only[gL,gM] at h;obtain ⟨rfl,rfl⟩:=h;obtain ⟨vs,k1,k2,k3⟩:=ux hT hi rs h2 hp.2;have key:∃u,(yn a r).run P w=.ok u w/\Rd μ S w u x:=by
    cases r with
    | tmp t=>
     simp only[yo,gL,gM] at h1;obtain ⟨_,rfl⟩:=h1;exact ⟨_,rfl,hi.ev (.tmp t)⟩
    | cell b t=>
     simp only[yo] at h1;obtain ⟨u,j1,j2⟩:=uL hT hi h1 hp.1 (hi.ev (.tmp b));refine ⟨u,?_,j2⟩;have hv:=hi.ev (.tmp b);simp only[Act.eval] at hv j1;simp only[yn,Instr.loadAt,Sem.run_bind] at j1 ⊢
     revert j1
     cases a.tmps.getD b undef<;>simp[Instr.sureAddr,asAddr];rename_i A;cases A<;>simp
   obtain ⟨u,j1,j2⟩:=key;refine ⟨u::vs,?_,by simp[k2],λj y hy=>?_⟩
   ·rw[List.mapM_cons];simp only[Sem.run_bind,j1,Result.andThen_ok,k1,Sem.run_pure]
   ·cases j with
    | zero=>simp only[List.getElem?_cons_zero,gL] at hy;subst hy;exact j2
    | succ j=>simpa using k3 j y (by simpa using hy)
  ·cases h
theorem Ez (hT:TabOK P T) (hi:Inv C μ S σ a w) {fn:Func} {p:Prop} {r:AV} (h:pN T σ fn.results.toList=some (p,r)) (hp:p) :
  ∃v,(results fn a.tmps).run P w=.ok v w/\Rd μ S w v r:=by
 unfold pN at h;cases e:B_ T σ fn.results.toList with
 | none=>rw[e] at h;cases h
 | some q=>
  obtain ⟨q1,l⟩:=q;simp only[e,Option.map_some,gL,gM] at h;obtain ⟨rfl,rfl⟩:=h;obtain ⟨vs,h1,h2,h3⟩:=ux hT hi _ e hp;refine ⟨if h:vs.toArray.size=1 then vs.toArray[0] else .tuple vs.toArray,?_,?_⟩
  ·rw[Ca];rw[Array.mapM_eq_mapM_toList];simp only[Sem.run_bind,Sem.run_map,h1,Result.andThen_ok,Sem.run_pure]
  ·match l,h2,h3 with
   | [],h2,h3=>
    have:vs=[]:=List.eq_nil_of_length_eq_zero h2;subst this;exact .tup #[] [] rfl (λj x hx=>by simp at hx)
   | [x],h2,h3=>
    match vs,h2 with
    | [v],_=>simpa[one] using h3 0 x rfl
   | x::y::l,h2,h3=>
    rw[dif_neg (by simp at h2 ⊢;omega)];exact .tup _ _ WU (λj z hz=>by
     have:=h3 j z hz
     rwa [Array.getD_eq_getD_getElem?,List.getElem?_toArray,<-List.getD_eq_getElem?_getD])
end
structure HpOK (μ:Nat->Option Nat) (S:Nat->Prop) (w:World) (H:List (Nat×Blk)):Prop where
 blk:∀id b,aa H id=some b->cR μ S w id b
 dom:∀id g,μ id=some g->(∃b,aa H id=some b)/\¬S g/\g<w.heap.size
 inj:∀id id' g,μ id=some g->μ id'=some g->id=id'
 glob:GOK μ w
def aj (P:Program) (f:FuncId) (args:List AV) (H:List (Nat×Blk)) (post:AV->List (Nat×Blk)->Prop):Prop:=
 ∀(R0:Nat->Prop) (μ:Nat->Option Nat) (w0:World) (vs:List Value),vs.length=args.length->(∀(j:Nat) x,args[j]? = some x->Rd μ R0 w0 (vs.getD j undef) x) ->
  HpOK μ R0 w0 H->(∀b,R0 b->b<w0.heap.size) ->
  Calls P f vs.toArray w0 λe w'=>∃v r H' μ' S',e=.returned v/\post r H'/\Rd μ' S' w' v r/\HpOK μ' S' w' H'/\Frm (λg=>∃id,μ id=some g) w0 w' /\
   (∀id g,μ' id=some g->(∃id',μ id'=some g)\/w0.heap.size<=g)/\(∀b,S' b->b<w'.heap.size/\(R0 b\/(∃id,μ id=some b)\/w0.heap.size<=b))
theorem F5 (hT:TabOK P T) {f:FuncId} {fn:Func} {c:Code} {args:List AV} {H:List (Nat×Blk)} {post:AV->List (Nat×Blk)->Prop}
  (hf:P.funcs[f]? = some fn) (hb:fn.body=some c)
  (h:∀C:Ctx,Cw P C (λs=>∃p r,pN T s fn.results.toList=some (p,r)/\p/\post r s.hp) [.code c] ⟨args++List.replicate (fn.ntmps-args.length) .any,H⟩):aj P f args H post:=by
 intro R0 μ w0 vs hl hargs hH hR
 let C:Ctx:=⟨w0,λg=>∃id,μ id=some g,R0,hH.glob⟩
 refine calls_of_wp hf hb ?_;have hrel:Rel C ⟨args++List.replicate (fn.ntmps-args.length) .any,H⟩ { tmps:=vs.toArray++Array.replicate (fn.ntmps-vs.toArray.size) undef,defers:=[] } w0:=by
  refine ⟨μ,R0,by simp[hl],rfl,λt x hx=>?_,hH.blk,λid g hg=>⟨(hH.dom id g hg).1,.inl ⟨id,hg⟩,(hH.dom id g hg).2⟩,hH.inj,Frm.refl _ _,λb hb=>⟨hR b hb,.inl hb⟩⟩
  by_cases ht:t<args.length
  ·rw[YP ht] at hx;have:=hargs t x hx;rw[List.getD_eq_getElem?_getD] at this;rw[Array.getD_eq_getD_getElem?,Yh (by simpa[hl] using ht)];simpa using this
  ·rw[YO z8,Ys] at hx;split at hx
   ·injection hx with hx;subst hx;exact .any _
   ·cases hx
 have hw:=h C _ _ hrel;refine wp_mono hw λex a w q=>?_
 have key:eI C (λs=>∃p r,pN T s fn.results.toList=some (p,r)/\p/\post r s.hp) a w->a.defers=[]/\∃v,(results fn a.tmps).run P w=.ok v w /\
   ∃v' r H' μ' S',Ending.returned v=.returned v'/\post r H'/\Rd μ' S' w v' r/\HpOK μ' S' w H'/\Frm (λg=>∃id,μ id=some g) w0 w /\
   (∀id g,μ' id=some g->(∃id',μ id'=some g)\/w0.heap.size<=g)/\(∀b,S' b->b<w.heap.size/\(R0 b\/(∃id,μ id=some b)\/w0.heap.size<=b)):=by
  rintro ⟨s,⟨p,r,h1,h2,h3⟩,μ',S',hi⟩;obtain ⟨v,k1,k2⟩:=Ez hT hi h1 h2;exact ⟨hi.defers,v,k1,v,r,s.hp,μ',S',rfl,h3,k2,⟨hi.hp,λid g hg=>⟨(hi.dom id g hg).1,(hi.dom id g hg).2.2⟩,hi.inj,hi.gok⟩,hi.frm,λid g hg=>(hi.dom id g hg).2.1,hi.sb⟩
 cases ex with
 | normal=>exact key q
 | ret=>exact key q
 | exit id=>exact q.elim
 | _=>exact q.elim
end
end Go.Eng
namespace Go.Eng
section
variable {P:Program} {T:Tab} {C:Ctx} {σ σ':St}
def aJ (P:Program) (f:FuncId):Prop:=∃fn,P.funcs[f]? = some fn/\(fn.name == "runtime.NumGoroutine")=false/\fn.body.isSome=true
mutual
def AV.scalar:AV->Bool
 | .int .. | .bool _ | .str _ | .nilp | .nili | .ifc | .nils | .nilm=>true
 | .tup vs=>nM vs
 | .agg vs=>nM vs
 | _=>false
def nM:List AV->Bool
 | []=>true
 | x::r=>x.scalar&&nM r
end
theorem kl {x:AV}:∀{l:List AV} {j:Nat},nM l=true->l[j]? = some x->x.scalar=true
 | [],j,_,h=>by simp at h
 | y::r,j,hl,h=>by
  simp only[nM,Bool.and_eq_true] at hl;cases j with
  | zero=>simp only[List.getElem?_cons_zero,gL] at h;subst h;exact hl.1
  | succ j=>exact kl hl.2 x7
theorem RdP.scalar {S S':Nat->Prop} {w w':World} {v:Value} {x:AV} (h:RdP S w v x) (hx:x.scalar=true):RdP S' w' v x:=by
 induction h with
 | int k n=>exact .int k n
 | bool b=>exact .bool b
 | str s l h=>exact .str s l h
 | nilp=>exact .nilp
 | nili=>exact .nili
 | ifc t p=>exact .ifc t p
 | nils=>exact .nils
 | nilm=>exact .nilm
 | agg cs cells hl hr ih=>exact .agg cs cells hl (λj x hj=>ih j x hj (kl WZ hj))
 | sl=>cases hx
 | rp=>cases hx
 | rm=>cases hx
 | fn=>cases hx
theorem Rd.scalar {μ μ':Nat->Option Nat} {S S':Nat->Prop} {w w':World} {v:Value} {x:AV} (h:Rd μ S w v x) (hx:x.scalar=true):Rd μ' S' w' v x:=by
 induction h with
 | any=>cases hx
 | pure h=>exact .pure (h.scalar hx)
 | agg cs cells hl hr ih=>exact .agg cs cells hl (λj x hj=>ih j x hj (kl WZ hj))
 | tup cs cells hl hr ih=>exact .tup cs cells hl (λj x hj=>ih j x hj (kl WZ hj))
 | fn=>cases hx
 | ptr=>cases hx
 | osl=>cases hx
 | mp=>cases hx
 | exs=>cases hx
 | cndT=>cases hx
 | cndF=>cases hx
theorem Rd.free {μ μ':Nat->Option Nat} {S:Nat->Prop} {w:World} {v:Value} {x:AV} (h:Rd μ S w v x) (hx:refs x=[]):Rd μ' S w v x:=by
 induction h with
 | any v=>exact .any v
 | pure h=>exact .pure h
 | agg cs cells hl hr ih=>exact .agg cs cells hl (λj x hj=>ih j x hj (refsL_nil WK hj))
 | tup cs cells hl hr ih=>exact .tup cs cells hl (λj x hj=>ih j x hj (refsL_nil WK hj))
 | fn f vals caps hl hr ih=>exact .fn f vals caps hl (λj x hj=>ih j x hj (refsL_nil WK hj))
 | ptr=>simp[refs] at hx
 | osl=>simp[refs] at hx
 | mp=>simp[refs] at hx
 | exs=>simp[refs] at hx
 | cndT v x h ih=>exact .cndT v x (ih WK)
 | cndF x=>exact .cndF x
where
 refsL_nil {x:AV}:∀{l:List AV} {j:Nat},aB l=[]->l[j]? = some x->refs x=[]
  | [],j,_,h=>by simp at h
  | y::r,j,hl,h=>by
   simp only[aB,List.append_eq_nil_iff] at hl;cases j with
   | zero=>simp only[List.getElem?_cons_zero,gL] at h;subst h;exact hl.1
   | succ j=>exact refsL_nil hl.2 x7
theorem Inv.called {μ:Nat->Option Nat} {S S':Nat->Prop} {a:Act} {w w':World} (hi:Inv C μ S σ a w) (hf:Frm (λ_=>False) w w')
  (hS:∀b,S' b->b<w'.heap.size/\(S b\/w.heap.size<=b)):Inv C μ (λb=>S b\/S' b) σ a w':=by
 have hb:∀b,b<w.heap.size->w'.heap[b]? = w.heap[b]?:=λb h=>hf.block b h (λh=>h)
 have hw:aH S w w':=λb h=>hb b (hi.sb b h).1
 have hz:∀i g,μ i=some g->ag w' g=ag w g:=λi g h=>aN (hb g (hi.dom i g h).2.2.2)
 refine ⟨hi.size,hi.defers,λt x hx=>(hi.tm t x hx).mono hw (λ_ h=>.inl h) (λ_ _ h=>h) hz,λi b h=>(hi.hp i b h).mono hw (λ_ h=>.inl h) (λ_ _ h=>h) hz (λh=>h) (λg h=>hb g (hi.dom i g h).2.2.2),λi g h=>?_,hi.inj,hi.frm.step (λ_=>False) hf (λ_ h=>h.elim),λb h=>?_⟩
 ·obtain ⟨h1,h2,h3,h4⟩:=hi.dom i g h;refine ⟨h1,h2,?_,YZ h4 hf.size⟩;rintro (h | h)
  ·exact h3 h
  ·rcases (hS g h).2 with h | h
   ·exact h3 h
   ·omega
 ·rcases h with h | h
  ·exact ⟨YZ (hi.sb b h).1 hf.size,(hi.sb b h).2⟩
  ·refine ⟨(hS b h).1,?_⟩
   rcases (hS b h).2 with h | h
   ·exact (hi.sb b h).2
   ·have:=hi.frm.size;exact .inr (.inr z8)
def az (σ:St) (c:Operand) (args:List Operand):Option (Prop×FuncId×List AV):=
 match evS σ c with
 | (p,.fn f caps)=>some (p/\(eN σ args).1,f,(eN σ args).2++caps)
 | _=>none
theorem jj {o:Oper} {c:Operand} {args:Array Operand} {ats:Array TypeId} {μ:Nat->Option Nat} {S:Nat->Prop} {a:Act} {w:World} (hi:Inv C μ S σ a w)
  (ho:o.op=.call { callee:=.value c,args,argTypes:=ats }) {p:Prop} {f:FuncId} {xs:List AV} (h:az σ c args.toList=some (p,f,xs)) (hp:p) (hc:aJ P f) :
  ∃vs:List Value,vs.length=xs.length/\(∀(j:Nat) x,xs[j]? = some x->Rd μ S w (vs.getD j undef) x)/\(execOp a.eval o).run P w=.ok (.enter f vs.toArray) w:=by
 unfold az at h;split at h
 ·rename_i q f' caps hev;simp only[gL,gM] at h;obtain ⟨rfl,rfl,rfl⟩:=h;have hv:=hi.evS c (by rw[hev];exact hp.1);rw[hev] at hv;obtain ⟨vals,he,hl,hr⟩:=hv.BE;obtain ⟨fn,hf,hn,hb⟩:=hc;refine ⟨args.toList.map a.eval++vals.toList,by simp[mC,hl],λj x hx=>?_,?_⟩
  ·by_cases hj:j<args.toList.length
   ·rw[YP (by rw[mC];exact hj)] at hx;obtain ⟨o',ho',hr'⟩:=hi.eN _ hp.2 j x hx;rw[List.getD_eq_getElem?_getD,YP QR,W2,ho'];exact hr'
   ·rw[YO (by rw[mC];omega),mC] at hx;have:=hr _ x hx;rw[List.getD_eq_getElem?_getD,YO QR];rw[Array.getD_eq_getD_getElem?,<-Array.getElem?_toList] at this;rw[List.length_map];exact this
  ·have hb':¬fn.body=none:=by intro e;rw[e] at hb;cases hb
   have hn':¬fn.name = "runtime.NumGoroutine":=by simpa using hn
   have e1:(#[]++args.map a.eval++vals)=(args.toList.map a.eval++vals.toList).toArray:=by
    apply Array.ext';simp
   simp[execOp,ho,resolve,he,Deferred.ofValue,invoke,callFunc,hf,hn',hb']
 ·cases h
theorem nO {o:Oper} {c:Operand} {args:Array Operand} {ats:Array TypeId} (ho:o.op=.call { callee:=.value c,args,argTypes:=ats }) {p:Prop} {f:FuncId} {xs:List AV}
  (h:az σ c args.toList=some (p,f,xs)) (hp:p) (hc:aJ P f) (hx:aB xs=[]) {r:AV} (hr:refs r=[]) (hf:aj P f xs [] λr' _=>r'=r):eP P C o σ (σ.put o.dst r):=by
 intro a w K Q ⟨μ,S,hi⟩ hK;obtain ⟨vs,h1,h2,h3⟩:=jj hi ho h hp hc;unfold Oper.wp;rw[h3];refine (hf S (λ_=>none) w vs h1 (λj x hj=>(h2 j x hj).free (Rd.free.refsL_nil hx hj)) ⟨λid b h=>by simp[aa] at h,λid g h=>Ql,λid id' g h=>Ql,hi.gok.nil⟩ (λb hb=>(hi.sb b hb).1)).mono ?_;rintro e w' ⟨v,r',H',μ',S',rfl,rfl,k1,k2,k3,k4,k5⟩;have hfr:Frm (λ_=>False) w w':=⟨k3.os,k3.tape,k3.output,k3.size,λb hb _=>k3.block b hb Wa⟩;have hi':=hi.called hfr (S':=S') (λb hb=>⟨(k5 b hb).1,by
  rcases (k5 b hb).2 with h | ⟨id,h⟩ | h
  ·exact .inl h
  ·cases h
  ·exact .inr h⟩)
 exact hK _ _ ⟨μ,_,hi'.put o.dst ((k1.mono (aH.refl _ _) (λ_ h=>.inr h) (λ_ _ h=>h) (λ_ _ _=>rfl)).free hr)⟩
mutual
def view (h:List (Nat×Blk)):AV->Option (Prop×AV)
 | .osl id s off len=>
  match aa h id with
  | some (.cells _ s' rows)=>if s=s' then some (off+len<=rows.length/\(rows.all λrow=>row.all AV.aW)=true,.sl ((rows.drop off).take len)) else none
  | _=>none
 | .ptr id s row off=>
  match aa h id with
  | some (.cells _ s' rows)=>if s=s' then some (row<rows.length/\((rows.getD row []).all AV.aW)=true,.rp (rows.getD row []) off) else none
  | _=>none
 | .mp id=>
  match aa h id with
  | some (.map kvs)=>some (True,.rm kvs)
  | _=>none
 | .fn f caps=>(fD h caps).map λr=>(r.1,.fn f r.2)
 | .agg cells=>(fD h cells).map λr=>(r.1,.agg r.2)
 | .any=>none
 | .tup _=>none
 | .cnd ..=>none
 | .exs ..=>none
 | x=>some (True,x)
def fD (h:List (Nat×Blk)):List AV->Option (Prop×List AV)
 | []=>some (True,[])
 | x::r=>
  match view h x,fD h r with
  | some (p,y),some (q,l)=>some (p/\q,y::l)
  | _,_=>none
end
theorem Dn {l:List (List AV)} {i:Nat} (h:i<l.length):l[i]? = some (l.getD i []):=by
 rw[List.getD_eq_getElem?_getD,Wz h];rfl
mutual
theorem CC {μ:Nat->Option Nat} {S:Nat->Prop} {a:Act} {w:World} (hi:Inv C μ S σ a w):∀(x:AV) {p:Prop} {y:AV} {v:Value},view σ.hp x=some (p,y)->p->Rd μ S w v x ->
  RdP (λb=>S b\/∃id,μ id=some b) w v y
 | .osl id s off len,p,y,v,h,hp,hv=>by
  simp only[view] at h;split at h
  ·rename_i e s' rows hb;split at h
   ·rename_i hs;subst hs;simp only[gL,gM] at h;obtain ⟨rfl,rfl⟩:=h;obtain ⟨hle,hpure⟩:=hp;obtain ⟨A,cap,rfl,hc,hor⟩:=hv.bZ;have hl:((rows.drop off).take len).length=len:=by simp;omega
    rcases hor with ⟨rfl,h2⟩ | ⟨g,e',n,h1,rfl,h3,h4⟩
    ·exact .sl A 0 cap _ s 0 0 (λ_ _=>undef) hl hc (λrow h=>by simp at h) (λh=>by omega) (λi j h=>by omega) (λi row h=>by simp at h)
    ·rcases hi.hp id _ hb with ⟨_,k2⟩ | ⟨g',c,k1,k2,k3,k4,k5⟩
     ·rw[k2] at h1;cases h1
     ·rw[k1] at h1;injection h1 with h1;subst h1
      refine .sl _ len cap _ s g' (off*s) (λi j=>c.getD ((off+i)*s+j) undef) hl hc (λrow h=>k4 row (YY (YF h))) (λ_=>⟨rfl,.inr ⟨id,k1⟩⟩) (λi j hi' hj=>?_) (λi row h j x hx=>?_)
      ·have hlt:(off+i)*s+s<=rows.length*s:=by
        have:=YJ s (show off+i+1<=rows.length by omega)
        rwa [Yy] at this
       rw[show off*s+(i*s+j)=(off+i)*s+j from by rw[Nat.add_mul];omega,cell_of k2,Array.getD_eq_getD_getElem?,YC z8];rfl
      ·rw[YU] at h;split at h
       ·rw[List.getElem?_drop] at h;exact ((k5 _ row h j x hx).toP (List.all_eq_true.1 (List.all_eq_true.1 hpure row (W3 h)) x (W3 hx))).mono (aH.refl _ _) (λ_ h=>.inl h)
       ·cases h
   ·cases h
  ·cases h
 | .ptr id s row off,p,y,v,h,hp,hv=>by
  simp only[view] at h;split at h
  ·rename_i e s' rows hb;split at h
   ·rename_i hs;subst hs;simp only[gL,gM] at h;obtain ⟨rfl,rfl⟩:=h;obtain ⟨hrow,hpure⟩:=hp;obtain ⟨g,hg,rfl⟩:=hv.iZ
    rcases hi.hp id _ hb with ⟨rfl,_⟩ | ⟨g',c,k1,k2,k3,k4,k5⟩
    ·simp at hrow
    ·rw[k1] at hg;injection hg with hg;subst hg
     have hr:=Dn hrow;have hlen:=k4 _ (W3 hr);have hlt:=iM (size:=s) hr;refine .rp g' (row*s) off _ (λj=>c.getD (row*s+j) undef) (.inr ⟨id,k1⟩) (λj hj=>?_) (λj x hx=>?_)
     ·rw[cell_of k2,Array.getD_eq_getD_getElem?,YC z8];rfl
     ·exact ((k5 _ _ hr j x hx).toP (List.all_eq_true.1 hpure x (W3 hx))).mono (aH.refl _ _) (λ_ h=>.inl h)
   ·cases h
  ·cases h
 | .mp id,p,y,v,h,hp,hv=>by
  simp only[view] at h;split at h
  ·rename_i kvs hb;simp only[gL,gM] at h;obtain ⟨_,rfl⟩:=h;obtain ⟨g,hg,rfl⟩:=hv.tZ;obtain ⟨g',es,clk,vals,k1,k2,k3,k4⟩:=hi.hp id _ hb;rw[k1] at hg;injection hg with hg;subst hg
   exact .rm g' es clk kvs vals (.inr ⟨id,k1⟩) k2 k3 (λq hq=>(k4 q hq).mono (aH.refl _ _) (λ_ h=>.inl h))
  ·cases h
 | .fn f caps,p,y,v,h,hp,hv=>by
  simp only[view] at h;cases e:fD σ.hp caps with
  | none=>rw[e] at h;cases h
  | some q=>
   obtain ⟨q1,l⟩:=q;simp only[e,Option.map_some,gL,gM] at h;obtain ⟨rfl,rfl⟩:=h;obtain ⟨vals,rfl,hl,hr⟩:=hv.BE;obtain ⟨h1,h2⟩:=kp hi caps e hp (λj=>vals.getD j undef) hr;exact .fn f vals l (by rw[hl,h1]) h2
 | .agg cells,p,y,v,h,hp,hv=>by
  simp only[view] at h;cases e:fD σ.hp cells with
  | none=>rw[e] at h;cases h
  | some q=>
   obtain ⟨q1,l⟩:=q;simp only[e,Option.map_some,gL,gM] at h;obtain ⟨rfl,rfl⟩:=h;obtain ⟨cs,rfl,hl,hr⟩:=hv.nC;obtain ⟨h1,h2⟩:=kp hi cells e hp (λj=>cs.getD j undef) hr;exact .agg cs l (by rw[hl,h1]) h2
 | .any,p,y,v,h,_,_=>by simp[view] at h
 | .tup _,p,y,v,h,_,_=>by simp[view] at h
 | .cnd ..,p,y,v,h,_,_=>by simp[view] at h
 | .exs ..,p,y,v,h,_,_=>by simp[view] at h
 | .int k n,p,y,v,h,_,hv=>by simp only[view,gL,gM] at h;obtain ⟨_,rfl⟩:=h;exact (hv.toP rfl).mono (aH.refl _ _) (λ_ h=>.inl h)
 | .bool b,p,y,v,h,_,hv=>by simp only[view,gL,gM] at h;obtain ⟨_,rfl⟩:=h;exact (hv.toP rfl).mono (aH.refl _ _) (λ_ h=>.inl h)
 | .str s,p,y,v,h,_,hv=>by simp only[view,gL,gM] at h;obtain ⟨_,rfl⟩:=h;exact (hv.toP rfl).mono (aH.refl _ _) (λ_ h=>.inl h)
 | .nilp,p,y,v,h,_,hv=>by simp only[view,gL,gM] at h;obtain ⟨_,rfl⟩:=h;exact (hv.toP rfl).mono (aH.refl _ _) (λ_ h=>.inl h)
 | .nili,p,y,v,h,_,hv=>by simp only[view,gL,gM] at h;obtain ⟨_,rfl⟩:=h;exact (hv.toP rfl).mono (aH.refl _ _) (λ_ h=>.inl h)
 | .ifc,p,y,v,h,_,hv=>by simp only[view,gL,gM] at h;obtain ⟨_,rfl⟩:=h;exact (hv.toP rfl).mono (aH.refl _ _) (λ_ h=>.inl h)
 | .nils,p,y,v,h,_,hv=>by simp only[view,gL,gM] at h;obtain ⟨_,rfl⟩:=h;exact (hv.toP rfl).mono (aH.refl _ _) (λ_ h=>.inl h)
 | .nilm,p,y,v,h,_,hv=>by simp only[view,gL,gM] at h;obtain ⟨_,rfl⟩:=h;exact (hv.toP rfl).mono (aH.refl _ _) (λ_ h=>.inl h)
 | .sl rows,p,y,v,h,_,hv=>by simp only[view,gL,gM] at h;obtain ⟨_,rfl⟩:=h;exact (hv.toP rfl).mono (aH.refl _ _) (λ_ h=>.inl h)
 | .rp c o,p,y,v,h,_,hv=>by simp only[view,gL,gM] at h;obtain ⟨_,rfl⟩:=h;exact (hv.toP rfl).mono (aH.refl _ _) (λ_ h=>.inl h)
 | .rm kvs,p,y,v,h,_,hv=>by simp only[view,gL,gM] at h;obtain ⟨_,rfl⟩:=h;exact (hv.toP rfl).mono (aH.refl _ _) (λ_ h=>.inl h)
theorem kp {μ:Nat->Option Nat} {S:Nat->Prop} {a:Act} {w:World} (hi:Inv C μ S σ a w):∀(l:List AV) {p:Prop} {l':List AV},fD σ.hp l=some (p,l')->p->∀(f:Nat->Value),
  (∀(j:Nat) x,l[j]? = some x->Rd μ S w (f j) x)->l.length=l'.length/\∀(j:Nat) x,l'[j]? = some x->RdP (λb=>S b\/∃id,μ id=some b) w (f j) x
 | [],p,l',h,_,f,_=>by
  simp only[fD,gL,gM] at h;obtain ⟨_,rfl⟩:=h;exact ⟨rfl,λj x hx=>by simp at hx⟩
 | x::r,p,l',h,hp,f,hf=>by
  simp only[fD] at h;split at h
  ·rename_i p1 y q l hx hr;simp only[gL,gM] at h;obtain ⟨rfl,rfl⟩:=h;have h1:=CC hi x hx hp.1 (hf 0 x rfl);obtain ⟨h2,h3⟩:=kp hi r hr hp.2 (λj=>f (j+1)) (λj z hz=>hf (j+1) z Za);refine ⟨by simp[h2],λj z hz=>?_⟩;cases j with
   | zero=>simp only[List.getElem?_cons_zero,gL] at hz;subst hz;exact h1
   | succ j=>exact h3 j z Za
  ·cases h
end
theorem xk {o:Oper} {c:Operand} {args:Array Operand} {ats:Array TypeId} (ho:o.op=.call { callee:=.value c,args,argTypes:=ats }) {p q:Prop} {f:FuncId} {xs ys:List AV}
  (h:az σ c args.toList=some (p,f,xs)) (hp:p) (hv:fD σ.hp xs=some (q,ys)) (hq:q) (hc:aJ P f) {r:AV} (hr:r.scalar=true) (hf:aj P f ys [] λr' _=>r'=r) :
  eP P C o σ (σ.put o.dst r):=by
 intro a w K Q ⟨μ,S,hi⟩ hK;obtain ⟨vs,h1,h2,h3⟩:=jj hi ho h hp hc;obtain ⟨g1,g2⟩:=kp hi xs hv hq (λj=>vs.getD j undef) h2;unfold Oper.wp;rw[h3];refine (hf (λb=>S b\/∃id,μ id=some b) (λ_=>none) w vs (by rw[h1,g1]) (λj x hj=>.pure (g2 j x hj)) ⟨λid b h=>by simp[aa] at h,λid g h=>Ql,λid id' g h=>Ql,hi.gok.nil⟩ (λb hb=>by
  rcases hb with hb | ⟨id,hb⟩
  ·exact (hi.sb b hb).1
  ·exact (hi.dom id b hb).2.2.2)).mono ?_
 rintro e w' ⟨v,r',H',μ',S',rfl,rfl,k1,k2,k3,k4,k5⟩;have hfr:Frm (λ_=>False) w w':=⟨k3.os,k3.tape,k3.output,k3.size,λb hb _=>k3.block b hb Wa⟩;have hi':=hi.called hfr (S':=λ_=>False) (λb hb=>hb.elim);exact hK _ _ ⟨μ,_,hi'.put o.dst (k1.scalar hr)⟩
end
end Go.Eng
namespace Go.Eng
section
variable {P:Program} {T:Tab} {C:Ctx} {σ σ':St} {Ret:St->Prop}
def go (T:Tab):Nat->List It->St->Option (Prop×List It×St)
 | 0,k,σ=>some (True,k,σ)
 | n+1,k,σ=>
  match k with
  | .code (.seq x y)::k=>go T n (.code x::.code y::k) σ
  | .code (.block id c)::k=>go T n (.code c::.blk id::k) σ
  | .code .skip::k=>go T n k σ
  | .blk _::k=>go T n k σ
  | .code (.exit id)::k=>
   match exitTo id k with
   | some k'=>go T n k' σ
   | none=>none
  | .code (.region _ ops false)::k=>go T n (.ops ops ops.toList::k) σ
  | .ops all l::k=>
   match jZ T all l σ with
   | some (p,[],σ')=>(go T n k σ').map λr=>(p/\r.1,r.2)
   | some (p,o::l',σ')=>some (p,.ops all (o::l')::k,σ')
   | none=>none
  | k=>some (True,k,σ)
theorem fw (hT:TabOK P T):∀(n:Nat) {k k':List It} {σ σ':St} {p:Prop},go T n k σ=some (p,k',σ')->p->Cw P C Ret k' σ'->Cw P C Ret k σ
 | 0,k,k',σ,σ',p,h,_,hk=>by
  simp only[go,gL,gM] at h;obtain ⟨_,rfl,rfl⟩:=h;exact hk
 | n+1,k,k',σ,σ',p,h,hp,hk=>by
  unfold go at h;split at h
  ·exact qh (fw hT n h hp hk)
  ·exact yT (fw hT n h hp hk)
  ·exact CV (fw hT n h hp hk)
  ·exact FL (fw hT n h hp hk)
  ·split at h
   ·rename_i k1 he;exact CS he (fw hT n h hp hk)
   ·cases h
  ·exact vI (fw hT n h hp hk)
  ·rename_i all l k2;split at h
   ·rename_i q σ1 hr;cases e:go T n k2 σ1 with
    | none=>rw[e] at h;cases h
    | some r=>
     obtain ⟨r1,r2,r3⟩:=r;simp only[e,Option.map_some,gL,gM] at h;obtain ⟨rfl,rfl,rfl⟩:=h;exact FO hT hr hp.1 (jz (fw hT n e hp.2 hk))
   ·rename_i q o l' σ1 hr;simp only[gL,gM] at h;obtain ⟨rfl,rfl,rfl⟩:=h;exact FO hT hr hp hk
   ·cases h
  ·simp only[gL,gM] at h;obtain ⟨_,rfl,rfl⟩:=h;exact hk
end
end Go.Eng

/- Texts of this claim, part 1: Glb, EngA, EngB, EngC. No condition. -/
import Derived.KernelRfl
import Derived.Calls
import Derived.Orders
import Derived.Laws.World
import Derived.Laws.Cells
import Derived.Laws.Entries
import Derived.Laws.Strings
import Derived.Laws.Concat
import Derived.Laws.Cover1
set_option maxRecDepth 10000
set_option maxHeartbeats 4000000
set_option linter.unusedSimpArgs false
set_option linter.unusedVariables false
theorem W3:type_of% @List.getElem?_eq_getElem:=@List.getElem?_eq_getElem
theorem W4:type_of% @List.take_of_length_le:=@List.take_of_length_le
theorem W5:type_of% @List.getElem?_map:=@List.getElem?_map
theorem W6:type_of% @List.mem_of_getElem?:=@List.mem_of_getElem?
theorem W7:type_of% @List.take_length:=@List.take_length
theorem W8:type_of% @List.mem_map:=@List.mem_map
theorem W9:type_of% @List.getElem?_eq_some_iff:=@List.getElem?_eq_some_iff
theorem YA:type_of% @Nat.le_refl:=@Nat.le_refl
theorem YB:type_of% @List.length_filter_le:=@List.length_filter_le
theorem YC:type_of% @List.getElem?_of_mem:=@List.getElem?_of_mem
theorem YF:type_of% @List.length_take:=@List.length_take
theorem YI:type_of% @List.mem_append_right:=@List.mem_append_right
theorem YJ:type_of% @List.mem_of_mem_take:=@List.mem_of_mem_take
theorem YK:type_of% @Array.getElem?_eq_getElem:=@Array.getElem?_eq_getElem
theorem YL:type_of% @List.mem_filter:=@List.mem_filter
theorem YM:type_of% @Nat.mul_le_mul_right:=@Nat.mul_le_mul_right
theorem YN:type_of% @List.findIdx?_eq_some_iff_getElem:=@List.findIdx?_eq_some_iff_getElem
theorem YO:type_of% @List.findIdx?_eq_none_iff:=@List.findIdx?_eq_none_iff
theorem YP:type_of% @List.getElem?_set:=@List.getElem?_set
theorem YQ:type_of% @List.getElem?_append_right:=@List.getElem?_append_right
theorem YR:type_of% @List.length_set:=@List.length_set
theorem YS:type_of% @List.mem_append_left:=@List.mem_append_left
theorem YU:type_of% @List.getElem?_append_left:=@List.getElem?_append_left
theorem YV:type_of% @Classical.choose_spec:=@Classical.choose_spec
theorem YW:type_of% @List.getElem?_take:=@List.getElem?_take
theorem YX:type_of% @Option.map_eq_some_iff:=@Option.map_eq_some_iff
theorem YY:type_of% @List.getElem_mem:=@List.getElem_mem
theorem YZ:type_of% @List.length_drop:=@List.length_drop
theorem Ya:type_of% @List.mem_range:=@List.mem_range
theorem Yb:type_of% @List.mem_of_mem_drop:=@List.mem_of_mem_drop
theorem Yc:type_of% @Nat.lt_of_lt_of_le:=@Nat.lt_of_lt_of_le
theorem Yd:type_of% @Nat.zero_add:=@Nat.zero_add
theorem Ye:type_of% @List.filter_eq_self:=@List.filter_eq_self
theorem Yf:type_of% @Option.isSome_iff_exists:=@Option.isSome_iff_exists
theorem Yg:type_of% @Array.getElem?_eq_some_iff:=@Array.getElem?_eq_some_iff
theorem Yh:type_of% @List.contains_iff_mem:=@List.contains_iff_mem
theorem Yi:type_of% @List.map_map:=@List.map_map
theorem Yj:type_of% @Array.getElem?_append_left:=@Array.getElem?_append_left
theorem Yk:type_of% @Array.getElem?_setIfInBounds:=@Array.getElem?_setIfInBounds
theorem Yl:type_of% @List.mem_or_eq_of_mem_set:=@List.mem_or_eq_of_mem_set
theorem Ym:type_of% @List.map_congr_left:=@List.map_congr_left
theorem Yn:type_of% @Nat.le_trans:=@Nat.le_trans
theorem Yo:type_of% @Bool.not_eq_true':=@Bool.not_eq_true'
theorem Yp:type_of% @Nat.add_sub_cancel_left:=@Nat.add_sub_cancel_left
theorem Yq:type_of% @Nat.sub_self:=@Nat.sub_self
theorem Yr:type_of% @List.pairwise_iff_getElem:=@List.pairwise_iff_getElem
theorem Ys:type_of% @Nat.zero_le:=@Nat.zero_le
theorem Yt:type_of% @List.drop_of_length_le:=@List.drop_of_length_le
theorem Yu:type_of% @Nat.min_eq_left:=@Nat.min_eq_left
theorem Yv:type_of% @Bool.eq_iff_iff:=@Bool.eq_iff_iff
theorem Yw:type_of% @List.getElem?_range:=@List.getElem?_range
theorem Yx:type_of% @List.length_replicate:=@List.length_replicate
theorem Yy:type_of% @Nat.add_sub_cancel:=@Nat.add_sub_cancel
theorem Yz:type_of% @Bool.false_or:=@Bool.false_or
theorem Y0:type_of% @List.getElem?_replicate:=@List.getElem?_replicate
theorem Y1:type_of% @List.mem_replicate:=@List.mem_replicate
theorem Y2:type_of% @Bool.or_false:=@Bool.or_false
theorem Y3:type_of% @Bool.true_and:=@Bool.true_and
theorem Y4:type_of% @List.filter_sublist:=@List.filter_sublist
theorem Y5:type_of% @Nat.succ_mul:=@Nat.succ_mul
theorem q9{p:Prop}(h:p:=by (simp only[pins,gH,gI,gJ,gK];(repeat' refine ZH ?_ ?_);all_goals first | exact YH _ | rfl | simp[go_sem])):p:=h
theorem z6{p:Prop}(h:p:=by simp only[go_sem];exact rfl):p:=h
theorem z7{p:Prop}(h:p:=by simp only[go_sem];try exact rfl):p:=h
theorem z8{p:Prop}(h:p:=by omega):p:=h
theorem w3{p:Prop}(h:p:=by simp[go_sem]):p:=h
theorem w4{p:Prop}(h:p:=by simp only[go_sem,hw];try exact rfl):p:=h
theorem w5{p:Prop}(h:p:=by simp only[go_sem,ZN];try exact rfl):p:=h
theorem w6{p:Prop}(h:p:=by simp only[go_sem,Bool.false_or,Bool.or_true,Bool.true_or,Bool.or_false,↓reduceIte];try exact rfl):p:=h
theorem w7{p:Prop}(h:p:=by simp only[go_sem,Bool.false_or,Bool.or_true,Bool.true_or,Bool.or_false,↓reduceIte];exact rfl):p:=h
theorem w8{p:Prop}(h:p:=by simp):p:=h
theorem w9{p:Prop}(h:p:=by kernel_rfl):p:=h
theorem y6{p:Prop}(h:p:=by simp only[go_sem,how'];try exact rfl):p:=h
theorem y7{p:Prop}(h:p:=by simp[go_sem,hw]):p:=h
theorem y8{p:Prop}(h:p:=by simp only[go_sem,hkd,bne_self_eq_false,cond_true,cond_false,Bool.not_true,Bool.not_false];try exact rfl):p:=h
theorem y9{p:Prop}(h:p:=by simp only[go_sem,kill];exact rfl):p:=h
theorem k0{p:Prop}(h:p:=by simp only[go_sem,ZD];try exact rfl):p:=h
theorem k6{p:Prop}(h:p:=by simp;omega):p:=h
theorem k7{p:Prop}(h:p:=by simp[go_sem,hkd,bne_self_eq_false,cond_true,cond_false,Bool.not_true,Bool.not_false]):p:=h
theorem k8{p:Prop}(h:p:=by simp only[go_sem,hw1];try exact rfl):p:=h
theorem k9{p:Prop}(h:p:=by simp[go_sem,hcaps]):p:=h
theorem j0{p:Prop}(h:p:=by simp only[go_sem,dM];exact rfl):p:=h
theorem j5{p:Prop}(h:p:=by simp[Op.operands]):p:=h
theorem j6{p:Prop}(h:p:=by simp only[go_sem,mv1,kill];exact rfl):p:=h
theorem j7{p:Prop}(h:p:=by simp[go_sem,htk]):p:=h
theorem j8{p:Prop}(h:p:=by simp only[go_sem,hg,ZK];try exact rfl):p:=h
theorem j9{p:Prop}(h:p:=by simp[hE]):p:=h
theorem x6{p:Prop}(h:p:=by simp only[go_sem,hg1,ZN];try exact rfl):p:=h
theorem x7{p:Prop}(h:p:=by decide):p:=h
theorem x8{p:Prop}(h:p:=by simp only[go_sem,hg,ZN];try exact rfl):p:=h
theorem x9{p:Prop}(h:p:=by simp[hge]):p:=h
theorem u1{p:Prop}(h:p:=by simpa using h):p:=h
theorem u2{p:Prop}(h:p:=by simp[go_sem,how']):p:=h
theorem u3{p:Prop}(h:p:=by first | rfl | (simp only[go_sem];exact rfl)):p:=h
theorem u4{p:Prop}(h:p:=by simp only[go_sem,ZR];try exact rfl):p:=h
theorem u5{p:Prop}(h:p:=by simp[hde]):p:=h
theorem u6{p:Prop}(h:p:=by simp only[go_sem,hg];try exact rfl):p:=h
theorem u7{p:Prop}(h:p:=by simp only[go_sem,hg,ZR];try exact rfl):p:=h
theorem u9{p:Prop}(h:p:=by rw[hx];trivial):p:=h
theorem v7{p:Prop}(h:p:=by simp only[go_sem,hw1,hw2,hm,hid,Ne.symm hid,hgl,aF];try exact rfl):p:=h
theorem v8{p:Prop}(h:p:=by simp[bJ,iA,pM];exact rfl):p:=h
theorem s6{p:Prop}(h:p:=by simp only[go_sem,hg,ZE];try exact rfl):p:=h
theorem s7{p:Prop}(h:p:=by simp[go_sem,hst]):p:=h
theorem s8{p:Prop}(h:p:=by simp[refs]):p:=h
theorem s9{p:Prop}(h:p:=by simp only[go_sem,hg1];try exact rfl):p:=h
theorem p4{p:Prop}(h:p:=by rintro rfl;exact hn (by simp[refs])):p:=h
theorem p5{p:Prop}(h:p:=by first | trivial | simp[go_sem]):p:=h
theorem p6{p:Prop}(h:p:=by simp only[go_sem,ZD,ZN];try exact rfl):p:=h
theorem p7{p:Prop}(h:p:=by simp[go_sem,hw1]):p:=h
theorem p8{p:Prop}(h:p:=by simp[go_sem,hg1,ZN]):p:=h
theorem p9{p:Prop}(h:p:=by simp only[go_sem,hw,hgl,hLlt];try exact rfl):p:=h
theorem n3{p:Prop}(h:p:=by simp only[go_sem,hwl1];try exact rfl):p:=h
theorem n4{p:Prop}(h:p:=by simp only[go_sem,hw1,hid,Ne.symm hid];try exact rfl):p:=h
theorem n9{p:Prop}(h:p:=by simp only[go_sem,hid,Ne.symm hid,hcl];try exact rfl):p:=h
theorem QA{p:Prop}(h:p:=by simp only[μ2,upd];rw[if_neg he];exact hg):p:=h
theorem QB{p:Prop}(h:p:=by simp[he]):p:=h
theorem QC{p:Prop}(h:p:=by simp only[go_sem,ZK];try exact rfl):p:=h
theorem QD{p:Prop}(h:p:=by simp only[go_sem,hwn,hwv];try exact rfl):p:=h
theorem QE{p:Prop}(h:p:=by simp only[go_sem,hw,ZR];try exact rfl):p:=h
theorem QF{p:Prop}(h:p:=by simp only[go_sem,hg,ZC];try exact rfl):p:=h
theorem QG{p:Prop}(h:p:=by rw[List.length_take];omega):p:=h
theorem QH{p:Prop}(h:p:=by rintro ⟨id,h⟩;exact (hi.dom id b (mc h).2).2.2.1 hb):p:=h
theorem QI{p:Prop}(h:p:=by simp only[go_sem,hw3];try exact rfl):p:=h
theorem QJ{p:Prop}(h:p:=by simp only[go_sem,hwk];try exact rfl):p:=h
theorem QK{p:Prop}(h:p:=by simp only[go_sem,hwp];try exact rfl):p:=h
theorem QL{p:Prop}(h:p:=by simp[go_sem,hk2]):p:=h
theorem QM{p:Prop}(h:p:=by simp[hk]):p:=h
theorem QN{p:Prop}(h:p:=by rw[ea,List.length_map];exact hl):p:=h
theorem QO{p:Prop}(h:p:=by simp only[go_sem,ZN,aw];try exact rfl):p:=h
theorem QP{p:Prop}(h:p:=by simp only[go_sem,ZN,ZD];try exact rfl):p:=h
theorem QQ{p:Prop}(h:p:=by simpa using hj):p:=h
theorem QR{p:Prop}(h:p:=by simp[go_sem,hstv,hon]):p:=h
theorem QS{p:Prop}(h:p:=by simp only[refs];exact aW hx h):p:=h
theorem QT{p:Prop}(h:p:=by simp[go_sem,ZN]):p:=h
theorem QU{p:Prop}(h:p:=by simp only[go_sem,hwi];try exact rfl):p:=h
theorem QV{p:Prop}(h:p:=by simp only[go_sem,e4,beq_self_eq_true,cond_true];try exact rfl):p:=h
theorem QW{p:Prop}(h:p:=by simp only[go_sem,hm];try exact rfl):p:=h
theorem QX{p:Prop}(h:p:=by simp only[go_sem,ZA];try exact rfl):p:=h
theorem QY{p:Prop}(h:p:=by simp[go_sem,hst,jgR,xJ,ZV,List.take_length]):p:=h
theorem QZ{p:Prop}(h:p:=by simp only[go_sem,hv,hq];exact rfl):p:=h
theorem Qa{p:Prop}(h:p:=by rintro rfl;exact hS hb):p:=h
theorem Qb{p:Prop}(h:p:=by simp[go_sem,hcaps,-List.map_set]):p:=h
theorem Qc{p:Prop}(h:p:=by simp[go_sem,hw1,hid,Ne.symm hid]):p:=h
theorem Qd{p:Prop}(h:p:=by simp[go_sem,hid,Ne.symm hid,aF]):p:=h
theorem Qe{p:Prop}(h:p:=by rw[List.all_append,da,Bool.true_and];rfl):p:=h
theorem Qf{p:Prop}(h:p:=by simp only[go_sem,hd,cond_true,cond_false];try exact rfl):p:=h
theorem Qg{p:Prop}(h:p:=by simp[go_sem,hw,hgl,hLlt]):p:=h
theorem Qh{p:Prop}(h:p:=by simp only[go_sem,hgb,ZK];try exact rfl):p:=h
theorem Qi{p:Prop}(h:p:=by rw[hy];trivial):p:=h
theorem Qj{p:Prop}(h:p:=by simpa using hl):p:=h
theorem Qk{p:Prop}(h:p:=by rw[List.all_append,bg,Bool.true_and];exact jG _ rfl):p:=h
theorem Ql{p:Prop}(h:p:=by simp[go_sem,hg1]):p:=h
theorem Qm{p:Prop}(h:p:=by simp only[go_sem,hg,ZJ];try exact rfl):p:=h
theorem Qn{p:Prop}(h:p:=by simp[go_sem,hs1]):p:=h
theorem Qo{p:Prop}(h:p:=by simp[go_sem,hid,Ne.symm hid]):p:=h
theorem Qp{p:Prop}(h:p:=by simp only[go_sem,hwm1];try exact rfl):p:=h
theorem Qq{p:Prop}(h:p:=by simp only[go_sem,hgp,ZP,bne_self_eq_false,cond_true,cond_false];try exact rfl):p:=h
theorem Qr{p:Prop}(h:p:=by rintro rfl;rw[hnod] at hg;cases hg):p:=h
theorem Qs{p:Prop}(h:p:=by cases h):p:=h
theorem Qt{p:Prop}(h:p:=by simp only[go_sem,hk];try exact rfl):p:=h
theorem Qu{p:Prop}(h:p:=by simp[go_sem,bt,bc,cA]):p:=h
theorem Qv{p:Prop}(h:p:=by simp[go_sem,hwl1]):p:=h
theorem Qw{p:Prop}(h:p:=by simpa using e2):p:=h
theorem Qx{p:Prop}(h:p:=by simp[fj,nQ,wk]):p:=h
theorem Qy{p:Prop}(h:p:=by rw[hg];rfl):p:=h
theorem Qz{p:Prop}(h:p:=by simp[go_sem,hwn,hwv]):p:=h
theorem Q0{p:Prop}(h:p:=by rw[hs];exact hs0):p:=h
theorem Q3{p:Prop}(h:p:=by simp[go_sem,hs1,htq,ZC,hkk,haw]):p:=h
theorem Q4{p:Prop}(h:p:=by have:=hbs.data;show b.data.length<=_;omega):p:=h
theorem Q5{p:Prop}(h:p:=by simp only[go_sem,cond_false];try exact rfl):p:=h
theorem Q6{p:Prop}(h:p:=by simp[go_sem,e4,beq_self_eq_true,cond_true]):p:=h
theorem Q7{p:Prop}(h:p:=by simp only[go_sem,hA1,hB1,gD,gE,gF,gG,hwb1,gA,gB,gC];try exact rfl):p:=h
theorem Q8{p:Prop}(h:p:=by simp[haw]):p:=h
theorem Q9{p:Prop}(h:p:=by simp only[go_sem,Nat.sub_zero,List.drop_zero,hA1];try exact rfl):p:=h
theorem Za{p:Prop}(h:p:=by simpa using hk):p:=h
theorem Zb{p:Prop}(h:p:=by simpa using hz):p:=h
theorem Zc{p:Prop}(h:p:=by simpa using h1):p:=h
theorem Zd{p:Prop}(h:p:=by rw[<-ha];simp[Sp.app]):p:=h
theorem Ze{p:Prop}(h:p:=by rw[dN,if_neg (by rw[hai];exact Bool.false_ne_true)];exact hb):p:=h
theorem Zf{p:Prop}(h:p:=by simp[go_sem,hsame,hm]):p:=h
theorem Zg{p:Prop}(h:p:=by simp[h0]):p:=h
theorem Zh{p:Prop}(h:p:=by simp[ha]):p:=h
theorem Zi{p:Prop}(h:p:=by first | exact .inl ⟨rfl,rfl⟩ | exact .inr ⟨rfl,rfl⟩):p:=h
theorem Zj{p:Prop}(h:p:=by simp only[go_sem,hg1,ZN,cond_true,cond_false];try exact rfl):p:=h
theorem Zk{p:Prop}(h:p:=by simp[go_sem,hwk]):p:=h
theorem Zl{p:Prop}(h:p:=by simp only[go_sem,hg,ZI];try exact rfl):p:=h
theorem Zm{p:Prop}(h:p:=by simp only[go_sem,hg,ZP];try exact rfl):p:=h
theorem Zn{p:Prop}(h:p:=by simp only[go_sem,hg,hs];try exact rfl):p:=h
theorem Zo{p:Prop}(h:p:=by simp[go_sem,hne]):p:=h
theorem Zp{p:Prop}(h:p:=by simp[go_sem,hwp]):p:=h
theorem Zq{p:Prop}(h:p:=by simp only[go_sem,hd,hv,cond_true,cond_false];try exact rfl):p:=h
theorem Zr{p:Prop}(h:p:=by simp only[go_sem,hg,aZ];try exact rfl):p:=h
theorem Zs{p:Prop}(h:p:=by simp[hxe]):p:=h
theorem Zt{p:Prop}(h:p:=by simp only[go_sem,hg,ZV];try exact rfl):p:=h
theorem Zu{p:Prop}(h:p:=by simp only[go_sem,hg,ZX];try exact rfl):p:=h
theorem Zv{p:Prop}(h:p:=by have:=fA x.act;omega):p:=h
theorem Zw{p:Prop}(h:p:=by rw[List.all_append,dX];rfl):p:=h
theorem Zx{p:Prop}(h:p:=by simp[go_sem,hd,cond_true,cond_false]):p:=h
theorem Zy{p:Prop}(h:p:=by simp only[go_sem,hg1,cond_true,cond_false];try exact rfl):p:=h
theorem Zz{p:Prop}(h:p:=by simp only[go_sem,hwr];try exact rfl):p:=h
theorem Z0{p:Prop}(h:p:=by simp[go_sem,bt]):p:=h
theorem Z1{p:Prop}(h:p:=by simp[go_sem,hs1,a_]):p:=h
theorem Z2{p:Prop}(h:p:=by rw[hg];exact hc):p:=h
theorem Z3{p:Prop}(h:p:=by simp only[go_sem,bt];try exact rfl):p:=h
theorem Z4{p:Prop}(h:p:=by exact ai.nrm rfl (fc ⟨a.fid,a.kind==2,[],[],0⟩ v)):p:=h
theorem Z5{p:Prop}(h:p:=by simp[go_sem,hv,hq]):p:=h
theorem Z6{p:Prop}(h:p:=by simpa using hi):p:=h
theorem Z7{p:Prop}(h:p:=by simp[go_sem,hgt,htq,hk,ZK,ZN,hnk]):p:=h
theorem Z8{p:Prop}(h:p:=by simp only[go_sem,hgl,hgk,hgf,aS,bV,aq];try exact rfl):p:=h
theorem Z9{p:Prop}(h:p:=by simp[hqe]):p:=h
theorem WA{p:Prop}(h:p:=by rintro rfl;rw[hn] at hg;cases hg):p:=h
theorem WB{p:Prop}(h:p:=by rw[ji,List.length_map];exact hl):p:=h
theorem WC{p:Prop}(h:p:=by simp[h]):p:=h
theorem WD{p:Prop}(h:p:=by simp only[refs];exact aW hx hid):p:=h
theorem WE{p:Prop}(h:p:=by rw[kE,List.length_map];exact hl):p:=h
theorem WG{p:Prop}(h:p:=by simp[go_sem,hwi]):p:=h
theorem WH{p:Prop}(h:p:=by simp only[go_sem,qN];exact rfl):p:=h
theorem WI{p:Prop}(h:p:=by simp only[refs];exact aW e hid):p:=h
theorem WJ{p:Prop}(h:p:=by simp only[go_sem,hf1,hf2,hf3,hf4];try exact rfl):p:=h
theorem WK{p:Prop}(h:p:=by simpa[refs] using hid):p:=h
theorem WL{p:Prop}(h:p:=by rw[List.length_map,<-hS,List.length_set];omega):p:=h
theorem WM{p:Prop}(h:p:=by simp only[go_sem,hwm,hgk,hgm,ZE];try exact rfl):p:=h
theorem WN{p:Prop}(h:p:=by simp only[go_sem,xL,mS hf.ri.up];try exact rfl):p:=h
theorem WO{p:Prop}(h:p:=by simp[go_sem,hm]):p:=h
theorem WQ{p:Prop}(h:p:=by simpa[refs] using hx):p:=h
theorem WR{p:Prop}(h:p:=by rw[hrl row (List.mem_of_getElem? hi')];omega):p:=h
theorem WS{p:Prop}(h:p:=by rintro rfl;rw[hi.fresh hfree] at hg;cases hg):p:=h
theorem WT{p:Prop}(h:p:=by rw[hRl row (List.mem_of_getElem? hi')];omega):p:=h
theorem WU{p:Prop}(h:p:=by simp[hk5]):p:=h
theorem WV{p:Prop}(h:p:=by simp[bj,hn]):p:=h
theorem WW{p:Prop}(h:p:=by simp[go_sem,hon,ZR]):p:=h
theorem WX{p:Prop}(h:p:=by rw[hs row (List.mem_of_getElem? hi')];omega):p:=h
theorem WY{p:Prop}(h:p:=by simpa using h2):p:=h
theorem WZ{p:Prop}(h:p:=by simp only[go_sem,hga,hgb,ZE];try exact rfl):p:=h
theorem Wa{p:Prop}(h:p:=by simp only[go_sem,hgk,ZI,hwk];try exact rfl):p:=h
theorem Wb{p:Prop}(h:p:=by simp[go_sem,htk,htq,ZK,hd]):p:=h
theorem Wc{p:Prop}(h:p:=by rw[hu];rfl):p:=h
theorem We{p:Prop}(h:p:=by simpa using e):p:=h
theorem Wf{p:Prop}(h:p:=by rw[cx,if_pos k1];exact j1):p:=h
theorem Wg{p:Prop}(h:p:=by simpa[AV.scalar] using hx):p:=h
theorem Wi{p:Prop}(h:p:=by rintro ⟨id,h⟩;cases h):p:=h
theorem Wj{p:Prop}(h:p:=by simp only[go_sem]):p:=h
theorem Wk{p:Prop}(h:p:=by simp[go_sem,hwm1]):p:=h
theorem Wl{p:Prop}(h:p:=by simp[efA]):p:=h
theorem Wm{p:Prop}(h:p:=by simp[go_sem,htk,htq,ZK]):p:=h
theorem Wn{p:Prop}(h:p:=by simp[go_sem,hon]):p:=h
theorem Wo{p:Prop}(h:p:=by rw[hA];exact hge):p:=h
theorem Wp{p:Prop}(h:p:=by rw[hA];exact hde):p:=h
theorem Wq{p:Prop}(h:p:=by rw[lT];exact ha):p:=h
theorem Wr{p:Prop}(h:p:=by simpa using hkl):p:=h
theorem Ws{p:Prop}(h:p:=by simp[go_sem,bo]):p:=h
theorem Wt{p:Prop}(h:p:=by simpa using hw0):p:=h
theorem Wu{p:Prop}(h:p:=by simp[go_sem,bN]):p:=h
theorem Wv{p:Prop}(h:p:=by simpa[exitTo] using h):p:=h
theorem Ww{p:Prop}(h:p:=by rw[hh];trivial):p:=h
theorem Wx{p:Prop}(h:p:=by rw[hne];decide):p:=h
theorem Wy{p:Prop}(h:p:=by simp[go_sem,hgt,hnk]):p:=h
theorem Wz{p:Prop}(h:p:=by simp[hsd]):p:=h
theorem W1{p:Prop}(h:p:=by simp<;>omega):p:=h
theorem W2{p:Prop}(h:p:=by simp[hge,hd]):p:=h
namespace Go.Eng
structure Glb where
 B:Nat->Prop
 V:World->Prop
 same:∀w w':World,(∀b,B b->w'.heap[b]? = w.heap[b]?)->V w->V w'
def glb:Glb:=⟨λ_=>False,λ_=>True,λ_ _ _ _=>trivial⟩
end Go.Eng
namespace Go.Eng
theorem gH {α:Type _} (a:α) (l m:List α):(a::l)++m=a::(l++m):=rfl
theorem gI {α:Type _} (l:List α):[]++l=l:=rfl
theorem gJ {α β:Type _} (f:α->β) (a:α) (l:List α):(a::l).map f=f a::l.map f:=rfl
theorem gK {α β:Type _} (f:α->β):([]:List α).map f=[]:=rfl
theorem gL {α:Type _} (a b:α):(some a=some b)=(a=b):=Option.some.injEq a b
theorem gM {α β:Type _} (a:α) (b:β) (c:α) (d:β):((a,b)=(c,d))=(a=c/\b=d):=Prod.mk.injEq a b c d
inductive AV where
 | any
 | int (k:IntKind) (n:Int)
 | bool (b:Bool)
 | str (s:List UInt8)
 | nilp
 | nili
  | ifc
 | nils
 | nilm
 | sl (rows:List (List AV))
 | rp (cells:List AV) (off:Nat)
 | rm (kvs:List (Int×AV))
 | fn (f:FuncId) (caps:List AV)
 | agg (cells:List AV)
 | tup (vs:List AV)
 | ptr (id size row off:Nat)
 | osl (id size off len:Nat)
 | mp (id:Nat)
 | exs (id size off len cap:Nat)
 | cnd (c:Bool) (v:AV)
 deriving Inhabited
def u0:Nat->Nat->List (Nat×AV)->List (Nat×AV)
 |_,0,r=>r
 |k,n+1,r=>(k,.any)::u0 (k+1) n r
@[go_sem,simp] theorem u0Z (k:Nat) (r):u0 k 0 r=r:=rfl
@[go_sem,simp] theorem u0S (k n:Nat) (r):u0 k (n+1) r=(k,.any)::u0 (k+1) n r:=rfl
def aI (S:Nat->Prop) (w w':World):Prop:=∀b,S b->w'.heap[b]? = w.heap[b]?
theorem aI.refl (S:Nat->Prop) (w:World):aI S w w:=λ_ _=>rfl
theorem qd {w w':World} {a:Addr} (h:w'.heap[a.block]? = w.heap[a.block]?):w'.cell? a=w.cell? a:=by
 unfold World.cell?;rw[h]
structure MapOK (es:Array MapEntry) (clk:Nat) (kvs:List (Int×AV)) (vals:Int->Value):Prop where
 key:∀e,e∈es.toList->∃k x,e.key=.int .i64 k/\(k,x)∈kvs/\e.val=vals k
 has:∀p,p∈kvs->∃e,e∈es.toList/\e.key=.int .i64 p.1
 once:(es.toList.map (·.key)).Nodup
 len:es.size=kvs.length
 rise:kvs.Pairwise λa b=>a.1<b.1
 born:∀e,e∈es.toList->e.born<clk
 nodup:(es.toList.map (·.born)).Nodup
inductive RdP (S:Nat->Prop) (w:World):Value->AV->Prop
 | int (k:IntKind) (n:Int):RdP S w (.int k n) (.int k n)
 | bool (b:Bool):RdP S w (.bool b) (.bool b)
 | str (s:ByteArray) (l:List UInt8) (h:s.data.toList=l):RdP S w (.string s) (.str l)
 | nilp:RdP S w (.pointer none) .nilp
 | nili:RdP S w .nilIface .nili
 | ifc (t:TypeId) (p:Value):RdP S w (.iface t p) .ifc
 | nils:RdP S w (.slice none 0 0) .nils
 | nilm:RdP S w (.map none) .nilm
 | sl (A:Option Addr) (len cap:Nat) (rows:List (List AV)) (size g off:Nat) (vals:Nat->Nat->Value)
   (hl:rows.length=len) (hc:len<=cap) (hs:∀row,row∈rows->row.length=size)
   (hA:0<len->A=some ⟨g,off,none⟩/\S g)
   (hcell:∀i j,i<len->j<size->w.cell? ⟨g,off+(i*size+j),none⟩=some (vals i j))
   (hr:∀i row,rows[i]? = some row->∀j x,row[j]? = some x->RdP S w (vals i j) x):RdP S w (.slice A len cap) (.sl rows)
 | rp (g o off:Nat) (cells:List AV) (vals:Nat->Value) (hS:S g)
   (hcell:∀j,j<cells.length->w.cell? ⟨g,o+j,none⟩=some (vals j))
   (hr:∀j x,cells[j]? = some x->RdP S w (vals j) x):RdP S w (.pointer (some ⟨g,o+off,none⟩)) (.rp cells off)
 | rm (g:Nat) (es:Array MapEntry) (clk:Nat) (kvs:List (Int×AV)) (vals:Int->Value) (hS:S g)
   (hg:w.heap[g]? = some (.map es clk)) (hm:MapOK es clk kvs vals)
   (hr:∀p,p∈kvs->RdP S w (vals p.1) p.2):RdP S w (.map (some g)) (.rm kvs)
 | fn (f:FuncId) (vals:Array Value) (caps:List AV) (hl:vals.size=caps.length)
   (hr:∀j x,caps[j]? = some x->RdP S w (vals.getD j undef) x):RdP S w (.func (.func f) #[] vals) (.fn f caps)
 | agg (cs:Array Value) (cells:List AV) (hl:cs.size=cells.length)
   (hr:∀j x,cells[j]? = some x->RdP S w (cs.getD j undef) x):RdP S w (.agg cs) (.agg cells)
theorem RdP.mono {S S':Nat->Prop} {w w':World} {v:Value} {x:AV} (h:RdP S w v x) (hw:aI S w w') (hs:∀b,S b->S' b):RdP S' w' v x:=by
 induction h with
 | int k n=>exact .int k n
 | bool b=>exact .bool b
 | str s l h=>exact .str s l h
 | nilp=>exact .nilp
 | nili=>exact .nili
 | ifc t p=>exact .ifc t p
 | nils=>exact .nils
 | nilm=>exact .nilm
 | sl A len cap rows size g off vals hl hc hsz hA hcell hr ih=>
  refine .sl A len cap rows size g off vals hl hc hsz (λh=>⟨(hA h).1,hs _ (hA h).2⟩) (λi j hi hj=>?_) ih;rw[qd (hw g (hA z8).2)];exact hcell i j hi hj
 | rp g o off cells vals hS hcell hr ih=>
  refine .rp g o off cells vals (hs _ hS) (λj hj=>?_) ih;rw[qd (hw g hS)];exact hcell j hj
 | rm g es clk kvs vals hS hg hm hr ih=>exact .rm g es clk kvs vals (hs _ hS) ((hw g hS).trans hg) hm ih
 | fn f vals caps hl hr ih=>exact .fn f vals caps hl ih
 | agg cs cells hl hr ih=>exact .agg cs cells hl ih
def ag (w:World) (g:Nat):Option (TypeId×Nat):=
 match w.heap[g]? with
 | some (.cells c e (0,0))=>some (e,c.size)
 | _=>none
theorem aN {w w':World} {g:Nat} (h:w'.heap[g]? = w.heap[g]?):ag w' g=ag w g:=by unfold ag;rw[h]
inductive Rd (μ:Nat->Option Nat) (S:Nat->Prop) (w:World):Value->AV->Prop
 | any (v:Value):Rd μ S w v .any
 | pure {v:Value} {x:AV} (h:RdP S w v x):Rd μ S w v x
 | agg (cs:Array Value) (cells:List AV) (hl:cs.size=cells.length)
   (hr:∀j x,cells[j]? = some x->Rd μ S w (cs.getD j undef) x):Rd μ S w (.agg cs) (.agg cells)
 | tup (vs:Array Value) (xs:List AV) (hl:vs.size=xs.length)
   (hr:∀j x,xs[j]? = some x->Rd μ S w (vs.getD j undef) x):Rd μ S w (.tuple vs) (.tup xs)
 | fn (f:FuncId) (vals:Array Value) (caps:List AV) (hl:vals.size=caps.length)
   (hr:∀j x,caps[j]? = some x->Rd μ S w (vals.getD j undef) x):Rd μ S w (.func (.func f) #[] vals) (.fn f caps)
 | ptr (id size row off g:Nat) (hg:μ id=some g):Rd μ S w (.pointer (some ⟨g,row*size+off,none⟩)) (.ptr id size row off)
 | osl (id size off len cap:Nat) (A:Option Addr) (hc:len<=cap)
   (h:(len=0/\cap=0)\/∃g e n,μ id=some g/\A=some ⟨g,off*size,none⟩/\ag w g=some (e,n)/\(off+cap)*size=n) :
   Rd μ S w (.slice A len cap) (.osl id size off len)
 | mp (id g:Nat) (hg:μ id=some g):Rd μ S w (.map (some g)) (.mp id)
 | exs (id size off len cap g e n:Nat) (hc:len<=cap) (hg:μ id=some g) (hr:ag w g=some (e,n)) (hn:(off+cap)*size=n):Rd μ S w (.slice (some ⟨g,off*size,none⟩) len cap) (.exs id size off len cap)
 | cndT (v:Value) (x:AV) (h:Rd μ S w v x):Rd μ S w v (.cnd true x)
 | cndF (x:AV):Rd μ S w undef (.cnd false x)
theorem Rd.mono {μ μ':Nat->Option Nat} {S S':Nat->Prop} {w w':World} {v:Value} {x:AV} (h:Rd μ S w v x) (hw:aI S w w') (hs:∀b,S b->S' b)
  (hm:∀id g,μ id=some g->μ' id=some g) (hz:∀id g,μ id=some g->ag w' g=ag w g):Rd μ' S' w' v x:=by
 induction h with
 | any v=>exact .any v
 | pure h=>exact .pure (h.mono hw hs)
 | agg cs cells hl hr ih=>exact .agg cs cells hl ih
 | tup vs xs hl hr ih=>exact .tup vs xs hl ih
 | fn f vals caps hl hr ih=>exact .fn f vals caps hl ih
 | ptr id size row off g hg=>exact .ptr id size row off g (hm _ _ hg)
 | osl id size off len cap A hc h=>
  refine .osl id size off len cap A hc ?_
  rcases h with h | ⟨g,e,n,h1,h2,h3,h4⟩
  ·exact .inl h
  ·exact .inr ⟨g,e,n,hm _ _ h1,h2,(hz _ _ h1).trans h3,h4⟩
 | mp id g hg=>exact .mp id g (hm _ _ hg)
 | exs id size off len cap g e n hc hg hr hn=>exact .exs id size off len cap g e n hc (hm _ _ hg) ((hz _ _ hg).trans hr) hn
 | cndT v x h ih=>exact .cndT v x ih
 | cndF x=>exact .cndF x
inductive Blk where
 | cells (elem:TypeId) (size:Nat) (rows:List (List AV))
 | map (kvs:List (Int×AV))
  | iter (kvs:List (Int×AV)) (seen:List Int)
  | cap (id s N:Nat)
  | pin (id g t n:Nat)
 deriving Inhabited
structure IterOK (w:World) (S:Nat->Prop) (g:Nat) (kvs:List (Int×AV)) (seen:List Int) (es:Array MapEntry) (clk:Nat) (vals:Int->Value) (had:Array Nat):Prop where
 lies:∃m,w.heap[g]? = some (.mapIter (some m) clk had clk)/\S m/\w.heap[m]? = some (.map es clk)
 map:MapOK es clk kvs vals
 last:∀k r,seen=k::r->∃e,e∈es.toList/\e.key=.int .i64 k/\had.back? = some e.born
 had:∀e,e∈es.toList->∀k,e.key=.int .i64 k->(had.contains e.born=true↔k∈seen)
def qO (t n:Nat):Option (TypeId×Nat):=if n=0 then none else some (t,n)
def cJ (μ:Nat->Option Nat) (S:Nat->Prop) (w:World) (id:Nat):Blk->Prop
 | .cells e s rows=>(rows=[]/\μ id=none)\/∃g c,μ id=some g/\w.heap[g]? = some (.cells c e (0,0))/\rows.length*s<=c.size/\(∀row,row∈rows->row.length=s) /\
   ∀(i:Nat) row,rows[i]? = some row->∀(j:Nat) x,row[j]? = some x->Rd μ S w (c.getD (i*s+j) undef) x
 | .map kvs=>∃g es clk vals,μ id=some g/\w.heap[g]? = some (.map es clk)/\MapOK es clk kvs vals/\∀p,p∈kvs->RdP S w (vals p.1) p.2
 | .iter kvs seen=>∃g es clk vals had,μ id=some g/\IterOK w S g kvs seen es clk vals had/\∀p,p∈kvs->RdP S w (vals p.1) p.2
 | .cap id' s N=>μ id=none/\∃g e,μ id'=some g/\ag w g=some (e,N*s)
 | .pin id' g t n=>μ id=none/\μ id'=some g/\ag w g=qO t n
theorem cJ.mono {μ μ':Nat->Option Nat} {S S':Nat->Prop} {w w':World} {id:Nat} {b:Blk} (h:cJ μ S w id b) (hw:aI S w w') (hs:∀b,S b->S' b)
  (hm:∀id g,μ id=some g->μ' id=some g) (hz:∀id g,μ id=some g->ag w' g=ag w g)
  (hn:μ id=none->μ' id=none) (hb:∀g,μ id=some g->w'.heap[g]? = w.heap[g]?):cJ μ' S' w' id b:=by
 cases b with
 | cells e s rows=>
  rcases h with ⟨h1,h2⟩ | ⟨g,c,h1,h2,h3,h4,h5⟩
  ·exact .inl ⟨h1,hn h2⟩
  ·exact .inr ⟨g,c,hm _ _ h1,(hb _ h1).trans h2,h3,h4,λi row hi j x hj=>(h5 i row hi j x hj).mono hw hs hm hz⟩
 | map kvs=>
  obtain ⟨g,es,clk,vals,h1,h2,h3,h4⟩:=h;exact ⟨g,es,clk,vals,hm _ _ h1,(hb _ h1).trans h2,h3,λp hi=>(h4 p hi).mono hw hs⟩
 | iter kvs seen=>
  obtain ⟨g,es,clk,vals,had,h1,h2,h4⟩:=h;obtain ⟨m,k1,k2,k3⟩:=h2.lies;exact ⟨g,es,clk,vals,had,hm _ _ h1,⟨⟨m,(hb _ h1).trans k1,hs _ k2,(hw m k2).trans k3⟩,h2.map,h2.last,h2.had⟩,λp hi=>(h4 p hi).mono hw hs⟩
 | cap id' s N=>
  obtain ⟨h1,g,e,h2,h3⟩:=h;exact ⟨hn h1,g,e,hm _ _ h2,(hz _ _ h2).trans h3⟩
 | pin id' g t n=>
  obtain ⟨h1,h2,h3⟩:=h;exact ⟨hn h1,hm _ _ h2,(hz _ _ h2).trans h3⟩
structure St where
 tm:List AV
 hp:List (Nat×Blk)
def aa:List (Nat×Blk)->Nat->Option Blk
 | [],_=>none
 | (i,b)::r,id=>if i=id then some b else aa r id
def aF:List (Nat×Blk)->Nat->Blk->List (Nat×Blk)
 | [],id,b=>[(id,b)]
 | (i,c)::r,id,b=>if i=id then (id,b)::r else (i,c)::aF r id b
def dM:List (Nat×Blk)->Nat->List (Nat×Blk)
 | [],_=>[]
 | (i,c)::r,id=>if i=id then dM r id else (i,c)::dM r id
theorem aj (h:List (Nat×Blk)) (id id':Nat) (b:Blk):aa (aF h id b) id'=if id=id' then some b else aa h id':=by
 induction h with
 | nil=>simp[aF,aa]
 | cons p r ih=>
  obtain ⟨i,c⟩:=p;simp only[aF]
  by_cases h1:i=id
  ·subst h1;simp only[if_true,aa];split<;>simp_all
  ·simp only[h1,if_false,aa,ih]
   by_cases h2:i=id'
   ·subst h2;simp only[if_true];rw[if_neg (λe=>h1 e.symm)]
   ·simp[h2]
theorem bz (h:List (Nat×Blk)) (id id':Nat):aa (dM h id) id'=if id=id' then none else aa h id':=by
 induction h with
 | nil=>simp[dM,aa]
 | cons p r ih=>
  obtain ⟨i,c⟩:=p;simp only[dM]
  by_cases h1:i=id
  ·subst h1;simp only[if_true,ih,aa];split<;>simp_all
  ·simp only[h1,if_false,aa,ih]
   by_cases h2:i=id'
   ·subst h2;simp only[if_true];rw[if_neg (λe=>h1 e.symm)]
   ·simp[h2]
structure Ctx where
 w0:World
 A0:Nat->Prop
 R0:Nat->Prop
 g0:(∀b,glb.B b->b<w0.heap.size/\¬A0 b)/\glb.V w0
structure Frm (A:Nat->Prop) (w w':World):Prop where
 os:w'.os=w.os
 tape:w'.tape=w.tape
 output:w'.output=w.output
 size:w.heap.size<=w'.heap.size
 block:∀b,b<w.heap.size->¬A b->w'.heap[b]? = w.heap[b]?
theorem Frm.refl (A:Nat->Prop) (w:World):Frm A w w:=⟨rfl,rfl,rfl,YA _,λ_ _ _=>rfl⟩
theorem Frm.step {A:Nat->Prop} {w0 w w':World} (h:Frm A w0 w) (T:Nat->Prop) (k:Frm T w w') (ht:∀b,T b->A b\/w0.heap.size<=b):Frm A w0 w':=
 ⟨k.os.trans h.os,k.tape.trans h.tape,k.output.trans h.output,Yn h.size k.size,λb hb hA=>by
  rw[k.block b (Yc hb h.size) (λhT=>by rcases ht b hT with h1 | h1;exact hA h1;omega)];exact h.block b hb hA⟩
structure Inv (C:Ctx) (μ:Nat->Option Nat) (S:Nat->Prop) (σ:St) (a:Act) (w:World):Prop where
 size:a.tmps.size=σ.tm.length
 defers:a.defers=[]
 tm:∀t x,σ.tm[t]? = some x->Rd μ S w (a.tmps.getD t undef) x
 hp:∀id b,aa σ.hp id=some b->cJ μ S w id b
 dom:∀id g,μ id=some g->(∃b,aa σ.hp id=some b)/\(C.A0 g\/C.w0.heap.size<=g)/\¬S g/\g<w.heap.size
 inj:∀id id' g,μ id=some g->μ id'=some g->id=id'
 frm:Frm C.A0 C.w0 w
 sb:∀b,S b->b<w.heap.size/\(C.R0 b\/C.A0 b\/C.w0.heap.size<=b)
def Rel (C:Ctx) (σ:St) (a:Act) (w:World):Prop:=∃μ S,Inv C μ S σ a w
def GOK (μ:Nat->Option Nat) (w:World):Prop:=(∀b,glb.B b->b<w.heap.size/\¬∃id,μ id=some b)/\glb.V w
theorem Inv.gok {C:Ctx} {μ:Nat->Option Nat} {S:Nat->Prop} {σ:St} {a:Act} {w:World} (h:Inv C μ S σ a w):GOK μ w:=
 ⟨λb hb=>⟨Yc (C.g0.1 b hb).1 h.frm.size,λ⟨id,hg⟩=>((h.dom id b hg).2.1).elim (C.g0.1 b hb).2 (λk=>absurd (C.g0.1 b hb).1 z8)⟩,
  glb.same C.w0 w (λb hb=>h.frm.block b (C.g0.1 b hb).1 (C.g0.1 b hb).2) C.g0.2⟩
theorem GOK.sub {μ μ':Nat->Option Nat} {w:World} (h:GOK μ w) (hm:∀i g,μ' i=some g->∃j,μ j=some g):GOK μ' w:=
 ⟨λb hb=>⟨(h.1 b hb).1,λ⟨i,hi⟩=>(h.1 b hb).2 (hm i b hi)⟩,h.2⟩
theorem GOK.nil {μ:Nat->Option Nat} {w:World} (h:GOK μ w):GOK (λ_=>none) w:=h.sub λ_ _ h=>nomatch h
theorem GOK.frm {μ μ':Nat->Option Nat} {w w':World} (h:GOK μ w) (hf:Frm (λg=>∃id,μ id=some g) w w') (hm:∀id g,μ' id=some g->(∃id',μ id'=some g)\/w.heap.size<=g):GOK μ' w':=
 ⟨λb hb=>⟨Yc (h.1 b hb).1 hf.size,λ⟨i,hi⟩=>(hm i b hi).elim (h.1 b hb).2 (λk=>absurd (h.1 b hb).1 z8)⟩,
  glb.same w w' (λb hb=>hf.block b (h.1 b hb).1 (h.1 b hb).2) h.2⟩
end Go.Eng
namespace Go.Eng
inductive KD where
 | other | bool | int (k:IntKind) | str | sl (e:TypeId) | map (k e:TypeId) | ptr (e:TypeId) | struct | iface | func
def jO (P:Program) (t:TypeId):KD->Prop
 | .other=>True
 | .bool=>P.underlying t=some .bool
 | .int k=>P.underlying t=some (.int k)
 | .str=>P.underlying t=some .string
 | .sl e=>P.underlying t=some (.slice e)
 | .map k e=>P.underlying t=some (.map k e)
 | .ptr e=>P.underlying t=some (.pointer e)
 | .struct=>∃F,P.underlying t=some (.struct F)/\∀f,f∈F->(P.info? f.type).isSome=true
 | .iface=>∃ms,P.underlying t=some (.interface ms)
 | .func=>∃a b c,P.underlying t=some (.func a b c)
def KD.isA:KD->Option Bool
 | .other=>none
 | .struct=>some true
 | _=>some false
def ofValue:Value->AV
 | .int k n=>.int k n
 | .bool b=>.bool b
 | .string s=>.str s.data.toList
 | .pointer none=>.nilp
 | .slice none 0 0=>.nils
 | .map none=>.nilm
 | .nilIface=>.nili
 | _=>.any
structure Tab where
 und:TypeId->KD
 siz:TypeId->Nat
 byt:TypeId->Nat
 zer:TypeId->List AV
 fld:TypeId->Nat->Option (TypeId×Nat)
structure TabOK (P:Program) (T:Tab):Prop where
 und:∀t,jO P t (T.und t)
 siz:∀t,T.siz t≠0->∃i,P.info? t=some i/\i.size=T.siz t/\i.bytes=T.byt t/\∃z,i.zero=some z/\z.cells.toList.map ofValue=T.zer t/\z.cells.size=T.siz t /\
  (T.und t).isA=some (match z with | .agg _=>true | _=>false)
 fld:∀t j ft off,T.fld t j=some (ft,off)->∃F f,P.underlying t=some (.struct F)/\F[j]? = some f/\f.type=ft/\f.offset=off/\T.siz ft≠0
theorem An (S:Nat->Prop) (w:World) (v:Value) (h:ofValue v≠.any):RdP S w v (ofValue v):=by
 revert h
 unfold ofValue;split<;>intro h<;>first | exact .int _ _ | exact .bool _ | exact .str _ _ rfl | exact .nilp | exact .nils | exact .nilm | exact .nili | exact absurd rfl h
theorem oJ (μ:Nat->Option Nat) (S:Nat->Prop) (w:World) (v:Value):Rd μ S w v (ofValue v):=by
 by_cases h:ofValue v=.any
 ·rw[h];exact .any v
 ·exact .pure (An S w v h)
def ev (σ:St):Operand->AV
 | .tmp t=>σ.tm.getD t .any
 | .const v=>ofValue v
 | .func f=>.fn f []
 | .global _=>.any
theorem Inv.ev {C:Ctx} {μ:Nat->Option Nat} {S:Nat->Prop} {σ:St} {a:Act} {w:World} (h:Inv C μ S σ a w) (o:Operand):Rd μ S w (a.eval o) (ev σ o):=by
 cases o with
 | tmp t=>
  simp only[Act.eval,Eng.ev];cases e:σ.tm[t]? with
  | none=>rw[List.getD_eq_getElem?_getD,e];exact .any _
  | some x=>rw[List.getD_eq_getElem?_getD,e];exact h.tm t x e
 | const v=>exact oJ μ S w v
 | func f=>exact .fn f #[] [] rfl (λj x hx=>by simp at hx)
 | global g=>exact .any _
def St.put (σ:St) (d:Option Tmp) (x:AV):St:=
 match d with
 | some t=>{ σ with tm:=σ.tm.set t x }
 | none=>σ
@[simp] theorem St.gY (σ:St) (d:Option Tmp) (x:AV):(σ.put d x).hp=σ.hp:=by cases d<;>rfl
theorem Inv.put {C:Ctx} {μ:Nat->Option Nat} {S:Nat->Prop} {σ:St} {a:Act} {w:World} (h:Inv C μ S σ a w) (d:Option Tmp) {u:Value} {x:AV} (hu:Rd μ S w u x) :
  Inv C μ S (σ.put d x) (a.put d u) w:=by
 cases d with
 | none=>exact h
 | some t=>
  refine { h with size:=?_,tm:=?_,defers:=h.defers }
  ·simp[Act.put,St.put,h.size]
  ·intro i y hi;simp only[St.put,YP] at hi
   by_cases e:t=i
   ·subst e;simp only[if_true] at hi;split at hi
    ·rename_i hl;injection hi with hi;subst hi
     have:(a.put (some t) u).tmps.getD t undef=u:=by
      simp only[Act.put];rw[Array.getD_eq_getD_getElem?,Array.getElem?_setIfInBounds_self_of_lt (by rw[h.size];exact hl)];rfl
     rw[this];exact hu
    ·cases hi
   ·rw[if_neg e] at hi;have:(a.put (some t) u).tmps.getD i undef=a.tmps.getD i undef:=by
     simp only[Act.put];rw[Array.getD_eq_getD_getElem?,Array.getElem?_setIfInBounds_ne e,<-Array.getD_eq_getD_getElem?]
    rw[this];exact h.tm i y hi
def eK (P:Program) (C:Ctx) (o:Oper) (σ σ':St):Prop:=
 ∀a w (K:Act->World->Prop) (Q:Exit->Act->World->Prop),Rel C σ a w->(∀a' w',Rel C σ' a' w'->K a' w')->o.wp P a w K Q
theorem dZ {P:Program} {C:Ctx} {o:Oper} {σ:St} {x:AV}
  (h:∀μ S a w,Inv C μ S σ a w->∃u,(execOp a.eval o).run P w=.ok (.value u) w/\Rd μ S w u x):eK P C o σ (σ.put o.dst x):=by
 intro a w K Q ⟨μ,S,hi⟩ hK;obtain ⟨u,hr,hu⟩:=h μ S a w hi;unfold Oper.wp;rw[hr];exact hK _ _ ⟨μ,S,hi.put o.dst hu⟩
section inv
variable {μ:Nat->Option Nat} {S:Nat->Prop} {w:World} {v:Value}
theorem Rd.aL {k:IntKind} {n:Int} (h:Rd μ S w v (.int k n)):v=.int k n:=by cases h with | pure h=>cases h;rfl
theorem Rd.eQ {b:Bool} (h:Rd μ S w v (.bool b)):v=.bool b:=by cases h with | pure h=>cases h;rfl
theorem Rd.fE {l:List UInt8} (h:Rd μ S w v (.str l)):∃s:ByteArray,v=.string s/\s.data.toList=l:=by cases h with | pure h=>cases h with | str s l h=>exact ⟨s,rfl,h⟩
theorem Rd.gf (h:Rd μ S w v .nils):v=.slice none 0 0:=by cases h with | pure h=>cases h;rfl
theorem Rd.zt (h:Rd μ S w v .nilm):v=.map none:=by cases h with | pure h=>cases h;rfl
theorem Rd.iX {id size row off:Nat} (h:Rd μ S w v (.ptr id size row off)):∃g,μ id=some g/\v=.pointer (some ⟨g,row*size+off,none⟩):=by
 cases h with
 | pure h=>cases h
 | ptr _ _ _ _ g hg=>exact ⟨g,hg,rfl⟩
theorem Rd.tU {id:Nat} (h:Rd μ S w v (.mp id)):∃g,μ id=some g/\v=.map (some g):=by
 cases h with
 | pure h=>cases h
 | mp _ g hg=>exact ⟨g,hg,rfl⟩
theorem Rd.bT {id size off len:Nat} (h:Rd μ S w v (.osl id size off len)):∃A cap,v=.slice A len cap/\len<=cap /\
  ((len=0/\cap=0)\/∃g e n,μ id=some g/\A=some ⟨g,off*size,none⟩/\ag w g=some (e,n)/\(off+cap)*size=n):=by
 cases h with
 | pure h=>cases h
 | osl _ _ _ _ cap A hc h=>exact ⟨A,cap,rfl,hc,h⟩
theorem Rd.nC {cells:List AV} (h:Rd μ S w v (.agg cells)):∃cs:Array Value,v=.agg cs/\cs.size=cells.length/\∀j x,cells[j]? = some x->Rd μ S w (cs.getD j undef) x:=by
 cases h with
 | pure h=>cases h with | agg cs _ hl hr=>exact ⟨cs,rfl,hl,λj x hx=>.pure (hr j x hx)⟩
 | agg cs _ hl hr=>exact ⟨cs,rfl,hl,hr⟩
theorem Rd.IM {xs:List AV} (h:Rd μ S w v (.tup xs)):∃vs:Array Value,v=.tuple vs/\vs.size=xs.length/\∀j x,xs[j]? = some x->Rd μ S w (vs.getD j undef) x:=by
 cases h with
 | pure h=>cases h
 | tup vs _ hl hr=>exact ⟨vs,rfl,hl,hr⟩
theorem Rd.Bs {f:FuncId} {caps:List AV} (h:Rd μ S w v (.fn f caps)):∃vals:Array Value,v=.func (.func f) #[] vals/\vals.size=caps.length/\∀j x,caps[j]? = some x->Rd μ S w (vals.getD j undef) x:=by
 cases h with
 | pure h=>cases h with | fn _ vals _ hl hr=>exact ⟨vals,rfl,hl,λj x hx=>.pure (hr j x hx)⟩
 | fn _ vals _ hl hr=>exact ⟨vals,rfl,hl,hr⟩
theorem Rd.gU {rows:List (List AV)} (h:Rd μ S w v (.sl rows)):RdP S w v (.sl rows):=by cases h with | pure h=>exact h
theorem Rd.oC {cells:List AV} {off:Nat} (h:Rd μ S w v (.rp cells off)):RdP S w v (.rp cells off):=by cases h with | pure h=>exact h
theorem Rd.oB {kvs:List (Int×AV)} (h:Rd μ S w v (.rm kvs)):RdP S w v (.rm kvs):=by cases h with | pure h=>exact h
theorem RdP.gU {rows:List (List AV)} (h:RdP S w v (.sl rows)):∃(A:Option Addr) (cap size g off:Nat) (vals:Nat->Nat->Value),v=.slice A rows.length cap/\rows.length<=cap/\(∀row,row∈rows->row.length=size) /\
  (0<rows.length->A=some ⟨g,off,none⟩/\S g)/\(∀i j,i<rows.length->j<size->w.cell? ⟨g,off+(i*size+j),none⟩=some (vals i j)) /\
  (∀(i:Nat) row,rows[i]? = some row->∀(j:Nat) x,row[j]? = some x->RdP S w (vals i j) x):=by
 cases h with
 | sl A len cap _ size g off vals hl hc hs hA hcell hr=>subst hl;exact ⟨A,cap,size,g,off,vals,rfl,hc,hs,hA,hcell,hr⟩
theorem RdP.oC {cells:List AV} {off:Nat} (h:RdP S w v (.rp cells off)):∃(g o:Nat) (vals:Nat->Value),v=.pointer (some ⟨g,o+off,none⟩)/\S g /\
  (∀j,j<cells.length->w.cell? ⟨g,o+j,none⟩=some (vals j))/\∀(j:Nat) x,cells[j]? = some x->RdP S w (vals j) x:=by
 cases h with
 | rp g o off _ vals hS hcell hr=>exact ⟨g,o,vals,rfl,hS,hcell,hr⟩
theorem RdP.oB {kvs:List (Int×AV)} (h:RdP S w v (.rm kvs)):∃(g:Nat) (es:Array MapEntry) (clk:Nat) (vals:Int->Value),v=.map (some g)/\S g /\
  w.heap[g]? = some (.map es clk)/\MapOK es clk kvs vals/\∀p,p∈kvs->RdP S w (vals p.1) p.2:=by
 cases h with
 | rm g es clk _ vals hS hg hm hr=>exact ⟨g,es,clk,vals,rfl,hS,hg,hm,hr⟩
theorem MapOK.size_eq {es:Array MapEntry} {clk:Nat} {kvs:List (Int×AV)} {vals:Int->Value} (h:MapOK es clk kvs vals):es.size=kvs.length:=h.len
end inv
def loadCells (T:Tab) (t:TypeId) (cells:List AV) (off:Nat):Option (Prop×AV):=
 match (T.und t).isA with
 | some true=>some (T.siz t≠0/\off+T.siz t<=cells.length,.agg ((cells.drop off).take (T.siz t)))
 | some false=>some (off<cells.length,cells.getD off .any)
 | none=>none
def Br (op:BinOp) (k:IntKind) (a b:Int):Option AV:=
 match op with
 | .add=>some (.int k (k.wrap (a+b)))
 | .sub=>some (.int k (k.wrap (a-b)))
 | .mul=>some (.int k (k.wrap (a*b)))
 | .eql=>some (.bool (a==b))
 | .neq=>some (.bool (a != b))
 | .lss=>some (.bool (decide (a<b)))
 | .leq=>some (.bool (decide (a<=b)))
 | .gtr=>some (.bool (decide (a>b)))
 | .geq=>some (.bool (decide (a≥b)))
 | _=>none
class TabC (P:Program) (T:outParam Tab):Prop where
 ok:TabOK P T
end Go.Eng
namespace Go.Eng
def strip:AV->Prop×AV
 | .cnd g v=>(g=true,v)
 | x=>(True,x)
def evS (σ:St) (o:Operand):Prop×AV:=strip (ev σ o)
theorem Rd.strip {μ:Nat->Option Nat} {S:Nat->Prop} {w:World} {v:Value} {x:AV} (h:Rd μ S w v x) (hp:(Eng.strip x).1):Rd μ S w v (Eng.strip x).2:=by
 cases x<;>try exact h
 rename_i g x;simp only[Eng.strip] at hp ⊢;subst hp;cases h with
 | pure h=>cases h
 | cndT _ _ h=>exact h
theorem Inv.evS {C:Ctx} {μ:Nat->Option Nat} {S:Nat->Prop} {σ:St} {a:Act} {w:World} (h:Inv C μ S σ a w) (o:Operand) (hp:(Eng.evS σ o).1):Rd μ S w (a.eval o) (Eng.evS σ o).2:=
 (h.ev o).strip hp
def xU (c a b:AV):Option (Prop×AV):=
 match strip c with
 | (pc,.bool c)=>
  match strip a,strip b with
  | (pa,.bool x),(pb,.bool y)=>some (pc/\(c=true->pa)/\(c=false->pb),.bool (cond c x y))
  | _,_=>none
 | _=>none
def lC (T:Tab) (σ:St) (t:TypeId) (x:AV):Option (Prop×AV):=
 match x with
 | .rp cells off=>loadCells T t cells off
 | .ptr id size row off=>
  match aa σ.hp id with
  | some (.cells _ s rows)=>
   if s=size then (loadCells T t (rows.getD row []) off).map λr=>(row<rows.length/\r.1,r.2) else none
  | _=>none
 | _=>none
def KD.isBool:KD->Bool
 | .bool=>true
 | _=>false
def CB (T:Tab) (t:TypeId) (op:BinOp) (x y:AV):Option AV:=
 match x,y with
 | .int k a,.int k' b=>if k=k' then Br op k a b else none
 | .bool a,.bool b=>
  if (T.und t).isBool then
   match op with
   | .eql=>some (.bool (a==b))
   | .neq=>some (.bool (a != b))
   | _=>none
  else none
 | .str a,.str b=>
  match op with
  | .eql=>some (.bool (a==b))
  | .neq=>some (.bool (!(a==b)))
  | .lss=>some (.bool (Op.bytesLess a b))
  | .leq=>some (.bool (Op.bytesLess a b||a==b))
  | .gtr=>some (.bool (!(Op.bytesLess a b||a==b)))
  | .geq=>some (.bool (!Op.bytesLess a b))
  | _=>none
 | _,_=>none
def s_ (op:BinOp) (x y:AV):Option (Prop×AV):=
 match op,x,y with
 | .add,.str a,.str b=>some (a.length+b.length<2 ^ 62,.str (a++b))
 | .shr,.int k a,.int _ b=>some (0<=b,.int k (a.fdiv (2 ^ (min b.toNat k.bits))))
 | .shl,.int k a,.int _ b=>some (0<=b,.int k (k.wrap (a*2 ^ (min b.toNat k.bits))))
 | .and,.int k a,.int k' b=>some (k=k',.int k (k.wrap (BitVec.ofInt k.bits a &&& BitVec.ofInt k.bits b).toNat))
 | .or,.int k a,.int k' b=>some (k=k',.int k (k.wrap (BitVec.ofInt k.bits a ||| BitVec.ofInt k.bits b).toNat))
 | .quo,.int k a,.int k' b=>some (k=k'/\b≠0,.int k (k.wrap (a.tdiv b)))
 | .rem,.int k a,.int k' b=>some (k=k'/\b≠0,.int k (a.tmod b))
 | _,_,_=>none
def bl {α:Type}:List (Int×α)->Int->Option α
 | [],_=>none
 | p::r,k=>if p.1=k then some p.2 else bl r k
def mapOf (σ:St) (x:AV):Option (List (Int×AV)):=
 match x with
 | .rm kvs=>some kvs
 | .nilm=>some []
 | .mp id=>
  match aa σ.hp id with
  | some (.map kvs)=>some kvs
  | _=>none
 | _=>none
def yq (T:Tab) (e:TypeId):Option AV:=
 match (T.und e).isA with
 | some true=>some (.agg (T.zer e))
 | some false=>some ((T.zer e).getD 0 .any)
 | none=>none
def KD.vV:KD->Bool
 | .int .i64=>true
 | _=>false
def qL (T:Tab) (σ:St) (t:TypeId) (x i:AV) (ok:Bool):Option (Prop×AV):=
 match T.und t,mapOf σ x,i with
 | .map k e,some kvs,.int .i64 n=>
  match yq T e with
  | some z=>some ((T.und k).vV=true/\T.siz e≠0,bif ok then .tup [(bl kvs n).getD z,.bool (bl kvs n).isSome] else (bl kvs n).getD z)
  | none=>none
 | _,_,_=>none
def G5 (op:UnOp) (x:AV):Option AV:=
 match op,x with
 | .not,.bool b=>some (.bool (!b))
 | .neg,.int k n=>some (.int k (k.wrap (0-n)))
 | _,_=>none
def ir (T:Tab) (t:TypeId) (x:AV) (j:Nat):Option AV:=
 match T.fld t j,x with
 | some (_,o),.rp cells off=>some (.rp cells (off+o))
 | some (_,o),.ptr id size row off=>some (.ptr id size row (off+o))
 | _,_=>none
def ph (T:Tab) (t:TypeId) (x:AV) (j:Nat):Option (Prop×AV):=
 match T.fld t j,x with
 | some (ft,o),.agg cells=>loadCells T ft cells o
 | _,_=>none
def iw (T:Tab) (t:TypeId) (x i:AV):Option (Prop×AV):=
 match T.und t,x,i with
 | .sl e,.sl rows,.int _ n=>some (T.siz e≠0/\0<=n/\n.toNat<rows.length/\(rows.getD n.toNat []).length=T.siz e,.rp (rows.getD n.toNat []) 0)
 | .sl e,.osl id size off len,.int _ n=>some (T.siz e=size/\size≠0/\0<=n/\n.toNat<len,.ptr id size (off+n.toNat) 0)
 | _,_,_=>none
def pq (T:Tab) (t:TypeId) (x i:AV):Option (Prop×AV):=
 match T.und t,x,i with
 | .str,.str s,.int _ n=>some (0<=n/\n.toNat<s.length,.int .u8 ((s.getD n.toNat 0).toNat))
 | _,_,_=>none
def jD:Option AV->Nat->Option (Prop×Nat)
 | none,d=>some (True,d)
 | some (.int _ n),_=>some (0<=n,n.toNat)
 | some _,_=>none
def pV (T:Tab) (t:TypeId) (x:AV) (lo hi:Option AV):Option (Prop×AV):=
 match T.und t,x with
 | .str,.str s=>
  match jD lo 0,jD hi s.length with
  | some (p,l),some (q,h)=>some (p/\q/\l<=h/\h<=s.length,.str ((s.take h).drop l))
  | _,_=>none
 | .sl e,.sl rows=>
  match jD lo 0,jD hi rows.length with
  | some (p,l),some (q,h)=>some (T.siz e≠0/\p/\q/\l<=h/\h<=rows.length/\(∀row,row∈rows->row.length=T.siz e),.sl ((rows.take h).drop l))
  | _,_=>none
 | .sl e,.osl id size off len=>
  match jD lo 0,jD hi len with
  | some (p,l),some (q,h)=>some (T.siz e=size/\size≠0/\p/\q/\l<=h/\h<=len,.osl id size (off+l) (h-l))
  | _,_=>none
 | _,_=>none
def rG (T:Tab) (σ:St) (t:TypeId) (x:AV):Option AV:=
 match T.und t,x with
 | .str,.str s=>some (.int .i64 s.length)
 | .sl _,.sl rows=>some (.int .i64 rows.length)
 | .sl _,.nils=>some (.int .i64 0)
 | .sl _,.osl _ _ _ len=>some (.int .i64 len)
 | .map _ _,.nilm=>some (.int .i64 0)
 | .map _ _,.rm kvs=>some (.int .i64 kvs.length)
 | .map _ _,.mp id=>
  match aa σ.hp id with
  | some (.map kvs)=>some (.int .i64 kvs.length)
  | _=>none
 | _,_=>none
def eI (σ:St):List Operand->Prop×List AV
 | []=>(True,[])
 | o::r=>((evS σ o).1/\(eI σ r).1,(evS σ o).2::(eI σ r).2)
def numOf:List AV->Int
 | [.int _ n]=>n
 | _=>0
def byteOf (row:List AV):UInt8:=UInt8.ofNat (numOf row).toNat
def E3 (row:List AV):Prop:=∃n,row=[.int .u8 n]
def tl (T:Tab) (s t:TypeId) (x:AV):Option (Prop×AV):=
 match T.und s,T.und t,x with
 | .int _,.int k,.int _ n=>some (True,.int k (k.wrap n))
 | .sl e,.str,.sl rows=>some (T.und e=.int .u8/\∀row,row∈rows->E3 row,.str (rows.map byteOf))
 | .sl e,.str,.nils=>some (T.und e=.int .u8,.str [])
 | _,_,_=>none
def eX (T:Tab) (σ:St) (op:Op):Option (Prop×AV):=
 match op with
 | .move x | .assign x=>some (True,ev σ x)
 | .pick c a b=>xU (ev σ c) (ev σ a) (ev σ b)
 | .load t x=>(lC T σ t (evS σ x).2).map λr=>((evS σ x).1/\r.1,r.2)
 | .nilCheck x=>
  match (evS σ x).2 with
  | .ptr id size row off=>some ((evS σ x).1,.ptr id size row off)
  | .rp cells off=>some ((evS σ x).1,.rp cells off)
  | _=>none
 | .binOp op t x y _=>
  match CB T t op (evS σ x).2 (evS σ y).2 with
  | some r=>some ((evS σ x).1/\(evS σ y).1,r)
  | none=>(s_ op (evS σ x).2 (evS σ y).2).map λr=>((evS σ x).1/\(evS σ y).1/\r.1,r.2)
 | .unOp op _ x=>(G5 op (evS σ x).2).map λr=>((evS σ x).1,r)
 | .fieldAddr t x j=>(ir T t (evS σ x).2 j).map λr=>((evS σ x).1,r)
 | .field t x j=>(ph T t (evS σ x).2 j).map λr=>((evS σ x).1/\r.1,r.2)
 | .indexAddr t x i=>(iw T t (evS σ x).2 (evS σ i).2).map λr=>((evS σ x).1/\(evS σ i).1/\r.1,r.2)
 | .index t x i=>(pq T t (evS σ x).2 (evS σ i).2).map λr=>((evS σ x).1/\(evS σ i).1/\r.1,r.2)
 | .slice t x lo hi none=>(pV T t (evS σ x).2 (lo.map λo=>(evS σ o).2) (hi.map λo=>(evS σ o).2)).map λr=>
   ((evS σ x).1/\(eI σ lo.toList).1/\(eI σ hi.toList).1/\r.1,r.2)
 | .extract x j=>
  match (evS σ x).2 with
  | .tup vs=>some ((evS σ x).1/\j<vs.length,vs.getD j .any)
  | _=>none
 | .makeFunc (.func f) first captured=>if first.toList.isEmpty then some ((eI σ captured.toList).1,.fn f (eI σ captured.toList).2) else none
 | .call { callee:=.builtin .len,args,argTypes }=>
  match args.toList,argTypes.toList with
  | [x],[t]=>(rG T σ t (evS σ x).2).map λr=>((evS σ x).1,r)
  | _,_=>none
 | .convert s t x=>(tl T s t (evS σ x).2).map λr=>((evS σ x).1/\r.1,r.2)
 | .lookup t x i ok=>(qL T σ t (evS σ x).2 (evS σ i).2 ok).map λr=>((evS σ x).1/\(evS σ i).1/\r.1,r.2)
 | _=>none
section sound
variable {P:Program} {T:Tab} {C:Ctx} {μ:Nat->Option Nat} {S:Nat->Prop} {σ:St} {a:Act} {w:World}
theorem kI (hT:TabOK P T) {t:TypeId} {b:Bool} (h:(T.und t).isA=some b):(isAgg t).run P w=.ok b w:=by
 have hk:=hT.und t;unfold isAgg;cases e:T.und t<;>rw[e] at h hk<;>simp only[KD.isA,gL,reduceCtorEq] at h<;>subst h<;>simp only[jO] at hk
 case struct=>obtain ⟨F,hF,_⟩:=hk;simp[run_underlying hF]
 case iface=>obtain ⟨F,hF⟩:=hk;simp[run_underlying hF]
 case func=>obtain ⟨a,b,c,hF⟩:=hk;simp[run_underlying hF]
 all_goals simp[run_underlying hk]
theorem bB (hT:TabOK P T) {t:TypeId} (h:T.siz t≠0):(sizeOf t).run P w=.ok (T.siz t) w:=by
 obtain ⟨i,hi,hs,_⟩:=hT.siz t h;simp[sizeOf,typeInfo,hi,hs]
theorem add_plain (g o n:Nat):Addr.add ⟨g,o,none⟩ n=⟨g,o+n,none⟩:=Addr.add_lit g o n
theorem nn (hT:TabOK P T) {t:TypeId} {g o off:Nat} {cells:List AV} {vals:Nat->Value} {p:Prop} {x:AV}
  (h:loadCells T t cells off=some (p,x)) (hp:p)
  (hc:∀j,j<cells.length->w.cell? ⟨g,o+j,none⟩=some (vals j)) (hr:∀(j:Nat) y,cells[j]? = some y->Rd μ S w (vals j) y) :
  ∃u,(loadVar t ⟨g,o+off,none⟩).run P w=.ok u w/\Rd μ S w u x:=by
 unfold loadCells at h;cases e:(T.und t).isA with
 | none=>simp[e] at h
 | some b=>
  cases b with
  | true=>
   simp only[e,gL,gM] at h;obtain ⟨rfl,rfl⟩:=h;obtain ⟨hz,hp⟩:=hp;refine ⟨.agg ((List.range (T.siz t)).map λj=>vals (off+j)).toArray,?_,?_⟩
   ·have:=run_loadCells_list (P:=P) (w:=w) ⟨g,o+off,none⟩ ((List.range (T.siz t)).map λj=>vals (off+j)) (λj v hv=>by
     rw[W5] at hv;rw[add_plain];have hj:j<T.siz t:=by
      by_cases hj:j<T.siz t
      ·exact hj
      ·rw[List.getElem?_eq_none QQ] at hv;simp at hv
     rw[Yw hj] at hv;simp at hv;rw[<-hv,Nat.add_assoc];exact hc _ z8)
    simp only[List.length_map,List.length_range] at this;simp[loadVar,kI hT e,bB hT hz,this]
   ·refine .agg _ _ k6 (λj y hy=>?_);rw[YW] at hy;split at hy
    ·rename_i hj;rw[List.getElem?_drop] at hy;have:(((List.range (T.siz t)).map λj=>vals (off+j)).toArray).getD j undef=vals (off+j):=by
      simp[Array.getD_eq_getD_getElem?,hj]
     rw[this];exact hr _ _ hy
    ·cases hy
  | false=>
   simp only[e,gL,gM] at h;obtain ⟨rfl,rfl⟩:=h;refine ⟨vals off,?_,?_⟩
   ·simp[loadVar,kI hT e,hc off hp]
   ·refine hr off _ ?_;rw[List.getD_eq_getElem?_getD,W3 hp];rfl
theorem cell_of {g:Nat} {c:Array Value} {e:TypeId} {f:Nat×Nat} (h:w.heap[g]? = some (.cells c e f)) (k:Nat):w.cell? ⟨g,k,none⟩=c[k]?:=by
 simp[World.cell?,h]
theorem uF (hT:TabOK P T) (hi:Inv C μ S σ a w) {t:TypeId} {v:Value} {x r:AV} {p:Prop} (h:lC T σ t x=some (p,r)) (hp:p) (hv:Rd μ S w v x) :
  ∃u,(Instr.loadAt t v).run P w=.ok u w/\Rd μ S w u r:=by
 cases x<;>simp only[lC,reduceCtorEq] at h
 case rp cells off=>
  obtain ⟨g,o,vals,rfl,hS,hc,hr⟩:=hv.oC.oC;obtain ⟨u,h1,h2⟩:=nn (μ:=μ) (S:=S) (P:=P) (w:=w) hT h hp hc (λj y hy=>.pure (hr j y hy));exact ⟨u,by simpa[Instr.loadAt,Instr.sureAddr] using h1,h2⟩
 case ptr id size row off=>
  obtain ⟨g,hg,rfl⟩:=hv.iX;split at h
  ·rename_i e s rows hb;split at h
   ·rename_i hs;subst hs;cases hl:loadCells T t (rows.getD row []) off with
    | none=>rw[hl] at h;cases h
    | some q=>
     obtain ⟨p',r'⟩:=q;simp only[hl,Option.map_some,gL,gM] at h;obtain ⟨rfl,rfl⟩:=h;obtain ⟨hrow,hp'⟩:=hp;have hbk:=hi.hp id _ hb
     rcases hbk with ⟨rfl,h2⟩ | ⟨g',c,h1,h2,h3,h4,h5⟩
     ·rw[h2] at hg;cases hg
     ·rw[h1] at hg;injection hg with hg;subst hg
      have hrow':rows[row]? = some (rows.getD row []):=by
       rw[List.getD_eq_getElem?_getD,W3 hrow];rfl
      have hlen:(rows.getD row []).length=s:=h4 _ (W6 hrow');have hle:row*s+s<=rows.length*s:=by
       have:=YM s (Nat.succ_le_of_lt hrow)
       rwa [Y5] at this
      obtain ⟨u,k1,k2⟩:=nn (μ:=μ) (S:=S) (P:=P) (w:=w) (g:=g') (o:=row*s) (vals:=λj=>c.getD (row*s+j) undef) hT hl hp'
       (λj hj=>by
        rw[cell_of h2,Array.getD_eq_getD_getElem?,YK z8];rfl)
       (λj y hy=>h5 row _ hrow' j y hy)
      exact ⟨u,by simpa[Instr.loadAt,Instr.sureAddr] using k1,k2⟩
   ·cases h
  ·cases h
theorem sn (hT:TabOK P T) {t:TypeId} {v:Value} {x r:AV} {j:Nat} (h:ir T t x j=some r) (hv:Rd μ S w v x) :
  ∃u,(Instr.fieldAt t v j).run P w=.ok u w/\Rd μ S w u r:=by
 unfold ir at h;split at h
 ·rename_i q o cells off hf;injection h with h;subst h
  obtain ⟨F,f,h1,h2,h3,h4,h5⟩:=hT.fld _ _ _ _ hf;obtain ⟨g,o',vals,rfl,hS,hc,hr⟩:=hv.oC.oC;refine ⟨.pointer (some ⟨g,o'+(off+o),none⟩),?_,.pure (.rp g o' (off+o) cells vals hS hc hr)⟩;simp[Instr.fieldAt,run_underlying h1,h2,Instr.sureAddr,fieldPlace,h3,bB hT h5,h5,h4,add_plain,Nat.add_assoc]
 ·rename_i q o id size row off hf;injection h with h;subst h
  obtain ⟨F,f,h1,h2,h3,h4,h5⟩:=hT.fld _ _ _ _ hf;obtain ⟨g,hg,rfl⟩:=hv.iX;refine ⟨.pointer (some ⟨g,row*size+(off+o),none⟩),?_,.ptr id size row (off+o) g hg⟩;simp[Instr.fieldAt,run_underlying h1,h2,Instr.sureAddr,fieldPlace,h3,bB hT h5,h5,h4,add_plain,Nat.add_assoc]
 ·cases h
theorem Jh (hT:TabOK P T) {t:TypeId} {off:Nat} {cells:List AV} {cs:Array Value} {p:Prop} {x:AV} (h:loadCells T t cells off=some (p,x)) (hp:p)
  (hl:cs.size=cells.length) (hr:∀(j:Nat) y,cells[j]? = some y->Rd μ S w (cs.getD j undef) y):∃u,(part t cs off).run P w=.ok u w/\Rd μ S w u x:=by
 unfold loadCells at h;cases e:(T.und t).isA with
 | none=>simp[e] at h
 | some b=>
  cases b with
  | true=>
   simp only[e,gL,gM] at h;obtain ⟨rfl,rfl⟩:=h;obtain ⟨hz,hp⟩:=hp;refine ⟨.agg (cs.extract off (off+T.siz t)),by simp[part,kI hT e,bB hT hz],.agg _ _ k6 (λj y hy=>?_)⟩;rw[YW] at hy;split at hy
   ·rename_i hj;rw[List.getElem?_drop] at hy;have:(cs.extract off (off+T.siz t)).getD j undef=cs.getD (off+j) undef:=by
     simp only[Array.getD_eq_getD_getElem?,Array.getElem?_extract];rw[if_pos z8]
    rw[this];exact hr _ _ hy
   ·cases hy
  | false=>
   simp only[e,gL,gM] at h;obtain ⟨rfl,rfl⟩:=h;have hlt:off<cs.size:=by omega
   refine ⟨cs[off],by simp[part,kI hT e,hlt],?_⟩;have:=hr off (cells.getD off .any) (by rw[List.getD_eq_getElem?_getD,W3 hp];rfl)
   rwa [Array.getD_eq_getD_getElem?,YK hlt] at this
theorem AG (hT:TabOK P T) {t:TypeId} {v:Value} {x r:AV} {j:Nat} {p:Prop} (h:ph T t x j=some (p,r)) (hp:p) (hv:Rd μ S w v x) :
  ∃u,(Instr.field t v j).run P w=.ok u w/\Rd μ S w u r:=by
 unfold ph at h;split at h
 ·rename_i ft o cells hf;obtain ⟨F,f,h1,h2,h3,h4,h5⟩:=hT.fld _ _ _ _ hf;obtain ⟨cs,rfl,hl,hr⟩:=hv.nC;obtain ⟨u,k1,k2⟩:=Jh (μ:=μ) (S:=S) (P:=P) (w:=w) hT h hp hl hr;refine ⟨u,?_,k2⟩;simp[Instr.field,run_underlying h1,h2,asAgg,h3,h4,k1]
 ·cases h
theorem so (hT:TabOK P T) {t:TypeId} {v vi:Value} {x i r:AV} {p:Prop} (h:iw T t x i=some (p,r)) (hp:p) (hv:Rd μ S w v x) (hvi:Rd μ S w vi i) :
  ∃u,(Instr.indexAt t v vi).run P w=.ok u w/\Rd μ S w u r:=by
 unfold iw at h;split at h
 ·rename_i e rows k n hu;simp only[gL,gM] at h;obtain ⟨rfl,rfl⟩:=h;obtain ⟨hz,h0,hn,hl⟩:=hp;obtain rfl:=hvi.aL;have ht:=hT.und t;rw[hu] at ht;obtain ⟨A,cap,size,g,off,vals,rfl,hc,hs,hA,hcell,hr⟩:=hv.gU.gU;obtain ⟨rfl,hS⟩:=hA z8;have hrow:rows[n.toNat]? = some (rows.getD n.toNat []):=by
   rw[List.getD_eq_getElem?_getD,W3 hn];rfl
  have hsz:size=T.siz e:=by rw[<-hl];exact (hs _ (W6 hrow)).symm
  subst hsz;refine ⟨.pointer (some ⟨g,off+n.toNat*T.siz e+0,none⟩),?_,.pure (.rp g (off+n.toNat*T.siz e) 0 _ (vals n.toNat) hS (λj hj=>?_) (λj y hy=>hr _ _ hrow j y hy))⟩
  ·simp only[jO] at ht;simp[Instr.indexAt,asIntOf,run_underlying ht,bB hT hz,add_plain,h0,show n<(rows.length:Int) by omega]
  ·rw[Nat.add_assoc];exact hcell _ _ hn z8
 ·rename_i e id size off len k n hu;simp only[gL,gM] at h;obtain ⟨rfl,rfl⟩:=h;obtain ⟨hz,hz0,h0,hn⟩:=hp;obtain rfl:=hvi.aL;have ht:=hT.und t;rw[hu] at ht;obtain ⟨A,cap,rfl,hc,h⟩:=hv.bT
  rcases h with ⟨h1,h2⟩ | ⟨g,e',m,h1,rfl,h3,h4⟩
  ·omega
  ·refine ⟨.pointer (some ⟨g,(off+n.toNat)*size+0,none⟩),?_,.ptr id size (off+n.toNat) 0 g h1⟩;simp only[jO] at ht;simp[Instr.indexAt,asIntOf,run_underlying ht,bB hT (by rw[hz];exact hz0),add_plain,h0,show n<(len:Int) by omega,hz,Nat.add_mul]
 ·cases h
theorem AH (hT:TabOK P T) {t:TypeId} {v vi:Value} {x i r:AV} {p:Prop} (h:pq T t x i=some (p,r)) (hp:p) (hv:Rd μ S w v x) (hvi:Rd μ S w vi i) :
  ∃u,(Instr.index t v vi).run P w=.ok u w/\Rd μ S w u r:=by
 unfold pq at h;split at h
 ·rename_i s k n hu;simp only[gL,gM] at h;obtain ⟨rfl,rfl⟩:=h;obtain ⟨h0,hn⟩:=hp;obtain rfl:=hvi.aL;obtain ⟨b,rfl,rfl⟩:=hv.fE;have ht:=hT.und t;rw[hu] at ht;simp only[jO] at ht;have hlt:n.toNat<b.size:=by simpa using hn
  have e:b[n.toNat]? = some (b.data.toList.getD n.toNat 0):=by
   rw[getElem?_pos b n.toNat hlt,List.getD_eq_getElem?_getD,W3 hn];rfl
  refine ⟨.int .u8 (b.data.toList.getD n.toNat 0).toNat,?_,.pure (.int _ _)⟩;simp[Instr.index,asIntOf,run_underlying ht,h0,hlt];rfl
 ·cases h
def ORd (μ:Nat->Option Nat) (S:Nat->Prop) (w:World):Option AV->Option Value->Prop
 | none,none=>True
 | some x,some v=>Rd μ S w v x
 | _,_=>False
def fX (vo:Option Value) (d l:Nat):Prop:=
 match vo with
 | none=>l=d
 | some v=>∃k,v=.int k (l:Int)
theorem gX (o:Option AV) (vo:Option Value) (d l:Nat) (q:Prop) (h:jD o d=some (q,l)) (hq:q)
  (ho:ORd μ S w o vo) :
  fX vo d l:=by
 unfold jD at h;cases vo with
 | none=>
  cases o with
  | none=>simp only[gL,gM] at h;exact h.2.symm
  | some x=>exact ho.elim
 | some v=>
  cases o with
  | none=>exact ho.elim
  | some x=>
   cases x<;>simp only[gL,gM,reduceCtorEq] at h;obtain ⟨rfl,rfl⟩:=h;rename_i k n;obtain rfl:=Rd.aL ho;exact ⟨k,by simp only[Value.int.injEq,true_and];omega⟩
theorem fL (isS:Bool) (len cap l h:Nat) (lo hi:Option Value) (hlo:fX lo 0 l)
  (hhi:fX hi len h) (hlh:l<=h) (hc:h<=cap):(Instr.sliceBounds isS len cap lo hi none).run P w=.ok (l,h,cap) w:=by
 cases lo with
 | none=>
  subst hlo;cases hi with
  | none=>subst hhi;simp[Instr.sliceBounds]
  | some v=>obtain ⟨k,rfl⟩:=hhi;simp[Instr.sliceBounds,Instr.sliceBound,asIntOf,hc]
 | some u=>
  obtain ⟨k',rfl⟩:=hlo;cases hi with
  | none=>subst hhi;simp[Instr.sliceBounds,Instr.sliceBound,asIntOf,hlh]
  | some v=>obtain ⟨k,rfl⟩:=hhi;simp[Instr.sliceBounds,Instr.sliceBound,asIntOf,hc,hlh]
theorem AI (hT:TabOK P T) {t:TypeId} {v:Value} {x r:AV} {lo hi:Option AV} {vlo vhi:Option Value} {p:Prop} (h:pV T t x lo hi=some (p,r)) (hp:p) (hv:Rd μ S w v x)
  (hlo:ORd μ S w lo vlo) (hhi:ORd μ S w hi vhi) :
  ∃u,(Instr.sliceAt t v vlo vhi none).run P w=.ok u w/\Rd μ S w u r:=by
 unfold pV at h;have ht:=hT.und t;split at h
 ·rename_i s hu;rw[hu] at ht;simp only[jO] at ht;obtain ⟨b,rfl,rfl⟩:=hv.fE;cases e1:jD lo 0 with
  | none=>rw[e1] at h;cases h
  | some q1=>
   obtain ⟨q1,l⟩:=q1;cases e2:jD hi b.data.toList.length with
   | none=>rw[e1,e2] at h;cases h
   | some q2=>
    obtain ⟨q2,m⟩:=q2;simp only[e1,e2,gL,gM] at h;obtain ⟨rfl,rfl⟩:=h;obtain ⟨h1,h2,h3,h4⟩:=hp;have hb:b.data.toList.length=b.size:=by simp
    have k1:=gX (μ:=μ) (S:=S) (w:=w) lo vlo 0 l q1 e1 h1 hlo;have k2:=gX (μ:=μ) (S:=S) (w:=w) hi vhi _ m q2 e2 h2 hhi;rw[hb] at k2 h4;refine ⟨.string (b.extract l m),?_,.pure (.str _ _ ?_)⟩
    ·simp[Instr.sliceAt,Instr.slice,run_underlying ht,fL (P:=P) (w:=w) false b.size b.size l m vlo vhi k1 k2 h3 h4]
    ·rw[ByteArray.data_extract,Array.toList_extract,List.extract_eq_take_drop,List.drop_take]
 ·rename_i e rows hu;rw[hu] at ht;simp only[jO] at ht;obtain ⟨A,cap,size,g,off,vals,rfl,hc,hs,hA,hcell,hr⟩:=hv.gU.gU;cases e1:jD lo 0 with
  | none=>rw[e1] at h;cases h
  | some q1=>
   obtain ⟨q1,l⟩:=q1;cases e2:jD hi rows.length with
   | none=>rw[e1,e2] at h;cases h
   | some q2=>
    obtain ⟨q2,m⟩:=q2;simp only[e1,e2,gL,gM] at h;obtain ⟨rfl,rfl⟩:=h;obtain ⟨hz,h1,h2,h3,h4,h5⟩:=hp;have k1:=gX (μ:=μ) (S:=S) (w:=w) lo vlo 0 l q1 e1 h1 hlo;have k2:=gX (μ:=μ) (S:=S) (w:=w) hi vhi _ m q2 e2 h2 hhi;have hlen:((rows.take m).drop l).length=m-l:=by simp;omega
    have hsz:rows≠[]->size=T.siz e:=λhne=>by
     obtain ⟨row,hrow⟩:=List.exists_mem_of_ne_nil rows hne;rw[<-h5 row hrow,hs row hrow]
    have hrun:(Instr.sliceAt t (.slice A rows.length cap) vlo vhi none).run P w=.ok (.slice (if cap=l then A else A.map (·.add (l*T.siz e))) (m-l) (cap-l)) w:=by
     simp[Instr.sliceAt,Instr.slice,run_underlying ht,fL (P:=P) (w:=w) true rows.length cap l m vlo vhi k1 k2 h3 z8,bB hT hz]
    refine ⟨_,hrun,.pure (.sl _ _ _ _ size g (off+l*size) (λi j=>vals (l+i) j) hlen z8 (λrow hrow=>hs row (YJ (Yb hrow))) (λhpos=>?_) (λi j hi hj=>?_) (λi row hrow j y hy=>?_))⟩
    ·have hne:rows≠[]:=by intro e;subst e;simp at h4;omega
     obtain ⟨rfl,hS⟩:=hA z8;rw[if_neg z8];exact ⟨by simp[add_plain,hsz hne],hS⟩
    ·have:=hcell (l+i) j z8 hj;rw[Nat.add_mul] at this;rw[<-this]
     congr 2;omega
    ·rw[List.getElem?_drop,YW] at hrow;split at hrow
     ·exact hr _ row hrow j y hy
     ·cases hrow
 ·rename_i e id size off len hu;rw[hu] at ht;simp only[jO] at ht;obtain ⟨A,cap,rfl,hc,hor⟩:=hv.bT;cases e1:jD lo 0 with
  | none=>rw[e1] at h;cases h
  | some q1=>
   obtain ⟨q1,l⟩:=q1;cases e2:jD hi len with
   | none=>rw[e1,e2] at h;cases h
   | some q2=>
    obtain ⟨q2,m⟩:=q2;simp only[e1,e2,gL,gM] at h;obtain ⟨rfl,rfl⟩:=h;obtain ⟨hz,hz0,h1,h2,h3,h4⟩:=hp;have k1:=gX (μ:=μ) (S:=S) (w:=w) lo vlo 0 l q1 e1 h1 hlo;have k2:=gX (μ:=μ) (S:=S) (w:=w) hi vhi _ m q2 e2 h2 hhi;have hrun:(Instr.sliceAt t (.slice A len cap) vlo vhi none).run P w=.ok (.slice (if cap=l then A else A.map (·.add (l*T.siz e))) (m-l) (cap-l)) w:=by
     simp[Instr.sliceAt,Instr.slice,run_underlying ht,fL (P:=P) (w:=w) true len cap l m vlo vhi k1 k2 h3 z8,bB hT (by rw[hz];exact hz0)]
    refine ⟨_,hrun,.osl id size (off+l) (m-l) (cap-l) _ z8 ?_⟩
    rcases hor with ⟨j1,j2⟩ | ⟨g,e',n,j1,rfl,j3,j4⟩
    ·exact .inl ⟨by omega,by omega⟩
    ·by_cases hcl:cap=l
     ·exact .inl ⟨by omega,by omega⟩
     ·refine .inr ⟨g,e',n,j1,?_,j3,?_⟩
      ·rw[if_neg hcl];simp[add_plain,hz,Nat.add_mul]
      ·rw[show off+l+(cap-l)=off+cap from by omega];exact j4
 ·cases h
theorem DK (hT:TabOK P T) {t:TypeId} (h:(T.und t).isBool=true):P.underlying t=some .bool:=by
 have hk:=hT.und t;cases e:T.und t<;>rw[e] at h hk<;>simp only[KD.isBool,Bool.false_eq_true] at h;exact hk
theorem run_equal_bool {t:TypeId} (h:P.underlying t=some .bool) (a b:Bool):(Op.equal t (.bool a) (.bool b)).run P w=.ok (a==b) w:=by
 have e:∀d,(Op.equalIn (d+1) t (.bool a) (.bool b)).run P w=.ok (a==b) w:=λd=>by
  unfold Op.equalIn;simp[run_underlying h]
 exact e 9999
theorem EE (hT:TabOK P T) {op:BinOp} {t:TypeId} {ox oy:Operand} {v u:Value} {x y r:AV} (h:CB T t op x y=some r) (hv:Rd μ S w v x) (hu:Rd μ S w u y) :
  ∃q,(do eqGuard op t ox oy v u;binOp op t v u:Sem Value).run P w=.ok q w/\Rd μ S w q r:=by
 unfold CB at h;split at h
 ·rename_i k a k' b;obtain rfl:=hv.aL;obtain rfl:=hu.aL;split at h
  ·rename_i hk;subst hk;unfold Br at h;split at h<;>first
    | cases h;done
    | (injection h with h;subst h;refine ⟨_,by simp[eqGuard_at_int,binOp,Op.intArith,Op.intCmp];rfl,.pure (by first | exact .int _ _ | exact .bool _)⟩)
  ·cases h
 ·rename_i a b;obtain rfl:=hv.eQ;obtain rfl:=hu.eQ;split at h
  ·rename_i hb;have hb:=DK hT hb;split at h<;>first
    | (cases h;done)
    | (injection h with h;subst h;refine ⟨_,by simp only[eqGuard_at_bool,binOp,pure_bind,Sem.run_bind,run_equal_bool hb];rfl,.pure (.bool _)⟩)
  ·cases h
 ·rename_i a b;obtain ⟨s,rfl,rfl⟩:=hv.fE;obtain ⟨s',rfl,rfl⟩:=hu.fE;split at h<;>first
   | cases h;done
   | (injection h with h;subst h;refine ⟨_,by simp only[eqGuard_at_string,binOp,Op.stringOp,ByteArray.toList_eq,pure_bind];rfl,.pure (.bool _)⟩)
 ·cases h
end sound
end Go.Eng

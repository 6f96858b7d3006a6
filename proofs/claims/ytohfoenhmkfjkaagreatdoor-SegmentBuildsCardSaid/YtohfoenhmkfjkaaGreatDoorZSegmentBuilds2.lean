/- What the law 'SegmentBuilds' needs of walks and plain Lean, part 2: nothing is assumed beyond the texts that it imports. -/
import Derived.ChangeKeysEq
import Derived.Ground.Names2Prog
import Derived.Laws.IdiomCopy
import Derived.Laws.MakeOwn
import Derived.Laws.StructEq
import Derived.Lib.RuneBytes
import Derived.Lib.SliceRun
import Derived.Maps.OwnSet
import Derived.Shelf.Slices.SearchI
import Derived.Shelf.Small.Strs
import Derived.Shelf.Small.Utf8
import Derived.Shelf.Strings.Builder1
import Derived.Shelf.Strings.BuilderRune
import Derived.Test.YtohfoenhmkfjkaaGreatDoorProg
import Derived.Test.YtohfoenhmkfjkaaGreatDoorZSegmentBuilds1
set_option linter.unusedVariables false
set_option linter.unusedSimpArgs false
theorem ae:type_of% @Go.K.Rg.nil:=@Go.K.Rg.nil
theorem ah:type_of% @Go.K.Rg.move:=@Go.K.Rg.move
theorem aj:type_of% @Go.K.T.region:=@Go.K.T.region
theorem ak:type_of% @Go.K.Rg.assign:=@Go.K.Rg.assign
theorem al:type_of% @Go.K.T.seq:=@Go.K.T.seq
theorem ao:type_of% @Go.K.Le.refl:=@Go.K.Le.refl
theorem aq:type_of% @Go.K.Rg.aI:=@Go.K.Rg.aI
theorem ar:type_of% @Go.K.Step.refl:=@Go.K.Step.refl
theorem au:type_of% @Go.K.Rg.bJ:=@Go.K.Rg.bJ
theorem av:type_of% @List.getElem?_eq_getElem:=@List.getElem?_eq_getElem
theorem aw:type_of% @List.getElem?_eq_some_iff:=@List.getElem?_eq_some_iff
theorem ax:type_of% @Go.Proofs.Tryz.underlying32:=@Go.Proofs.Tryz.underlying32
theorem ay:type_of% @Go.K.Rg.fieldAddr:=@Go.K.Rg.fieldAddr
theorem az:type_of% @Go.Proofs.Tryz.underlying3:=@Go.Proofs.Tryz.underlying3
theorem aC:type_of% @Int.toNat_natCast:=@Int.toNat_natCast
theorem aD:type_of% @Go.Proofs.Tryz.underlying9:=@Go.Proofs.Tryz.underlying9
theorem aF:type_of% @Go.Proofs.Tryz.underlying55:=@Go.Proofs.Tryz.underlying55
theorem aG:type_of% @List.mem_of_getElem?:=@List.mem_of_getElem?
theorem aH:type_of% @Go.K.bB.cons:=@Go.K.bB.cons
theorem aJ:type_of% @Go.K.Rg.bD:=@Go.K.Rg.bD
theorem aK:type_of% @Go.Proofs.Tryz.underlying107:=@Go.Proofs.Tryz.underlying107
theorem aN:type_of% @Option.some.inj:=@Option.some.inj
theorem aO:type_of% @Go.Proofs.Tryz.underlying41:=@Go.Proofs.Tryz.underlying41
theorem aP:type_of% @Go.K.Rg.call:=@Go.K.Rg.call
theorem aQ:type_of% @Go.K.T.ret:=@Go.K.T.ret
theorem aR:type_of% @Go.K.Rg.bE:=@Go.K.Rg.bE
theorem aS:type_of% @Go.Proofs.Tryz.underlying39:=@Go.Proofs.Tryz.underlying39
theorem aT:type_of% @Nat.le_refl:=@Nat.le_refl
theorem aU:type_of% @Go.K.Le.trans:=@Go.K.Le.trans
theorem aW:type_of% @Go.K.Rg.bY:=@Go.K.Rg.bY
theorem aX:type_of% @Go.K.Rg.b5:=@Go.K.Rg.b5
theorem aY:type_of% @Go.K.cf.cons:=@Go.K.cf.cons
theorem aZ:type_of% @Go.K.T.skip:=@Go.K.T.skip
theorem a7:type_of% @List.take_of_length_le:=@List.take_of_length_le
theorem bg:type_of% @Go.K.Rg.load:=@Go.K.Rg.load
theorem bh:type_of% @Go.K.T.block:=@Go.K.T.block
theorem bj:type_of% @Go.Proofs.Tryz.underlying147:=@Go.Proofs.Tryz.underlying147
theorem bm:type_of% @Go.K.Rg.nilCheck:=@Go.K.Rg.nilCheck
theorem br:type_of% @Go.K.Step.le:=@Go.K.Step.le
theorem bw:type_of% @Go.Proofs.Tryz.underlying47:=@Go.Proofs.Tryz.underlying47
theorem bz:type_of% @Go.K.Rg.cb:=@Go.K.Rg.cb
theorem bA:type_of% @Go.Proofs.Tryz.underlying153:=@Go.Proofs.Tryz.underlying153
theorem bC:type_of% @Go.Proofs.Tryz.underlying62:=@Go.Proofs.Tryz.underlying62
theorem bG:type_of% @List.length_take:=@List.length_take
theorem bH:type_of% @Nat.zero_le:=@Nat.zero_le
theorem bI:type_of% @Go.K.Rg.dd:=@Go.K.Rg.dd
theorem bK:type_of% @Go.K.Rg.cG:=@Go.K.Rg.cG
theorem bL:type_of% @Go.Sem.run_bind:=@Go.Sem.run_bind
theorem bM:type_of% @List.length_append:=@List.length_append
theorem bN:type_of% @List.mem_iff_getElem?:=@List.mem_iff_getElem?
theorem bO:type_of% @Go.K.Rg.eqv:=@Go.K.Rg.eqv
theorem bP:type_of% @List.take_add_one:=@List.take_add_one
theorem bQ:type_of% @Go.K.T.dJ:=@Go.K.T.dJ
theorem bR:type_of% @Go.Proofs.Tryz.underlying98:=@Go.Proofs.Tryz.underlying98
theorem bT:type_of% @Bool.and_eq_true:=@Bool.and_eq_true
theorem bU:type_of% @Go.Proofs.Tryz.underlying216:=@Go.Proofs.Tryz.underlying216
theorem bV:type_of% @Array.getElem?_setIfInBounds:=@Array.getElem?_setIfInBounds
theorem bZ:type_of% @Go.K.Rg.extract:=@Go.K.Rg.extract
theorem b9:type_of% @Go.Proofs.Tryz.underlying56:=@Go.Proofs.Tryz.underlying56
theorem ca:type_of% @Go.Proofs.Tryz.underlying127:=@Go.Proofs.Tryz.underlying127
theorem cd:type_of% @Go.Proofs.Tryz.underlying58:=@Go.Proofs.Tryz.underlying58
theorem cg:type_of% @List.mem_map:=@List.mem_map
theorem ch:type_of% @Go.K.Rg.cN:=@Go.K.Rg.cN
theorem cj:type_of% @List.length_map:=@List.length_map
theorem ck:type_of% @Go.K.Rg.dg:=@Go.K.Rg.dg
theorem cn:type_of% @Option.toList_some:=@Option.toList_some
theorem cr:type_of% @Go.K.Rg.cD:=@Go.K.Rg.cD
theorem cu:type_of% @Go.K.Rg.idx:=@Go.K.Rg.idx
theorem cv:type_of% @Go.K.Rg.append:=@Go.K.Rg.append
theorem cx:type_of% @List.mem_cons_self:=@List.mem_cons_self
theorem cz:type_of% @Go.K.Rg.fN:=@Go.K.Rg.fN
theorem cA:type_of% @Go.Result.andThen_ok:=@Go.Result.andThen_ok
theorem cC:type_of% @Go.K.Step.aM:=@Go.K.Step.aM
theorem cH:type_of% @Go.K.Rg.ed:=@Go.K.Rg.ed
theorem cI:type_of% @List.mem_singleton:=@List.mem_singleton
theorem cK:type_of% @List.all_eq_true:=@List.all_eq_true
theorem cL:type_of% @List.mem_cons_of_mem:=@List.mem_cons_of_mem
theorem cM:type_of% @Go.Proofs.Tryz.underlying5:=@Go.Proofs.Tryz.underlying5
theorem cO:type_of% @Go.Proofs.Tryz.underlying129:=@Go.Proofs.Tryz.underlying129
theorem cP:type_of% @Go.Proofs.Tryz.underlying43:=@Go.Proofs.Tryz.underlying43
theorem cU:type_of% @Decidable.not_not:=@Decidable.not_not
theorem cY:type_of% @Go.K.T.exit:=@Go.K.T.exit
theorem cZ:type_of% @List.getD_eq_getElem?_getD:=@List.getD_eq_getElem?_getD
theorem db:type_of% @Nat.lt_or_ge:=@Nat.lt_or_ge
theorem de:type_of% @List.getElem?_take:=@List.getElem?_take
theorem dn:type_of% @Go.Proofs.Tryz.underlying191:=@Go.Proofs.Tryz.underlying191
theorem dq:type_of% @List.length_drop:=@List.length_drop
theorem dr:type_of% @List.length_cons:=@List.length_cons
theorem du:type_of% @Go.Proofs.Tryz.underlying193:=@Go.Proofs.Tryz.underlying193
theorem dx:type_of% @Option.map_some:=@Option.map_some
theorem dy:type_of% @List.mem_append:=@List.mem_append
theorem dz:type_of% @Go.K.T.loop:=@Go.K.T.loop
theorem dB:type_of% @Array.getElem?_replicate:=@Array.getElem?_replicate
theorem dD:type_of% @Go.Proofs.Tryz.underlying37:=@Go.Proofs.Tryz.underlying37
theorem dH:type_of% @List.map_append:=@List.map_append
theorem dI:type_of% @Go.Proofs.Tryz.underlying169:=@Go.Proofs.Tryz.underlying169
theorem dL:type_of% @Eq.symm:=@Eq.symm
theorem dN:type_of% @List.mem_cons:=@List.mem_cons
theorem dQ:type_of% @Go.K.Own.nil:=@Go.K.Own.nil
theorem dR:type_of% @List.pairwise_map:=@List.pairwise_map
theorem dS:type_of% @Go.Sem.run_pure:=@Go.Sem.run_pure
theorem dT:type_of% @Nat.le_trans:=@Nat.le_trans
theorem dV:type_of% @Go.Proofs.Tryz.underlying188:=@Go.Proofs.Tryz.underlying188
theorem ec:type_of% @List.drop_eq_nil_of_le:=@List.drop_eq_nil_of_le
theorem eh:type_of% @Array.getD_eq_getD_getElem?:=@Array.getD_eq_getD_getElem?
theorem ek:type_of% @Go.K.Rg.kM:=@Go.K.Rg.kM
theorem eo:type_of% @Go.Proofs.Tryz.underlying123:=@Go.Proofs.Tryz.underlying123
theorem eu:type_of% @List.contains_iff_mem:=@List.contains_iff_mem
theorem ey:type_of% @List.getElem?_set:=@List.getElem?_set
theorem eA:type_of% @Go.K.Rg.k8:=@Go.K.Rg.k8
theorem eB:type_of% @List.drop_eq_getElem_cons:=@List.drop_eq_getElem_cons
theorem eD:type_of% @Go.K.Rg.ei:=@Go.K.Rg.ei
theorem eG:type_of% @Go.K.Rg.alloc:=@Go.K.Rg.alloc
theorem eH:type_of% @Go.Proofs.Tryz.underlying125:=@Go.Proofs.Tryz.underlying125
theorem eL:type_of% @List.getElem?_toArray:=@List.getElem?_toArray
theorem eM:type_of% @List.getElem?_eq_none:=@List.getElem?_eq_none
theorem eP:type_of% @Go.Result.ok.injEq:=@Go.Result.ok.injEq
theorem eQ:type_of% @Bool.eq_false_iff:=@Bool.eq_false_iff
theorem eS:type_of% @Go.K.Rg.l0:=@Go.K.Rg.l0
theorem eT:type_of% @Go.K.Rg.build:=@Go.K.Rg.build
theorem eZ:type_of% @List.mem_map_of_mem:=@List.mem_map_of_mem
theorem ff:type_of% @List.getElem?_map:=@List.getElem?_map
theorem fo:type_of% @List.map_cons:=@List.map_cons
theorem fq:type_of% @Go.K.Rg.nN:=@Go.K.Rg.nN
theorem fy:type_of% @Nat.eq_or_lt_of_le:=@Nat.eq_or_lt_of_le
theorem fF:type_of% @Option.getD_some:=@Option.getD_some
theorem fQ:type_of% @Bool.true_and:=@Bool.true_and
theorem gj:type_of% @List.mem_filter:=@List.mem_filter
theorem gm:type_of% @List.nil_append:=@List.nil_append
theorem gJ:type_of% @Go.K.Rg.jB:=@Go.K.Rg.jB
theorem gL:type_of% @Go.Proofs.Tryz.underlying195:=@Go.Proofs.Tryz.underlying195
theorem gM:type_of% @Go.Proofs.Tryz.underlying167:=@Go.Proofs.Tryz.underlying167
theorem gO:type_of% @Go.K.Rg.fH:=@Go.K.Rg.fH
theorem gX:type_of% @Bool.not_eq_true':=@Bool.not_eq_true'
theorem gZ:type_of% @List.append_assoc:=@List.append_assoc
theorem hG:type_of% @List.length_eq_zero_iff:=@List.length_eq_zero_iff
theorem ia:type_of% @Option.map_none:=@Option.map_none
theorem ij:type_of% @List.length_pos_iff:=@List.length_pos_iff
theorem ik:type_of% @Go.K.Rg.gp:=@Go.K.Rg.gp
theorem il:type_of% @Go.K.Own.close:=@Go.K.Own.close
theorem im:type_of% @List.getD_cons_zero:=@List.getD_cons_zero
theorem iq:type_of% @List.getD_cons_succ:=@List.getD_cons_succ
theorem iv:type_of% @Option.map_eq_some_iff:=@Option.map_eq_some_iff
theorem iS:type_of% @List.mem_range:=@List.mem_range
theorem iT:type_of% @List.pairwise_cons:=@List.pairwise_cons
theorem iY:type_of% @Go.K.T.iff:=@Go.K.T.iff
theorem jc:type_of% @Array.getElem?_eq_getElem:=@Array.getElem?_eq_getElem
theorem jd:type_of% @Go.Proofs.Tryz.underlying0:=@Go.Proofs.Tryz.underlying0
theorem je:type_of% @Go.Proofs.Tryz.underlying190:=@Go.Proofs.Tryz.underlying190
theorem jl:type_of% @Bool.or_eq_true:=@Bool.or_eq_true
theorem jm:type_of% @List.length_nil:=@List.length_nil
theorem jn:type_of% @Nat.not_lt_zero:=@Nat.not_lt_zero
theorem jz:type_of% @Array.all_eq_true_iff_forall_mem:=@Array.all_eq_true_iff_forall_mem
theorem jA:type_of% @List.mem_append_left:=@List.mem_append_left
theorem jF:type_of% @Go.K.Rg.makeFunc:=@Go.K.Rg.makeFunc
theorem jN:type_of% @Go.K.Rg.not:=@Go.K.Rg.not
theorem jT:type_of% @Go.Proofs.Tryz.zeroValue0:=@Go.Proofs.Tryz.zeroValue0
theorem jU:type_of% @Go.Proofs.Tryz.zeroValue3:=@Go.Proofs.Tryz.zeroValue3
theorem jV:type_of% @Go.Proofs.Tryz.zeroValue9:=@Go.Proofs.Tryz.zeroValue9
theorem jW:type_of% @List.map_toArray:=@List.map_toArray
theorem kB:type_of% @Bool.false_eq_true:=@Bool.false_eq_true
theorem kC:type_of% @List.drop_of_length_le:=@List.drop_of_length_le
theorem kK:type_of% @List.append_nil:=@List.append_nil
theorem kL:type_of% @List.idxOf_cons:=@List.idxOf_cons
theorem kV:type_of% @Bool.not_true:=@Bool.not_true
theorem kW:type_of% @Go.K.T.pO:=@Go.K.T.pO
theorem k5:type_of% @List.singleton_append:=@List.singleton_append
theorem k7:type_of% @Go.Proofs.Tryz.underlying227:=@Go.Proofs.Tryz.underlying227
theorem lT:type_of% @Nat.lt_trichotomy:=@Nat.lt_trichotomy
theorem lU:type_of% @List.foldl_append:=@List.foldl_append
theorem lV:type_of% @List.ext_getElem?:=@List.ext_getElem?
theorem lW:type_of% @Go.K.Rg.tf:=@Go.K.Rg.tf
theorem mg:type_of% @List.mem_of_mem_take:=@List.mem_of_mem_take
theorem mB:type_of% @Go.K.Rg.wY:=@Go.K.Rg.wY
theorem nc:type_of% @Array.length_toList:=@Array.length_toList
theorem oc:type_of% @Bool.false_or:=@Bool.false_or
theorem od:type_of% @Nat.lt_irrefl:=@Nat.lt_irrefl
theorem oA:type_of% @List.getElem?_drop:=@List.getElem?_drop
theorem oB:type_of% @Go.Proofs.Tryz.underlying4:=@Go.Proofs.Tryz.underlying4
theorem pf:type_of% @List.filter_cons_of_pos:=@List.filter_cons_of_pos
theorem pD:type_of% @Go.K.Le.close:=@Go.K.Le.close
theorem qa:type_of% @List.map_map:=@List.map_map
theorem qb:type_of% @List.take_succ_eq_append_getElem:=@List.take_succ_eq_append_getElem
theorem qc:type_of% @Go.Proofs.Tryz.sizeOf0:=@Go.Proofs.Tryz.sizeOf0
theorem qd:type_of% @Go.Proofs.Tryz.sizeOf3:=@Go.Proofs.Tryz.sizeOf3
theorem qe:type_of% @Go.Proofs.Tryz.sizeOf9:=@Go.Proofs.Tryz.sizeOf9
theorem qg:type_of% @List.map_nil:=@List.map_nil
theorem qI:type_of% @Go.Proofs.Tryz.zeroValue4:=@Go.Proofs.Tryz.zeroValue4
theorem rF:type_of% @List.take_append_drop:=@List.take_append_drop
theorem rG:type_of% @List.countP_replicate:=@List.countP_replicate
theorem rH:type_of% @Array.getElem?_modify:=@Array.getElem?_modify
theorem rN:type_of% @List.mem_flatMap:=@List.mem_flatMap
theorem rO:type_of% @Go.K.bB.nil:=@Go.K.bB.nil
theorem rQ:type_of% @List.take_length:=@List.take_length
theorem rR:type_of% @Go.K.Part.snd:=@Go.K.Part.snd
theorem rS:type_of% @List.any_eq_true:=@List.any_eq_true
theorem te:type_of% @Go.Proofs.Tryz.underlying26:=@Go.Proofs.Tryz.underlying26
theorem tN:type_of% @Array.map_congr_left:=@Array.map_congr_left
theorem tO:type_of% @Go.K.Rg.box:=@Go.K.Rg.box
theorem tP:type_of% @Go.World.putObj_heap_same:=@Go.World.putObj_heap_same
theorem ue:type_of% @Go.K.cc.fk:=@Go.K.cc.fk
theorem ug:type_of% @Go.K.Rg.ll:=@Go.K.Rg.ll
theorem uw:type_of% @Go.Proofs.Tryz.isAgg0:=@Go.Proofs.Tryz.isAgg0
theorem ux:type_of% @Go.Proofs.Tryz.isAgg3:=@Go.Proofs.Tryz.isAgg3
theorem uy:type_of% @Go.Proofs.Tryz.isAgg9:=@Go.Proofs.Tryz.isAgg9
theorem wW:type_of% @Int.toNat_of_nonneg:=@Int.toNat_of_nonneg
theorem xc:type_of% @Go.K.Rg.conv:=@Go.K.Rg.conv
theorem xd:type_of% @Go.World.size_alloc:=@Go.World.size_alloc
namespace Go.K
section
variable {P:Program} {r:Option Nat} {n:Nat} {L:Sl} {ds:List Deferred} {w:World} {K:Kt}
theorem Ck {l:List Oper} {o₁:Oper} {tl:List Oper} {J:(Nat→Prop)→Act→World→Prop} (dp:eF (l++o₁::tl) 0=true) (jJ:ke (l++o₁::tl) l.length (cB o₁)=true) (uH:jK (l++o₁::tl) (l.length+1)=true)
  (Aw:∀{D D':Nat→Prop} {a w},J D a w→(∀i,i<(l++o₁::tl).length→(D' i↔D i))→J D' a w) {Q:Exit→Act→World→Prop}
  (Gy:∀{D:Nat→Prop} {a w j o rest},j<l.length→l[j]? =some o→¬D j→(∀k∈cB o,D k)→(∀i o,(l++o₁::tl)[i]? =some o→D i→∀k∈cB o,D k)→J D a w→(∀a' w',J (fun i=>i=j∨D i) a' w'→wpOpsIn (FW r) 0 P (l++o₁::tl).toArray Q rest a' w')→wpOpsIn (FW r) 0 P (l++o₁::tl).toArray Q (j::rest) a w)
  (jI:∀a w,J (fun i=>i<l.length) a w→wpListIn (FW r) 0 P (l++o₁::tl).toArray Q (o₁::tl) a w):∀(fuel t:Nat) (listed:Array Bool) (a:Act) (w:World),listed.size=(l++o₁::tl).length→listed.toList.countP (!·)=fuel→(∀i,l.length≤i→i<(l++o₁::tl).length→listed[i]? =some false)→
  (∀(i:Nat) (o:Oper),(l++o₁::tl)[i]? =some o→listed[i]? =some true→∀k∈cB o,listed[k]? =some true)→J (fun i=>listed[i]? =some true) a w→wpOpsIn (FW r) 0 P (l++o₁::tl).toArray Q (Region.linearise.go .any (l++o₁::tl).toArray fuel t listed []) a w:=by
 intro fuel
 induction fuel with
 |zero=>
  intro t listed a w kd hc ti l2 hi;have:=iz hc l.length (by simp[kd]);have h2:listed.toList[l.length]? =some false:=by simpa using ti l.length (aT _) (by simp)
  rw[h2]at this;cases this
 |succ fuel ih=>
  intro t listed a w kd hc ti l2 hi;have Gf:(l++o₁::tl).length=l.length+1+tl.length:=by simp;omega
  have Xw:listed[l.length]? =some false:=ti l.length (aT _) (by omega)
  have lh:∀j,j∈Region.ready .any (l++o₁::tl).toArray listed→∃o,(l++o₁::tl)[j]? =some o∧listed[j]? =some false∧∀k∈cB o,listed[k]? =some true:=by
   intro j hj;simp only[Region.ready,gj,iS,bT]at hj;obtain⟨h1,h2,h3⟩:=hj;have dW:j<(l++o₁::tl).length:=by simpa using h1
   refine⟨(l++o₁::tl)[j],av dW,?_,?_⟩
   ·rw[jc (by omega)];simp only[eh,jc (show j<listed.size by omega),fF,gX]at h2;rw[h2]
   ·intro k hk;simp only[cB,cg,gj]at hk;obtain⟨e,⟨Gd,Ge⟩,rfl⟩:=hk;have h4:(l++o₁::tl).toArray[j]? =some (l++o₁::tl)[j]:=by rw[eL];exact av dW
    rw[h4]at h3;simp only[dx,fF,jz]at h3;have h5:=h3 e (by simpa using Gd);rw[Ge]at h5;simp only[kV,oc,eh]at h5
    cases hx:listed[e.on]? with
    |none=>simp[hx]at h5
    |some b=>simp[hx]at h5;rw[h5]
  have fg:Region.ready .any (l++o₁::tl).toArray listed≠[]:=by
   obtain⟨i,h1,h2⟩:=lg (bs:=listed.toList) (by omega)
   have dW:i<(l++o₁::tl).length:=by
    have:=(aw.1 h1).1;simp only[nc]at this;omega
   intro uG
   have eN:i∈Region.ready .any (l++o₁::tl).toArray listed:=by
    simp only[Region.ready,gj,iS,bT];refine⟨by simpa using dW,?_,?_⟩
    ·have:listed[i]? =some false:=by simpa using h1
     simp[eh,this]
    ·have h4:(l++o₁::tl).toArray[i]? =some (l++o₁::tl)[i]:=by rw[eL];exact av dW
     rw[h4];simp only[dx,fF,jz];intro e he
     cases hb:Region.binds .any e with
     |false=>rfl
     |true=>
      have hk:e.on∈cB (l++o₁::tl)[i]:=by
       simp only[cB,cg,gj];exact⟨e,⟨by simpa using he,hb⟩,rfl⟩
      have JW:=cQ dp i (l++o₁::tl)[i] (av dW) _ hk;have:listed[e.on]? =some true:=by simpa using h2 e.on (by omega)
      simp[eh,this]
   rw[uG]at eN;cases eN
  simp only[Region.linearise.go]
  change wpOpsIn (FW r) 0 P (l++o₁::tl).toArray Q (match (Region.ready .any (l++o₁::tl).toArray listed)[t%(Region.ready .any (l++o₁::tl).toArray listed).length]? with
   |some i=>Region.linearise.go .any (l++o₁::tl).toArray fuel (t/(Region.ready .any (l++o₁::tl).toArray listed).length) (listed.setIfInBounds i true) [i]
   |none=>[].reverse) a w
  have dW:t%(Region.ready .any (l++o₁::tl).toArray listed).length<(Region.ready .any (l++o₁::tl).toArray listed).length:=Nat.mod_lt _ (ij.2 fg);rw[av dW];have eN:=List.getElem_mem dW;generalize (Region.ready .any (l++o₁::tl).toArray listed)[t%(Region.ready .any (l++o₁::tl).toArray listed).length]=j at eN;obtain⟨o,h1,h2,h3⟩:=lh j eN;simp only[];rw[linearise_go_acc,List.reverse_singleton,k5];have qG:j<l.length+1+tl.length:=by have:=(aw.1 h1).1;omega
  have yH:listed.toList[j]? =some false:=by simpa using h2
  have Rr:=jX yH;by_cases zR:j=l.length
  ·subst zR;have ho:o=o₁:=by simpa using h1.symm
   subst ho;have nQ:∀i,i<l.length→listed[i]? =some true:=fun i gy=>nh (D:=fun i=>listed[i]? =some true) l2 l.length (cB o) jJ (fun k hk=>h3 k hk) i gy
   have Xx:fuel=tl.length:=by
    have hz:((listed.toList.set l.length true).drop (l.length+1)).countP (!·)=tl.length:=by
     rw[List.drop_set_of_lt (by omega)]
     have kO:∀b∈listed.toList.drop (l.length+1),(!b)=true:=by
      intro b hb;obtain⟨i,gy⟩:=bN.1 hb;rw[oA]at gy;have nR:=(aw.1 gy).1;simp only[nc]at nR;have:=ti (l.length+1+i) (by omega) (by omega);have h9:listed.toList[l.length+1+i]? =some false:=by simpa using this
      rw[gy]at h9;cases h9;rfl
     rw[List.countP_eq_length.2 kO,dq,nc];omega
    have hy:((listed.toList.set l.length true).take (l.length+1)).countP (!·)=0:=by
     rw[List.countP_eq_zero];intro b hb;obtain⟨i,gy⟩:=bN.1 hb;rw[de]at gy
     split at gy
     ·rw[ey]at gy
      split at gy
      ·split at gy
       ·cases gy;simp
       ·cases gy
      ·have:=nQ i (by omega);have h9:listed.toList[i]? =some true:=by simpa using this
       rw[gy]at h9;cases h9;simp
     ·cases gy
    have:=rF (l.length+1) (listed.toList.set l.length true)
    have h8:(listed.toList.set l.length true).countP (!·)=0+tl.length:=by
     rw[←hy,←hz,←List.countP_append,this]
    omega
   subst Xx;have rV:l.length<listed.size:=by omega
   rw[Aj dp tl.length (l.length+1) _ _ (by simpa using kd) (by omega) (by
    simp only[jK,cK]at uH ⊢;intro j hj
    exact uH j (by rw[List.mem_range'_1]at hj ⊢;omega)) (fun i gy=>by
     rw[bV];by_cases e:l.length=i
     ·subst e;simp[rV]
     ·rw[if_neg e];exact nQ i (by omega)) (fun i h5 h6=>by
     rw[bV,if_neg (by omega)];exact ti i (by omega) h6) (fun i o' gA he j hj=>by have:=cQ dp i o' gA j hj;omega)]
   have Xy:l.length::List.range' (l.length+1) tl.length=List.range' l.length (o::tl).length:=by simp[List.range'_succ]
   rw[Xy,wpOpsIn_eq_wpListIn (o::tl) l.length (fun j=>by rw[eL,List.getElem?_append_right (by omega)];congr 1;omega)]
   exact jI a w (Aw hi fun i nR=>⟨fun h=>nQ i h,fun h=>by
    rcases db i l.length with h5|h5
    ·exact h5
    ·have h6:=ti i h5 nR;rw[h6]at h;cases h⟩)
  ·have LN:j<l.length:=by
    rcases db j l.length with h|h
    ·exact h
    ·exfalso;have hp:=h3 _ (jY uH (j:=j) (by omega) h1);rw[ti (j-1) (by omega) (by omega)]at hp;cases hp
   have Qz:l[j]? =some o:=by rwa [List.getElem?_append_left (by omega)]at h1
   refine Gy LN Qz (by rw[h2];simp) h3 l2 hi fun a' w' gy=> ?_
   have yK:j<listed.size:=(Array.getElem?_eq_some_iff.1 h2).1
   have jD:∀i,((listed.setIfInBounds j true)[i]? =some true)↔(i=j∨listed[i]? =some true):=by
    intro i;rw[bV];by_cases iy:j=i
    ·subst iy;simp[yK]
    ·rw[if_neg iy];exact⟨.inr,fun h=>h.resolve_left (fun e=>iy e.symm)⟩
   refine ih _ _ _ _ (by simpa using kd) ?_ ?_ ?_ (Aw gy fun i _=>jD i)
   ·simp only[Array.toList_setIfInBounds];omega
   ·intro i h5 h6;rw[bV,if_neg (by omega)];exact ti i h5 h6
   ·intro i o' h5 h6 k hk;rcases(jD i).1 h6 with e|h7
    ·subst e;have:o'=o:=by rw[h1]at h5;exact(aN h5).symm
     subst this;exact(jD k).2 (.inr (h3 k hk))
    ·exact(jD k).2 (.inr (l2 i o' h5 h7 k hk))
theorem nr {l:List Oper} {J:(Nat→Prop)→Act→World→Prop} (dp:eF l 0=true)
  (Aw:∀{D D':Nat→Prop} {a w},J D a w→(∀i,i<l.length→(D' i↔D i))→J D' a w) {Q:Exit→Act→World→Prop}
  (Gy:∀{D:Nat→Prop} {a w j o rest},j<l.length→l[j]? =some o→¬D j→(∀k∈cB o,D k)→(∀i o,l[i]? =some o→D i→∀k∈cB o,D k)→J D a w→(∀a' w',J (fun i=>i=j∨D i) a' w'→wpOpsIn (FW r) 0 P l.toArray Q rest a' w')→wpOpsIn (FW r) 0 P l.toArray Q (j::rest) a w)
  (jI:∀a w,J (fun i=>i<l.length) a w→Q .normal a w):∀(fuel t:Nat) (listed:Array Bool) (a:Act) (w:World),listed.size=l.length→listed.toList.countP (!·)=fuel→
  (∀(i:Nat) (o:Oper),l[i]? =some o→listed[i]? =some true→∀k∈cB o,listed[k]? =some true)→J (fun i=>listed[i]? =some true) a w→wpOpsIn (FW r) 0 P l.toArray Q (Region.linearise.go .any l.toArray fuel t listed []) a w:=by
 intro fuel
 induction fuel with
 |zero=>
  intro t listed a w kd hc l2 hi;simp only[Region.linearise.go,List.reverse_nil,wpOpsIn];exact jI a w (Aw hi fun i nR=>⟨fun h=>by simpa using iz hc i (by simp[kd];exact h),fun h=>nR⟩)
 |succ fuel ih=>
  intro t listed a w kd hc l2 hi
  have lh:∀j,j∈Region.ready .any l.toArray listed→∃o,l[j]? =some o∧listed[j]? =some false∧∀k∈cB o,listed[k]? =some true:=by
   intro j hj;simp only[Region.ready,gj,iS,bT]at hj;obtain⟨h1,h2,h3⟩:=hj;have dW:j<l.length:=by simpa using h1
   refine⟨l[j],av dW,?_,?_⟩
   ·rw[jc (by omega)];simp only[eh,jc (show j<listed.size by omega),fF,gX]at h2;rw[h2]
   ·intro k hk;simp only[cB,cg,gj]at hk;obtain⟨e,⟨Gd,Ge⟩,rfl⟩:=hk;have h4:l.toArray[j]? =some l[j]:=by simp[dW]
    rw[h4]at h3;simp only[dx,fF,jz]at h3;have h5:=h3 e (by simpa using Gd);rw[Ge]at h5;simp only[kV,oc,eh]at h5
    cases hx:listed[e.on]? with
    |none=>simp[hx]at h5
    |some b=>simp[hx]at h5;rw[h5]
  have fg:Region.ready .any l.toArray listed≠[]:=by
   obtain⟨i,h1,h2⟩:=lg (bs:=listed.toList) (by omega)
   have dW:i<l.length:=by
    have:=(aw.1 h1).1;simp at this;omega
   intro uG
   have eN:i∈Region.ready .any l.toArray listed:=by
    simp only[Region.ready,gj,iS,bT];refine⟨by simpa using dW,?_,?_⟩
    ·have:listed[i]? =some false:=by simpa using h1
     simp[eh,this]
    ·have h4:l.toArray[i]? =some l[i]:=by simp[dW]
     rw[h4];simp only[dx,fF,jz];intro e he
     cases hb:Region.binds .any e with
     |false=>rfl
     |true=>
      have hk:e.on∈cB l[i]:=by
       simp only[cB,cg,gj];exact⟨e,⟨by simpa using he,hb⟩,rfl⟩
      have JW:=cQ dp i l[i] (av dW) _ hk;have:listed[e.on]? =some true:=by simpa using h2 e.on (by omega)
      simp[eh,this]
   rw[uG]at eN;cases eN
  simp only[Region.linearise.go]
  change wpOpsIn (FW r) 0 P l.toArray Q (match (Region.ready .any l.toArray listed)[t%(Region.ready .any l.toArray listed).length]? with
   |some i=>Region.linearise.go .any l.toArray fuel (t/(Region.ready .any l.toArray listed).length) (listed.setIfInBounds i true) [i]
   |none=>[].reverse) a w
  have dW:t%(Region.ready .any l.toArray listed).length<(Region.ready .any l.toArray listed).length:=Nat.mod_lt _ (ij.2 fg);rw[av dW];have eN:=List.getElem_mem dW;generalize (Region.ready .any l.toArray listed)[t%(Region.ready .any l.toArray listed).length]=j at eN;obtain⟨o,h1,h2,h3⟩:=lh j eN;simp only[];rw[linearise_go_acc,List.reverse_singleton,k5];have qG:j<l.length:=(aw.1 h1).1;refine Gy qG h1 (by rw[h2];simp) h3 l2 hi fun a' w' gy=> ?_
  have yH:listed.toList[j]? =some false:=by simpa using h2
  have yK:j<listed.size:=(Array.getElem?_eq_some_iff.1 h2).1
  have jD:∀i,((listed.setIfInBounds j true)[i]? =some true)↔(i=j∨listed[i]? =some true):=by
   intro i;rw[bV];by_cases iy:j=i
   ·subst iy;simp[yK]
   ·rw[if_neg iy];exact⟨.inr,fun h=>h.resolve_left (fun e=>iy e.symm)⟩
  refine ih _ _ _ _ (by simpa using kd) ?_ ?_ (Aw gy fun i _=>jD i)
  ·have:=jX yH;simp only[Array.toList_setIfInBounds];omega
  ·intro i o' h5 h6 k hk;rcases(jD i).1 h6 with e|h7
   ·subst e;have:o'=o:=by rw[h1]at h5;exact(aN h5).symm
    subst this;exact(jD k).2 (.inr (h3 k hk))
   ·exact(jD k).2 (.inr (l2 i o' h5 h7 k hk))
def ja:Op→Bool
 |.move _| .assign _| .pick .. | .load .. | .nilCheck _| .binOp .. | .unOp .. | .convert .. | .makeInterface .. | .makeFunc .. | .slice .. | .fieldAddr .. | .field .. | .indexAddr .. | .index .. | .typeAssert .. | .extract .. | .lookup .. | .build .. =>true
 |.call {callee:= .builtin .len,.. }| .call {callee:= .builtin .cap,.. }| .call {callee:= .builtin .min,.. }| .call {callee:= .builtin .max,.. }=>true
 |_=>false
theorem lx {ρ ρ':Operand→Value} {o:Oper} (hq:ja o.op=true) (h:∀x∈o.op.operands,ρ x=ρ' x):execOp ρ o=execOp ρ' o:=by
 obtain⟨dst,op,type,pos,after,guard⟩:=o;have yS:∀{xs:Array Operand},(∀x∈xs,ρ x=ρ' x)→xs.map ρ=xs.map ρ':=fun hx=>tN hx
 have Ax:∀{x:Option Operand},(∀y,x=some y→ρ y=ρ' y)→x.map ρ=x.map ρ':=fun {x} hx=>by
  cases x with
  |none=>rfl
  |some y=>simp[hx y rfl]
 cases op<;>simp only[ja,kB]at hq<;>simp only[Op.operands,List.mem_toArray,dN,List.not_mem_nil,or_false,forall_eq_or_imp,forall_eq,Array.mem_append,Option.mem_toArray]at h<;>simp only[execOp]
 case pick=>rw[h.1,h.2.1,h.2.2]
 case build t ps=>
  have:ps.map (fun p=>(p.1,ρ p.2))=ps.map (fun p=>(p.1,ρ' p.2)):=tN fun p hp=>by
   rw[h p.2 (cg.2 ⟨p,by simpa using hp,rfl⟩)]
  rw[this]
 case nilCheck=>rw[h]
 case binOp=>rw[h.1,h.2]
 case makeFunc f xs ys=>rw[yS (fun x hx=>h x (.inl hx)),yS (fun x hx=>h x (.inr hx))]
 case slice t x lo hi mx=>
  rw[h x (by simp),Ax (x:=lo) (fun y hy=>h y (by simp[hy])),Ax (x:=hi) (fun y hy=>h y (by simp[hy])),Ax (x:=mx) (fun y hy=>h y (by simp[hy]))]
 case indexAddr=>rw[h.1,h.2]
 case index=>rw[h.1,h.2]
 case lookup=>rw[h.1,h.2]
 case call c=>
  obtain⟨R4,args,Es⟩:=c
  cases R4 with
  |builtin b=>
   simp only[Call.operands,Array.empty_append]at h;simp only[resolve,yS h]
  |_=>cases hq
 all_goals rw[h]
theorem xR {s:Sem Value} {w w':World} {nx:Next} (h:(do pure (Next.value (←s)):Sem Next).run P w= .ok nx w'):∃v,nx= .value v:=by
 rw[bL]at h
 cases hs:s.run P w with
 |ok v w1=>rw[hs]at h;simp only[Result.andThen,dS,eP]at h;exact⟨v,h.1.symm⟩
 |halt x w1=>rw[hs]at h;simp[Result.andThen]at h
theorem Ay {ρ:Operand→Value} {o:Oper} (hq:ja o.op=true) {nx:Next} {w w':World} (h:(execOp ρ o).run P w= .ok nx w'):∃v,nx= .value v:=by
 obtain⟨dst,op,type,pos,after,guard⟩:=o
 cases op<;>simp only[ja,kB]at hq<;>simp only[execOp]at h
 case move=>simp only[dS,eP]at h;exact⟨_,h.1.symm⟩
 case assign=>simp only[dS,eP]at h;exact⟨_,h.1.symm⟩
 case pick c a b=>
  rw[bL]at h
  cases hs:(asBool (ρ c)).run P w with
  |ok v w1=>rw[hs]at h;simp only[Result.andThen]at h;exact⟨_,(Result.ok.inj h).1.symm⟩
  |halt x w1=>rw[hs]at h;simp[Result.andThen]at h
 case nilCheck x=>
  split at h
  ·simp[runtimePanic,Sem.run]at h
  ·simp[runtimePanic,Sem.run]at h
  ·simp[runtimePanic,Sem.run]at h
  ·split at h
   ·simp[runtimePanic,Sem.run]at h
   ·rename_i t w0 _ _
    simp only[bL]at h
    cases hp:(program).run P w with
    |halt x w1=>rw[hp]at h;simp[Result.andThen]at h
    |ok p w1=>
     rw[hp]at h;simp only[Result.andThen]at h;generalize (nilAhead _ _ _ _).run P _=res at h
     cases res with
     |halt x w2=>cases h
     |ok b w2=>
      simp only at h
      split at h
      ·simp[unsupported,Sem.run,bL,Result.andThen]at h
      ·simp only[dS,bL,Result.andThen,eP]at h;exact⟨_,h.1.symm⟩
   ·simp only[dS,eP]at h;exact⟨_,h.1.symm⟩
  ·simp only[dS,eP]at h;exact⟨_,h.1.symm⟩
 case call c=>
  obtain⟨R4,args,Es⟩:=c
  cases R4 with
  |builtin b=>
   cases b<;>first|cases hq|skip
   all_goals
    simp only[resolve]at h;exact xR h
  |_=>cases hq
 all_goals exact xR h
def One (P:Program) (r:Option Nat) (ops:Array Oper) (w:World) (o:Oper) (a:Act) (v:Value):Prop:=
 if Region.wanted o (yielded ops a.tmps)then(execOp a.eval o).run P w= .ok (.value v) w else v=undef
def R5 (P:Program) (r:Option Nat) (ops:Array Oper) (w:World):List Oper→Act→Act→List Value→Prop
 |[],a,a',vs=>a=a'∧vs=[]
 |o::os,a,a',vs=>∃v vt,vs=v::vt∧One P r ops w o a v∧R5 P r ops w os (a.put o.dst v) a' vt
def jg (P:Program) (r:Option Nat) (n:Nat) (ops:Array Oper):List Oper→Sl→List Deferred→World→(Sl→Prop)→Prop
 |[],L,ds,w,k=>k L
 |o::rest,L,ds,w,k=>Rg P r n ops [o] L ds w (fun e L' oC w'=>e= .normal∧oC=ds∧w'=w∧jg P r n ops rest L' ds w k)
theorem jg.nil {ops:Array Oper} {k:Sl→Prop} (h:k L):jg P r n ops [] L ds w k:=h
theorem ly {o:Oper} (hq:ja o.op=true):∀c,o.op≠ .defer c:=fun c h=>by rw[h]at hq;cases hq
theorem jg.trace {ops:Array Oper} {k:Sl→Prop}:∀{l:List Oper} {L:Sl} {a:Act},jg P r n ops l L ds w k→(∀o∈l,ja o.op=true)→gP n a L ds→∃a' L' vs,R5 P r ops w l a a' vs∧gP n a' L' ds∧k L'
 |[],L,a,h,_,ha=>⟨a,L,[],⟨rfl,rfl⟩,ha,h⟩
 |o::os,L,a,h,hq,ha=>by
  have hqo:=hq o (cx ..);have h1:=Rg.run h a ha;simp only[wpListIn]at h1;by_cases hw:Region.wanted o (yielded ops a.tmps)=true
  ·rw[if_pos hw]at h1;obtain⟨_,h1⟩:=h1;rw[Oper.semAt_eq _ _ _ (ly hqo)]at h1
   cases hr:(execOp a.eval o).run P w with
   |ok nx w'=>
    obtain⟨v,rfl⟩:=Ay hqo hr;rw[hr]at h1;obtain⟨L1,Wx,hA,_,Gz,QE,hk⟩:=h1;rw[Gz]at hA;rw[QE]at hr;obtain⟨a',L',vs,h2,h3,h4⟩:=jg.trace hk (fun o ho=>hq o (cL _ ho)) hA;exact⟨a',L',v::vs,⟨v,vs,rfl,by unfold One;rw[if_pos hw];exact hr,h2⟩,h3,h4⟩
   |halt x w'=>
    rw[hr]at h1
    cases x with
    |panic v=>obtain⟨L1,Wx,hA,hn,_⟩:=h1;cases hn
    |_=>exact h1.elim
  ·rw[if_neg hw]at h1;obtain⟨_,L1,Wx,hA,_,Gz,_,hk⟩:=h1;rw[Gz]at hA;obtain⟨a',L',vs,h2,h3,h4⟩:=jg.trace hk (fun o ho=>hq o (cL _ ho)) hA;exact⟨a',L',undef::vs,⟨undef,vs,rfl,by unfold One;rw[if_neg hw],h2⟩,h3,h4⟩
def asks (ops:List Oper) (o:Oper):List Nat:=(o.op.operands.toList.filterMap fun x=>match x with| .tmp t=>some t|_=>none)++(match o.guard with|some (j,_)=>((ops[j]?).bind (·.dst)).toList|none=>[])
def kg (l:List Oper) (m:Nat):Bool:=(List.range m).all fun j=>match l[j]? with
 |some o=>ja o.op&&(asks l o).all fun t=>(List.range m).all fun i=>match l[i]? with
  |some o'=> !(o'.dst==some t)||(cB o).contains i||Nat.beq i j||(cB o').contains j
  |none=>true
 |none=>false
theorem kr {l:List Oper} {m:Nat} (h:kg l m=true) {j:Nat} {o:Oper} (hj:j<m) (ho:l[j]? =some o):ja o.op=true∧∀t∈asks l o,∀i o',i<m→l[i]? =some o'→o'.dst=some t→i∈cB o∨i=j∨j∈cB o':=by
 have h1:=cK.1 h j (iS.2 hj);rw[ho]at h1;simp only[bT]at h1;refine⟨h1.1,fun t ht i o' hi gA hd=>?_⟩;have h2:=cK.1 (cK.1 h1.2 t ht) i (iS.2 hi);rw[gA]at h2;simp only[hd,beq_self_eq_true,kV,oc,jl,eu]at h2;rcases h2 with(h2|h2)|h2
 ·exact .inl h2
 ·exact .inr (.inl (Nat.eq_of_beq_eq_true h2))
 ·exact .inr (.inr h2)
theorem R5.yT {ops:Array Oper}:∀{l:List Oper} {a a':Act} {vs:List Value},R5 P r ops w l a a' vs→∃st:Nat→Act,st 0=a∧st l.length=a'∧∀j o,l[j]? =some o→∃v,vs[j]? =some v∧One P r ops w o (st j) v∧st (j+1)=(st j).put o.dst v
 |[],a,a',vs,h=>⟨fun _=>a,rfl,h.1,fun j o ho=>by simp at ho⟩
 |o::os,a,a',vs,⟨v,vt,hv,h1,h2⟩=>by
  obtain⟨st,g0,g1,g2⟩:=R5.yT h2;refine⟨fun j=>match j with|0=>a|j+1=>st j,rfl,g1,fun j o' gA=>?_⟩;subst hv
  cases j with
  |zero=>simp only[List.getElem?_cons_zero,Option.some.injEq]at gA;subst gA;exact⟨v,rfl,h1,g0⟩
  |succ j=>exact g2 j o' (by simpa using gA)
theorem gG (a:Act) (d:Option Nat) (v:Value) (t:Nat):(a.put d v).tmps[t]? =if d=some t then(a.tmps.setIfInBounds t v)[t]? else a.tmps[t]? :=by
 cases d with
 |none=>simp[Act.put]
 |some d=>
  simp only[Act.put,Option.some.injEq]
  split
  ·rename_i h;subst h;rfl
  ·rename_i h;rw[bV,if_neg h]
theorem mJ (a:Act) (d:Option Nat) (v:Value):(a.put d v).tmps.size=a.tmps.size:=by cases d<;>simp[Act.put]
theorem put_defers (a:Act) (d:Option Nat) (v:Value):(a.put d v).defers=a.defers:=by cases d<;>rfl
theorem qX {xs ys:Array Value} {t:Nat} {v:Value} (h:xs.size=ys.size):(xs.setIfInBounds t v)[t]? =(ys.setIfInBounds t v)[t]? :=by
 rw[bV,bV,if_pos rfl,if_pos rfl,h]
structure QJ (l:List Oper) (m:Nat) (a0:Act) (fV:List Value) (wd:World) (D:Nat→Prop) (a:Act) (w:World):Prop where
 world:w=wd
 defers:a.defers=a0.defers
 size:a.tmps.size=a0.tmps.size
 done:∀i o v t,i<m→l[i]? =some o→fV[i]? =some v→D i→o.dst=some t→a.tmps[t]? =(a0.tmps.setIfInBounds t v)[t]?
 base:∀t,(∀i o,i<m→l[i]? =some o→D i→o.dst≠some t)→a.tmps[t]? =a0.tmps[t]?
theorem fp {l:List Oper} (dp:eF l 0=true) {i j:Nat} {o o':Oper} {t:Nat} (hi:l[i]? =some o) (hj:l[j]? =some o') (h1:o.dst=some t) (h2:o'.dst=some t):i=j:=by
 by_cases e:i=j
 ·exact e
 ·exact absurd h2 (rX dp i j o o' t hi hj e h1)
theorem mK {l:List Oper} {m:Nat} {a0:Act} {fV:List Value} {ops:Array Oper} (dp:eF l 0=true) {st:Nat→Act} (h0:st 0=a0) (km:∀j o,j<m→l[j]? =some o→∃v,fV[j]? =some v∧One P r ops w o (st j) v∧st (j+1)=(st j).put o.dst v):
  ∀j,j≤m→j≤l.length→QJ l m a0 fV w (fun i=>i<j) (st j) w
 |0,_,_=>⟨rfl,by rw[h0],by rw[h0],fun i o v t _ _ _ h=>by omega,fun t _=>by rw[h0]⟩
 |j+1,hm,hl=>by
  have ih:=mK dp h0 km j (by omega) (by omega);obtain⟨o,ho⟩:∃o,l[j]? =some o:=⟨_,av (by omega)⟩;obtain⟨v,hv,_,h2⟩:=km j o (by omega) ho;rw[h2];refine⟨rfl,by rw[put_defers];exact ih.defers,by rw[mJ];exact ih.size,fun i o' v' t nU gA pR iy hd=>?_,fun t ht=>?_⟩
  ·rw[gG];by_cases e:i=j
   ·subst e;rw[ho]at gA;cases gA;rw[hv]at pR;cases pR;rw[if_pos hd];exact qX ih.size
   ·rw[if_neg (fun h=>e (fp dp gA ho hd h))];exact ih.done i o' v' t nU gA pR (by omega) hd
  ·rw[gG,if_neg (ht j o (by omega) ho (by omega))];exact ih.base t fun i o' h1 h2 h3=>ht i o' h1 h2 (by omega)
theorem QJ.agree {l:List Oper} {m:Nat} {a0:Act} {fV:List Value} {wd w':World} {D D':Nat→Prop} {a a':Act} (dp:eF l 0=true) (lz:∀i,i<m→∃v,fV[i]? =some v) (h:QJ l m a0 fV wd D a w) (h':QJ l m a0 fV wd D' a' w') {t:Nat}
  (hD:∀i o,i<m→l[i]? =some o→o.dst=some t→(D i↔D' i)):a.tmps[t]? =a'.tmps[t]? :=by
 by_cases hx:∃i o,i<m∧l[i]? =some o∧o.dst=some t
 ·obtain⟨i,o,nU,ho,hd⟩:=hx;by_cases zQ:D i
  ·obtain⟨v,hv⟩:=lz i nU;rw[h.done i o v t nU ho hv zQ hd,h'.done i o v t nU ho hv ((hD i o nU ho hd).1 zQ) hd]
  ·have key:∀{E:Nat→Prop},¬E i→∀k o',k<m→l[k]? =some o'→E k→o'.dst≠some t:=fun hE k o' _ gA hEk LL=>hE (by rw[fp dp ho gA hd LL];exact hEk)
   rw[h.base t (key zQ),h'.base t (key fun hh=>zQ ((hD i o nU ho hd).2 hh))]
 ·have key:∀{E:Nat→Prop},∀k o',k<m→l[k]? =some o'→E k→o'.dst≠some t:=fun k o' hk gA _ LL=>hx ⟨k,o',hk,gA,LL⟩
  rw[h.base t key,h'.base t key]
theorem mL {l:List Oper} {o:Oper} {a a':Act} (h:∀t∈asks l o,a.tmps[t]? =a'.tmps[t]?):(∀x∈o.op.operands,a.eval x=a'.eval x)∧Region.wanted o (yielded l.toArray a.tmps)=Region.wanted o (yielded l.toArray a'.tmps):=by
 refine⟨fun x hx=>?_,?_⟩
 ·cases x with
  |tmp t=>
   have:=h t (jA _ (List.mem_filterMap.2 ⟨.tmp t,by simpa using hx,rfl⟩));simp only[Act.eval,eh,this]
  |_=>rfl
 ·unfold Region.wanted
  cases hg:o.guard with
  |none=>rfl
  |some p=>
   obtain⟨j,b⟩:=p;simp only
   have:yielded l.toArray a.tmps j=yielded l.toArray a'.tmps j:=by
    unfold yielded
    cases hd:(l.toArray[j]?).bind (·.dst)with
    |none=>rfl
    |some t=>
     have h2:=h t (List.mem_append_right _ (by
      simp only[hg];have:(l[j]?).bind (·.dst)=some t:=by rw[←hd];simp
      rw[this];simp))
     simp only[Option.bind_some,h2]
   rw[this]
theorem One.run {ops:Array Oper} {Q:Exit→Act→World→Prop} {i:Nat} {rest:List Nat} {o:Oper} {a:Act} {v:Value} (ho:ops[i]? =some o) (hq:ja o.op=true) (h:One P r ops w o a v) (hk:wpOpsIn (FW r) 0 P ops Q rest (a.put o.dst v) w):wpOpsIn (FW r) 0 P ops Q (i::rest) a w:=by
 simp only[wpOpsIn,ho];unfold One at h
 split
 ·rename_i hw
  rw[if_pos hw]at h;refine⟨fun _ _=>trivial,?_⟩;rw[Oper.semAt_eq _ _ _ (ly hq),h];exact hk
 ·rename_i hw
  rw[if_neg hw]at h;subst h;exact⟨fun _ _=>trivial,hk⟩
theorem QJ.step {l:List Oper} {m:Nat} {a0:Act} {fV:List Value} {wd:World} (dp:eF l 0=true) (pF:kg l m=true) (lz:∀i,i<m→∃v,fV[i]? =some v) {st:Nat→Act} (rV:m≤l.length)
  (km:∀j o,j<m→l[j]? =some o→∃v,fV[j]? =some v∧One P r l.toArray wd o (st j) v) (EJ:∀j,j<m→QJ l m a0 fV wd (fun i=>i<j) (st j) wd)
  {Q:Exit→Act→World→Prop} {D:Nat→Prop} {a:Act} {w:World} {j:Nat} {o:Oper} {rest:List Nat} (hj:j<m) (ho:l[j]? =some o) (oy: ¬D j) (hp:∀k∈cB o,D k) (l2:∀i o,l[i]? =some o→D i→∀k∈cB o,D k) (hi:QJ l m a0 fV wd D a w)
  (hk:∀a' w',QJ l m a0 fV wd (fun i=>i=j∨D i) a' w'→wpOpsIn (FW r) 0 P l.toArray Q rest a' w'):wpOpsIn (FW r) 0 P l.toArray Q (j::rest) a w:=by
 obtain⟨v,hv,h1⟩:=km j o hj ho;obtain⟨hq,pF⟩:=kr pF hj ho
 have zO:∀t∈asks l o,a.tmps[t]? =(st j).tmps[t]? :=fun t ht=>hi.agree dp lz (EJ j hj) fun i o' nU gA hd=>by
  rcases pF t ht i o' nU gA hd with h|h|h
  ·have:=cQ dp j o ho i h;exact⟨fun _=>by omega,fun _=>hp i h⟩
  ·subst h;exact⟨fun h=>absurd h oy,fun h=>by omega⟩
  ·have:=cQ dp i o' gA j h;exact⟨fun h2=>absurd (l2 i o' gA h2 j h) oy,fun h=>by omega⟩
 obtain⟨FN,Ah⟩:=mL zO;obtain⟨QE⟩:Nonempty (w=wd):=⟨hi.world⟩
 have h2:One P r l.toArray w o a v:=by
  unfold One at h1 ⊢;rw[Ah,lx hq FN,QE];exact h1
 refine h2.run (by simpa using ho) hq (hk _ _ ⟨QE,by rw[put_defers];exact hi.defers,by rw[mJ];exact hi.size,fun i o' v' t nU gA pR hD hd=>?_,fun t ht=>?_⟩)
 ·rw[gG];by_cases e:i=j
  ·subst e;rw[ho]at gA;cases gA;rw[hv]at pR;cases pR;rw[if_pos hd];exact qX hi.size
  ·rw[if_neg (fun h=>e (fp dp gA ho hd h))];exact hi.done i o' v' t nU gA pR (hD.resolve_left e) hd
 ·rw[gG,if_neg (ht j o hj ho (.inl rfl))];exact hi.base t fun i o' h1 h2 h3=>ht i o' h1 h2 (.inr h3)
theorem jg.parts {l lq:List Oper} {m:Nat} {k:Sl→Prop} (Yw:lq=l.take m) (rV:m≤l.length) (dp:eF l 0=true) (pF:kg l m=true) {a0:Act} (ha:gP n a0 L ds) (h:jg P r n l.toArray lq L ds w k):
  ∃fV:List Value,(∀i,i<m→∃v,fV[i]? =some v)∧(∃st:Nat→Act,(∀j o,j<m→l[j]? =some o→∃v,fV[j]? =some v∧One P r l.toArray w o (st j) v)∧∀j,j<m→QJ l m a0 fV w (fun i=>i<j) (st j) w)∧
   ∀a w',QJ l m a0 fV w (fun i=>i<m) a w'→∃L',gP n a L' ds∧k L'∧w'=w:=by
 have gT:∀j,j<m→lq[j]? =l[j]? :=fun j hj=>by rw[Yw,de,if_pos hj]
 obtain⟨a',L',vs,xS,hA,hk⟩:=h.trace (fun o ho=>by
  obtain⟨j,hj⟩:=bN.1 ho
  have zR:j<m:=by
   have:=(aw.1 hj).1;rw[Yw,bG]at this;omega
  exact(kr pF zR (by rw[←gT j zR];exact hj)).1) ha
 obtain⟨st,h0,hl,km⟩:=xS.yT;have hlen:lq.length=m:=by rw[Yw,bG];omega
 rw[hlen]at hl;have tS:∀j o,j<m→l[j]? =some o→∃v,vs[j]? =some v∧One P r l.toArray w o (st j) v∧st (j+1)=(st j).put o.dst v:=fun j o hj ho=>km j o (by rw[gT j hj];exact ho)
 have lz:∀i,i<m→∃v,vs[i]? =some v:=fun i hi=>by
  obtain⟨v,hv,_⟩:=tS i l[i] hi (av (by omega));exact⟨v,hv⟩
 refine⟨vs,lz,⟨st,fun j o hj ho=>?_,fun j hj=>mK dp h0 tS j (by omega) (by omega)⟩,fun a w' hi=>⟨L',⟨?_,?_,fun t v ht=>?_⟩,hk,hi.world⟩⟩
 ·obtain⟨v,h1,h2,_⟩:=tS j o hj ho;exact⟨v,h1,h2⟩
 ·rw[hi.size];exact ha.size
 ·rw[hi.defers];exact ha.defers
 ·have:=mK dp h0 tS m (aT _) rV;rw[hl]at this;rw[hi.agree dp lz this (fun _ _ _ _ _=>Iff.rfl)];exact hA.at_ t v ht
theorem QJ.R6 {l:List Oper} {m:Nat} {a0 a:Act} {fV:List Value} {wd w:World} {D D':Nat→Prop} (rV:m≤l.length) (h:QJ l m a0 fV wd D a w) (hD:∀i,i<l.length→(D' i↔D i)):QJ l m a0 fV wd D' a w:=
 ⟨h.world,h.defers,h.size,fun i o v t h1 h2 h3 h4 h5=>h.done i o v t h1 h2 h3 ((hD i (by omega)).1 h4) h5,fun t ht=>h.base t fun i o h1 h2 h3=>ht i o h1 h2 ((hD i (by omega)).2 h3)⟩
theorem nt (w:World):∀M,Step M w M {w with drawn:=w.drawn+1} aE:=fun M=>mC M w
theorem T.jh {id:Nat} {l:List Oper} (hm:P.follows .mixedOrders=true) (dp:eF l 0=true) (pF:kg l l.length=true)
  (h:∀wD,(∀M,Step M w M wD aE)→jg P r n l.toArray l L ds wD (fun L'=>K .normal L' ds wD)):T P r n (.region id l.toArray true) L ds w K:=by
 refine⟨fun a ha=>wpIn_region_draw fun t=>?_⟩;simp only[Region.schedule,hm,Bool.true_or,if_true,Region.linearise];obtain⟨fV,lz,⟨st,h1,h2⟩,jI⟩:=jg.parts (m:=l.length) (by simp) (aT _) dp pF ha (h _ (nt w));refine nr (J:=QJ l l.length a fV _) dp (fun hi hD=>hi.R6 (aT _) hD) (fun hj ho oy hp l2 hi hk=>QJ.step dp pF lz (aT _) h1 h2 hj ho oy hp l2 hi hk) (fun a' w' hi=>?_) _ t _ a _ (by simp) (by simp[rG]) (fun i o h1 h2=>?_) ⟨rfl,rfl,rfl,fun i o v t h1 h2 h3 h4=>?_,fun t _=>rfl⟩
 ·obtain⟨L',hA,hk,hw⟩:=jI a' w' hi;rw[hw];exact⟨L',ds,hA,hk⟩
 ·simp[dB]at h2
 ·simp[dB]at h4
theorem T.DK {id:Nat} {l:List Oper} (m:Nat) (hm:P.follows .mixedOrders=true) (rV:Nat.blt m l.length=true) (dp:eF l 0=true) (jJ:ke l m ((l[m]?.map cB).getD [])=true) (uH:jK l (m+1)=true) (pF:kg l m=true)
  (h:∀wD,(∀M,Step M w M wD aE)→jg P r n l.toArray (l.take m) L ds wD (fun L'=>Rg P r n l.toArray (l.drop m) L' ds wD K)):T P r n (.region id l.toArray true) L ds w K:=by
 refine⟨fun a ha=>wpIn_region_draw fun t=>?_⟩;simp only[Region.schedule,hm,Bool.true_or,if_true,Region.linearise];have xJ:m<l.length:=by simpa[Nat.blt_eq]using rV
 obtain⟨fV,lz,⟨st,h1,h2⟩,jI⟩:=jg.parts (m:=m) rfl (by omega) dp pF ha (h _ (nt w))
 have hl:l=l.take m++l[m]::l.drop (m+1):=by
  rw[←eB xJ,rF]
 have tQ:(l.take m).length=m:=by simp;omega
 have hg:l[m]? =some l[m]:=av xJ
 have key:=Ck (P:=P) (r:=r) (l:=l.take m) (o₁:=l[m]) (tl:=l.drop (m+1)) (J:=QJ l m a fV {w with drawn:=w.drawn+1}) (Q:=up n K) (by rw[←hl];exact dp) (by rw[tQ,←hl];rw[hg]at jJ;exact jJ) (by rw[tQ,←hl];exact uH)
  (fun hi hD=>hi.R6 (by omega) (by rw[←hl]at hD;exact hD)) (fun {D a' w' j o rest} hj ho oy hp l2 hi hk=>by
   rw[←hl]at l2 hk ⊢;rw[tQ]at hj;rw[de,if_pos hj]at ho;exact QJ.step dp pF lz (by omega) h1 h2 hj ho oy hp l2 hi hk) (fun a' w' hi=>by
   rw[tQ]at hi;obtain⟨L',hA,hk,hw⟩:=jI a' w' hi;rw[←hl,←eB xJ,hw];exact hk.run a' hA) l.length t (Array.replicate l.length false) a {w with drawn:=w.drawn+1}
 rw[←hl]at key;have kd:l.toArray.size=l.length:=by simp
 rw[kd];refine key (by simp) (by simp[rG]) (fun i h3 h4=>?_) (fun i o h3 h4=>?_) ⟨rfl,rfl,rfl,fun i o v t h3 h4 h5 h6=>?_,fun t _=>rfl⟩
 ·simp[dB];exact h4
 ·simp[dB]at h4
 ·simp[dB]at h6
theorem gD.nil {M:aL} {k:Sl→Prop} {acc:Sl} (h:k acc):gD (M:=M) w k [] [] acc:=by unfold gD;exact h
theorem T.qY {x y:Code} (L1:Sl) (h:T P r n x L ds w (fun e L' oC w'=>e= .normal∧oC=ds∧w'=w∧Sub L1 L')) (k:T P r n y L1 ds w K):T P r n (.seq x y) L ds w K:=
 .seq (h.mono fun e L' oC w' ⟨he,hd,hw,hs⟩=>by subst he;rw[hd,hw];exact k.weaken L1 hs)
end
end Go.K
namespace Go.K
section
variable {P:Program} {r:Option Nat} {n:Nat} {L:Sl} {ds:List Deferred} {w:World} {K:Kt}
def qq:Op→Bool
 |.defer _| .go _| .select .. | .send .. | .recv .. =>false
 |_=>true
theorem J7 {ρ ρ':Operand→Value} {o:Oper} (hq:qq o.op=true) (h:∀x∈o.op.operands,ρ x=ρ' x):execOp ρ o=execOp ρ' o:=by
 obtain⟨dst,op,type,pos,after,guard⟩:=o;have yS:∀{xs:Array Operand},(∀x∈xs,ρ x=ρ' x)→xs.map ρ=xs.map ρ':=fun hx=>tN hx
 have Ax:∀{x:Option Operand},(∀y,x=some y→ρ y=ρ' y)→x.map ρ=x.map ρ':=fun {x} hx=>by
  cases x with
  |none=>rfl
  |some y=>simp[hx y rfl]
 cases op<;>simp only[qq,kB]at hq<;>simp only[Op.operands,List.mem_toArray,dN,List.not_mem_nil,or_false,forall_eq_or_imp,forall_eq,Array.mem_append,Option.mem_toArray]at h<;>simp only[execOp]
 case pick=>rw[h.1,h.2.1,h.2.2]
 case build t ps=>
  have:ps.map (fun p=>(p.1,ρ p.2))=ps.map (fun p=>(p.1,ρ' p.2)):=tN fun p hp=>by
   rw[h p.2 (cg.2 ⟨p,by simpa using hp,rfl⟩)]
  rw[this]
 case buildSlice t k ps=>
  have:ps.map (fun p=>(p.1,ρ p.2))=ps.map (fun p=>(p.1,ρ' p.2)):=tN fun p hp=>by
   rw[h p.2 (cg.2 ⟨p,by simpa using hp,rfl⟩)]
  rw[this]
 case nilCheck=>rw[h]
 case binOp=>rw[h.1,h.2]
 case makeFunc f xs ys=>rw[yS (fun x hx=>h x (.inl hx)),yS (fun x hx=>h x (.inr hx))]
 case makeMap t xs=>rw[Ax (fun y hy=>h y (by simp[hy]))]
 case slice t x lo hi mx=>
  rw[h x (by simp),Ax (x:=lo) (fun y hy=>h y (by simp[hy])),Ax (x:=hi) (fun y hy=>h y (by simp[hy])),Ax (x:=mx) (fun y hy=>h y (by simp[hy]))]
 case call c=>
  obtain⟨R4,args,Es⟩:=c
  cases R4 with
  |builtin b=>
   simp only[Call.operands,Array.empty_append]at h;simp only[resolve,yS h]
  |invoke x name=>
   simp only[Call.operands,Array.mem_append,List.mem_toArray,cI]at h;simp only[resolve,h x (.inl rfl),yS (fun y hy=>h y (.inr hy))]
  |value x=>
   simp only[Call.operands,Array.mem_append,List.mem_toArray,cI]at h;simp only[resolve,h x (.inl rfl),yS (fun y hy=>h y (.inr hy))]
 all_goals first
  |rw[h]
  |rw[h.1,h.2]
  |rw[h.1,h.2.1,h.2.2]
  |rfl
def dX (N:aL) (wd w:World):Prop:=wd.heap.size≤w.heap.size∧∀b,b<wd.heap.size→¬N b→w.heap[b]? =wd.heap[b]?
theorem dX.refl (N:aL) (w:World):dX N w w:=⟨aT _,fun _ _ _=>rfl⟩
theorem dX.go {M M' N N':aL} {wd w w':World} (h:dX N wd w) (s:Step M w M' w' N') (hN:∀b,b<wd.heap.size→N' b→N b):dX N wd w':=
 ⟨dT h.1 s.size,fun b hb hn=>(s.same b (Nat.lt_of_lt_of_le hb h.1) (fun Xg=>hn (hN b hb Xg))).trans (h.2 b hb hn)⟩
theorem dX.mZ {M M' N:aL} {wd w w':World} (h:dX N wd w) (s:Step M w M' w' aE):dX N wd w':=h.go s fun _ _ h=>h.elim
theorem dX.goN {M M' N:aL} {wd w w':World} (h:dX N wd w) (s:Step M w M' w' N):dX N wd w':=h.go s fun _ _ h=>h
def bF (P:Program) (N:aL) (wd:World) (L:Sl) (o:Oper):Prop:=∀ρ:Operand→Value,(∀x u,ev L x=some u→ρ x=u)→∀v w',dX N wd w'→(execOp ρ o).run P wd= .ok (.value v) wd→(execOp ρ o).run P w'= .ok (.value v) w'
def oz (P:Program) (r:Option Nat) (n:Nat) (ops:Array Oper) (N:aL) (wd:World) (K:Kt):Nat→List Oper→Sl→List Deferred→World→Prop
 |_,[],L,ds,w=>K .normal L ds w
 |c,o::rest,L,ds,w=>Rg P r n ops [o] L ds w (fun e L' oC w'=>e= .normal∧oC=ds∧(c≠0→dX N wd w')∧oz P r n ops N wd K (c-1) rest L' ds w')
theorem oz.nil {ops:Array Oper} {N:aL} {wd:World} {c:Nat} (h:K .normal L ds w):oz P r n ops N wd K c [] L ds w:=h
def l3 (l:List Oper) (fl:List Nat):Nat→List Nat→Bool
 |0,_=>true
 |j+1,acc=>if fl.contains j then l3 l fl j acc else acc.contains j&&l3 l fl j (acc++(l[j]?.map cB).getD [])
theorem l4 {l:List Oper} {fl:List Nat} {D:Nat→Prop} (l2:∀k o,l[k]? =some o→D k→∀i∈cB o,D i):∀(j:Nat) (acc:List Nat),l3 l fl j acc=true→(∀k∈acc,D k)→∀i,i<j→i∉fl→D i
 |0,_,_,_,i,hi,_=>by omega
 |j+1,acc,h,ha,i,hi,hf=>by
  simp only[l3]at h
  split at h
  ·rename_i hj
   rcases db i j with dW|iH
   ·exact l4 l2 j acc h ha i dW hf
   ·obtain rfl:i=j:=by omega
    exact absurd (by simpa using hj) hf
  ·simp only[bT,eu]at h;have hj:=ha j h.1;rcases db i j with dW|iH
   ·refine l4 l2 j _ h.2 (fun k hk=>?_) i dW hf;rcases dy.1 hk with hk|hk
    ·exact ha k hk
    ·cases ho:l[j]? with
     |none=>rw[ho]at hk;simp at hk
     |some o=>rw[ho]at hk;exact l2 j o ho hj k (by simpa using hk)
   ·rw[show i=j from by omega];exact hj
def sq (l:List Oper) (m e:Nat):List Nat:=(List.range' m (e+1)).flatMap fun j=>(l[j]?.map cB).getD []
def lA (l:List Oper) (m:Nat) (fl:List Nat) (e:Nat):Bool:=
 (Nat.ble (l.length-m) e||ke l m (sq l m e))&&
 jK l (m+1)&&l3 l fl m ((l[m]?.map cB).getD [])&&
 ((List.range' m (l.length-m)).all fun j=>match l[j]? with
  |some o=>qq o.op&&(asks l o).all fun t=>(List.range m).all fun i=>match l[i]? with
   |some o'=> !(o'.dst==some t)||(cB o).contains i
   |none=>true
  |none=>true)&&
 ((List.range m).all fun j=> !fl.contains j||match l[j]? with
  |some o=>(asks l o).all fun t=>(List.range l.length).all fun i=>match l[i]? with
   |some o'=> !(o'.dst==some t)||(cB o).contains i||(Nat.ble m i&&(cB o').contains j)
   |none=>true
  |none=>true)
theorem yU {l:List Oper} {m:Nat} {fl:List Nat} {e:Nat} (h:lA l m fl e=true):
  (l.length-m≤e∨ke l m (sq l m e)=true)∧
  jK l (m+1)=true∧l3 l fl m ((l[m]?.map cB).getD [])=true∧
  (∀j o,m≤j→l[j]? =some o→qq o.op=true∧∀t∈asks l o,∀i o',i<m→l[i]? =some o'→o'.dst=some t→i∈cB o)∧
  (∀j o,j<m→j∈fl→l[j]? =some o→∀t∈asks l o,∀i o',l[i]? =some o'→o'.dst=some t→i∈cB o∨m≤i∧j∈cB o'):=by
 simp only[lA,bT]at h;obtain⟨⟨⟨⟨h0,h1⟩,h2⟩,h3⟩,h4⟩:=h;rw[jl,Nat.ble_eq]at h0;refine⟨h0,h1,h2,fun j o hj ho=>?_,fun j o hj hf ho t ht i o' gA hd=>?_⟩
 ·have dW:=(aw.1 ho).1;have:=cK.1 h3 j (List.mem_range'_1.2 ⟨hj,by omega⟩);rw[ho]at this;simp only[bT]at this;refine⟨this.1,fun t ht i o' hi gA hd=>?_⟩;have h5:=cK.1 (cK.1 this.2 t ht) i (iS.2 hi);rw[gA]at h5;simpa[hd]using h5
 ·have dW:=(aw.1 gA).1;have:=cK.1 h4 j (iS.2 hj);rw[ho]at this;simp only[jl,gX,List.contains_eq_mem,decide_eq_false_iff_not]at this;have h5:=cK.1 (cK.1 (this.resolve_left (fun h=>h hf)) t ht) i (iS.2 dW);rw[gA]at h5;simp only[hd,beq_self_eq_true,kV,oc,jl,bT,Nat.ble_eq,decide_eq_true_eq,eu]at h5;rcases h5 with h|h
  ·exact .inl h
  ·exact .inr h
structure GJ (P:Program) (r:Option Nat) (n:Nat) (l:List Oper) (m:Nat) (fl:List Nat) (c:Nat) (N:aL) (K:Kt) (ds:List Deferred) (a0 am:Act) (wd:World) (D:Nat→Prop) (a:Act) (w:World) (p:Nat) (ac:Act) (Lp:Sl):Prop where
 p0:m≤p
 p1:p≤l.length
 dt:∀i,m≤i→i<l.length→(D i↔i<p)
 df:m<p→∀i,i<m→i∉fl→D i
 ag:gP n ac Lp ds
 tr:oz P r n l.toArray N wd K (c+m-p) (l.drop p) Lp ds w
 bS:p≤m+c→dX N wd w
 da:m+c<p→∀i,i<m→D i
 wm:p=m→w=wd
 defers:a.defers=ds
 size:a.tmps.size=a0.tmps.size
 sizec:ac.tmps.size=a0.tmps.size
 done:∀t,(∀i o,i<m→l[i]? =some o→o.dst=some t→D i)→a.tmps[t]? =ac.tmps[t]?
 pend:∀i o t,i<m→l[i]? =some o→o.dst=some t→¬D i→a.tmps[t]? =a0.tmps[t]?
 cm:∀t,(∀i o,m≤i→i<p→l[i]? =some o→o.dst≠some t)→ac.tmps[t]? =am.tmps[t]?
theorem Az {ops:Array Oper} {Qc Q:Exit→Act→World→Prop} {i:Nat} {rest:List Nat} {o:Oper} {a ac:Act} (ho:ops[i]? =some o) (hq:qq o.op=true) (FN:∀x∈o.op.operands,a.eval x=ac.eval x) (Ah:Region.wanted o (yielded ops a.tmps)=Region.wanted o (yielded ops ac.tmps)) (WA:a.defers=ac.defers)
  (h:wpListIn (FW r) 0 P ops Qc [o] ac w) (jQ:∀e a w,Qc e a w→e= .normal) (hk:∀v w',Qc .normal (ac.put o.dst v) w'→wpOpsIn (FW r) 0 P ops Q rest (a.put o.dst v) w') (Ru:∀d w',¬Qc .normal ({ac with defers:=d::ac.defers}.put o.dst undef) w'):wpOpsIn (FW r) 0 P ops Q (i::rest) a w:=by
 simp only[wpOpsIn,ho];simp only[wpListIn]at h;rw[Ah];have pE:∀c,o.op≠ .defer c:=fun c hc=>by rw[hc]at hq;cases hq
 split
 ·rename_i hw
  rw[if_pos hw]at h;obtain⟨_,h2⟩:=h;refine⟨fun _ _=>trivial,?_⟩;rw[Oper.semAt_eq _ _ _ pE]at h2 ⊢;rw[J7 hq FN];generalize (execOp ac.eval o).run P w=res at h2 ⊢
  cases res with
  |ok nx w'=>
   cases nx with
   |value v=>exact hk _ _ h2
   |skip=>exact hk _ _ h2
   |defer d=>exact absurd h2 (Ru d w')
   |enter f args=>exact⟨h2.1,h2.2.mono fun e uE he=>by
     cases e with
     |returned v=>exact hk _ _ he
     |panicked c=>exact absurd (jQ _ _ _ he) (by simp)
     |outgrown=>obtain⟨a,w,h⟩:=he;exact absurd (jQ _ _ _ h) (by simp)⟩
   |row row args=>exact⟨h2.1,h2.2.mono fun _ _ he=>hk _ _ he⟩
   |round l f tmps qj body=>exact⟨h2.1,h2.2.mono fun e uE he=>by
     cases e with
     |returned v=>exact hk _ _ he
     |panicked c=>exact absurd (jQ _ _ _ he) (by simp)
     |outgrown=>obtain⟨a,w,h⟩:=he;exact absurd (jQ _ _ _ h) (by simp)⟩
   |_=>exact h2.elim
  |halt x w'=>
   cases x with
   |panic v=>exact absurd (jQ _ _ _ h2) (by simp)
   |_=>exact h2.elim
 ·rename_i hw
  rw[if_neg hw]at h;exact⟨fun _ _=>trivial,hk _ _ h.2⟩
theorem GJ.next {l:List Oper} {m:Nat} {fl:List Nat} {c:Nat} {N:aL} {a0 am:Act} {fV:List Value} {wd:World} (dp:eF l 0=true) (pF:kg l m=true) (DH:lA l m fl c=true) (rV:m<l.length) (lz:∀i,i<m→∃v,fV[i]? =some v)
  {st:Nat→Act} (km:∀j o,j<m→l[j]? =some o→∃v,fV[j]? =some v∧One P r l.toArray wd o (st j) v) (EJ:∀j,j<m→QJ l m a0 fV wd (fun i=>i<j) (st j) wd) (DL:QJ l m a0 fV wd (fun i=>i<m) am wd)
  {Lm:Sl} (hLm:gP n am Lm ds) (hF:∀j o,j∈fl→l[j]? =some o→bF P N wd Lm o)
  {Q:Exit→Act→World→Prop} {D:Nat→Prop} {a:Act} {w:World} {j:Nat} {o:Oper} {rest:List Nat} (ho:l[j]? =some o) (oy: ¬D j) (hp:∀k∈cB o,D k) (l2:∀i o,l[i]? =some o→D i→∀k∈cB o,D k) (hi:∃p ac Lp,GJ P r n l m fl c N K ds a0 am wd D a w p ac Lp)
  (hk:∀a' w',(∃p ac Lp,GJ P r n l m fl c N K ds a0 am wd (fun i=>i=j∨D i) a' w' p ac Lp)→wpOpsIn (FW r) 0 P l.toArray Q rest a' w'):wpOpsIn (FW r) 0 P l.toArray Q (j::rest) a w:=by
 obtain⟨p,ac,Lp,hi⟩:=hi;obtain⟨R7,uH,GA,DM,R8⟩:=yU DH;have qG:=(aw.1 ho).1;rcases db j m with hj|hj
 ·obtain⟨v,hv,h1⟩:=km j o hj ho;obtain⟨hq,hso⟩:=kr pF hj ho;have hmf:m<p→j∈fl:=fun h=>Classical.byContradiction fun hf=>oy (hi.df h j hj hf)
  have zO:∀t∈asks l o,a.tmps[t]? =(st j).tmps[t]? :=fun t ht=>by
   by_cases hx:∃i o',i<m∧l[i]? =some o'∧o'.dst=some t
   ·obtain⟨i,o',nU,gA,hd⟩:=hx;obtain⟨v',pR⟩:=lz i nU;rcases hso t ht i o' nU gA hd with h|h|h
    ·have zQ:=hp i h;have iy:=cQ dp j o ho i h;rw[hi.done t (fun k ok JD hok EK=>by rw[fp dp hok gA EK hd];exact zQ),hi.cm t (fun k ok rJ Ez hok EK=>by have:=fp dp hok gA EK hd;omega),DL.done i o' v' t nU gA pR nU hd,(EJ j hj).done i o' v' t nU gA pR (by omega) hd]
    ·subst h;rw[hi.pend i o' t nU gA hd oy,(EJ i hj).base t (fun k ok JD hok EK J8=>by have:=fp dp hok gA J8 hd;omega)]
    ·have iy:=cQ dp i o' gA j h;rw[hi.pend i o' t nU gA hd (fun zQ=>oy (l2 i o' gA zQ j h)),(EJ j hj).base t (fun k ok JD hok EK J8=>by have:=fp dp hok gA J8 hd;omega)]
   ·have jQ:∀k ok,k<m→l[k]? =some ok→ok.dst≠some t:=fun k ok JD hok EK=>hx ⟨k,ok,JD,hok,EK⟩
    rw[hi.done t (fun k ok JD hok EK=>absurd EK (jQ k ok JD hok)),hi.cm t (fun k ok rJ Ez hok EK=>by
     rcases R8 j o hj (hmf (by omega)) ho t ht k ok hok EK with h|⟨_,h⟩
     ·have:=cQ dp j o ho k h;omega
     ·exact oy (l2 k ok hok ((hi.dt k rJ (aw.1 hok).1).2 Ez) j h)),DL.base t (fun k ok JD hok _=>jQ k ok JD hok),(EJ j hj).base t (fun k ok JD hok _=>jQ k ok JD hok)]
  obtain⟨FN,Ah⟩:=mL zO
  have h2:One P r l.toArray w o a v:=by
   rcases fy hi.p0 with R9|R9
   ·have QE:=hi.wm R9.symm;unfold One at h1 ⊢;rw[Ah,lx hq FN,QE];exact h1
   ·have hjf:=hmf R9
    have Yx:∀t∈asks l o,am.tmps[t]? =(st j).tmps[t]? :=fun t ht=>DL.agree dp lz (EJ j hj) fun i o' nU gA hd=>by
     rcases R8 j o hj hjf ho t ht i o' gA hd with h|⟨h,_⟩
     ·have:=cQ dp j o ho i h;exact⟨fun _=>by omega,fun _=>nU⟩
     ·omega
    obtain⟨Sa,_⟩:=mL Yx;unfold One at h1 ⊢;rw[Ah]
    split
    ·rename_i hw
     rw[if_pos hw]at h1;rw[←lx hq Sa]at h1;rw[lx hq FN,←lx hq Sa];exact hF j o hjf ho am.eval (fun x u hx=>hLm.eval hx) v w (hi.bS (Nat.le_of_not_lt fun dW=>oy (hi.da dW j hj))) h1
    ·rename_i hw
     rw[if_neg hw]at h1;exact h1
  refine h2.run (by simpa using ho) hq (hk _ _ ⟨p,ac,Lp,hi.p0,hi.p1,fun i h3 h4=>?_,fun h i h3 h4=> .inr (hi.df h i h3 h4),hi.ag,hi.tr,hi.bS,fun h i h3=> .inr (hi.da h i h3),hi.wm,by rw[put_defers];exact hi.defers,by rw[mJ];exact hi.size,hi.sizec,fun t ht=>?_,fun i o' t nU gA hd WB=>?_,hi.cm⟩)
  ·rw[←hi.dt i h3 h4];exact⟨fun h=>h.resolve_left (by omega),.inr⟩
  ·rw[gG];by_cases e:o.dst=some t
   ·rw[if_pos e,hi.cm t (fun k ok rJ Ez hok EK=>by have:=fp dp hok ho EK e;omega),DL.done j o v t hj ho hv hj e];exact qX hi.size
   ·rw[if_neg e];exact hi.done t fun i o' nU gA hd=>(ht i o' nU gA hd).resolve_left (fun h=>by subst h;rw[ho]at gA;cases gA;exact e hd)
  ·rw[gG,if_neg (fun e=>WB (.inl (fp dp gA ho hd e)))];exact hi.pend i o' t nU gA hd (fun h=>WB (.inr h))
 ·have Yy:j=p:=by
   have h1:p≤j:=by
    rcases db j p with h|h
    ·exact absurd ((hi.dt j hj qG).2 h) oy
    ·exact h
   rcases db m j with h|h
   ·have h2:=hp _ (jY uH (j:=j) (by omega) ho);have:=(hi.dt (j-1) (by omega) (by omega)).1 h2;omega
   ·have:=hi.p0;omega
  subst Yy;obtain⟨Sb,Cl⟩:=DM j o hj ho
  have kO:∀i,i<m→i∉fl→D i:=fun i nU WC=>by
   rcases fy hi.p0 with h|h
   ·rw[h,ho]at GA;exact l4 (D:=D) l2 j (cB o) GA hp i (by omega) WC
   ·exact hi.df h i nU WC
  have zO:∀t∈asks l o,a.tmps[t]? =ac.tmps[t]? :=fun t ht=>hi.done t fun i o' nU gA hd=>hp i (Cl t ht i o' nU gA hd)
  obtain⟨FN,Ah⟩:=mL zO
  have Sc:m+c<j+1→∀i,i<m→D i:=fun dW i nU=>by
   rcases db (m+c) j with h|h
   ·exact hi.da h i nU
   ·have tp:j=m+c:=by omega
    rcases R7 with h5|h5
    ·omega
    ·refine nh (D:=D) l2 m _ h5 (fun k hk=>?_) i nU;simp only[sq,rN,List.mem_range'_1]at hk;obtain⟨q,⟨NR,Yz⟩,LW⟩:=hk;rcases fy (show q≤j by omega)with e|e
     ·rw[e,ho]at LW;exact hp k LW
     ·have YA:=(hi.dt q NR (by omega)).2 e
      cases YB:l[q]? with
      |none=>rw[YB]at LW;cases LW
      |some oq=>rw[YB]at LW;exact l2 q oq YB YA k LW
  have xS:=hi.tr;rw[eB qG,(aw.1 ho).2]at xS;have h1:=Rg.run xS ac hi.ag;refine Az (by simpa using ho) Sb FN Ah (by rw[hi.defers,hi.ag.defers]) h1 (fun e a w ⟨_,_,_,he,_⟩=>he) (fun v w' ⟨L',oC,hA,_,Gz,Xv,NS⟩=>?_) (fun d w' ⟨L',oC,hA,_,Gz,_⟩=>?_)
  ·rw[Gz]at hA;refine hk _ _ ⟨j+1,ac.put o.dst v,L',by omega,by omega,fun i h3 h4=>?_,fun _ i h3 h4=> .inr (kO i h3 h4),hA,by rw[show c+m-(j+1)=c+m-j-1 from by omega];exact NS,fun h=>Xv (by omega),fun h i nU=> .inr (Sc h i nU),fun h=>by omega,by rw[put_defers];exact hi.defers,by rw[mJ];exact hi.size,by rw[mJ];exact hi.sizec,fun t ht=>?_,fun i o' t nU gA hd WB=>?_,fun t ht=>?_⟩
   ·constructor
    ·rintro(h|h)
     ·omega
     ·have:=(hi.dt i h3 h4).1 h;omega
    ·intro h;rcases fy (show i≤j by omega)with h5|h5
     ·exact .inl h5
     ·exact .inr ((hi.dt i h3 h4).2 h5)
   ·rw[gG,gG]
    split
    ·exact qX (hi.size.trans hi.sizec.symm)
    ·exact hi.done t fun i o' nU gA hd=>(ht i o' nU gA hd).resolve_left (by omega)
   ·rw[gG,if_neg (fun e=>by have:=fp dp gA ho hd e;omega)];exact hi.pend i o' t nU gA hd (fun h=>WB (.inr h))
   ·rw[gG,if_neg (ht j o hj (by omega) ho)];exact hi.cm t fun i o' h3 h4 h5=>ht i o' h3 (by omega) h5
  ·have h3:=hA.defers;rw[put_defers,Gz]at h3;have h4:=congrArg List.length h3;rw[hi.ag.defers]at h4;simp at h4
theorem T.kJ {id:Nat} {l:List Oper} (m:Nat) (fl:List Nat) (c:Nat) (N:aL) (hm:P.follows .mixedOrders=true) (rV:Nat.blt m l.length=true) (dp:eF l 0=true) (pF:kg l m=true) (DH:lA l m fl c=true)
  (h:∀wD,(∀M,Step M w M wD aE)→jg P r n l.toArray (l.take m) L ds wD (fun L'=>(∀j o,j∈fl→l[j]? =some o→bF P N wD L' o)∧oz P r n l.toArray N wD K c (l.drop m) L' ds wD)):T P r n (.region id l.toArray true) L ds w K:=by
 refine⟨fun a ha=>wpIn_region_draw fun t=>?_⟩;simp only[Region.schedule,hm,Bool.true_or,if_true,Region.linearise];have xJ:m<l.length:=by simpa[Nat.blt_eq]using rV
 have hQ:=h _ (nt w);have gT:∀j,j<m→(l.take m)[j]? =l[j]? :=fun j hj=>by rw[de,if_pos hj]
 obtain⟨am,Lm,vs,xS,hA,hF,hT⟩:=hQ.trace (fun o ho=>by
  obtain⟨j,hj⟩:=bN.1 ho
  have zR:j<m:=by
   have:=(aw.1 hj).1;rw[bG]at this;omega
  exact(kr pF zR (by rw[←gT j zR];exact hj)).1) ha
 obtain⟨st,h0,hl,km⟩:=xS.yT;have hlen:(l.take m).length=m:=by rw[bG];omega
 rw[hlen]at hl;have tS:∀j o,j<m→l[j]? =some o→∃v,vs[j]? =some v∧One P r l.toArray _ o (st j) v∧st (j+1)=(st j).put o.dst v:=fun j o hj ho=>km j o (by rw[gT j hj];exact ho)
 have lz:∀i,i<m→∃v,vs[i]? =some v:=fun i hi=>by
  obtain⟨v,hv,_⟩:=tS i l[i] hi (av (by omega));exact⟨v,hv⟩
 have EJ:=mK dp h0 tS;have DL:=EJ m (aT _) (by omega);rw[hl]at DL
 refine nr (J:=fun D a' w'=>∃p ac Lp,GJ P r n l m fl c N K ds a am {w with drawn:=w.drawn+1} D a' w' p ac Lp) dp (fun {D D' a' w'} ⟨p,ac,Lp,hi⟩ hD=>⟨p,ac,Lp,hi.p0,hi.p1,fun i h3 h4=>(hD i h4).trans (hi.dt i h3 h4),fun h i h3 h4=>(hD i (by omega)).2 (hi.df h i h3 h4),hi.ag,hi.tr,hi.bS,fun h i h3=>(hD i (by omega)).2 (hi.da h i h3),hi.wm,hi.defers,hi.size,hi.sizec,fun t ht=>hi.done t fun i o h3 h4 h5=>(hD i (by omega)).1 (ht i o h3 h4 h5),fun i o t h3 h4 h5 h6=>hi.pend i o t h3 h4 h5 (fun h=>h6 ((hD i (by omega)).2 h)),hi.cm⟩)
  (fun {D a' w' j o rest} hj ho oy hp l2 hi hk=>GJ.next dp pF DH xJ lz (fun j o hj ho=>by obtain⟨v,h1,h2,_⟩:=tS j o hj ho;exact⟨v,h1,h2⟩) (fun j hj=>EJ j (by omega) (by omega)) DL hA hF ho oy hp l2 hi hk) (fun a' w' hJ=>?_) _ t _ a _ (by simp) (by simp[rG]) (fun i o h1 h2=>?_) ⟨m,am,Lm,aT _,by omega,fun i h3 h4=>?_,fun h=>by omega,hA,by rw[Nat.add_sub_cancel];exact hT,fun _=>dX.refl _ _,fun h=>by omega,fun _=>rfl,ha.defers,rfl,DL.size,fun t ht=>?_,fun i o t _ _ _ _=>rfl,fun t _=>rfl⟩
 ·obtain⟨p,ac,Lp,hi⟩:=hJ
  have yM:p=l.length:=by
   rcases db p l.length with h3|h3
   ·have:=(hi.dt p hi.p0 h3).1 h3;omega
   ·have:=hi.p1;omega
  have xS:=hi.tr;rw[yM,ec (aT _)]at xS;refine⟨Lp,ds,⟨?_,hi.defers,fun t v ht=>?_⟩,xS⟩
  ·rw[hi.size];exact ha.size
  ·rw[hi.done t fun i o h3 h4 _=>by omega];exact hi.ag.at_ t v ht
 ·simp[dB]at h2
 ·simp[dB];omega
 ·rw[DL.base t fun i o h3 h4 _ h5=>?_];have:=ht i o h3 h4 h5;simp[dB]at this
def eV (P:Program) (N:aL) (wd:World) (L:Sl) (l:List Oper):List Nat→Prop
 |[]=>True
 |j::js=>(match l[j]? with|some o=>bF P N wd L o|none=>True)∧eV P N wd L l js
theorem eV.all {N:aL} {wd:World} {l:List Oper}:∀{fl:List Nat},eV P N wd L l fl→∀j o,j∈fl→l[j]? =some o→bF P N wd L o
 |[],_,j,o,hj,_=>absurd hj (List.not_mem_nil)
 |k::fl,h,j,o,hj,ho=>by
  rcases dN.1 hj with e|hj
  ·have h1:=h.1;rw[←e,ho]at h1;exact h1
  ·exact eV.all h.2 j o hj ho
variable {N:aL} {wd:World} {dst:Option Nat} {ty:TypeId} {pos:String} {af:Array Edge} {gd:Option (Nat×Bool)} {x y i:Operand}
theorem bF.move:bF P N wd L {dst,op:= .move x,type:=ty,pos,after:=af,guard:=gd}:=fun ρ _ v w' _ h=>by
 have h:Result.ok (Next.value (ρ x)) wd= .ok (.value v) wd:=h
 cases h;rfl
def Loc {α:Type} (s:Sem α):Prop:=∀(P:Program) (w1:World) (a:α) (w':World),s.run P w1= .ok a w'→w'=w1∧∀w2,s.run P w2= .ok a w2
theorem Loc.bind {α β:Type} {s:Sem α} {f:α→Sem β} (h:Loc s) (hf:∀a,Loc (f a)):Loc (s >>= f):=fun P w1 b w' hr=>by
 rw[bL]at hr
 cases hs:s.run P w1 with
 |ok a wa=>
  rw[hs]at hr;obtain⟨rfl,h2⟩:=h P w1 a wa hs;obtain⟨h3,h4⟩:=hf a P _ b w' hr;exact⟨h3,fun w2=>by rw[bL,h2 w2];exact h4 w2⟩
 |halt e wa=>rw[hs]at hr;simp[Result.andThen]at hr
theorem Loc.pure {α:Type} (a:α):Loc (Pure.pure a:Sem α):=fun P w1 b w' hr=>by
 simp only[dS,eP]at hr;exact⟨hr.2.symm,fun w2=>by rw[←hr.1];rfl⟩
theorem Loc.val {s:Sem Value} (h:Loc s):Loc (do Pure.pure (Next.value (←s)):Sem Next):=h.bind fun v=> .pure _
theorem Loc.halt {α:Type} {s:Sem α} (h:∀(P:Program) (w:World) a w',s.run P w≠ .ok a w'):Loc s:=fun P w1 a w' hr=>absurd hr (h P w1 a w')
theorem Loc.stuck {α:Type} (e:Halt):Loc (.halt e:Sem α):= .halt fun P w a w' h=>by simp[Sem.run]at h
theorem bF.free {o:Oper} (h:∀ρ:Operand→Value,(∀x u,ev L x=some u→ρ x=u)→Loc (execOp ρ o)):bF P N wd L o:=fun ρ hρ v w' _ hr=>(h ρ hρ P wd _ _ hr).2 w'
theorem xT (t:TypeId):Loc (underlying t):=fun P w1 a w' hr=>by
 simp only[underlying,bL,program,Sem.run,Result.andThen]at hr ⊢
 cases hu:P.underlying t with
 |none=>rw[hu]at hr;simp[stuck,Sem.run]at hr
 |some d=>rw[hu]at hr;simp only[dS,eP]at hr ⊢;exact⟨hr.2.symm,fun w2=>⟨hr.1,trivial⟩⟩
theorem GB (t:TypeId):Loc (typeInfo t):=fun P w1 a w' hr=>by
 simp only[typeInfo,bL,program,Sem.run,Result.andThen]at hr ⊢
 cases hu:P.info? t with
 |none=>rw[hu]at hr;simp[stuck,Sem.run]at hr
 |some d=>rw[hu]at hr;simp only[dS,eP]at hr ⊢;exact⟨hr.2.symm,fun w2=>⟨hr.1,trivial⟩⟩
theorem GC (t:TypeId):Loc (sizeOf t):=(GB t).bind fun _=> .pure _
theorem oK {α:Type} (e:RuntimeError) (w w':World) (a:α):(runtimePanic e:Sem α).run P w≠ .ok a w':=fun h=>by
 cases e<;>simp only[runtimePanic,program,goPanic,Sem.run,bL,Result.andThen]at h<;>repeat' (first|(cases h;done)|(simp at h;done)|split at h)
theorem EL {α:Type} (e:RuntimeError):Loc (runtimePanic e:Sem α):= .halt fun P w a w' h=>oK _ _ _ _ h
theorem uM {α:Type} (k:IntKind) (i:Int) (n:Int) (c:BoundsCode):Loc (boundsPanic k i n c:Sem α):= .halt fun P w a w' h=>by
 unfold boundsPanic at h;simp only at h
 split at h
 ·rw[bL]at h;generalize ((· ==1) <$> choose (.extern "runtime.boundsError.signed" 2):Sem Bool).run P w=res at h
  cases res with
  |ok b w1=>
   have h:(runtimePanic (.bounds (IntKind.i64.wrap i) n b c):Sem α).run P w1= .ok a w':=h;exact oK _ _ _ _ h
  |halt e w1=>simp[Result.andThen]at h
 ·have h:(runtimePanic (.bounds (IntKind.i64.wrap i) n (k != IntKind.u64) c):Sem α).run P w= .ok a w':=by rw[bL]at h;exact h
  exact oK _ _ _ _ h
theorem GD (v:Value):Loc (Instr.sureAddr v):=by
 unfold Instr.sureAddr
 split
 ·exact .pure _
 ·exact .stuck _
theorem EM (v:Value):Loc (asIntOf v):=by
 unfold asIntOf
 split
 ·exact .pure _
 ·exact .stuck _
 ·exact .stuck _
theorem bF.idx {t:TypeId}:bF P N wd L {dst,op:= .indexAddr t x i,type:=ty,pos,after:=af,guard:=gd}:= .free fun ρ _=>by
 simp only[execOp];refine Loc.val ?_;unfold Instr.indexAt
 have key:∀(base:Option Addr) (len:Nat) (elem:TypeId) (k:IntKind) (j:Int) (f:TypeDesc→Bool),Loc (underlying t >>= fun u=>match base with
   |some a=>if 0≤j∧j<len then(sizeOf elem >>= fun sz=>Pure.pure (Value.pointer (some (a.add (j.toNat*sz)))))else if(decide (len≤1)&&f u)=true then unsupported (.noEntry "op/indexAddr.an index out of range at an array of length 0 or 1 (ledger 616)")else boundsPanic k j len .index
   |none=>boundsPanic k j 0 .index:Sem Value):=fun base len elem k j f=>(xT t).bind fun d2=>by
  split
  ·split
   ·exact(GC _).bind fun _=> .pure _
   ·split
    ·exact .stuck _
    ·exact uM _ _ _ _
  ·exact uM _ _ _ _
 refine (EM _).bind fun ki=>(xT t).bind fun d=> ?_
 simp only
 split
 ·exact(GD _).bind fun a=>(Loc.pure _).bind fun bl=>by obtain⟨base,len,elem⟩:=bl;exact key base len elem _ _ (fun d=>match d with| .array .. =>true|_=>false)
 ·exact(Loc.pure _).bind fun bl=>by obtain⟨base,len,elem⟩:=bl;exact key base len elem _ _ (fun d=>match d with| .array .. =>true|_=>false)
 ·exact(Loc.stuck _).bind fun bl=>by obtain⟨base,len,elem⟩:=bl;exact key base len elem _ _ (fun d=>match d with| .array .. =>true|_=>false)
theorem bF.nilCheck {a:Addr} (hx:ev L x=some (.pointer (some a))):bF P N wd L {dst,op:= .nilCheck x,type:=ty,pos,after:=af,guard:=gd}:= .free fun ρ hρ=>by
 simp only[execOp,hρ x _ hx];exact .pure _
theorem J9 {op:BinOp} {t:TypeId} {κ κ':IntKind} {p q:Int}:Loc (binOp op t (.int κ p) (.int κ' q)):=by
 cases op<;>simp only[binOp]<;>repeat (first
  |exact .pure _
  |exact .stuck _
  |exact EL _
  |(simp only[Op.intArith,Op.intBits,Op.intCmp,Op.intDiv,Op.shift];done)
  |split
  |simp only[Op.intArith,Op.intBits,Op.intCmp,Op.intDiv,Op.shift])
theorem bF.bin {op:BinOp} {t t':TypeId} {κ κ':IntKind} {p q:Int} (hx:ev L x=some (.int κ p)) (hy:ev L y=some (.int κ' q)):bF P N wd L {dst,op:= .binOp op t x y t',type:=ty,pos,after:=af,guard:=gd}:= .free fun ρ hρ=>by
 simp only[execOp,hρ x _ hx,hρ y _ hy];refine Loc.val (Loc.bind ?_ fun _=>J9);unfold eqGuard
 cases op<;>exact .pure _
theorem lB {w w':World} {b:Nat} (hb:∃cs e fr,w.heap[b]? =some (.cells cs e fr)) (hs:w'.heap[b]? =w.heap[b]?):∀(n o i:Nat) (acc a:Array Value) (w1:World),(loadCellsFrom ⟨b,o,none⟩ i n acc).run P w= .ok a w1→w1=w∧(loadCellsFrom ⟨b,o,none⟩ i n acc).run P w'= .ok a w'
 |0,o,i,acc,a,w1,h=>by
  simp only[loadCellsFrom,dS,eP]at h ⊢;exact⟨h.2.symm,h.1,trivial⟩
 |n+1,o,i,acc,a,w1,h=>by
  obtain⟨cs,e,fr,hc⟩:=hb;simp only[loadCellsFrom,bL]at h ⊢;have ku:∀k,w'.cell? ⟨b,k,none⟩=w.cell? ⟨b,k,none⟩:=fun k=>by simp only[World.cell?,hs]
  have NT:(⟨b,o,none⟩:Addr).add i=⟨b,o+i,none⟩:=by simp[Addr.add]
  rw[NT]at h ⊢;simp only[load,Sem.run]at h ⊢;rw[ku]
  cases hv:w.cell? ⟨b,o+i,none⟩with
  |some v=>
   rw[hv]at h;simp only[Result.andThen]at h ⊢;exact lB ⟨cs,e,fr,hc⟩ hs n o (i+1) (acc.push v) a w1 h
  |none=>
   rw[hv]at h;simp[World.farLoad,hc,Result.andThen]at h
theorem bF.load {t:TypeId} {b o:Nat} {cs:Array Value} {e:TypeId} {fr:Nat×Nat} (hx:ev L x=some (.pointer (some ⟨b,o,none⟩))) (hb:wd.heap[b]? =some (.cells cs e fr)) (hn: ¬N b):bF P N wd L {dst,op:= .load t x,type:=ty,pos,after:=af,guard:=gd}:=fun ρ hρ v w' hk hr=>by
 have hs:=hk.2 b (an hb) hn;simp only[execOp,hρ x _ hx]at hr ⊢;rw[bL]at hr ⊢
 have key:∀v w1,(Instr.loadAt t (.pointer (some ⟨b,o,none⟩))).run P wd= .ok v w1→(Instr.loadAt t (.pointer (some ⟨b,o,none⟩))).run P w'= .ok v w':=fun v w1 h=>by
  simp only[Instr.loadAt,Instr.sureAddr,bL,dS,cA,loadVar]at h ⊢
  have zO:∀w:World,(isAgg t).run P w=match P.underlying t with|some (.struct _)|some (.array _ _)=>Result.ok true w|some _=>Result.ok false w|none=>Result.halt (.stuck "no such type") w:=fun w=>by
   simp only[isAgg,underlying,bL,program,Sem.run,Result.andThen]
   cases P.underlying t with
   |none=>simp[stuck,Sem.run]
   |some d=>cases d<;>simp
  rw[zO]at h ⊢
  cases hu:P.underlying t with
  |none=>rw[hu]at h;simp[Result.andThen]at h
  |some d=>
   have kd:∀w:World,(sizeOf t).run P w=match P.info? t with|some i=>Result.ok i.size w|none=>Result.halt (.stuck "no such type") w:=fun w=>by
    simp only[sizeOf,typeInfo,bL,program,Sem.run,Result.andThen]
    cases P.info? t<;>simp[stuck,Sem.run]
   have rW:∀v w1,(Go.load ⟨b,o,none⟩).run P wd= .ok v w1→(Go.load ⟨b,o,none⟩).run P w'= .ok v w':=fun v w1 h=>by
    have ku:w'.cell? ⟨b,o,none⟩=wd.cell? ⟨b,o,none⟩:=by simp only[World.cell?,hs]
    simp only[Go.load,Sem.run]at h ⊢;rw[ku]
    cases hv:wd.cell? ⟨b,o,none⟩with
    |some u=>rw[hv]at h;simp only[eP]at h ⊢;exact⟨h.1,trivial⟩
    |none=>rw[hv]at h;simp[World.farLoad,hb]at h
   have F2:∀v w1,(do Pure.pure (Value.agg (←loadCells ⟨b,o,none⟩ (←sizeOf t))):Sem Value).run P wd= .ok v w1→(do Pure.pure (Value.agg (←loadCells ⟨b,o,none⟩ (←sizeOf t))):Sem Value).run P w'= .ok v w':=fun v w1 h=>by
    simp only[bL,kd]at h ⊢
    cases hi:P.info? t with
    |none=>rw[hi]at h;simp[Result.andThen]at h
    |some inf=>
     rw[hi]at h;simp only[Result.andThen]at h ⊢
     cases hl:(loadCells ⟨b,o,none⟩ inf.size).run P wd with
     |ok a w2=>
      rw[hl]at h;obtain⟨_,h2⟩:=lB ⟨cs,e,fr,hb⟩ hs _ _ _ _ _ _ hl;have h2:(loadCells ⟨b,o,none⟩ inf.size).run P w'= .ok a w':=h2;rw[h2];simp only[dS,eP]at h ⊢;exact⟨h.1,trivial⟩
     |halt x w2=>rw[hl]at h;simp at h
   rw[hu]at h
   cases d<;>simp only[cA,if_true,kB,if_false]at h ⊢ <;>first|exact rW v w1 h|exact F2 v w1 h
 cases hl:(Instr.loadAt t (.pointer (some ⟨b,o,none⟩))).run P wd with
 |ok u w1=>
  rw[hl]at hr;rw[key u w1 hl];simp only[cA,dS,eP]at hr ⊢;exact⟨hr.1,trivial⟩
 |halt x w1=>rw[hl]at hr;simp[Result.andThen]at hr
theorem cc.float {α:Type} {A:RT α} {M:aL} {w:World} {v:Value} {x:α} (h:cc A M w v x) (hn:0<A.n:=by decide):∃b o cs e fr,v= .pointer (some ⟨b,o,none⟩)∧w.heap[b]? =some (.cells cs e fr)∧¬M b:=by
 obtain⟨b,o,vs,h1,h2,h3,h4⟩:=h;have hp:0<vs.length:=by rw[A.len h3];exact hn
 have hc:=h4 0 vs[0] (av hp);simp only[World.cell?]at hc
 cases hb:w.heap[b]? with
 |none=>rw[hb]at hc;cases hc
 |some ob=>
  rw[hb]at hc
  cases ob with
  |cells cs e fr=>exact⟨b,o,cs,e,fr,h1,hb,h2⟩
  |_=>cases hc
theorem bF.field {s:TypeId} {fs:Array Field} {fd:Field} {j:Nat} {zv:Value} {size bytes:Nat} (hs:P.underlying s=some (.struct fs)) (hj:fs[j]? =some fd) (hi:TI P fd.type zv size bytes) (h0:size≠0):bF P N wd L {dst,op:= .fieldAddr s x j,type:=ty,pos,after:=af,guard:=gd}:=fun ρ hρ v w' hk hr=>by
 simp only[execOp,bL]at hr ⊢
 have key:∀w,(Instr.fieldAt s (ρ x) j).run P w=match ρ x with| .pointer (some a)=>Result.ok (.pointer (some (a.add fd.offset))) w|_=>Result.halt (.stuck "an address expected (no nilCheck in front?)") w:=fun w=>by
  generalize ρ x=u;unfold Instr.fieldAt;simp only[bL,run_underlying hs,cA,hj];unfold Instr.sureAddr
  split
  ·simp only[dS,cA,bL,fieldPlace,hi.sizeOf,h0,if_false]
  ·simp[stuck,Sem.run,Result.andThen]
 rw[key]at hr ⊢
 split at hr
 ·simp only[cA,dS,eP]at hr ⊢;exact⟨hr.1,trivial⟩
 ·simp[Result.andThen]at hr
end
end Go.K
namespace Go.K
section
variable {P:Program} {r:Option Nat} {n:Nat} {L:Sl} {ds:List Deferred} {w:World} {K:Kt}
def iL (P:Program) (r:Option Nat) (n:Nat) (l:List Oper) (L:Sl) (ds:List Deferred) (wD:World) (K:Kt):Prop:=
 ∀a,gP n a L ds→∃J:(Nat→Prop)→Act→World→Prop,
  (∀(D D':Nat→Prop) a w,J D a w→(∀i,i<l.length→(D' i↔D i))→J D' a w)∧
  (∀(Q:Exit→Act→World→Prop) (D:Nat→Prop) a w j o rest,j<l.length→l[j]? =some o→¬D j→(∀k∈cB o,D k)→(∀i o,l[i]? =some o→D i→∀k∈cB o,D k)→J D a w→(∀a' w',J (fun i=>i=j∨D i) a' w'→wpOpsIn (FW r) 0 P l.toArray Q rest a' w')→wpOpsIn (FW r) 0 P l.toArray Q (j::rest) a w)∧
  (∀a w,J (fun i=>i<l.length) a w→up n K .normal a w)∧J (fun _=>False) a wD
theorem iL.t {id:Nat} {l:List Oper} (hm:P.follows .mixedOrders=true) (dp:eF l 0=true) (h:∀wD,(∀M,Step M w M wD aE)→iL P r n l L ds wD K):T P r n (.region id l.toArray true) L ds w K:=by
 refine⟨fun a ha=>wpIn_region_draw fun t=>?_⟩;simp only[Region.schedule,hm,Bool.true_or,if_true,Region.linearise];obtain⟨J,h1,h2,h3,h4⟩:=h _ (nt w) a ha;refine nr (J:=J) dp (fun {D D' a w} hi hD=>h1 D D' a w hi hD) (fun {D a' w' j o rest} hj ho oy hp l2 hi hk=>h2 _ _ _ _ _ _ _ hj ho oy hp l2 hi hk) h3 _ t _ a _ (by simp) (by simp[rG]) (fun i o h1 h2=>?_) (h1 _ _ _ _ h4 fun i _=>?_)
 ·simp[dB]at h2
 ·simp[dB]
theorem AA {l:List Oper} {wd:World} (m:Nat) (fl:List Nat) (c:Nat) (N:aL) (rV:Nat.blt m l.length=true) (dp:eF l 0=true) (pF:kg l m=true) (DH:lA l m fl c=true)
  (h:jg P r n l.toArray (l.take m) L ds wd (fun L'=>(∀j o,j∈fl→l[j]? =some o→bF P N wd L' o)∧oz P r n l.toArray N wd K c (l.drop m) L' ds wd)):iL P r n l L ds wd K:=by
 intro a ha;have xJ:m<l.length:=by simpa[Nat.blt_eq]using rV
 have gT:∀j,j<m→(l.take m)[j]? =l[j]? :=fun j hj=>by rw[de,if_pos hj]
 obtain⟨am,Lm,vs,xS,hA,hF,hT⟩:=h.trace (fun o ho=>by
  obtain⟨j,hj⟩:=bN.1 ho
  have zR:j<m:=by
   have:=(aw.1 hj).1;rw[bG]at this;omega
  exact(kr pF zR (by rw[←gT j zR];exact hj)).1) ha
 obtain⟨st,h0,hl,km⟩:=xS.yT;have hlen:(l.take m).length=m:=by rw[bG];omega
 rw[hlen]at hl;have tS:∀j o,j<m→l[j]? =some o→∃v,vs[j]? =some v∧One P r l.toArray wd o (st j) v∧st (j+1)=(st j).put o.dst v:=fun j o hj ho=>km j o (by rw[gT j hj];exact ho)
 have lz:∀i,i<m→∃v,vs[i]? =some v:=fun i hi=>by
  obtain⟨v,hv,_⟩:=tS i l[i] hi (av (by omega));exact⟨v,hv⟩
 have EJ:=mK dp h0 tS;have DL:=EJ m (aT _) (by omega);rw[hl]at DL
 refine⟨fun D a' w'=>∃p ac Lp,GJ P r n l m fl c N K ds a am wd D a' w' p ac Lp,fun D D' a' w' ⟨p,ac,Lp,hi⟩ hD=>⟨p,ac,Lp,hi.p0,hi.p1,fun i h3 h4=>(hD i h4).trans (hi.dt i h3 h4),fun h i h3 h4=>(hD i (by omega)).2 (hi.df h i h3 h4),hi.ag,hi.tr,hi.bS,fun h i h3=>(hD i (by omega)).2 (hi.da h i h3),hi.wm,hi.defers,hi.size,hi.sizec,fun t ht=>hi.done t fun i o h3 h4 h5=>(hD i (by omega)).1 (ht i o h3 h4 h5),fun i o t h3 h4 h5 h6=>hi.pend i o t h3 h4 h5 (fun h=>h6 ((hD i (by omega)).2 h)),hi.cm⟩,
  fun Q D a' w' j o rest hj ho oy hp l2 hi hk=>GJ.next dp pF DH xJ lz (fun j o hj ho=>by obtain⟨v,h1,h2,_⟩:=tS j o hj ho;exact⟨v,h1,h2⟩) (fun j hj=>EJ j (by omega) (by omega)) DL hA hF ho oy hp l2 hi hk,fun a' w' hJ=>?_,⟨m,am,Lm,aT _,by omega,fun i h3 h4=>?_,fun h=>by omega,hA,by rw[Nat.add_sub_cancel];exact hT,fun _=>dX.refl _ _,fun h=>by omega,fun _=>rfl,ha.defers,rfl,DL.size,fun t ht=>?_,fun i o t _ _ _ _=>rfl,fun t _=>rfl⟩⟩
 ·obtain⟨p,ac,Lp,hi⟩:=hJ
  have yM:p=l.length:=by
   rcases db p l.length with h3|h3
   ·have:=(hi.dt p hi.p0 h3).1 h3;omega
   ·have:=hi.p1;omega
  have xS:=hi.tr;rw[yM,ec (aT _)]at xS;refine⟨Lp,ds,⟨?_,hi.defers,fun t v ht=>?_⟩,xS⟩
  ·rw[hi.size];exact ha.size
  ·rw[hi.done t fun i o h3 h4 _=>by omega];exact hi.ag.at_ t v ht
 ·exact⟨False.elim,fun h=>by omega⟩
 ·rw[DL.base t fun i o h3 h4 _ h5=>(ht i o h3 h4 h5)]
def pI (π:List Nat) (o:Oper):Oper:=⟨o.dst,o.op,o.type,o.pos,o.after.map fun e=>{e with on:=π.idxOf e.on},o.guard.map fun g=>(π.idxOf g.1,g.2)⟩
def uN (π:List Nat) (l:List Oper):List Oper:=π.map fun i=>pI π (l.getD i default)
def lC (π:List Nat) (k:Nat):Bool:=π.length==k&&π.all (Nat.blt · k)&&(List.range k).all (π.contains ·)&&(List.range k).all fun i=>π.idxOf (π.getD i 0)==i
theorem nu {π:List Nat} {k:Nat} (h:lC π k=true):π.length=k∧(∀(i j:Nat),π[i]? =some j→j<k)∧(∀j,j<k→π[π.idxOf j]? =some j)∧(∀(i j:Nat),π[i]? =some j→π.idxOf j=i)∧(∀j,k≤j→π.idxOf j=k):=by
 simp only[lC,bT,beq_iff_eq,cK,Nat.blt_eq,iS,eu]at h;obtain⟨⟨⟨h1,h2⟩,h3⟩,h4⟩:=h;refine⟨h1,fun i j iy=>h2 j (aG iy),fun j hj=>?_,fun i j iy=>?_,fun j hj=>?_⟩
 ·have dW:=List.idxOf_lt_length_of_mem (h3 j hj);rw[av dW,List.getElem_idxOf dW]
 ·have hi:i<k:=by have:=(aw.1 iy).1;omega
  have:=h4 i hi
  rwa [cZ,iy,fF]at this
 ·rw[List.idxOf_eq_length (fun hm=>by have:=h2 j hm;omega),h1]
theorem yV {π:List Nat} {l:List Oper} (hπ:lC π l.length=true) {j:Nat} {o:Oper} (ho:l[j]? =some o):(uN π l)[π.idxOf j]? =some (pI π o):=by
 obtain⟨_,_,h3,_⟩:=nu hπ;have hj:=(aw.1 ho).1;simp only[uN,ff,h3 j hj,dx,cZ,ho,fF]
theorem Ka {π:List Nat} {l:List Oper} (hπ:lC π l.length=true) {i:Nat} {o':Oper} (ho:(uN π l)[i]? =some o'):∃j o,π[i]? =some j∧l[j]? =some o∧o'=pI π o:=by
 obtain⟨_,h2,_⟩:=nu hπ;simp only[uN,ff,iv]at ho;obtain⟨j,hj,rfl⟩:=ho;refine⟨j,_,hj,av (h2 i j hj),?_⟩;rw[cZ,av (h2 i j hj),fF]
theorem uO (π:List Nat) (o:Oper):cB (pI π o)=(cB o).map π.idxOf:=by
 simp only[cB,pI,Array.toList_map,List.filter_map,qa];rfl
theorem AB {π:List Nat} {l:List Oper} (hπ:lC π l.length=true) (tmps:Array Value) (j:Nat):yielded (uN π l).toArray tmps (π.idxOf j)=yielded l.toArray tmps j:=by
 unfold yielded
 have:((uN π l).toArray[π.idxOf j]?).bind (·.dst)=(l.toArray[j]?).bind (·.dst):=by
  simp only[eL]
  cases ho:l[j]? with
  |some o=>rw[yV hπ ho];rfl
  |none=>
   have hj:l.length≤j:=List.getElem?_eq_none_iff.1 ho;obtain⟨h1,_,_,_,h5⟩:=nu hπ;rw[h5 j hj,eM (by simp[uN,h1])]
 rw[this]
theorem Cm {π:List Nat} {l:List Oper} (hπ:lC π l.length=true) (tmps:Array Value) (o:Oper):Region.wanted (pI π o) (yielded (uN π l).toArray tmps)=Region.wanted o (yielded l.toArray tmps):=by
 unfold Region.wanted pI
 cases o.guard with
 |none=>rfl
 |some g=>simp only[dx,AB hπ]
theorem Kb {π:List Nat} {l:List Oper} (hπ:lC π l.length=true) {Q:Exit→Act→World→Prop} {j:Nat} {o:Oper} {rest:List Nat} {a:Act} (ho:l[j]? =some o)
  (h:wpOpsIn (FW r) 0 P (uN π l).toArray (fun e a w=>match e with| .normal=>wpOpsIn (FW r) 0 P l.toArray Q rest a w|e=>Q e a w) [π.idxOf j] a w):wpOpsIn (FW r) 0 P l.toArray Q (j::rest) a w:=by
 simp only[wpOpsIn,eL,ho,yV hπ ho,Cm hπ]at h ⊢
 split at h
 ·rename_i hw
  rw[if_pos hw];refine⟨h.1,?_⟩;have h2:=h.2;rw[show Oper.semAt (FW r).round a.eval (pI π o)=Oper.semAt (FW r).round a.eval o from rfl]at h2;generalize (Oper.semAt (FW r).round a.eval o).run P w=res at h2 ⊢
  cases res with
  |ok nx w'=>
   cases nx with
   |enter f args=>exact⟨h2.1,h2.2.mono fun e uE he=>by cases e<;>exact he⟩
   |round l f tmps qj body=>exact⟨h2.1,h2.2.mono fun e uE he=>by cases e<;>exact he⟩
   |_=>exact h2
  |halt x w'=>cases x<;>exact h2
 ·rename_i hw
  rw[if_neg hw];exact⟨h.1,h.2⟩
theorem iL.perm {l:List Oper} {wd:World} (π:List Nat) (hπ:lC π l.length=true) (dp:eF l 0=true) (h:iL P r n (uN π l) L ds wd K):iL P r n l L ds wd K:=by
 intro a ha;obtain⟨J,h1,h2,h3,h4⟩:=h a ha;obtain⟨p1,p2,p3,p4,_⟩:=nu hπ;have hlen:(uN π l).length=l.length:=by simp[uN,p1]
 refine⟨fun D a w=>J (fun i=>∃j,π[i]? =some j∧D j) a w,fun D D' a w hJ hD=>h1 _ _ _ _ hJ fun i _=>⟨fun⟨j,hj,h⟩=>⟨j,hj,(hD j (p2 i j hj)).1 h⟩,fun⟨j,hj,h⟩=>⟨j,hj,(hD j (p2 i j hj)).2 h⟩⟩,fun Q D a w j o rest hj ho oy hp l2 hJ hk=>?_,fun a w hJ=>h3 _ _ (h1 _ _ _ _ hJ fun i hi=>?_),h1 _ _ _ _ h4 fun i _=>⟨fun⟨j,_,h⟩=>h,False.elim⟩⟩
 ·refine Kb hπ ho (h2 _ _ _ _ _ _ _ (by rw[hlen,←p1];exact(aw.1 (p3 j hj)).1) (yV hπ ho) ?_ ?_ ?_ hJ fun a' w' Ra=>hk _ _ (h1 _ _ _ _ Ra fun i hi=>?_))
  ·rintro⟨k,rJ,Ez⟩;rw[p3 j hj]at rJ
   cases rJ;exact oy Ez
  ·intro k' rZ;rw[uO,cg]at rZ;obtain⟨k,rJ,rfl⟩:=rZ;have:=cQ dp j o ho k rJ;exact⟨k,p3 k (by omega),hp k rJ⟩
  ·rintro i o' gA ⟨k,rJ,Ez⟩ k' rZ;obtain⟨k2,ok,h5,h6,rfl⟩:=Ka hπ gA;rw[h5]at rJ;cases rJ;rw[uO,cg]at rZ;obtain⟨q,NR,rfl⟩:=rZ;have:=cQ dp k ok h6 q NR;have:=p2 i k h5;exact⟨q,p3 q (by omega),l2 k ok h6 Ez q NR⟩
  ·constructor
   ·rintro⟨k,rJ,h|h⟩
    ·subst h;exact .inl (p4 i k rJ).symm
    ·exact .inr ⟨k,rJ,h⟩
   ·rintro(h|⟨k,rJ,h⟩)
    ·subst h;exact⟨j,p3 j hj,.inl rfl⟩
    ·exact⟨k,rJ,.inr h⟩
 ·rw[hlen]at hi;have hp:π[i]? =some (π[i]'(by omega)):=av _;exact⟨fun _=>⟨_,hp,p2 i _ hp⟩,fun _=>by omega⟩
theorem T.xU {id:Nat} {l l':List Oper} (π:List Nat) (m:Nat) (fl:List Nat) (c:Nat) (N:aL) (hm:P.follows .mixedOrders=true) (GF:uN π l=l') (tq:eF l 0=true) (hπ:lC π l.length=true) (rV:Nat.blt m l'.length=true) (dp:eF l' 0=true) (pF:kg l' m=true) (DH:lA l' m fl c=true)
  (h:∀wD,(∀M,Step M w M wD aE)→jg P r n l'.toArray (l'.take m) L ds wD (fun L'=>(∀j o,j∈fl→l'[j]? =some o→bF P N wD L' o)∧oz P r n l'.toArray N wD K c (l'.drop m) L' ds wD)):T P r n (.region id l.toArray true) L ds w K:=by
 subst GF;exact iL.t hm tq fun wD hD=> .perm π hπ tq (AA m fl c N rV dp pF DH (h wD hD))
end
end Go.K
namespace Go.K
open Go.Proofs
set_option maxRecDepth 10000
theorem yW {M:aL} {w0:World} {v:Value} {b:List UInt8} {n:Nat} (hM:Lt M w0) (hv:(RT.u8.sl).V M w0 b v) (hb:b.length≤70368744177664) (hn:n≤9223372036854775807):
  Spec Tryz.prog 173 #[v,.int .i64 n] w0 (fun v' w'=>∃M',Step M w0 M' w' aE∧Own RT.u8 5 M' w' w0.heap.size v' (b++put n)):=by
 have h9:=gE hn;refine bu (args:=[_,_]) (fn:=Tryz.f173) Tryz.func173 rfl (n:=26) Tryz.ntmps173 (al (aj (ak rfl rfl (ae (al (aj (ah rfl rfl (ah rfl rfl ?_))))))))
 first|refine bK bj rfl (by assumption) rfl ?_|refine ik bj rfl (by assumption) rfl ?_
 refine ah rfl rfl ?_
 first|refine bK bj rfl (by assumption) rfl ?_|refine ik bj rfl (by assumption) rfl ?_
 refine Rg.Cd bj I5 rfl rfl rfl rfl hv ⟨rfl,rfl⟩ (fun a mM Ag=>?_);refine ak rfl rfl (ae (al (bh ?_)));refine dz (σ:=Nat×Value×List UInt8) (fun s=>[(0,s.2.1),(1,.int .i64 s.1)]) (fun s w=>s.2.2++put s.1=b++put n∧∃M1,Lt M1 w∧Step M w0 M1 w aE∧Grow RT.u8 (by decide) 5 M1 w w0.heap.size s.2.1 s.2.2) (fun s=>s.1) (n,_,b) (.cons rfl (.cons rfl .nil)) ?_ ?_
 ·exact⟨rfl,M,hM,ar _ _,.inr ⟨a,rfl,Ag,mM⟩⟩
 ·rintro⟨k,u0,acc⟩ w1 ⟨kP,M1,mI,s1,hg⟩;dsimp only at kP hg ⊢;have hlen:=congrArg List.length kP;have Ab:=uk k;simp only[bM]at hlen;refine al (al (aj (ah rfl rfl (ek rfl rfl rfl (ae ?_)))));refine bQ rfl (fun c2=>?_) (fun c2=>?_)
  ·refine aZ (bh (al (aj (ah rfl rfl (ah rfl rfl (xc az cM rfl rfl (Rg.or rfl rfl rfl (bO (congrArg _ (J2 _)) ?_))))))));refine eA (A:=RT.u8) (hn:=by decide) (M:=M1) bj I5 (by decide) rfl rfl mI (F1.2 rfl) (.inr ⟨rfl,rfl⟩) (fun u w2 hu s2=>?_);refine Rg.DF (M:=M1) (base:=w0.heap.size) bj I5 rfl rfl rfl rfl (hg.le s2) hu (ao _ _) (by simp) (by simp;omega) (by simp;omega) (dT s1.size s2.size) (fun v3 M3 w3 so s3=>?_);refine ak rfl rfl (ae (aj (ah rfl rfl (Rg.shr rfl rfl rfl (by omega) (bO (congrArg _ (Yj _)) (ak rfl rfl (ae ?_)))))));refine⟨rfl,(k/128,v3,acc++[UInt8.ofNat (128+k%128)]),(.cons rfl (.cons rfl .nil)),?_,?_⟩
   ·exact⟨by rw[←kP,yP (n:=k) (by omega)];simp,M3,s3.lt (s2.lt mI),(s1.aB s2).k9 s3 (aT _),.inl so⟩
   ·show k/128<k;omega
  ·refine cY (al (aj (ah rfl rfl (ah rfl rfl (xc az cM rfl rfl (bO (congrArg _ (ql _)) ?_))))));refine eA (A:=RT.u8) (hn:=by decide) (M:=M1) bj I5 (by decide) rfl rfl mI (F1.2 rfl) (.inr ⟨rfl,rfl⟩) (fun u w2 hu s2=>?_);refine Rg.DF (M:=M1) (base:=w0.heap.size) bj I5 rfl rfl rfl rfl (hg.le s2) hu (ao _ _) (by simp) (by simp;omega) (by simp;omega) (dT s1.size s2.size) (fun v3 M3 w3 so s3=>?_);refine ak rfl rfl (ae (aQ ?_));refine aV rfl rfl ⟨M3,(s1.aB s2).k9 s3 (aT _),?_⟩;rw[←kP,sf (n:=k) (by omega)];exact so
theorem GG {M:aL} {w0:World} {v:Value} {b:List UInt8} {n:Nat} (hM:Lt M w0) (hv:(RT.u8.sl).V M w0 b v) (hb:b.length≤70368744177664) (hn:n≤9223372036854775807):
  Spec Tryz.prog 173 #[v,.int .i64 n] w0 (fun v' w'=>Step M w0 M w' aE∧(RT.u8.sl).V M w' (b++put n) v'):=
 (yW hM hv hb hn).mono fun _ _ ⟨_,s,ho⟩=>⟨s.back,il hM s ho (by have:=gE hn;simp;omega)⟩
theorem AD {M:aL} {w0:World} {v:Value} {b:List UInt8} {at_:Int} (hv:(RT.u8.sl).V M w0 b v) (QF: -9223372036854775808≤at_∧at_≤9223372036854775807):
  Spec Tryz.prog 250 #[v,.int .i64 at_] w0 (fun v' w'=>v'= .tuple #[.int .i64 (get b at_).1,.int .i64 (get b at_).2.1,.int .i64 (get b at_).2.2]∧w0=w'):=by
 have hlen:=dK hv;refine bu (args:=[_,_]) (fn:=Tryz.f250) Tryz.func250 rfl (n:=54) Tryz.ntmps250 (al (aj (ak rfl rfl (ak rfl rfl (ak rfl rfl (ae (al (al (aj (ah rfl rfl (cz rfl rfl rfl ?_)))))))))));refine ah rfl rfl ?_;refine aR (g:=12) rfl (fun ib=>?_) (fun ib=>?_)
 ·obtain NU:at_<0∨(b.length:Int)<at_:= .inl ib;refine au rfl rfl rfl rfl (au rfl rfl rfl rfl (au rfl rfl rfl rfl (au rfl rfl rfl rfl (aW rfl rfl rfl (ae (kW rfl (al (aj (ak rfl rfl (ak rfl rfl (ak rfl rfl ?_)))))))))));refine ae (aQ ?_);have gT:get b at_=(0,0,1):=by unfold get;rw[if_pos NU]
  exact pQ rfl rfl rfl rfl ⟨by rw[gT],rfl⟩
 ·refine aq rfl rfl (ah rfl rfl (aq rfl rfl (ah rfl rfl (aq rfl rfl ?_))))
  first|refine bK bj rfl (by assumption) rfl ?_|refine ik bj rfl (by assumption) rfl ?_
  refine aq rfl rfl (lW rfl rfl rfl (aJ rfl rfl rfl (ae ?_)));refine bQ rfl (fun c1=>?_) (fun c1=>?_)
  ·obtain NU:at_<0∨(b.length:Int)<at_:= .inr c1;refine al (aj (ak rfl rfl (ak rfl rfl (ak rfl rfl (ae (aQ ?_))))));have gT:get b at_=(0,0,1):=by unfold get;rw[if_pos NU]
   exact pQ rfl rfl rfl rfl ⟨by rw[gT],rfl⟩
  ·refine aZ (al (aj (ak rfl rfl (ae (al (al (aj (ah rfl rfl (ah rfl rfl (ah rfl rfl ?_))))))))))
   first|refine bK bj rfl (by assumption) rfl ?_|refine ik bj rfl (by assumption) rfl ?_
   refine ah rfl rfl (bI rfl rfl rfl (by omega) (Rg.min2 rfl rfl rfl ?_));refine Rg.F4 bj I5 rfl rfl rfl rfl hv (by omega) (fun u hu=>?_);rw[show(min (b.length:Int) (at_+9)).toNat=min b.length (at_.toNat+9)from by omega,NF]at hu;have gT:get b at_=match mG ((b.drop at_.toNat).take 9) 0 0 with|some (n,k)=>((n:Int),at_+k,0)|none=>(0,0,2):=by unfold get;rw[if_neg (by omega)];rfl
   have xk:((b.drop at_.toNat).take 9).length≤9:=by rw[bG];omega
   generalize (b.drop at_.toNat).take 9=bs at hu gT xk
   first|refine bK bj rfl (by assumption) rfl ?_|refine ik bj rfl (by assumption) rfl ?_
   refine ah rfl rfl (ae (bh ?_));refine dz (σ:=Nat×Nat) (fun s=>[(1,.int .i64 at_),(25,u),(26,.int .i64 bs.length),(27,.int .i64 s.1),(7,.int .i64 s.2)]) (fun s w=>w0=w∧s.1≤bs.length∧s.2<128^s.1∧mG (bs.drop s.1) s.1 s.2=mG bs 0 0) (fun s=>bs.length-s.1) (0,0) (.cons rfl (.cons rfl (.cons rfl (.cons rfl (.cons rfl .nil))))) ?_ ?_
   ·exact⟨rfl,bH _,by decide,rfl⟩
   ·rintro⟨k,m⟩ w1 ⟨rfl,hk,hm,hg⟩;dsimp only at hk hm hg ⊢;refine al (aj (cz rfl rfl rfl (ae (al ?_))));refine bQ rfl (fun c5=>?_) (fun c5=>?_)
    ·refine aZ (al (bh (al (aj (ah rfl rfl ?_)))));refine cu (M:=M) bj I5 rfl rfl rfl (by assumption) (by repeat (first|exact ao _ _|refine aU (br (by assumption)) ?_)) (by omega) (fun ahD Kc AE aeg=>?_);refine Rg.No (M:=M) cM rfl rfl (by assumption) (by repeat (first|exact ao _ _|refine aU (br (by assumption)) ?_)) ?_;refine ak rfl rfl (ak rfl rfl (ae (al (aj (ah rfl rfl (ah rfl rfl (Rg.andNot rfl rfl rfl (bO (congrArg _ (Am _)) (Rg.yE cM az rfl rfl (by omega) (ah rfl rfl (Rg.Nl rfl rfl rfl (by omega) ?_)))))))))));refine Rg.shl rfl rfl rfl (by omega) (Rg.or rfl rfl rfl (bO (congrArg _ (Gr k m _ (by omega) hm (by omega))) (ak rfl rfl (ae (al (aj (ah rfl rfl (cz rfl rfl rfl (ae ?_)))))))));refine bQ rfl (fun c8=>?_) (fun c8=>?_)
     ·refine al (al (aj (ah rfl rfl (mB rfl rfl rfl (ah rfl rfl ?_)))));refine aR (g:=44) rfl (fun yX=>?_) (fun yX=>?_)
      ·refine aq rfl rfl (ah rfl rfl (aq rfl rfl (lW rfl rfl rfl (aW rfl rfl rfl (ae ?_)))));refine bQ rfl (fun c9=>?_) (fun c9=>?_)
       ·refine cY (al (aj (ak rfl rfl (ak rfl rfl (ak rfl rfl (ae (aQ ?_)))))))
        have hr:mG bs 0 0=none:=by
         rw[←hg]
         first
         |(rw[mH (by simpa using AE),if_pos (by omega),if_pos (by omega)])
         |(rw[ec (by omega)];rfl)
        exact pQ rfl rfl rfl rfl ⟨by rw[gT,hr],rfl⟩
       ·refine aZ (al (aj (ah rfl rfl (ah rfl rfl (ah rfl rfl (bI rfl rfl rfl (by omega) (bI rfl rfl rfl (by omega) (ak rfl rfl (ak rfl rfl (ak rfl rfl (ae ?_)))))))))));refine aQ ?_;have hr:mG bs 0 0=some (m+Kc.toNat%128*128^k,k+1):=by rw[←hg,mH (by simpa using AE),if_pos (by omega),if_neg (by omega)]
        exact pQ rfl rfl rfl rfl ⟨by rw[gT,hr];simp;omega,rfl⟩
      ·refine au rfl rfl rfl rfl (au rfl rfl rfl rfl (aJ rfl rfl rfl (ae (iY rfl (aZ (al (aj (ah rfl rfl (ah rfl rfl (ah rfl rfl (bI rfl rfl rfl (by omega) ?_)))))))))));refine bI rfl rfl rfl (by omega) (ak rfl rfl (ak rfl rfl (ak rfl rfl (ae (aQ ?_)))));have hr:mG bs 0 0=some (m+Kc.toNat%128*128^k,k+1):=by rw[←hg,mH (by simpa using AE),if_pos (by omega),if_neg (by omega)]
       exact pQ rfl rfl rfl rfl ⟨by rw[gT,hr];simp;omega,rfl⟩
     ·refine aZ (aj (bI rfl rfl rfl (by omega) (ah rfl rfl (ae ?_))));refine⟨rfl,(k+1,m+Kc.toNat%128*128^k),(.cons rfl (.cons rfl (.cons rfl (.cons rfl (.cons rfl .nil))))),?_,?_⟩
      ·refine⟨rfl,by simp only;omega,?_,?_⟩
       ·have:=Nat.mul_le_mul_right (128^k) (show Kc.toNat%128≤127 from by omega);simp only[Nat.pow_succ];omega
       ·rw[mH (by simpa using AE),if_neg (by omega)]at hg;exact hg
      ·simp only;omega
    ·refine cY (al (aj (ak rfl rfl (ak rfl rfl (ak rfl rfl (ae (aQ ?_)))))))
     have hr:mG bs 0 0=none:=by
      rw[←hg]
      first
      |(rw[mH (by simpa using AE),if_pos (by omega),if_pos (by omega)])
      |(rw[ec (by omega)];rfl)
     exact pQ rfl rfl rfl rfl ⟨by rw[gT,hr],rfl⟩
theorem xl {M:aL} {w0:World} {v u:Value} {b:List UInt8} {l:List Int} (hM:Lt M w0) (hv:(RT.u8.sl).V M w0 b v) (hu:((RT.int .i64).sl).V M w0 l u) (hb:b.length+9*(l.length+1)≤70368744177664):
  Spec Tryz.prog 174 #[v,u] w0 (fun v' w'=>∃M' x,Step M w0 M' w' aE∧v'= .tuple #[x,.int .i64 (if eI (-1) l then 0 else 1)]∧Own RT.u8 5 M' w' w0.heap.size x (if eI (-1) l then b++dO l else[])):=by
 have yM:=gE (n:=l.length) (by omega);refine bu (args:=[_,_]) (fn:=Tryz.f174) Tryz.func174 rfl (n:=31) Tryz.ntmps174 (al (aj (ak rfl rfl (ak rfl rfl (ae (al (aj (ah rfl rfl (ah rfl rfl (bK ax rfl hu rfl ?_))))))))));refine aP rfl rfl ND (yW (M:=M) hM hv (by omega) (by omega)) (fun ub wb Jz=>?_);obtain⟨Mb,sb,rI⟩:=Jz;refine ak rfl rfl (ae (al (aj (ak rfl rfl (ae (al (al (aj (ah rfl rfl (bK ax rfl hu rfl (ah rfl rfl ?_)))))))))));refine ae (bh ?_);refine dz (σ:=Nat×Int×Value×List UInt8) (fun s=>[(0,s.2.2.1),(6,.int .i64 s.2.1),(13,u),(14,.int .i64 l.length),(15,.int .i64 s.1)]) (fun s w=>eI (-1) l=eI s.2.1 (l.drop s.1)∧(eI (-1) l=true→s.2.2.2++jZ s.2.1 (l.drop s.1)=b++dO l)∧s.1≤l.length∧ -1≤s.2.1∧s.2.2.2.length≤b.length+9*(s.1+1)∧∃M1,Lt M1 w∧Step M w0 M1 w aE∧Own RT.u8 5 M1 w w0.heap.size s.2.2.1 s.2.2.2) (fun s=>l.length-s.1) (0,-1,_,b++put l.length) (.cons rfl (.cons rfl (.cons rfl (.cons rfl (.cons rfl .nil))))) ?_ ?_
 ·exact⟨rfl,fun _=>by simp[dO],bH _,by simp only;omega,by simp;omega,Mb,sb.lt hM,sb,rI⟩
 ·rintro⟨k,last,u0,acc⟩ w1 ⟨hr,kP,hk,NN,WD,M1,mI,s1,ho⟩;dsimp only at hr kP hk NN WD ho ⊢;refine al (aj (cz rfl rfl rfl (ae (al ?_))));refine bQ rfl (fun c4=>?_) (fun c4=>?_)
  ·refine aZ (al (bh (al (aj ?_))));obtain⟨x,hx⟩:∃x,l[k]? =some x:=⟨_,av (by omega)⟩;have hxr:=yF hu hx;refine cu (M:=M) ax I3 rfl rfl rfl (hu.le (s1.back).le) (ao _ _) (by omega) (fun Sd GH Sf DN=>?_);obtain rfl:GH=x:=aN (Sf.symm.trans (by simpa using hx));refine cr (M:=M) az rfl rfl DN (ao _ _) (fun _=>?_);refine ak rfl rfl (ae (al (al (aj (ah rfl rfl (ah rfl rfl (fq rfl rfl rfl (ae ?_))))))));refine bQ rfl (fun c6=>?_) (fun c6=>?_)
   ·refine al (aj (ak rfl rfl (ak rfl rfl (ae (aQ ?_)))));have hrf:eI (-1) l=false:=by rw[hr,ez hx,decide_eq_false (by omega),Bool.false_and]
    exact fa rfl rfl rfl ⟨M1,_,s1,by rw[hrf];rfl,by rw[hrf];exact dQ _ _ _ _ _⟩
   ·refine aZ (al (aj (ah rfl rfl (ah rfl rfl (ah rfl rfl (Rg.Re rfl rfl rfl (Rg.Re rfl rfl rfl ?_)))))));have hpx:=gE (n:=(GH-last-1).toNat) (by omega);refine bO (v':= .int .i64 (((GH-last-1).toNat:Nat):Int)) (by rw[IntKind.wrap_i64,IntKind.wrap_i64];congr 1;omega) ?_;have hfz:=s1.freeze (v:=u0) (fun b hb=>(ho.base b hb).1);refine aP rfl rfl ND (yW (M:=rm M1 u0) (mI.rm u0) (ho.view (by omega)) (by omega) (by omega)) (fun ub wb Jz=>?_);obtain⟨Mb2,sb2,YC⟩:=Jz;refine ak rfl rfl (ae (aj (ah rfl rfl (ak rfl rfl (ae (aj (bI rfl rfl rfl (by omega) (ah rfl rfl (ae ?_)))))))));refine⟨rfl,(k+1,GH,ub,acc++put (GH-last-1).toNat),(.cons rfl (.cons rfl (.cons rfl (.cons rfl (.cons rfl .nil))))),?_,?_⟩
    ·refine⟨?_,fun h=>?_,by simp only;omega,by simp only;omega,by simp only[bM];omega,Mb2,sb2.lt (mI.rm u0),hfz.aB sb2,YC.mi s1.size⟩
     ·rw[hr,ez hx,decide_eq_true (by omega),fQ]
     ·rw[←kP h,si hx];simp
    ·simp only;omega
  ·refine cY (al (aj (ah rfl rfl (ak rfl rfl (ak rfl rfl (ae (aQ ?_)))))));have YD:eI (-1) l=true:=by rw[hr,ec (by omega)];rfl
   have ha:=kP YD;rw[ec (by omega),jZ,kK]at ha;exact fa rfl rfl rfl ⟨M1,_,s1,by rw[YD];rfl,by rw[YD,←ha];exact ho⟩
theorem uP {M:aL} {w0:World} {v u:Value} {b:List UInt8} {l:List Int} (hM:Lt M w0) (hv:(RT.u8.sl).V M w0 b v) (hu:((RT.int .i64).sl).V M w0 l u) (hb:b.length+9*(l.length+1)≤70368744177664):
  Spec Tryz.prog 174 #[v,u] w0 (fun v' w'=>∃x,Step M w0 M w' aE∧v'= .tuple #[x,.int .i64 (if eI (-1) l then 0 else 1)]∧(RT.u8.sl).V M w' (if eI (-1) l then b++dO l else[]) x):=
 (xl hM hv hu hb).mono fun _ _ ⟨_,x,s,h,ho⟩=>⟨x,s.back,h,il hM s ho (by
  split
  next hr=>
   have yM:=gE (n:=l.length) (by omega);have kO:∀x∈l,x≤9223372036854775807:=fun x hx=>by obtain⟨i,hi⟩:=bN.1 hx;exact(yF hu hi).2
   have:=qT l (-1) (by decide) kO hr;simp only[dO,bM];omega
  next=>simp)⟩
theorem xV {M:aL} {w0:World} {be bb ba:Nat} {v:Value} {b:List UInt8} {at_:Int} (he:w0.heap[be]? =some (.cells #[.int .i64 0] 26 (0,0))) (hb:w0.heap[bb]? =some (.cells #[v] 147 (0,0))) (ha:w0.heap[ba]? =some (.cells #[.int .i64 at_] 3 (0,0))) (fg:be≠ba) (NV:M be) (QG:M ba) (hv:(RT.u8.sl).V M w0 b v) (QF: -9223372036854775808≤at_∧at_≤9223372036854775807):
  Spec Tryz.prog 274 #[.pointer (some ⟨be,0,none⟩),.pointer (some ⟨bb,0,none⟩),.pointer (some ⟨ba,0,none⟩)] w0 (fun v' w'=>v'= .int .i64 (get b at_).1∧w'.heap[be]? =some (.cells #[.int .i64 (get b at_).2.2] 26 (0,0))∧w'.heap[ba]? =some (.cells #[.int .i64 (get b at_).2.1] 3 (0,0))∧Step M w0 M w' (fun k=>k=be∨k=ba)):=by
 refine bu (args:=[_,_,_]) (fn:=Tryz.f274) Tryz.func274 rfl (n:=15) Tryz.ntmps274 (al (aj (ak rfl rfl (ae (al (al (aj (aX te rfl rfl rfl (by assumption) rfl (eS rfl rfl rfl (ae ?_))))))))));refine bQ rfl (fun c1=>?_) (fun c1=>?_)
 ·exact absurd rfl c1
 ·refine aZ (al (aj (ak rfl rfl (ae (al (aj (aX bj rfl rfl rfl (by assumption) rfl (aX az rfl rfl rfl (by assumption) rfl ?_))))))));refine aP rfl rfl RL (AD hv QF) (fun r w1 h1=>?_);obtain⟨rfl,rfl⟩:=h1;refine ah rfl rfl (bZ rfl rfl rfl (bZ rfl rfl rfl (bZ rfl rfl rfl (ak rfl rfl ?_))));refine ck (M:=M) I3 rfl rfl ha rfl rfl QG (fun w1 h1 s1=>?_);refine ck (M:=M) Wy rfl rfl (s1.bS he fg) rfl rfl NV (fun w2 h2 s2=>?_);refine ae (al (aj (ah rfl rfl (ak rfl rfl (ae (aQ ?_))))));refine aV rfl rfl ⟨rfl,h2,s2.bS h1 (Ne.symm fg),?_⟩;exact(s1.cw (fun b hb=> .inr hb) (fun b hb=>by rcases hb with rfl|rfl<;>assumption)).trans s2 (fun b _ hb=> .inl hb)
theorem uQ {M:aL} {w0:World} {v:Value} {b:List UInt8} {at_:Int} (hM:Lt M w0) (hv:(RT.u8.sl).V M w0 b v) (QF: -9223372036854775808≤at_∧at_≤9223372036854775807) (xk:b.length≤1099511627776):
  Spec Tryz.prog 251 #[v,.int .i64 at_] w0 (fun v' w'=>∃x,v'= .tuple #[x,.int .i64 (fW b at_).2.2,.int .i64 (fW b at_).1]∧((RT.int .i64).sl).V M w' (fW b at_).2.1 x∧Step M w0 M w' aE):=by
 refine bu (args:=[_,_]) (fn:=Tryz.f251) Tryz.func251 rfl (n:=48) Tryz.ntmps251 (al (aj ?_));refine tO M rfl rfl (fun bb w1 LX ahF hB s1=>?_);rw[fM hv]at hB;refine tO (ins M bb) rfl rfl (fun ba w2 hba ahG hA s2=>?_);refine ak rfl rfl (ak rfl rfl (ak rfl rfl (ae (al (aj ?_)))));refine eG (ins (ins M bb) ba) Wy rfl (fun be w3 hbe ahH hE s3=>?_);refine ck (M:=ins (ins (ins M bb) ba) be) Wy rfl rfl hE rfl rfl (.inl rfl) (fun w4 hE4 s4=>?_);have z1:=s1.size;have z2:=s2.size;have z3:=s3.size;have z4:=s4.size;have S4:Step M w0 (ins (ins (ins M bb) ba) be) w4 aE:=((s1.aB s2).aB s3).cW s4 (fun k hk=>by subst hk;omega);have WE:=s4.bS (s3.aM (s2.aM hB)) (show bb≠be by omega);have hA4:=s4.bS (s3.aM hA) (show ba≠be by omega);refine ae (al (aj (jF (xs:=[]) rfl rfl rfl (ak rfl rfl (ae (al (aj (ak rfl rfl (ae (al (aj ?_)))))))))));refine ak rfl rfl (ae (al (al (aj (ah rfl rfl ?_)))));refine Rg.qK (first:=[]) (xs:=[]) rfl rfl rfl RM (xV (M:=ins (ins (ins M bb) ba) be) hE4 WE hA4 (by omega) (.inl rfl) (.inr (.inl rfl)) (hv.le S4.le) QF) (fun r w5 h5=>?_);obtain⟨rfl,hE5,hA5,s5⟩:=h5;have z5:=s5.size;have S5:=S4.cW s5 (fun k hk=>by omega);have hB5:=s5.bS WE (by omega);obtain⟨YE,hn1,hn2,hn3⟩:=nj b at_;refine bO (v':= .int .i64 (((get b at_).1.toNat:Nat):Int)) (by rw[wW YE]) (ak rfl rfl (ae (bh ?_)));refine dz (σ:=Nat×Int×Value×List Int×Int×Int) (fun s=>[(7,.pointer (some ⟨be,0,none⟩)),(3,.pointer (some ⟨ba,0,none⟩)),(8,.func (.func 274) [].toArray [.pointer (some ⟨be,0,none⟩),.pointer (some ⟨bb,0,none⟩),.pointer (some ⟨ba,0,none⟩)].toArray),(9,s.2.2.1),(10,.int .i64 s.2.1),(11,.int .i64 s.1)]) (fun s w=>(s.1:Int)≤9223372036854775807∧(s.2.2.2.2.1=0→fW b at_=andThen s.2.2.2.1 (gK b s.1 s.2.2.2.2.2 s.2.1))∧(s.2.2.2.2.1≠0→fW b at_=(s.2.2.2.2.1,[],0))∧(s.2.2.2.2.1=0→ -1≤s.2.1∧s.2.1≤4611686018427387904∧(s.2.2.2.1.length:Int)≤s.2.2.2.2.2∧s.2.2.2.2.2≤b.length)∧s.2.2.2.1.length≤b.length+1∧∃M1,Lt M1 w∧Step M w0 M1 w aE∧w4.heap.size≤w.heap.size∧M1 be∧M1 ba∧Own (RT.int .i64) 3 M1 w w4.heap.size s.2.2.1 s.2.2.2.1∧w.heap[be]? =some (.cells #[.int .i64 s.2.2.2.2.1] 26 (0,0))∧w.heap[ba]? =some (.cells #[.int .i64 s.2.2.2.2.2] 3 (0,0))∧w.heap[bb]? =some (.cells #[v] 147 (0,0))) (fun s=>s.1) ((get b at_).1.toNat,-1,_,[],(get b at_).2.2,(get b at_).2.1) (.cons rfl (.cons rfl (.cons rfl (.cons rfl (.cons rfl (.cons rfl .nil)))))) ?_ ?_
 ·refine⟨by have:=xL b at_;simp only;omega,fun h=>?_,fun h=>?_,fun h=>?_,by simp,_,S5.lt hM,S5,z5,.inl rfl,.inr (.inl rfl),dQ _ _ _ _ _,hE5,hA5,hB5⟩
  ·unfold fW;rw[if_neg (by simpa using h)];exact(An _ (EF b _ _ _)).symm
  ·unfold fW;rw[if_pos h]
  ·have:=sh h;simp only[jm];omega
 ·rintro⟨many,last,u0,acc,e,a1⟩ wl ⟨hmb,JE,Rv,hok,WD,M1,mI,S,zl,NV,QG,ho,hE,hA,hB⟩;dsimp only at hmb JE Rv hok WD ho hE hA hB ⊢;refine al (al (aj (ah rfl rfl (lW rfl rfl rfl (ah rfl rfl ?_)))));refine aR (g:=18) rfl (fun NW=>?_) (fun NW=>?_)
  ·refine aq rfl rfl (aX te rfl rfl rfl (by assumption) rfl (aq rfl rfl (mB rfl rfl rfl (aW rfl rfl rfl (ae ?_)))));refine bQ rfl (fun c6=>?_) (fun c6=>?_)
   ·refine aZ (al (bh (al (aj (ah rfl rfl ?_)))));refine Rg.qK (first:=[]) (xs:=[]) rfl rfl rfl RM (xV (M:=M1) (by rw[c6]at hE;exact hE) hB hA (by omega) NV QG (hv.le S.le) (by have:=hok c6;omega)) (fun r w6 h6=>?_);obtain⟨rfl,Sg,Sh,s6⟩:=h6;have z6:=s6.size;have S6:=S.cW s6 (fun k hk=>by omega);have Si:=s6.bS hB (by omega);have tt:=ho.step s6 (fun k hk h=>by have:=(ho.base k hk).1;omega);have GI:=s6.lt mI;obtain⟨YE,hn1,hn2,hn3⟩:=nj b a1;obtain⟨rJ,Ez,hk3,hk4⟩:=hok c6;refine ak rfl rfl (ae (al (al (aj (aX te rfl rfl rfl (by assumption) rfl (mB rfl rfl rfl (ah rfl rfl ?_)))))));refine aR (g:=28) rfl (fun yX=>?_) (fun yX=>?_)
    ·refine aq rfl rfl (ah rfl rfl (aq rfl rfl (ah rfl rfl (aq rfl rfl (gJ rfl rfl rfl (by omega) (aq rfl rfl (gJ rfl rfl rfl (by omega) (aq rfl rfl (lW rfl rfl rfl (aW rfl rfl rfl (ae ?_)))))))))));refine bQ rfl (fun c9=>?_) (fun c9=>?_)
     ·refine aj ?_;refine ck (M:=M1) Wy rfl rfl Sg rfl rfl NV (fun w7 hE7 s7=>?_);have z7:=s7.size;replace S6:=S6.cW s7 (fun k hk=>by subst hk;omega);replace Si:=s7.bS Si (show bb≠be by omega);replace Sh:=s7.bS Sh (show ba≠be by omega);replace tt:=tt.step s7 (fun k hk h=>by have:=(ho.base k hk).1;omega);replace GI:=s7.lt GI;replace Sg:=hE7;refine ae (al (aj (ah rfl rfl (ah rfl rfl (Rg.yD rfl rfl rfl (Rg.yD rfl rfl rfl (ak rfl rfl (ae (aj (ah rfl rfl (ah rfl rfl ?_)))))))))));refine eA (A:=RT.int .i64) (hn:=by decide) (M:=M1) ax I3 (by decide) rfl rfl GI (gC (qm _)) (.inr ⟨rfl,rfl⟩) (fun u w8 hu s8=>?_);refine cv (M:=M1) (base:=w4.heap.size) ax I3 rfl rfl rfl rfl (tt.a8 s8) hu (ao _ _) (by simp;omega) (by simp;omega) (by have:=s8.size;omega) (fun v9 M9 w9 Sj s9=>?_);have z8:=s8.size;have z9:=s9.size;have jQ:∀k,k<w4.heap.size→¬jC u0 k:=fun k hk h=>by have:=(ho.base k h).1;omega
      have GK:=s9.bS (s8.aM Sg) (jQ be (by omega));have Sk:=s9.bS (s8.aM Sh) (jQ ba (by omega));have Sm:=s9.bS (s8.aM Si) (jQ bb (by omega));have S9:=(S6.aB s8).cF s9 (tt.a8 s8) (by omega);have Sn:=s9.lt (s8.lt GI);have GL:M9 be:=(s9.mem be (by omega)).2 NV;have GM:M9 ba:=(s9.mem ba (by omega)).2 QG;refine ak rfl rfl (ae (aj (ah rfl rfl (gJ rfl rfl rfl (by omega) (ak rfl rfl (ae ?_))))));refine⟨rfl,(many-1,(IntKind.i64.wrap (last+IntKind.i64.wrap ((get b a1).1+1))),v9,acc++[(IntKind.i64.wrap (last+IntKind.i64.wrap ((get b a1).1+1)))],(if(get b a1).2.2=0∧4611686018427387904-last-1<(get b a1).1 then 2 else(get b a1).2.2),(get b a1).2.1),(.cons rfl (.cons rfl (.cons rfl (.cons rfl (.cons rfl (.cons (show some (Value.int .i64 ((many:Int)-1))=some (Value.int .i64 ((many-1:Nat):Int))from by congr 2;omega) .nil)))))),?_,?_⟩
      ·have hx:(get b a1).2.2=0→¬4611686018427387904-last-1<(get b a1).1→(IntKind.i64.wrap (last+IntKind.i64.wrap ((get b a1).1+1)))=last+1+(get b a1).1:=fun h1 h2=>by rw[IntWalk.i64_in ((get b a1).1+1) (by omega),IntWalk.i64_in _ (by omega)];omega
       have Qx:many=(many-1)+1:=by omega
       have uR:=JE c6;rw[Qx]at uR;refine⟨by simp only;omega,fun h=>?_,fun h=>?_,fun h=>?_,by have:=hok c6;simp only[bM,dr,jm];omega,M9,Sn,S9,by omega,GL,GM,Sj,?_,Sk,Sm⟩
       ·dsimp only at h ⊢;have h3:(get b a1).2.2=0∧¬4611686018427387904-last-1<(get b a1).1:=by split at h<;>omega
        rw[uR,ni acc h3.1 h3.2,hx h3.1 h3.2]
       ·dsimp only at h ⊢;rw[uR]
        split
        ·rename_i h4;rw[sk h4.1 h4.2];rfl
        ·rename_i h4
         have h5:(get b a1).2.2≠0:=by intro h6;rw[if_neg h4]at h;exact h h6
         rw[qn h5];unfold andThen;rw[if_pos h5]
       ·dsimp only at h ⊢;have h3:(get b a1).2.2=0∧¬4611686018427387904-last-1<(get b a1).1:=by split at h<;>omega
        have:=sh h3.1;rw[hx h3.1 h3.2];simp only[bM,dr,jm];omega
       ·dsimp only
        first
        |(rw[if_pos ⟨yX,c9⟩];exact GK)
        |(rw[if_neg (fun h=>c9 h.2)];exact GK)
        |(rw[if_neg (fun h=>yX h.1)];exact GK)
      ·simp only;omega
     ·refine aZ (al (aj (ah rfl rfl (ah rfl rfl (Rg.yD rfl rfl rfl (Rg.yD rfl rfl rfl (ak rfl rfl (ae (aj (ah rfl rfl (ah rfl rfl ?_)))))))))));refine eA (A:=RT.int .i64) (hn:=by decide) (M:=M1) ax I3 (by decide) rfl rfl GI (gC (qm _)) (.inr ⟨rfl,rfl⟩) (fun u w8 hu s8=>?_);refine cv (M:=M1) (base:=w4.heap.size) ax I3 rfl rfl rfl rfl (tt.a8 s8) hu (ao _ _) (by simp;omega) (by simp;omega) (by have:=s8.size;omega) (fun v9 M9 w9 Sj s9=>?_);have z8:=s8.size;have z9:=s9.size;have jQ:∀k,k<w4.heap.size→¬jC u0 k:=fun k hk h=>by have:=(ho.base k h).1;omega
      have GK:=s9.bS (s8.aM Sg) (jQ be (by omega));have Sk:=s9.bS (s8.aM Sh) (jQ ba (by omega));have Sm:=s9.bS (s8.aM Si) (jQ bb (by omega));have S9:=(S6.aB s8).cF s9 (tt.a8 s8) (by omega);have Sn:=s9.lt (s8.lt GI);have GL:M9 be:=(s9.mem be (by omega)).2 NV;have GM:M9 ba:=(s9.mem ba (by omega)).2 QG;refine ak rfl rfl (ae (aj (ah rfl rfl (gJ rfl rfl rfl (by omega) (ak rfl rfl (ae ?_))))));refine⟨rfl,(many-1,(IntKind.i64.wrap (last+IntKind.i64.wrap ((get b a1).1+1))),v9,acc++[(IntKind.i64.wrap (last+IntKind.i64.wrap ((get b a1).1+1)))],(if(get b a1).2.2=0∧4611686018427387904-last-1<(get b a1).1 then 2 else(get b a1).2.2),(get b a1).2.1),(.cons rfl (.cons rfl (.cons rfl (.cons rfl (.cons rfl (.cons (show some (Value.int .i64 ((many:Int)-1))=some (Value.int .i64 ((many-1:Nat):Int))from by congr 2;omega) .nil)))))),?_,?_⟩
      ·have hx:(get b a1).2.2=0→¬4611686018427387904-last-1<(get b a1).1→(IntKind.i64.wrap (last+IntKind.i64.wrap ((get b a1).1+1)))=last+1+(get b a1).1:=fun h1 h2=>by rw[IntWalk.i64_in ((get b a1).1+1) (by omega),IntWalk.i64_in _ (by omega)];omega
       have Qx:many=(many-1)+1:=by omega
       have uR:=JE c6;rw[Qx]at uR;refine⟨by simp only;omega,fun h=>?_,fun h=>?_,fun h=>?_,by have:=hok c6;simp only[bM,dr,jm];omega,M9,Sn,S9,by omega,GL,GM,Sj,?_,Sk,Sm⟩
       ·dsimp only at h ⊢;have h3:(get b a1).2.2=0∧¬4611686018427387904-last-1<(get b a1).1:=by split at h<;>omega
        rw[uR,ni acc h3.1 h3.2,hx h3.1 h3.2]
       ·dsimp only at h ⊢;rw[uR]
        split
        ·rename_i h4;rw[sk h4.1 h4.2];rfl
        ·rename_i h4
         have h5:(get b a1).2.2≠0:=by intro h6;rw[if_neg h4]at h;exact h h6
         rw[qn h5];unfold andThen;rw[if_pos h5]
       ·dsimp only at h ⊢;have h3:(get b a1).2.2=0∧¬4611686018427387904-last-1<(get b a1).1:=by split at h<;>omega
        have:=sh h3.1;rw[hx h3.1 h3.2];simp only[bM,dr,jm];omega
       ·dsimp only
        first
        |(rw[if_pos ⟨yX,c9⟩];exact GK)
        |(rw[if_neg (fun h=>c9 h.2)];exact GK)
        |(rw[if_neg (fun h=>yX h.1)];exact GK)
      ·simp only;omega
    ·refine au rfl rfl rfl rfl (au rfl rfl rfl rfl (au rfl rfl rfl rfl (au rfl rfl rfl rfl (au rfl rfl rfl rfl (aJ rfl rfl rfl (ae (iY rfl (aZ (al (aj (ah rfl rfl ?_)))))))))));refine ah rfl rfl (Rg.yD rfl rfl rfl (Rg.yD rfl rfl rfl (ak rfl rfl (ae (aj (ah rfl rfl (ah rfl rfl ?_)))))));refine eA (A:=RT.int .i64) (hn:=by decide) (M:=M1) ax I3 (by decide) rfl rfl GI (gC (qm _)) (.inr ⟨rfl,rfl⟩) (fun u w8 hu s8=>?_);refine cv (M:=M1) (base:=w4.heap.size) ax I3 rfl rfl rfl rfl (tt.a8 s8) hu (ao _ _) (by simp;omega) (by simp;omega) (by have:=s8.size;omega) (fun v9 M9 w9 Sj s9=>?_);have z8:=s8.size;have z9:=s9.size;have jQ:∀k,k<w4.heap.size→¬jC u0 k:=fun k hk h=>by have:=(ho.base k h).1;omega
     have GK:=s9.bS (s8.aM Sg) (jQ be (by omega));have Sk:=s9.bS (s8.aM Sh) (jQ ba (by omega));have Sm:=s9.bS (s8.aM Si) (jQ bb (by omega));have S9:=(S6.aB s8).cF s9 (tt.a8 s8) (by omega);have Sn:=s9.lt (s8.lt GI);have GL:M9 be:=(s9.mem be (by omega)).2 NV;have GM:M9 ba:=(s9.mem ba (by omega)).2 QG;refine ak rfl rfl (ae (aj (ah rfl rfl (gJ rfl rfl rfl (by omega) (ak rfl rfl (ae ?_))))));refine⟨rfl,(many-1,(IntKind.i64.wrap (last+IntKind.i64.wrap ((get b a1).1+1))),v9,acc++[(IntKind.i64.wrap (last+IntKind.i64.wrap ((get b a1).1+1)))],(if(get b a1).2.2=0∧4611686018427387904-last-1<(get b a1).1 then 2 else(get b a1).2.2),(get b a1).2.1),(.cons rfl (.cons rfl (.cons rfl (.cons rfl (.cons rfl (.cons (show some (Value.int .i64 ((many:Int)-1))=some (Value.int .i64 ((many-1:Nat):Int))from by congr 2;omega) .nil)))))),?_,?_⟩
     ·have hx:(get b a1).2.2=0→¬4611686018427387904-last-1<(get b a1).1→(IntKind.i64.wrap (last+IntKind.i64.wrap ((get b a1).1+1)))=last+1+(get b a1).1:=fun h1 h2=>by rw[IntWalk.i64_in ((get b a1).1+1) (by omega),IntWalk.i64_in _ (by omega)];omega
      have Qx:many=(many-1)+1:=by omega
      have uR:=JE c6;rw[Qx]at uR;refine⟨by simp only;omega,fun h=>?_,fun h=>?_,fun h=>?_,by have:=hok c6;simp only[bM,dr,jm];omega,M9,Sn,S9,by omega,GL,GM,Sj,?_,Sk,Sm⟩
      ·dsimp only at h ⊢;have h3:(get b a1).2.2=0∧¬4611686018427387904-last-1<(get b a1).1:=by split at h<;>omega
       rw[uR,ni acc h3.1 h3.2,hx h3.1 h3.2]
      ·dsimp only at h ⊢;rw[uR]
       split
       ·rename_i h4;rw[sk h4.1 h4.2];rfl
       ·rename_i h4
        have h5:(get b a1).2.2≠0:=by intro h6;rw[if_neg h4]at h;exact h h6
        rw[qn h5];unfold andThen;rw[if_pos h5]
      ·dsimp only at h ⊢;have h3:(get b a1).2.2=0∧¬4611686018427387904-last-1<(get b a1).1:=by split at h<;>omega
       have:=sh h3.1;rw[hx h3.1 h3.2];simp only[bM,dr,jm];omega
      ·dsimp only
       first
       |(rw[if_pos ⟨yX,c9⟩];exact GK)
       |(rw[if_neg (fun h=>c9 h.2)];exact GK)
       |(rw[if_neg (fun h=>yX h.1)];exact GK)
     ·simp only;omega
   ·refine cY (al (al (aj (aX te rfl rfl rfl (by assumption) rfl (eS rfl rfl rfl (ae ?_))))));refine bQ rfl (fun Kd=>?_) (fun Kd=>?_)
    ·refine al ?_;apply T.jh mixed rfl rfl;intro NX GN;have pJ:=GN M1;refine aX te rfl rfl rfl (by first|assumption|exact cC pJ (by assumption)) rfl ?_;refine ae ⟨rfl,rfl,rfl,?_⟩;refine ak rfl rfl ?_;refine ae ⟨rfl,rfl,rfl,?_⟩;refine ak rfl rfl ?_;refine ae ⟨rfl,rfl,rfl,?_⟩;refine ak rfl rfl ?_;refine ae ⟨rfl,rfl,rfl,?_⟩;refine jg.nil (aQ ?_);have hr:=Rv Kd;exact pQ rfl rfl rfl rfl ⟨_,by rw[hr]<;>rfl,by rw[hr];exact iO,(S.aB pJ).back⟩
    ·refine aZ (al ?_);apply T.jh mixed rfl rfl;intro NY GO;have og:=GO M1;refine ah rfl rfl ?_;refine ae ⟨rfl,rfl,rfl,?_⟩;refine aX az rfl rfl rfl (by first|assumption|exact cC og (by assumption)) rfl ?_;refine ae ⟨rfl,rfl,rfl,?_⟩;refine ak rfl rfl ?_;refine ae ⟨rfl,rfl,rfl,?_⟩;refine ak rfl rfl ?_;refine ae ⟨rfl,rfl,rfl,?_⟩;refine ak rfl rfl ?_;refine ae ⟨rfl,rfl,rfl,?_⟩;refine jg.nil (aQ ?_);have hz:many=0:=by omega
     have hr:=JE (by omega);rw[hz,uJ]at hr;simp only[andThen,ne_eq,not_true_eq_false,if_false,kK]at hr;have Sq:=S.aB og;refine pQ rfl rfl rfl rfl ⟨_,by rw[hr]<;>rfl,?_,Sq.back⟩;rw[hr];exact il hM Sq ((ho.a8 og).mi (by omega)) (by simp only;omega)
  ·refine au rfl rfl rfl rfl (au rfl rfl rfl rfl (aJ rfl rfl rfl (ae (iY rfl (cY (al (al (aj (aX te rfl rfl rfl (by assumption) rfl (eS rfl rfl rfl (ae ?_)))))))))));refine bQ rfl (fun Kd=>?_) (fun Kd=>?_)
   ·refine al ?_;apply T.jh mixed rfl rfl;intro NX GN;have pJ:=GN M1;refine aX te rfl rfl rfl (by first|assumption|exact cC pJ (by assumption)) rfl ?_;refine ae ⟨rfl,rfl,rfl,?_⟩;refine ak rfl rfl ?_;refine ae ⟨rfl,rfl,rfl,?_⟩;refine ak rfl rfl ?_;refine ae ⟨rfl,rfl,rfl,?_⟩;refine ak rfl rfl ?_;refine ae ⟨rfl,rfl,rfl,?_⟩;refine jg.nil (aQ ?_);have hr:=Rv Kd;exact pQ rfl rfl rfl rfl ⟨_,by rw[hr]<;>rfl,by rw[hr];exact iO,(S.aB pJ).back⟩
   ·refine aZ (al ?_);apply T.jh mixed rfl rfl;intro NY GO;have og:=GO M1;refine ah rfl rfl ?_;refine ae ⟨rfl,rfl,rfl,?_⟩;refine aX az rfl rfl rfl (by first|assumption|exact cC og (by assumption)) rfl ?_;refine ae ⟨rfl,rfl,rfl,?_⟩;refine ak rfl rfl ?_;refine ae ⟨rfl,rfl,rfl,?_⟩;refine ak rfl rfl ?_;refine ae ⟨rfl,rfl,rfl,?_⟩;refine ak rfl rfl ?_;refine ae ⟨rfl,rfl,rfl,?_⟩;refine jg.nil (aQ ?_);have hz:many=0:=by omega
    have hr:=JE (by omega);rw[hz,uJ]at hr;simp only[andThen,ne_eq,not_true_eq_false,if_false,kK]at hr;have Sq:=S.aB og;refine pQ rfl rfl rfl rfl ⟨_,by rw[hr]<;>rfl,?_,Sq.back⟩;rw[hr];exact il hM Sq ((ho.a8 og).mi (by omega)) (by simp only;omega)
end Go.K
namespace Go.K
open Go.Proofs
set_option maxRecDepth 10000
theorem DO {M:aL} {w0:World} {v:Value} {x:Li} (hv:cc RT.li M w0 v x) {k:Int}:
  Spec Tryz.prog 214 #[v,.int .i64 k] w0 (fun v' w'=>v'= .bool (FQ x.2.1.length k)∧w0=w'):=by
 refine bu (args:=[_,_]) (fn:=Tryz.f214) Tryz.func214 rfl (n:=16) Tryz.ntmps214 (al (aj (ak rfl rfl (ae (al (aj (ah rfl rfl (ek rfl rfl rfl (ah rfl rfl ?_)))))))));refine aR (g:=7) rfl (fun ib=>?_) (fun ib=>?_)
 ·refine aq rfl rfl (ah rfl rfl (aq rfl rfl (ah rfl rfl (aq rfl rfl (bm rfl (ue (by assumption)) rfl (aq rfl rfl ?_))))));refine ay (M:=M) (A:=RT.li) (B:=(RT.bl).sl) du rfl rfl yO (by decide) (QC) rfl rfl (by decide) (by assumption) (by repeat (first|exact ao _ _|refine aU (br (by assumption)) ?_)) (fun ahO ael=>?_);refine aq rfl rfl ?_;refine bg (M:=M) dn rfl rfl rfl rfl rfl (by assumption) (by repeat (first|exact ao _ _|refine aU (br (by assumption)) ?_)) (fun NZ GP=>?_);refine aq rfl rfl ?_
  first|refine bK dn rfl (by assumption) rfl ?_|refine ik dn rfl (by assumption) rfl ?_
  refine aq rfl rfl (cz rfl rfl rfl (aW rfl rfl rfl (ak rfl rfl (ae (aQ ?_)))))
  first
  |exact aV rfl rfl ⟨congrArg Value.bool (decide_eq_decide.2 (by omega)),rfl⟩
  |exact aV rfl rfl ⟨congrArg Value.bool (dL (decide_eq_false (by omega))),rfl⟩
 ·refine au rfl rfl rfl rfl (au rfl rfl rfl rfl (au rfl rfl rfl rfl (au rfl rfl rfl rfl (au rfl rfl rfl rfl (au rfl rfl rfl rfl (au rfl rfl rfl rfl (aJ rfl rfl rfl (ak rfl rfl (ae (aQ ?_))))))))))
  first
  |exact aV rfl rfl ⟨congrArg Value.bool (decide_eq_decide.2 (by omega)),rfl⟩
  |exact aV rfl rfl ⟨congrArg Value.bool (dL (decide_eq_false (by omega))),rfl⟩
theorem l5 {M:aL} {w0:World} {v:Value} {x:Li} (hv:cc RT.li M w0 v x):
  Spec Tryz.prog 183 #[v] w0 (fun v' w'=>v'= .int .i64 x.2.1.length∧w0=w'):=by
 refine bu (args:=[_]) (fn:=Tryz.f183) Tryz.func183 rfl (n:=8) Tryz.ntmps183 (al (aj (ak rfl rfl (ae (al (aj (ah rfl rfl (bm rfl (ue (by assumption)) rfl ?_))))))));refine ay (M:=M) (A:=RT.li) (B:=(RT.bl).sl) du rfl rfl yO (by decide) (QC) rfl rfl (by decide) (by assumption) (by repeat (first|exact ao _ _|refine aU (br (by assumption)) ?_)) (fun AF l6=>?_);refine bg (M:=M) dn rfl rfl rfl rfl rfl (by assumption) (by repeat (first|exact ao _ _|refine aU (br (by assumption)) ?_)) (fun GQ uT=>?_)
 first|refine bK dn rfl (by assumption) rfl ?_|refine ik dn rfl (by assumption) rfl ?_
 refine ak rfl rfl (ae (aQ ?_));exact aV rfl rfl ⟨rfl,rfl⟩
theorem EN {M:aL} {w0:World} {v:Value} {x:Li} (hv:cc RT.li M w0 v x) {k:Int}:
  Spec Tryz.prog 184 #[v,.int .i64 k] w0 (fun v' w'=>v'= .int .i64 (Ap x.2.1 k)∧w0=w'):=by
 refine bu (args:=[_,_]) (fn:=Tryz.f184) Tryz.func184 rfl (n:=17) Tryz.ntmps184 (al (aj (ak rfl rfl (ae (al (al (aj (ah rfl rfl (ah rfl rfl ?_)))))))));refine aP rfl rfl RF (DO hv (k:=k)) (fun r w1 h1=>?_);obtain⟨rfl,rfl⟩:=h1;refine jN rfl rfl (bO (v':= .bool (decide (¬(0≤k∧k<x.2.1.length)))) (by unfold FQ;rw[decide_not]) (ae ?_));refine bQ rfl (fun c1=>?_) (fun c1=>?_)
 ·refine al (aj (ak rfl rfl (ae (aQ ?_))));exact aV rfl rfl ⟨by unfold Ap FQ;rw[if_neg (by simpa using c1)],rfl⟩
 ·refine aZ (al (aj (ah rfl rfl (bm rfl (ue (by assumption)) rfl ?_))));refine ay (M:=M) (A:=RT.li) (B:=(RT.bl).sl) du rfl rfl yO (by decide) (QC) rfl rfl (by decide) (by assumption) (by repeat (first|exact ao _ _|refine aU (br (by assumption)) ?_)) (fun Ke uU=>?_);refine bg (M:=M) dn rfl rfl rfl rfl rfl (by assumption) (by repeat (first|exact ao _ _|refine aU (br (by assumption)) ?_)) (fun N0 GR=>?_);refine ah rfl rfl ?_;obtain⟨b,hb⟩:∃b,x.2.1[k.toNat]? =some b:=⟨_,av (by omega)⟩;refine cu (M:=M) dn sd rfl rfl rfl (by assumption) (ao _ _) (by omega) (fun YF N1 GS Sr=>?_);obtain rfl:N1=b:=aN (GS.symm.trans hb);refine ay (M:=M) (A:=RT.bl) (B:=RT.int .i64) gL rfl rfl I3 (by decide) (bl2) rfl rfl (by decide) (by assumption) (by repeat (first|exact ao _ _|refine aU (br (by assumption)) ?_)) (fun ahP aem=>?_);refine cr (M:=M) az rfl rfl (by assumption) (by repeat (first|exact ao _ _|refine aU (br (by assumption)) ?_)) (fun aen=>?_);refine ak rfl rfl (ae (aQ ?_));exact aV rfl rfl ⟨by unfold Ap FQ;rw[if_pos (by simpa using c1),cZ,hb];rfl,rfl⟩
theorem GU {M:aL} {w0:World} {v:Value} {x:Li} (hv:cc RT.li M w0 v x) (hM:Lt M w0) (hm:∀b∈x.2.1,0≤b.2.2.2∧b.2.2.2≤8):
  Spec Tryz.prog 75 #[v] w0 (fun v' w'=>v'= .int .i64 (qo x.2.1)∧Step M w0 M w' aE):=by
 refine bu (args:=[_]) (fn:=Tryz.f75) Tryz.func75 rfl (n:=21) Tryz.ntmps75 (al (aj (ak rfl rfl (ae (al (aj (ak rfl rfl (ae (al (al (aj ?_)))))))))));refine ah rfl rfl (bm rfl (ue (by assumption)) rfl ?_);refine ay (M:=M) (A:=RT.li) (B:=(RT.bl).sl) du rfl rfl yO (by decide) (QC) rfl rfl (by decide) (by assumption) (by repeat (first|exact ao _ _|refine aU (br (by assumption)) ?_)) (fun Kf ju=>?_);refine bg (M:=M) dn rfl rfl rfl rfl rfl (by assumption) (ao _ _) (fun vb JF=>?_);have xk:=dK JF
 first|refine bK dn rfl (by assumption) rfl ?_|refine ik dn rfl (by assumption) rfl ?_
 refine ah rfl rfl (ae (bh ?_));refine dz (σ:=Nat) (fun s=>[(3,.int .i64 (qo (x.2.1.take s))),(9,vb),(10,.int .i64 x.2.1.length),(11,.int .i64 s)]) (fun s w=>s≤x.2.1.length∧Step M w0 M w aE) (fun s=>x.2.1.length-s) 0 (.cons rfl (.cons rfl (.cons rfl (.cons rfl .nil)))) ?_ ?_
 ·exact⟨bH _,ar _ _⟩
 ·rintro k w1 ⟨hk,S⟩;have YG:=S.lt hM;refine al (aj (cz rfl rfl rfl (ae (al ?_))));refine bQ rfl (fun c3=>?_) (fun c3=>?_)
  ·refine aZ (al (bh (al (aj ?_))));obtain⟨b,hb⟩:∃b,x.2.1[k]? =some b:=⟨_,av (by omega)⟩;have hbm:=hm b (aG hb);have pF:=J5 (x.2.1.take k) fun c hc=>hm c (mg hc)
   rw[bG,Nat.min_eq_left hk]at pF;refine cu (M:=M) dn sd rfl rfl rfl (JF.le S.le) (ao _ _) (by omega) (fun Kg N2 GV AG=>?_);obtain rfl:N2=b:=aN (GV.symm.trans (by simpa using hb));refine ch (M:=M) (A:=RT.bl) gL rfl sd (by decide) rfl rfl rfl (by assumption) (by repeat (first|exact ao _ _|refine aU (br (by assumption)) ?_)) (fun Kh DP=>?_);refine ug (A:=RT.bl) (M:=M) sd rfl rfl rfl rfl rfl (by assumption) (by repeat (first|exact ao _ _|refine aU (br (by assumption)) ?_)) (by first|assumption|exact Step.lt (by assumption) (by assumption)|exact Step.lt (by assumption) (Step.lt (by assumption) (by assumption))) (fun EI N4 jt pK Ss=>?_);refine ae (aj (ah rfl rfl ?_));refine ay (M:=M) (A:=RT.bl) (B:=RT.int .i64) gL rfl rfl I3 (by decide) (bl3) rfl rfl (by decide) (by assumption) (by repeat (first|exact ao _ _|refine aU (br (by assumption)) ?_)) (fun St GW=>?_);refine cr (M:=M) az rfl rfl (by assumption) (by repeat (first|exact ao _ _|refine aU (br (by assumption)) ?_)) (fun LY=>?_);refine bI rfl rfl rfl (by omega) (ak rfl rfl (ae (aj (bI rfl rfl rfl (by omega) (ah rfl rfl (ae ?_))))));refine⟨rfl,k+1,(.cons (by rw[EG hb];rfl) (.cons rfl (.cons rfl (.cons rfl .nil)))),?_,?_⟩
   ·exact⟨by omega,S.aB pK⟩
   ·show _-(k+1)<_-k;omega
  ·refine cY (al (aj (ah rfl rfl (ak rfl rfl (ae (aQ ?_))))));refine aV rfl rfl ⟨?_,S⟩;rw[a7 (by omega)]
theorem AH {M:aL} {w0:World} {v:Value} {b:List UInt8} (hM:Lt M w0) (hv:(RT.u8.sl).V M w0 b v):
  Spec Tryz.prog 187 #[v] w0 (fun v' w'=>(RT.u8.sl).V M w' b v'∧Step M w0 M w' aE):=by
 obtain⟨a,cap,mM,hc,hl,hs⟩:=ix.1 hv;refine bu (args:=[_]) (fn:=Tryz.f187) Tryz.func187 rfl (n:=8) Tryz.ntmps187 (al (aj (ak rfl rfl (ae (al (al (aj (ah rfl rfl (bO (v':= .slice a b.length cap) mM (Rg.qS bj rfl rfl rfl (ae ?_)))))))))));refine bQ rfl (fun c1=>?_) (fun c1=>?_)
 ·refine al (aj (ak rfl rfl (ae (aQ ?_))))
  have hb:b=[]:=by
   rcases hs with h|⟨_,_,h,_⟩
   ·exact h
   ·rw[c1]at h;cases h
  exact aV rfl rfl ⟨by rw[hb];exact iO,ar _ _⟩
 ·refine aZ (al (aj ?_));refine Rg.Rw bj I5 M rfl (fun a0 w1 s1=>?_);refine ah rfl rfl ?_;refine Rg.mF (A:=RT.u8) (hn:=by decide) (M:=M) bj I5 rfl rfl rfl rfl hv s1.le (s1.lt hM) (by omega) (fun u2 w2 jP s2=>?_);refine ak rfl rfl (ae (aQ ?_));exact aV rfl rfl ⟨jP,s1.aB s2⟩
theorem Cn {M:aL} {w0:World} {v:Value} {x:Li} (hv:cc RT.li M w0 v x) (hM:Lt M w0):
  Spec Tryz.prog 142 #[v] w0 (fun v' w'=>(RT.u8.sl).V M w' x.1 v'∧Step M w0 M w' aE):=by
 refine bu (args:=[_]) (fn:=Tryz.f142) Tryz.func142 rfl (n:=8) Tryz.ntmps142 (al (aj (ak rfl rfl (ae (al (aj (ah rfl rfl (bm rfl (ue (by assumption)) rfl ?_))))))));refine ay (M:=M) (A:=RT.li) (B:=RT.u8.sl) du rfl rfl yN (by decide) (li0) rfl rfl (by decide) (by assumption) (by repeat (first|exact ao _ _|refine aU (br (by assumption)) ?_)) (fun AF l6=>?_);refine bg (M:=M) bj rfl rfl rfl rfl rfl (by assumption) (by repeat (first|exact ao _ _|refine aU (br (by assumption)) ?_)) (fun GQ uT=>?_);refine aP rfl rfl XV (AH (M:=M) hM uT) (fun r w1 h1=>?_);obtain⟨hr,s1⟩:=h1;refine ak rfl rfl (ae (aQ ?_));exact aV rfl rfl ⟨hr,s1⟩
theorem Co {M:aL} {w0:World} {v:Value} {b:List UInt8} {at_ ahead:Int} (hM:Lt M w0) (hv:(RT.u8.sl).V M w0 b v) (QF: -9223372036854775808≤at_∧at_≤9223372036854775807) (hah: -9223372036854775808≤ahead∧ahead≤9223372036854775807) (xk:b.length≤1099511627776):
  Spec Tryz.prog 215 #[v,.int .i64 at_,.int .i64 ahead] w0 (fun v' w'=>∃p,v'= .tuple #[p,.int .i64 (pS b at_ ahead).2.1,.int .i64 (pS b at_ ahead).2.2]∧RT.po.V M w' (pS b at_ ahead).1 p∧Step M w0 M w' aE):=by
 refine bu (args:=[_,_,_]) (fn:=Tryz.f215) Tryz.func215 rfl (n:=38) Tryz.ntmps215 (al (aj ?_));refine eG M fv rfl (fun b0 w1 YH ahQ hB s1=>?_);have mI:=s1.lt hM;have tu:=hv.le s1.le;refine ak rfl rfl (ak rfl rfl (ae (al (aj (ah rfl rfl (ah rfl rfl ?_))))));refine aP rfl rfl RL (AD tu QF) (fun r w2 h2=>?_);obtain⟨rfl,rfl⟩:=h2;have uC:=xL b at_;obtain⟨YE,hn1,hn2,hn3⟩:=nj b at_;refine ah rfl rfl (bZ rfl rfl rfl (bZ rfl rfl rfl (bZ rfl rfl rfl (ak rfl rfl (ak rfl rfl (ak rfl rfl (ae (al (al (aj (ah rfl rfl ?_)))))))))));refine eS rfl rfl rfl (ae ?_);refine bQ rfl (fun c2=>?_) (fun c2=>?_)
 ·refine al (aj (eT (places:=[(0,1),(1,1)]) bA fv Gp rfl rfl (out:=[.int .i64 0,.slice none 0 0]) rfl (ah rfl rfl ?_)));refine eD (M:=ins M b0) fv rfl rfl (by intro u hu;simp at hu;rcases hu with rfl|rfl<;>rfl) rfl rfl hB (.inl rfl) (fun w3 hB3 s3=>?_);refine ak rfl rfl (ak rfl rfl (ae (aQ ?_)));have kd:=s1.size;have S:Step M w0 M w3 aE:=(s1.cW s3 (fun k hk=>by subst hk;omega)).back;refine Gk rfl rfl bA rfl fv rfl hB3 rfl rfl ⟨_,by unfold pS;rw[if_pos c2]<;>rfl,?_,S⟩;unfold pS;rw[if_pos c2];exact eC (gC (x:=0) (by omega)) iO rfl rfl rfl rfl
 ·refine aZ (al (aj (ah rfl rfl (ah rfl rfl ?_))));have hok:=sh (b:=b) (at_:=at_) (by omega);refine aP rfl rfl Yc (uQ (M:=ins M b0) mI tu (by omega) xk) (fun r w3 h3=>?_);obtain⟨x3,rfl,N5,s3⟩:=h3;refine ah rfl rfl (bZ rfl rfl rfl (bZ rfl rfl rfl (bZ rfl rfl rfl (ak rfl rfl (ak rfl rfl (ak rfl rfl (ae (al (aj (ah rfl rfl (Rg.yD rfl rfl rfl ?_)))))))))));refine ah rfl rfl (Rg.yD rfl rfl rfl (ah rfl rfl (eT (places:=[(0,1),(1,1)]) bA fv Gp rfl ⟨_,_,rfl,rfl,_,_,rfl,rfl,rfl⟩ (out:=[_,_]) ⟨0,[_],rfl,rfl,by simp[Value.cells],1,[_],rfl,fM N5,by simp[Value.cells],rfl⟩ (ah rfl rfl (ah rfl rfl ?_)))));obtain⟨vx,tT⟩:∃vx,vx=x3:=⟨_,rfl⟩;have rW:=jq N5 rfl rfl;refine eD (M:=ins M b0) fv rfl rfl (by intro u hu;simp at hu;rcases hu with rfl|rfl;rfl;exact rW) rfl rfl (s3.aM hB) (.inl rfl) (fun w4 WE s4=>?_);refine ak rfl rfl (ak rfl rfl (ae (aQ ?_)));have kd:=s1.size;have ahS:=s3.size;have S3:=s1.aB s3;have S:Step M w0 M w4 aE:=(S3.cW s4 (fun k hk=>by subst hk;omega)).back;refine Gk rfl rfl bA rfl fv rfl WE rfl rfl ⟨_,by unfold pS;rw[if_neg c2]<;>rfl,?_,S⟩;unfold pS;rw[if_neg c2];have hx4:=(N5.le s4.le).le (pD hM (S3.cW s4 (fun k hk=>by subst hk;omega)));exact eC (gC Gn) hx4 rfl rfl rfl rfl
theorem uV {M:aL} {w0:World} {v:Value} {l:List Po} {k:Int} (hM:Lt M w0) (hv:cc RT.li M w0 v (ir l)) (iV:ej (-1) l=true) (ox:∀p∈l,p.2.length≤1099511627776) (xk:(dA (-1) l).length≤1099511627776):
  Spec Tryz.prog 180 #[v,.int .i64 k] w0 (fun v' w'=>Step M w0 M w' aE∧((RT.po).sl).V M w' (if FQ ((l.length+7)/8) k then(l.drop (8*k.toNat)).take 8 else[]) v'):=by
 have Su:(ir l).2.1.length=(l.length+7)/8:=by simp[ir,kR]
 refine bu (args:=[_,_]) (fn:=Tryz.f180) Tryz.func180 rfl (n:=51) Tryz.ntmps180 (al (aj (ak rfl rfl (ae (al (al (aj (ah rfl rfl (ah rfl rfl ?_)))))))));refine aP rfl rfl RF (DO hv (k:=k)) (fun r w1 h1=>?_);obtain⟨rfl,rfl⟩:=h1;refine jN rfl rfl (bO (v':= .bool (decide (¬(0≤k∧k<(ir l).2.1.length)))) (by unfold FQ;rw[decide_not]) (ae ?_));refine bQ rfl (fun c1=>?_) (fun c1=>?_)
 ·refine al (aj (ak rfl rfl (ae (aQ ?_))));refine aV rfl rfl ⟨ar _ _,?_⟩;rw[if_neg (by unfold FQ;rw[Su]at c1;simpa using c1)];exact iO
 ·refine aZ (al (aj (ah rfl rfl (bm rfl (ue (by assumption)) rfl ?_))));refine ay (M:=M) (A:=RT.li) (B:=(RT.bl).sl) du rfl rfl yO (by decide) (QC) rfl rfl (by decide) (by assumption) (by repeat (first|exact ao _ _|refine aU (br (by assumption)) ?_)) (fun Ke uU=>?_);refine bg (M:=M) dn rfl rfl rfl rfl rfl (by assumption) (by repeat (first|exact ao _ _|refine aU (br (by assumption)) ?_)) (fun N0 GR=>?_);refine ah rfl rfl ?_;obtain⟨j,rfl⟩:∃j:Nat,k=j:=⟨k.toNat,by omega⟩;have hb:(ir l).2.1[j]? =some (oE l j):=by simp only[ir,kR,ff];rw[List.getElem?_range (by omega)];rfl
  refine cu (M:=M) dn sd rfl rfl rfl (by assumption) (ao _ _) (by omega) (fun YF N1 GS Sr=>?_);obtain rfl:N1=oE l j:=aN (GS.symm.trans (by simpa using hb));have LZ:(oE l j).2.2.2=(((l.drop (8*j)).take 8).length:Int):=rfl;have aeo:((l.drop (8*j)).take 8).length≤8:=by rw[bG];omega
  refine ch (M:=M) (A:=RT.bl) gL rfl sd (by decide) rfl rfl rfl (by assumption) (by repeat (first|exact ao _ _|refine aU (br (by assumption)) ?_)) (fun ahU aep=>?_);refine ug (A:=RT.bl) (M:=M) sd rfl rfl rfl rfl rfl (by assumption) (by repeat (first|exact ao _ _|refine aU (br (by assumption)) ?_)) (by first|assumption|exact Step.lt (by assumption) (by assumption)|exact Step.lt (by assumption) (Step.lt (by assumption) (by assumption))) (fun YI N6 aeq N7 ahV=>?_);refine ae (al (aj (ak rfl rfl (ae (al (al ?_))))));apply T.draw (M:=M) mixed [bW.ptr (RT.int .i64) (oE l j).1,bW.eq _,bW.ptr (RT.int .i64) (oE l j).2.1,bW.eq _,bW.eq _,bW.eq _]
  ·rfl
  ·refine aH ?_ ?_
   ·intro wD E sD;refine ay (M:=M) (A:=RT.bl) (B:=RT.int .i64) gL rfl rfl I3 (by decide) (bl0) rfl rfl (by decide) (by assumption) (by repeat (first|exact ao _ _|refine aU (br (by assumption)) ?_)) (fun Sd DN=>?_);exact ae ⟨rfl,rfl,_,rfl,by assumption,ar _ _⟩
   refine aH ?_ ?_
   ·intro wD E sD;intro v0 JB;refine cr (M:=M) az rfl rfl (by assumption) (by repeat (first|exact ao _ _|refine aU (br (by assumption)) ?_)) (fun L0=>?_);exact ae ⟨rfl,rfl,_,rfl,rfl,ar _ _⟩
   refine aH ?_ ?_
   ·intro wD E sD;refine ay (M:=M) (A:=RT.bl) (B:=RT.int .i64) gL rfl rfl I3 (by decide) (bl1) rfl rfl (by decide) (by assumption) (by repeat (first|exact ao _ _|refine aU (br (by assumption)) ?_)) (fun NO oJ=>?_);exact ae ⟨rfl,rfl,_,rfl,by assumption,ar _ _⟩
   refine aH ?_ ?_
   ·intro wD E sD;intro v2 nq;refine cr (M:=M) az rfl rfl (by assumption) (by repeat (first|exact ao _ _|refine aU (br (by assumption)) ?_)) (fun aer=>?_);exact ae ⟨rfl,rfl,_,rfl,rfl,ar _ _⟩
   refine aH ?_ ?_
   ·intro wD E sD;refine aA ?_;intro v0 JB;refine aA (ak rfl rfl ?_);exact ae ⟨rfl,rfl,_,rfl,rfl,ar _ _⟩
   refine aH ?_ ?_
   ·intro wD E sD;refine aA (aA ?_);intro v0 JB;refine aA ?_;intro v2 nq;refine aA (aA (ak rfl rfl ?_));exact ae ⟨rfl,rfl,_,rfl,rfl,ar _ _⟩
   exact rO
  ·intro L3 pL;intro ahW aes;refine aA ?_;intro YJ L4;refine aA (aA (aA (bh ?_)));have hz5:=N7.size;refine dz (σ:=Nat×Value) (fun s=>[(0,v),(5,YI),(6,s.2),(7,.int .i64 (dA (-1) (l.take (8*j+s.1))).length),(8,.int .i64 (cy (-1) (l.take (8*j+s.1))))]) (fun s w=>s.1≤((l.drop (8*j)).take 8).length∧∃M1,Lt M1 w∧Step M w0 M1 w aE∧Step M N6 M1 w aE∧Own RT.po 153 M1 w N6.heap.size s.2 (((l.drop (8*j)).take 8).take s.1)) (fun s=>((l.drop (8*j)).take 8).length-s.1) (0,_) (.cons rfl (.cons rfl (.cons rfl (.cons rfl (.cons rfl .nil))))) ?_ ?_
   ·exact⟨bH _,M,pL.lt (N7.lt hM),N7.aB pL,pL,dQ _ _ _ _ _⟩
   ·rintro⟨i,u0⟩ w1 ⟨hi,M1,mI,S,S5,ho⟩;dsimp only at hi ho ⊢;refine al (al (aj (ah rfl rfl (ik aK rfl ho rfl (bO (v':= .int .i64 i) (by rw[bG,Nat.min_eq_left hi]) ?_)))));refine ay (M:=M1) (A:=RT.bl) (B:=RT.int .i64) gL rfl rfl I3 (by decide) (bl3) rfl rfl (by decide) (by assumption) (by repeat (first|exact ao _ _|refine aU (br (by assumption)) ?_)) (fun J6 qW=>?_);refine cr (M:=M1) az rfl rfl qW (ao _ _) (fun RQ=>?_);refine bO (v':= .int .i64 ((l.drop (8*j)).take 8).length) rfl (cz rfl rfl rfl (ae ?_));refine bQ rfl (fun c6=>?_) (fun c6=>?_)
    ·refine aZ (bh (al (aj (ah rfl rfl (bm rfl (ue (by assumption)) rfl ?_)))));refine ay (M:=M1) (A:=RT.li) (B:=RT.u8.sl) du rfl rfl yN (by decide) (li0) rfl rfl (by decide) (by assumption) (by repeat (first|exact ao _ _|refine aU (br (by assumption)) ?_)) (fun NP nT=>?_);refine bg (M:=M1) bj rfl rfl rfl rfl rfl (by assumption) (by repeat (first|exact ao _ _|refine aU (br (by assumption)) ?_)) (fun Sv GX=>?_);refine ah rfl rfl (ah rfl rfl ?_);obtain⟨⟨d,ps⟩,hx⟩:∃x,l[8*j+i]? =some x:=⟨_,av (by rw[bG,dq]at c6;omega)⟩;obtain⟨f1,f2,f3,f4,f5,f6⟩:=mn iV hx;have Sw:pS (ir l).1 _ _=_:=Gt iV hx (ox _ (aG hx));have Ex:(dA (-1) (l.take (8*j+i))).length≤(dA (-1) l).length:=by rw[oF (l:=l) (i:=8*j+i) (-1)];simp
     refine aP rfl rfl X4 (Co (M:=M1) mI GX (by omega) (by omega) xk) (fun r7 w7 h7=>?_);obtain⟨p7,h7e,QH,s7⟩:=h7;rw[Sw]at h7e QH;subst h7e;change RT.po.V M1 w7 (d,ps) p7 at QH;replace S:=S.aB s7;replace S5:=S5.aB s7;replace ho:=ho.a8 s7;replace mI:=s7.lt mI;have hci:((l.drop (8*j)).take 8)[i]? =some (d,ps):=by rw[de,if_pos (by omega),oA];exact hx
     refine ah rfl rfl (bZ rfl rfl rfl (bZ rfl rfl rfl (bZ rfl rfl rfl ?_)));refine ug (A:=RT.po) (M:=M1) fv rfl rfl rfl rfl rfl (by assumption) (by repeat (first|exact ao _ _|refine aU (br (by assumption)) ?_)) (by first|assumption|exact Step.lt (by assumption) (by assumption)|exact Step.lt (by assumption) (Step.lt (by assumption) (by assumption))) (fun aev aew GY DQ aex=>?_);refine ak rfl rfl (ak rfl rfl (ae (al (aj (ah rfl rfl ?_)))));replace S:=S.aB DQ;replace S5:=S5.aB DQ;replace ho:=ho.a8 DQ;replace mI:=DQ.lt mI;clear QH;refine ch (M:=M1) (A:=RT.po) bA rfl fv (by decide) rfl rfl rfl GY (ao _ _) (fun v8 rK=>?_);refine eA (A:=RT.po) (hn:=by decide) (M:=M1) aK fv (by decide) rfl rfl mI rK (.inl rfl) (fun u2 w2 jP s2=>?_);refine cv (M:=M1) (base:=N6.heap.size) aK fv rfl rfl rfl rfl (ho.a8 s2) jP (ao _ _) (by simp;omega) (by simp;omega) (dT S5.size s2.size) (fun v3 M3 w3 so s3=>?_);replace S:=(S.aB s2).cF s3 (ho.a8 s2) hz5;have YK:=(GY.le (by decide) s2.le).le (by decide) s3.le;have N8:=s3.lt (s2.lt mI);replace S5:=(S5.aB s2).cF s3 (ho.a8 s2) (aT _);refine ak rfl rfl (ae ?_);apply T.draw (M:=M3) mixed [bW.eq _,bW.ptr (RT.int .i64) d,bW.eq _,bW.eq _,bW.eq _]
     ·rfl
     ·refine aH ?_ ?_
      ·intro wD E sD;refine ah rfl rfl ?_;exact ae ⟨rfl,rfl,_,rfl,rfl,ar _ _⟩
      refine aH ?_ ?_
      ·intro wD E sD;refine ay (M:=M3) (A:=RT.po) (B:=RT.int .i64) bA rfl rfl I3 (by decide) (Ao) rfl rfl (by decide) YK sD.le (fun YL GZ=>?_);exact ae ⟨rfl,rfl,_,rfl,GZ,ar _ _⟩
      refine aH ?_ ?_
      ·intro wD E sD;intro v1 tu;refine cr (M:=M3) az rfl rfl (by assumption) (by repeat (first|exact ao _ _|refine aU (br (by assumption)) ?_)) (fun aey=>?_);exact ae ⟨rfl,rfl,_,rfl,rfl,ar _ _⟩
      refine aH ?_ ?_
      ·intro wD E sD;refine aA (aA (ak rfl rfl ?_));exact ae ⟨rfl,rfl,_,rfl,rfl,ar _ _⟩
      refine aH ?_ ?_
      ·intro wD E sD;refine aA (aA (aA ?_));intro v1 tu;refine aA (aA (ak rfl rfl ?_));exact ae ⟨rfl,rfl,_,rfl,rfl,ar _ _⟩
      exact rO
     ·intro L5 yY;refine aA ?_;intro ahY aez;refine aA (aA (aA ?_));refine⟨rfl,(i+1,v3),(.cons rfl (.cons rfl (.cons rfl (.cons rfl (.cons (by rw[←f5];rfl) .nil))))),?_,?_⟩
      ·refine⟨by simp only;omega,M3,yY.lt N8,S.aB yY,S5.aB yY,?_⟩;simp only;obtain⟨WG,JG⟩:=aw.1 hci;rw[qb WG,JG];exact so.a8 yY
      ·simp only;omega
    ·refine cY (al (aj (ah rfl rfl (ak rfl rfl (ae (aQ ?_))))));refine aV rfl rfl ⟨S.back,?_⟩;rw[if_pos (by unfold FQ;rw[Su]at c1;simpa using c1),aC];rw[a7 (by omega)]at ho;exact il hM S (ho.mi hz5) (by omega)
end Go.K
namespace Go.K
section
variable {P:Program} {r:Option Nat} {n:Nat} {L:Sl} {ds:List Deferred} {w:World} {K:Kt} {ops:Array Oper} {rest:List Oper} {d:Nat} {x y:Operand} {ty:TypeId} {pos:String} {af:Array Edge}
theorem Rg.xW {t t' e:TypeId} {p:Option Addr} (ht:P.underlying t=some (.pointer e)) (hx:ev L x=some (.pointer p)) (hy:ev L y=some (.pointer none)) (hd:Nat.blt d n=true)
  (k:Rg P r n ops rest ((d,.bool (decide (p=none)))::L) ds w K):
  Rg P r n ops ({dst:=some d,op:= .binOp .eql t x y t',type:=ty,pos,after:=af,guard:=none}::rest) L ds w K:=
 .op (fun _ h=>by cases h) rfl rfl hd _ w (fun ρ h=>by
  have J1:P.underlying t=some (.pointer (P.pointee t)):=by simp[Program.pointee,ht]
  have he:=run_equal_pointer_nil (P:=P) w t p J1;simp only[execOp];rw[h x _ hx,h y _ hy]
  cases p<;>simp[eqGuard,binOp,run_underlying ht,he]) k
end
end Go.K
namespace Go.K
def idx:List Po→Int→Nat
 |[],_=>0
 |p::l,to=>if p.1<to then idx l to+1 else 0
theorem G0:∀(l:List Po) (to:Int),idx l to≤l.length
 |[],_=>aT _
 |p::l,to=>by
  have:=G0 l to;simp only[idx,dr];split<;>omega
theorem Cp:∀{l:List Po} {to:Int} {j:Nat} {p:Po},j<idx l to→l[j]? =some p→p.1<to
 |[],_,_,_,h,_=>by simp[idx]at h
 |q::l,to,j,p,h,hp=>by
  simp only[idx]at h
  split at h
  ·cases j with
   |zero=>simp at hp;subst hp;assumption
   |succ j=>exact Cp (l:=l) (j:=j) (by omega) (by simpa using hp)
  ·omega
theorem yZ:∀{l:List Po} {to:Int} {p:Po},l[idx l to]? =some p→to≤p.1
 |[],_,_,h=>by simp[idx]at h
 |q::l,to,p,h=>by
  simp only[idx]at h
  split at h
  ·exact yZ (by simpa using h)
  ·simp at h;subst h;omega
theorem DR:∀{l:List Po} {to:Int} {e:Nat} {p:Po},l[e]? =some p→to≤p.1→idx l to≤e
 |[],_,_,_,h,_=>by simp at h
 |q::l,to,e,p,h,hp=>by
  simp only[idx]
  split
  ·cases e with
   |zero=>simp at h;subst h;omega
   |succ e=>have:=DR (l:=l) (e:=e) (by simpa using h) hp;omega
  ·omega
theorem idx_eq {l:List Po} {to:Int} {i:Nat} (h1:∀j,j<i→∀p,l[j]? =some p→p.1<to) (h2:∀p,l[i]? =some p→to≤p.1) (h3:i≤l.length):idx l to=i:=by
 rcases lT (idx l to) i with h|h|h
 ·have hx:l[idx l to]? =some l[idx l to]:=av (by omega);have:=yZ hx;have:=h1 _ h _ hx;omega
 ·exact h
 ·have:=G0 l to;have hx:l[i]? =some l[i]:=av (by omega);have:=Cp h hx;have:=h2 _ hx;omega
def gv (l:List Po) (i:Int):Int:=if i<0 then-1 else match l[i.toNat]? with|some p=>p.1|none=>2147483648
def mN (l:List Po) (i:Int):List Int:=if i<0 then[]else match l[i.toNat]? with|some p=>p.2|none=>[]
def kE (l:List Po) (i:Int):List Po:=if i<0 then[]else(l.drop i.toNat).take (8-i.toNat%8)
def sr (l:List Po) (i to:Int):Int:=if to≤gv l i then i else idx l to
theorem um {l:List Po} {i:Nat} {d:Int} {ps:List Int} (hm:ej (-1) l=true) (h:l[i]? =some (d,ps)):0≤d∧d<2147483648:=by
 obtain⟨f1,f2,f3,f4,f5,f6⟩:=mn hm h;omega
theorem j1 {l:List Po} {i:Nat} {d:Int} {ps:List Int} (h:l[i]? =some (d,ps)):gv l (i:Int)=d:=by
 unfold gv;rw[if_neg (by omega),aC,h]
theorem EO {l:List Po} {i:Int} (h:i<0):gv l i= -1:=by unfold gv;rw[if_pos h]
theorem pq {l:List Po} {i:Int} (h:(l.length:Int)≤i):gv l i=2147483648:=by
 unfold gv;rw[if_neg (by omega),eM (by omega)]
theorem l7 (l:List Po) (i:Int):(i<0∧gv l i= -1∧mN l i=[])∨(∃j:Nat,∃d ps,i=j∧l[j]? =some (d,ps)∧gv l i=d∧mN l i=ps)∨((l.length:Int)≤i∧gv l i=2147483648∧mN l i=[]):=by
 by_cases h0:i<0
 ·exact .inl ⟨h0,EO h0,by unfold mN;rw[if_pos h0]⟩
 ·by_cases h1:(l.length:Int)≤i
  ·exact .inr (.inr ⟨h1,pq h1,by unfold mN;rw[if_neg h0,eM (by omega)]⟩)
  ·obtain⟨j,rfl⟩:∃j:Nat,i=j:=⟨i.toNat,by omega⟩;obtain⟨⟨d,ps⟩,hx⟩:∃x,l[j]? =some x:=⟨_,av (by omega)⟩;exact .inr (.inl ⟨j,d,ps,rfl,hx,j1 hx,by unfold mN;rw[if_neg h0,aC,hx]⟩)
theorem xX {l:List Po} (hm:ej (-1) l=true) (i:Int): -1≤gv l i∧gv l i≤2147483648:=by
 rcases l7 l i with⟨_,h,_⟩|⟨j,d,ps,rfl,hx,h,_⟩|⟨_,h,_⟩
 ·omega
 ·have:=um hm hx;omega
 ·omega
theorem xY {g:List Po} {i:Nat} {d:Int} {ps:List Int} (h:g[i]? =some (d,ps)) (last:Int):cy last (g.take (i+1))=d:=by
 obtain⟨h1,h2⟩:=aw.1 h;rw[qb h1,h2,xj];rfl
theorem y2 {l:List Po} (hm:ej (-1) l=true) {t s:Nat} {p:Po} (hp:l[t]? =some p) (Cl:t<s):p.1≤cy (-1) (l.take s):=by
 obtain⟨d,ps⟩:=p;rw[←xY hp (-1)];exact oH l (-1) (t+1) s hm (by decide) Cl
theorem DS {l:List Po} (hm:ej (-1) l=true) {t s:Nat} {p q:Po} (hp:l[t]? =some p) (hq:l[s]? =some q) (Cl:t<s):p.1<q.1:=by
 obtain⟨e,qs⟩:=q;have h1:=y2 hm hp Cl;have h2:=(mn hm hq).1;omega
theorem xZ {l lf:List Po} (hm:ej (-1) l=true) {s k:Nat} {to:Int} (h1:8*k≤s) (h2:s<8*k+8) (hs:s<l.length) (EP:cy (-1) (l.take s)<to) (Cq:to≤cy (-1) (l.take (8*k+8)))
  (N9:lf=(l.drop s).take (8*k+8-s)):idx l to=s+idx lf to∧idx lf to<lf.length∧idx l to<l.length∧idx l to/8=k∧lf.drop (idx lf to)=kE l (idx l to:Nat):=by
 have JH:s≤idx l to:=by
  rcases db (idx l to) s with h|h
  ·have hx:l[idx l to]? =some l[idx l to]:=av (by omega);have:=yZ hx;have:=y2 hm hx h;omega
  ·exact h
 obtain⟨⟨d,ps⟩,he⟩:∃x,l[min (8*k+8) l.length-1]? =some x:=⟨_,av (by omega)⟩
 have hde:cy (-1) (l.take (8*k+8))=d:=by
  rw[←xY he (-1),show l.take (8*k+8)=l.take (min (8*k+8) l.length-1+1)from by rw[List.take_eq_take_iff];omega]
 have tp:=DR he (to:=to) (by simp only;omega);have Gf:lf.length=min (8*k+8-s) (l.length-s):=by rw[N9,bG,dq]
 have gT:∀t,t<lf.length→lf[t]? =l[s+t]? :=fun t ht=>by rw[N9,de,if_pos (by omega),oA]
 have WC:idx lf to=idx l to-s:=by
  refine idx_eq (fun j hj p hp=>?_) (fun p hp=>?_) (by omega)
  ·have qG:=(aw.1 hp).1;rw[gT j qG]at hp;exact Cp (by omega) hp
  ·have qG:=(aw.1 hp).1;rw[gT _ qG,show s+(idx l to-s)=idx l to from by omega]at hp;exact yZ hp
 refine⟨by omega,by omega,by omega,by omega,?_⟩;unfold kE;rw[if_neg (by omega),aC,WC,N9,List.drop_take,List.drop_drop,show s+(idx l to-s)=idx l to from by omega,List.take_eq_take_iff,dq];omega
theorem Ki {l:List Po} (hm:ej (-1) l=true) {to:Int} {n:Nat} (hn:l.length≤n) (EP:cy (-1) (l.take n)<to):idx l to=l.length:=by
 refine idx_eq (fun j hj p hp=>?_) (fun p hp=>?_) (aT _)
 ·have:=y2 hm hp (s:=n) (by omega);omega
 ·simp at hp
theorem ER {l:List Po} (hm:ej (-1) l=true) {i k to:Int} (hi: -1≤i∧i≤l.length) (hk: -1≤k∧k<((l.length+7)/8:Nat)) (Sx:i<0→k= -1) (rJ:0≤i→i<l.length→k=i/8) (Sb:gv l i<to):
  cy (-1) (l.take (8*(max k 0).toNat))<to:=by
 rcases l7 l i with⟨h0,h,_⟩|⟨j,d,ps,rfl,hx,h,_⟩|⟨h0,h,_⟩
 ·rw[Sx h0];simp only[show(max (-1:Int) 0).toNat=0 from by decide,Nat.mul_zero,List.take_zero,cy];omega
 ·have hj:=(aw.1 hx).1;have J8:=rJ (by omega) (by omega);have h2:=(mn hm hx).1;have h3:=oH l (-1) (8*(max k 0).toNat) j hm (by decide) (by omega);omega
 ·have:=(jf l (-1) hm (by decide) (8*(max k 0).toNat)).2;omega
def Cu (T:TypeId) (l:List Po) (i:Int) (M:aL) (w:World) (bc:Nat):Prop:=
 ∃(p u:Value) (k ES:Int),M bc∧w.heap[bc]? =some (.cells #[p,.int .i64 k,u,.int .i64 (gv l i),.int .i64 ES] T (0,0))∧cc RT.li M w p (ir l)∧((RT.po).sl).V M w (kE l i) u∧
  (-1≤i∧i≤l.length)∧(-1≤k∧k<((l.length+7)/8:Nat))∧(i<0→k= -1)∧(0≤i→i<l.length→k=i/8)
theorem Cu.step {T:TypeId} {l:List Po} {i:Int} {M M' N:aL} {w w':World} {bc:Nat} (h:Cu T l i M w bc) (s:Step M w M' w' N) (hn: ¬N bc):Cu T l i M' w' bc:=by
 obtain⟨p,u,k,ES,h1,h2,h3,h4,h5⟩:=h;exact⟨p,u,k,ES,(s.mem bc (an h2)).2 h1,s.bS h2 hn,h3.le (by decide) s.le,h4.le s.le,h5⟩
theorem Cu.mem {T:TypeId} {l:List Po} {i:Int} {M:aL} {w:World} {bc:Nat} (h:Cu T l i M w bc):M bc:=by
 obtain⟨p,u,k,ES,h1,_⟩:=h;exact h1
theorem Oa {M:aL} {w:World} {d:Int} {ps:List Int} {v:Value} (h:RT.po.V M w (d,ps) v):∃u,v= .agg #[.int .i64 d,u]∧u.oneCell'=true∧(-9223372036854775808≤d∧d≤9223372036854775807):=by
 obtain⟨vs,⟨va,vb,rfl,⟨rfl,hd⟩,hb⟩,rfl⟩:=h;obtain⟨a,cap,rfl,_⟩:=hb;exact⟨_,rfl,rfl,hd⟩
end Go.K
namespace Go.K
section
variable {P:Program} {r:Option Nat} {n:Nat} {L:Sl} {ds:List Deferred} {w:World}
theorem su {fn:Func} {Q:Value→World→Prop} {c t b:Nat} {vs:List Value} {fs:TypeDesc} {e:TypeId} {fr:Nat×Nat} {zv:Value} {size bytes:Nat} (hr:fn.results= #[.cell c t]) (hc:lk L c=some (.pointer (some ⟨b,0,none⟩))) (hu:P.underlying t=some fs) (hf:fs.isRow=true) (hi:TI P t zv size bytes) (hl:vs.length=size)
  (hb:w.heap[b]? =some (.cells vs.toArray e fr)) (h:Q (.agg vs.toArray) w):xf P fn Q .ret L [] w:=
 ⟨rfl,fun a ha=>⟨_,by
  obtain⟨i,wZ,_,zN,_⟩:=hi.get;have Gl:w.rangeAt b 0 vs:=fun j v hj=>iJ hb (by simpa using hj)
  have:=run_loadVar_mid (P:=P) w b 0 t vs fs Gl hu hf (by simp[wZ,zN,hl]);simp[results,hr,ha _ _ hc,asAddr,this,bL],h⟩⟩
end
end Go.K
namespace Go.K
section
variable {P:Program} {r:Option Nat} {n:Nat} {L:Sl} {ds:List Deferred} {w:World} {K:Kt} {ops:Array Oper} {rest:List Oper} {d:Nat} {x:Operand} {ty:TypeId} {pos:String} {af:Array Edge}
theorem Rg.G1 {t e:TypeId} {a:Option Addr} {l c:Nat} (ht:P.underlying t=some (.slice e)) (hx:ev L x=some (.slice a l c)) (hd:Nat.blt d n=true)
  (k:Rg P r n ops rest ((d,.int .i64 (l:Int))::L) ds w K):
  Rg P r n ops ({dst:=some d,op:= .call {callee:= .builtin .len,args:= #[x],argTypes:= #[t]},type:=ty,pos,after:=af,guard:=none}::rest) L ds w K:=by
 refine .op (fun _ h=>by cases h) rfl rfl hd _ w (fun ρ h=>?_) k;simp[execOp,resolve,invoke,builtin,h x _ hx,Builtin.len_,run_underlying ht,goInt]
end
end Go.K
namespace Go.K
open Go.RowKit (Below)
open Go.Maps (Keyed)
open Go.ChangeMaps (putKey delKey notKey)
abbrev DU:=DataW Unit
structure Ob (P:Program) (k:TypeId) (R:Value→Option (DU×List MemPlace)) (M:aL) (w:World) (b:Nat) (m:List (Lit×DU)):Prop where
 mut_:M b
 own:w.ownsMap P k R b m.length (.map m)
section
variable {P:Program} {r:Option Nat} {n:Nat} {L:Sl} {ds:List Deferred} {w:World} {K:Kt} {ops:Array Oper} {rest:List Oper} {d:Nat} {x y z:Operand} {ty:TypeId} {pos:String} {af:Array Edge}
variable {kt:TypeId} {R:Value→Option (DU×List MemPlace)} {M:aL} {b:Nat} {m:List (Lit×DU)}
theorem Step.uW {w w':World} (h:Below w.heap.size w w') (M:aL):Step M w M w' aE:=
 ⟨fun h0 b hb=>Nat.lt_of_lt_of_le (h0 b hb) h.size,h.os,h.tape,h.output,h.size,fun _ _=>Iff.rfl,fun b hb _=>h.block b hb,fun _ h=>h.elim⟩
end
end Go.K
namespace Go.K
def allM:aL:=fun _=>True
theorem Step.all {M M' N:aL} {w w':World} (s:Step M w M' w' N):Step allM w allM w' N:=⟨fun h=>absurd (h w.heap.size trivial) (od _),s.os,s.tape,s.output,s.size,fun _ _=>Iff.rfl,s.same,fun _ _=>trivial⟩
theorem Step.toAny {M M':aL} {w w':World} (s:Step M w M' w' aE) (M1:aL):Step M1 w M1 w' aE:=s.any M1
theorem fu.int {κ:IntKind} {M M':aL} {w w':World}:∀{xs:List Int} {C:List Value},fu (RT.int κ) M w xs C→fu (RT.int κ) M' w' xs C
 |[],_,h=>h
 |x::xs,C,h=>by
  obtain⟨vs,r,h1,h2,h3⟩:=h;exact⟨vs,r,h1,h2,fu.int h3⟩
theorem Own.Kj {κ:IntKind} {e:TypeId} {M:aL} {w:World} {base:Nat} {v:Value} {xs:List Int} (h:Own (RT.int κ) e M w base v xs) {M':aL} (hm:∀b,v.ownBlock=some b→M' b):Own (RT.int κ) e M' w base v xs:=by
 obtain⟨⟨C,h1,h2⟩,_⟩:=h;exact⟨⟨C,h1,fu.int h2⟩,hm⟩
theorem Own.Sy {κ:IntKind} {e:TypeId} {N:aL} {w w':World} {base:Nat} {v:Value} {xs:List Int} (h:Own (RT.int κ) e allM w base v xs) (s:Step allM w allM w' N) (hn:∀b,v.ownBlock=some b→¬N b):Own (RT.int κ) e allM w' base v xs:=by
 obtain⟨⟨C,h1,h2⟩,_⟩:=h;refine⟨⟨C,⟨h1.1,?_⟩,fu.int h2⟩,fun _ _=>trivial⟩;rcases h1.2 with h3|⟨g,cap,cur,h3,h4,h5,h6,h7,h8⟩
 ·exact .inl h3
 ·exact .inr ⟨g,cap,cur,h3,h4,by rw[s.same g (an h5) (hn g (by rw[h3];rfl))];exact h5,h6,h7,h8⟩
def pM (v:Value):aL:=fun b=>v.ownBlock=some b
theorem Own.lone {κ:IntKind} {e:TypeId} {M:aL} {w:World} {base:Nat} {v:Value} {xs:List Int} (h:Own (RT.int κ) e M w base v xs):Own (RT.int κ) e (pM v) w base v xs:=h.Kj fun _ h=>h
end Go.K
namespace Go.K
def AI (at':Nat→Nat) (cont:Nat→Bool):Nat×Nat:=
 if at' 0<0x80 then(at' 0,1)
 else if at' 0/32==6&&cont 1 then
  if(at' 0%32)*64+at' 1%64≥0x80 then((at' 0%32)*64+at' 1%64,2)else(65533,1)
 else if at' 0/16==14&&cont 1&&cont 2 then
  if(at' 0%16)*4096+(at' 1%64)*64+at' 2%64≥0x800&&Utf8.valid ((at' 0%16)*4096+(at' 1%64)*64+at' 2%64:Nat)then((at' 0%16)*4096+(at' 1%64)*64+at' 2%64,3)else(65533,1)
 else if at' 0/8==30&&cont 1&&cont 2&&cont 3 then
  if(at' 0%8)*262144+(at' 1%64)*4096+(at' 2%64)*64+at' 3%64≥0x10000&&Utf8.valid ((at' 0%8)*262144+(at' 1%64)*4096+(at' 2%64)*64+at' 3%64:Nat)then((at' 0%8)*262144+(at' 1%64)*4096+(at' 2%64)*64+at' 3%64,4)else(65533,1)
 else(65533,1)
theorem ET (s:ByteArray) (i:Nat):Utf8.decode s i=AI (fun k=>(s.get! (i+k)).toNat) (fun k=>decide (i+k<s.size)&&(s.get! (i+k)).toNat/64==2):=rfl
def jE (l:List UInt8) (k:Nat):Nat:=(l.getD k 0).toNat
def jv (l:List UInt8) (k:Nat):Bool:=decide (k<l.length)&&jE l k/64==2
def dec (l:List UInt8):Nat×Nat:=AI (jE l) (jv l)
theorem EU (l:List UInt8) (j:Nat):(⟨l.toArray⟩:ByteArray).get! j=l.getD j 0:=by
 show l.toArray[j]! =_;rw[cZ,getElem!_def];simp only[eL]
 cases l[j]? <;>rfl
theorem Cr (l:List UInt8) (pos:Nat):Utf8.decode ⟨l.toArray⟩ pos=dec (l.drop pos):=by
 rw[ET,dec]
 have h1:(fun k=>((⟨l.toArray⟩:ByteArray).get! (pos+k)).toNat)=jE (l.drop pos):=by
  funext k;rw[EU,jE,cZ,cZ,oA]
 have h2:(fun k=>decide (pos+k<(⟨l.toArray⟩:ByteArray).size)&&((⟨l.toArray⟩:ByteArray).get! (pos+k)).toNat/64==2)=jv (l.drop pos):=by
  funext k;have:=congrFun h1 k;rw[this,jv,dq];congr 1;have hs:(⟨l.toArray⟩:ByteArray).size=l.length:=by simp[ByteArray.size]
  rw[hs];exact decide_eq_decide.2 (by omega)
 rw[h1,h2]
theorem uY {l:List UInt8} {k:Nat} (h:jv l k=true):k<l.length:=by
 simp only[jv,bT,decide_eq_true_eq]at h;exact h.1
theorem kZ {l:List UInt8} (hl:l≠[]):1≤(dec l).2∧(dec l).2≤l.length:=by
 have h0:0<l.length:=ij.2 hl;unfold dec AI
 split
 ·exact⟨aT _,h0⟩
 ·split
  ·rename_i h
   simp only[bT]at h;have:=uY h.2
   split<;>(simp only;omega)
  ·split
   ·rename_i h
    simp only[bT]at h;have:=uY h.2
    split<;>(simp only;omega)
   ·split
    ·rename_i h
     simp only[bT]at h;have:=uY h.2
     split<;>(simp only;omega)
    ·exact⟨aT _,h0⟩
theorem nv (l:List UInt8) (k:Nat):jE l k<256:=by unfold jE;exact UInt8.toNat_lt _
theorem sw (l:List UInt8):(dec l).1≤1114111:=by
 unfold dec AI
 split
 ·simp only;omega
 ·split
  ·have:=nv l 0
   split<;>(simp only;omega)
  ·split
   ·have:=nv l 0
    split<;>(simp only;omega)
   ·split
    ·split
     ·rename_i h
      simp only[bT,Utf8.valid,jl,decide_eq_true_eq]at h;simp only;omega
     ·simp only;omega
    ·simp only;omega
def eR (l:List UInt8):List Int:=match l with
 |[]=>[]
 |c::r=>((dec (c::r)).1:Int)::eR ((c::r).drop (dec (c::r)).2)
termination_by l.length
decreasing_by
 have:=(kZ (l:=c::r) (by simp)).1;simp only[dq,dr];omega
theorem pv:eR []=[]:=by unfold eR;rfl
theorem nw {l:List UInt8} (h:l≠[]):eR l=((dec l).1:Int)::eR (l.drop (dec l).2):=by
 cases l with
 |nil=>exact absurd rfl h
 |cons c r=>rw[eR]
theorem hU (l:List UInt8):(eR l).length≤l.length:=by
 induction hn:l.length using Nat.strongRecOn generalizing l with
 |_ n ih=>
  by_cases h:l=[]
  ·subst h;rw[pv];simp
  ·rw[nw h,dr];have hw:=kZ h;have:=ih _ (by rw[dq];omega) (l.drop (dec l).2) rfl;rw[dq]at this;omega
section
variable {P:Program} {r:Option Nat} {n:Nat} {L:Sl} {ds:List Deferred} {w:World} {K:Kt} {ops:Array Oper} {rest:List Oper} {d:Nat} {x:Operand} {ty:TypeId} {pos:String} {af:Array Edge}
theorem Rg.G2 {t:TypeId} {l:List UInt8} (M:aL) (ht:P.underlying t=some .string) (hx:ev L x=some (.string ⟨l.toArray⟩)) (hd:Nat.blt d n=true)
  (k:∀b w',w.heap.size≤b→b<w'.heap.size→w'.heap[b]? =some (.stringIter ⟨l.toArray⟩ 0)→Step M w (ins M b) w' aE→Rg P r n ops rest ((d,.pointer (some ⟨b,0,none⟩))::L) ds w' K):
  Rg P r n ops ({dst:=some d,op:= .range t x,type:=ty,pos,after:=af,guard:=none}::rest) L ds w K:=by
 refine .op (fun _ h=>by cases h) rfl rfl hd (.pointer (some ⟨w.heap.size,0,none⟩)) (w.alloc (.stringIter ⟨l.toArray⟩ 0)) (fun ρ hρ=>?_) (k w.heap.size _ (aT _) (by simp) (cJ w _) ((dv M w _).own (aT _) (by simp)));simp only[execOp,hρ x _ hx];simp[Instr.range,bL,run_underlying ht,newObj,Sem.run]
theorem iB (M:aL) {b:Nat} {o:Obj} (hm:M b):Step M w M {w with heap:=w.heap.setIfInBounds b o} (fun k=>k=b):=
 ⟨fun h b hb=>by simpa using h b hb,rfl,rfl,rfl,by simp,fun _ _=>Iff.rfl,fun k _ hn=>by simp[bV,Ne.symm hn],fun k hk=>by subst hk;exact hm⟩
theorem oL {b p:Nat} {s:ByteArray} (hb:w.heap[b]? =some (.stringIter s p)):(getObj b).run P w= .ok (.stringIter s p) w:=by simp[getObj,Sem.run,hb]
theorem Rg.Kl {l:List UInt8} {b p:Nat} {M:aL} (hx:ev L x=some (.pointer (some ⟨b,0,none⟩))) (hb:w.heap[b]? =some (.stringIter ⟨l.toArray⟩ p)) (hm:M b) (hd:Nat.blt d n=true)
  (k1:p<l.length→∀w',w'.heap[b]? =some (.stringIter ⟨l.toArray⟩ (p+(dec (l.drop p)).2))→Step M w M w' (fun k=>k=b)→Rg P r n ops rest ((d,.tuple #[.bool true,.int .i64 p,.int .i32 ((dec (l.drop p)).1:Nat)])::L) ds w' K)
  (k2: ¬p<l.length→Rg P r n ops rest ((d,.tuple #[.bool false])::L) ds w K):
  Rg P r n ops ({dst:=some d,op:= .next x true,type:=ty,pos,after:=af,guard:=none}::rest) L ds w K:=by
 have hs:(⟨l.toArray⟩:ByteArray).size=l.length:=by simp[ByteArray.size]
 have dW:=an hb;by_cases h:p<l.length
 ·have key:=k1 h {w with heap:=w.heap.setIfInBounds b (.stringIter ⟨l.toArray⟩ (p+(dec (l.drop p)).2))} (by simp[bV,dW]) (iB M hm);refine .op (fun _ h=>by cases h) rfl rfl hd _ _ (fun ρ hρ=>?_) key;simp only[execOp,hρ x _ hx,Instr.next,bL,oL hb,cA];rw[if_pos (by rw[hs];exact h)];simp[Cr,setObj,Sem.run,goInt,hb]
 ·refine .op (fun _ h=>by cases h) rfl rfl hd _ w (fun ρ hρ=>?_) (k2 h);simp only[execOp,hρ x _ hx,Instr.next,bL,oL hb,cA];rw[if_neg (by rw[hs];exact h)];simp
theorem Rg.DT {t:TypeId} {i:Operand} {l:List UInt8} {κ:IntKind} {j:Int} {c:UInt8} (ht:P.underlying t=some .string) (hx:ev L x=some (.string ⟨l.toArray⟩)) (hi:ev L i=some (.int κ j)) (hd:Nat.blt d n=true) (hj:0≤j) (hc:l[j.toNat]? =some c)
  (k:Rg P r n ops rest ((d,.int .u8 (c.toNat:Int))::L) ds w K):
  Rg P r n ops ({dst:=some d,op:= .index t x i,type:=ty,pos,after:=af,guard:=none}::rest) L ds w K:=by
 have dW:=(aw.1 hc).1;have hs:(⟨l.toArray⟩:ByteArray).size=l.length:=by simp[ByteArray.size]
 have hg:(⟨l.toArray⟩:ByteArray)[j.toNat]? =some c:=by
  rw[getElem?_pos _ _ (by rw[hs];exact dW)];congr 1;have:=(aw.1 hc).2;rw[←this];rfl
 refine .op (fun _ h=>by cases h) rfl rfl hd _ w (fun ρ hρ=>?_) k;simp only[execOp,hρ x _ hx,hρ i _ hi,Instr.index,bL,asIntOf,dS,cA,run_underlying ht];simp[hj,hg]
theorem pU (l:List UInt8) (a b:Nat):(⟨l.toArray⟩:ByteArray).extract a b=⟨((l.take b).drop a).toArray⟩:=by
 have:((⟨l.toArray⟩:ByteArray).extract a b).data=((l.take b).drop a).toArray:=by
  rw[ByteArray.data_extract];apply Array.toList_inj.1;rw[Array.toList_extract,List.extract_eq_take_drop,List.drop_take]
 exact congrArg ByteArray.mk this
theorem Rg.Km {t:TypeId} {i:Operand} {l:List UInt8} {κ:IntKind} {j:Int} (ht:P.underlying t=some .string) (hx:ev L x=some (.string ⟨l.toArray⟩)) (hi:ev L i=some (.int κ j)) (hd:Nat.blt d n=true) (hj:0≤j∧j≤l.length)
  (k:Rg P r n ops rest ((d,.string ⟨(l.drop j.toNat).toArray⟩)::L) ds w K):
  Rg P r n ops ({dst:=some d,op:= .slice t x (some i) none none,type:=ty,pos,after:=af,guard:=none}::rest) L ds w K:=by
 have hs:(⟨l.toArray⟩:ByteArray).size=l.length:=by simp[ByteArray.size]
 refine .op (fun _ h=>by cases h) rfl rfl hd _ w (fun ρ hρ=>?_) k;simp only[execOp,hρ x _ hx,dx,ia,hρ i _ hi];rw[bL,run_sliceAt_string _ _ _ _ _ _ ht,run_slice_string_l _ _ _ ht _ _ hj.1 (by rw[hs];exact hj.2),pU,hs,rQ];simp
theorem Rg.L6 {t:TypeId} {i:Operand} {l:List UInt8} {κ:IntKind} {j:Int} (ht:P.underlying t=some .string) (hx:ev L x=some (.string ⟨l.toArray⟩)) (hi:ev L i=some (.int κ j)) (hd:Nat.blt d n=true) (hj:0≤j∧j≤l.length)
  (k:Rg P r n ops rest ((d,.string ⟨(l.take j.toNat).toArray⟩)::L) ds w K):
  Rg P r n ops ({dst:=some d,op:= .slice t x none (some i) none,type:=ty,pos,after:=af,guard:=none}::rest) L ds w K:=by
 have hs:(⟨l.toArray⟩:ByteArray).size=l.length:=by simp[ByteArray.size]
 refine .op (fun _ h=>by cases h) rfl rfl hd _ w (fun ρ hρ=>?_) k;simp only[execOp,hρ x _ hx,dx,ia,hρ i _ hi];rw[bL,run_sliceAt_string _ _ _ _ _ _ ht,run_slice_string_h _ _ _ ht _ _ hj.1 (by rw[hs];exact hj.2),pU,List.drop_zero];simp
end
theorem Own.dZ {α:Type} {A:RT α} {e:TypeId} {M:aL} {w:World} {base b p:Nat} {s:ByteArray} {v:Value} {xs:List α} (h:Own A e M w base v xs) (hb:w.heap[b]? =some (.stringIter s p)):v.ownBlock≠some b:=fun hv=>by
 obtain⟨⟨C,h1,_⟩,_⟩:=h;rcases h1.2 with⟨h2,_⟩|⟨g,cap,cur,h2,_,h3,_⟩
 ·rw[h2]at hv;cases hv
 ·rw[h2]at hv;cases hv;rw[h3]at hb;cases hb
theorem Own.iW {α β:Type} {A:RT α} {B:RT β} {e e':TypeId} {M M':aL} {w:World} {base DG:Nat} {v u:Value} {xs:List α} {ys:List β} (h:Own A e M w base v xs) (h':Own B e' M' w DG u ys) (ht:e≠e') {b:Nat} (hb:v.ownBlock=some b):u.ownBlock≠some b:=fun hu=>by
 obtain⟨⟨C,h1,_⟩,_⟩:=h;obtain⟨⟨C',Gm,_⟩,_⟩:=h';rcases h1.2 with⟨h2,_⟩|⟨g,cap,cur,h2,_,h3,_⟩
 ·rw[h2]at hb;cases hb
 ·rcases Gm.2 with⟨yH,_⟩|⟨g',Ri,Rj,yH,_,h3',_⟩
  ·rw[yH]at hu;cases hu
  ·rw[h2]at hb;rw[yH]at hu;cases hb;cases hu;rw[h3]at h3';cases h3';exact ht rfl
theorem Own.eW {α:Type} {A:RT α} {e t:TypeId} {M:aL} {w:World} {base b:Nat} {v:Value} {xs:List α} {cs:Array Value} {fr:Nat×Nat} (h:Own A e M w base v xs) (hb:w.heap[b]? =some (.cells cs t fr)) (ht:t≠e):v.ownBlock≠some b:=fun hv=>by
 obtain⟨⟨C,h1,_⟩,_⟩:=h;rcases h1.2 with⟨h2,_⟩|⟨g,cap,cur,h2,_,h3,_⟩
 ·rw[h2]at hv;cases hv
 ·rw[h2]at hv;cases hv;rw[h3]at hb;cases hb;exact ht rfl
end Go.K
namespace Go.K
open Go.Proofs
set_option maxRecDepth 10000
def fh (c:Int):Bool:=decide ((97≤c∧c≤122)∨(65≤c∧c≤90)∨(192≤c∧c≤591∧c≠215∧c≠247))
def ny (c:Int):Bool:=decide (48≤c∧c≤57)
def fm (c:Int):Int:=if(65≤c∧c≤90)∨(192≤c∧c≤222∧c≠215)then c+32 else c
theorem AJ (c:Int) (w0:World):
  Spec Tryz.prog 221 #[.int .i64 c] w0 (fun v w=>v= .bool (fh c)∧w=w0):=by
 refine bu (args:=[_]) (fn:=Tryz.f221) Tryz.func221 rfl (n:=33) Tryz.ntmps221 (al (aj (ak rfl rfl (ae (al (aj (ah rfl rfl (ek rfl rfl rfl (ah rfl rfl ?_)))))))));refine aR (g:=5) rfl (fun ib=>?_) (fun ib=>?_)
 ·refine aq rfl rfl (ah rfl rfl (aq rfl rfl (fq rfl rfl rfl (aW rfl rfl rfl (ah rfl rfl ?_)))));refine aR (g:=9) rfl (fun y3=>?_) (fun y3=>?_)
  ·refine au rfl rfl rfl rfl (au rfl rfl rfl rfl (au rfl rfl rfl rfl (cH rfl rfl rfl (cH rfl rfl rfl (au rfl rfl rfl rfl (aW rfl rfl rfl (ah rfl rfl (au rfl rfl rfl rfl (au rfl rfl rfl rfl (au rfl rfl rfl rfl (cH rfl rfl rfl ?_)))))))))));refine cH rfl rfl rfl (au rfl rfl rfl rfl (au rfl rfl rfl rfl (cH rfl rfl rfl (cH rfl rfl rfl (au rfl rfl rfl rfl (au rfl rfl rfl rfl (cH rfl rfl rfl (cH rfl rfl rfl (au rfl rfl rfl rfl (aW rfl rfl rfl (ak rfl rfl ?_)))))))))));refine ae (aQ ?_);exact aV rfl rfl ⟨by simp only[fh];first|rfl|(congr 1;first|(exact(decide_eq_true (by omega)).symm)|(exact(decide_eq_false (by omega)).symm)|(exact decide_eq_decide.2 (by omega))),rfl⟩
  ·refine aq rfl rfl (ah rfl rfl (aq rfl rfl (ek rfl rfl rfl (aq rfl rfl (ah rfl rfl ?_)))));refine aR (g:=12) rfl (fun qt=>?_) (fun qt=>?_)
   ·refine aq rfl rfl (ah rfl rfl (aq rfl rfl (fq rfl rfl rfl (aq rfl rfl (aW rfl rfl rfl (aJ rfl rfl rfl (ah rfl rfl ?_)))))));refine aR (g:=17) rfl (fun uZ=>?_) (fun uZ=>?_)
    ·refine au rfl rfl rfl rfl (au rfl rfl rfl rfl (au rfl rfl rfl rfl (cH rfl rfl rfl (cH rfl rfl rfl (au rfl rfl rfl rfl (au rfl rfl rfl rfl (cH rfl rfl rfl (cH rfl rfl rfl (au rfl rfl rfl rfl (au rfl rfl rfl rfl (cH rfl rfl rfl ?_)))))))))));refine cH rfl rfl rfl (au rfl rfl rfl rfl (aW rfl rfl rfl (ak rfl rfl (ae (aQ ?_)))));exact aV rfl rfl ⟨by simp only[fh];first|rfl|(congr 1;first|(exact(decide_eq_true (by omega)).symm)|(exact(decide_eq_false (by omega)).symm)|(exact decide_eq_decide.2 (by omega))),rfl⟩
    ·refine aq rfl rfl (ah rfl rfl (aq rfl rfl (ek rfl rfl rfl (aq rfl rfl (ah rfl rfl ?_)))));refine aR (g:=20) rfl (fun lD=>?_) (fun lD=>?_)
     ·refine aq rfl rfl (ah rfl rfl (aq rfl rfl (fq rfl rfl rfl (aq rfl rfl (aW rfl rfl rfl (aq rfl rfl (ah rfl rfl ?_)))))));refine aR (g:=24) rfl (fun ve=>?_) (fun ve=>?_)
      ·refine aq rfl rfl (ah rfl rfl (aq rfl rfl (eS rfl rfl rfl (aq rfl rfl (aW rfl rfl rfl (aq rfl rfl (ah rfl rfl ?_)))))));refine aR (g:=28) rfl (fun vf=>?_) (fun vf=>?_)
       ·refine aq rfl rfl (ah rfl rfl (aq rfl rfl (eS rfl rfl rfl (aq rfl rfl (aW rfl rfl rfl (aJ rfl rfl rfl (ak rfl rfl (ae (aQ ?_)))))))));exact aV rfl rfl ⟨by simp only[fh];first|rfl|(congr 1;first|(exact(decide_eq_true (by omega)).symm)|(exact(decide_eq_false (by omega)).symm)|(exact decide_eq_decide.2 (by omega))),rfl⟩
       ·refine au rfl rfl rfl rfl (au rfl rfl rfl rfl (aq rfl rfl (aJ rfl rfl rfl (aJ rfl rfl rfl (ak rfl rfl (ae (aQ ?_)))))));exact aV rfl rfl ⟨by simp only[fh];first|rfl|(congr 1;first|(exact(decide_eq_true (by omega)).symm)|(exact(decide_eq_false (by omega)).symm)|(exact decide_eq_decide.2 (by omega))),rfl⟩
      ·refine au rfl rfl rfl rfl (au rfl rfl rfl rfl (aq rfl rfl (aJ rfl rfl rfl (aq rfl rfl (ah rfl rfl (au rfl rfl rfl rfl (au rfl rfl rfl rfl (aq rfl rfl (aJ rfl rfl rfl (aJ rfl rfl rfl (ak rfl rfl ?_)))))))))));refine ae (aQ ?_);exact aV rfl rfl ⟨by simp only[fh];first|rfl|(congr 1;first|(exact(decide_eq_true (by omega)).symm)|(exact(decide_eq_false (by omega)).symm)|(exact decide_eq_decide.2 (by omega))),rfl⟩
     ·refine au rfl rfl rfl rfl (au rfl rfl rfl rfl (aq rfl rfl (aJ rfl rfl rfl (aq rfl rfl (ah rfl rfl (au rfl rfl rfl rfl (au rfl rfl rfl rfl (aq rfl rfl (aJ rfl rfl rfl (aq rfl rfl (ah rfl rfl ?_)))))))))));refine au rfl rfl rfl rfl (au rfl rfl rfl rfl (aq rfl rfl (aJ rfl rfl rfl (aJ rfl rfl rfl (ak rfl rfl (ae (aQ ?_)))))));exact aV rfl rfl ⟨by simp only[fh];first|rfl|(congr 1;first|(exact(decide_eq_true (by omega)).symm)|(exact(decide_eq_false (by omega)).symm)|(exact decide_eq_decide.2 (by omega))),rfl⟩
   ·refine au rfl rfl rfl rfl (au rfl rfl rfl rfl (aq rfl rfl (aJ rfl rfl rfl (aJ rfl rfl rfl (ah rfl rfl (aq rfl rfl (ah rfl rfl (aq rfl rfl (ek rfl rfl rfl (aq rfl rfl (ah rfl rfl ?_)))))))))));refine aR (g:=20) rfl (fun lD=>?_) (fun lD=>?_)
    ·refine aq rfl rfl (ah rfl rfl (aq rfl rfl (fq rfl rfl rfl (aq rfl rfl (aW rfl rfl rfl (aq rfl rfl (ah rfl rfl ?_)))))));refine aR (g:=24) rfl (fun ve=>?_) (fun ve=>?_)
     ·refine aq rfl rfl (ah rfl rfl (aq rfl rfl (eS rfl rfl rfl (aq rfl rfl (aW rfl rfl rfl (aq rfl rfl (ah rfl rfl ?_)))))));refine aR (g:=28) rfl (fun vf=>?_) (fun vf=>?_)
      ·refine aq rfl rfl (ah rfl rfl (aq rfl rfl (eS rfl rfl rfl (aq rfl rfl (aW rfl rfl rfl (aJ rfl rfl rfl (ak rfl rfl (ae (aQ ?_)))))))));exact aV rfl rfl ⟨by simp only[fh];first|rfl|(congr 1;first|(exact(decide_eq_true (by omega)).symm)|(exact(decide_eq_false (by omega)).symm)|(exact decide_eq_decide.2 (by omega))),rfl⟩
      ·refine au rfl rfl rfl rfl (au rfl rfl rfl rfl (aq rfl rfl (aJ rfl rfl rfl (aJ rfl rfl rfl (ak rfl rfl (ae (aQ ?_)))))));exact aV rfl rfl ⟨by simp only[fh];first|rfl|(congr 1;first|(exact(decide_eq_true (by omega)).symm)|(exact(decide_eq_false (by omega)).symm)|(exact decide_eq_decide.2 (by omega))),rfl⟩
     ·refine au rfl rfl rfl rfl (au rfl rfl rfl rfl (aq rfl rfl (aJ rfl rfl rfl (aq rfl rfl (ah rfl rfl (au rfl rfl rfl rfl (au rfl rfl rfl rfl (aq rfl rfl (aJ rfl rfl rfl (aJ rfl rfl rfl (ak rfl rfl ?_)))))))))));refine ae (aQ ?_);exact aV rfl rfl ⟨by simp only[fh];first|rfl|(congr 1;first|(exact(decide_eq_true (by omega)).symm)|(exact(decide_eq_false (by omega)).symm)|(exact decide_eq_decide.2 (by omega))),rfl⟩
    ·refine au rfl rfl rfl rfl (au rfl rfl rfl rfl (aq rfl rfl (aJ rfl rfl rfl (aq rfl rfl (ah rfl rfl (au rfl rfl rfl rfl (au rfl rfl rfl rfl (aq rfl rfl (aJ rfl rfl rfl (aq rfl rfl (ah rfl rfl ?_)))))))))));refine au rfl rfl rfl rfl (au rfl rfl rfl rfl (aq rfl rfl (aJ rfl rfl rfl (aJ rfl rfl rfl (ak rfl rfl (ae (aQ ?_)))))));exact aV rfl rfl ⟨by simp only[fh];first|rfl|(congr 1;first|(exact(decide_eq_true (by omega)).symm)|(exact(decide_eq_false (by omega)).symm)|(exact decide_eq_decide.2 (by omega))),rfl⟩
 ·refine au rfl rfl rfl rfl (au rfl rfl rfl rfl (aJ rfl rfl rfl (ah rfl rfl (aq rfl rfl (ah rfl rfl (aq rfl rfl (ek rfl rfl rfl (aq rfl rfl (ah rfl rfl ?_)))))))));refine aR (g:=12) rfl (fun qt=>?_) (fun qt=>?_)
  ·refine aq rfl rfl (ah rfl rfl (aq rfl rfl (fq rfl rfl rfl (aq rfl rfl (aW rfl rfl rfl (aJ rfl rfl rfl (ah rfl rfl ?_)))))));refine aR (g:=17) rfl (fun uZ=>?_) (fun uZ=>?_)
   ·refine au rfl rfl rfl rfl (au rfl rfl rfl rfl (au rfl rfl rfl rfl (cH rfl rfl rfl (cH rfl rfl rfl (au rfl rfl rfl rfl (au rfl rfl rfl rfl (cH rfl rfl rfl (cH rfl rfl rfl (au rfl rfl rfl rfl (au rfl rfl rfl rfl (cH rfl rfl rfl ?_)))))))))));refine cH rfl rfl rfl (au rfl rfl rfl rfl (aW rfl rfl rfl (ak rfl rfl (ae (aQ ?_)))));exact aV rfl rfl ⟨by simp only[fh];first|rfl|(congr 1;first|(exact(decide_eq_true (by omega)).symm)|(exact(decide_eq_false (by omega)).symm)|(exact decide_eq_decide.2 (by omega))),rfl⟩
   ·refine aq rfl rfl (ah rfl rfl (aq rfl rfl (ek rfl rfl rfl (aq rfl rfl (ah rfl rfl ?_)))));refine aR (g:=20) rfl (fun lD=>?_) (fun lD=>?_)
    ·refine aq rfl rfl (ah rfl rfl (aq rfl rfl (fq rfl rfl rfl (aq rfl rfl (aW rfl rfl rfl (aq rfl rfl (ah rfl rfl ?_)))))));refine aR (g:=24) rfl (fun ve=>?_) (fun ve=>?_)
     ·refine aq rfl rfl (ah rfl rfl (aq rfl rfl (eS rfl rfl rfl (aq rfl rfl (aW rfl rfl rfl (aq rfl rfl (ah rfl rfl ?_)))))));refine aR (g:=28) rfl (fun vf=>?_) (fun vf=>?_)
      ·refine aq rfl rfl (ah rfl rfl (aq rfl rfl (eS rfl rfl rfl (aq rfl rfl (aW rfl rfl rfl (aJ rfl rfl rfl (ak rfl rfl (ae (aQ ?_)))))))));exact aV rfl rfl ⟨by simp only[fh];first|rfl|(congr 1;first|(exact(decide_eq_true (by omega)).symm)|(exact(decide_eq_false (by omega)).symm)|(exact decide_eq_decide.2 (by omega))),rfl⟩
      ·refine au rfl rfl rfl rfl (au rfl rfl rfl rfl (aq rfl rfl (aJ rfl rfl rfl (aJ rfl rfl rfl (ak rfl rfl (ae (aQ ?_)))))));exact aV rfl rfl ⟨by simp only[fh];first|rfl|(congr 1;first|(exact(decide_eq_true (by omega)).symm)|(exact(decide_eq_false (by omega)).symm)|(exact decide_eq_decide.2 (by omega))),rfl⟩
     ·refine au rfl rfl rfl rfl (au rfl rfl rfl rfl (aq rfl rfl (aJ rfl rfl rfl (aq rfl rfl (ah rfl rfl (au rfl rfl rfl rfl (au rfl rfl rfl rfl (aq rfl rfl (aJ rfl rfl rfl (aJ rfl rfl rfl (ak rfl rfl ?_)))))))))));refine ae (aQ ?_);exact aV rfl rfl ⟨by simp only[fh];first|rfl|(congr 1;first|(exact(decide_eq_true (by omega)).symm)|(exact(decide_eq_false (by omega)).symm)|(exact decide_eq_decide.2 (by omega))),rfl⟩
    ·refine au rfl rfl rfl rfl (au rfl rfl rfl rfl (aq rfl rfl (aJ rfl rfl rfl (aq rfl rfl (ah rfl rfl (au rfl rfl rfl rfl (au rfl rfl rfl rfl (aq rfl rfl (aJ rfl rfl rfl (aq rfl rfl (ah rfl rfl ?_)))))))))));refine au rfl rfl rfl rfl (au rfl rfl rfl rfl (aq rfl rfl (aJ rfl rfl rfl (aJ rfl rfl rfl (ak rfl rfl (ae (aQ ?_)))))));exact aV rfl rfl ⟨by simp only[fh];first|rfl|(congr 1;first|(exact(decide_eq_true (by omega)).symm)|(exact(decide_eq_false (by omega)).symm)|(exact decide_eq_decide.2 (by omega))),rfl⟩
  ·refine au rfl rfl rfl rfl (au rfl rfl rfl rfl (aq rfl rfl (aJ rfl rfl rfl (aJ rfl rfl rfl (ah rfl rfl (aq rfl rfl (ah rfl rfl (aq rfl rfl (ek rfl rfl rfl (aq rfl rfl (ah rfl rfl ?_)))))))))));refine aR (g:=20) rfl (fun lD=>?_) (fun lD=>?_)
   ·refine aq rfl rfl (ah rfl rfl (aq rfl rfl (fq rfl rfl rfl (aq rfl rfl (aW rfl rfl rfl (aq rfl rfl (ah rfl rfl ?_)))))));refine aR (g:=24) rfl (fun ve=>?_) (fun ve=>?_)
    ·refine aq rfl rfl (ah rfl rfl (aq rfl rfl (eS rfl rfl rfl (aq rfl rfl (aW rfl rfl rfl (aq rfl rfl (ah rfl rfl ?_)))))));refine aR (g:=28) rfl (fun vf=>?_) (fun vf=>?_)
     ·refine aq rfl rfl (ah rfl rfl (aq rfl rfl (eS rfl rfl rfl (aq rfl rfl (aW rfl rfl rfl (aJ rfl rfl rfl (ak rfl rfl (ae (aQ ?_)))))))));exact aV rfl rfl ⟨by simp only[fh];first|rfl|(congr 1;first|(exact(decide_eq_true (by omega)).symm)|(exact(decide_eq_false (by omega)).symm)|(exact decide_eq_decide.2 (by omega))),rfl⟩
     ·refine au rfl rfl rfl rfl (au rfl rfl rfl rfl (aq rfl rfl (aJ rfl rfl rfl (aJ rfl rfl rfl (ak rfl rfl (ae (aQ ?_)))))));exact aV rfl rfl ⟨by simp only[fh];first|rfl|(congr 1;first|(exact(decide_eq_true (by omega)).symm)|(exact(decide_eq_false (by omega)).symm)|(exact decide_eq_decide.2 (by omega))),rfl⟩
    ·refine au rfl rfl rfl rfl (au rfl rfl rfl rfl (aq rfl rfl (aJ rfl rfl rfl (aq rfl rfl (ah rfl rfl (au rfl rfl rfl rfl (au rfl rfl rfl rfl (aq rfl rfl (aJ rfl rfl rfl (aJ rfl rfl rfl (ak rfl rfl ?_)))))))))));refine ae (aQ ?_);exact aV rfl rfl ⟨by simp only[fh];first|rfl|(congr 1;first|(exact(decide_eq_true (by omega)).symm)|(exact(decide_eq_false (by omega)).symm)|(exact decide_eq_decide.2 (by omega))),rfl⟩
   ·refine au rfl rfl rfl rfl (au rfl rfl rfl rfl (aq rfl rfl (aJ rfl rfl rfl (aq rfl rfl (ah rfl rfl (au rfl rfl rfl rfl (au rfl rfl rfl rfl (aq rfl rfl (aJ rfl rfl rfl (aq rfl rfl (ah rfl rfl ?_)))))))))));refine au rfl rfl rfl rfl (au rfl rfl rfl rfl (aq rfl rfl (aJ rfl rfl rfl (aJ rfl rfl rfl (ak rfl rfl (ae (aQ ?_)))))));exact aV rfl rfl ⟨by simp only[fh];first|rfl|(congr 1;first|(exact(decide_eq_true (by omega)).symm)|(exact(decide_eq_false (by omega)).symm)|(exact decide_eq_decide.2 (by omega))),rfl⟩
theorem Cs (c:Int) (w0:World):
  Spec Tryz.prog 222 #[.int .i64 c] w0 (fun v w=>v= .bool (ny c)∧w=w0):=by
 refine bu (args:=[_]) (fn:=Tryz.f222) Tryz.func222 rfl (n:=9) Tryz.ntmps222 (al (aj (ak rfl rfl (ae (al (aj (ah rfl rfl (ek rfl rfl rfl (ah rfl rfl ?_)))))))));refine aR (g:=5) rfl (fun ib=>?_) (fun ib=>?_)
 ·refine aq rfl rfl (ah rfl rfl (aq rfl rfl (fq rfl rfl rfl (aW rfl rfl rfl (ak rfl rfl (ae (aQ ?_)))))));exact aV rfl rfl ⟨by simp only[ny];first|rfl|(congr 1;first|(exact(decide_eq_true (by omega)).symm)|(exact(decide_eq_false (by omega)).symm)|(exact decide_eq_decide.2 (by omega))),rfl⟩
 ·refine au rfl rfl rfl rfl (au rfl rfl rfl rfl (aJ rfl rfl rfl (ak rfl rfl (ae (aQ ?_)))));exact aV rfl rfl ⟨by simp only[ny];first|rfl|(congr 1;first|(exact(decide_eq_true (by omega)).symm)|(exact(decide_eq_false (by omega)).symm)|(exact decide_eq_decide.2 (by omega))),rfl⟩
theorem x5 (c:Int) (w0:World) (hc:0≤c∧c≤1114111):
  Spec Tryz.prog 223 #[.int .i64 c] w0 (fun v w=>v= .int .i64 (fm c)∧w=w0):=by
 refine bu (args:=[_]) (fn:=Tryz.f223) Tryz.func223 rfl (n:=24) Tryz.ntmps223 (al (aj (ak rfl rfl (ae (al (al (aj (ah rfl rfl (ek rfl rfl rfl (ah rfl rfl ?_))))))))));refine aR (g:=5) rfl (fun ib=>?_) (fun ib=>?_)
 ·refine aq rfl rfl (ah rfl rfl (aq rfl rfl (fq rfl rfl rfl (aW rfl rfl rfl (ah rfl rfl ?_)))));refine aR (g:=9) rfl (fun y3=>?_) (fun y3=>?_)
  ·refine au rfl rfl rfl rfl (au rfl rfl rfl rfl (au rfl rfl rfl rfl (cH rfl rfl rfl (cH rfl rfl rfl (au rfl rfl rfl rfl (au rfl rfl rfl rfl (cH rfl rfl rfl (cH rfl rfl rfl (au rfl rfl rfl rfl (aW rfl rfl rfl (ae ?_)))))))))));refine kW rfl (al (aj (ah rfl rfl (bI rfl rfl rfl (by omega) (ak rfl rfl (ae (aQ ?_)))))));exact aV rfl rfl ⟨by rw[fm,if_pos (by omega)],rfl⟩
  ·refine aq rfl rfl (ah rfl rfl (aq rfl rfl (ek rfl rfl rfl (aq rfl rfl (ah rfl rfl ?_)))));refine aR (g:=12) rfl (fun qt=>?_) (fun qt=>?_)
   ·refine aq rfl rfl (ah rfl rfl (aq rfl rfl (fq rfl rfl rfl (aq rfl rfl (aW rfl rfl rfl (aq rfl rfl (ah rfl rfl ?_)))))));refine aR (g:=16) rfl (fun G3=>?_) (fun G3=>?_)
    ·refine aq rfl rfl (ah rfl rfl (aq rfl rfl (eS rfl rfl rfl (aq rfl rfl (aW rfl rfl rfl (aJ rfl rfl rfl (ae ?_)))))));refine bQ rfl (fun c1=>?_) (fun c1=>?_)
     ·refine al (aj (ah rfl rfl (bI rfl rfl rfl (by omega) (ak rfl rfl (ae (aQ ?_))))));exact aV rfl rfl ⟨by rw[fm,if_pos (by omega)],rfl⟩
     ·refine aZ (al (aj (ah rfl rfl (ak rfl rfl (ae (aQ ?_))))));exact aV rfl rfl ⟨by rw[fm,if_neg (by omega)],rfl⟩
    ·refine au rfl rfl rfl rfl (au rfl rfl rfl rfl (aq rfl rfl (aJ rfl rfl rfl (aJ rfl rfl rfl (ae (iY rfl (aZ (al (aj (ah rfl rfl (ak rfl rfl ?_)))))))))));refine ae (aQ ?_);exact aV rfl rfl ⟨by rw[fm,if_neg (by omega)],rfl⟩
   ·refine au rfl rfl rfl rfl (au rfl rfl rfl rfl (aq rfl rfl (aJ rfl rfl rfl (aq rfl rfl (ah rfl rfl (au rfl rfl rfl rfl (au rfl rfl rfl rfl (aq rfl rfl (aJ rfl rfl rfl (aJ rfl rfl rfl (ae ?_)))))))))));refine iY rfl (aZ (al (aj (ah rfl rfl (ak rfl rfl (ae (aQ ?_)))))));exact aV rfl rfl ⟨by rw[fm,if_neg (by omega)],rfl⟩
 ·refine au rfl rfl rfl rfl (au rfl rfl rfl rfl (aJ rfl rfl rfl (ah rfl rfl (aq rfl rfl (ah rfl rfl (aq rfl rfl (ek rfl rfl rfl (aq rfl rfl (ah rfl rfl ?_)))))))));refine aR (g:=12) rfl (fun qt=>?_) (fun qt=>?_)
  ·refine aq rfl rfl (ah rfl rfl (aq rfl rfl (fq rfl rfl rfl (aq rfl rfl (aW rfl rfl rfl (aq rfl rfl (ah rfl rfl ?_)))))));refine aR (g:=16) rfl (fun G3=>?_) (fun G3=>?_)
   ·refine aq rfl rfl (ah rfl rfl (aq rfl rfl (eS rfl rfl rfl (aq rfl rfl (aW rfl rfl rfl (aJ rfl rfl rfl (ae ?_)))))));refine bQ rfl (fun c1=>?_) (fun c1=>?_)
    ·refine al (aj (ah rfl rfl (bI rfl rfl rfl (by omega) (ak rfl rfl (ae (aQ ?_))))));exact aV rfl rfl ⟨by rw[fm,if_pos (by omega)],rfl⟩
    ·refine aZ (al (aj (ah rfl rfl (ak rfl rfl (ae (aQ ?_))))));exact aV rfl rfl ⟨by rw[fm,if_neg (by omega)],rfl⟩
   ·refine au rfl rfl rfl rfl (au rfl rfl rfl rfl (aq rfl rfl (aJ rfl rfl rfl (aJ rfl rfl rfl (ae (iY rfl (aZ (al (aj (ah rfl rfl (ak rfl rfl ?_)))))))))));refine ae (aQ ?_);exact aV rfl rfl ⟨by rw[fm,if_neg (by omega)],rfl⟩
  ·refine au rfl rfl rfl rfl (au rfl rfl rfl rfl (aq rfl rfl (aJ rfl rfl rfl (aq rfl rfl (ah rfl rfl (au rfl rfl rfl rfl (au rfl rfl rfl rfl (aq rfl rfl (aJ rfl rfl rfl (aJ rfl rfl rfl (ae ?_)))))))))));refine iY rfl (aZ (al (aj (ah rfl rfl (ak rfl rfl (ae (aQ ?_)))))));exact aV rfl rfl ⟨by rw[fm,if_neg (by omega)],rfl⟩
end Go.K
namespace Go.Proofs
open Go.Shelf
def Tryz.tv:Go.Shelf.Ren:=⟨fun|169=>256|n=>n,fun|70=>307|9=>9|0=>0|72=>309|37=>147|127=>331|3=>3|5=>5|n=>n,fun|n=>n⟩
theorem Tryz.Kn:Go.Proofs.Lays.n169 Tryz.prog Tryz.tv:={
 mixed:=by kernel_rfl
 f169:=Tryz.func256.trans (congrArg some (by kernel_rfl))
 t0:=jd
 a0:=uw
 z0:=qc
 v0:=jT
 t3:=az
 a3:=ux
 z3:=qd
 v3:=jU
 t9:=aD
 a9:=uy
 z9:=qe
 v9:=jV
 t37:=bj
 a37:=Tryz.isAgg147
 z37:=Tryz.sizeOf147
 v37:=Tryz.zeroValue147
 t70:=Tryz.underlying307
 a70:=Tryz.isAgg307
 z70:=Tryz.sizeOf307
 v70:=Tryz.zeroValue307
 t72:=Tryz.underlying309
 a72:=Tryz.isAgg309
 z72:=Tryz.sizeOf309
 v72:=Tryz.zeroValue309
 t127:=Tryz.underlying331
 a127:=Tryz.isAgg331
 z127:=Tryz.sizeOf331
 v127:=Tryz.zeroValue331}
def Tryz.AK:Go.Shelf.Ren:=⟨fun|119=>277|n=>n,fun|21=>21|4=>4|n=>n,fun|n=>n⟩
theorem Tryz.Ko:Go.Proofs.Lays.n119 Tryz.prog Tryz.AK:={
 mixed:=by kernel_rfl
 f119:=Tryz.func277.trans (congrArg some (by kernel_rfl))
 t4:=oB
 a4:=Tryz.isAgg4
 z4:=Tryz.sizeOf4
 v4:=qI
 t21:=Tryz.underlying21
 a21:=Tryz.isAgg21
 z21:=Tryz.sizeOf21
 v21:=Tryz.zeroValue21}
def Tryz.AL:Go.Shelf.Ren:=⟨fun|106=>159|213=>198|265=>235|n=>n,fun|9=>9|3=>3|n=>n,fun|n=>n⟩
theorem Tryz.Kp:Go.Proofs.Lays.n106 Tryz.prog Tryz.AL:={
 mixed:=by kernel_rfl
 f106:=Tryz.func159.trans (congrArg some (by kernel_rfl))
 f213:=Tryz.func198.trans (congrArg some (by kernel_rfl))
 f265:=Tryz.func235.trans (congrArg some (by kernel_rfl))
 t3:=az
 a3:=ux
 z3:=qd
 v3:=jU
 t9:=aD
 a9:=uy
 z9:=qe
 v9:=jV}
theorem Tryz.qZ:Builder.Extra Tryz.prog Tryz.tv:={
 sizeBuilder:=by kernel_rfl
 liesBuilder:=by kernel_rfl
 t5:=cM
 a5:=Tryz.isAgg5
 z5:=Tryz.sizeOf5
 v5:=Tryz.zeroValue5
 infoByte:=by kernel_rfl
 cellsByte:=by kernel_rfl
 sizeByte:=by kernel_rfl
 neB5:=by decide}
def Tryz.tw:Go.Shelf.Ren:=⟨fun|168=>254|240=>275|242=>276|276=>285|278=>286|n=>n,fun|0=>0|3=>3|4=>4|5=>5|9=>9|20=>20|21=>21|37=>147|46=>183|51=>273|70=>307|72=>309|75=>311|80=>315|164=>336|n=>n,fun|n=>n⟩
theorem Tryz.Kq:Go.Proofs.Lays.n168 Tryz.prog Tryz.tw:={
 mixed:=by kernel_rfl
 f168:=Tryz.func254.trans (congrArg some (by kernel_rfl))
 f240:=Tryz.func275.trans (congrArg some (by kernel_rfl))
 f242:=Tryz.func276.trans (congrArg some (by kernel_rfl))
 f276:=Tryz.func285.trans (congrArg some (by kernel_rfl))
 f278:=Tryz.func286.trans (congrArg some (by kernel_rfl))
 t0:=jd
 a0:=uw
 z0:=qc
 v0:=jT
 t3:=az
 a3:=ux
 z3:=qd
 v3:=jU
 t4:=oB
 a4:=Tryz.isAgg4
 z4:=Tryz.sizeOf4
 v4:=qI
 t5:=cM
 a5:=Tryz.isAgg5
 z5:=Tryz.sizeOf5
 v5:=Tryz.zeroValue5
 t9:=aD
 a9:=uy
 z9:=qe
 v9:=jV
 t20:=Tryz.underlying20
 a20:=Tryz.isAgg20
 z20:=Tryz.sizeOf20
 v20:=Tryz.zeroValue20
 t21:=Tryz.underlying21
 a21:=Tryz.isAgg21
 z21:=Tryz.sizeOf21
 v21:=Tryz.zeroValue21
 t37:=bj
 a37:=Tryz.isAgg147
 z37:=Tryz.sizeOf147
 v37:=Tryz.zeroValue147
 t46:=Tryz.underlying183
 a46:=Tryz.isAgg183
 z46:=Tryz.sizeOf183
 v46:=Tryz.zeroValue183
 t51:=Tryz.underlying273
 a51:=Tryz.isAgg273
 z51:=Tryz.sizeOf273
 v51:=Tryz.zeroValue273
 t70:=Tryz.underlying307
 a70:=Tryz.isAgg307
 z70:=Tryz.sizeOf307
 v70:=Tryz.zeroValue307
 t72:=Tryz.underlying309
 a72:=Tryz.isAgg309
 z72:=Tryz.sizeOf309
 v72:=Tryz.zeroValue309
 t75:=Tryz.underlying311
 a75:=Tryz.isAgg311
 z75:=Tryz.sizeOf311
 v75:=Tryz.zeroValue311
 t164:=Tryz.underlying336
 a164:=Tryz.isAgg336
 z164:=Tryz.sizeOf336
 v164:=Tryz.zeroValue336}
theorem Tryz.ra:Builder.Extra Tryz.prog Tryz.tw where
 sizeBuilder:=by kernel_rfl
 liesBuilder:=by kernel_rfl
 t5:=cM
 a5:=Tryz.isAgg5
 z5:=Tryz.sizeOf5
 v5:=Tryz.zeroValue5
 infoByte:=by kernel_rfl
 cellsByte:=by kernel_rfl
 sizeByte:=by kernel_rfl
 neB5:=by decide
end Go.Proofs
namespace Go.K
open Go.Proofs
set_option maxRecDepth 10000
open Go.RowKit Go.Shelf
theorem Ct (r:Int) (w:World):Spec Tryz.prog 277 #[.int .i32 r] w (fun v w'=>v= .bool (Lib.validRune r)∧w'=w):=(Any.utf8_ValidRune Tryz.Ko r w).mono fun e w' ⟨h1,h2⟩=>⟨_,h1,rfl,h2⟩
theorem EV {B b:Nat} {bs:List Value} {r:Int} (w:World) (hr: -2147483648≤r∧r≤2147483647) (h:Lib.IsBuilderF 309 5 B b bs w) (hl:bs.length+4≤140737488355328) (hB:B≤w.heap.size):
  Spec Tryz.prog 254 #[.pointer (some ⟨b,0,none⟩),.int .i32 r] w (fun v w'=>Lib.IsBuilderF 309 5 B b (bs++Lib.runeCells r) w'∧Below B w w'):=
 (Any.Builder_WriteRune_k Tryz.Kq Tryz.ra B b bs r hr.1 hr.2 w h hl hB).mono fun e w' ⟨h1,h2,h3,_⟩=>⟨_,h1,.inr h2,h3⟩
theorem G4 {B b:Nat} {l:List UInt8} (w:World) (h:Lib.IsBuilderF 309 5 B b (Lib.byteCells l) w) (hB:B≤w.heap.size):
  Spec Tryz.prog 256 #[.pointer (some ⟨b,0,none⟩)] w (fun v w'=>v= .string ⟨l.toArray⟩∧Below B w w'):=
 (Any.Builder_String_any_k Tryz.Kn Tryz.qZ B b l w h hB).mono fun e w' ⟨h1,_,h3,_⟩=>⟨_,h1,rfl,h3⟩
theorem wrap32 {c:Int} (h:0≤c∧c≤1114111):IntKind.i32.wrap c=c:=by
 show(if(true&&decide (c%4294967296≥2147483648))=true then c%4294967296-4294967296 else c%4294967296)=c;rw[if_neg (by simp only[fQ,decide_eq_true_eq];omega)];omega
def rb (c:Int):Int:=if c<0∨c>1114111∨Lib.validRune c=false then 65533 else c
theorem DV (c:Int):0≤rb c∧rb c≤1114111:=by unfold rb;split<;>omega
def jS (l:List Int):List UInt8:=l.flatMap fun c=>Lib.encodeRune (rb c)
theorem lE (l:List Int) (c:Int):jS (l++[c])=jS l++Lib.encodeRune (rb c):=by simp[jS]
theorem Kr (r:Int):(Lib.encodeRune r).length≤4:=by have:=(Lib.encodeRuneZ_length r).2;simpa[Lib.encodeRune]using this
theorem fG (l:List Int):(jS l).length≤4*l.length:=by
 induction l with
 |nil=>simp[jS]
 |cons c l ih=>
  have:=Kr (rb c);simp only[jS,List.flatMap_cons,bM,dr]at ih ⊢;omega
theorem vg (l:List Int) (c:Int):Lib.byteCells (jS l)++Lib.runeCells (rb c)=Lib.byteCells (jS (l++[c])):=by
 rw[lE,←Lib.byteCells_encodeRune];simp[Lib.byteCells]
theorem G5 (c:Int) (w0:World):
  Spec Tryz.prog 255 #[.int .i64 c] w0 (fun v w=>v= .int .i32 (rb c)∧w=w0):=by
 refine bu (args:=[_]) (fn:=Tryz.f255) Tryz.func255 rfl (n:=17) Tryz.ntmps255 (al (aj (ak rfl rfl (ae (al (al (aj (ah rfl rfl (cz rfl rfl rfl (ah rfl rfl ?_))))))))));refine aR (g:=5) rfl (fun ib=>?_) (fun ib=>?_)
 ·refine au rfl rfl rfl rfl (au rfl rfl rfl rfl (aW rfl rfl rfl (ah rfl rfl (au rfl rfl rfl rfl (au rfl rfl rfl rfl (au rfl rfl rfl rfl (au rfl rfl rfl rfl (aW rfl rfl rfl (ae (kW rfl (al ?_)))))))))));refine aj (ak rfl rfl (ae (aQ ?_)));exact aV rfl rfl ⟨by rw[rb,if_pos (by first|exact .inl (by omega)|exact .inr (.inl (by omega))|exact .inr (.inr (by assumption)))],rfl⟩
 ·refine aq rfl rfl (ah rfl rfl (aq rfl rfl (lW rfl rfl rfl (aJ rfl rfl rfl (ah rfl rfl ?_)))));refine aR (g:=9) rfl (fun y3=>?_) (fun y3=>?_)
  ·refine au rfl rfl rfl rfl (au rfl rfl rfl rfl (au rfl rfl rfl rfl (au rfl rfl rfl rfl (aW rfl rfl rfl (ae (kW rfl (al (aj (ak rfl rfl (ae (aQ ?_)))))))))));exact aV rfl rfl ⟨by rw[rb,if_pos (by first|exact .inl (by omega)|exact .inr (.inl (by omega))|exact .inr (.inr (by assumption)))],rfl⟩
  ·refine aq rfl rfl (ah rfl rfl (aq rfl rfl (xc az Tryz.underlying21 rfl rfl (bO (v':= .int .i32 c) (congrArg (Value.int .i32) (wrap32 (by omega))) (aq rfl rfl ?_)))));refine aP rfl rfl Yi (Ct _ _) (fun r wc hc=>?_);obtain⟨rfl,rfl⟩:=hc;refine aq rfl rfl (jN rfl rfl (bO (v':= .bool (decide (Lib.validRune c=false))) (by cases Lib.validRune c<;>rfl) (aJ rfl rfl rfl (ae ?_))));refine bQ rfl (fun c1=>?_) (fun c1=>?_)
   ·refine al (aj (ak rfl rfl (ae (aQ ?_))));exact aV rfl rfl ⟨by rw[rb,if_pos (by first|exact .inl (by omega)|exact .inr (.inl (by omega))|exact .inr (.inr (by assumption)))],rfl⟩
   ·refine aZ (al (aj (ah rfl rfl (xc az Tryz.underlying21 rfl rfl (bO (v':= .int .i32 c) (congrArg (Value.int .i32) (wrap32 (by omega))) (ak rfl rfl (ae (aQ ?_))))))));exact aV rfl rfl ⟨by rw[rb,if_neg (by rintro(h|h|h)<;>first|omega|exact absurd h (by assumption))],rfl⟩
theorem EW {M:aL} {xs:List Int} {v0:Value} (w0:World) (hM:Lt M w0) (hv:((RT.int .i64).sl).V M w0 xs v0) (hl:xs.length≤1000000):
  Spec Tryz.prog 224 #[v0] w0 (fun v w=>v= .string ⟨(jS xs).toArray⟩∧Step M w0 M w aE):=by
 refine bu (args:=[_]) (fn:=Tryz.f224) Tryz.func224 rfl (n:=17) Tryz.ntmps224 (al (aj (ak rfl rfl (ae (al (aj ?_))))));refine eG M XE rfl (fun b w1 p1 q1 g1 s1=>?_);have zS:Lib.IsBuilderF 309 5 w0.heap.size b (Lib.byteCells (jS (xs.take 0))) w1:= .of (.inl ⟨p1,.slice none 0 0,g1,World.ownsRow_nil _ _ _ _,by simp[Value.ownBlock]⟩);have S1:Below w0.heap.size w0 w1:=s1.below;refine ae (al (al (aj (ah rfl rfl (bK ax rfl hv rfl (ah rfl rfl (ae (bh ?_))))))));refine dz (σ:=Nat) (fun k=>[(3,.pointer (some ⟨b,0,none⟩)),(6,v0),(7,.int .i64 (xs.length:Int)),(8,.int .i64 (k:Int))]) (fun k w=>Lib.IsBuilderF 309 5 w0.heap.size b (Lib.byteCells (jS (xs.take k))) w∧Below w0.heap.size w0 w∧k≤xs.length) (fun k=>xs.length-k) 0 (.cons rfl (.cons rfl (.cons rfl (.cons rfl .nil)))) ?_ ?_
 ·exact⟨zS,S1,bH _⟩
 ·rintro k w ⟨hb,S,hk⟩;refine al (aj (cz rfl rfl rfl (ae (al ?_))));refine bQ rfl (fun c3=>?_) (fun c3=>?_)
  ·refine aZ (al (bh (al (aj ?_))));refine cu (M:=M) ax I3 rfl rfl rfl hv (Step.uW S M).le (by omega) (fun u4 c zT hY=>?_);refine cr (M:=M) az rfl rfl hY (ao _ _) (fun in4=>?_);refine ak rfl rfl (ae (aj (ah rfl rfl ?_)));refine aP rfl rfl Yg (G5 c _) (fun r wc hc=>?_);obtain⟨rfl,rfl⟩:=hc;refine aP rfl rfl Yf (EV _ (by have:=DV c;omega) hb (by rw[Lib.byteCells_length];have:=fG (xs.take k);rw[bG]at this;omega) S.size) (fun r5 w5 hc=>?_);obtain⟨L7,S5⟩:=hc;have tk:xs.take (k+1)=xs.take k++[c]:=by rw[bP];simp only[aC]at zT;rw[zT];rfl
   rw[vg,←tk]at L7;have S6:=S.trans S5;refine ae (aj (bI rfl rfl rfl (by omega) (ah rfl rfl (ae ?_))));refine⟨rfl,k+1,(.cons rfl (.cons rfl (.cons rfl (.cons rfl .nil)))),?_,?_⟩
   ·exact⟨L7,S6,by omega⟩
   ·omega
  ·refine cY (al (aj ?_));refine aP rfl rfl Yh (G4 _ hb S.size) (fun r7 w7 hc=>?_);obtain⟨rfl,S7⟩:=hc;refine ak rfl rfl (ae (aQ ?_));have e:xs.take k=xs:=a7 (by omega);rw[e];exact aV rfl rfl ⟨rfl,Step.uW (S.trans S7) M⟩
end Go.K
namespace Go.K
def nO (c:Int):Int:=if 194≤c∧c<224 then 2 else if 224≤c∧c<240 then 3 else if 240≤c∧c<245 then 4 else 0
def gr (c:Int):Int:=if 194≤c∧c<224 then 128 else if 224≤c∧c<240 then 2048 else if 240≤c∧c<245 then 65536 else 0
def sx (c:Int):Int:=if 194≤c∧c<224 then c-192 else if 224≤c∧c<240 then c-224 else if 240≤c∧c<245 then c-240 else 0
def vO (l:List UInt8):Nat→Int
 |0=>sx (jE l 0)
 |k+1=>64*vO l k+jE l (k+1)-128
theorem fX {l:List UInt8} {k:Nat}:jv l k=true↔k<l.length∧128≤jE l k∧jE l k<192:=by
 unfold jv;simp only[bT,decide_eq_true_eq,beq_iff_eq];omega
theorem x7 {n:Nat}:Utf8.valid (n:Int)=true↔(n<55296∨(57344≤n∧n≤1114111)):=by
 simp only[Utf8.valid,jl,bT,decide_eq_true_eq];omega
theorem Sz {l:List UInt8} (h:(jE l 0:Int)<128):dec l=(jE l 0,1):=by
 unfold dec AI;rw[if_pos (by omega)]
theorem DW {l:List UInt8} (h0:128≤(jE l 0:Int)) (h:nO (jE l 0)=0∨∃k:Nat,1≤k∧(k:Int)<nO (jE l 0)∧jv l k=false):dec l=(65533,1):=by
 have hb:=nv l 0;unfold dec AI;rw[if_neg (by omega)]
 have hk:nO (jE l 0)=0∨(2≤nO (jE l 0)∧jv l 1=false)∨(3≤nO (jE l 0)∧jv l 2=false)∨(4≤nO (jE l 0)∧jv l 3=false):=by
  rcases h with h|⟨k,h1,h2,h3⟩
  ·exact .inl h
  ·have:nO (jE l 0)≤4:=by
    unfold nO
    split
    ·omega
    ·split
     ·omega
     ·split<;>omega
   have hk:k=1∨k=2∨k=3:=by omega
   rcases hk with rfl|rfl|rfl
   ·exact .inr (.inl ⟨by omega,h3⟩)
   ·exact .inr (.inr (.inl ⟨by omega,h3⟩))
   ·exact .inr (.inr (.inr ⟨by omega,h3⟩))
 simp only[beq_iff_eq,bT,decide_eq_true_eq,ge_iff_le,x7];have hn:nO (jE l 0)=if 194≤(jE l 0:Int)∧(jE l 0:Int)<224 then 2 else if 224≤(jE l 0:Int)∧(jE l 0:Int)<240 then 3 else if 240≤(jE l 0:Int)∧(jE l 0:Int)<245 then 4 else 0:=rfl
 rw[hn]at hk
 split
 ·rename_i hc
  obtain⟨WG,JG⟩:=hc
  split
  ·rename_i hv
   exfalso;by_cases ahZ:194≤(jE l 0:Int)
   ·rw[if_pos (by omega)]at hk;rcases hk with hk|⟨_,hk⟩|⟨hk,_⟩|⟨hk,_⟩
    ·omega
    ·rw[hk]at JG;cases JG
    ·omega
    ·omega
   ·omega
  ·rfl
 ·split
  ·rename_i hc
   obtain⟨⟨WG,JG⟩,SB⟩:=hc
   split
   ·exfalso;rw[if_neg (by omega),if_pos (by omega)]at hk;rcases hk with hk|⟨_,hk⟩|⟨_,hk⟩|⟨hk,_⟩
    ·omega
    ·rw[hk]at JG;cases JG
    ·rw[hk]at SB;cases SB
    ·omega
   ·rfl
  ·split
   ·rename_i hc
    obtain⟨⟨⟨WG,JG⟩,SB⟩,hc4⟩:=hc
    split
    ·rename_i hv
     exfalso;by_cases ah0:(jE l 0:Int)<245
     ·rw[if_neg (by omega),if_neg (by omega),if_pos (by omega)]at hk;rcases hk with hk|⟨_,hk⟩|⟨_,hk⟩|⟨_,hk⟩
      ·omega
      ·rw[hk]at JG;cases JG
      ·rw[hk]at SB;cases SB
      ·rw[hk]at hc4;cases hc4
     ·omega
    ·rfl
   ·rfl
theorem mO {c:Int} (h:nO c≠0):(nO c=2∧gr c=128∧sx c=c-192∧194≤c∧c<224)∨(nO c=3∧gr c=2048∧sx c=c-224∧224≤c∧c<240)∨(nO c=4∧gr c=65536∧sx c=c-240∧240≤c∧c<245):=by
 by_cases h1:194≤c∧c<224
 ·exact .inl ⟨if_pos h1,if_pos h1,if_pos h1,h1.1,h1.2⟩
 ·by_cases h2:224≤c∧c<240
  ·exact .inr (.inl ⟨(if_neg h1).trans (if_pos h2),(if_neg h1).trans (if_pos h2),(if_neg h1).trans (if_pos h2),h2.1,h2.2⟩)
  ·by_cases h3:240≤c∧c<245
   ·exact .inr (.inr ⟨(if_neg h1).trans ((if_neg h2).trans (if_pos h3)),(if_neg h1).trans ((if_neg h2).trans (if_pos h3)),(if_neg h1).trans ((if_neg h2).trans (if_pos h3)),h3.1,h3.2⟩)
   ·exact absurd ((if_neg h1).trans ((if_neg h2).trans (if_neg h3))) h
theorem AM {l:List UInt8} (hn:nO (jE l 0)≠0) (hc:∀k:Nat,1≤k→(k:Int)<nO (jE l 0)→jv l k=true) (v:Int) (hv:v=vO l (nO (jE l 0)-1).toNat):
  dec l=if v<gr (jE l 0)∨v>1114111∨(55296≤v∧v≤57343)then(65533,1)else(v.toNat,(nO (jE l 0)).toNat):=by
 have hb:=nv l 0;have b1:=nv l 1;have b2:=nv l 2;have b3:=nv l 3;unfold dec AI;simp only[beq_iff_eq,bT,decide_eq_true_eq,ge_iff_le,x7];rcases mO hn with⟨e1,e2,e3,e4,e5⟩|⟨e1,e2,e3,e4,e5⟩|⟨e1,e2,e3,e4,e5⟩
 ·have c1:=hc 1 (by omega) (by omega);have d1:=fX.1 c1;rw[e1]at hv;have nq:v=64*((jE l 0:Int)-192)+jE l 1-128:=by rw[hv];show 64*sx (jE l 0)+_-_=_;rw[e3]
  rw[if_neg (by omega),if_pos ⟨by omega,c1⟩,e2,e1];by_cases hx:v<128∨v>1114111∨(55296≤v∧v≤57343)
  ·rw[if_pos hx,if_neg (by omega)]
  ·rw[if_neg hx,if_pos (by omega)];simp only[Prod.mk.injEq];omega
 ·have c1:=hc 1 (by omega) (by omega);have c2:=hc 2 (by omega) (by omega);have d1:=fX.1 c1;have d2:=fX.1 c2;rw[e1]at hv;have nq:v=64*(64*((jE l 0:Int)-224)+jE l 1-128)+jE l 2-128:=by rw[hv];show 64*(64*sx (jE l 0)+_-_)+_-_=_;rw[e3]
  rw[if_neg (by omega),if_neg (by omega),if_pos ⟨⟨by omega,c1⟩,c2⟩,e2,e1];by_cases hx:v<2048∨v>1114111∨(55296≤v∧v≤57343)
  ·rw[if_pos hx,if_neg (by omega)]
  ·rw[if_neg hx,if_pos (by omega)];simp only[Prod.mk.injEq];omega
 ·have c1:=hc 1 (by omega) (by omega);have c2:=hc 2 (by omega) (by omega);have c3:=hc 3 (by omega) (by omega);have d1:=fX.1 c1;have d2:=fX.1 c2;have d3:=fX.1 c3;rw[e1]at hv;have nq:v=64*(64*(64*((jE l 0:Int)-240)+jE l 1-128)+jE l 2-128)+jE l 3-128:=by rw[hv];show 64*(64*(64*sx (jE l 0)+_-_)+_-_)+_-_=_;rw[e3]
  rw[if_neg (by omega),if_neg (by omega),if_neg (by omega),if_pos ⟨⟨⟨by omega,c1⟩,c2⟩,c3⟩,e2,e1];by_cases hx:v<65536∨v>1114111∨(55296≤v∧v≤57343)
  ·rw[if_pos hx,if_neg (by omega)]
  ·rw[if_neg hx,if_pos (by omega)];simp only[Prod.mk.injEq];omega
end Go.K
namespace Go.K
open Go.Proofs
set_option maxRecDepth 10000
theorem y4 (c:Int) (w0:World):
  Spec Tryz.prog 253 #[.int .i64 c] w0 (fun v w=>v= .bool (fh c)∧w=w0):=by
 refine bu (args:=[_]) (fn:=Tryz.f253) Tryz.func253 rfl (n:=31) Tryz.ntmps253 (al (aj (ak rfl rfl (ae (al (al (aj (ah rfl rfl (ek rfl rfl rfl (ah rfl rfl ?_))))))))));refine aR (g:=5) rfl (fun ib=>?_) (fun ib=>?_)
 ·refine aq rfl rfl (ah rfl rfl (aq rfl rfl (fq rfl rfl rfl (aW rfl rfl rfl (ah rfl rfl ?_)))));refine aR (g:=9) rfl (fun y3=>?_) (fun y3=>?_)
  ·refine au rfl rfl rfl rfl (au rfl rfl rfl rfl (au rfl rfl rfl rfl (cH rfl rfl rfl (cH rfl rfl rfl (au rfl rfl rfl rfl (aW rfl rfl rfl (ae (kW rfl (al (aj (ak rfl rfl ?_)))))))))));refine ae (aQ ?_);exact aV rfl rfl ⟨by simp only[fh];first|rfl|(congr 1;first|(exact(decide_eq_true (by omega)).symm)|(exact(decide_eq_false (by omega)).symm)|(exact decide_eq_decide.2 (by omega))),rfl⟩
  ·refine aq rfl rfl (ah rfl rfl (aq rfl rfl (ek rfl rfl rfl (aq rfl rfl (ah rfl rfl ?_)))));refine aR (g:=12) rfl (fun qt=>?_) (fun qt=>?_)
   ·refine aq rfl rfl (ah rfl rfl (aq rfl rfl (fq rfl rfl rfl (aq rfl rfl (aW rfl rfl rfl (aJ rfl rfl rfl (ae ?_)))))));refine bQ rfl (fun c1=>?_) (fun c1=>?_)
    ·refine al (aj (ak rfl rfl (ae (aQ ?_))));exact aV rfl rfl ⟨by simp only[fh];first|rfl|(congr 1;first|(exact(decide_eq_true (by omega)).symm)|(exact(decide_eq_false (by omega)).symm)|(exact decide_eq_decide.2 (by omega))),rfl⟩
    ·refine aZ (al (aj (ah rfl rfl (ek rfl rfl rfl (ah rfl rfl ?_)))));refine aR (g:=19) rfl (fun Cv=>?_) (fun Cv=>?_)
     ·refine aq rfl rfl (ah rfl rfl (aq rfl rfl (fq rfl rfl rfl (aW rfl rfl rfl (ah rfl rfl ?_)))));refine aR (g:=23) rfl (fun xm=>?_) (fun xm=>?_)
      ·refine aq rfl rfl (ah rfl rfl (aq rfl rfl (eS rfl rfl rfl (aW rfl rfl rfl (ah rfl rfl ?_)))));refine aR (g:=27) rfl (fun vh=>?_) (fun vh=>?_)
       ·refine aq rfl rfl (ah rfl rfl (aq rfl rfl (eS rfl rfl rfl (aW rfl rfl rfl (ak rfl rfl (ae (aQ ?_)))))));exact aV rfl rfl ⟨by simp only[fh];first|rfl|(congr 1;first|(exact(decide_eq_true (by omega)).symm)|(exact(decide_eq_false (by omega)).symm)|(exact decide_eq_decide.2 (by omega))),rfl⟩
       ·refine au rfl rfl rfl rfl (au rfl rfl rfl rfl (aJ rfl rfl rfl (ak rfl rfl (ae (aQ ?_)))));exact aV rfl rfl ⟨by simp only[fh];first|rfl|(congr 1;first|(exact(decide_eq_true (by omega)).symm)|(exact(decide_eq_false (by omega)).symm)|(exact decide_eq_decide.2 (by omega))),rfl⟩
      ·refine au rfl rfl rfl rfl (au rfl rfl rfl rfl (aJ rfl rfl rfl (ah rfl rfl (au rfl rfl rfl rfl (au rfl rfl rfl rfl (aJ rfl rfl rfl (ak rfl rfl (ae (aQ ?_)))))))));exact aV rfl rfl ⟨by simp only[fh];first|rfl|(congr 1;first|(exact(decide_eq_true (by omega)).symm)|(exact(decide_eq_false (by omega)).symm)|(exact decide_eq_decide.2 (by omega))),rfl⟩
     ·refine au rfl rfl rfl rfl (au rfl rfl rfl rfl (aJ rfl rfl rfl (ah rfl rfl (au rfl rfl rfl rfl (au rfl rfl rfl rfl (aJ rfl rfl rfl (ah rfl rfl (au rfl rfl rfl rfl (au rfl rfl rfl rfl (aJ rfl rfl rfl (ak rfl rfl ?_)))))))))));refine ae (aQ ?_);exact aV rfl rfl ⟨by simp only[fh];first|rfl|(congr 1;first|(exact(decide_eq_true (by omega)).symm)|(exact(decide_eq_false (by omega)).symm)|(exact decide_eq_decide.2 (by omega))),rfl⟩
   ·refine au rfl rfl rfl rfl (au rfl rfl rfl rfl (aq rfl rfl (aJ rfl rfl rfl (aJ rfl rfl rfl (ae (iY rfl (aZ (al (aj (ah rfl rfl (ek rfl rfl rfl ?_)))))))))));refine ah rfl rfl ?_;refine aR (g:=19) rfl (fun Cv=>?_) (fun Cv=>?_)
    ·refine aq rfl rfl (ah rfl rfl (aq rfl rfl (fq rfl rfl rfl (aW rfl rfl rfl (ah rfl rfl ?_)))));refine aR (g:=23) rfl (fun xm=>?_) (fun xm=>?_)
     ·refine aq rfl rfl (ah rfl rfl (aq rfl rfl (eS rfl rfl rfl (aW rfl rfl rfl (ah rfl rfl ?_)))));refine aR (g:=27) rfl (fun vh=>?_) (fun vh=>?_)
      ·refine aq rfl rfl (ah rfl rfl (aq rfl rfl (eS rfl rfl rfl (aW rfl rfl rfl (ak rfl rfl (ae (aQ ?_)))))));exact aV rfl rfl ⟨by simp only[fh];first|rfl|(congr 1;first|(exact(decide_eq_true (by omega)).symm)|(exact(decide_eq_false (by omega)).symm)|(exact decide_eq_decide.2 (by omega))),rfl⟩
      ·refine au rfl rfl rfl rfl (au rfl rfl rfl rfl (aJ rfl rfl rfl (ak rfl rfl (ae (aQ ?_)))));exact aV rfl rfl ⟨by simp only[fh];first|rfl|(congr 1;first|(exact(decide_eq_true (by omega)).symm)|(exact(decide_eq_false (by omega)).symm)|(exact decide_eq_decide.2 (by omega))),rfl⟩
     ·refine au rfl rfl rfl rfl (au rfl rfl rfl rfl (aJ rfl rfl rfl (ah rfl rfl (au rfl rfl rfl rfl (au rfl rfl rfl rfl (aJ rfl rfl rfl (ak rfl rfl (ae (aQ ?_)))))))));exact aV rfl rfl ⟨by simp only[fh];first|rfl|(congr 1;first|(exact(decide_eq_true (by omega)).symm)|(exact(decide_eq_false (by omega)).symm)|(exact decide_eq_decide.2 (by omega))),rfl⟩
    ·refine au rfl rfl rfl rfl (au rfl rfl rfl rfl (aJ rfl rfl rfl (ah rfl rfl (au rfl rfl rfl rfl (au rfl rfl rfl rfl (aJ rfl rfl rfl (ah rfl rfl (au rfl rfl rfl rfl (au rfl rfl rfl rfl (aJ rfl rfl rfl (ak rfl rfl ?_)))))))))));refine ae (aQ ?_);exact aV rfl rfl ⟨by simp only[fh];first|rfl|(congr 1;first|(exact(decide_eq_true (by omega)).symm)|(exact(decide_eq_false (by omega)).symm)|(exact decide_eq_decide.2 (by omega))),rfl⟩
 ·refine au rfl rfl rfl rfl (au rfl rfl rfl rfl (aJ rfl rfl rfl (ah rfl rfl (aq rfl rfl (ah rfl rfl (aq rfl rfl (ek rfl rfl rfl (aq rfl rfl (ah rfl rfl ?_)))))))));refine aR (g:=12) rfl (fun qt=>?_) (fun qt=>?_)
  ·refine aq rfl rfl (ah rfl rfl (aq rfl rfl (fq rfl rfl rfl (aq rfl rfl (aW rfl rfl rfl (aJ rfl rfl rfl (ae ?_)))))));refine bQ rfl (fun c1=>?_) (fun c1=>?_)
   ·refine al (aj (ak rfl rfl (ae (aQ ?_))));exact aV rfl rfl ⟨by simp only[fh];first|rfl|(congr 1;first|(exact(decide_eq_true (by omega)).symm)|(exact(decide_eq_false (by omega)).symm)|(exact decide_eq_decide.2 (by omega))),rfl⟩
   ·refine aZ (al (aj (ah rfl rfl (ek rfl rfl rfl (ah rfl rfl ?_)))));refine aR (g:=19) rfl (fun Cv=>?_) (fun Cv=>?_)
    ·refine aq rfl rfl (ah rfl rfl (aq rfl rfl (fq rfl rfl rfl (aW rfl rfl rfl (ah rfl rfl ?_)))));refine aR (g:=23) rfl (fun xm=>?_) (fun xm=>?_)
     ·refine aq rfl rfl (ah rfl rfl (aq rfl rfl (eS rfl rfl rfl (aW rfl rfl rfl (ah rfl rfl ?_)))));refine aR (g:=27) rfl (fun vh=>?_) (fun vh=>?_)
      ·refine aq rfl rfl (ah rfl rfl (aq rfl rfl (eS rfl rfl rfl (aW rfl rfl rfl (ak rfl rfl (ae (aQ ?_)))))));exact aV rfl rfl ⟨by simp only[fh];first|rfl|(congr 1;first|(exact(decide_eq_true (by omega)).symm)|(exact(decide_eq_false (by omega)).symm)|(exact decide_eq_decide.2 (by omega))),rfl⟩
      ·refine au rfl rfl rfl rfl (au rfl rfl rfl rfl (aJ rfl rfl rfl (ak rfl rfl (ae (aQ ?_)))));exact aV rfl rfl ⟨by simp only[fh];first|rfl|(congr 1;first|(exact(decide_eq_true (by omega)).symm)|(exact(decide_eq_false (by omega)).symm)|(exact decide_eq_decide.2 (by omega))),rfl⟩
     ·refine au rfl rfl rfl rfl (au rfl rfl rfl rfl (aJ rfl rfl rfl (ah rfl rfl (au rfl rfl rfl rfl (au rfl rfl rfl rfl (aJ rfl rfl rfl (ak rfl rfl (ae (aQ ?_)))))))));exact aV rfl rfl ⟨by simp only[fh];first|rfl|(congr 1;first|(exact(decide_eq_true (by omega)).symm)|(exact(decide_eq_false (by omega)).symm)|(exact decide_eq_decide.2 (by omega))),rfl⟩
    ·refine au rfl rfl rfl rfl (au rfl rfl rfl rfl (aJ rfl rfl rfl (ah rfl rfl (au rfl rfl rfl rfl (au rfl rfl rfl rfl (aJ rfl rfl rfl (ah rfl rfl (au rfl rfl rfl rfl (au rfl rfl rfl rfl (aJ rfl rfl rfl (ak rfl rfl ?_)))))))))));refine ae (aQ ?_);exact aV rfl rfl ⟨by simp only[fh];first|rfl|(congr 1;first|(exact(decide_eq_true (by omega)).symm)|(exact(decide_eq_false (by omega)).symm)|(exact decide_eq_decide.2 (by omega))),rfl⟩
  ·refine au rfl rfl rfl rfl (au rfl rfl rfl rfl (aq rfl rfl (aJ rfl rfl rfl (aJ rfl rfl rfl (ae (iY rfl (aZ (al (aj (ah rfl rfl (ek rfl rfl rfl ?_)))))))))));refine ah rfl rfl ?_;refine aR (g:=19) rfl (fun Cv=>?_) (fun Cv=>?_)
   ·refine aq rfl rfl (ah rfl rfl (aq rfl rfl (fq rfl rfl rfl (aW rfl rfl rfl (ah rfl rfl ?_)))));refine aR (g:=23) rfl (fun xm=>?_) (fun xm=>?_)
    ·refine aq rfl rfl (ah rfl rfl (aq rfl rfl (eS rfl rfl rfl (aW rfl rfl rfl (ah rfl rfl ?_)))));refine aR (g:=27) rfl (fun vh=>?_) (fun vh=>?_)
     ·refine aq rfl rfl (ah rfl rfl (aq rfl rfl (eS rfl rfl rfl (aW rfl rfl rfl (ak rfl rfl (ae (aQ ?_)))))));exact aV rfl rfl ⟨by simp only[fh];first|rfl|(congr 1;first|(exact(decide_eq_true (by omega)).symm)|(exact(decide_eq_false (by omega)).symm)|(exact decide_eq_decide.2 (by omega))),rfl⟩
     ·refine au rfl rfl rfl rfl (au rfl rfl rfl rfl (aJ rfl rfl rfl (ak rfl rfl (ae (aQ ?_)))));exact aV rfl rfl ⟨by simp only[fh];first|rfl|(congr 1;first|(exact(decide_eq_true (by omega)).symm)|(exact(decide_eq_false (by omega)).symm)|(exact decide_eq_decide.2 (by omega))),rfl⟩
    ·refine au rfl rfl rfl rfl (au rfl rfl rfl rfl (aJ rfl rfl rfl (ah rfl rfl (au rfl rfl rfl rfl (au rfl rfl rfl rfl (aJ rfl rfl rfl (ak rfl rfl (ae (aQ ?_)))))))));exact aV rfl rfl ⟨by simp only[fh];first|rfl|(congr 1;first|(exact(decide_eq_true (by omega)).symm)|(exact(decide_eq_false (by omega)).symm)|(exact decide_eq_decide.2 (by omega))),rfl⟩
   ·refine au rfl rfl rfl rfl (au rfl rfl rfl rfl (aJ rfl rfl rfl (ah rfl rfl (au rfl rfl rfl rfl (au rfl rfl rfl rfl (aJ rfl rfl rfl (ah rfl rfl (au rfl rfl rfl rfl (au rfl rfl rfl rfl (aJ rfl rfl rfl (ak rfl rfl ?_)))))))))));refine ae (aQ ?_);exact aV rfl rfl ⟨by simp only[fh];first|rfl|(congr 1;first|(exact(decide_eq_true (by omega)).symm)|(exact(decide_eq_false (by omega)).symm)|(exact decide_eq_decide.2 (by omega))),rfl⟩
theorem Cw (c:Int) (w0:World) (hc:0≤c∧c≤1114111):
  Spec Tryz.prog 218 #[.int .i64 c] w0 (fun v w=>v= .int .i64 (fm c)∧w=w0):=by
 refine bu (args:=[_]) (fn:=Tryz.f218) Tryz.func218 rfl (n:=28) Tryz.ntmps218 (al (aj (ak rfl rfl (ae (al (al (aj (ah rfl rfl (ek rfl rfl rfl (ah rfl rfl ?_))))))))));refine aR (g:=5) rfl (fun ib=>?_) (fun ib=>?_)
 ·refine aq rfl rfl (ah rfl rfl (aq rfl rfl (fq rfl rfl rfl (aW rfl rfl rfl (ah rfl rfl ?_)))));refine aR (g:=9) rfl (fun y3=>?_) (fun y3=>?_)
  ·refine au rfl rfl rfl rfl (au rfl rfl rfl rfl (au rfl rfl rfl rfl (cH rfl rfl rfl (cH rfl rfl rfl (au rfl rfl rfl rfl (aW rfl rfl rfl (ah rfl rfl (au rfl rfl rfl rfl (au rfl rfl rfl rfl (au rfl rfl rfl rfl (cH rfl rfl rfl ?_)))))))))));refine cH rfl rfl rfl (au rfl rfl rfl rfl (aW rfl rfl rfl (ae (kW rfl (al (aj (ah rfl rfl (bI rfl rfl rfl (by omega) (ak rfl rfl (ae (aQ ?_)))))))))));exact aV rfl rfl ⟨by rw[fm,if_pos (by omega)],rfl⟩
  ·refine aq rfl rfl (ah rfl rfl (aq rfl rfl (ek rfl rfl rfl (aq rfl rfl (ah rfl rfl ?_)))));refine aR (g:=12) rfl (fun qt=>?_) (fun qt=>?_)
   ·refine aq rfl rfl (ah rfl rfl (aq rfl rfl (fq rfl rfl rfl (aq rfl rfl (aW rfl rfl rfl (aJ rfl rfl rfl (ah rfl rfl ?_)))))));refine aR (g:=17) rfl (fun uZ=>?_) (fun uZ=>?_)
    ·refine au rfl rfl rfl rfl (au rfl rfl rfl rfl (au rfl rfl rfl rfl (cH rfl rfl rfl (cH rfl rfl rfl (au rfl rfl rfl rfl (aW rfl rfl rfl (ae (kW rfl (al (aj (ah rfl rfl ?_)))))))))));refine bI rfl rfl rfl (by omega) (ak rfl rfl (ae (aQ ?_)));exact aV rfl rfl ⟨by rw[fm,if_pos (by omega)],rfl⟩
    ·refine aq rfl rfl (ah rfl rfl (aq rfl rfl (ek rfl rfl rfl (aq rfl rfl (ah rfl rfl ?_)))));refine aR (g:=20) rfl (fun lD=>?_) (fun lD=>?_)
     ·refine aq rfl rfl (ah rfl rfl (aq rfl rfl (fq rfl rfl rfl (aq rfl rfl (aW rfl rfl rfl (aJ rfl rfl rfl (ae ?_)))))));refine bQ rfl (fun c1=>?_) (fun c1=>?_)
      ·refine al (aj (ah rfl rfl (bI rfl rfl rfl (by omega) (ak rfl rfl (ae (aQ ?_))))));exact aV rfl rfl ⟨by rw[fm,if_pos (by omega)],rfl⟩
      ·refine aZ (al (aj (ah rfl rfl (ak rfl rfl (ae (aQ ?_))))));exact aV rfl rfl ⟨by rw[fm,if_neg (by omega)],rfl⟩
     ·refine au rfl rfl rfl rfl (au rfl rfl rfl rfl (aq rfl rfl (aJ rfl rfl rfl (aJ rfl rfl rfl (ae (iY rfl (aZ (al (aj (ah rfl rfl (ak rfl rfl ?_)))))))))));refine ae (aQ ?_);exact aV rfl rfl ⟨by rw[fm,if_neg (by omega)],rfl⟩
   ·refine au rfl rfl rfl rfl (au rfl rfl rfl rfl (aq rfl rfl (aJ rfl rfl rfl (aJ rfl rfl rfl (ah rfl rfl (aq rfl rfl (ah rfl rfl (aq rfl rfl (ek rfl rfl rfl (aq rfl rfl (ah rfl rfl ?_)))))))))));refine aR (g:=20) rfl (fun lD=>?_) (fun lD=>?_)
    ·refine aq rfl rfl (ah rfl rfl (aq rfl rfl (fq rfl rfl rfl (aq rfl rfl (aW rfl rfl rfl (aJ rfl rfl rfl (ae ?_)))))));refine bQ rfl (fun c1=>?_) (fun c1=>?_)
     ·refine al (aj (ah rfl rfl (bI rfl rfl rfl (by omega) (ak rfl rfl (ae (aQ ?_))))));exact aV rfl rfl ⟨by rw[fm,if_pos (by omega)],rfl⟩
     ·refine aZ (al (aj (ah rfl rfl (ak rfl rfl (ae (aQ ?_))))));exact aV rfl rfl ⟨by rw[fm,if_neg (by omega)],rfl⟩
    ·refine au rfl rfl rfl rfl (au rfl rfl rfl rfl (aq rfl rfl (aJ rfl rfl rfl (aJ rfl rfl rfl (ae (iY rfl (aZ (al (aj (ah rfl rfl (ak rfl rfl ?_)))))))))));refine ae (aQ ?_);exact aV rfl rfl ⟨by rw[fm,if_neg (by omega)],rfl⟩
 ·refine au rfl rfl rfl rfl (au rfl rfl rfl rfl (aJ rfl rfl rfl (ah rfl rfl (aq rfl rfl (ah rfl rfl (aq rfl rfl (ek rfl rfl rfl (aq rfl rfl (ah rfl rfl ?_)))))))));refine aR (g:=12) rfl (fun qt=>?_) (fun qt=>?_)
  ·refine aq rfl rfl (ah rfl rfl (aq rfl rfl (fq rfl rfl rfl (aq rfl rfl (aW rfl rfl rfl (aJ rfl rfl rfl (ah rfl rfl ?_)))))));refine aR (g:=17) rfl (fun uZ=>?_) (fun uZ=>?_)
   ·refine au rfl rfl rfl rfl (au rfl rfl rfl rfl (au rfl rfl rfl rfl (cH rfl rfl rfl (cH rfl rfl rfl (au rfl rfl rfl rfl (aW rfl rfl rfl (ae (kW rfl (al (aj (ah rfl rfl ?_)))))))))));refine bI rfl rfl rfl (by omega) (ak rfl rfl (ae (aQ ?_)));exact aV rfl rfl ⟨by rw[fm,if_pos (by omega)],rfl⟩
   ·refine aq rfl rfl (ah rfl rfl (aq rfl rfl (ek rfl rfl rfl (aq rfl rfl (ah rfl rfl ?_)))));refine aR (g:=20) rfl (fun lD=>?_) (fun lD=>?_)
    ·refine aq rfl rfl (ah rfl rfl (aq rfl rfl (fq rfl rfl rfl (aq rfl rfl (aW rfl rfl rfl (aJ rfl rfl rfl (ae ?_)))))));refine bQ rfl (fun c1=>?_) (fun c1=>?_)
     ·refine al (aj (ah rfl rfl (bI rfl rfl rfl (by omega) (ak rfl rfl (ae (aQ ?_))))));exact aV rfl rfl ⟨by rw[fm,if_pos (by omega)],rfl⟩
     ·refine aZ (al (aj (ah rfl rfl (ak rfl rfl (ae (aQ ?_))))));exact aV rfl rfl ⟨by rw[fm,if_neg (by omega)],rfl⟩
    ·refine au rfl rfl rfl rfl (au rfl rfl rfl rfl (aq rfl rfl (aJ rfl rfl rfl (aJ rfl rfl rfl (ae (iY rfl (aZ (al (aj (ah rfl rfl (ak rfl rfl ?_)))))))))));refine ae (aQ ?_);exact aV rfl rfl ⟨by rw[fm,if_neg (by omega)],rfl⟩
  ·refine au rfl rfl rfl rfl (au rfl rfl rfl rfl (aq rfl rfl (aJ rfl rfl rfl (aJ rfl rfl rfl (ah rfl rfl (aq rfl rfl (ah rfl rfl (aq rfl rfl (ek rfl rfl rfl (aq rfl rfl (ah rfl rfl ?_)))))))))));refine aR (g:=20) rfl (fun lD=>?_) (fun lD=>?_)
   ·refine aq rfl rfl (ah rfl rfl (aq rfl rfl (fq rfl rfl rfl (aq rfl rfl (aW rfl rfl rfl (aJ rfl rfl rfl (ae ?_)))))));refine bQ rfl (fun c1=>?_) (fun c1=>?_)
    ·refine al (aj (ah rfl rfl (bI rfl rfl rfl (by omega) (ak rfl rfl (ae (aQ ?_))))));exact aV rfl rfl ⟨by rw[fm,if_pos (by omega)],rfl⟩
    ·refine aZ (al (aj (ah rfl rfl (ak rfl rfl (ae (aQ ?_))))));exact aV rfl rfl ⟨by rw[fm,if_neg (by omega)],rfl⟩
   ·refine au rfl rfl rfl rfl (au rfl rfl rfl rfl (aq rfl rfl (aJ rfl rfl rfl (aJ rfl rfl rfl (ae (iY rfl (aZ (al (aj (ah rfl rfl (ak rfl rfl ?_)))))))))));refine ae (aQ ?_);exact aV rfl rfl ⟨by rw[fm,if_neg (by omega)],rfl⟩
def uq (c:Int):Bool:=decide (fh c=true∨ny c=true)
theorem AN (c:Int) (w0:World):
  Spec Tryz.prog 217 #[.int .i64 c] w0 (fun v w=>v= .bool (uq c)∧w=w0):=by
 refine bu (args:=[_]) (fn:=Tryz.f217) Tryz.func217 rfl (n:=13) Tryz.ntmps217 (al (aj (ak rfl rfl (ae (al (aj (ah rfl rfl ?_)))))));refine aP rfl rfl Ye (y4 _ _) (fun r wc hc=>?_);obtain⟨rfl,rfl⟩:=hc;refine bO (v':= .bool (decide (fh c=true))) (by cases fh c<;>rfl) (ah rfl rfl ?_);refine aR (g:=5) rfl (fun ib=>?_) (fun ib=>?_)
 ·refine au rfl rfl rfl rfl (au rfl rfl rfl rfl (au rfl rfl rfl rfl (cH rfl rfl rfl (cH rfl rfl rfl (au rfl rfl rfl rfl (aW rfl rfl rfl (ak rfl rfl (ae (aQ ?_)))))))));have e:(ny c=true)=(48≤c∧c≤57):=by simp[ny]
  exact aV rfl rfl ⟨by simp only[uq,e];first|(congr 1;first|(exact(decide_eq_true (.inl (by assumption))).symm)|(exact(decide_eq_true (.inr (by omega))).symm)|(exact(decide_eq_false (by rintro(h|h)<;>first|exact absurd h (by assumption)|omega)).symm)|(exact decide_eq_decide.2 ⟨fun h=> .inr (by omega),fun h=>h.elim (fun h=>absurd h (by assumption)) (fun h=>by omega)⟩)),rfl⟩
 ·refine aq rfl rfl (ah rfl rfl (aq rfl rfl (ek rfl rfl rfl (aq rfl rfl (ah rfl rfl ?_)))));refine aR (g:=8) rfl (fun sy=>?_) (fun sy=>?_)
  ·refine aq rfl rfl (ah rfl rfl (aq rfl rfl (fq rfl rfl rfl (aq rfl rfl (aW rfl rfl rfl (aJ rfl rfl rfl (ak rfl rfl (ae (aQ ?_)))))))));have e:(ny c=true)=(48≤c∧c≤57):=by simp[ny]
   exact aV rfl rfl ⟨by simp only[uq,e];first|(congr 1;first|(exact(decide_eq_true (.inl (by assumption))).symm)|(exact(decide_eq_true (.inr (by omega))).symm)|(exact(decide_eq_false (by rintro(h|h)<;>first|exact absurd h (by assumption)|omega)).symm)|(exact decide_eq_decide.2 ⟨fun h=> .inr (by omega),fun h=>h.elim (fun h=>absurd h (by assumption)) (fun h=>by omega)⟩)),rfl⟩
  ·refine au rfl rfl rfl rfl (au rfl rfl rfl rfl (aq rfl rfl (aJ rfl rfl rfl (aJ rfl rfl rfl (ak rfl rfl (ae (aQ ?_)))))));have e:(ny c=true)=(48≤c∧c≤57):=by simp[ny]
   exact aV rfl rfl ⟨by simp only[uq,e];first|(congr 1;first|(exact(decide_eq_true (.inl (by assumption))).symm)|(exact(decide_eq_true (.inr (by omega))).symm)|(exact(decide_eq_false (by rintro(h|h)<;>first|exact absurd h (by assumption)|omega)).symm)|(exact decide_eq_decide.2 ⟨fun h=> .inr (by omega),fun h=>h.elim (fun h=>absurd h (by assumption)) (fun h=>by omega)⟩)),rfl⟩
theorem Oc {l:List UInt8} {c:Int} (hc:c=(jE l 0:Int)) (hn:nO c≠0):∀{k:Nat},(∀j:Nat,1≤j→j<k+1→jv l j=true)→k≤3→0≤vO l k∧vO l k≤100000000:=by
 have key:∀k:Nat,(∀j:Nat,1≤j→j<k+1→jv l j=true)→0≤vO l k∧vO l k≤33*64^k-1:=by
  intro k
  induction k with
  |zero=>
   intro _;have:=mO hn;show 0≤sx (jE l 0:Int)∧sx (jE l 0:Int)≤33*64^0-1;rw[←hc];simp only[Int.pow_zero];omega
  |succ k ih=>
   intro h;have h1:=ih fun j h2 h3=>h j h2 (by omega)
   have h2:=fX.1 (h (k+1) (by omega) (by omega));show 0≤64*vO l k+_-128∧64*vO l k+_-128≤_;rw[Int.pow_succ];omega
 intro k h hk;have:=key k h
 have h3:(64:Int)^k≤262144:=by
  rcases(show k=0∨k=1∨k=2∨k=3 by omega)with rfl|rfl|rfl|rfl<;>decide
 omega
theorem G6 {l:List UInt8} (w0:World) (hl:l≠[]) (hlen:l.length≤1000000):
  Spec Tryz.prog 252 #[.string ⟨l.toArray⟩] w0 (fun v w=>v= .tuple #[.int .i64 ((dec l).1:Int),.int .i64 ((dec l).2:Int)]∧w=w0):=by
 have Ab:0<l.length:=ij.2 hl;have YH:=nv l 0;obtain⟨c,hc⟩:∃c:Int,c=(jE l 0:Int):=⟨_,rfl⟩;have hcr:0≤c∧c<256:=by omega
 refine bu (args:=[_]) (fn:=Tryz.f252) Tryz.func252 rfl (n:=85) Tryz.ntmps252 (al (aj (ak rfl rfl (ak rfl rfl (ae (al (aj (ah rfl rfl ?_))))))));refine Rg.DT (c:=l.getD 0 0) aD rfl rfl rfl (by decide) (by rw[cZ];show l[0]? =_;rw[av Ab];rfl) ?_;refine bO (v':= .int .u8 c) (by rw[hc];rfl) (Rg.yE cM az rfl rfl (by omega) (ak rfl rfl (ae (al (al (aj (ah rfl rfl (cz rfl rfl rfl (ae ?_)))))))));refine bQ rfl (fun c2=>?_) (fun c2=>?_)
 ·refine al (aj (ah rfl rfl (ak rfl rfl (ak rfl rfl (ae (aQ ?_))))));exact fa rfl rfl rfl ⟨by rw[Sz (by omega),hc];rfl,rfl⟩
 ·refine aZ (al (aj (ak rfl rfl (ae (al (aj (ak rfl rfl (ae (al (aj (ak rfl rfl ?_)))))))))));refine ae ?_;refine T.qY [(0,.string ⟨l.toArray⟩),(4,.int .i64 c),(5,.int .i64 (nO c)),(6,.int .i64 (gr c)),(7,.int .i64 (sx c))] ?_ ?_
  ·refine al (aj (ah rfl rfl (ek rfl rfl rfl (ah rfl rfl ?_))));refine aR (g:=18) rfl (fun YM=>?_) (fun YM=>?_)
   ·refine aq rfl rfl (ah rfl rfl (aq rfl rfl (cz rfl rfl rfl (aW rfl rfl rfl (ae ?_)))));refine bQ rfl (fun c7=>?_) (fun c7=>?_)
    ·refine al (aj (ak rfl rfl (ae (al (aj (ak rfl rfl (ae (aj (ah rfl rfl (gJ rfl rfl rfl (by omega) (ak rfl rfl ?_)))))))))));refine ae ?_;exact⟨rfl,rfl,rfl,.cons rfl (.cons rfl (.cons (congrArg (fun z=>some (Value.int .i64 z)) (by first|(exfalso;omega)|(unfold nO;repeat (first|rw[if_pos (by omega)]|rw[if_neg (by omega)])))) (.cons (congrArg (fun z=>some (Value.int .i64 z)) (by first|(exfalso;omega)|(unfold gr;repeat (first|rw[if_pos (by omega)]|rw[if_neg (by omega)])))) (.cons (congrArg (fun z=>some (Value.int .i64 z)) (by first|(exfalso;omega)|(unfold sx;repeat (first|rw[if_pos (by omega)]|rw[if_neg (by omega)])))) (.nil)))))⟩
    ·refine al (aj (ah rfl rfl (ek rfl rfl rfl (ah rfl rfl ?_))));refine aR (g:=26) rfl (fun G7=>?_) (fun G7=>?_)
     ·refine aq rfl rfl (ah rfl rfl (aq rfl rfl (cz rfl rfl rfl (aW rfl rfl rfl (ae ?_)))));refine bQ rfl (fun SC=>?_) (fun SC=>?_)
      ·refine al (aj (ak rfl rfl (ae (al (aj (ak rfl rfl (ae (aj (ah rfl rfl (gJ rfl rfl rfl (by omega) (ak rfl rfl ?_)))))))))));refine ae ?_;exact⟨rfl,rfl,rfl,.cons rfl (.cons rfl (.cons (congrArg (fun z=>some (Value.int .i64 z)) (by first|(exfalso;omega)|(unfold nO;repeat (first|rw[if_pos (by omega)]|rw[if_neg (by omega)])))) (.cons (congrArg (fun z=>some (Value.int .i64 z)) (by first|(exfalso;omega)|(unfold gr;repeat (first|rw[if_pos (by omega)]|rw[if_neg (by omega)])))) (.cons (congrArg (fun z=>some (Value.int .i64 z)) (by first|(exfalso;omega)|(unfold sx;repeat (first|rw[if_pos (by omega)]|rw[if_neg (by omega)])))) (.nil)))))⟩
      ·refine al (aj (ah rfl rfl (ek rfl rfl rfl (ah rfl rfl ?_))));refine aR (g:=34) rfl (fun vq=>?_) (fun vq=>?_)
       ·refine aq rfl rfl (ah rfl rfl (aq rfl rfl (cz rfl rfl rfl (aW rfl rfl rfl (ae ?_)))));refine bQ rfl (fun Od=>?_) (fun Od=>?_)
        ·refine al (aj (ak rfl rfl (ae (al (aj (ak rfl rfl (ae (aj (ah rfl rfl (gJ rfl rfl rfl (by omega) (ak rfl rfl ?_)))))))))));refine ae ?_;exact⟨rfl,rfl,rfl,.cons rfl (.cons rfl (.cons (congrArg (fun z=>some (Value.int .i64 z)) (by first|(exfalso;omega)|(unfold nO;repeat (first|rw[if_pos (by omega)]|rw[if_neg (by omega)])))) (.cons (congrArg (fun z=>some (Value.int .i64 z)) (by first|(exfalso;omega)|(unfold gr;repeat (first|rw[if_pos (by omega)]|rw[if_neg (by omega)])))) (.cons (congrArg (fun z=>some (Value.int .i64 z)) (by first|(exfalso;omega)|(unfold sx;repeat (first|rw[if_pos (by omega)]|rw[if_neg (by omega)])))) (.nil)))))⟩
        ·refine aZ ?_;exact⟨rfl,rfl,rfl,.cons rfl (.cons rfl (.cons (congrArg (fun z=>some (Value.int .i64 z)) (by first|(exfalso;omega)|(unfold nO;repeat (first|rw[if_pos (by omega)]|rw[if_neg (by omega)])))) (.cons (congrArg (fun z=>some (Value.int .i64 z)) (by first|(exfalso;omega)|(unfold gr;repeat (first|rw[if_pos (by omega)]|rw[if_neg (by omega)])))) (.cons (congrArg (fun z=>some (Value.int .i64 z)) (by first|(exfalso;omega)|(unfold sx;repeat (first|rw[if_pos (by omega)]|rw[if_neg (by omega)])))) (.nil)))))⟩
       ·refine au rfl rfl rfl rfl (au rfl rfl rfl rfl (aJ rfl rfl rfl (ae (iY rfl (aZ ?_)))));exact⟨rfl,rfl,rfl,.cons rfl (.cons rfl (.cons (congrArg (fun z=>some (Value.int .i64 z)) (by first|(exfalso;omega)|(unfold nO;repeat (first|rw[if_pos (by omega)]|rw[if_neg (by omega)])))) (.cons (congrArg (fun z=>some (Value.int .i64 z)) (by first|(exfalso;omega)|(unfold gr;repeat (first|rw[if_pos (by omega)]|rw[if_neg (by omega)])))) (.cons (congrArg (fun z=>some (Value.int .i64 z)) (by first|(exfalso;omega)|(unfold sx;repeat (first|rw[if_pos (by omega)]|rw[if_neg (by omega)])))) (.nil)))))⟩
     ·refine au rfl rfl rfl rfl (au rfl rfl rfl rfl (aJ rfl rfl rfl (ae (iY rfl (al (aj (ah rfl rfl (ek rfl rfl rfl (ah rfl rfl ?_)))))))));refine aR (g:=34) rfl (fun vq=>?_) (fun vq=>?_)
      ·refine aq rfl rfl (ah rfl rfl (aq rfl rfl (cz rfl rfl rfl (aW rfl rfl rfl (ae ?_)))));refine bQ rfl (fun Od=>?_) (fun Od=>?_)
       ·refine al (aj (ak rfl rfl (ae (al (aj (ak rfl rfl (ae (aj (ah rfl rfl (gJ rfl rfl rfl (by omega) (ak rfl rfl ?_)))))))))));refine ae ?_;exact⟨rfl,rfl,rfl,.cons rfl (.cons rfl (.cons (congrArg (fun z=>some (Value.int .i64 z)) (by first|(exfalso;omega)|(unfold nO;repeat (first|rw[if_pos (by omega)]|rw[if_neg (by omega)])))) (.cons (congrArg (fun z=>some (Value.int .i64 z)) (by first|(exfalso;omega)|(unfold gr;repeat (first|rw[if_pos (by omega)]|rw[if_neg (by omega)])))) (.cons (congrArg (fun z=>some (Value.int .i64 z)) (by first|(exfalso;omega)|(unfold sx;repeat (first|rw[if_pos (by omega)]|rw[if_neg (by omega)])))) (.nil)))))⟩
       ·refine aZ ?_;exact⟨rfl,rfl,rfl,.cons rfl (.cons rfl (.cons (congrArg (fun z=>some (Value.int .i64 z)) (by first|(exfalso;omega)|(unfold nO;repeat (first|rw[if_pos (by omega)]|rw[if_neg (by omega)])))) (.cons (congrArg (fun z=>some (Value.int .i64 z)) (by first|(exfalso;omega)|(unfold gr;repeat (first|rw[if_pos (by omega)]|rw[if_neg (by omega)])))) (.cons (congrArg (fun z=>some (Value.int .i64 z)) (by first|(exfalso;omega)|(unfold sx;repeat (first|rw[if_pos (by omega)]|rw[if_neg (by omega)])))) (.nil)))))⟩
      ·refine au rfl rfl rfl rfl (au rfl rfl rfl rfl (aJ rfl rfl rfl (ae (iY rfl (aZ ?_)))));exact⟨rfl,rfl,rfl,.cons rfl (.cons rfl (.cons (congrArg (fun z=>some (Value.int .i64 z)) (by first|(exfalso;omega)|(unfold nO;repeat (first|rw[if_pos (by omega)]|rw[if_neg (by omega)])))) (.cons (congrArg (fun z=>some (Value.int .i64 z)) (by first|(exfalso;omega)|(unfold gr;repeat (first|rw[if_pos (by omega)]|rw[if_neg (by omega)])))) (.cons (congrArg (fun z=>some (Value.int .i64 z)) (by first|(exfalso;omega)|(unfold sx;repeat (first|rw[if_pos (by omega)]|rw[if_neg (by omega)])))) (.nil)))))⟩
   ·refine au rfl rfl rfl rfl (au rfl rfl rfl rfl (aJ rfl rfl rfl (ae (iY rfl (al (aj (ah rfl rfl (ek rfl rfl rfl (ah rfl rfl ?_)))))))));refine aR (g:=26) rfl (fun G7=>?_) (fun G7=>?_)
    ·refine aq rfl rfl (ah rfl rfl (aq rfl rfl (cz rfl rfl rfl (aW rfl rfl rfl (ae ?_)))));refine bQ rfl (fun SC=>?_) (fun SC=>?_)
     ·refine al (aj (ak rfl rfl (ae (al (aj (ak rfl rfl (ae (aj (ah rfl rfl (gJ rfl rfl rfl (by omega) (ak rfl rfl ?_)))))))))));refine ae ?_;exact⟨rfl,rfl,rfl,.cons rfl (.cons rfl (.cons (congrArg (fun z=>some (Value.int .i64 z)) (by first|(exfalso;omega)|(unfold nO;repeat (first|rw[if_pos (by omega)]|rw[if_neg (by omega)])))) (.cons (congrArg (fun z=>some (Value.int .i64 z)) (by first|(exfalso;omega)|(unfold gr;repeat (first|rw[if_pos (by omega)]|rw[if_neg (by omega)])))) (.cons (congrArg (fun z=>some (Value.int .i64 z)) (by first|(exfalso;omega)|(unfold sx;repeat (first|rw[if_pos (by omega)]|rw[if_neg (by omega)])))) (.nil)))))⟩
     ·refine al (aj (ah rfl rfl (ek rfl rfl rfl (ah rfl rfl ?_))));refine aR (g:=34) rfl (fun vq=>?_) (fun vq=>?_)
      ·refine aq rfl rfl (ah rfl rfl (aq rfl rfl (cz rfl rfl rfl (aW rfl rfl rfl (ae ?_)))));refine bQ rfl (fun Od=>?_) (fun Od=>?_)
       ·refine al (aj (ak rfl rfl (ae (al (aj (ak rfl rfl (ae (aj (ah rfl rfl (gJ rfl rfl rfl (by omega) (ak rfl rfl ?_)))))))))));refine ae ?_;exact⟨rfl,rfl,rfl,.cons rfl (.cons rfl (.cons (congrArg (fun z=>some (Value.int .i64 z)) (by first|(exfalso;omega)|(unfold nO;repeat (first|rw[if_pos (by omega)]|rw[if_neg (by omega)])))) (.cons (congrArg (fun z=>some (Value.int .i64 z)) (by first|(exfalso;omega)|(unfold gr;repeat (first|rw[if_pos (by omega)]|rw[if_neg (by omega)])))) (.cons (congrArg (fun z=>some (Value.int .i64 z)) (by first|(exfalso;omega)|(unfold sx;repeat (first|rw[if_pos (by omega)]|rw[if_neg (by omega)])))) (.nil)))))⟩
       ·refine aZ ?_;exact⟨rfl,rfl,rfl,.cons rfl (.cons rfl (.cons (congrArg (fun z=>some (Value.int .i64 z)) (by first|(exfalso;omega)|(unfold nO;repeat (first|rw[if_pos (by omega)]|rw[if_neg (by omega)])))) (.cons (congrArg (fun z=>some (Value.int .i64 z)) (by first|(exfalso;omega)|(unfold gr;repeat (first|rw[if_pos (by omega)]|rw[if_neg (by omega)])))) (.cons (congrArg (fun z=>some (Value.int .i64 z)) (by first|(exfalso;omega)|(unfold sx;repeat (first|rw[if_pos (by omega)]|rw[if_neg (by omega)])))) (.nil)))))⟩
      ·refine au rfl rfl rfl rfl (au rfl rfl rfl rfl (aJ rfl rfl rfl (ae (iY rfl (aZ ?_)))));exact⟨rfl,rfl,rfl,.cons rfl (.cons rfl (.cons (congrArg (fun z=>some (Value.int .i64 z)) (by first|(exfalso;omega)|(unfold nO;repeat (first|rw[if_pos (by omega)]|rw[if_neg (by omega)])))) (.cons (congrArg (fun z=>some (Value.int .i64 z)) (by first|(exfalso;omega)|(unfold gr;repeat (first|rw[if_pos (by omega)]|rw[if_neg (by omega)])))) (.cons (congrArg (fun z=>some (Value.int .i64 z)) (by first|(exfalso;omega)|(unfold sx;repeat (first|rw[if_pos (by omega)]|rw[if_neg (by omega)])))) (.nil)))))⟩
    ·refine au rfl rfl rfl rfl (au rfl rfl rfl rfl (aJ rfl rfl rfl (ae (iY rfl (al (aj (ah rfl rfl (ek rfl rfl rfl (ah rfl rfl ?_)))))))));refine aR (g:=34) rfl (fun vq=>?_) (fun vq=>?_)
     ·refine aq rfl rfl (ah rfl rfl (aq rfl rfl (cz rfl rfl rfl (aW rfl rfl rfl (ae ?_)))));refine bQ rfl (fun Od=>?_) (fun Od=>?_)
      ·refine al (aj (ak rfl rfl (ae (al (aj (ak rfl rfl (ae (aj (ah rfl rfl (gJ rfl rfl rfl (by omega) (ak rfl rfl ?_)))))))))));refine ae ?_;exact⟨rfl,rfl,rfl,.cons rfl (.cons rfl (.cons (congrArg (fun z=>some (Value.int .i64 z)) (by first|(exfalso;omega)|(unfold nO;repeat (first|rw[if_pos (by omega)]|rw[if_neg (by omega)])))) (.cons (congrArg (fun z=>some (Value.int .i64 z)) (by first|(exfalso;omega)|(unfold gr;repeat (first|rw[if_pos (by omega)]|rw[if_neg (by omega)])))) (.cons (congrArg (fun z=>some (Value.int .i64 z)) (by first|(exfalso;omega)|(unfold sx;repeat (first|rw[if_pos (by omega)]|rw[if_neg (by omega)])))) (.nil)))))⟩
      ·refine aZ ?_;exact⟨rfl,rfl,rfl,.cons rfl (.cons rfl (.cons (congrArg (fun z=>some (Value.int .i64 z)) (by first|(exfalso;omega)|(unfold nO;repeat (first|rw[if_pos (by omega)]|rw[if_neg (by omega)])))) (.cons (congrArg (fun z=>some (Value.int .i64 z)) (by first|(exfalso;omega)|(unfold gr;repeat (first|rw[if_pos (by omega)]|rw[if_neg (by omega)])))) (.cons (congrArg (fun z=>some (Value.int .i64 z)) (by first|(exfalso;omega)|(unfold sx;repeat (first|rw[if_pos (by omega)]|rw[if_neg (by omega)])))) (.nil)))))⟩
     ·refine au rfl rfl rfl rfl (au rfl rfl rfl rfl (aJ rfl rfl rfl (ae (iY rfl (aZ ?_)))));exact⟨rfl,rfl,rfl,.cons rfl (.cons rfl (.cons (congrArg (fun z=>some (Value.int .i64 z)) (by first|(exfalso;omega)|(unfold nO;repeat (first|rw[if_pos (by omega)]|rw[if_neg (by omega)])))) (.cons (congrArg (fun z=>some (Value.int .i64 z)) (by first|(exfalso;omega)|(unfold gr;repeat (first|rw[if_pos (by omega)]|rw[if_neg (by omega)])))) (.cons (congrArg (fun z=>some (Value.int .i64 z)) (by first|(exfalso;omega)|(unfold sx;repeat (first|rw[if_pos (by omega)]|rw[if_neg (by omega)])))) (.nil)))))⟩
  ·refine al (al (aj (ah rfl rfl (mB rfl rfl rfl (ah rfl rfl ?_)))));refine aR (g:=42) rfl (fun SD=>?_) (fun SD=>?_)
   ·refine au rfl rfl rfl rfl (au rfl rfl rfl rfl (au rfl rfl rfl rfl (au rfl rfl rfl rfl (aW rfl rfl rfl (ae (kW rfl (al (aj (ak rfl rfl (ak rfl rfl (ae ?_)))))))))));refine aQ ?_
    have hx:nO (jE l 0:Int)=0∨∃k:Nat,1≤k∧(k:Int)<nO (jE l 0:Int)∧jv l k=false:=by
     rw[←hc];by_cases h0:nO c=0
     ·exact .inl h0
     ·have Xo:=mO h0;exact .inr ⟨(nO c).toNat-1,by omega,by omega,eQ.2 fun h=>by have:=(fX.1 h).1;omega⟩
    have e:dec l=(65533,1):=DW (by omega) hx;exact fa rfl rfl rfl ⟨by rw[e];rfl,rfl⟩
   ·refine aq rfl rfl (ah rfl rfl (aq rfl rfl (Rg.mh aD rfl rfl (bO (v':= .int .i64 (l.length:Int)) (by simp[ByteArray.size]) (aq rfl rfl (ah rfl rfl (aq rfl rfl (cz rfl rfl rfl (aJ rfl rfl rfl (ae ?_))))))))));refine bQ rfl (fun YN=>?_) (fun YN=>?_)
    ·refine al (aj (ak rfl rfl (ak rfl rfl (ae (aQ ?_)))))
     have hx:nO (jE l 0:Int)=0∨∃k:Nat,1≤k∧(k:Int)<nO (jE l 0:Int)∧jv l k=false:=by
      rw[←hc];by_cases h0:nO c=0
      ·exact .inl h0
      ·have Xo:=mO h0;exact .inr ⟨(nO c).toNat-1,by omega,by omega,eQ.2 fun h=>by have:=(fX.1 h).1;omega⟩
     have e:dec l=(65533,1):=DW (by omega) hx;exact fa rfl rfl rfl ⟨by rw[e];rfl,rfl⟩
    ·refine aZ (al (al (aj (ak rfl rfl (ae (bh ?_))))));refine dz (σ:=Nat) (fun i=>[(0,.string ⟨l.toArray⟩),(5,.int .i64 (nO c)),(6,.int .i64 (gr c)),(7,.int .i64 (vO l (i-1))),(8,.int .i64 (i:Int))]) (fun i w=>w=w0∧1≤i∧(i:Int)≤nO c∧∀k:Nat,1≤k→k<i→jv l k=true) (fun i=>(nO c).toNat-i) 1 (.cons rfl (.cons rfl (.cons rfl (.cons (congrArg (fun z=>some (Value.int .i64 z)) (by show sx c=sx (jE l 0:Int);rw[hc])) (.cons rfl .nil))))) ?_ ?_
     ·exact⟨rfl,aT _,by have:=mO (c:=c) (by omega);omega,fun k h1 h2=>by omega⟩
     ·rintro i w ⟨rfl,wZ,zN,hok⟩;have Xo:=mO (c:=c) (by omega)
      have hvr:0≤vO l (i-1)∧vO l (i-1)≤100000000:=by
       exact Oc (l:=l) (c:=c) (k:=i-1) hc (by omega) (fun j h1 h2=>hok j h1 (by omega)) (by omega)
      refine al (al (aj (ah rfl rfl (ah rfl rfl (cz rfl rfl rfl (ae ?_))))));refine bQ rfl (fun c22=>?_) (fun c22=>?_)
      ·refine aZ (al (bh (al (aj (ah rfl rfl (ah rfl rfl ?_))))));have nV:i<l.length:=by omega
       refine Rg.DT (c:=l.getD i 0) aD rfl rfl rfl (by omega) (by rw[cZ,aC,av nV];rfl) ?_;refine bO (v':= .int .u8 (jE l i:Int)) rfl ?_;have YO:=nv l i;refine Rg.yE cM az rfl rfl (by omega) (ak rfl rfl (ae (al (al (aj (ah rfl rfl (cz rfl rfl rfl (ah rfl rfl ?_))))))));refine aR (g:=59) rfl (fun SE=>?_) (fun SE=>?_)
       ·refine au rfl rfl rfl rfl (au rfl rfl rfl rfl (aW rfl rfl rfl (ae (kW rfl (al (aj (ak rfl rfl (ak rfl rfl (ae (aQ ?_))))))))))
        have hx:nO (jE l 0:Int)=0∨∃k:Nat,1≤k∧(k:Int)<nO (jE l 0:Int)∧jv l k=false:=by
         rw[←hc];exact .inr ⟨i,wZ,by omega,eQ.2 fun h=>by have:=fX.1 h;omega⟩
        have e:dec l=(65533,1):=DW (by omega) hx;exact fa rfl rfl rfl ⟨by rw[e];rfl,rfl⟩
       ·refine aq rfl rfl (ah rfl rfl (aq rfl rfl (ek rfl rfl rfl (aJ rfl rfl rfl (ae ?_)))));refine bQ rfl (fun c25=>?_) (fun c25=>?_)
        ·refine al (aj (ak rfl rfl (ak rfl rfl (ae (aQ ?_)))))
         have hx:nO (jE l 0:Int)=0∨∃k:Nat,1≤k∧(k:Int)<nO (jE l 0:Int)∧jv l k=false:=by
          rw[←hc];exact .inr ⟨i,wZ,by omega,eQ.2 fun h=>by have:=fX.1 h;omega⟩
         have e:dec l=(65533,1):=DW (by omega) hx;exact fa rfl rfl rfl ⟨by rw[e];rfl,rfl⟩
        ·refine aZ (aj (ah rfl rfl (Rg.Nl rfl rfl rfl (by omega) (ah rfl rfl (bI rfl rfl rfl (by omega) (gJ rfl rfl rfl (by omega) (ak rfl rfl (ae (aj (ah rfl rfl (bI rfl rfl rfl (by omega) ?_)))))))))));refine ak rfl rfl (ae ?_);refine⟨rfl,i+1,(.cons rfl (.cons rfl (.cons rfl (.cons (congrArg (fun z=>some (Value.int .i64 z)) (by obtain⟨q,rfl⟩:∃q,i=q+1:=⟨i-1,by omega⟩;rfl)) (.cons rfl .nil))))),?_,?_⟩
         ·exact⟨rfl,by omega,by omega,fun k h1 h2=>by
           rcases db k i with h|h
           ·exact hok k h1 h
           ·obtain rfl:k=i:=by omega
            exact fX.2 (by omega)⟩
         ·omega
      ·refine cY (al (al (aj (ah rfl rfl (ah rfl rfl (cz rfl rfl rfl (ah rfl rfl ?_)))))));refine aR (g:=71) rfl (fun SF=>?_) (fun SF=>?_)
       ·refine au rfl rfl rfl rfl (au rfl rfl rfl rfl (aW rfl rfl rfl (ah rfl rfl (au rfl rfl rfl rfl (au rfl rfl rfl rfl (au rfl rfl rfl rfl (cH rfl rfl rfl (cH rfl rfl rfl (au rfl rfl rfl rfl (aW rfl rfl rfl (ae ?_)))))))))));refine kW rfl (al (aj (ak rfl rfl (ak rfl rfl (ae (aQ ?_))))));have e:=AM (l:=l) (by rw[←hc];omega) (by rw[←hc];exact fun k h1 h2=>hok k h1 (by omega)) (vO l (i-1)) (by rw[←hc];congr 1;omega);rw[←hc,if_pos (by omega)]at e;exact fa rfl rfl rfl ⟨by rw[e];rfl,rfl⟩
       ·refine aq rfl rfl (ah rfl rfl (aq rfl rfl (lW rfl rfl rfl (aJ rfl rfl rfl (ah rfl rfl ?_)))));refine aR (g:=75) rfl (fun SG=>?_) (fun SG=>?_)
        ·refine au rfl rfl rfl rfl (au rfl rfl rfl rfl (au rfl rfl rfl rfl (cH rfl rfl rfl (cH rfl rfl rfl (au rfl rfl rfl rfl (aW rfl rfl rfl (ae (kW rfl (al (aj (ak rfl rfl ?_)))))))))));refine ak rfl rfl (ae (aQ ?_));have e:=AM (l:=l) (by rw[←hc];omega) (by rw[←hc];exact fun k h1 h2=>hok k h1 (by omega)) (vO l (i-1)) (by rw[←hc];congr 1;omega);rw[←hc,if_pos (by omega)]at e;exact fa rfl rfl rfl ⟨by rw[e];rfl,rfl⟩
        ·refine aq rfl rfl (ah rfl rfl (aq rfl rfl (ek rfl rfl rfl (aq rfl rfl (ah rfl rfl ?_)))));refine aR (g:=78) rfl (fun Oe=>?_) (fun Oe=>?_)
         ·refine aq rfl rfl (ah rfl rfl (aq rfl rfl (fq rfl rfl rfl (aq rfl rfl (aW rfl rfl rfl (aJ rfl rfl rfl (ae ?_)))))));refine bQ rfl (fun c28=>?_) (fun c28=>?_)
          ·refine al (aj (ak rfl rfl (ak rfl rfl (ae (aQ ?_)))));have e:=AM (l:=l) (by rw[←hc];omega) (by rw[←hc];exact fun k h1 h2=>hok k h1 (by omega)) (vO l (i-1)) (by rw[←hc];congr 1;omega);rw[←hc,if_pos (by omega)]at e;exact fa rfl rfl rfl ⟨by rw[e];rfl,rfl⟩
          ·refine aZ (al (aj (ah rfl rfl (ah rfl rfl (ak rfl rfl (ak rfl rfl (ae (aQ ?_))))))));have e:=AM (l:=l) (by rw[←hc];omega) (by rw[←hc];exact fun k h1 h2=>hok k h1 (by omega)) (vO l (i-1)) (by rw[←hc];congr 1;omega);rw[←hc,if_neg (by omega)]at e;exact fa rfl rfl rfl ⟨by rw[e];simp only[];rw[wW hvr.1,wW (by omega)],rfl⟩
         ·refine au rfl rfl rfl rfl (au rfl rfl rfl rfl (aq rfl rfl (aJ rfl rfl rfl (aJ rfl rfl rfl (ae (iY rfl (aZ (al (aj (ah rfl rfl (ah rfl rfl ?_)))))))))));refine ak rfl rfl (ak rfl rfl (ae (aQ ?_)));have e:=AM (l:=l) (by rw[←hc];omega) (by rw[←hc];exact fun k h1 h2=>hok k h1 (by omega)) (vO l (i-1)) (by rw[←hc];congr 1;omega);rw[←hc,if_neg (by omega)]at e;exact fa rfl rfl rfl ⟨by rw[e];simp only[];rw[wW hvr.1,wW (by omega)],rfl⟩
theorem AO {M:aL} {l:List UInt8} (w0:World) (hM:Lt M w0) (hl:l.length≤1000000):
  Spec Tryz.prog 216 #[.string ⟨l.toArray⟩] w0 (fun v w=>((RT.int .i64).sl).V M w (eR l) v∧Step M w0 M w aE):=by
 have gB:=hM;refine bu (args:=[_]) (fn:=Tryz.f216) Tryz.func216 rfl (n:=22) Tryz.ntmps216 ?_;have S:Step M w0 M w0 aE:=(ar _ _).cw (fun _ h=>h.elim) (fun _ h=>h.elim);refine al (aj (ak rfl rfl (ae (al (aj (ak rfl rfl (ae (al (bh ?_)))))))));refine dz (σ:=Nat×List Int×Value) (fun q=>[(0,.string ⟨(l.drop q.1).toArray⟩),(3,q.2.2)]) (fun q w=>∃M',Lt M' w∧Step M w0 M' w aE∧Own (RT.int .i64) 3 M' w w0.heap.size q.2.2 q.2.1∧eR l=q.2.1++eR (l.drop q.1)∧q.1≤l.length) (fun q=>l.length-q.1) (0,[],.slice none 0 0) (.cons rfl (.cons rfl .nil)) ?_ ?_
 ·exact⟨M,hM,S,dQ _ _ _ _ _,by simp,by simp⟩
 ·rintro⟨p,xs,u⟩ w ⟨M1,hM,S,ho,y5,hp⟩;dsimp only at ho y5 hp ⊢;refine al (al (aj (ah rfl rfl (Rg.mh aD rfl rfl (bO (v':= .int .i64 ((l.drop p).length:Int)) (by simp[ByteArray.size]) (lW rfl rfl rfl (ae ?_)))))));refine bQ rfl (fun c2=>?_) (fun c2=>?_)
  ·refine aZ (bh (al (aj (ah rfl rfl ?_))));have fg:l.drop p≠[]:=by intro h;rw[h]at c2;simp at c2
   have yM:p<l.length:=by have:=ij.2 fg;rw[dq]at this;omega
   have YP:=kZ fg;refine aP rfl rfl Yd (G6 (l:=l.drop p) _ fg (by rw[dq];omega)) (fun r3 w3 hc=>?_);obtain⟨rfl,rfl⟩:=hc;refine ah rfl rfl (bZ rfl rfl rfl (bZ rfl rfl rfl (ak rfl rfl (ak rfl rfl (ae (al (aj (ah rfl rfl (ah rfl rfl ?_)))))))));refine eA (A:=RT.int .i64) (hn:=by decide) (M:=M1) ax I3 (by decide) rfl rfl hM (gC (by have:=sw (l.drop p);omega)) (.inr ⟨rfl,rfl⟩) (fun EI N4 jt pK=>?_);replace ho:=ho.a8 pK;replace hM:=pK.lt hM;have:=S.size;replace S:=S.aB pK;refine cv (M:=M1) (base:=w0.heap.size) ax I3 rfl rfl rfl rfl ho jt (ao _ _) (by simp;have:=hU l;rw[y5]at this;simp at this;omega) (by simp;have:=hU l;rw[y5]at this;simp at this;omega) (S.size) (fun SH YQ ah4 SI Of=>?_);replace jt:=jt.le Of.le;replace hM:=Of.lt hM;have:=S.size;replace S:=S.cF Of ho (aT _);replace ho:=SI;refine ak rfl rfl (ae (aj (ah rfl rfl (ah rfl rfl (Rg.Km aD rfl rfl rfl (by omega) (bO (v':= .string ⟨(l.drop (p+(dec (l.drop p)).2)).toArray⟩) (by rw[List.drop_drop];simp) (ak rfl rfl (ae ?_))))))));refine⟨rfl,(p+(dec (l.drop p)).2,xs++[((dec (l.drop p)).1:Int)],SH),(.cons rfl (.cons rfl .nil)),?_,?_⟩
   ·refine⟨YQ,hM,S,ho,?_,?_⟩
    ·rw[y5,nw fg,List.drop_drop];simp
    ·have:=YP.2;rw[dq]at this;dsimp only;omega
   ·have:=YP.1;have:=YP.2;rw[dq]at this;dsimp only;omega
  ·refine cY (al (aj (ah rfl rfl (ak rfl rfl (ae (aQ ?_))))));have e:eR l=xs:=by rw[y5,kC (by simp at c2;omega),pv];simp
   rw[e];have:=hU l;rw[e]at this;exact aV rfl rfl ⟨ho.close gB S (by omega),S.back⟩
theorem pV {M:aL} {w:World} {x:Int} (h:0≤x∧x<256):RT.u8.V M w x.toNat.toUInt8 (.int .u8 (IntKind.u8.wrap x)):=by
 have e1:IntKind.u8.wrap x=x:=by
  show(if(false&&decide (x%256≥128))=true then x%256-256 else x%256)=x;rw[if_neg (by simp)];omega
 have e2:((x.toNat.toUInt8).toNat:Int)=x:=by
  have:x.toNat.toUInt8.toNat=x.toNat%256:=UInt8.toNat_ofNat' ..;omega
 rw[e1];exact⟨[.int .u8 x],by show _=_;rw[e2],rfl⟩
theorem YR {r:Int} (h:0≤r∧r<128):Lib.encodeRune r=[r.toNat.toUInt8]:=by rw[Lib.encodeRune,Lib.encodeRuneZ_one h.1 (by omega)];rfl
theorem YS {r:Int} (h:128≤r∧r<2048):Lib.encodeRune r=[(192+r/64).toNat.toUInt8,(128+r%64).toNat.toUInt8]:=by rw[Lib.encodeRune,Lib.encodeRuneZ_two h.1 (by omega)];rfl
theorem EX (c:Int):rb c<55296∨57343<rb c:=by
 unfold rb
 split
 ·omega
 ·rename_i h
  have h2:Lib.validRune c=true:=by
   cases hv:Lib.validRune c with
   |true=>rfl
   |false=>exact absurd (.inr (.inr hv)) h
  simp only[Lib.validRune,decide_eq_true_eq]at h2;omega
theorem YT {r:Int} (h:2048≤r∧r<65536) (h2:r<55296∨57343<r):Lib.encodeRune r=[(224+r/4096).toNat.toUInt8,(128+r/64%64).toNat.toUInt8,(128+r%64).toNat.toUInt8]:=by rw[Lib.encodeRune,Lib.encodeRuneZ_three (by omega)];rfl
theorem YU {r:Int} (h:65536≤r∧r≤1114111):Lib.encodeRune r=[(240+r/262144).toNat.toUInt8,(128+r/4096%64).toNat.toUInt8,(128+r/64%64).toNat.toUInt8,(128+r%64).toNat.toUInt8]:=by rw[Lib.encodeRune,Lib.encodeRuneZ_four h.1 h.2];rfl
theorem re {c:Int} (h:c<0∨c>1114111∨(55296≤c∧c≤57343)):rb c=65533:=by
 rw[rb,if_pos];rcases h with h|h|h
 ·exact .inl h
 ·exact .inr (.inl h)
 ·refine .inr (.inr ?_);simp only[Lib.validRune,decide_eq_false_iff_not];omega
theorem oM {c:Int} (h: ¬(c<0∨c>1114111∨(55296≤c∧c≤57343))):rb c=c:=by
 rw[rb,if_neg];rintro(h1|h1|h1)
 ·omega
 ·omega
 ·simp only[Lib.validRune,decide_eq_false_iff_not]at h1;omega
theorem vr {M:aL} {xs:List Int} {v0:Value} (w0:World) (hM:Lt M w0) (hv:((RT.int .i64).sl).V M w0 xs v0) (hl:xs.length≤1000000):
  Spec Tryz.prog 219 #[v0] w0 (fun v w=>v= .string ⟨(jS xs).toArray⟩∧Step M w0 M w aE):=by
 have gB:=hM;refine bu (args:=[_]) (fn:=Tryz.f219) Tryz.func219 rfl (n:=91) Tryz.ntmps219 ?_;have S:Step M w0 M w0 aE:=(ar _ _).cw (fun _ h=>h.elim) (fun _ h=>h.elim);refine al (aj (ak rfl rfl (ae (al (aj (ak rfl rfl (ae (al (al (aj (ak rfl rfl ?_)))))))))));refine ae (bh ?_);refine dz (σ:=Nat×Value) (fun q=>[(0,v0),(3,q.2),(4,.int .i64 (q.1:Int))]) (fun q w=>∃M',Lt M' w∧Step M w0 M' w aE∧Own RT.u8 5 M' w w0.heap.size q.2 (jS (xs.take q.1))∧((RT.int .i64).sl).V M' w xs v0∧q.1≤xs.length) (fun q=>xs.length-q.1) (0,.slice none 0 0) (.cons rfl (.cons rfl (.cons rfl .nil))) ?_ ?_
 ·exact⟨M,hM,S,dQ _ _ _ _ _,hv,bH _⟩
 ·rintro⟨k,u⟩ w ⟨M1,hM,S,ho,hv,hk⟩;dsimp only at ho hk ⊢;refine al (al (aj (ah rfl rfl (ah rfl rfl (bK ax rfl hv rfl (cz rfl rfl rfl (ae ?_)))))));refine bQ rfl (fun c3=>?_) (fun c3=>?_)
  ·refine aZ (al (bh (al (aj (ah rfl rfl (ah rfl rfl ?_))))));refine cu (M:=M1) ax I3 rfl rfl rfl hv (ao _ _) (by omega) (fun u5 c EY gU=>?_);refine cr (M:=M1) az rfl rfl gU (ao _ _) (fun in5=>?_);have tk:xs.take (k+1)=xs.take k++[c]:=by rw[bP];simp only[aC]at EY;rw[EY];rfl
   have hsr:=DV c;have hsc:=EX c;refine ak rfl rfl (ae ?_);refine T.qY [(0,v0),(3,u),(4,.int .i64 (k:Int)),(5,.int .i64 (rb c))] ?_ ?_
   ·refine al (aj (ah rfl rfl (cz rfl rfl rfl (ah rfl rfl ?_))));refine aR (g:=18) rfl (fun NW=>?_) (fun NW=>?_)
    ·refine au rfl rfl rfl rfl (au rfl rfl rfl rfl (aW rfl rfl rfl (ah rfl rfl (au rfl rfl rfl rfl (au rfl rfl rfl rfl (au rfl rfl rfl rfl (cH rfl rfl rfl (cH rfl rfl rfl (au rfl rfl rfl rfl (aW rfl rfl rfl (ae ?_)))))))))));refine kW rfl (aj (ak rfl rfl (ae ?_)));exact⟨rfl,rfl,rfl,.cons rfl (.cons rfl (.cons rfl (.cons (congrArg (fun z=>some (Value.int .i64 z)) (by first|exact(re (by omega)).symm|exact(oM (by omega)).symm)) (.nil))))⟩
    ·refine aq rfl rfl (ah rfl rfl (aq rfl rfl (lW rfl rfl rfl (aJ rfl rfl rfl (ah rfl rfl ?_)))));refine aR (g:=22) rfl (fun YV=>?_) (fun YV=>?_)
     ·refine au rfl rfl rfl rfl (au rfl rfl rfl rfl (au rfl rfl rfl rfl (cH rfl rfl rfl (cH rfl rfl rfl (au rfl rfl rfl rfl (aW rfl rfl rfl (ae (kW rfl (aj (ak rfl rfl (ae ?_)))))))))));exact⟨rfl,rfl,rfl,.cons rfl (.cons rfl (.cons rfl (.cons (congrArg (fun z=>some (Value.int .i64 z)) (by first|exact(re (by omega)).symm|exact(oM (by omega)).symm)) (.nil))))⟩
     ·refine aq rfl rfl (ah rfl rfl (aq rfl rfl (ek rfl rfl rfl (aq rfl rfl (ah rfl rfl ?_)))));refine aR (g:=25) rfl (fun YW=>?_) (fun YW=>?_)
      ·refine aq rfl rfl (ah rfl rfl (aq rfl rfl (fq rfl rfl rfl (aq rfl rfl (aW rfl rfl rfl (aJ rfl rfl rfl (ae ?_)))))));refine bQ rfl (fun c6=>?_) (fun c6=>?_)
       ·refine aj (ak rfl rfl (ae ?_));exact⟨rfl,rfl,rfl,.cons rfl (.cons rfl (.cons rfl (.cons (congrArg (fun z=>some (Value.int .i64 z)) (by first|exact(re (by omega)).symm|exact(oM (by omega)).symm)) (.nil))))⟩
       ·refine aZ ?_;exact⟨rfl,rfl,rfl,.cons rfl (.cons rfl (.cons rfl (.cons (congrArg (fun z=>some (Value.int .i64 z)) (by first|exact(re (by omega)).symm|exact(oM (by omega)).symm)) (.nil))))⟩
      ·refine au rfl rfl rfl rfl (au rfl rfl rfl rfl (aq rfl rfl (aJ rfl rfl rfl (aJ rfl rfl rfl (ae (iY rfl (aZ ?_)))))));exact⟨rfl,rfl,rfl,.cons rfl (.cons rfl (.cons rfl (.cons (congrArg (fun z=>some (Value.int .i64 z)) (by first|exact(re (by omega)).symm|exact(oM (by omega)).symm)) (.nil))))⟩
   ·refine al (aj (ah rfl rfl (cz rfl rfl rfl (ae ?_))));refine bQ rfl (fun c8=>?_) (fun c8=>?_)
    ·refine aj (ah rfl rfl (ah rfl rfl (xc az cM rfl rfl ?_)));refine eA (A:=RT.u8) (hn:=by decide) (M:=M1) bj I5 (by decide) rfl rfl hM (pV (by omega)) (.inr ⟨rfl,rfl⟩) (fun SJ SK AP oN=>?_);replace hv:=hv.le oN.le;replace ho:=ho.a8 oN;replace hM:=oN.lt hM;have:=S.size;replace S:=S.aB oN;refine cv (M:=M1) (base:=w0.heap.size) bj I5 rfl rfl rfl rfl ho AP (ao _ _) (by have:=fG (xs.take k);rw[bG]at this;simp;omega) (by have:=fG (xs.take k);rw[bG]at this;simp;omega) (S.size) (fun Cx Ks Ku vu jO=>?_);replace hv:=hv.le jO.le;replace AP:=AP.le jO.le;replace hM:=jO.lt hM;have:=S.size;replace S:=S.cF jO ho (aT _);replace ho:=vu;refine ak rfl rfl (ae (aj (ah rfl rfl (bI rfl rfl rfl (by omega) (ak rfl rfl (ae ?_))))));refine⟨rfl,(k+1,Cx),(.cons rfl (.cons rfl (.cons rfl .nil))),?_,?_⟩
     ·exact⟨Ks,hM,S,by rw[tk,lE,YR (by omega)];exact ho,hv,by dsimp only;omega⟩
     ·dsimp only;omega
    ·refine al (aj (ah rfl rfl (cz rfl rfl rfl (ae ?_))));refine bQ rfl (fun Kv=>?_) (fun Kv=>?_)
     ·refine aj (ah rfl rfl (ah rfl rfl (Rg.Ac rfl rfl rfl (by omega) (bI rfl rfl rfl (by omega) (xc az cM rfl rfl (ah rfl rfl (Rg.Ad rfl rfl rfl (by omega) (bI rfl rfl rfl (by omega) (xc az cM rfl rfl ?_)))))))));refine Rg.Wr (A:=RT.u8) (hn:=by decide) (M:=M1) (xs:=[(192+rb c/64).toNat.toUInt8,(128+rb c%64).toNat.toUInt8]) bj I5 rfl (by decide) rfl ⟨_,_,_,rfl,rfl,rfl,pV (by omega),_,_,_,rfl,rfl,rfl,pV (by omega),rfl⟩ rfl hM (.inr ⟨rfl,rfl⟩) (by decide) (fun SL SM nz lF=>?_);replace hv:=hv.le lF.le;replace ho:=ho.a8 lF;replace hM:=lF.lt hM;have:=S.size;replace S:=S.aB lF;refine cv (M:=M1) (base:=w0.heap.size) bj I5 rfl rfl rfl rfl ho nz (ao _ _) (by have:=fG (xs.take k);rw[bG]at this;simp;omega) (by have:=fG (xs.take k);rw[bG]at this;simp;omega) (S.size) (fun y6 Cy Og y7 ji=>?_);replace hv:=hv.le ji.le;replace nz:=nz.le ji.le;replace hM:=ji.lt hM;have:=S.size;replace S:=S.cF ji ho (aT _);replace ho:=y7;refine ak rfl rfl (ae (aj (ah rfl rfl (bI rfl rfl rfl (by omega) (ak rfl rfl (ae ?_))))));refine⟨rfl,(k+1,y6),(.cons rfl (.cons rfl (.cons rfl .nil))),?_,?_⟩
      ·exact⟨Cy,hM,S,by rw[tk,lE,YS (by omega)];exact ho,hv,by dsimp only;omega⟩
      ·dsimp only;omega
     ·refine al (aj (ah rfl rfl (cz rfl rfl rfl (ae ?_))));refine bQ rfl (fun SN=>?_) (fun SN=>?_)
      ·refine aj (ah rfl rfl (ah rfl rfl (Rg.Ac rfl rfl rfl (by omega) (bI rfl rfl rfl (by omega) (xc az cM rfl rfl (ah rfl rfl (Rg.Ac rfl rfl rfl (by omega) (Rg.Ad rfl rfl rfl (by omega) (bI rfl rfl rfl (by omega) (xc az cM rfl rfl (ah rfl rfl ?_)))))))))));refine Rg.Ad rfl rfl rfl (by omega) (bI rfl rfl rfl (by omega) (xc az cM rfl rfl ?_));refine Rg.Wr (A:=RT.u8) (hn:=by decide) (M:=M1) (xs:=[(224+rb c/4096).toNat.toUInt8,(128+rb c/64%64).toNat.toUInt8,(128+rb c%64).toNat.toUInt8]) bj I5 rfl (by decide) rfl ⟨_,_,_,rfl,rfl,rfl,pV (by omega),_,_,_,rfl,rfl,rfl,pV (by omega),_,_,_,rfl,rfl,rfl,pV (by omega),rfl⟩ rfl hM (.inr ⟨rfl,rfl⟩) (by decide) (fun YX YY y8 y9=>?_);replace hv:=hv.le y9.le;replace ho:=ho.a8 y9;replace hM:=y9.lt hM;have:=S.size;replace S:=S.aB y9;refine cv (M:=M1) (base:=w0.heap.size) bj I5 rfl rfl rfl rfl ho y8 (ao _ _) (by have:=fG (xs.take k);rw[bG]at this;simp;omega) (by have:=fG (xs.take k);rw[bG]at this;simp;omega) (S.size) (fun Oh Oi YZ Kw za=>?_);replace hv:=hv.le za.le;replace y8:=y8.le za.le;replace hM:=za.lt hM;have:=S.size;replace S:=S.cF za ho (aT _);replace ho:=Kw;refine ak rfl rfl (ae (aj (ah rfl rfl (bI rfl rfl rfl (by omega) (ak rfl rfl (ae ?_))))));refine⟨rfl,(k+1,Oh),(.cons rfl (.cons rfl (.cons rfl .nil))),?_,?_⟩
       ·exact⟨Oi,hM,S,by rw[tk,lE,YT (by omega) hsc];exact ho,hv,by dsimp only;omega⟩
       ·dsimp only;omega
      ·refine aj (ah rfl rfl (ah rfl rfl (Rg.Ac rfl rfl rfl (by omega) (bI rfl rfl rfl (by omega) (xc az cM rfl rfl (ah rfl rfl (Rg.Ac rfl rfl rfl (by omega) (Rg.Ad rfl rfl rfl (by omega) (bI rfl rfl rfl (by omega) (xc az cM rfl rfl (ah rfl rfl ?_)))))))))));refine Rg.Ac rfl rfl rfl (by omega) (Rg.Ad rfl rfl rfl (by omega) (bI rfl rfl rfl (by omega) (xc az cM rfl rfl (ah rfl rfl (Rg.Ad rfl rfl rfl (by omega) (bI rfl rfl rfl (by omega) (xc az cM rfl rfl ?_)))))));refine Rg.Wr (A:=RT.u8) (hn:=by decide) (M:=M1) (xs:=[(240+rb c/262144).toNat.toUInt8,(128+rb c/4096%64).toNat.toUInt8,(128+rb c/64%64).toNat.toUInt8,(128+rb c%64).toNat.toUInt8]) bj I5 rfl (by decide) rfl ⟨_,_,_,rfl,rfl,rfl,pV (by omega),_,_,_,rfl,rfl,rfl,pV (by omega),_,_,_,rfl,rfl,rfl,pV (by omega),_,_,_,rfl,rfl,rfl,pV (by omega),rfl⟩ rfl hM (.inr ⟨rfl,rfl⟩) (by decide) (fun Y0 Y1 zb zc=>?_);replace hv:=hv.le zc.le;replace ho:=ho.a8 zc;replace hM:=zc.lt hM;have:=S.size;replace S:=S.aB zc;refine cv (M:=M1) (base:=w0.heap.size) bj I5 rfl rfl rfl rfl ho zb (ao _ _) (by have:=fG (xs.take k);rw[bG]at this;simp;omega) (by have:=fG (xs.take k);rw[bG]at this;simp;omega) (S.size) (fun Oj Ol Y2 Kx zd=>?_);replace hv:=hv.le zd.le;replace zb:=zb.le zd.le;replace hM:=zd.lt hM;have:=S.size;replace S:=S.cF zd ho (aT _);replace ho:=Kx;refine ak rfl rfl (ae (aj (ah rfl rfl (bI rfl rfl rfl (by omega) (ak rfl rfl (ae ?_))))));refine⟨rfl,(k+1,Oj),(.cons rfl (.cons rfl (.cons rfl .nil))),?_,?_⟩
       ·exact⟨Ol,hM,S,by rw[tk,lE,YU (by omega)];exact ho,hv,by dsimp only;omega⟩
       ·dsimp only;omega
  ·refine cY (al (aj (ah rfl rfl (Rg.b2s (hn:=by decide) (M:=M) bj cM aD rfl rfl (ho.close gB S (by have:=fG (xs.take k);rw[bG]at this;omega)) (ao _ _) (ak rfl rfl (ae (aQ ?_)))))));have e:xs.take k=xs:=a7 (by omega);rw[e];exact aV rfl rfl ⟨rfl,S.back⟩
end Go.K

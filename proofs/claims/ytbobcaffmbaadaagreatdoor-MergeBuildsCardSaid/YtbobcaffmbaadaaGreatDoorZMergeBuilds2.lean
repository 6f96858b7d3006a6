/- What the law 'MergeBuilds' needs of walks and plain Lean, part 2: nothing is assumed beyond the texts that it imports. -/
import Derived.ChangeKeysEq
import Derived.Ground.Names2Prog
import Derived.KernelRfl
import Derived.Laws.IdiomCopy
import Derived.Laws.MakeOwn
import Derived.Laws.StructEq
import Derived.Lib.RuneBytes
import Derived.Lib.SliceRun
import Derived.Maps.OwnSet
import Derived.Shelf.SlGeneric
import Derived.Shelf.Slices.SearchI
import Derived.Shelf.Small.Strs
import Derived.Shelf.Small.Utf8
import Derived.Shelf.Strings.Builder1
import Derived.Shelf.Strings.BuilderRune
import Derived.Shelf.Strings.SlTrimAscii
import Derived.Test.YtbobcaffmbaadaaGreatDoorProg
import Derived.Test.YtbobcaffmbaadaaGreatDoorZMergeBuilds1
set_option linter.unusedVariables false
set_option linter.unusedSimpArgs false
theorem ab:type_of% @Go.K.Rg.nil:=@Go.K.Rg.nil
theorem ad:type_of% @Go.K.Rg.move:=@Go.K.Rg.move
theorem ae:type_of% @Go.K.T.region:=@Go.K.T.region
theorem ah:type_of% @Go.K.Rg.assign:=@Go.K.Rg.assign
theorem aj:type_of% @Go.K.T.seq:=@Go.K.T.seq
theorem al:type_of% @Go.K.Rg.aI:=@Go.K.Rg.aI
theorem an:type_of% @List.getElem?_eq_some_iff:=@List.getElem?_eq_some_iff
theorem ao:type_of% @Go.Proofs.Tryz.underlying37:=@Go.Proofs.Tryz.underlying37
theorem aq:type_of% @Go.K.Le.refl:=@Go.K.Le.refl
theorem ar:type_of% @List.getElem?_eq_getElem:=@List.getElem?_eq_getElem
theorem au:type_of% @Go.K.Step.refl:=@Go.K.Step.refl
theorem aw:type_of% @Go.K.Rg.bO:=@Go.K.Rg.bO
theorem ax:type_of% @Go.Proofs.Tryz.underlying3:=@Go.Proofs.Tryz.underlying3
theorem ay:type_of% @Int.toNat_natCast:=@Int.toNat_natCast
theorem az:type_of% @List.mem_of_getElem?:=@List.mem_of_getElem?
theorem aA:type_of% @List.getD_eq_getElem?_getD:=@List.getD_eq_getElem?_getD
theorem aE:type_of% @Go.K.Rg.bC:=@Go.K.Rg.bC
theorem aF:type_of% @Option.some.inj:=@Option.some.inj
theorem aG:type_of% @Go.K.bL.cons:=@Go.K.bL.cons
theorem aH:type_of% @List.length_map:=@List.length_map
theorem aJ:type_of% @Go.Proofs.Tryz.underlying57:=@Go.Proofs.Tryz.underlying57
theorem aK:type_of% @Go.Proofs.Tryz.underlying9:=@Go.Proofs.Tryz.underlying9
theorem aN:type_of% @Go.K.Rg.bR:=@Go.K.Rg.bR
theorem aP:type_of% @Go.K.T.ret:=@Go.K.T.ret
theorem aQ:type_of% @Go.K.Rg.fieldAddr:=@Go.K.Rg.fieldAddr
theorem aR:type_of% @Nat.le_refl:=@Nat.le_refl
theorem aS:type_of% @Go.K.Rg.bE:=@Go.K.Rg.bE
theorem aT:type_of% @Go.K.T.skip:=@Go.K.T.skip
theorem aU:type_of% @Go.K.Rg.eqv:=@Go.K.Rg.eqv
theorem aW:type_of% @List.take_of_length_le:=@List.take_of_length_le
theorem aX:type_of% @Go.K.Rg.call:=@Go.K.Rg.call
theorem aY:type_of% @Go.K.T.block:=@Go.K.T.block
theorem aZ:type_of% @Go.K.Rg.cb:=@Go.K.Rg.cb
theorem a8:type_of% @List.length_append:=@List.length_append
theorem bc:type_of% @Go.K.Le.trans:=@Go.K.Le.trans
theorem bj:type_of% @List.getElem?_map:=@List.getElem?_map
theorem bm:type_of% @Go.Proofs.Tryz.underlying69:=@Go.Proofs.Tryz.underlying69
theorem br:type_of% @List.length_take:=@List.length_take
theorem bu:type_of% @Go.Proofs.Tryz.underlying72:=@Go.Proofs.Tryz.underlying72
theorem bz:type_of% @List.mem_iff_getElem?:=@List.mem_iff_getElem?
theorem bA:type_of% @Go.Proofs.Tryz.underlying80:=@Go.Proofs.Tryz.underlying80
theorem bB:type_of% @Go.Proofs.Tryz.underlying67:=@Go.Proofs.Tryz.underlying67
theorem bD:type_of% @Nat.zero_le:=@Nat.zero_le
theorem bF:type_of% @Go.K.Step.le:=@Go.K.Step.le
theorem bG:type_of% @Go.K.Rg.dg:=@Go.K.Rg.dg
theorem bH:type_of% @List.mem_cons_self:=@List.mem_cons_self
theorem bI:type_of% @List.take_add_one:=@List.take_add_one
theorem bJ:type_of% @Go.K.Rg.cp:=@Go.K.Rg.cp
theorem bK:type_of% @Go.Proofs.Tryz.underlying83:=@Go.Proofs.Tryz.underlying83
theorem bM:type_of% @Go.K.T.dQ:=@Go.K.T.dQ
theorem bN:type_of% @Go.K.Rg.cL:=@Go.K.Rg.cL
theorem bP:type_of% @Go.Proofs.Tryz.underlying204:=@Go.Proofs.Tryz.underlying204
theorem bQ:type_of% @Go.K.dA.cons:=@Go.K.dA.cons
theorem bS:type_of% @List.mem_singleton:=@List.mem_singleton
theorem bT:type_of% @Go.K.Rg.nilCheck:=@Go.K.Rg.nilCheck
theorem bU:type_of% @Go.K.Rg.load:=@Go.K.Rg.load
theorem bV:type_of% @List.mem_map:=@List.mem_map
theorem bW:type_of% @Go.K.Rg.extract:=@Go.K.Rg.extract
theorem bX:type_of% @Bool.and_eq_true:=@Bool.and_eq_true
theorem bY:type_of% @Go.Proofs.Tryz.underlying180:=@Go.Proofs.Tryz.underlying180
theorem b9:type_of% @List.mem_cons_of_mem:=@List.mem_cons_of_mem
theorem ca:type_of% @List.mem_cons:=@List.mem_cons
theorem cd:type_of% @Go.K.Rg.cN:=@Go.K.Rg.cN
theorem cg:type_of% @Go.K.Rg.fZ:=@Go.K.Rg.fZ
theorem ch:type_of% @List.length_replicate:=@List.length_replicate
theorem ck:type_of% @List.getElem?_take:=@List.getElem?_take
theorem cn:type_of% @List.pairwise_iff_getElem:=@List.pairwise_iff_getElem
theorem cq:type_of% @Go.Sem.run_bind:=@Go.Sem.run_bind
theorem cr:type_of% @List.mem_append:=@List.mem_append
theorem cu:type_of% @Go.K.Rg.eA:=@Go.K.Rg.eA
theorem cv:type_of% @Go.K.Rg.idx:=@Go.K.Rg.idx
theorem cw:type_of% @Go.K.Rg.dv:=@Go.K.Rg.dv
theorem cx:type_of% @List.pairwise_map:=@List.pairwise_map
theorem cz:type_of% @Go.Proofs.Tryz.underlying166:=@Go.Proofs.Tryz.underlying166
theorem cA:type_of% @Go.Proofs.Tryz.underlying124:=@Go.Proofs.Tryz.underlying124
theorem cC:type_of% @Go.Proofs.Tryz.underlying5:=@Go.Proofs.Tryz.underlying5
theorem cD:type_of% @Go.Result.andThen_ok:=@Go.Result.andThen_ok
theorem cE:type_of% @Nat.lt_or_ge:=@Nat.lt_or_ge
theorem cH:type_of% @Go.K.T.exit:=@Go.K.T.exit
theorem cI:type_of% @List.length_cons:=@List.length_cons
theorem cJ:type_of% @Option.toList_some:=@Option.toList_some
theorem cK:type_of% @List.length_singleton:=@List.length_singleton
theorem cP:type_of% @Decidable.not_not:=@Decidable.not_not
theorem cQ:type_of% @Go.Proofs.Tryz.underlying119:=@Go.Proofs.Tryz.underlying119
theorem cT:type_of% @Go.K.Rg.dM:=@Go.K.Rg.dM
theorem cV:type_of% @Go.K.Rg.append:=@Go.K.Rg.append
theorem cY:type_of% @Option.map_some:=@Option.map_some
theorem cZ:type_of% @List.length_eq_zero_iff:=@List.length_eq_zero_iff
theorem dd:type_of% @Bool.eq_false_iff:=@Bool.eq_false_iff
theorem de:type_of% @Go.K.Step.aL:=@Go.K.Step.aL
theorem dh:type_of% @Go.K.T.loop:=@Go.K.T.loop
theorem dp:type_of% @List.getElem?_set:=@List.getElem?_set
theorem dq:type_of% @Go.Proofs.Tryz.underlying178:=@Go.Proofs.Tryz.underlying178
theorem du:type_of% @List.getElem?_eq_none:=@List.getElem?_eq_none
theorem dy:type_of% @Option.some.injEq:=@Option.some.injEq
theorem dz:type_of% @Go.K.Own.nil:=@Go.K.Own.nil
theorem dC:type_of% @List.length_drop:=@List.length_drop
theorem dF:type_of% @Go.Proofs.Tryz.underlying58:=@Go.Proofs.Tryz.underlying58
theorem dG:type_of% @Array.getElem?_setIfInBounds:=@Array.getElem?_setIfInBounds
theorem dH:type_of% @List.drop_eq_getElem_cons:=@List.drop_eq_getElem_cons
theorem dI:type_of% @Go.K.Rg.dL:=@Go.K.Rg.dL
theorem dJ:type_of% @Eq.symm:=@Eq.symm
theorem dN:type_of% @Go.Proofs.Tryz.underlying78:=@Go.Proofs.Tryz.underlying78
theorem dO:type_of% @Go.Proofs.Tryz.underlying183:=@Go.Proofs.Tryz.underlying183
theorem dR:type_of% @List.not_mem_nil:=@List.not_mem_nil
theorem dU:type_of% @Go.K.Rg.alloc:=@Go.K.Rg.alloc
theorem dV:type_of% @Go.Proofs.Tryz.underlying71:=@Go.Proofs.Tryz.underlying71
theorem dW:type_of% @Go.Proofs.Tryz.underlying46:=@Go.Proofs.Tryz.underlying46
theorem dX:type_of% @Go.Proofs.Tryz.underlying153:=@Go.Proofs.Tryz.underlying153
theorem ec:type_of% @List.map_append:=@List.map_append
theorem ef:type_of% @Go.K.Rg.lI:=@Go.K.Rg.lI
theorem ei:type_of% @Go.Proofs.Tryz.underlying196:=@Go.Proofs.Tryz.underlying196
theorem ej:type_of% @Prod.mk.injEq:=@Prod.mk.injEq
theorem eu:type_of% @Go.K.Rg.lV:=@Go.K.Rg.lV
theorem ey:type_of% @Go.K.bZ.load:=@Go.K.bZ.load
theorem ez:type_of% @Nat.le_trans:=@Nat.le_trans
theorem eC:type_of% @List.pairwise_cons:=@List.pairwise_cons
theorem eD:type_of% @Go.K.kN.nil:=@Go.K.kN.nil
theorem eE:type_of% @Go.Proofs.Tryz.underlying29:=@Go.Proofs.Tryz.underlying29
theorem eF:type_of% @Go.Proofs.Tryz.underlying25:=@Go.Proofs.Tryz.underlying25
theorem eH:type_of% @Go.Proofs.Tryz.underlying207:=@Go.Proofs.Tryz.underlying207
theorem eI:type_of% @List.getElem?_toArray:=@List.getElem?_toArray
theorem eM:type_of% @Go.K.Rg.my:=@Go.K.Rg.my
theorem eQ:type_of% @List.map_cons:=@List.map_cons
theorem eR:type_of% @Nat.lt_trichotomy:=@Nat.lt_trichotomy
theorem eU:type_of% @Nat.mul_one:=@Nat.mul_one
theorem eW:type_of% @Go.K.bZ.move:=@Go.K.bZ.move
theorem eY:type_of% @List.length_set:=@List.length_set
theorem eZ:type_of% @Go.Proofs.Tryz.underlying142:=@Go.Proofs.Tryz.underlying142
theorem fa:type_of% @Go.Proofs.Tryz.underlying121:=@Go.Proofs.Tryz.underlying121
theorem fc:type_of% @Go.Proofs.Tryz.underlying131:=@Go.Proofs.Tryz.underlying131
theorem fe:type_of% @List.map_toArray:=@List.map_toArray
theorem ff:type_of% @Bool.true_and:=@Bool.true_and
theorem fq:type_of% @List.ext_getElem?:=@List.ext_getElem?
theorem fv:type_of% @Go.K.Rg.jK:=@Go.K.Rg.jK
theorem fA:type_of% @List.all_eq_true:=@List.all_eq_true
theorem fB:type_of% @List.drop_eq_nil_of_le:=@List.drop_eq_nil_of_le
theorem fF:type_of% @List.getElem?_append_left:=@List.getElem?_append_left
theorem fK:type_of% @Go.Proofs.Tryz.underlying0:=@Go.Proofs.Tryz.underlying0
theorem fL:type_of% @Go.K.Rg.fz:=@Go.K.Rg.fz
theorem fQ:type_of% @List.nil_append:=@List.nil_append
theorem fR:type_of% @Nat.zero_add:=@Nat.zero_add
theorem fS:type_of% @Go.K.Rg.gZ:=@Go.K.Rg.gZ
theorem fT:type_of% @List.append_nil:=@List.append_nil
theorem fU:type_of% @List.mem_filter:=@List.mem_filter
theorem fY:type_of% @Go.Value.slice.injEq:=@Go.Value.slice.injEq
theorem gA:type_of% @Nat.mul_le_mul_right:=@Nat.mul_le_mul_right
theorem gB:type_of% @Go.IntWalk.u64_in:=@Go.IntWalk.u64_in
theorem gC:type_of% @List.mem_append_left:=@List.mem_append_left
theorem gG:type_of% @Go.Proofs.Tryz.underlying139:=@Go.Proofs.Tryz.underlying139
theorem gM:type_of% @Go.Proofs.Tryz.zeroValue0:=@Go.Proofs.Tryz.zeroValue0
theorem gN:type_of% @Go.Proofs.Tryz.zeroValue3:=@Go.Proofs.Tryz.zeroValue3
theorem gO:type_of% @Go.Proofs.Tryz.zeroValue9:=@Go.Proofs.Tryz.zeroValue9
theorem gQ:type_of% @Go.K.Rg.qx:=@Go.K.Rg.qx
theorem gX:type_of% @List.drop_of_length_le:=@List.drop_of_length_le
theorem ib:type_of% @List.mem_map_of_mem:=@List.mem_map_of_mem
theorem ik:type_of% @Go.K.ia.all:=@Go.K.ia.all
theorem iu:type_of% @Option.map_none:=@Option.map_none
theorem iE:type_of% @Nat.lt_of_lt_of_le:=@Nat.lt_of_lt_of_le
theorem iJ:type_of% @Go.K.bZ.field:=@Go.K.bZ.field
theorem iK:type_of% @Go.K.Part.snd:=@Go.K.Part.snd
theorem iL:type_of% @List.eq_of_mem_replicate:=@List.eq_of_mem_replicate
theorem iM:type_of% @Go.K.Rg.build:=@Go.K.Rg.build
theorem iP:type_of% @List.pairwise_append:=@List.pairwise_append
theorem iQ:type_of% @Go.Proofs.Tryz.underlying151:=@Go.Proofs.Tryz.underlying151
theorem iR:type_of% @Go.Proofs.Tryz.underlying205:=@Go.Proofs.Tryz.underlying205
theorem iS:type_of% @Go.Proofs.Tryz.underlying141:=@Go.Proofs.Tryz.underlying141
theorem iT:type_of% @Go.Proofs.Tryz.underlying133:=@Go.Proofs.Tryz.underlying133
theorem iX:type_of% @Go.Proofs.Tryz.underlying4:=@Go.Proofs.Tryz.underlying4
theorem jc:type_of% @Bool.not_eq_true':=@Bool.not_eq_true'
theorem jk:type_of% @Go.K.Rg.tR:=@Go.K.Rg.tR
theorem jl:type_of% @Go.K.eJ.refl:=@Go.K.eJ.refl
theorem jm:type_of% @List.getD_cons_zero:=@List.getD_cons_zero
theorem jn:type_of% @List.getD_cons_succ:=@List.getD_cons_succ
theorem jo:type_of% @List.mergeSort_perm:=@List.mergeSort_perm
theorem jr:type_of% @List.map_nil:=@List.map_nil
theorem jC:type_of% @Nat.lt_irrefl:=@Nat.lt_irrefl
theorem jD:type_of% @Go.K.T.iff:=@Go.K.T.iff
theorem jG:type_of% @Go.Proofs.Tryz.zeroValue4:=@Go.Proofs.Tryz.zeroValue4
theorem jI:type_of% @List.getElem?_append_right:=@List.getElem?_append_right
theorem jR:type_of% @List.contains_iff_mem:=@List.contains_iff_mem
theorem jS:type_of% @Array.getElem?_modify:=@Array.getElem?_modify
theorem jT:type_of% @List.length_filter_le:=@List.length_filter_le
theorem j4:type_of% @Go.Proofs.Tryz.underlying189:=@Go.Proofs.Tryz.underlying189
theorem j5:type_of% @Go.Proofs.Tryz.underlying155:=@Go.Proofs.Tryz.underlying155
theorem j6:type_of% @Go.Proofs.Tryz.underlying198:=@Go.Proofs.Tryz.underlying198
theorem ke:type_of% @List.length_nil:=@List.length_nil
theorem kh:type_of% @Go.IntWalk.i64_in:=@Go.IntWalk.i64_in
theorem kj:type_of% @Go.Proofs.Tryz.sizeOf0:=@Go.Proofs.Tryz.sizeOf0
theorem km:type_of% @Go.Proofs.Tryz.sizeOf3:=@Go.Proofs.Tryz.sizeOf3
theorem kn:type_of% @Go.Proofs.Tryz.sizeOf9:=@Go.Proofs.Tryz.sizeOf9
theorem kr:type_of% @Go.K.Rg.makeFunc:=@Go.K.Rg.makeFunc
theorem kR:type_of% @Go.Proofs.Tryz.underlying49:=@Go.Proofs.Tryz.underlying49
theorem kV:type_of% @List.cons_append:=@List.cons_append
theorem kW:type_of% @List.getElem?_cons_zero:=@List.getElem?_cons_zero
theorem kX:type_of% @Bool.false_and:=@Bool.false_and
theorem kY:type_of% @List.getElem?_replicate:=@List.getElem?_replicate
theorem lJ:type_of% @Go.K.sx.nil:=@Go.K.sx.nil
theorem lK:type_of% @Nat.eq_or_lt_of_le:=@Nat.eq_or_lt_of_le
theorem lS:type_of% @Go.Proofs.Tryz.isAgg0:=@Go.Proofs.Tryz.isAgg0
theorem lT:type_of% @Go.Proofs.Tryz.isAgg3:=@Go.Proofs.Tryz.isAgg3
theorem lU:type_of% @Go.Proofs.Tryz.isAgg9:=@Go.Proofs.Tryz.isAgg9
theorem lY:type_of% @Go.K.Rg.not:=@Go.K.Rg.not
theorem lZ:type_of% @Bool.eq_iff_iff:=@Bool.eq_iff_iff
theorem l0:type_of% @Go.K.Rg.iC:=@Go.K.Rg.iC
theorem mv:type_of% @Go.Proofs.Tryz.underlying217:=@Go.Proofs.Tryz.underlying217
theorem np:type_of% @Go.K.Part.fst:=@Go.K.Part.fst
theorem nq:type_of% @Go.K.T.jN:=@Go.K.T.jN
theorem nP:type_of% @Nat.pow_le_pow_right:=@Nat.pow_le_pow_right
theorem om:type_of% @Go.Addr.mk.injEq:=@Go.Addr.mk.injEq
theorem ot:type_of% @Go.K.T.tZ:=@Go.K.T.tZ
theorem oA:type_of% @Nat.mod_eq_of_lt:=@Nat.mod_eq_of_lt
theorem oB:type_of% @Go.Proofs.Tryz.sizeOf4:=@Go.Proofs.Tryz.sizeOf4
theorem o8:type_of% @List.take_succ_cons:=@List.take_succ_cons
theorem o9:type_of% @List.length_pos_iff:=@List.length_pos_iff
theorem pb:type_of% @Int.toNat_of_nonneg:=@Int.toNat_of_nonneg
theorem qq:type_of% @Bool.or_eq_true:=@Bool.or_eq_true
theorem qt:type_of% @List.idxOf_cons:=@List.idxOf_cons
theorem qv:type_of% @BitVec.toNat_ofInt:=@BitVec.toNat_ofInt
theorem rN:type_of% @Go.K.gD.nil:=@Go.K.gD.nil
theorem rO:type_of% @Go.K.Rg.nz:=@Go.K.Rg.nz
theorem sk:type_of% @Go.Proofs.Tryz.isAgg4:=@Go.Proofs.Tryz.isAgg4
theorem tb:type_of% @List.take_succ_eq_append_getElem:=@List.take_succ_eq_append_getElem
theorem tc:type_of% @List.flatMap_cons:=@List.flatMap_cons
theorem td:type_of% @Go.K.Rg.conv:=@Go.K.Rg.conv
theorem tf:type_of% @List.foldl_append:=@List.foldl_append
theorem tg:type_of% @Go.Proofs.Tryz.underlying190:=@Go.Proofs.Tryz.underlying190
theorem th:type_of% @Go.Proofs.Tryz.underlying209:=@Go.Proofs.Tryz.underlying209
theorem ti:type_of% @Go.K.bL.nil:=@Go.K.bL.nil
theorem tj:type_of% @List.mem_range:=@List.mem_range
theorem tX:type_of% @Go.Proofs.Tryz.zeroValue5:=@Go.Proofs.Tryz.zeroValue5
theorem tY:type_of% @Go.K.Rg.B8:=@Go.K.Rg.B8
theorem vH:type_of% @List.take_append_drop:=@List.take_append_drop
theorem vI:type_of% @List.Pairwise.sublist:=@List.Pairwise.sublist
theorem vL:type_of% @List.any_eq_true:=@List.any_eq_true
theorem vM:type_of% @List.getElem_mem:=@List.getElem_mem
theorem vN:type_of% @List.mem_flatMap:=@List.mem_flatMap
theorem xc:type_of% @Go.Proofs.Tryz.underlying26:=@Go.Proofs.Tryz.underlying26
theorem xe:type_of% @Go.Proofs.Tryz.underlying47:=@Go.Proofs.Tryz.underlying47
theorem xK:type_of% @Prod.ext:=@Prod.ext
theorem xL:type_of% @Go.Addr.add_mid:=@Go.Addr.add_mid
theorem xM:type_of% @Go.K.Rg.box:=@Go.K.Rg.box
theorem xN:type_of% @Go.World.putObj_heap_same:=@Go.World.putObj_heap_same
theorem xO:type_of% @List.mem_iff_getElem:=@List.mem_iff_getElem
theorem ye:type_of% @Go.K.Own.close:=@Go.K.Own.close
theorem yf:type_of% @Go.K.Rg.mH:=@Go.K.Rg.mH
theorem yz:type_of% @Nat.min_eq_left:=@Nat.min_eq_left
theorem AE:type_of% @Array.length_toList:=@Array.length_toList
theorem AF:type_of% @List.filter_sublist:=@List.filter_sublist
theorem AJ:type_of% @Go.World.size_alloc:=@Go.World.size_alloc
namespace Go.K
def put (n:Nat):List UInt8:=if n<128 then[UInt8.ofNat n]else UInt8.ofNat (128+n%128)::put (n/128)
termination_by n
decreasing_by omega
theorem yR {n:Nat} (h:n<128):put n=[UInt8.ofNat n]:=by rw[put,if_pos h]
theorem GH {n:Nat} (h:128≤n):put n=UInt8.ofNat (128+n%128)::put (n/128):=by rw[put,if_neg (by omega)]
theorem Qn (n:Nat):0<(put n).length:=by rw[put];split<;>simp
theorem Qo {k:Nat}:∀{n:Nat},n<128^(k+1)→(put n).length≤k+1:=by
 induction k with
 |zero=>intro n h;rw[yR (by simpa using h)];simp
 |succ k ih=>
  intro n h;by_cases h1:n<128
  ·rw[yR h1];simp
  ·rw[GH (by omega)];have:=ih (n:=n/128) (by rw[Nat.pow_succ]at h;omega);simp;omega
theorem lD {n:Nat} (h:n≤9223372036854775807):(put n).length≤9:=Qo (k:=8) (by omega)
def oI:List UInt8→Nat→Nat→Option (Nat×Nat)
 |[],_,_=>none
 |c::cs,i,n=>if c.toNat<128 then(if c.toNat=0∧0<i then none else some (n+c.toNat%128*128^i,i+1))else oI cs (i+1) (n+c.toNat%128*128^i)
def get (b:List UInt8) (at_:Int):Int×Int×Int:=
 if at_<0∨(b.length:Int)<at_ then(0,0,1)
 else match oI ((b.drop at_.toNat).take 9) 0 0 with
  |some (n,k)=>(n,at_+k,0)
  |none=>(0,0,2)
theorem oJ {bs:List UInt8} {k:Nat} {c:UInt8} (h:bs[k]? =some c) (n:Nat):oI (bs.drop k) k n=
  if c.toNat<128 then(if c.toNat=0∧0<k then none else some (n+c.toNat%128*128^k,k+1))else oI (bs.drop (k+1)) (k+1) (n+c.toNat%128*128^k):=by
 obtain⟨dY,he⟩:=an.1 h;rw[dH dY,oI,he]
theorem UO (b:List UInt8) (i:Nat):(b.take (min b.length (i+9))).drop i=(b.drop i).take 9:=by
 rw[List.drop_take,List.take_eq_take_iff];simp;omega
def val:List UInt8→Nat
 |[]=>0
 |c::cs=>c.toNat%128+128*val cs
def eG:Int→List Int→Bool
 |_,[]=>true
 |last,x::l=>decide (last<x)&&eG x l
def l2:Int→List Int→List UInt8
 |_,[]=>[]
 |last,x::l=>put (x-last-1).toNat++l2 x l
def eL (l:List Int):List UInt8:=put l.length++l2 (-1) l
def SC:Int→List Int→List Int
 |_,[]=>[]
 |last,x::l=>let m:=if x<0 then-(x+1)else x;(last+1+m%1000)::SC (last+1+m%1000) l
def good (l:List Int) (most:Nat):List Int:=SC (-1) (l.take most)
theorem vY {b:List UInt8} {at_:Int} (h:(get b at_).2.2=0):0≤at_∧at_<(get b at_).2.1∧(get b at_).2.1≤b.length∧0≤(get b at_).1∧(get b at_).1<9223372036854775808:=by
 unfold get at h ⊢
 split at h
 ·simp at h
 rename_i hr
 rw[if_neg hr]at*
 have key:∀(bs:List UInt8) (i n m k:Nat),oI bs i n=some (m,k)→bs.length+i≤9→n<128^i→i<k∧k≤i+bs.length∧m<128^k:=by
  intro bs
  induction bs with
  |nil=>intro i n m k h;simp[oI]at h
  |cons c cs ih=>
   intro i n m k h hl hn
   have hd:n+c.toNat%128*128^i<128^(i+1):=by
    have:=gA (128^i) (show c.toNat%128≤127 from by omega);rw[Nat.pow_succ];omega
   simp only[oI]at h
   split at h
   ·split at h
    ·cases h
    ·cases h;exact⟨by omega,by simp,hd⟩
   ·obtain⟨h1,h2,h3⟩:=ih (i+1) _ m k h (by simp at hl;omega) hd;exact⟨by omega,by simp;omega,h3⟩
 cases hg:oI ((b.drop at_.toNat).take 9) 0 0 with
 |none=>simp[hg]at h
 |some p=>
  obtain⟨m,k⟩:=p;have hlen:((b.drop at_.toNat).take 9).length≤9∧((b.drop at_.toNat).take 9).length≤b.length-at_.toNat:=by rw[br,dC];omega
  obtain⟨h1,h2,h3⟩:=key _ 0 0 m k hg (by omega) (by decide);have hp:128^k≤128^9:=nP (by decide) (by omega);simp only;omega
def iN (b:List UInt8):Nat→Int→Int→Int×List Int×Int
 |0,at_,_=>(0,[],at_)
 |k+1,at_,last=>
  if(get b at_).2.2≠0 then((get b at_).2.2,[],0)
  else if 4611686018427387904-last-1<(get b at_).1 then(2,[],0)
  else if(iN b k (get b at_).2.1 (last+1+(get b at_).1)).1≠0 then((iN b k (get b at_).2.1 (last+1+(get b at_).1)).1,[],0)
  else(0,(last+1+(get b at_).1)::(iN b k (get b at_).2.1 (last+1+(get b at_).1)).2.1,(iN b k (get b at_).2.1 (last+1+(get b at_).1)).2.2)
def ic (b:List UInt8) (at_:Int):Int×List Int×Int:=
 if(get b at_).2.2≠0 then((get b at_).2.2,[],0)else iN b (get b at_).1.toNat (get b at_).2.1 (-1)
theorem gH {l:List Int} {k:Nat} {x:Int} (h:l[k]? =some x) (last:Int):eG last (l.drop k)=(decide (last<x)&&eG x (l.drop (k+1))):=by
 obtain⟨dY,he⟩:=an.1 h;rw[dH dY,eG,he]
theorem JL {l:List Int} {k:Nat} {x:Int} (h:l[k]? =some x) (last:Int):l2 last (l.drop k)=put (x-last-1).toNat++l2 x (l.drop (k+1)):=by
 obtain⟨dY,he⟩:=an.1 h;rw[dH dY,l2,he]
theorem yS:∀(l:List Int) (last:Int),-1≤last→(∀x∈l,x≤9223372036854775807)→eG last l=true→(l2 last l).length≤9*l.length
 |[],_,_,_,_=>by simp[l2]
 |x::l,last,h1,h2,h3=>by
  simp only[eG,bX,decide_eq_true_eq]at h3;have hx:=h2 x (bH ..);have h4:=yS l x (by omega) (fun y hy=>h2 y (b9 _ hy)) h3.2;have h5:=lD (n:=(x-last-1).toNat) (by omega);simp only[l2,a8,cI];omega
theorem yT (b:List UInt8) (a last:Int):iN b 0 a last=(0,[],a):=rfl
theorem tw {b:List UInt8} {k:Nat} {a last:Int} (h:(get b a).2.2≠0):iN b (k+1) a last=((get b a).2.2,[],0):=by rw[iN,if_pos h]
theorem vZ {b:List UInt8} {k:Nat} {a last:Int} (h:(get b a).2.2=0) (h2:4611686018427387904-last-1<(get b a).1):iN b (k+1) a last=(2,[],0):=by
 rw[iN,if_neg (by simpa using h),if_pos h2]
theorem yU {b:List UInt8} {k:Nat} {a last:Int} (h:(get b a).2.2=0) (h2: ¬4611686018427387904-last-1<(get b a).1):iN b (k+1) a last=
  if(iN b k (get b a).2.1 (last+1+(get b a).1)).1≠0 then((iN b k (get b a).2.1 (last+1+(get b a).1)).1,[],0)
  else(0,(last+1+(get b a).1)::(iN b k (get b a).2.1 (last+1+(get b a).1)).2.1,(iN b k (get b a).2.1 (last+1+(get b a).1)).2.2):=by
 rw[iN,if_neg (by simpa using h),if_neg h2]
def andThen (acc:List Int) (r:Int×List Int×Int):Int×List Int×Int:=if r.1≠0 then(r.1,[],0)else(0,acc++r.2.1,r.2.2)
theorem px {b:List UInt8} {k:Nat} {a last:Int} (acc:List Int) (h:(get b a).2.2=0) (h2: ¬4611686018427387904-last-1<(get b a).1):
  andThen acc (iN b (k+1) a last)=andThen (acc++[last+1+(get b a).1]) (iN b k (get b a).2.1 (last+1+(get b a).1)):=by
 rw[yU h h2];unfold andThen;by_cases h3:(iN b k (get b a).2.1 (last+1+(get b a).1)).1=0<;>simp[h3]
theorem DV (r:Int×List Int×Int) (h:r.1≠0→r.2=([],0)):andThen [] r=r:=by
 unfold andThen;by_cases h3:r.1=0
 ·rw[if_neg (by simpa using h3)];ext<;>simp[h3]
 ·rw[if_pos h3,←h h3]
theorem JM (b:List UInt8):∀(k:Nat) (a last:Int),(iN b k a last).1≠0→(iN b k a last).2=([],0)
 |0,a,last,h=>by simp[iN]at h
 |k+1,a,last,h=>by
  rw[iN]at h ⊢
  split
  ·rfl
  ·rename_i h1;rw[if_neg h1]at h
   split
   ·rfl
   ·rename_i h2;rw[if_neg h2]at h
    split
    ·rfl
    ·rename_i h3;rw[if_neg h3]at h;simp at h
theorem py (b:List UInt8) (a:Int):0≤(get b a).1∧0≤(get b a).2.2∧(get b a).2.2≤2∧((get b a).2.2≠0→(get b a).1=0∧(get b a).2.1=0):=by
 unfold get
 split
 ·simp
 ·split<;>simp<;>omega
theorem Bp (b:List UInt8) (a:Int):(get b a).1≤9223372036854775807:=by
 by_cases h:(get b a).2.2=0
 ·have:=vY h;omega
 ·have:=(py b a).2.2.2 h;omega
theorem LP:∀(k m i acc:Nat) (post:List UInt8),m<128^(k+1)→(0<i→m≠0)→oI ((put m++post).take (k+1)) i acc=some (acc+m*128^i,i+(put m).length):=by
 intro k
 induction k with
 |zero=>
  intro m i acc post h h0;have hm:m<128:=by simpa using h
  have e:(UInt8.ofNat m).toNat=m:=by rw[UInt8.toNat_ofNat'];omega
  rw[yR hm];simp only[kV,fQ,o8,oI,e];rw[if_pos hm,if_neg (by omega),oA hm];rfl
 |succ k ih=>
  intro m i acc post h h0;by_cases hm:m<128
  ·have e:(UInt8.ofNat m).toNat=m:=by rw[UInt8.toNat_ofNat'];omega
   rw[yR hm];simp only[kV,fQ,o8,oI,e];rw[if_pos hm,if_neg (by omega),oA hm];rfl
  ·have e:(UInt8.ofNat (128+m%128)).toNat=128+m%128:=by rw[UInt8.toNat_ofNat'];omega
   rw[GH (by omega)];simp only[kV,o8,oI,e];rw[if_neg (by omega),ih (m/128) (i+1) _ post (by rw[Nat.pow_succ]at h;omega) (by omega)];have h2:(128+m%128)%128=m%128:=by omega
   rw[h2,Nat.pow_succ];congr 2
   ·have h3:m=m%128+128*(m/128):=by omega
    have h4:m*128^i=(m%128)*128^i+(m/128)*(128^i*128):=by
     conv=>lhs;rw[h3]
     rw[Nat.add_mul,Nat.mul_comm 128 (m/128),Nat.mul_assoc,Nat.mul_comm 128 (128^i)]
    omega
   ·simp;omega
theorem Cl (pre post:List UInt8) {n:Nat} (hn:n≤9223372036854775807):get (pre++put n++post) pre.length=((n:Int),((pre.length+(put n).length:Nat):Int),0):=by
 unfold get;rw[if_neg (by simp;omega)]
 have h1:((pre++put n++post).drop (pre.length:Int).toNat).take 9=(put n++post).take (8+1):=by
  rw[ay,List.append_assoc,List.drop_left]
 rw[h1,LP 8 n 0 0 post (by omega) (by omega)];simp
theorem Bq:∀(l:List Int) (pre post:List UInt8) (last:Int),-1≤last→eG last l=true→(∀x∈l,x≤4611686018427387904)→
  iN (pre++l2 last l++post) l.length pre.length last=(0,l,((pre.length+(l2 last l).length:Nat):Int))
 |[],pre,post,last,_,_,_=>by simp[l2,iN]
 |x::l,pre,post,last,h1,h2,h3=>by
  simp only[eG,bX,decide_eq_true_eq]at h2;have hx:=h3 x (bH ..);have e0:pre++l2 last (x::l)++post=pre++put (x-last-1).toNat++(l2 x l++post):=by simp[l2]
  have e1:=Cl pre (l2 x l++post) (n:=(x-last-1).toNat) (by omega);have e2:pre++put (x-last-1).toNat++(l2 x l++post)=(pre++put (x-last-1).toNat)++l2 x l++post:=by simp
  have ih:=Bq l (pre++put (x-last-1).toNat) post x (by omega) h2.2 (fun y hy=>h3 y (b9 _ hy));rw[e0,cI,yU (by rw[e1]) (by rw[e1];simp only;omega),e1];simp only;have e3:last+1+(((x-last-1).toNat:Nat):Int)=x:=by omega
  rw[e3,e2,show((pre.length+(put (x-last-1).toNat).length:Nat):Int)=((pre++put (x-last-1).toNat).length:Int)from by simp,ih];simp[l2];omega
theorem AO (pre post:List UInt8) {l:List Int} (hr:eG (-1) l=true) (h3:∀x∈l,x≤4611686018427387904) (hl:l.length≤9223372036854775807):
  ic (pre++eL l++post) pre.length=(0,l,((pre.length+(eL l).length:Nat):Int)):=by
 have e0:pre++eL l++post=pre++put l.length++(l2 (-1) l++post):=by simp[eL]
 have e1:=Cl pre (l2 (-1) l++post) (n:=l.length) hl;have e2:pre++put l.length++(l2 (-1) l++post)=(pre++put l.length)++l2 (-1) l++post:=by simp
 unfold ic;rw[e0,e1,if_neg (by simp)];simp only;have:=Bq l (pre++put l.length) post (-1) (by omega) hr h3;rw[e2,show((pre.length+(put l.length).length:Nat):Int)=((pre++put l.length).length:Int)from by simp,ay,this];simp[eL];omega
end Go.K
namespace Go.K
abbrev Po:=Int×List Int
abbrev Bl:=Int×Int×Int×Int
abbrev Li:=List UInt8×List Bl×Int
abbrev RT.po:RT Po:=RT.pair (RT.int .i64) ((RT.int .i64).sl)
abbrev RT.bl:RT Bl:=RT.pair (RT.int .i64) (RT.pair (RT.int .i64) (RT.pair (RT.int .i64) (RT.int .i64)))
abbrev RT.li:RT Li:=RT.pair (RT.u8.sl) (RT.pair ((RT.bl).sl) (RT.int .i64))
theorem PO:Part RT.po (RT.int .i64) (fun p=>p.1) 0:=np _ _
theorem UP:Part RT.po ((RT.int .i64).sl) (fun p=>p.2) 1:=iK _ _
theorem bl0:Part RT.bl (RT.int .i64) (fun b=>b.1) 0:=np _ _
theorem bl1:Part RT.bl (RT.int .i64) (fun b=>b.2.1) 1:=(iK _ _).trans (np _ _)
theorem bl3:Part RT.bl (RT.int .i64) (fun b=>b.2.2.2) 3:=(iK _ _).trans ((iK _ _).trans (iK _ _))
theorem li0:Part RT.li (RT.u8.sl) (fun x=>x.1) 0:=np _ _
theorem li1:Part RT.li ((RT.bl).sl) (fun x=>x.2.1) 1:=(iK _ _).trans (np _ _)
def X8 (n:Nat) (k:Int):Bool:=decide (0≤k∧k<n)
def eh:Int→List Po→List UInt8
 |_,[]=>[]
 |last,(d,ps)::l=>put (d-last-1).toNat++eL ps++eh d l
def dB:Int→List Po→Int
 |last,[]=>last
 |_,(d,_)::l=>dB d l
def jv (l:List Po):Int:=(l.map fun p=>(p.2.length:Int)).sum
theorem uv (l l':List Po) (last:Int):eh last (l++l')=eh last l++eh (dB last l) l':=by
 induction l generalizing last with
 |nil=>rfl
 |cons p l ih=>obtain⟨d,ps⟩:=p;simp[eh,dB,ih]
theorem uw (l l':List Po):jv (l++l')=jv l+jv l':=by simp[jv]
def xl (l:List Po) (k:Nat):Bl:=((eh (-1) (l.take (8*k))).length,dB (-1) (l.take (8*k)),dB (-1) (l.take (8*k+8)),((l.drop (8*k)).take 8).length)
def rU (l:List Po) (m:Nat):List Bl:=(List.range m).map (xl l)
def nV (l:List Po):Li:=(eh (-1) l,rU l ((l.length+7)/8),jv l)
def pz (l:List Int):Bool:=eG (-1) l&&l.all (fun n=>decide (n<2147483648))
def fN:Int→List Po→Bool
 |_,[]=>true
 |last,(d,ps)::l=>decide (last<d)&&decide (d<2147483648)&& !ps.isEmpty&&pz ps&&fN d l
theorem Cm:∀{l:List Po} {i:Nat} {last d:Int} {ps:List Int},fN last l=true→l[i]? =some (d,ps)→
  dB last (l.take i)<d∧d<2147483648∧ps≠[]∧pz ps=true∧dB last (l.take (i+1))=d∧last≤dB last (l.take i)
 |[],i,_,_,_,_,h=>by simp at h
 |(d0,p0)::l,0,last,d,ps,hm,h=>by
  simp only[kW,dy,ej]at h;obtain⟨rfl,rfl⟩:=h;simp only[fN,bX,decide_eq_true_eq]at hm;obtain⟨⟨⟨⟨h1,h2⟩,h3⟩,h4⟩,h5⟩:=hm;refine⟨h1,h2,?_,h4,by simp[dB],by simp[dB]⟩;rintro rfl;simp at h3
 |(d0,p0)::l,i+1,last,d,ps,hm,h=>by
  simp only[fN,bX,decide_eq_true_eq]at hm;obtain⟨⟨⟨⟨h1,h2⟩,h3⟩,h4⟩,h5⟩:=hm;obtain⟨a1,a2,a3,a4,a5,a6⟩:=Cm (i:=i) h5 (by simpa using h);refine⟨by simpa[dB]using a1,a2,a3,a4,by simpa[dB]using a5,?_⟩;simp only[o8,dB];omega
theorem yV {l:List Po} {i:Nat} {d:Int} {ps:List Int} (last:Int) (h:l[i]? =some (d,ps)):
  eh last (l.take (i+1))=eh last (l.take i)++put (d-dB last (l.take i)-1).toNat++eL ps:=by
 obtain⟨h1,h2⟩:=an.1 h;rw[tb h1,h2,uv];simp[eh]
theorem qB {l:List Po} {i:Nat} (last:Int):eh last l=eh last (l.take i)++eh (dB last (l.take i)) (l.drop i):=by
 conv=>lhs;rw[←vH i l]
 exact uv _ _ _
theorem pA {l:List Int}:pz l=true↔eG (-1) l=true∧∀x∈l,x<2147483648:=by
 simp[pz]
def sC (b:List UInt8) (at_ ahead:Int):Po×Int×Int:=
 if(get b at_).2.2≠0 then((0,[]),0,(get b at_).2.2)
 else((IntKind.i64.wrap (IntKind.i64.wrap (ahead+1)+(get b at_).1),(ic b (get b at_).2.1).2.1),(ic b (get b at_).2.1).2.2,(ic b (get b at_).2.1).1)
theorem LQ {l:List Po} {i:Nat} {d:Int} {ps:List Int} (hm:fN (-1) l=true) (h:l[i]? =some (d,ps)) (hl:ps.length≤1099511627776):
  sC (eh (-1) l) (((eh (-1) (l.take i)).length:Nat):Int) (dB (-1) (l.take i))=((d,ps),(((eh (-1) (l.take (i+1))).length:Nat):Int),0):=by
 obtain⟨h1,h2,h3,h4,h5,h6⟩:=Cm hm h;obtain⟨h7,h8⟩:=pA.1 h4;have e1:=qB (l:=l) (i:=i+1) (-1);have e2:=yV (-1) h;generalize YY:dB (-1) (l.take i)=last at h1 h6 e2 ⊢;generalize rS:eh (-1) (l.take i)=pre at e2 ⊢;generalize eh (dB (-1) (l.take (i+1))) (l.drop (i+1))=post at e1;rw[e2]at e1 ⊢;have g1:=Cl pre (eL ps++post) (n:=(d-last-1).toNat) (by omega);have g2:=AO (pre++put (d-last-1).toNat) post h7 (fun x hx=>by have:=h8 x hx;omega) (by omega);rw[show pre++put (d-last-1).toNat++(eL ps++post)=eh (-1) l from by rw[e1];simp]at g1;rw[←e1]at g2;unfold sC;rw[g1];simp only[ne_eq,not_true_eq_false,if_false];have tS:((pre.length+(put (d-last-1).toNat).length:Nat):Int)=((pre++put (d-last-1).toNat).length:Int):=by simp
 rw[tS,g2];refine xK (xK ?_ rfl) (xK ?_ rfl)
 ·simp only;rw[kh (last+1) (by omega),kh _ (by omega)];omega
 ·simp;omega
theorem qC {l:List Int} {k:Nat} {x:Int} (p:Int→Bool) (h:l[k]? =some x):(l.drop k).all p=(p x&&(l.drop (k+1)).all p):=by
 obtain⟨h1,h2⟩:=an.1 h;rw[dH h1,h2,List.all_cons]
theorem mJ {l:List Po} {k:Nat} {d:Int} {ps:List Int} (h:l[k]? =some (d,ps)) (last:Int):
  fN last (l.drop k)=(decide (last<d)&&decide (d<2147483648)&& !ps.isEmpty&&pz ps&&fN d (l.drop (k+1))):=by
 obtain⟨h1,h2⟩:=an.1 h;rw[dH h1,h2,fN]
theorem yW {l:List Po} {i:Nat} {d:Int} {ps:List Int} (h:l[i]? =some (d,ps)):jv (l.take (i+1))=jv (l.take i)+ps.length:=by
 obtain⟨h1,h2⟩:=an.1 h;rw[tb h1,h2,uw];simp[jv]
theorem pB (l:List Po):0≤jv l:=by
 induction l with
 |nil=>simp[jv]
 |cons p l ih=>simp only[jv,eQ,List.sum_cons]at ih ⊢;omega
theorem DW (l:List Po) (i:Nat):0≤jv (l.take i)∧jv (l.take i)≤jv l:=by
 refine⟨pB _,?_⟩
 conv=>rhs;rw[←vH i l,uw]
 have:=pB (l.drop i);omega
theorem nW (l:List Po) (i:Nat):(eh (-1) (l.take i)).length≤(eh (-1) l).length:=by
 rw[qB (l:=l) (i:=i) (-1)];simp
theorem JN (l:List Po) (k:Nat):rU l (k+1)=rU l k++[xl l k]:=by simp[rU,List.range_succ]
theorem tx:∀(l:List Po) (last:Int),fN last l=true→last<2147483648→∀n:Nat,last≤dB last (l.take n)∧dB last (l.take n)<2147483648
 |[],last,_,h,n=>by simp[dB];exact h
 |(d,ps)::l,last,hm,h,0=>by simp[dB];exact h
 |(d,ps)::l,last,hm,h,n+1=>by
  simp only[fN,bX,decide_eq_true_eq]at hm;obtain⟨⟨⟨⟨h1,h2⟩,h3⟩,h4⟩,h5⟩:=hm;have:=tx l d h5 h2 n;simp only[o8,dB];omega
theorem aeB {M:aD} {w:World} {a b c d:Int} (ha: -9223372036854775808≤a∧a≤9223372036854775807) (hb: -9223372036854775808≤b∧b≤9223372036854775807) (hc: -9223372036854775808≤c∧c≤9223372036854775807) (hd: -9223372036854775808≤d∧d≤9223372036854775807):
  RT.bl.V M w (a,b,c,d) (.agg [.int .i64 a,.int .i64 b,.int .i64 c,.int .i64 d].toArray):=
 ⟨_,⟨[.int .i64 a],[.int .i64 b,.int .i64 c,.int .i64 d],rfl,⟨rfl,ha⟩,[.int .i64 b],[.int .i64 c,.int .i64 d],rfl,⟨rfl,hb⟩,[.int .i64 c],[.int .i64 d],rfl,⟨rfl,hc⟩,⟨rfl,hd⟩⟩,rfl⟩
theorem YZ {M:aD} {w:World} {bx:Nat} {b:List UInt8} {ks:List Bl} {sG:Int} {vb vk:Value} {e:TypeId} {fr:Nat×Nat} (hx:w.heap[bx]? =some (.cells #[vb,vk,.int .i64 sG] e fr)) (hm: ¬M bx) (hb:(RT.u8.sl).V M w b vb) (hk:((RT.bl).sl).V M w ks vk) (ht: -9223372036854775808≤sG∧sG≤9223372036854775807):
  cO RT.li M w (.pointer (some ⟨bx,0,none⟩)) (b,ks,sG):=
 ⟨bx,0,[vb,vk,.int .i64 sG],rfl,hm,⟨[vb],[vk,.int .i64 sG],rfl,mI hb rfl rfl,[vk],[.int .i64 sG],rfl,mI hk rfl rfl,⟨rfl,ht⟩⟩,fun j v hj=>fG hx (by simpa using hj)⟩
theorem LR {l:List Po} {i:Nat} (h8:i%8=0) (hi:i<l.length):rU l ((i+7)/8)++[(((eh (-1) (l.take i)).length:Int),dB (-1) (l.take i),dB (-1) (l.take (min (i+8) l.length)),(((l.drop i).take 8).length:Int))]=rU l ((min (i+8) l.length+7)/8):=by
 rw[show(min (i+8) l.length+7)/8=(i+7)/8+1 from by omega,JN];have e:8*((i+7)/8)=i:=by omega
 have e2:l.take (i+8)=l.take (min (i+8) l.length):=by rw[List.take_eq_take_iff];omega
 simp only[xl,e,e2]
end Go.K
namespace Go.K
section
variable {P:Program} {r:Option Nat} {n:Nat} {L:Sl} {ds:List Deferred} {w:World} {K:Kt} {ops:Array Oper} {rest:List Oper} {d:Nat} {x y:Operand} {ty:TypeId} {pos:String} {af:Array Edge}
theorem Rg.Br {t t' e:TypeId} {p:Option Addr} (ht:P.underlying t=some (.pointer e)) (hx:ev L x=some (.pointer p)) (hy:ev L y=some (.pointer none)) (hd:Nat.blt d n=true)
  (k:Rg P r n ops rest ((d,.bool (decide (p=none)))::L) ds w K):
  Rg P r n ops ({dst:=some d,op:= .binOp .eql t x y t',type:=ty,pos,after:=af,guard:=none}::rest) L ds w K:=
 .op (fun _ h=>by cases h) rfl rfl hd _ w (fun ρ h=>by
  have YW:P.underlying t=some (.pointer (P.pointee t)):=by simp[Program.pointee,ht]
  have he:=run_equal_pointer_nil (P:=P) w t p YW;simp only[execOp];rw[h x _ hx,h y _ hy]
  cases p<;>simp[eqGuard,binOp,run_underlying ht,he]) k
theorem Rg.Y0 {t t' e:TypeId} {p:Option Addr} (ht:P.underlying t=some (.pointer e)) (hx:ev L x=some (.pointer p)) (hy:ev L y=some (.pointer none)) (hd:Nat.blt d n=true)
  (k:Rg P r n ops rest ((d,.bool (decide (p≠none)))::L) ds w K):
  Rg P r n ops ({dst:=some d,op:= .binOp .neq t x y t',type:=ty,pos,after:=af,guard:=none}::rest) L ds w K:=
 .op (fun _ h=>by cases h) rfl rfl hd _ w (fun ρ h=>by
  have YW:P.underlying t=some (.pointer (P.pointee t)):=by simp[Program.pointee,ht]
  have he:=run_equal_pointer_nil (P:=P) w t p YW;simp only[execOp];rw[h x _ hx,h y _ hy]
  cases p<;>simp[eqGuard,binOp,run_underlying ht,he]) k
end
end Go.K
namespace Go.K
theorem LS {M:aD} {w:World} {d:Int} {ps:List Int} {v:Value} (h:RT.po.V M w (d,ps) v):∃u,v= .agg #[.int .i64 d,u]∧u.oneCell'=true∧(-9223372036854775808≤d∧d≤9223372036854775807):=by
 obtain⟨vs,⟨va,vb,rfl,⟨rfl,hd⟩,hb⟩,rfl⟩:=h;obtain⟨a,cap,rfl,_⟩:=hb;exact⟨_,rfl,rfl,hd⟩
end Go.K
namespace Go.K
section
variable {P:Program} {r:Option Nat} {n:Nat} {L:Sl} {ds:List Deferred} {w:World}
theorem Cn {fn:Func} {Q:Value→World→Prop} {c t b:Nat} {vs:List Value} {fs:TypeDesc} {e:TypeId} {fr:Nat×Nat} {zv:Value} {size bytes:Nat} (hr:fn.results= #[.cell c t]) (hc:lk L c=some (.pointer (some ⟨b,0,none⟩))) (hu:P.underlying t=some fs) (hf:fs.isRow=true) (hi:TI P t zv size bytes) (hl:vs.length=size)
  (hb:w.heap[b]? =some (.cells vs.toArray e fr)) (h:Q (.agg vs.toArray) w):xQ P fn Q .ret L [] w:=
 ⟨rfl,fun a ha=>⟨_,by
  obtain⟨i,yi,_,AG,_⟩:=hi.get;have LN:w.rangeAt b 0 vs:=fun j v hj=>fG hb (by simpa using hj)
  have:=run_loadVar_mid (P:=P) w b 0 t vs fs LN hu hf (by simp[yi,AG,hl]);simp[results,hr,ha _ _ hc,asAddr,this,cq],h⟩⟩
end
end Go.K
namespace Go.K
section
variable {P:Program} {r:Option Nat} {n:Nat} {L:Sl} {ds:List Deferred} {w:World} {K:Kt} {ops:Array Oper} {rest:List Oper} {d:Nat} {ty:TypeId} {pos:String} {af:Array Edge} {x y i:Operand} {α:Type} {A:RT α}
theorem Rg.opv {o:Oper} (o6:∀c,o.op≠ .defer c) (hg:o.guard=none) (hd:o.dst=none) (v:Value) (w':World)
  (gY:∀ρ:Operand→Value,(∀x u,ev L x=some u→ρ x=u)→(execOp ρ o).run P w= .ok (.value v) w')
  (h:Rg P r n ops rest L ds w' K):Rg P r n ops (o::rest) L ds w K:=by
 refine⟨fun a ha=>wpListIn_plain hg fun K' P3=>DC o6 ?_⟩;rw[gY a.eval (fun x u hx=>ha.eval hx),Oper.uponIn_value,hd];exact P3 _ _ (h.run _ ha)
def qD (P:Program) (t:TypeId) (name:String) (f:FuncId) (ptr:Bool):Prop:=
 (P.info? t).bind (fun i=>(i.methods.find? (fun m=>m.name==name)).map fun m=>(m.path.toList.length,m.func))=some (0,some (f,ptr))
theorem qD.get {t:TypeId} {name:String} {f:FuncId} {ptr:Bool} (h:qD P t name f ptr):∃inf m,P.info? t=some inf∧inf.methods.find? (fun m=>m.name==name)=some m∧m.path= #[]∧m.func=some (f,ptr):=by
 unfold qD at h
 cases hi:P.info? t with
 |none=>rw[hi]at h;cases h
 |some inf=>
  rw[hi]at h
  cases hm:inf.methods.find? (fun m=>m.name==name)with
  |none=>simp[hm]at h
  |some m=>
   simp[hm]at h;exact⟨inf,m,rfl,hm,h.1,h.2⟩
def GI (P:Program) (w:World) (t:TypeId) (v:Value) (name:String) (f:FuncId) (u:Value):Prop:=∀fuel:Nat,(method (fuel+1) t v name).run P w= .ok (f,u) w
theorem qD.ptr {t e:TypeId} {name:String} {f:FuncId} (h:qD P t name f true) (ht:P.underlying t=some (.pointer e)) (v:Value):GI P w t v name f v:=fun fuel=>by
 obtain⟨inf,m,h1,h2,h3,h4⟩:=h.get;simp[method,typeInfo,h1,h2,h3,h4,follow,receiverAt,run_underlying ht,Place.get]
theorem DX (DE:Array TypeId) (ty:TypeId) (a:Addr) (s m:String):(Builtin.ssaWrapNilChk_ DE ty #[.pointer (some a),strVal s,strVal m]).run P w= .ok (.pointer (some a)) w:=rfl
theorem qD.load {t e:TypeId} {u:TypeDesc} {name:String} {f:FuncId} {b:Nat} {cs:Array Value} {te:TypeId} {fr:Nat×Nat} {v:Value} (h:qD P t name f false) (ht:P.underlying t=some (.pointer e)) (hu:P.underlying e=some u) (hf:flat u=true)
  (hb:w.heap[b]? =some (.cells cs te fr)) (hv:cs[0]? =some v):GI P w t (.pointer (some ⟨b,0,none⟩)) name f v:=fun fuel=>by
 obtain⟨inf,m,h1,h2,h3,h4⟩:=h.get
 have Gp:(isAgg e).run P w= .ok false w:=by
  unfold isAgg;rw[cq,run_underlying hu w]
  cases u<;>simp_all [flat,Result.andThen]
 have hl:(loadVar e ⟨b,0,none⟩).run P w= .ok v w:=by simp[loadVar,Gp,Go.load,Sem.run,fG hb hv]
 simp[method,typeInfo,h1,h2,h3,h4,follow,receiverAt,run_underlying ht,Place.get,DX,asAddr,hl]
theorem Rg.invoke {t:TypeId} {v u:Value} {name:String} {f:FuncId} {xs:List Operand} {vs:List Value} {DE:Array TypeId} {Q:Value→World→Prop} (hx:ev L x=some (.iface t v)) (jd:PK L xs=some vs) (hd:Nat.blt d n=true) (hm:GI P w t v name f u) (he:Enters P f)
  (hs:Spec P f (u::vs).toArray w Q) (k:∀v w',Q v w'→Rg P r n ops rest ((d,v)::L) ds w' K):
  Rg P r n ops ({dst:=some d,op:= .call {callee:= .invoke x name,args:=xs.toArray,argTypes:=DE},type:=ty,pos,after:=af,guard:=none}::rest) L ds w K:=
 .Gn (w1:=w) (fun _ h=>by cases h) rfl rfl hd (fun ρ h=>by
  have h1:=pf h jd;have h2:=hm (P.types.size+99);rw[show P.types.size+99+1=P.types.size+Made.depth from rfl]at h2;simp only[execOp,resolve,fe,h1,h x _ hx];have h3:=he (u::vs).toArray w;simp[Go.invoke,callMethod,h2]at h3 ⊢;exact h3) hs k
def isI:TypeDesc→Bool
 |.interface _=>true
 |_=>false
theorem Rg.yn {t:TypeId} {u:TypeDesc} {v:Value} (hu:P.underlying t=some u) (hn:isI u=false) (hx:ev L x=some v) (hd:Nat.blt d n=true) (k:Rg P r n ops rest ((d,.iface t v)::L) ds w K):
  Rg P r n ops ({dst:=some d,op:= .makeInterface t x,type:=ty,pos,after:=af,guard:=none}::rest) L ds w K:=
 .op (fun _ h=>by cases h) rfl rfl hd _ w (fun ρ h=>by
  simp only[execOp,h x _ hx]
  cases u<;>simp_all [Instr.makeInterface,run_underlying hu,isI]) k
theorem Rg.Iu {t xt:TypeId} {u:TypeDesc} {v:Value} (hu:P.underlying t=some u) (hn:isI u=false) (hx:ev L x=some (.iface t v)) (hd:Nat.blt d n=true) (k:Rg P r n ops rest ((d,v)::L) ds w K):
  Rg P r n ops ({dst:=some d,op:= .typeAssert x xt t false,type:=ty,pos,after:=af,guard:=none}::rest) L ds w K:=
 .op (fun _ h=>by cases h) rfl rfl hd _ w (fun ρ h=>by
  simp only[execOp,h x _ hx]
  cases u<;>simp_all [Instr.typeAssert,run_underlying hu,isI]) k
theorem eg.set {M:aD} {x:α} {vs:List Value} (hx:A.R M w x vs):∀{xs:List α} {C:List Value},eg A M w xs C→∀{j:Nat},j<xs.length→eg A M w (xs.set j x) (C.take (j*A.n)++vs++C.drop (j*A.n+A.n))
 |[],_,_,j,hj=>by simp at hj
 |y::xs,_,⟨us,rest,h1,h2,h3⟩,0,_=>by
  subst h1;have hl:=A.len h2;refine⟨vs,rest,?_,hx,h3⟩;rw[Nat.zero_mul,List.take_zero,fQ,fR,←hl,List.drop_left]
 |y::xs,_,⟨us,rest,h1,h2,h3⟩,j+1,hj=>by
  subst h1;have hl:=A.len h2;refine⟨us,_,?_,h2,eg.set hx h3 (j:=j) (by simpa using hj)⟩;have e1:(j+1)*A.n=us.length+j*A.n:=by rw[Nat.add_mul,hl];omega
  rw[e1,List.take_length_add_append,show us.length+j*A.n+A.n=us.length+(j*A.n+A.n)from by omega,List.drop_length_add_append];simp
theorem eg.take {M:aD}:∀{xs:List α} {C:List Value},eg A M w xs C→∀m,eg A M w (xs.take m) (C.take (m*A.n))
 |xs,C,h,0=>by simp;exact(rfl:([]:List Value)=[])
 |[],C,h,m+1=>by cases h;simp;exact(rfl:([]:List Value)=[])
 |y::xs,_,⟨us,rest,h1,h2,h3⟩,m+1=>by
  subst h1;have hl:=A.len h2;refine⟨us,rest.take (m*A.n),?_,h2,eg.take h3 m⟩;rw[show(m+1)*A.n=us.length+m*A.n from by rw[Nat.add_mul,hl];omega,List.take_length_add_append]
theorem Iv {l vs:List Value} {o:Nat} (h:o+vs.length≤l.length) (t:Nat):(l.take o++vs++l.drop (o+vs.length))[t]? =if o≤t∧t<o+vs.length then vs[t-o]? else l[t]? :=by
 have h1:(l.take o).length=o:=by rw[br];omega
 rcases cE t o with h2|h2
 ·rw[if_neg (by omega),List.append_assoc,fF (by omega),ck,if_pos h2]
 ·rcases cE t (o+vs.length)with h3|h3
  ·rw[if_pos ⟨h2,h3⟩,fF (by rw[a8];omega),jI (by omega),h1]
  ·rw[if_neg (by omega),jI (by rw[a8];omega),List.getElem?_drop,a8,h1];congr 1;omega
theorem Own.we {e:TypeId} {M:aD} {base:Nat} {v:Value} {xs:List α} (h:Own A e M w base v xs) (hv:v≠ .slice none 0 0):∃g cap cur,v= .slice (some ⟨g,0,none⟩) xs.length cap∧base≤g∧M g∧w.heap[g]? =some (.cells cur e (0,0)):=by
 obtain⟨⟨C,hr,_⟩,hm⟩:=h;rcases hr.2 with⟨h1,_⟩|⟨g,cap,cur,h1,h2,h3,_⟩
 ·exact absurd h1 hv
 ·exact⟨g,cap,cur,h1,h2,hm g (by rw[h1];rfl),h3⟩
theorem Own.setCells {e:TypeId} {M:aD} {base g len cap j:Nat} {xs:List α} {x:α} {vs:List Value} (h:Own A e M w base (.slice (some ⟨g,0,none⟩) len cap) xs) (hj:j<xs.length) (hx:A.R M w x vs):
  ∃w',w'=w.setCells g (j*A.n) vs∧Own A e M w' base (.slice (some ⟨g,0,none⟩) len cap) (xs.set j x)∧Step M w M w' (fun k=>k=g):=by
 obtain⟨⟨C,hr,ha⟩,hm⟩:=h;have Gd:=hm g rfl;have hl:=A.len hx;rcases hr.2 with⟨h1,_⟩|⟨g',yH,cur,h1,h2,h3,h4,h5,h6,h7⟩
 ·cases h1
 ·simp only[fY,dy,om]at h1;obtain⟨⟨rfl,_⟩,rfl,rfl⟩:=h1;obtain⟨Gc,c1,c2,c3,c4⟩:=nD vs w g (j*A.n) cur e (0,0) h3;have hs:=c4 M Gd;have KZ:j*A.n+A.n≤xs.length*A.n:=by have:=gA A.n (show j+1≤xs.length from hj);rw[Nat.add_mul]at this;omega
  have lL:xs.length*A.n≤cap*A.n:=gA _ h4;have Uw:C.length=xs.length*A.n:=hr.1;refine⟨_,rfl,⟨⟨C.take (j*A.n)++vs++C.drop (j*A.n+A.n),⟨?_,.inr ⟨g,cap,Gc,by rw[eY],h2,c1,by rw[eY];exact h4,h5,by rw[c2];exact h6,?_⟩⟩,eg.set (A.le hs.le hx) (ha.le hs.le) hj⟩,fun b hb=>hm b hb⟩,hs⟩
  ·rw[a8,a8,br,dC,Uw,eY];omega
  ·rw[eY];refine fq fun t=>?_
   have LU:=Iv (l:=C) (vs:=vs) (o:=j*A.n) (by rw[hl,Uw];exact KZ) t;rw[hl]at LU;rw[LU,ck];have YI:∀t,t<xs.length*A.n→C[t]? =cur[t]? :=fun t ht=>by rw[←h7,ck,if_pos ht];simp
   split
   ·rename_i ht
    have e0:Gc.toList[t]? =Gc[t]? :=by simp
    rw[e0,c3 t,hl];by_cases h8:j*A.n≤t∧t<j*A.n+A.n
    ·rw[if_pos ⟨h8.1,h8.2,by omega⟩,if_pos h8]
    ·rw[if_neg (fun h=>h8 ⟨h.1,h.2.1⟩),if_neg h8,YI t ht]
   ·rename_i ht
    rw[if_neg (by omega),du (by rw[Uw];omega)]
theorem Rg.tz {t e:TypeId} {κ:IntKind} {j:Int} {b o len cap bytes size:Nat} {zv:Value} (ht:P.underlying t=some (.slice e)) (hi:TI P e zv size bytes) (hx:ev L x=some (.slice (some ⟨b,o,none⟩) len cap)) (Gq:ev L i=some (.int κ j)) (hd:Nat.blt d n=true) (hj:0≤j∧j<len) {q:Nat} (hq:o+j.toNat*size=q)
  (k:Rg P r n ops rest ((d,.pointer (some ⟨b,q,none⟩))::L) ds w K):
  Rg P r n ops ({dst:=some d,op:= .indexAddr t x i,type:=ty,pos,after:=af,guard:=none}::rest) L ds w K:=
 .op (fun _ h=>by cases h) rfl rfl hd _ w (fun ρ h=>by
  simp only[execOp,h x _ hx,h i _ Gq];simp[Instr.indexAt,run_underlying ht,asIntOf,hj,hi.sizeOf,xL,hq]) k
theorem Own.ptr {e:TypeId} {M:aD} {base g len cap j:Nat} {xs:List α} {x:α} (h:Own A e M w base (.slice (some ⟨g,0,none⟩) len cap) xs) (hx:xs[j]? =some x):cO A (fun k=>M k∧k≠g) w (.pointer (some ⟨g,j*A.n,none⟩)) x:=by
 obtain⟨⟨C,hr,ha⟩,hm⟩:=h;rcases hr.2 with⟨h1,_⟩|⟨g',yH,cur,h1,h2,h3,h4,h5,h6,h7⟩
 ·cases h1
 ·simp only[fY,dy,om]at h1;obtain⟨⟨rfl,_⟩,rfl,rfl⟩:=h1;obtain⟨vs,hv,hj⟩:=ha.at_ j x hx;refine⟨g,_,vs,rfl,fun h=>h.2 rfl,A.le (fun b _ hm=>⟨fun h=>hm h.1,rfl⟩) hv,fun t u hu=>?_⟩;have h8:=hj t u hu;rw[←h7,ck]at h8
  split at h8
  ·exact fG h3 (by simpa using h8)
  ·cases h8
theorem Own.cut {e:TypeId} {M:aD} {base g len cap m:Nat} {xs:List α} (h:Own A e M w base (.slice (some ⟨g,0,none⟩) len cap) xs) (hm:m≤xs.length):Own A e M w base (.slice (some ⟨g,0,none⟩) m cap) (xs.take m):=by
 obtain⟨⟨C,hr,ha⟩,hmm⟩:=h;have hl:(xs.take m).length=m:=by rw[br];omega
 rcases hr.2 with⟨h1,_⟩|⟨g',yH,cur,h1,h2,h3,h4,h5,h6,h7⟩
 ·cases h1
 ·simp only[fY,dy,om]at h1;obtain⟨⟨rfl,_⟩,rfl,rfl⟩:=h1;have LV:=gA A.n hm;refine⟨⟨C.take (m*A.n),⟨by rw[br,hr.1,hl];omega,.inr ⟨g,cap,cur,by rw[hl],h2,h3,by omega,h5,h6,?_⟩⟩,ha.take m⟩,fun b hb=>hmm b hb⟩;rw[hl,←h7,List.take_take,yz LV]
theorem Rg.UQ {t e:TypeId} {h:Operand} {κ:IntKind} {hi:Int} {g len cap bytes size:Nat} {zv:Value} (ht:P.underlying t=some (.slice e)) (Ca:TI P e zv size bytes) (hx:ev L x=some (.slice (some ⟨g,0,none⟩) len cap)) (hh:ev L h=some (.int κ hi)) (hd:Nat.blt d n=true) (hb:0≤hi∧hi≤cap)
  (k:Rg P r n ops rest ((d,.slice (some ⟨g,0,none⟩) hi.toNat cap)::L) ds w K):
  Rg P r n ops ({dst:=some d,op:= .slice t x none (some h) none,type:=ty,pos,after:=af,guard:=none}::rest) L ds w K:=by
 refine .op (fun _ h=>by cases h) rfl rfl hd _ w (fun ρ hρ=>?_) k;simp only[execOp,hρ x _ hx,cY,iu,hρ h _ hh];rw[cq,run_sliceAt_slice _ _ _ _ _ _ (jg ht),run_slice_h _ _ _ _ _ (jg ht) _ _ hb.1 hb.2,pg ht,Ca.sizeOf];simp[sliced,xL]
theorem Rg.LW {t e:TypeId} {l:Operand} {κ:IntKind} {lo:Int} {g len cap bytes size:Nat} {zv:Value} (ht:P.underlying t=some (.slice e)) (Ca:TI P e zv size bytes) (hx:ev L x=some (.slice (some ⟨g,0,none⟩) len cap)) (hl:ev L l=some (.int κ lo)) (hd:Nat.blt d n=true) (hb:0≤lo∧lo≤len∧lo<cap)
  (k:Rg P r n ops rest ((d,.slice (some ⟨g,lo.toNat*size,none⟩) (len-lo.toNat) (cap-lo.toNat))::L) ds w K):
  Rg P r n ops ({dst:=some d,op:= .slice t x (some l) none none,type:=ty,pos,after:=af,guard:=none}::rest) L ds w K:=by
 refine .op (fun _ h=>by cases h) rfl rfl hd _ w (fun ρ hρ=>?_) k;simp only[execOp,hρ x _ hx,cY,iu,hρ l _ hl];rw[cq,run_sliceAt_slice _ _ _ _ _ _ (jg ht),run_slice_l _ _ _ _ _ (jg ht) _ _ hb.1 hb.2.1,pg ht,Ca.sizeOf];have eN: ¬cap=lo.toNat:=by omega
 simp[sliced,xL,eN]
theorem Rg.GK {t e:TypeId} {zv:Value} {bytes:Nat} {M:aD} {base g len cap j:Nat} {xs:List α} {a:α} {v:Value} (hi:TI P t zv A.n bytes) (hg:A.agg=true) (hx:ev L x=some (.pointer (some ⟨g,j*A.n,none⟩))) (hy:ev L y=some v) (h:Own A e M w base (.slice (some ⟨g,0,none⟩) len cap) xs) (hj:j<xs.length) (hv:A.V M w a v)
  (k:∀w',Own A e M w' base (.slice (some ⟨g,0,none⟩) len cap) (xs.set j a)→Step M w M w' (fun k=>k=g)→Rg P r n ops rest L ds w' K):
  Rg P r n ops ({dst:=none,op:= .store t x y,type:=ty,pos,after:=af,guard:=none}::rest) L ds w K:=by
 obtain⟨vs,jd,rfl⟩:=hv;obtain⟨w',UR,ho,hs⟩:=h.setCells hj jd;obtain⟨⟨C,hr,ha⟩,hm⟩:=h;have hl:=A.len jd;have h1:=A.one jd;rcases hr.2 with⟨h2,_⟩|⟨g',yH,cur,h2,_,h3,h4,h5,h6,h7⟩
 ·cases h2
 ·simp only[fY,dy,om]at h2;obtain⟨⟨rfl,_⟩,rfl,rfl⟩:=h2;have KZ:j*A.n+A.n≤xs.length*A.n:=by have:=gA A.n (show j+1≤xs.length from hj);rw[Nat.add_mul]at this;omega
  have lL:xs.length*A.n≤cap*A.n:=gA _ h4;refine .Sj (fun _ h=>by cases h) rfl rfl w' (fun ρ hρ=>?_) (k w' ho hs);subst UR;simp only[execOp,hρ x _ hx,hρ y _ hy];obtain⟨inf,yi,_,AG,_⟩:=hi.get
  have:=run_storeAt_mid (P:=P) w g (j*A.n) t vs.toArray (fun q hq=>by
   have hq':j*A.n+q<cur.size:=by simp at hq;omega
   exact⟨by rw[fG h3 (v:=cur[j*A.n+q]) (by simp[hq'])];rfl,by simp[World.frozen?,h3]⟩) (by simp[yi,AG,hl]) (by simpa[Array.all_eq_true_iff_forall_mem]using h1)
  simp[RT.val,hg,this]
theorem Rg.LX {t e:TypeId} {zv:Value} {bytes:Nat} {M:aD} {base g len cap j:Nat} {κ:IntKind} {xs:List Int} {a:Int} (hi:TI P t zv 1 bytes) (hx:ev L x=some (.pointer (some ⟨g,j,none⟩))) (hy:ev L y=some (.int κ a)) (h:Own (RT.int κ) e M w base (.slice (some ⟨g,0,none⟩) len cap) xs) (hj:j<xs.length) (ha:κ.min≤a∧a≤κ.max)
  (k:∀w',Own (RT.int κ) e M w' base (.slice (some ⟨g,0,none⟩) len cap) (xs.set j a)→Step M w M w' (fun k=>k=g)→Rg P r n ops rest L ds w' K):
  Rg P r n ops ({dst:=none,op:= .store t x y,type:=ty,pos,after:=af,guard:=none}::rest) L ds w K:=by
 have hR:(RT.int κ).R M w a [.int κ a]:=⟨rfl,ha.1,ha.2⟩;obtain⟨w',UR,ho,hs⟩:=h.setCells hj hR;obtain⟨⟨C,hr,_⟩,hm⟩:=h;rcases hr.2 with⟨h2,_⟩|⟨g',yH,cur,h2,_,h3,h4,h5,h6,h7⟩
 ·cases h2
 ·simp only[fY,dy,om]at h2;obtain⟨⟨rfl,_⟩,rfl,rfl⟩:=h2;have e1:(RT.int κ).n=1:=rfl;rw[e1]at h6 UR;refine .Sj (fun _ h=>by cases h) rfl rfl w' (fun ρ hρ=>?_) (k w' ho hs);subst UR;simp only[execOp,hρ x _ hx,hρ y _ hy];have:=nR (P:=P) hi (w:=w) (b:=g) (o:=j) (v:= .int κ a) rfl (by rw[fG h3 (v:=cur[j]'(by omega)) (by simp)];rfl) (by simp[World.frozen?,h3]);simp[this,World.setCells]
theorem Rg.Y1 {t e:TypeId} {zv:Value} {bytes size:Nat} (ht:P.underlying t=some (.slice e)) (hi:TI P e zv size bytes) (M:aD) (hd:Nat.blt d n=true)
  (k:∀g w',w.heap.size≤g→g<w'.heap.size→w'.heap[g]? =some (.cells #[] e (0,0))→Step M w (ins M g) w' aC→Rg P r n ops rest ((d,.slice (some ⟨g,0,none⟩) 0 0)::L) ds w' K):
  Rg P r n ops ({dst:=some d,op:= .buildSlice t 0 #[],type:=ty,pos,after:=af,guard:=none}::rest) L ds w K:=by
 refine .op (fun _ h=>by cases h) rfl rfl hd (.slice (some ⟨w.heap.size,0,none⟩) 0 0) (w.alloc (.cells #[] e)) (fun ρ hρ=>?_) (k w.heap.size _ (aR _) (by simp) (cj w _) ((cW M w _).own (aR _) (by simp)));simp only[execOp,Instr.buildSlice,cq,run_underlying ht,cD,hi.sizeOf];simp[newRow,newObj,Sem.run,Instr.fill];have h0:Array.range 0= #[]:=by apply Array.ext<;>simp
 simp[h0]
end
theorem Own.empty {α:Type} {A:RT α} {e:TypeId} {M:aD} {w:World} {base g:Nat} (h:w.heap[g]? =some (.cells #[] e (0,0))) (hb:base≤g) (hm:M g):Own A e M w base (.slice (some ⟨g,0,none⟩) 0 0) []:=
 ⟨⟨[],⟨by simp,.inr ⟨g,0,#[],rfl,hb,h,aR _,bD _,by simp,by simp⟩⟩,rfl⟩,fun b hb=>by cases hb;exact hm⟩
theorem Own.LY {e:TypeId} {M:aD} {w:World} {base g len cap j:Nat} {κ:IntKind} {xs:List Int} {x:Int} (h:Own (RT.int κ) e M w base (.slice (some ⟨g,0,none⟩) len cap) xs) (hx:xs[j]? =some x):cO (RT.int κ) (fun k=>M k∧k≠g) w (.pointer (some ⟨g,j,none⟩)) x:=by
 have:=h.ptr hx
 rwa [show j*(RT.int κ).n=j from eU j]at this
end Go.K
namespace Go.K
section
variable {P:Program} {r:Option Nat} {n:Nat} {L:Sl} {ds:List Deferred} {w:World} {K:Kt} {ops:Array Oper} {rest:List Oper} {d:Nat} {x y i:Operand} {ty:TypeId} {pos:String} {af:Array Edge}
theorem Rg.GL {t e:TypeId} {κ:IntKind} {j:Int} {b len cap bytes:Nat} {zv:Value} (ht:P.underlying t=some (.slice e)) (hi:TI P e zv 1 bytes) (hx:ev L x=some (.slice (some ⟨b,0,none⟩) len cap)) (Gq:ev L i=some (.int κ j)) (hd:Nat.blt d n=true) (hj:0≤j∧j<len)
  (k:Rg P r n ops rest ((d,.pointer (some ⟨b,j.toNat,none⟩))::L) ds w K):
  Rg P r n ops ({dst:=some d,op:= .indexAddr t x i,type:=ty,pos,after:=af,guard:=none}::rest) L ds w K:=
 .op (fun _ h=>by cases h) rfl rfl hd _ w (fun ρ h=>by
  simp only[execOp,h x _ hx,h i _ Gq];simp[Instr.indexAt,run_underlying ht,asIntOf,hj,hi.sizeOf,xL]) k
theorem Rg.mK {t e:TypeId} {κ:IntKind} {j:Int} {b len bytes:Nat} {zv:Value} (ht:P.underlying t=some (.array len e)) (hi:TI P e zv 1 bytes) (hx:ev L x=some (.pointer (some ⟨b,0,none⟩))) (Gq:ev L i=some (.int κ j)) (hd:Nat.blt d n=true) (hj:0≤j∧j<len)
  (k:Rg P r n ops rest ((d,.pointer (some ⟨b,j.toNat,none⟩))::L) ds w K):
  Rg P r n ops ({dst:=some d,op:= .indexAddr t x i,type:=ty,pos,after:=af,guard:=none}::rest) L ds w K:=
 .op (fun _ h=>by cases h) rfl rfl hd _ w (fun ρ h=>by
  simp only[execOp,h x _ hx,h i _ Gq];simp[Instr.indexAt,run_underlying ht,asIntOf,hj,hi.sizeOf,xL,Instr.sureAddr]) k
theorem Rg.mk0 {t e:TypeId} {len:Nat} {bytes:Nat} {zv:Value} (M:aD) (ht:P.underlying t=some (.slice e)) (hi:TI P e zv 1 bytes) (hz:zv.cells= #[zv]) (hx:ev L x=some (.int .i64 len)) (hy:ev L y=some (.int .i64 len)) (hd:Nat.blt d n=true) (hb:bytes*len≤140737488355328) (hl:len≤9223372036854775807)
  (k:∀b w',w.heap.size≤b→b<w'.heap.size→w'.heap[b]? =some (.cells (List.replicate len zv).toArray e (0,0))→Step M w (ins M b) w' aC→Rg P r n ops rest ((d,.slice (some ⟨b,0,none⟩) len len)::L) ds w' K):
  Rg P r n ops ({dst:=some d,op:= .makeSlice t x y,type:=ty,pos,after:=af,guard:=none}::rest) L ds w K:=by
 obtain⟨inf,i1,i2,i3,i4⟩:=hi.get
 have hm:madeCells zv.cells (len*1)=(List.replicate len zv).toArray:=by
  apply Array.ext
  ·simp[madeCells]
  ·intro j h1 h2;simp[madeCells,hz,Nat.mod_one]
 refine .op (fun _ h=>by cases h) rfl rfl hd (.slice (some ⟨w.heap.size,0,none⟩) len len) (w.alloc (.cells (List.replicate len zv).toArray e)) (fun ρ hρ=>?_) (k w.heap.size _ (aR _) (by simp) (cj w _) ((cW M w _).own (aR _) (by simp)))
 have hbc:(inf.bytes:Int)*(len:Int)≤281474976710656:=by
  rw[i4];have h1:((bytes*len:Nat):Int)≤281474976710656:=by omega
  rwa [Int.natCast_mul]at h1
 have hr:=run_make (P:=P) w t e inf zv ht i1 i2 .i64 .i64 (len:Int) (len:Int) (by omega) (Int.le_refl _) hbc (by omega);simp only[ay,i3,hm]at hr;simp only[execOp,hρ x _ hx,hρ y _ hy];simp[cq,hr]
theorem Rg.Y2 {xt:TypeId} {p:Nat} (hx:ev L x=some (.int .u64 p)) (hd:Nat.blt d n=true) (hp:p<2^64) (k:Rg P r n ops rest ((d,.int .u64 ((2^64-1-p:Nat):Int))::L) ds w K):
  Rg P r n ops ({dst:=some d,op:= .unOp .xor xt x,type:=ty,pos,after:=af,guard:=none}::rest) L ds w K:=by
 refine .op (fun _ h=>by cases h) rfl rfl hd _ w (fun ρ h=>?_) k
 have e:(2^64-1:Nat)^^^p=2^64-1-p:=by
  apply Nat.eq_of_testBit_eq;intro j;have h1:=Nat.testBit_two_pow_sub_succ (x:=p) (n:=64) hp j;rw[show 2^64-1-p=2^64-(p+1)from by omega,h1,Nat.testBit_xor,Nat.testBit_two_pow_sub_one];by_cases hj:j<64
  ·simp[hj]
  ·have:p.testBit j=false:=Nat.testBit_lt_two_pow (iE hp (nP (by decide) (by omega)));simp[hj,this]
 simp only[execOp,h x _ hx]
 have hb:(BitVec.ofInt IntKind.u64.bits IntKind.u64.max^^^BitVec.ofInt IntKind.u64.bits (p:Int)).toNat=2^64-1-p:=by
  rw[BitVec.toNat_xor,qv,qv];have h1:(IntKind.u64.max%((2^IntKind.u64.bits:Nat):Int)).toNat=2^64-1:=by decide
  have h2:((p:Int)%((2^IntKind.u64.bits:Nat):Int)).toNat=p:=by
   change((p:Int)%((18446744073709551616:Nat):Int)).toNat=p;omega
  rw[h1,h2,e]
 have hw:IntKind.u64.wrap ((2^64-1-p:Nat):Int)=((2^64-1-p:Nat):Int):=gB _ (by omega)
 have hu:(Op.unary .xor (.int .u64 (p:Int))).run P w= .ok (.int .u64 ((2^64-1-p:Nat):Int)) w:=by
  change(Op.intBits .xor .u64 IntKind.u64.max (p:Int)).run P w=_;unfold Op.intBits;simp only[];rw[hb,hw];simp
 simp[hu]
theorem Rg.aeD {xt:TypeId} {κ:IntKind} {p:Int} (hx:ev L x=some (.int κ p)) (hd:Nat.blt d n=true) (k:Rg P r n ops rest ((d,.int κ (κ.wrap (0-p)))::L) ds w K):
  Rg P r n ops ({dst:=some d,op:= .unOp .neg xt x,type:=ty,pos,after:=af,guard:=none}::rest) L ds w K:=by
 refine .op (fun _ h=>by cases h) rfl rfl hd _ w (fun ρ h=>?_) k;simp only[execOp,h x _ hx];simp[Op.unary,Op.intArith]
theorem LZ (p q:Nat) (hp:p<2^64) (hq:q<2^64):IntKind.u64.wrap (BitVec.ofInt IntKind.u64.bits (p:Int)&&&BitVec.ofInt IntKind.u64.bits (q:Int)).toNat=((p&&&q:Nat):Int):=by
 have h:∀z:Nat,z<2^64→((z:Int)%((2^IntKind.u64.bits:Nat):Int)).toNat=z:=fun z hz=>by
  change((z:Int)%((18446744073709551616:Nat):Int)).toNat=z;omega
 rw[BitVec.toNat_and,qv,qv,h p hp,h q hq];exact gB _ (by have:=Nat.and_le_left (n:=p) (m:=q);omega)
end
def bit (ws:List Nat) (i:Nat):Bool:=(ws.getD (i/64) 0).testBit (i%64)
def Words (ws:List Nat):Prop:=∀x∈ws,x<2^64
theorem Words.get {ws:List Nat} (h:Words ws) (k:Nat):ws.getD k 0<2^64:=by
 rw[aA]
 cases hx:ws[k]? with
 |none=>simp
 |some x=>exact h x (az hx)
theorem L0 (ws:List Nat) (k j x:Nat) (hk:k<ws.length):(ws.set k x).getD j 0=if j=k then x else ws.getD j 0:=by
 rw[aA,aA,dp];by_cases h:k=j
 ·subst h;simp[hk]
 ·rw[if_neg h,if_neg (fun e=>h e.symm)]
theorem Words.set {ws:List Nat} (h:Words ws) {k x:Nat} (hx:x<2^64):Words (ws.set k x):=fun y hy=>by
 rcases List.mem_or_eq_of_mem_set hy with h1|h1
 ·exact h y h1
 ·rw[h1];exact hx
theorem DY (x i t:Nat):(x/2^i).testBit t=x.testBit (t+i):=Nat.testBit_div_two_pow x t
theorem L3:∀x:Nat,0<x→∃k m,x=2^k*(2*m+1):=by
 intro x
 induction x using Nat.strongRecOn with
 |_ x ih=>
  intro h;by_cases h2:x%2=1
  ·exact⟨0,x/2,by omega⟩
  ·obtain⟨k,m,e⟩:=ih (x/2) (by omega) (by omega);refine⟨k+1,m,?_⟩;rw[Nat.pow_succ,Nat.mul_right_comm,←e];omega
theorem L4 (m:Nat):(2*m+1).testBit 0=true:=by rw[Nat.testBit_zero];exact decide_eq_true (by omega)
theorem Qp (m:Nat):(2*m).testBit 0=false:=by rw[Nat.testBit_zero];exact decide_eq_false (by omega)
theorem Co {k m:Nat}:(2^k*(2*m+1)).testBit k=true∧∀t,t<k→(2^k*(2*m+1)).testBit t=false:=by
 have h:=fun j=>Nat.testBit_two_pow_mul_add (2*m+1) (b:=0) (i:=k) (Nat.two_pow_pos k) j
 simp only[Nat.add_zero]at h;constructor
 ·rw[h k,if_neg (by omega),Nat.sub_self,L4]
 ·intro t ht;rw[h t,if_pos ht,Nat.zero_testBit]
theorem Qq {k m:Nat} (hx:2^k*(2*m+1)<2^64):(2^k*(2*m+1))&&&(2^64-2^k*(2*m+1))=2^k:=by
 have hp:=Nat.two_pow_pos k;have ud:0<2^k*(2*m+1):=Nat.mul_pos hp (by omega)
 have e1:2^64-2^k*(2*m+1)=2^64-((2^k*(2*m)+(2^k-1))+1):=by
  have:2^k*(2*m+1)=2^k*(2*m)+2^k:=by rw[Nat.mul_add,eU]
  omega
 apply Nat.eq_of_testBit_eq;intro j
 have e2:2^k*(2*m)+(2^k-1)<2^64:=by
  have:2^k*(2*m+1)=2^k*(2*m)+2^k:=by rw[Nat.mul_add,eU]
  omega
 rw[Nat.testBit_and,e1,Nat.testBit_two_pow_sub_succ e2,Nat.testBit_two_pow_mul_add _ (by omega),Nat.testBit_two_pow_sub_one,Nat.testBit_two_pow];have h:=Nat.testBit_two_pow_mul_add (2*m+1) (b:=0) (i:=k) hp j;simp only[Nat.add_zero]at h;rw[h];rcases eR j k with h1|h1|h1
 ·rw[if_pos h1,Nat.zero_testBit,kX,decide_eq_false (by omega)]
 ·subst h1
  have hj:j<64:=by
   rcases cE j 64 with h2|h2
   ·exact h2
   ·have:=nP (n:=2) (by decide) h2;have:2^j*1≤2^j*(2*m+1):=Nat.mul_le_mul_left _ (by omega);omega
  rw[if_neg (jC _),if_neg (jC _),Nat.sub_self,L4,Qp,decide_eq_true hj,decide_eq_true rfl];rfl
 ·rw[if_neg (by omega),if_neg (by omega),decide_eq_false (show¬k=j by omega)];obtain⟨t,rfl⟩:∃t,j=k+(t+1):=⟨j-k-1,by omega⟩;rw[show k+(t+1)-k=t+1 from by omega,Nat.testBit_succ,Nat.testBit_succ,show(2*m+1)/2=m from by omega,show 2*m/2=m from by omega]
  cases m.testBit t<;>simp
def Iw:List Nat:=[0,1,56,2,57,49,28,3,61,58,42,50,38,29,17,4,62,47,59,36,45,43,51,22,53,39,33,30,24,18,12,5,63,55,48,27,60,41,37,16,46,35,44,21,52,32,23,11,54,26,40,15,34,20,31,10,25,14,19,9,13,8,7,6]
theorem US:∀k,k<64→(2^k*285870213051353865)%2^64/2^58<64∧Iw[(2^k*285870213051353865)%2^64/2^58]? =some k:=by decide+kernel
theorem Cp (n:Nat):IntKind.u64.wrap (n:Int)=((n%2^64:Nat):Int):=by
 have:IntKind.u64.wrap (n:Int)=(n:Int)%18446744073709551616:=by simp[IntKind.wrap,IntKind.bits,IntKind.signed]
 rw[this];omega
theorem Y3 (x t:Nat) (ht:t<64):((x:Int)).fdiv (2^min ((t:Int)).toNat IntKind.u64.bits)=((x/2^t:Nat):Int):=by
 rw[ay,show min t IntKind.u64.bits=t from yz (show t≤64 by omega),show(2:Int)^t=((2^t:Nat):Int)from by simp,Int.fdiv_eq_ediv_of_nonneg _ (Int.natCast_nonneg _)];rfl
theorem aeE (t:Nat) (ht:t<64):IntKind.u64.wrap (1*2^min ((t:Int)).toNat IntKind.u64.bits)=((2^t:Nat):Int):=by
 have h:(2:Nat)^t<2^64:=Nat.pow_lt_pow_right (by decide) ht;rw[ay,show min t IntKind.u64.bits=t from yz (show t≤64 by omega),Int.one_mul,show(2:Int)^t=((2^t:Nat):Int)from by simp,Cp,oA h]
def qE (ws:List Nat):Array Value:=(ws.map fun(x:Nat)=>Value.int .u64 (x:Int)).toArray
theorem mL {ws:List Nat} {k:Nat} (hk:k<ws.length):(qE ws)[k]? =some (.int .u64 (ws.getD k 0:Nat)):=by
 simp[qE,aA,ar hk]
theorem yX (ws:List Nat) (k x:Nat):(qE ws).setIfInBounds k (.int .u64 (x:Int))=qE (ws.set k x):=by
 simp[qE,List.map_set]
structure jU (Ts Tw:TypeId) (n:Nat) (ws:List Nat) (M:aD) (w:World) (bs bw:Nat):Prop where
 ms:M bs
 mw:M bw
 ne:bs≠bw
 s:w.heap[bs]? =some (.cells #[.int .i64 n,.slice (some ⟨bw,0,none⟩) ws.length ws.length] Ts (0,0))
 w:w.heap[bw]? =some (.cells (qE ws) Tw (0,0))
 len:ws.length=(n+63)/64
 ok:Words ws
 nn:n≤1099511627776
theorem jU.step {Ts Tw:TypeId} {n:Nat} {ws:List Nat} {M M' N:aD} {w w':World} {bs bw:Nat} (h:jU Ts Tw n ws M w bs bw) (s:Step M w M' w' N) (h1: ¬N bs) (h2: ¬N bw):jU Ts Tw n ws M' w' bs bw:=
 ⟨(s.mem bs (ak h.s)).2 h.ms,(s.mem bw (ak h.w)).2 h.mw,h.ne,s.keep h.s h1,s.keep h.w h2,h.len,h.ok,h.nn⟩
theorem jU.put {Ts Tw:TypeId} {n:Nat} {ws K0:List Nat} {M:aD} {w w':World} {bs bw:Nat} (h:jU Ts Tw n ws M w bs bw) (s:Step M w M w' (fun b=>b=bw)) (hl:K0.length=ws.length) (hw:w'.heap[bw]? =some (.cells (qE K0) Tw (0,0))) (ok:Words K0):jU Ts Tw n K0 M w' bs bw:=
 ⟨h.ms,h.mw,h.ne,by rw[hl];exact s.keep h.s h.ne,hw,by rw[hl];exact h.len,ok,h.nn⟩
section
variable {P:Program} {r:Option Nat} {n:Nat} {L:Sl} {ds:List Deferred} {w:World} {K:Kt} {ops:Array Oper} {rest:List Oper} {d:Nat} {x:Operand} {ty:TypeId} {pos:String} {af:Array Edge}
end
theorem Cq (ws:List Nat) {k x:Nat} (hk:k<ws.length) (j:Nat):bit (ws.set k x) j=if j/64=k then x.testBit (j%64)else bit ws j:=by
 unfold bit;rw[L0 _ _ _ _ hk]
 split<;>rfl
theorem L5 {x t:Nat} (hx:x<2^64) (ht:t<64):(2^64-1-x).testBit t= !x.testBit t:=by
 rw[show 2^64-1-x=2^64-(x+1)from by omega,Nat.testBit_two_pow_sub_succ hx,decide_eq_true ht,ff]
theorem Qr {ws:List Nat} {j:Nat} (h:ws.length≤j/64):bit ws j=false:=by
 unfold bit;rw[aA,du h];simp
theorem DZ (k j:Nat):bit (List.replicate k 0) j=false:=by
 unfold bit;rw[aA,kY]
 split<;>simp
def SD (ws:List Nat) (p:Nat) (r:Int):Prop:=(∃j:Nat,r=j∧p≤j∧bit ws j=true∧∀t,p≤t→t<j→bit ws t=false)∨(r= -1∧∀t,p≤t→bit ws t=false)
theorem yY {ws:List Nat} {i t:Nat} (h:i%64+t<64):bit ws (i+t)=(ws.getD (i/64) 0/2^(i%64)).testBit t:=by
 unfold bit;rw[DY,show(i+t)/64=i/64 from by omega,show(i+t)%64=t+i%64 from by omega]
theorem D0 {x i:Nat} (hx:x<2^64) (hi:i<64) {k m:Nat} (h:x/2^i=2^k*(2*m+1)):i+k<64:=by
 rcases cE (i+k) 64 with h1|h1
 ·exact h1
 ·exfalso;have h2:(x/2^i).testBit k=true:=by rw[h];exact Co.1
  rw[DY]at h2;have:=Nat.testBit_lt_two_pow (iE hx (nP (n:=2) (by decide) (show 64≤k+i by omega)));rw[this]at h2;cases h2
end Go.K
namespace Go.K
abbrev Fo:=Int×Int
abbrev Tw:=Int×Int×Int
abbrev RT.fo:RT Fo:=RT.pair (RT.int .i64) (RT.int .i64)
def RT.D1:RT Nat where
 n:=1
 agg:=false
 R:=fun _ _ b vs=>vs=[.pointer (some ⟨b,0,none⟩)]
 len:=by rintro _ _ x vs rfl;rfl
 one:=by rintro _ _ x vs rfl v hv;simp at hv;subst hv;rfl
 le:=fun _ h=>h
theorem yZ {M:aD} {w:World} {b:Nat} {v:Value}:RT.D1.V M w b v↔v= .pointer (some ⟨b,0,none⟩):=⟨fun⟨_,h1,h2⟩=>by cases h1;exact h2,fun h=>⟨_,rfl,h⟩⟩
def hit (l:List Fo) (x:Int):Bool:=match l with| []=>false|p::_=>decide (p.1=x)
theorem aeF {M:aD} {w:World} {a b:Int} (ha: -9223372036854775808≤a∧a≤9223372036854775807) (hb: -9223372036854775808≤b∧b≤9223372036854775807):RT.fo.V M w (a,b) (.agg [.int .i64 a,.int .i64 b].toArray):=
 fg (gv ha) (gv hb) rfl rfl rfl rfl
end Go.K
namespace Go.K
section
variable {P:Program} {r:Option Nat} {n:Nat} {L:Sl} {ds:List Deferred} {w:World} {K:Kt} {ops:Array Oper} {rest:List Oper} {d:Nat} {x y:Operand} {ty:TypeId} {pos:String} {af:Array Edge}
theorem l3 {t:TypeId} {k:IntKind} (ht:P.underlying t=some (.int k)) {cs:Array Value} {off:Nat} {v:Value} (hv:cs[off]? =some v):(part t cs off).run P w= .ok v w:=by
 have Gp:(isAgg t).run P w= .ok false w:=by
  unfold isAgg;rw[cq,run_underlying ht w];simp
 unfold part;rw[cq,Gp];simp[hv]
end
end Go.K
namespace Go.K
section
variable {P:Program} {r:Option Nat} {n:Nat} {L:Sl} {ds:List Deferred} {w:World} {K:Kt} {ops:Array Oper} {rest:List Oper} {d:Nat} {ty:TypeId} {pos:String} {af:Array Edge} {x y i:Operand}
theorem AP {t e:TypeId} {inf:TypeInfo} (ht:P.underlying t=some (.array 2 e)) (he:P.underlying e=some (.int .i64)) (hi:P.info? e=some inf) (hc:P.cellsOf e=1) (a b c f:Int):
  (Op.equal t (.agg #[.int .i64 a,.int .i64 b]) (.agg #[.int .i64 c,.int .i64 f])).run P w= .ok (decide ((a,b)=(c,f))) w:=by
 have hI:∀(k:Nat) (p q:Int),(Op.equalIn (k+1) e (.int .i64 p) (.int .i64 q)).run P w= .ok (p==q) w:=fun k p q=>by simp[Op.equalIn,run_underlying he]
 change(Op.equalIn (9999+1) t _ _).run P w=_;rw[run_equalIn_array w 9999 _ _ ht hi,hc,show List.range 2=[0,1]from rfl];simp only[Op.eqItems,cq];rw[l3 he (v:= .int .i64 a) rfl];simp only[cD];rw[l3 he (v:= .int .i64 c) rfl];simp only[cD];rw[hI 9998];simp only[cD];by_cases h1:a=c
 ·subst h1;simp only[beq_self_eq_true,Bool.not_true,Bool.false_eq_true,if_false,cq];rw[l3 he (v:= .int .i64 b) rfl];simp only[cD];rw[l3 he (v:= .int .i64 f) rfl];simp only[cD];rw[hI 9998];simp only[cD];by_cases h2:b=f
  ·subst h2;simp
  ·simp[h2]
 ·simp[h1]
theorem Rg.Y4 {t t' e:TypeId} {inf:TypeInfo} {a b c f:Int} (ht:P.underlying t=some (.array 2 e)) (he:P.underlying e=some (.int .i64)) (hi:P.info? e=some inf) (hc:P.cellsOf e=1) (hq:P.eqGuardType P.depth t=false)
  (hx:ev L x=some (.agg #[.int .i64 a,.int .i64 b])) (hy:ev L y=some (.agg #[.int .i64 c,.int .i64 f])) (hd:Nat.blt d n=true)
  (k:Rg P r n ops rest ((d,.bool (decide ((a,b)=(c,f))))::L) ds w K):
  Rg P r n ops ({dst:=some d,op:= .binOp .eql t x y t',type:=ty,pos,after:=af,guard:=none}::rest) L ds w K:=
 .op (fun _ h=>by cases h) rfl rfl hd _ w (fun ρ h=>by
  have he:=AP (P:=P) (w:=w) ht he hi hc a b c f;simp only[execOp];rw[h x _ hx,h y _ hy];rw[cq,cq,run_eqGuard_agg (P:=P) w .eql t x y _ _ hq];simp[binOp,he]) k
theorem Rg.GM {t t' e:TypeId} {zv:Value} {size bytes:Nat} {a b c f:Int} (ht:P.underlying t=some (.array 2 e)) (he:P.underlying e=some (.int .i64)) (hi:TI P e zv size bytes) (hc:P.cellsOf e=1) (hq:P.eqGuardType P.depth t=false)
  (hx:ev L x=some (.agg #[.int .i64 a,.int .i64 b])) (hy:ev L y=some (.agg #[.int .i64 c,.int .i64 f])) (hd:Nat.blt d n=true)
  (k:Rg P r n ops rest ((d,.bool (decide ((a,b)=(c,f))))::L) ds w K):
  Rg P r n ops ({dst:=some d,op:= .binOp .eql t x y t',type:=ty,pos,after:=af,guard:=none}::rest) L ds w K:=by
 obtain⟨inf,h1,_⟩:=hi.get;exact .Y4 ht he h1 hc hq hx hy hd k
theorem Rg.Qs {t e:TypeId} {zv:Value} {bytes:Nat} {a b:Int} (ht:P.underlying t=some (.array 2 e)) (hi:TI P t (.agg #[.int .i64 0,.int .i64 0]) 2 16) (he:TI P e zv 1 bytes) (hx:ev L x=some (.int .i64 a)) (hy:ev L y=some (.int .i64 b)) (hd:Nat.blt d n=true)
  (k:Rg P r n ops rest ((d,.agg #[.int .i64 a,.int .i64 b])::L) ds w K):
  Rg P r n ops ({dst:=some d,op:= .build t #[(0,x),(1,y)],type:=ty,pos,after:=af,guard:=none}::rest) L ds w K:=by
 obtain⟨inf,h1,h2,h3,h4⟩:=hi.get;refine .op (fun _ h=>by cases h) rfl rfl hd _ w (fun ρ h=>?_) k;simp only[execOp,fe,eQ,jr,h x _ hx,h y _ hy];simp[Instr.build,zeroValue,typeInfo,h1,h2,run_underlying ht,he.sizeOf,Instr.fill,Value.cells]
theorem eg.ints {M:aD} {κ:IntKind}:∀{xs:List Int} {C:List Value},eg (RT.int κ) M w xs C→C=xs.map (Value.int κ)
 |[],_,h=>by cases h;rfl
 |x::xs,_,⟨us,rest,h1,h2,h3⟩=>by
  subst h1;rw[h2.1,eg.ints h3];rfl
theorem eg.Cr {M:aD} {κ:IntKind}:∀{xs:List Int},(∀x∈xs,κ.min≤x∧x≤κ.max)→eg (RT.int κ) M w xs (xs.map (Value.int κ))
 |[],_=>rfl
 |x::xs,h=>⟨[.int κ x],_,rfl,⟨rfl,h x (bH ..)⟩,eg.Cr fun y hy=>h y (b9 _ hy)⟩
theorem eg.rng {M:aD} {κ:IntKind}:∀{xs:List Int} {C:List Value},eg (RT.int κ) M w xs C→∀x∈xs,κ.min≤x∧x≤κ.max
 |[],_,_,x,hx=>by cases hx
 |y::xs,_,⟨us,rest,h1,h2,h3⟩,x,hx=>by
  rcases ca.1 hx with rfl|hx
  ·exact h2.2
  ·exact eg.rng h3 x hx
theorem Own.over {e:TypeId} {M:aD} {base g len cap o:Nat} {κ:IntKind} {xs ys:List Int} (h:Own (RT.int κ) e M w base (.slice (some ⟨g,0,none⟩) len cap) xs) (ho:o+ys.length≤xs.length) (hy:∀y∈ys,κ.min≤y∧y≤κ.max):
  Own (RT.int κ) e M (w.setCells g o (ys.map (Value.int κ))) base (.slice (some ⟨g,0,none⟩) len cap) (xs.take o++ys++xs.drop (o+ys.length))∧Step M w M (w.setCells g o (ys.map (Value.int κ))) (fun k=>k=g)∧(∀j,j<ys.length→(w.cell? ⟨g,o+j,none⟩).isSome=true)∧(∀j,j<ys.length→w.frozen? ⟨g,o+j,none⟩=false):=by
 obtain⟨⟨C,hr,ha⟩,hm⟩:=h;have Gd:=hm g rfl;rcases hr.2 with⟨h1,_⟩|⟨g',yH,cur,h1,h2,h3,h4,h5,h6,h7⟩
 ·cases h1
 ·simp only[fY,dy,om]at h1;obtain⟨⟨rfl,_⟩,rfl,rfl⟩:=h1;have e1:(RT.int κ).n=1:=rfl;rw[e1,eU]at h6 h7;have hCx:=ha.ints;have Qh:=ha.rng;obtain⟨Gc,c1,c2,c3,c4⟩:=nD (ys.map (Value.int κ)) w g o cur e (0,0) h3;have hs:=c4 M Gd;have hlen:(xs.take o++ys++xs.drop (o+ys.length)).length=xs.length:=by rw[a8,a8,br,dC];omega
  refine⟨⟨⟨(xs.take o++ys++xs.drop (o+ys.length)).map (Value.int κ),⟨by rw[aH,e1,eU],.inr ⟨g,cap,Gc,by rw[hlen],h2,c1,by rw[hlen];exact h4,h5,by rw[c2,e1,eU];exact h6,?_⟩⟩,eg.Cr fun z hz=>?_⟩,fun b hb=>hm b hb⟩,hs,fun j hj=>?_,fun j hj=>by simp[World.frozen?,h3]⟩
  ·rw[e1,eU,hlen];refine fq fun t=>?_
   rw[ck];have LU:=Iv (l:=xs.map (Value.int κ)) (vs:=ys.map (Value.int κ)) (o:=o) (by rw[aH,aH];exact ho) t;rw[aH,←List.map_take,←List.map_drop,←ec,←ec]at LU;rw[LU];have YI:∀t,t<xs.length→(xs.map (Value.int κ))[t]? =cur[t]? :=fun t ht=>by rw[←hCx,←h7,ck,if_pos ht];simp
   split
   ·rename_i ht
    have e0:Gc.toList[t]? =Gc[t]? :=by simp
    rw[e0,c3 t,aH];by_cases h8:o≤t∧t<o+ys.length
    ·rw[if_pos ⟨h8.1,h8.2,by omega⟩,if_pos h8]
    ·rw[if_neg (fun h=>h8 ⟨h.1,h.2.1⟩),if_neg h8,YI t ht]
   ·rename_i ht
    rw[if_neg (by omega),du (by rw[aH];omega)]
  ·rcases cr.1 hz with hz|hz
   ·rcases cr.1 hz with hz|hz
    ·exact Qh z (List.mem_of_mem_take hz)
    ·exact hy z hz
   ·exact Qh z (List.mem_of_mem_drop hz)
  ·rw[fG h3 (v:=cur[o+j]'(by omega)) (by simp)];rfl
theorem Own.cell {e:TypeId} {M:aD} {base g len cap j:Nat} {κ:IntKind} {xs:List Int} {a:Int} (h:Own (RT.int κ) e M w base (.slice (some ⟨g,0,none⟩) len cap) xs) (hx:xs[j]? =some a):w.cell? ⟨g,j,none⟩=some (.int κ a):=by
 obtain⟨b,o,vs,h1,h2,h3,h4⟩:=h.ptr hx;simp only[Value.pointer.injEq,dy,om]at h1;obtain⟨rfl,rfl,_⟩:=h1;have:=h4 0 (.int κ a) (by rw[h3.1];rfl);simpa[RT.int]using this
theorem Rg.SE {tt st e:TypeId} {zv:Value} {bytes:Nat} {M:aD} {base g len cap o dl dc sl sc:Nat} {κ:IntKind} {xs ys:List Int} {sa:Addr} (ht:P.underlying tt=some (.slice e)) (hi:TI P e zv 1 bytes) (hd:Nat.blt d n=true)
  (hx:ev L x=some (.slice (some ⟨g,o,none⟩) dl dc)) (hy:ev L y=some (.slice (some sa) sl sc)) (h:Own (RT.int κ) e M w base (.slice (some ⟨g,0,none⟩) len cap) xs) (hn:ys.length=min sl dl) (ho:o+ys.length≤xs.length)
  (aeG:∀j a,ys[j]? =some a→w.cell? (sa.add j)=some (.int κ a)) (Qh:∀a∈ys,κ.min≤a∧a≤κ.max)
  (k:∀w',Own (RT.int κ) e M w' base (.slice (some ⟨g,0,none⟩) len cap) (xs.take o++ys++xs.drop (o+ys.length))→Step M w M w' (fun k=>k=g)→Rg P r n ops rest ((d,.int .i64 (ys.length:Int))::L) ds w' K):
  Rg P r n ops ({dst:=some d,op:= .call {callee:= .builtin .copy,args:= #[x,y],argTypes:= #[tt,st]},type:=ty,pos,after:=af,guard:=none}::rest) L ds w K:=by
 obtain⟨h1,h2,h3,h4⟩:=h.over ho Qh;obtain⟨inf,i1,_,i2,_⟩:=hi.get
 have gY:=run_copy_cells (P:=P) w tt st ty e g o dl dc sa sl sc (ys.map (Value.int κ)) ht (by simp[i1,i2]) (by rw[aH];exact hn)
  (fun j v hv=>by
   rw[bj]at hv
   cases hj:ys[j]? with
   |none=>rw[hj]at hv;cases hv
   |some a=>rw[hj]at hv;cases hv;exact aeG j a hj) (by rw[aH];exact h3) (by rw[aH];exact h4) (fun v hv=>by obtain⟨a,_,rfl⟩:=bV.1 hv;rfl)
 rw[aH]at gY;refine .op (fun _ h=>by cases h) rfl rfl hd _ _ (fun ρ hρ=>?_) (k _ h1 h2);simp only[execOp,resolve,fe,eQ,jr,hρ x _ hx,hρ y _ hy];simp[Go.invoke,builtin,gY,goInt]
theorem Rg.UT {tt e:TypeId} {bytes:Nat} {M:aD} {base g len cap o dl dc:Nat} {κ:IntKind} {xs:List Int} (ht:P.underlying tt=some (.slice e)) (hi:TI P e (.int κ 0) 1 bytes) (hx:ev L x=some (.slice (some ⟨g,o,none⟩) dl dc)) (h:Own (RT.int κ) e M w base (.slice (some ⟨g,0,none⟩) len cap) xs) (hdl:0<dl) (ho:o+dl≤xs.length) (hz:κ.min≤0∧0≤κ.max)
  (k:∀w',Own (RT.int κ) e M w' base (.slice (some ⟨g,0,none⟩) len cap) (xs.take o++List.replicate dl 0++xs.drop (o+dl))→Step M w M w' (fun k=>k=g)→Rg P r n ops rest L ds w' K):
  Rg P r n ops ({dst:=none,op:= .call {callee:= .builtin .clear,args:= #[x],argTypes:= #[tt]},type:=ty,pos,after:=af,guard:=none}::rest) L ds w K:=by
 obtain⟨h1,h2,h3,h4⟩:=h.over (ys:=List.replicate dl 0) (o:=o) (by rw[ch];exact ho) (fun a ha=>by rw[iL ha];exact hz);rw[ch]at h1 h3 h4;obtain⟨inf,i1,i2,i3,_⟩:=hi.get;have gY:=Go.Lib.run_clear_slice (P:=P) w tt e ty (.int κ 0) ht (fun w=>by simp[zeroValue,typeInfo,i1,i2]) rfl rfl g o dl dc hdl h3 h4;rw[List.map_replicate]at h1 h2;refine .opv (fun _ h=>by cases h) rfl rfl (.tuple #[]) _ (fun ρ hρ=>?_) (k _ h1 h2);simp only[execOp,resolve,fe,eQ,jr,hρ x _ hx];simp[Go.invoke,builtin,gY]
end
end Go.K
namespace Go.K
open Go.RowKit (Below)
open Go.Maps (Keyed)
open Go.ChangeMaps (putKey delKey notKey)
abbrev DU:=DataW Unit
structure UU (P:Program) (k:TypeId) (R:Value→Option (DU×List MemPlace)) (M:aD) (w:World) (b:Nat) (m:List (Lit×DU)):Prop where
 mut_:M b
 own:w.ownsMap P k R b m.length (.map m)
section
variable {P:Program} {r:Option Nat} {n:Nat} {L:Sl} {ds:List Deferred} {w:World} {K:Kt} {ops:Array Oper} {rest:List Oper} {d:Nat} {x y z:Operand} {ty:TypeId} {pos:String} {af:Array Edge}
variable {kt:TypeId} {R:Value→Option (DU×List MemPlace)} {M:aD} {b:Nat} {m:List (Lit×DU)}
theorem Step.y4 {w w':World} (h:Below w.heap.size w w') (M:aD):Step M w M w' aC:=
 ⟨fun h0 b hb=>iE (h0 b hb) h.size,h.os,h.tape,h.output,h.size,fun _ _=>Iff.rfl,fun b hb _=>h.block b hb,fun _ h=>h.elim⟩
end
end Go.K
namespace Go.K
def allM:aD:=fun _=>True
theorem Step.all {M M' N:aD} {w w':World} (s:Step M w M' w' N):Step allM w allM w' N:=⟨fun h=>absurd (h w.heap.size trivial) (jC _),s.os,s.tape,s.output,s.size,fun _ _=>Iff.rfl,s.same,fun _ _=>trivial⟩
theorem Step.toAny {M M':aD} {w w':World} (s:Step M w M' w' aC) (M1:aD):Step M1 w M1 w' aC:=s.any M1
theorem eg.int {κ:IntKind} {M M':aD} {w w':World}:∀{xs:List Int} {C:List Value},eg (RT.int κ) M w xs C→eg (RT.int κ) M' w' xs C
 |[],_,h=>h
 |x::xs,C,h=>by
  obtain⟨vs,r,h1,h2,h3⟩:=h;exact⟨vs,r,h1,h2,eg.int h3⟩
theorem Own.Qt {κ:IntKind} {e:TypeId} {M:aD} {w:World} {base:Nat} {v:Value} {xs:List Int} (h:Own (RT.int κ) e M w base v xs) {M':aD} (hm:∀b,v.ownBlock=some b→M' b):Own (RT.int κ) e M' w base v xs:=by
 obtain⟨⟨C,h1,h2⟩,_⟩:=h;exact⟨⟨C,h1,eg.int h2⟩,hm⟩
theorem Own.Y5 {κ:IntKind} {e:TypeId} {N:aD} {w w':World} {base:Nat} {v:Value} {xs:List Int} (h:Own (RT.int κ) e allM w base v xs) (s:Step allM w allM w' N) (hn:∀b,v.ownBlock=some b→¬N b):Own (RT.int κ) e allM w' base v xs:=by
 obtain⟨⟨C,h1,h2⟩,_⟩:=h;refine⟨⟨C,⟨h1.1,?_⟩,eg.int h2⟩,fun _ _=>trivial⟩;rcases h1.2 with h3|⟨g,cap,cur,h3,h4,h5,h6,h7,h8⟩
 ·exact .inl h3
 ·exact .inr ⟨g,cap,cur,h3,h4,by rw[s.same g (ak h5) (hn g (by rw[h3];rfl))];exact h5,h6,h7,h8⟩
def nt (v:Value):aD:=fun b=>v.ownBlock=some b
theorem Own.lone {κ:IntKind} {e:TypeId} {M:aD} {w:World} {base:Nat} {v:Value} {xs:List Int} (h:Own (RT.int κ) e M w base v xs):Own (RT.int κ) e (nt v) w base v xs:=h.Qt fun _ h=>h
end Go.K
namespace Go.K
def GN (at':Nat→Nat) (cont:Nat→Bool):Nat×Nat:=
 if at' 0<0x80 then(at' 0,1)
 else if at' 0/32==6&&cont 1 then
  if(at' 0%32)*64+at' 1%64≥0x80 then((at' 0%32)*64+at' 1%64,2)else(65533,1)
 else if at' 0/16==14&&cont 1&&cont 2 then
  if(at' 0%16)*4096+(at' 1%64)*64+at' 2%64≥0x800&&Utf8.valid ((at' 0%16)*4096+(at' 1%64)*64+at' 2%64:Nat)then((at' 0%16)*4096+(at' 1%64)*64+at' 2%64,3)else(65533,1)
 else if at' 0/8==30&&cont 1&&cont 2&&cont 3 then
  if(at' 0%8)*262144+(at' 1%64)*4096+(at' 2%64)*64+at' 3%64≥0x10000&&Utf8.valid ((at' 0%8)*262144+(at' 1%64)*4096+(at' 2%64)*64+at' 3%64:Nat)then((at' 0%8)*262144+(at' 1%64)*4096+(at' 2%64)*64+at' 3%64,4)else(65533,1)
 else(65533,1)
theorem JO (s:ByteArray) (i:Nat):Utf8.decode s i=GN (fun k=>(s.get! (i+k)).toNat) (fun k=>decide (i+k<s.size)&&(s.get! (i+k)).toNat/64==2):=rfl
def ku (l:List UInt8) (k:Nat):Nat:=(l.getD k 0).toNat
def kD (l:List UInt8) (k:Nat):Bool:=decide (k<l.length)&&ku l k/64==2
def dec (l:List UInt8):Nat×Nat:=GN (ku l) (kD l)
theorem JP (l:List UInt8) (j:Nat):(⟨l.toArray⟩:ByteArray).get! j=l.getD j 0:=by
 show l.toArray[j]! =_;rw[aA,getElem!_def];simp only[eI]
 cases l[j]? <;>rfl
theorem GO (l:List UInt8) (pos:Nat):Utf8.decode ⟨l.toArray⟩ pos=dec (l.drop pos):=by
 rw[JO,dec]
 have h1:(fun k=>((⟨l.toArray⟩:ByteArray).get! (pos+k)).toNat)=ku (l.drop pos):=by
  funext k;rw[JP,ku,aA,aA,List.getElem?_drop]
 have h2:(fun k=>decide (pos+k<(⟨l.toArray⟩:ByteArray).size)&&((⟨l.toArray⟩:ByteArray).get! (pos+k)).toNat/64==2)=kD (l.drop pos):=by
  funext k;have:=congrFun h1 k;rw[this,kD,dC];congr 1;have hs:(⟨l.toArray⟩:ByteArray).size=l.length:=by simp[ByteArray.size]
  rw[hs];exact decide_eq_decide.2 (by omega)
 rw[h1,h2]
theorem y5 {l:List UInt8} {k:Nat} (h:kD l k=true):k<l.length:=by
 simp only[kD,bX,decide_eq_true_eq]at h;exact h.1
theorem mi {l:List UInt8} (hl:l≠[]):1≤(dec l).2∧(dec l).2≤l.length:=by
 have h0:0<l.length:=o9.2 hl;unfold dec GN
 split
 ·exact⟨aR _,h0⟩
 ·split
  ·rename_i h
   simp only[bX]at h;have:=y5 h.2
   split<;>(simp only;omega)
  ·split
   ·rename_i h
    simp only[bX]at h;have:=y5 h.2
    split<;>(simp only;omega)
   ·split
    ·rename_i h
     simp only[bX]at h;have:=y5 h.2
     split<;>(simp only;omega)
    ·exact⟨aR _,h0⟩
theorem pC (l:List UInt8) (k:Nat):ku l k<256:=by unfold ku;exact UInt8.toNat_lt _
theorem wi (l:List UInt8):(dec l).1≤1114111:=by
 unfold dec GN
 split
 ·simp only;omega
 ·split
  ·have:=pC l 0
   split<;>(simp only;omega)
  ·split
   ·have:=pC l 0
    split<;>(simp only;omega)
   ·split
    ·split
     ·rename_i h
      simp only[bX,Utf8.valid,qq,decide_eq_true_eq]at h;simp only;omega
     ·simp only;omega
    ·simp only;omega
def fw (l:List UInt8):List Int:=match l with
 |[]=>[]
 |c::r=>((dec (c::r)).1:Int)::fw ((c::r).drop (dec (c::r)).2)
termination_by l.length
decreasing_by
 have:=(mi (l:=c::r) (by simp)).1;simp only[dC,cI];omega
theorem wk:fw []=[]:=by unfold fw;rfl
theorem tA {l:List UInt8} (h:l≠[]):fw l=((dec l).1:Int)::fw (l.drop (dec l).2):=by
 cases l with
 |nil=>exact absurd rfl h
 |cons c r=>rw[fw]
theorem je (l:List UInt8):(fw l).length≤l.length:=by
 induction hn:l.length using Nat.strongRecOn generalizing l with
 |_ n ih=>
  by_cases h:l=[]
  ·subst h;rw[wk];simp
  ·rw[tA h,cI];have hw:=mi h;have:=ih _ (by rw[dC];omega) (l.drop (dec l).2) rfl;rw[dC]at this;omega
section
variable {P:Program} {r:Option Nat} {n:Nat} {L:Sl} {ds:List Deferred} {w:World} {K:Kt} {ops:Array Oper} {rest:List Oper} {d:Nat} {x:Operand} {ty:TypeId} {pos:String} {af:Array Edge}
theorem Rg.L6 {t:TypeId} {l:List UInt8} (M:aD) (ht:P.underlying t=some .string) (hx:ev L x=some (.string ⟨l.toArray⟩)) (hd:Nat.blt d n=true)
  (k:∀b w',w.heap.size≤b→b<w'.heap.size→w'.heap[b]? =some (.stringIter ⟨l.toArray⟩ 0)→Step M w (ins M b) w' aC→Rg P r n ops rest ((d,.pointer (some ⟨b,0,none⟩))::L) ds w' K):
  Rg P r n ops ({dst:=some d,op:= .range t x,type:=ty,pos,after:=af,guard:=none}::rest) L ds w K:=by
 refine .op (fun _ h=>by cases h) rfl rfl hd (.pointer (some ⟨w.heap.size,0,none⟩)) (w.alloc (.stringIter ⟨l.toArray⟩ 0)) (fun ρ hρ=>?_) (k w.heap.size _ (aR _) (by simp) (cj w _) ((cW M w _).own (aR _) (by simp)));simp only[execOp,hρ x _ hx];simp[Instr.range,cq,run_underlying ht,newObj,Sem.run]
theorem jw (M:aD) {b:Nat} {o:Obj} (hm:M b):Step M w M {w with heap:=w.heap.setIfInBounds b o} (fun k=>k=b):=
 ⟨fun h b hb=>by simpa using h b hb,rfl,rfl,rfl,by simp,fun _ _=>Iff.rfl,fun k _ hn=>by simp[dG,Ne.symm hn],fun k hk=>by subst hk;exact hm⟩
theorem qF {b p:Nat} {s:ByteArray} (hb:w.heap[b]? =some (.stringIter s p)):(getObj b).run P w= .ok (.stringIter s p) w:=by simp[getObj,Sem.run,hb]
theorem Rg.Qu {l:List UInt8} {b p:Nat} {M:aD} (hx:ev L x=some (.pointer (some ⟨b,0,none⟩))) (hb:w.heap[b]? =some (.stringIter ⟨l.toArray⟩ p)) (hm:M b) (hd:Nat.blt d n=true)
  (k1:p<l.length→∀w',w'.heap[b]? =some (.stringIter ⟨l.toArray⟩ (p+(dec (l.drop p)).2))→Step M w M w' (fun k=>k=b)→Rg P r n ops rest ((d,.tuple #[.bool true,.int .i64 p,.int .i32 ((dec (l.drop p)).1:Nat)])::L) ds w' K)
  (k2: ¬p<l.length→Rg P r n ops rest ((d,.tuple #[.bool false])::L) ds w K):
  Rg P r n ops ({dst:=some d,op:= .next x true,type:=ty,pos,after:=af,guard:=none}::rest) L ds w K:=by
 have hs:(⟨l.toArray⟩:ByteArray).size=l.length:=by simp[ByteArray.size]
 have dY:=ak hb;by_cases h:p<l.length
 ·have key:=k1 h {w with heap:=w.heap.setIfInBounds b (.stringIter ⟨l.toArray⟩ (p+(dec (l.drop p)).2))} (by simp[dG,dY]) (jw M hm);refine .op (fun _ h=>by cases h) rfl rfl hd _ _ (fun ρ hρ=>?_) key;simp only[execOp,hρ x _ hx,Instr.next,cq,qF hb,cD];rw[if_pos (by rw[hs];exact h)];simp[GO,setObj,Sem.run,goInt,hb]
 ·refine .op (fun _ h=>by cases h) rfl rfl hd _ w (fun ρ hρ=>?_) (k2 h);simp only[execOp,hρ x _ hx,Instr.next,cq,qF hb,cD];rw[if_neg (by rw[hs];exact h)];simp
theorem Rg.Ix {t:TypeId} {i:Operand} {l:List UInt8} {κ:IntKind} {j:Int} {c:UInt8} (ht:P.underlying t=some .string) (hx:ev L x=some (.string ⟨l.toArray⟩)) (hi:ev L i=some (.int κ j)) (hd:Nat.blt d n=true) (hj:0≤j) (hc:l[j.toNat]? =some c)
  (k:Rg P r n ops rest ((d,.int .u8 (c.toNat:Int))::L) ds w K):
  Rg P r n ops ({dst:=some d,op:= .index t x i,type:=ty,pos,after:=af,guard:=none}::rest) L ds w K:=by
 have dY:=(an.1 hc).1;have hs:(⟨l.toArray⟩:ByteArray).size=l.length:=by simp[ByteArray.size]
 have hg:(⟨l.toArray⟩:ByteArray)[j.toNat]? =some c:=by
  rw[getElem?_pos _ _ (by rw[hs];exact dY)];congr 1;have:=(an.1 hc).2;rw[←this];rfl
 refine .op (fun _ h=>by cases h) rfl rfl hd _ w (fun ρ hρ=>?_) k;simp only[execOp,hρ x _ hx,hρ i _ hi,Instr.index,cq,asIntOf,Sem.run_pure,cD,run_underlying ht];simp[hj,hg]
theorem sH (l:List UInt8) (a b:Nat):(⟨l.toArray⟩:ByteArray).extract a b=⟨((l.take b).drop a).toArray⟩:=by
 have:((⟨l.toArray⟩:ByteArray).extract a b).data=((l.take b).drop a).toArray:=by
  rw[ByteArray.data_extract];apply Array.toList_inj.1;rw[Array.toList_extract,List.extract_eq_take_drop,List.drop_take]
 exact congrArg ByteArray.mk this
theorem Rg.Qv {t:TypeId} {i:Operand} {l:List UInt8} {κ:IntKind} {j:Int} (ht:P.underlying t=some .string) (hx:ev L x=some (.string ⟨l.toArray⟩)) (hi:ev L i=some (.int κ j)) (hd:Nat.blt d n=true) (hj:0≤j∧j≤l.length)
  (k:Rg P r n ops rest ((d,.string ⟨(l.drop j.toNat).toArray⟩)::L) ds w K):
  Rg P r n ops ({dst:=some d,op:= .slice t x (some i) none none,type:=ty,pos,after:=af,guard:=none}::rest) L ds w K:=by
 have hs:(⟨l.toArray⟩:ByteArray).size=l.length:=by simp[ByteArray.size]
 refine .op (fun _ h=>by cases h) rfl rfl hd _ w (fun ρ hρ=>?_) k;simp only[execOp,hρ x _ hx,cY,iu,hρ i _ hi];rw[cq,run_sliceAt_string _ _ _ _ _ _ ht,run_slice_string_l _ _ _ ht _ _ hj.1 (by rw[hs];exact hj.2),sH,hs,List.take_length];simp
theorem Rg.SF {t:TypeId} {i:Operand} {l:List UInt8} {κ:IntKind} {j:Int} (ht:P.underlying t=some .string) (hx:ev L x=some (.string ⟨l.toArray⟩)) (hi:ev L i=some (.int κ j)) (hd:Nat.blt d n=true) (hj:0≤j∧j≤l.length)
  (k:Rg P r n ops rest ((d,.string ⟨(l.take j.toNat).toArray⟩)::L) ds w K):
  Rg P r n ops ({dst:=some d,op:= .slice t x none (some i) none,type:=ty,pos,after:=af,guard:=none}::rest) L ds w K:=by
 have hs:(⟨l.toArray⟩:ByteArray).size=l.length:=by simp[ByteArray.size]
 refine .op (fun _ h=>by cases h) rfl rfl hd _ w (fun ρ hρ=>?_) k;simp only[execOp,hρ x _ hx,cY,iu,hρ i _ hi];rw[cq,run_sliceAt_string _ _ _ _ _ _ ht,run_slice_string_h _ _ _ ht _ _ hj.1 (by rw[hs];exact hj.2),sH,List.drop_zero];simp
end
theorem Own.ep {α:Type} {A:RT α} {e:TypeId} {M:aD} {w:World} {base b p:Nat} {s:ByteArray} {v:Value} {xs:List α} (h:Own A e M w base v xs) (hb:w.heap[b]? =some (.stringIter s p)):v.ownBlock≠some b:=fun hv=>by
 obtain⟨⟨C,h1,_⟩,_⟩:=h;rcases h1.2 with⟨h2,_⟩|⟨g,cap,cur,h2,_,h3,_⟩
 ·rw[h2]at hv;cases hv
 ·rw[h2]at hv;cases hv;rw[h3]at hb;cases hb
theorem Own.dw {α β:Type} {A:RT α} {B:RT β} {e e':TypeId} {M M':aD} {w:World} {base Ip:Nat} {v u:Value} {xs:List α} {ys:List β} (h:Own A e M w base v xs) (h':Own B e' M' w Ip u ys) (ht:e≠e') {b:Nat} (hb:v.ownBlock=some b):u.ownBlock≠some b:=fun hu=>by
 obtain⟨⟨C,h1,_⟩,_⟩:=h;obtain⟨⟨C',X7,_⟩,_⟩:=h';rcases h1.2 with⟨h2,_⟩|⟨g,cap,cur,h2,_,h3,_⟩
 ·rw[h2]at hb;cases hb
 ·rcases X7.2 with⟨xT,_⟩|⟨g',yH,YD,xT,_,X9,_⟩
  ·rw[xT]at hu;cases hu
  ·rw[h2]at hb;rw[xT]at hu;cases hb;cases hu;rw[h3]at X9;cases X9;exact ht rfl
theorem Own.eS {α:Type} {A:RT α} {e t:TypeId} {M:aD} {w:World} {base b:Nat} {v:Value} {xs:List α} {cs:Array Value} {fr:Nat×Nat} (h:Own A e M w base v xs) (hb:w.heap[b]? =some (.cells cs t fr)) (ht:t≠e):v.ownBlock≠some b:=fun hv=>by
 obtain⟨⟨C,h1,_⟩,_⟩:=h;rcases h1.2 with⟨h2,_⟩|⟨g,cap,cur,h2,_,h3,_⟩
 ·rw[h2]at hv;cases hv
 ·rw[h2]at hv;cases hv;rw[h3]at hb;cases hb;exact ht rfl
end Go.K
namespace Go.K
open Go.Proofs
theorem I3:TI Tryz.prog 3 (.int .i64 0) 1 8:=by unfold TI;kernel_rfl
theorem I5:TI Tryz.prog 5 (.int .u8 0) 1 1:=by unfold TI;kernel_rfl
theorem I9:TI Tryz.prog 9 (.string ⟨#[]⟩) 1 16:=by unfold TI;kernel_rfl
theorem I26:TI Tryz.prog 26 (.int .i64 0) 1 8:=by unfold TI;kernel_rfl
theorem jY:TI Tryz.prog 37 (.slice none 0 0) 1 24:=by unfold TI;kernel_rfl
theorem yo:TI Tryz.prog 57 (.slice none 0 0) 1 24:=by unfold TI;kernel_rfl
theorem wo:TI Tryz.prog 67 (.slice none 0 0) 1 24:=by unfold TI;kernel_rfl
theorem pD:TI Tryz.prog 69 (.agg #[(.int .i64 0),(.slice none 0 0)]) 2 32:=by unfold TI;kernel_rfl
theorem Dx:TI Tryz.prog 71 (.agg #[(.int .i64 0),(.slice none 0 0),(.int .i64 0)]) 3 40:=by unfold TI;kernel_rfl
theorem Bs:TI Tryz.prog 78 (.agg #[(.string ⟨#[]⟩),(.string ⟨#[]⟩)]) 2 32:=by unfold TI;kernel_rfl
theorem l4:TI Tryz.prog 83 (.agg #[(.int .i64 0),(.slice none 0 0)]) 2 32:=by unfold TI;kernel_rfl
theorem AQ:TI Tryz.prog 142 (.pointer none) 1 8:=by unfold TI;kernel_rfl
theorem aeH:TI Tryz.prog 155 (.slice none 0 0) 1 24:=by unfold TI;kernel_rfl
theorem kO:TI Tryz.prog 166 (.agg #[(.string ⟨#[]⟩),(.string ⟨#[]⟩)]) 2 32:=by unfold TI;kernel_rfl
theorem D2:TI Tryz.prog 204 (.slice none 0 0) 1 24:=by unfold TI;kernel_rfl
theorem JQ:TI Tryz.prog 205 (.slice none 0 0) 1 24:=by unfold TI;kernel_rfl
theorem aeI:TI Tryz.prog 207 (.agg #[(.slice none 0 0),(.slice none 0 0),(.int .i64 0)]) 3 56:=by unfold TI;kernel_rfl
theorem Cs:TI Tryz.prog 209 (.agg #[(.int .i64 0),(.int .i64 0),(.int .i64 0),(.int .i64 0)]) 4 32:=by unfold TI;kernel_rfl
theorem JR:TI Tryz.prog 266 (.agg #[(.string ⟨#[]⟩),(.int .i64 0)]) 2 24:=by unfold TI;kernel_rfl
theorem aeJ:TI Tryz.prog 336 (.agg #[(.pointer none),(.slice none 0 0)]) 2 32:=by unfold TI;kernel_rfl
theorem B69:placesOf Tryz.prog 69=[(0,1),(1,1)].map some:=by kernel_rfl
theorem B71:placesOf Tryz.prog 71=[(0,2),(2,1)].map some:=by kernel_rfl
theorem B78:placesOf Tryz.prog 78=[(0,1),(1,1)].map some:=by kernel_rfl
theorem Y6:placesOf Tryz.prog 83=[(0,1),(1,1)].map some:=by kernel_rfl
theorem aeK:placesOf Tryz.prog 207=[(0,1),(1,1),(2,1)].map some:=by kernel_rfl
theorem aeL:placesOf Tryz.prog 209=[(0,1),(1,1),(2,1),(3,1)].map some:=by kernel_rfl
theorem Y7:placesOf Tryz.prog 266=[(0,1),(1,1)].map some:=by kernel_rfl
theorem mixed:Tryz.prog.follows .mixedOrders=true:=by kernel_rfl
theorem E44:Enters Tryz.prog 44:=enters Tryz.func44 rfl (by decide)
theorem E80:Enters Tryz.prog 80:=enters Tryz.func80 rfl (by decide)
theorem E93:Enters Tryz.prog 93:=enters Tryz.func93 rfl (by decide)
theorem E94:Enters Tryz.prog 94:=enters Tryz.func94 rfl (by decide)
theorem aeN:Enters Tryz.prog 128:=enters Tryz.func128 rfl (by decide)
theorem aeO:Enters Tryz.prog 129:=enters Tryz.func129 rfl (by decide)
theorem aeP:Enters Tryz.prog 130:=enters Tryz.func130 rfl (by decide)
theorem aeQ:Enters Tryz.prog 131:=enters Tryz.func131 rfl (by decide)
theorem Y8:Enters Tryz.prog 132:=enters Tryz.func132 rfl (by decide)
theorem aeR:Enters Tryz.prog 136:=enters Tryz.func136 rfl (by decide)
theorem aeS:Enters Tryz.prog 137:=enters Tryz.func137 rfl (by decide)
theorem aeT:Enters Tryz.prog 138:=enters Tryz.func138 rfl (by decide)
theorem aeU:Enters Tryz.prog 139:=enters Tryz.func139 rfl (by decide)
theorem aeV:Enters Tryz.prog 148:=enters Tryz.func148 rfl (by decide)
theorem Y9:Enters Tryz.prog 183:=enters Tryz.func183 rfl (by decide)
theorem aeW:Enters Tryz.prog 184:=enters Tryz.func184 rfl (by decide)
theorem aeX:Enters Tryz.prog 185:=enters Tryz.func185 rfl (by decide)
theorem aeY:Enters Tryz.prog 186:=enters Tryz.func186 rfl (by decide)
theorem aeZ:Enters Tryz.prog 187:=enters Tryz.func187 rfl (by decide)
theorem ae0:Enters Tryz.prog 188:=enters Tryz.func188 rfl (by decide)
theorem ae1:Enters Tryz.prog 190:=enters Tryz.func190 rfl (by decide)
theorem ae2:Enters Tryz.prog 193:=enters Tryz.func193 rfl (by decide)
theorem ae3:Enters Tryz.prog 194:=enters Tryz.func194 rfl (by decide)
theorem UW:Enters Tryz.prog 195:=enters Tryz.func195 rfl (by decide)
theorem ae4:Enters Tryz.prog 196:=enters Tryz.func196 rfl (by decide)
theorem ae5:Enters Tryz.prog 201:=enters Tryz.func201 rfl (by decide)
theorem ae6:Enters Tryz.prog 222:=enters Tryz.func222 rfl (by decide)
theorem ae7:Enters Tryz.prog 223:=enters Tryz.func223 rfl (by decide)
theorem Za:Enters Tryz.prog 224:=enters Tryz.func224 rfl (by decide)
theorem ae8:Enters Tryz.prog 225:=enters Tryz.func225 rfl (by decide)
theorem ae9:Enters Tryz.prog 226:=enters Tryz.func226 rfl (by decide)
theorem Zb:Enters Tryz.prog 227:=enters Tryz.func227 rfl (by decide)
theorem afa:Enters Tryz.prog 228:=enters Tryz.func228 rfl (by decide)
theorem afb:Enters Tryz.prog 229:=enters Tryz.func229 rfl (by decide)
theorem afc:Enters Tryz.prog 237:=enters Tryz.func237 rfl (by decide)
theorem afd:Enters Tryz.prog 249:=enters Tryz.func249 rfl (by decide)
theorem afe:Enters Tryz.prog 250:=enters Tryz.func250 rfl (by decide)
theorem aff:Enters Tryz.prog 251:=enters Tryz.func251 rfl (by decide)
theorem Zc:Enters Tryz.prog 252:=enters Tryz.func252 rfl (by decide)
theorem afg:Enters Tryz.prog 253:=enters Tryz.func253 rfl (by decide)
theorem Zd:Enters Tryz.prog 254:=enters Tryz.func254 rfl (by decide)
theorem Ze:Enters Tryz.prog 263:=enters Tryz.func263 rfl (by decide)
theorem afh:Enters Tryz.prog 264:=enters Tryz.func264 rfl (by decide)
theorem afi:Enters Tryz.prog 265:=enters Tryz.func265 rfl (by decide)
theorem afj:Enters Tryz.prog 266:=enters Tryz.func266 rfl (by decide)
theorem afk:Enters Tryz.prog 267:=enters Tryz.func267 rfl (by decide)
theorem afl:Enters Tryz.prog 284:=enters Tryz.func284 rfl (by decide)
theorem afm:Enters Tryz.prog 285:=enters Tryz.func285 rfl (by decide)
theorem Zf:Enters Tryz.prog 287:=enters Tryz.func287 rfl (by decide)
theorem afn:Enters Tryz.prog 290:=enters Tryz.func290 rfl (by decide)
end Go.K
namespace Go.K
open Go.Proofs
set_option maxRecDepth 10000
def fM (c:Int):Bool:=decide ((97≤c∧c≤122)∨(65≤c∧c≤90)∨(192≤c∧c≤591∧c≠215∧c≠247))
def pE (c:Int):Bool:=decide (48≤c∧c≤57)
def fO (c:Int):Int:=if(65≤c∧c≤90)∨(192≤c∧c≤222∧c≠215)then c+32 else c
theorem D3 (c:Int) (w0:World):
  Spec Tryz.prog 225 #[.int .i64 c] w0 (fun v w=>v= .bool (fM c)∧w=w0):=by
 refine bg (args:=[_]) (fn:=Tryz.f225) Tryz.func225 rfl (n:=33) Tryz.ntmps225 (aj (ae (ah rfl rfl (ab (aj (ae (ad rfl rfl (ef rfl rfl rfl (ad rfl rfl ?_)))))))));refine aS (g:=5) rfl (fun iU=>?_) (fun iU=>?_)
 ·refine al rfl rfl (ad rfl rfl (al rfl rfl (gQ rfl rfl rfl (aZ rfl rfl rfl (ad rfl rfl ?_)))));refine aS (g:=9) rfl (fun Ct=>?_) (fun Ct=>?_)
  ·refine aw rfl rfl rfl rfl (aw rfl rfl rfl rfl (aw rfl rfl rfl rfl (cu rfl rfl rfl (cu rfl rfl rfl (aw rfl rfl rfl rfl (aZ rfl rfl rfl (ad rfl rfl (aw rfl rfl rfl rfl (aw rfl rfl rfl rfl (aw rfl rfl rfl rfl (cu rfl rfl rfl ?_)))))))))));refine cu rfl rfl rfl (aw rfl rfl rfl rfl (aw rfl rfl rfl rfl (cu rfl rfl rfl (cu rfl rfl rfl (aw rfl rfl rfl rfl (aw rfl rfl rfl rfl (cu rfl rfl rfl (cu rfl rfl rfl (aw rfl rfl rfl rfl (aZ rfl rfl rfl (ah rfl rfl ?_)))))))))));refine ab (aP ?_);exact aV rfl rfl ⟨by simp only[fM];first|rfl|(congr 1;first|(exact(decide_eq_true (by omega)).symm)|(exact(decide_eq_false (by omega)).symm)|(exact decide_eq_decide.2 (by omega))),rfl⟩
  ·refine al rfl rfl (ad rfl rfl (al rfl rfl (ef rfl rfl rfl (al rfl rfl (ad rfl rfl ?_)))));refine aS (g:=12) rfl (fun tB=>?_) (fun tB=>?_)
   ·refine al rfl rfl (ad rfl rfl (al rfl rfl (gQ rfl rfl rfl (al rfl rfl (aZ rfl rfl rfl (aE rfl rfl rfl (ad rfl rfl ?_)))))));refine aS (g:=17) rfl (fun y6=>?_) (fun y6=>?_)
    ·refine aw rfl rfl rfl rfl (aw rfl rfl rfl rfl (aw rfl rfl rfl rfl (cu rfl rfl rfl (cu rfl rfl rfl (aw rfl rfl rfl rfl (aw rfl rfl rfl rfl (cu rfl rfl rfl (cu rfl rfl rfl (aw rfl rfl rfl rfl (aw rfl rfl rfl rfl (cu rfl rfl rfl ?_)))))))))));refine cu rfl rfl rfl (aw rfl rfl rfl rfl (aZ rfl rfl rfl (ah rfl rfl (ab (aP ?_)))));exact aV rfl rfl ⟨by simp only[fM];first|rfl|(congr 1;first|(exact(decide_eq_true (by omega)).symm)|(exact(decide_eq_false (by omega)).symm)|(exact decide_eq_decide.2 (by omega))),rfl⟩
    ·refine al rfl rfl (ad rfl rfl (al rfl rfl (ef rfl rfl rfl (al rfl rfl (ad rfl rfl ?_)))));refine aS (g:=20) rfl (fun mN=>?_) (fun mN=>?_)
     ·refine al rfl rfl (ad rfl rfl (al rfl rfl (gQ rfl rfl rfl (al rfl rfl (aZ rfl rfl rfl (al rfl rfl (ad rfl rfl ?_)))))));refine aS (g:=24) rfl (fun y7=>?_) (fun y7=>?_)
      ·refine al rfl rfl (ad rfl rfl (al rfl rfl (eM rfl rfl rfl (al rfl rfl (aZ rfl rfl rfl (al rfl rfl (ad rfl rfl ?_)))))));refine aS (g:=28) rfl (fun y8=>?_) (fun y8=>?_)
       ·refine al rfl rfl (ad rfl rfl (al rfl rfl (eM rfl rfl rfl (al rfl rfl (aZ rfl rfl rfl (aE rfl rfl rfl (ah rfl rfl (ab (aP ?_)))))))));exact aV rfl rfl ⟨by simp only[fM];first|rfl|(congr 1;first|(exact(decide_eq_true (by omega)).symm)|(exact(decide_eq_false (by omega)).symm)|(exact decide_eq_decide.2 (by omega))),rfl⟩
       ·refine aw rfl rfl rfl rfl (aw rfl rfl rfl rfl (al rfl rfl (aE rfl rfl rfl (aE rfl rfl rfl (ah rfl rfl (ab (aP ?_)))))));exact aV rfl rfl ⟨by simp only[fM];first|rfl|(congr 1;first|(exact(decide_eq_true (by omega)).symm)|(exact(decide_eq_false (by omega)).symm)|(exact decide_eq_decide.2 (by omega))),rfl⟩
      ·refine aw rfl rfl rfl rfl (aw rfl rfl rfl rfl (al rfl rfl (aE rfl rfl rfl (al rfl rfl (ad rfl rfl (aw rfl rfl rfl rfl (aw rfl rfl rfl rfl (al rfl rfl (aE rfl rfl rfl (aE rfl rfl rfl (ah rfl rfl ?_)))))))))));refine ab (aP ?_);exact aV rfl rfl ⟨by simp only[fM];first|rfl|(congr 1;first|(exact(decide_eq_true (by omega)).symm)|(exact(decide_eq_false (by omega)).symm)|(exact decide_eq_decide.2 (by omega))),rfl⟩
     ·refine aw rfl rfl rfl rfl (aw rfl rfl rfl rfl (al rfl rfl (aE rfl rfl rfl (al rfl rfl (ad rfl rfl (aw rfl rfl rfl rfl (aw rfl rfl rfl rfl (al rfl rfl (aE rfl rfl rfl (al rfl rfl (ad rfl rfl ?_)))))))))));refine aw rfl rfl rfl rfl (aw rfl rfl rfl rfl (al rfl rfl (aE rfl rfl rfl (aE rfl rfl rfl (ah rfl rfl (ab (aP ?_)))))));exact aV rfl rfl ⟨by simp only[fM];first|rfl|(congr 1;first|(exact(decide_eq_true (by omega)).symm)|(exact(decide_eq_false (by omega)).symm)|(exact decide_eq_decide.2 (by omega))),rfl⟩
   ·refine aw rfl rfl rfl rfl (aw rfl rfl rfl rfl (al rfl rfl (aE rfl rfl rfl (aE rfl rfl rfl (ad rfl rfl (al rfl rfl (ad rfl rfl (al rfl rfl (ef rfl rfl rfl (al rfl rfl (ad rfl rfl ?_)))))))))));refine aS (g:=20) rfl (fun mN=>?_) (fun mN=>?_)
    ·refine al rfl rfl (ad rfl rfl (al rfl rfl (gQ rfl rfl rfl (al rfl rfl (aZ rfl rfl rfl (al rfl rfl (ad rfl rfl ?_)))))));refine aS (g:=24) rfl (fun y7=>?_) (fun y7=>?_)
     ·refine al rfl rfl (ad rfl rfl (al rfl rfl (eM rfl rfl rfl (al rfl rfl (aZ rfl rfl rfl (al rfl rfl (ad rfl rfl ?_)))))));refine aS (g:=28) rfl (fun y8=>?_) (fun y8=>?_)
      ·refine al rfl rfl (ad rfl rfl (al rfl rfl (eM rfl rfl rfl (al rfl rfl (aZ rfl rfl rfl (aE rfl rfl rfl (ah rfl rfl (ab (aP ?_)))))))));exact aV rfl rfl ⟨by simp only[fM];first|rfl|(congr 1;first|(exact(decide_eq_true (by omega)).symm)|(exact(decide_eq_false (by omega)).symm)|(exact decide_eq_decide.2 (by omega))),rfl⟩
      ·refine aw rfl rfl rfl rfl (aw rfl rfl rfl rfl (al rfl rfl (aE rfl rfl rfl (aE rfl rfl rfl (ah rfl rfl (ab (aP ?_)))))));exact aV rfl rfl ⟨by simp only[fM];first|rfl|(congr 1;first|(exact(decide_eq_true (by omega)).symm)|(exact(decide_eq_false (by omega)).symm)|(exact decide_eq_decide.2 (by omega))),rfl⟩
     ·refine aw rfl rfl rfl rfl (aw rfl rfl rfl rfl (al rfl rfl (aE rfl rfl rfl (al rfl rfl (ad rfl rfl (aw rfl rfl rfl rfl (aw rfl rfl rfl rfl (al rfl rfl (aE rfl rfl rfl (aE rfl rfl rfl (ah rfl rfl ?_)))))))))));refine ab (aP ?_);exact aV rfl rfl ⟨by simp only[fM];first|rfl|(congr 1;first|(exact(decide_eq_true (by omega)).symm)|(exact(decide_eq_false (by omega)).symm)|(exact decide_eq_decide.2 (by omega))),rfl⟩
    ·refine aw rfl rfl rfl rfl (aw rfl rfl rfl rfl (al rfl rfl (aE rfl rfl rfl (al rfl rfl (ad rfl rfl (aw rfl rfl rfl rfl (aw rfl rfl rfl rfl (al rfl rfl (aE rfl rfl rfl (al rfl rfl (ad rfl rfl ?_)))))))))));refine aw rfl rfl rfl rfl (aw rfl rfl rfl rfl (al rfl rfl (aE rfl rfl rfl (aE rfl rfl rfl (ah rfl rfl (ab (aP ?_)))))));exact aV rfl rfl ⟨by simp only[fM];first|rfl|(congr 1;first|(exact(decide_eq_true (by omega)).symm)|(exact(decide_eq_false (by omega)).symm)|(exact decide_eq_decide.2 (by omega))),rfl⟩
 ·refine aw rfl rfl rfl rfl (aw rfl rfl rfl rfl (aE rfl rfl rfl (ad rfl rfl (al rfl rfl (ad rfl rfl (al rfl rfl (ef rfl rfl rfl (al rfl rfl (ad rfl rfl ?_)))))))));refine aS (g:=12) rfl (fun tB=>?_) (fun tB=>?_)
  ·refine al rfl rfl (ad rfl rfl (al rfl rfl (gQ rfl rfl rfl (al rfl rfl (aZ rfl rfl rfl (aE rfl rfl rfl (ad rfl rfl ?_)))))));refine aS (g:=17) rfl (fun y6=>?_) (fun y6=>?_)
   ·refine aw rfl rfl rfl rfl (aw rfl rfl rfl rfl (aw rfl rfl rfl rfl (cu rfl rfl rfl (cu rfl rfl rfl (aw rfl rfl rfl rfl (aw rfl rfl rfl rfl (cu rfl rfl rfl (cu rfl rfl rfl (aw rfl rfl rfl rfl (aw rfl rfl rfl rfl (cu rfl rfl rfl ?_)))))))))));refine cu rfl rfl rfl (aw rfl rfl rfl rfl (aZ rfl rfl rfl (ah rfl rfl (ab (aP ?_)))));exact aV rfl rfl ⟨by simp only[fM];first|rfl|(congr 1;first|(exact(decide_eq_true (by omega)).symm)|(exact(decide_eq_false (by omega)).symm)|(exact decide_eq_decide.2 (by omega))),rfl⟩
   ·refine al rfl rfl (ad rfl rfl (al rfl rfl (ef rfl rfl rfl (al rfl rfl (ad rfl rfl ?_)))));refine aS (g:=20) rfl (fun mN=>?_) (fun mN=>?_)
    ·refine al rfl rfl (ad rfl rfl (al rfl rfl (gQ rfl rfl rfl (al rfl rfl (aZ rfl rfl rfl (al rfl rfl (ad rfl rfl ?_)))))));refine aS (g:=24) rfl (fun y7=>?_) (fun y7=>?_)
     ·refine al rfl rfl (ad rfl rfl (al rfl rfl (eM rfl rfl rfl (al rfl rfl (aZ rfl rfl rfl (al rfl rfl (ad rfl rfl ?_)))))));refine aS (g:=28) rfl (fun y8=>?_) (fun y8=>?_)
      ·refine al rfl rfl (ad rfl rfl (al rfl rfl (eM rfl rfl rfl (al rfl rfl (aZ rfl rfl rfl (aE rfl rfl rfl (ah rfl rfl (ab (aP ?_)))))))));exact aV rfl rfl ⟨by simp only[fM];first|rfl|(congr 1;first|(exact(decide_eq_true (by omega)).symm)|(exact(decide_eq_false (by omega)).symm)|(exact decide_eq_decide.2 (by omega))),rfl⟩
      ·refine aw rfl rfl rfl rfl (aw rfl rfl rfl rfl (al rfl rfl (aE rfl rfl rfl (aE rfl rfl rfl (ah rfl rfl (ab (aP ?_)))))));exact aV rfl rfl ⟨by simp only[fM];first|rfl|(congr 1;first|(exact(decide_eq_true (by omega)).symm)|(exact(decide_eq_false (by omega)).symm)|(exact decide_eq_decide.2 (by omega))),rfl⟩
     ·refine aw rfl rfl rfl rfl (aw rfl rfl rfl rfl (al rfl rfl (aE rfl rfl rfl (al rfl rfl (ad rfl rfl (aw rfl rfl rfl rfl (aw rfl rfl rfl rfl (al rfl rfl (aE rfl rfl rfl (aE rfl rfl rfl (ah rfl rfl ?_)))))))))));refine ab (aP ?_);exact aV rfl rfl ⟨by simp only[fM];first|rfl|(congr 1;first|(exact(decide_eq_true (by omega)).symm)|(exact(decide_eq_false (by omega)).symm)|(exact decide_eq_decide.2 (by omega))),rfl⟩
    ·refine aw rfl rfl rfl rfl (aw rfl rfl rfl rfl (al rfl rfl (aE rfl rfl rfl (al rfl rfl (ad rfl rfl (aw rfl rfl rfl rfl (aw rfl rfl rfl rfl (al rfl rfl (aE rfl rfl rfl (al rfl rfl (ad rfl rfl ?_)))))))))));refine aw rfl rfl rfl rfl (aw rfl rfl rfl rfl (al rfl rfl (aE rfl rfl rfl (aE rfl rfl rfl (ah rfl rfl (ab (aP ?_)))))));exact aV rfl rfl ⟨by simp only[fM];first|rfl|(congr 1;first|(exact(decide_eq_true (by omega)).symm)|(exact(decide_eq_false (by omega)).symm)|(exact decide_eq_decide.2 (by omega))),rfl⟩
  ·refine aw rfl rfl rfl rfl (aw rfl rfl rfl rfl (al rfl rfl (aE rfl rfl rfl (aE rfl rfl rfl (ad rfl rfl (al rfl rfl (ad rfl rfl (al rfl rfl (ef rfl rfl rfl (al rfl rfl (ad rfl rfl ?_)))))))))));refine aS (g:=20) rfl (fun mN=>?_) (fun mN=>?_)
   ·refine al rfl rfl (ad rfl rfl (al rfl rfl (gQ rfl rfl rfl (al rfl rfl (aZ rfl rfl rfl (al rfl rfl (ad rfl rfl ?_)))))));refine aS (g:=24) rfl (fun y7=>?_) (fun y7=>?_)
    ·refine al rfl rfl (ad rfl rfl (al rfl rfl (eM rfl rfl rfl (al rfl rfl (aZ rfl rfl rfl (al rfl rfl (ad rfl rfl ?_)))))));refine aS (g:=28) rfl (fun y8=>?_) (fun y8=>?_)
     ·refine al rfl rfl (ad rfl rfl (al rfl rfl (eM rfl rfl rfl (al rfl rfl (aZ rfl rfl rfl (aE rfl rfl rfl (ah rfl rfl (ab (aP ?_)))))))));exact aV rfl rfl ⟨by simp only[fM];first|rfl|(congr 1;first|(exact(decide_eq_true (by omega)).symm)|(exact(decide_eq_false (by omega)).symm)|(exact decide_eq_decide.2 (by omega))),rfl⟩
     ·refine aw rfl rfl rfl rfl (aw rfl rfl rfl rfl (al rfl rfl (aE rfl rfl rfl (aE rfl rfl rfl (ah rfl rfl (ab (aP ?_)))))));exact aV rfl rfl ⟨by simp only[fM];first|rfl|(congr 1;first|(exact(decide_eq_true (by omega)).symm)|(exact(decide_eq_false (by omega)).symm)|(exact decide_eq_decide.2 (by omega))),rfl⟩
    ·refine aw rfl rfl rfl rfl (aw rfl rfl rfl rfl (al rfl rfl (aE rfl rfl rfl (al rfl rfl (ad rfl rfl (aw rfl rfl rfl rfl (aw rfl rfl rfl rfl (al rfl rfl (aE rfl rfl rfl (aE rfl rfl rfl (ah rfl rfl ?_)))))))))));refine ab (aP ?_);exact aV rfl rfl ⟨by simp only[fM];first|rfl|(congr 1;first|(exact(decide_eq_true (by omega)).symm)|(exact(decide_eq_false (by omega)).symm)|(exact decide_eq_decide.2 (by omega))),rfl⟩
   ·refine aw rfl rfl rfl rfl (aw rfl rfl rfl rfl (al rfl rfl (aE rfl rfl rfl (al rfl rfl (ad rfl rfl (aw rfl rfl rfl rfl (aw rfl rfl rfl rfl (al rfl rfl (aE rfl rfl rfl (al rfl rfl (ad rfl rfl ?_)))))))))));refine aw rfl rfl rfl rfl (aw rfl rfl rfl rfl (al rfl rfl (aE rfl rfl rfl (aE rfl rfl rfl (ah rfl rfl (ab (aP ?_)))))));exact aV rfl rfl ⟨by simp only[fM];first|rfl|(congr 1;first|(exact(decide_eq_true (by omega)).symm)|(exact(decide_eq_false (by omega)).symm)|(exact decide_eq_decide.2 (by omega))),rfl⟩
theorem GP (c:Int) (w0:World):
  Spec Tryz.prog 226 #[.int .i64 c] w0 (fun v w=>v= .bool (pE c)∧w=w0):=by
 refine bg (args:=[_]) (fn:=Tryz.f226) Tryz.func226 rfl (n:=9) Tryz.ntmps226 (aj (ae (ah rfl rfl (ab (aj (ae (ad rfl rfl (ef rfl rfl rfl (ad rfl rfl ?_)))))))));refine aS (g:=5) rfl (fun iU=>?_) (fun iU=>?_)
 ·refine al rfl rfl (ad rfl rfl (al rfl rfl (gQ rfl rfl rfl (aZ rfl rfl rfl (ah rfl rfl (ab (aP ?_)))))));exact aV rfl rfl ⟨by simp only[pE];first|rfl|(congr 1;first|(exact(decide_eq_true (by omega)).symm)|(exact(decide_eq_false (by omega)).symm)|(exact decide_eq_decide.2 (by omega))),rfl⟩
 ·refine aw rfl rfl rfl rfl (aw rfl rfl rfl rfl (aE rfl rfl rfl (ah rfl rfl (ab (aP ?_)))));exact aV rfl rfl ⟨by simp only[pE];first|rfl|(congr 1;first|(exact(decide_eq_true (by omega)).symm)|(exact(decide_eq_false (by omega)).symm)|(exact decide_eq_decide.2 (by omega))),rfl⟩
theorem Bt (c:Int) (w0:World) (hc:0≤c∧c≤1114111):
  Spec Tryz.prog 227 #[.int .i64 c] w0 (fun v w=>v= .int .i64 (fO c)∧w=w0):=by
 refine bg (args:=[_]) (fn:=Tryz.f227) Tryz.func227 rfl (n:=24) Tryz.ntmps227 (aj (ae (ah rfl rfl (ab (aj (aj (ae (ad rfl rfl (ef rfl rfl rfl (ad rfl rfl ?_))))))))));refine aS (g:=5) rfl (fun iU=>?_) (fun iU=>?_)
 ·refine al rfl rfl (ad rfl rfl (al rfl rfl (gQ rfl rfl rfl (aZ rfl rfl rfl (ad rfl rfl ?_)))));refine aS (g:=9) rfl (fun Ct=>?_) (fun Ct=>?_)
  ·refine aw rfl rfl rfl rfl (aw rfl rfl rfl rfl (aw rfl rfl rfl rfl (cu rfl rfl rfl (cu rfl rfl rfl (aw rfl rfl rfl rfl (aw rfl rfl rfl rfl (cu rfl rfl rfl (cu rfl rfl rfl (aw rfl rfl rfl rfl (aZ rfl rfl rfl (ab ?_)))))))))));refine ot rfl (aj (ae (ad rfl rfl (bG rfl rfl rfl (by omega) (ah rfl rfl (ab (aP ?_)))))));exact aV rfl rfl ⟨by rw[fO,if_pos (by omega)],rfl⟩
  ·refine al rfl rfl (ad rfl rfl (al rfl rfl (ef rfl rfl rfl (al rfl rfl (ad rfl rfl ?_)))));refine aS (g:=12) rfl (fun tB=>?_) (fun tB=>?_)
   ·refine al rfl rfl (ad rfl rfl (al rfl rfl (gQ rfl rfl rfl (al rfl rfl (aZ rfl rfl rfl (al rfl rfl (ad rfl rfl ?_)))))));refine aS (g:=16) rfl (fun L7=>?_) (fun L7=>?_)
    ·refine al rfl rfl (ad rfl rfl (al rfl rfl (eM rfl rfl rfl (al rfl rfl (aZ rfl rfl rfl (aE rfl rfl rfl (ab ?_)))))));refine bM rfl (fun c1=>?_) (fun c1=>?_)
     ·refine aj (ae (ad rfl rfl (bG rfl rfl rfl (by omega) (ah rfl rfl (ab (aP ?_))))));exact aV rfl rfl ⟨by rw[fO,if_pos (by omega)],rfl⟩
     ·refine aT (aj (ae (ad rfl rfl (ah rfl rfl (ab (aP ?_))))));exact aV rfl rfl ⟨by rw[fO,if_neg (by omega)],rfl⟩
    ·refine aw rfl rfl rfl rfl (aw rfl rfl rfl rfl (al rfl rfl (aE rfl rfl rfl (aE rfl rfl rfl (ab (jD rfl (aT (aj (ae (ad rfl rfl (ah rfl rfl ?_)))))))))));refine ab (aP ?_);exact aV rfl rfl ⟨by rw[fO,if_neg (by omega)],rfl⟩
   ·refine aw rfl rfl rfl rfl (aw rfl rfl rfl rfl (al rfl rfl (aE rfl rfl rfl (al rfl rfl (ad rfl rfl (aw rfl rfl rfl rfl (aw rfl rfl rfl rfl (al rfl rfl (aE rfl rfl rfl (aE rfl rfl rfl (ab ?_)))))))))));refine jD rfl (aT (aj (ae (ad rfl rfl (ah rfl rfl (ab (aP ?_)))))));exact aV rfl rfl ⟨by rw[fO,if_neg (by omega)],rfl⟩
 ·refine aw rfl rfl rfl rfl (aw rfl rfl rfl rfl (aE rfl rfl rfl (ad rfl rfl (al rfl rfl (ad rfl rfl (al rfl rfl (ef rfl rfl rfl (al rfl rfl (ad rfl rfl ?_)))))))));refine aS (g:=12) rfl (fun tB=>?_) (fun tB=>?_)
  ·refine al rfl rfl (ad rfl rfl (al rfl rfl (gQ rfl rfl rfl (al rfl rfl (aZ rfl rfl rfl (al rfl rfl (ad rfl rfl ?_)))))));refine aS (g:=16) rfl (fun L7=>?_) (fun L7=>?_)
   ·refine al rfl rfl (ad rfl rfl (al rfl rfl (eM rfl rfl rfl (al rfl rfl (aZ rfl rfl rfl (aE rfl rfl rfl (ab ?_)))))));refine bM rfl (fun c1=>?_) (fun c1=>?_)
    ·refine aj (ae (ad rfl rfl (bG rfl rfl rfl (by omega) (ah rfl rfl (ab (aP ?_))))));exact aV rfl rfl ⟨by rw[fO,if_pos (by omega)],rfl⟩
    ·refine aT (aj (ae (ad rfl rfl (ah rfl rfl (ab (aP ?_))))));exact aV rfl rfl ⟨by rw[fO,if_neg (by omega)],rfl⟩
   ·refine aw rfl rfl rfl rfl (aw rfl rfl rfl rfl (al rfl rfl (aE rfl rfl rfl (aE rfl rfl rfl (ab (jD rfl (aT (aj (ae (ad rfl rfl (ah rfl rfl ?_)))))))))));refine ab (aP ?_);exact aV rfl rfl ⟨by rw[fO,if_neg (by omega)],rfl⟩
  ·refine aw rfl rfl rfl rfl (aw rfl rfl rfl rfl (al rfl rfl (aE rfl rfl rfl (al rfl rfl (ad rfl rfl (aw rfl rfl rfl rfl (aw rfl rfl rfl rfl (al rfl rfl (aE rfl rfl rfl (aE rfl rfl rfl (ab ?_)))))))))));refine jD rfl (aT (aj (ae (ad rfl rfl (ah rfl rfl (ab (aP ?_)))))));exact aV rfl rfl ⟨by rw[fO,if_neg (by omega)],rfl⟩
end Go.K
namespace Go.Proofs
open Go.Shelf
def Tryz.xm:Go.Shelf.Ren:=⟨fun|169=>267|n=>n,fun|70=>334|9=>9|0=>0|72=>336|37=>204|127=>358|3=>3|5=>5|n=>n,fun|n=>n⟩
theorem Tryz.Qw:Go.Proofs.Lays.n169 Tryz.prog Tryz.xm:={
 mixed:=by kernel_rfl
 f169:=Tryz.func267.trans (congrArg some (by kernel_rfl))
 t0:=fK
 a0:=lS
 z0:=kj
 v0:=gM
 t3:=ax
 a3:=lT
 z3:=km
 v3:=gN
 t9:=aK
 a9:=lU
 z9:=kn
 v9:=gO
 t37:=bP
 a37:=Tryz.isAgg204
 z37:=Tryz.sizeOf204
 v37:=Tryz.zeroValue204
 t70:=Tryz.underlying334
 a70:=Tryz.isAgg334
 z70:=Tryz.sizeOf334
 v70:=Tryz.zeroValue334
 t72:=Tryz.underlying336
 a72:=Tryz.isAgg336
 z72:=Tryz.sizeOf336
 v72:=Tryz.zeroValue336
 t127:=Tryz.underlying358
 a127:=Tryz.isAgg358
 z127:=Tryz.sizeOf358
 v127:=Tryz.zeroValue358}
def Tryz.D4:Go.Shelf.Ren:=⟨fun|119=>290|n=>n,fun|21=>21|4=>4|n=>n,fun|n=>n⟩
theorem Tryz.Qx:Go.Proofs.Lays.n119 Tryz.prog Tryz.D4:={
 mixed:=by kernel_rfl
 f119:=Tryz.func290.trans (congrArg some (by kernel_rfl))
 t4:=iX
 a4:=sk
 z4:=oB
 v4:=jG
 t21:=Tryz.underlying21
 a21:=Tryz.isAgg21
 z21:=Tryz.sizeOf21
 v21:=Tryz.zeroValue21}
def Tryz.D5:Go.Shelf.Ren:=⟨fun|106=>137|213=>189|265=>239|n=>n,fun|9=>9|3=>3|n=>n,fun|n=>n⟩
theorem Tryz.Qy:Go.Proofs.Lays.n106 Tryz.prog Tryz.D5:={
 mixed:=by kernel_rfl
 f106:=Tryz.func137.trans (congrArg some (by kernel_rfl))
 f213:=Tryz.func189.trans (congrArg some (by kernel_rfl))
 f265:=Tryz.func239.trans (congrArg some (by kernel_rfl))
 t3:=ax
 a3:=lT
 z3:=km
 v3:=gN
 t9:=aK
 a9:=lU
 z9:=kn
 v9:=gO}
theorem Tryz.uz:Builder.Extra Tryz.prog Tryz.xm:={
 sizeBuilder:=by kernel_rfl
 liesBuilder:=by kernel_rfl
 t5:=cC
 a5:=Tryz.isAgg5
 z5:=Tryz.sizeOf5
 v5:=tX
 infoByte:=by kernel_rfl
 cellsByte:=by kernel_rfl
 sizeByte:=by kernel_rfl
 neB5:=by decide}
def Tryz.xn:Go.Shelf.Ren:=⟨fun|168=>265|240=>288|242=>289|276=>298|278=>299|n=>n,fun|0=>0|3=>3|4=>4|5=>5|9=>9|20=>20|21=>21|37=>204|46=>189|51=>257|70=>334|72=>336|75=>338|80=>342|164=>363|n=>n,fun|n=>n⟩
theorem Tryz.Qz:Go.Proofs.Lays.n168 Tryz.prog Tryz.xn:={
 mixed:=by kernel_rfl
 f168:=Tryz.func265.trans (congrArg some (by kernel_rfl))
 f240:=Tryz.func288.trans (congrArg some (by kernel_rfl))
 f242:=Tryz.func289.trans (congrArg some (by kernel_rfl))
 f276:=Tryz.func298.trans (congrArg some (by kernel_rfl))
 f278:=Tryz.func299.trans (congrArg some (by kernel_rfl))
 t0:=fK
 a0:=lS
 z0:=kj
 v0:=gM
 t3:=ax
 a3:=lT
 z3:=km
 v3:=gN
 t4:=iX
 a4:=sk
 z4:=oB
 v4:=jG
 t5:=cC
 a5:=Tryz.isAgg5
 z5:=Tryz.sizeOf5
 v5:=tX
 t9:=aK
 a9:=lU
 z9:=kn
 v9:=gO
 t20:=Tryz.underlying20
 a20:=Tryz.isAgg20
 z20:=Tryz.sizeOf20
 v20:=Tryz.zeroValue20
 t21:=Tryz.underlying21
 a21:=Tryz.isAgg21
 z21:=Tryz.sizeOf21
 v21:=Tryz.zeroValue21
 t37:=bP
 a37:=Tryz.isAgg204
 z37:=Tryz.sizeOf204
 v37:=Tryz.zeroValue204
 t46:=j4
 a46:=Tryz.isAgg189
 z46:=Tryz.sizeOf189
 v46:=Tryz.zeroValue189
 t51:=Tryz.underlying257
 a51:=Tryz.isAgg257
 z51:=Tryz.sizeOf257
 v51:=Tryz.zeroValue257
 t70:=Tryz.underlying334
 a70:=Tryz.isAgg334
 z70:=Tryz.sizeOf334
 v70:=Tryz.zeroValue334
 t72:=Tryz.underlying336
 a72:=Tryz.isAgg336
 z72:=Tryz.sizeOf336
 v72:=Tryz.zeroValue336
 t75:=Tryz.underlying338
 a75:=Tryz.isAgg338
 z75:=Tryz.sizeOf338
 v75:=Tryz.zeroValue338
 t164:=Tryz.underlying363
 a164:=Tryz.isAgg363
 z164:=Tryz.sizeOf363
 v164:=Tryz.zeroValue363}
theorem Tryz.uA:Builder.Extra Tryz.prog Tryz.xn where
 sizeBuilder:=by kernel_rfl
 liesBuilder:=by kernel_rfl
 t5:=cC
 a5:=Tryz.isAgg5
 z5:=Tryz.sizeOf5
 v5:=tX
 infoByte:=by kernel_rfl
 cellsByte:=by kernel_rfl
 sizeByte:=by kernel_rfl
 neB5:=by decide
end Go.Proofs
namespace Go.K
open Go.Proofs
set_option maxRecDepth 10000
open Go.RowKit Go.Shelf
theorem GQ (r:Int) (w:World):Spec Tryz.prog 290 #[.int .i32 r] w (fun v w'=>v= .bool (Lib.validRune r)∧w'=w):=(Any.utf8_ValidRune Tryz.Qx r w).mono fun e w' ⟨h1,h2⟩=>⟨_,h1,rfl,h2⟩
theorem JS {B b:Nat} {bs:List Value} {r:Int} (w:World) (hr: -2147483648≤r∧r≤2147483647) (h:Lib.IsBuilderF 336 5 B b bs w) (hl:bs.length+4≤140737488355328) (hB:B≤w.heap.size):
  Spec Tryz.prog 265 #[.pointer (some ⟨b,0,none⟩),.int .i32 r] w (fun v w'=>Lib.IsBuilderF 336 5 B b (bs++Lib.runeCells r) w'∧Below B w w'):=
 (Any.Builder_WriteRune_k Tryz.Qz Tryz.uA B b bs r hr.1 hr.2 w h hl hB).mono fun e w' ⟨h1,h2,h3,_⟩=>⟨_,h1,.inr h2,h3⟩
theorem L8 {B b:Nat} {l:List UInt8} (w:World) (h:Lib.IsBuilderF 336 5 B b (Lib.byteCells l) w) (hB:B≤w.heap.size):
  Spec Tryz.prog 267 #[.pointer (some ⟨b,0,none⟩)] w (fun v w'=>v= .string ⟨l.toArray⟩∧Below B w w'):=
 (Any.Builder_String_any_k Tryz.Qw Tryz.uz B b l w h hB).mono fun e w' ⟨h1,_,h3,_⟩=>⟨_,h1,rfl,h3⟩
theorem wrap32 {c:Int} (h:0≤c∧c≤1114111):IntKind.i32.wrap c=c:=by
 show(if(true&&decide (c%4294967296≥2147483648))=true then c%4294967296-4294967296 else c%4294967296)=c;rw[if_neg (by simp only[ff,decide_eq_true_eq];omega)];omega
def uB (c:Int):Int:=if c<0∨c>1114111∨Lib.validRune c=false then 65533 else c
theorem Iy (c:Int):0≤uB c∧uB c≤1114111:=by unfold uB;split<;>omega
def kT (l:List Int):List UInt8:=l.flatMap fun c=>Lib.encodeRune (uB c)
theorem mO (l:List Int) (c:Int):kT (l++[c])=kT l++Lib.encodeRune (uB c):=by simp[kT]
theorem QA (r:Int):(Lib.encodeRune r).length≤4:=by have:=(Lib.encodeRuneZ_length r).2;simpa[Lib.encodeRune]using this
theorem gE (l:List Int):(kT l).length≤4*l.length:=by
 induction l with
 |nil=>simp[kT]
 |cons c l ih=>
  have:=QA (uB c);simp only[kT,tc,a8,cI]at ih ⊢;omega
theorem y9 (l:List Int) (c:Int):Lib.byteCells (kT l)++Lib.runeCells (uB c)=Lib.byteCells (kT (l++[c])):=by
 rw[mO,←Lib.byteCells_encodeRune];simp[Lib.byteCells]
theorem L9 (c:Int) (w0:World):
  Spec Tryz.prog 266 #[.int .i64 c] w0 (fun v w=>v= .int .i32 (uB c)∧w=w0):=by
 refine bg (args:=[_]) (fn:=Tryz.f266) Tryz.func266 rfl (n:=17) Tryz.ntmps266 (aj (ae (ah rfl rfl (ab (aj (aj (ae (ad rfl rfl (cg rfl rfl rfl (ad rfl rfl ?_))))))))));refine aS (g:=5) rfl (fun iU=>?_) (fun iU=>?_)
 ·refine aw rfl rfl rfl rfl (aw rfl rfl rfl rfl (aZ rfl rfl rfl (ad rfl rfl (aw rfl rfl rfl rfl (aw rfl rfl rfl rfl (aw rfl rfl rfl rfl (aw rfl rfl rfl rfl (aZ rfl rfl rfl (ab (ot rfl (aj ?_)))))))))));refine ae (ah rfl rfl (ab (aP ?_)));exact aV rfl rfl ⟨by rw[uB,if_pos (by first|exact .inl (by omega)|exact .inr (.inl (by omega))|exact .inr (.inr (by assumption)))],rfl⟩
 ·refine al rfl rfl (ad rfl rfl (al rfl rfl (jk rfl rfl rfl (aE rfl rfl rfl (ad rfl rfl ?_)))));refine aS (g:=9) rfl (fun Ct=>?_) (fun Ct=>?_)
  ·refine aw rfl rfl rfl rfl (aw rfl rfl rfl rfl (aw rfl rfl rfl rfl (aw rfl rfl rfl rfl (aZ rfl rfl rfl (ab (ot rfl (aj (ae (ah rfl rfl (ab (aP ?_)))))))))));exact aV rfl rfl ⟨by rw[uB,if_pos (by first|exact .inl (by omega)|exact .inr (.inl (by omega))|exact .inr (.inr (by assumption)))],rfl⟩
  ·refine al rfl rfl (ad rfl rfl (al rfl rfl (td ax Tryz.underlying21 rfl rfl (aU (v':= .int .i32 c) (congrArg (Value.int .i32) (wrap32 (by omega))) (al rfl rfl ?_)))));refine aX rfl rfl afn (GQ _ _) (fun r wc hc=>?_);obtain⟨rfl,rfl⟩:=hc;refine al rfl rfl (lY rfl rfl (aU (v':= .bool (decide (Lib.validRune c=false))) (by cases Lib.validRune c<;>rfl) (aE rfl rfl rfl (ab ?_))));refine bM rfl (fun c1=>?_) (fun c1=>?_)
   ·refine aj (ae (ah rfl rfl (ab (aP ?_))));exact aV rfl rfl ⟨by rw[uB,if_pos (by first|exact .inl (by omega)|exact .inr (.inl (by omega))|exact .inr (.inr (by assumption)))],rfl⟩
   ·refine aT (aj (ae (ad rfl rfl (td ax Tryz.underlying21 rfl rfl (aU (v':= .int .i32 c) (congrArg (Value.int .i32) (wrap32 (by omega))) (ah rfl rfl (ab (aP ?_))))))));exact aV rfl rfl ⟨by rw[uB,if_neg (by rintro(h|h|h)<;>first|omega|exact absurd h (by assumption))],rfl⟩
theorem JT {M:aD} {xs:List Int} {v0:Value} (w0:World) (hM:Lt M w0) (hv:((RT.int .i64).sl).V M w0 xs v0) (hl:xs.length≤1000000):
  Spec Tryz.prog 228 #[v0] w0 (fun v w=>v= .string ⟨(kT xs).toArray⟩∧Step M w0 M w aC):=by
 refine bg (args:=[_]) (fn:=Tryz.f228) Tryz.func228 rfl (n:=17) Tryz.ntmps228 (aj (ae (ah rfl rfl (ab (aj (ae ?_))))));refine dU M aeJ rfl (fun b w1 p1 q1 g1 s1=>?_);have mP:Lib.IsBuilderF 336 5 w0.heap.size b (Lib.byteCells (kT (xs.take 0))) w1:= .of (.inl ⟨p1,.slice none 0 0,g1,World.ownsRow_nil _ _ _ _,by simp[Value.ownBlock]⟩);have S1:Below w0.heap.size w0 w1:=s1.below;refine ab (aj (aj (ae (ad rfl rfl (bN ao rfl hv rfl (ad rfl rfl (ab (aY ?_))))))));refine dh (σ:=Nat) (fun k=>[(3,.pointer (some ⟨b,0,none⟩)),(6,v0),(7,.int .i64 (xs.length:Int)),(8,.int .i64 (k:Int))]) (fun k w=>Lib.IsBuilderF 336 5 w0.heap.size b (Lib.byteCells (kT (xs.take k))) w∧Below w0.heap.size w0 w∧k≤xs.length) (fun k=>xs.length-k) 0 (.cons rfl (.cons rfl (.cons rfl (.cons rfl .nil)))) ?_ ?_
 ·exact⟨mP,S1,bD _⟩
 ·rintro k w ⟨hb,S,hk⟩;refine aj (ae (cg rfl rfl rfl (ab (aj ?_))));refine bM rfl (fun c3=>?_) (fun c3=>?_)
  ·refine aT (aj (aY (aj (ae ?_))));refine cv (M:=M) ao I3 rfl rfl rfl hv (Step.y4 S M).le (by omega) (fun u4 c xo Ge=>?_);refine cd (M:=M) ax rfl rfl Ge (aq _ _) (fun in4=>?_);refine ah rfl rfl (ab (ae (ad rfl rfl ?_)));refine aX rfl rfl afj (L9 c _) (fun r wc hc=>?_);obtain⟨rfl,rfl⟩:=hc;refine aX rfl rfl afi (JS _ (by have:=Iy c;omega) hb (by rw[Lib.byteCells_length];have:=gE (xs.take k);rw[br]at this;omega) S.size) (fun r5 w5 hc=>?_);obtain⟨SG,S5⟩:=hc;have tk:xs.take (k+1)=xs.take k++[c]:=by rw[bI];simp only[ay]at xo;rw[xo];rfl
   rw[y9,←tk]at SG;have S6:=S.trans S5;refine ab (ae (bG rfl rfl rfl (by omega) (ad rfl rfl (ab ?_))));refine⟨rfl,k+1,(.cons rfl (.cons rfl (.cons rfl (.cons rfl .nil)))),?_,?_⟩
   ·exact⟨SG,S6,by omega⟩
   ·omega
  ·refine cH (aj (ae ?_));refine aX rfl rfl afk (L8 _ hb S.size) (fun r7 w7 hc=>?_);obtain⟨rfl,S7⟩:=hc;refine ah rfl rfl (ab (aP ?_));have e:xs.take k=xs:=aW (by omega);rw[e];exact aV rfl rfl ⟨rfl,Step.y4 (S.trans S7) M⟩
end Go.K
namespace Go.K
def nO (c:Int):Int:=if 194≤c∧c<224 then 2 else if 224≤c∧c<240 then 3 else if 240≤c∧c<245 then 4 else 0
def iv (c:Int):Int:=if 194≤c∧c<224 then 128 else if 224≤c∧c<240 then 2048 else if 240≤c∧c<245 then 65536 else 0
def wu (c:Int):Int:=if 194≤c∧c<224 then c-192 else if 224≤c∧c<240 then c-224 else if 240≤c∧c<245 then c-240 else 0
def vO (l:List UInt8):Nat→Int
 |0=>wu (ku l 0)
 |k+1=>64*vO l k+ku l (k+1)-128
theorem ie {l:List UInt8} {k:Nat}:kD l k=true↔k<l.length∧128≤ku l k∧ku l k<192:=by
 unfold kD;simp only[bX,decide_eq_true_eq,beq_iff_eq];omega
theorem Bu {n:Nat}:Utf8.valid (n:Int)=true↔(n<55296∨(57344≤n∧n≤1114111)):=by
 simp only[Utf8.valid,qq,bX,decide_eq_true_eq];omega
theorem Zg {l:List UInt8} (h:(ku l 0:Int)<128):dec l=(ku l 0,1):=by
 unfold dec GN;rw[if_pos (by omega)]
theorem Iz {l:List UInt8} (h0:128≤(ku l 0:Int)) (h:nO (ku l 0)=0∨∃k:Nat,1≤k∧(k:Int)<nO (ku l 0)∧kD l k=false):dec l=(65533,1):=by
 have hb:=pC l 0;unfold dec GN;rw[if_neg (by omega)]
 have hk:nO (ku l 0)=0∨(2≤nO (ku l 0)∧kD l 1=false)∨(3≤nO (ku l 0)∧kD l 2=false)∨(4≤nO (ku l 0)∧kD l 3=false):=by
  rcases h with h|⟨k,h1,h2,h3⟩
  ·exact .inl h
  ·have:nO (ku l 0)≤4:=by
    unfold nO
    split
    ·omega
    ·split
     ·omega
     ·split<;>omega
   have hk:k=1∨k=2∨k=3:=by omega
   rcases hk with rfl|rfl|rfl
   ·exact .inr (.inl ⟨by omega,h3⟩)
   ·exact .inr (.inr (.inl ⟨by omega,h3⟩))
   ·exact .inr (.inr (.inr ⟨by omega,h3⟩))
 simp only[beq_iff_eq,bX,decide_eq_true_eq,ge_iff_le,Bu];have hn:nO (ku l 0)=if 194≤(ku l 0:Int)∧(ku l 0:Int)<224 then 2 else if 224≤(ku l 0:Int)∧(ku l 0:Int)<240 then 3 else if 240≤(ku l 0:Int)∧(ku l 0:Int)<245 then 4 else 0:=rfl
 rw[hn]at hk
 split
 ·rename_i hc
  obtain⟨wx,tT⟩:=hc
  split
  ·rename_i hv
   exfalso;by_cases apY:194≤(ku l 0:Int)
   ·rw[if_pos (by omega)]at hk;rcases hk with hk|⟨_,hk⟩|⟨hk,_⟩|⟨hk,_⟩
    ·omega
    ·rw[hk]at tT;cases tT
    ·omega
    ·omega
   ·omega
  ·rfl
 ·split
  ·rename_i hc
   obtain⟨⟨wx,tT⟩,Zh⟩:=hc
   split
   ·exfalso;rw[if_neg (by omega),if_pos (by omega)]at hk;rcases hk with hk|⟨_,hk⟩|⟨_,hk⟩|⟨hk,_⟩
    ·omega
    ·rw[hk]at tT;cases tT
    ·rw[hk]at Zh;cases Zh
    ·omega
   ·rfl
  ·split
   ·rename_i hc
    obtain⟨⟨⟨wx,tT⟩,Zh⟩,hc4⟩:=hc
    split
    ·rename_i hv
     exfalso;by_cases apZ:(ku l 0:Int)<245
     ·rw[if_neg (by omega),if_neg (by omega),if_pos (by omega)]at hk;rcases hk with hk|⟨_,hk⟩|⟨_,hk⟩|⟨_,hk⟩
      ·omega
      ·rw[hk]at tT;cases tT
      ·rw[hk]at Zh;cases Zh
      ·rw[hk]at hc4;cases hc4
     ·omega
    ·rfl
   ·rfl
theorem oK {c:Int} (h:nO c≠0):(nO c=2∧iv c=128∧wu c=c-192∧194≤c∧c<224)∨(nO c=3∧iv c=2048∧wu c=c-224∧224≤c∧c<240)∨(nO c=4∧iv c=65536∧wu c=c-240∧240≤c∧c<245):=by
 by_cases h1:194≤c∧c<224
 ·exact .inl ⟨if_pos h1,if_pos h1,if_pos h1,h1.1,h1.2⟩
 ·by_cases h2:224≤c∧c<240
  ·exact .inr (.inl ⟨(if_neg h1).trans (if_pos h2),(if_neg h1).trans (if_pos h2),(if_neg h1).trans (if_pos h2),h2.1,h2.2⟩)
  ·by_cases h3:240≤c∧c<245
   ·exact .inr (.inr ⟨(if_neg h1).trans ((if_neg h2).trans (if_pos h3)),(if_neg h1).trans ((if_neg h2).trans (if_pos h3)),(if_neg h1).trans ((if_neg h2).trans (if_pos h3)),h3.1,h3.2⟩)
   ·exact absurd ((if_neg h1).trans ((if_neg h2).trans (if_neg h3))) h
theorem D6 {l:List UInt8} (hn:nO (ku l 0)≠0) (hc:∀k:Nat,1≤k→(k:Int)<nO (ku l 0)→kD l k=true) (v:Int) (hv:v=vO l (nO (ku l 0)-1).toNat):
  dec l=if v<iv (ku l 0)∨v>1114111∨(55296≤v∧v≤57343)then(65533,1)else(v.toNat,(nO (ku l 0)).toNat):=by
 have hb:=pC l 0;have b1:=pC l 1;have b2:=pC l 2;have b3:=pC l 3;unfold dec GN;simp only[beq_iff_eq,bX,decide_eq_true_eq,ge_iff_le,Bu];rcases oK hn with⟨e1,e2,e3,e4,e5⟩|⟨e1,e2,e3,e4,e5⟩|⟨e1,e2,e3,e4,e5⟩
 ·have c1:=hc 1 (by omega) (by omega);have d1:=ie.1 c1;rw[e1]at hv;have Bv:v=64*((ku l 0:Int)-192)+ku l 1-128:=by rw[hv];show 64*wu (ku l 0)+_-_=_;rw[e3]
  rw[if_neg (by omega),if_pos ⟨by omega,c1⟩,e2,e1];by_cases hx:v<128∨v>1114111∨(55296≤v∧v≤57343)
  ·rw[if_pos hx,if_neg (by omega)]
  ·rw[if_neg hx,if_pos (by omega)];simp only[ej];omega
 ·have c1:=hc 1 (by omega) (by omega);have c2:=hc 2 (by omega) (by omega);have d1:=ie.1 c1;have d2:=ie.1 c2;rw[e1]at hv;have Bv:v=64*(64*((ku l 0:Int)-224)+ku l 1-128)+ku l 2-128:=by rw[hv];show 64*(64*wu (ku l 0)+_-_)+_-_=_;rw[e3]
  rw[if_neg (by omega),if_neg (by omega),if_pos ⟨⟨by omega,c1⟩,c2⟩,e2,e1];by_cases hx:v<2048∨v>1114111∨(55296≤v∧v≤57343)
  ·rw[if_pos hx,if_neg (by omega)]
  ·rw[if_neg hx,if_pos (by omega)];simp only[ej];omega
 ·have c1:=hc 1 (by omega) (by omega);have c2:=hc 2 (by omega) (by omega);have c3:=hc 3 (by omega) (by omega);have d1:=ie.1 c1;have d2:=ie.1 c2;have d3:=ie.1 c3;rw[e1]at hv;have Bv:v=64*(64*(64*((ku l 0:Int)-240)+ku l 1-128)+ku l 2-128)+ku l 3-128:=by rw[hv];show 64*(64*(64*wu (ku l 0)+_-_)+_-_)+_-_=_;rw[e3]
  rw[if_neg (by omega),if_neg (by omega),if_neg (by omega),if_pos ⟨⟨⟨by omega,c1⟩,c2⟩,c3⟩,e2,e1];by_cases hx:v<65536∨v>1114111∨(55296≤v∧v≤57343)
  ·rw[if_pos hx,if_neg (by omega)]
  ·rw[if_neg hx,if_pos (by omega)];simp only[ej];omega
end Go.K
namespace Go.K
open Go.Proofs
set_option maxRecDepth 10000
theorem Cu (c:Int) (w0:World):
  Spec Tryz.prog 285 #[.int .i64 c] w0 (fun v w=>v= .bool (fM c)∧w=w0):=by
 refine bg (args:=[_]) (fn:=Tryz.f285) Tryz.func285 rfl (n:=31) Tryz.ntmps285 (aj (ae (ah rfl rfl (ab (aj (aj (ae (ad rfl rfl (ef rfl rfl rfl (ad rfl rfl ?_))))))))));refine aS (g:=5) rfl (fun iU=>?_) (fun iU=>?_)
 ·refine al rfl rfl (ad rfl rfl (al rfl rfl (gQ rfl rfl rfl (aZ rfl rfl rfl (ad rfl rfl ?_)))));refine aS (g:=9) rfl (fun Ct=>?_) (fun Ct=>?_)
  ·refine aw rfl rfl rfl rfl (aw rfl rfl rfl rfl (aw rfl rfl rfl rfl (cu rfl rfl rfl (cu rfl rfl rfl (aw rfl rfl rfl rfl (aZ rfl rfl rfl (ab (ot rfl (aj (ae (ah rfl rfl ?_)))))))))));refine ab (aP ?_);exact aV rfl rfl ⟨by simp only[fM];first|rfl|(congr 1;first|(exact(decide_eq_true (by omega)).symm)|(exact(decide_eq_false (by omega)).symm)|(exact decide_eq_decide.2 (by omega))),rfl⟩
  ·refine al rfl rfl (ad rfl rfl (al rfl rfl (ef rfl rfl rfl (al rfl rfl (ad rfl rfl ?_)))));refine aS (g:=12) rfl (fun tB=>?_) (fun tB=>?_)
   ·refine al rfl rfl (ad rfl rfl (al rfl rfl (gQ rfl rfl rfl (al rfl rfl (aZ rfl rfl rfl (aE rfl rfl rfl (ab ?_)))))));refine bM rfl (fun c1=>?_) (fun c1=>?_)
    ·refine aj (ae (ah rfl rfl (ab (aP ?_))));exact aV rfl rfl ⟨by simp only[fM];first|rfl|(congr 1;first|(exact(decide_eq_true (by omega)).symm)|(exact(decide_eq_false (by omega)).symm)|(exact decide_eq_decide.2 (by omega))),rfl⟩
    ·refine aT (aj (ae (ad rfl rfl (ef rfl rfl rfl (ad rfl rfl ?_)))));refine aS (g:=19) rfl (fun GR=>?_) (fun GR=>?_)
     ·refine al rfl rfl (ad rfl rfl (al rfl rfl (gQ rfl rfl rfl (aZ rfl rfl rfl (ad rfl rfl ?_)))));refine aS (g:=23) rfl (fun GS=>?_) (fun GS=>?_)
      ·refine al rfl rfl (ad rfl rfl (al rfl rfl (eM rfl rfl rfl (aZ rfl rfl rfl (ad rfl rfl ?_)))));refine aS (g:=27) rfl (fun zc=>?_) (fun zc=>?_)
       ·refine al rfl rfl (ad rfl rfl (al rfl rfl (eM rfl rfl rfl (aZ rfl rfl rfl (ah rfl rfl (ab (aP ?_)))))));exact aV rfl rfl ⟨by simp only[fM];first|rfl|(congr 1;first|(exact(decide_eq_true (by omega)).symm)|(exact(decide_eq_false (by omega)).symm)|(exact decide_eq_decide.2 (by omega))),rfl⟩
       ·refine aw rfl rfl rfl rfl (aw rfl rfl rfl rfl (aE rfl rfl rfl (ah rfl rfl (ab (aP ?_)))));exact aV rfl rfl ⟨by simp only[fM];first|rfl|(congr 1;first|(exact(decide_eq_true (by omega)).symm)|(exact(decide_eq_false (by omega)).symm)|(exact decide_eq_decide.2 (by omega))),rfl⟩
      ·refine aw rfl rfl rfl rfl (aw rfl rfl rfl rfl (aE rfl rfl rfl (ad rfl rfl (aw rfl rfl rfl rfl (aw rfl rfl rfl rfl (aE rfl rfl rfl (ah rfl rfl (ab (aP ?_)))))))));exact aV rfl rfl ⟨by simp only[fM];first|rfl|(congr 1;first|(exact(decide_eq_true (by omega)).symm)|(exact(decide_eq_false (by omega)).symm)|(exact decide_eq_decide.2 (by omega))),rfl⟩
     ·refine aw rfl rfl rfl rfl (aw rfl rfl rfl rfl (aE rfl rfl rfl (ad rfl rfl (aw rfl rfl rfl rfl (aw rfl rfl rfl rfl (aE rfl rfl rfl (ad rfl rfl (aw rfl rfl rfl rfl (aw rfl rfl rfl rfl (aE rfl rfl rfl (ah rfl rfl ?_)))))))))));refine ab (aP ?_);exact aV rfl rfl ⟨by simp only[fM];first|rfl|(congr 1;first|(exact(decide_eq_true (by omega)).symm)|(exact(decide_eq_false (by omega)).symm)|(exact decide_eq_decide.2 (by omega))),rfl⟩
   ·refine aw rfl rfl rfl rfl (aw rfl rfl rfl rfl (al rfl rfl (aE rfl rfl rfl (aE rfl rfl rfl (ab (jD rfl (aT (aj (ae (ad rfl rfl (ef rfl rfl rfl ?_)))))))))));refine ad rfl rfl ?_;refine aS (g:=19) rfl (fun GR=>?_) (fun GR=>?_)
    ·refine al rfl rfl (ad rfl rfl (al rfl rfl (gQ rfl rfl rfl (aZ rfl rfl rfl (ad rfl rfl ?_)))));refine aS (g:=23) rfl (fun GS=>?_) (fun GS=>?_)
     ·refine al rfl rfl (ad rfl rfl (al rfl rfl (eM rfl rfl rfl (aZ rfl rfl rfl (ad rfl rfl ?_)))));refine aS (g:=27) rfl (fun zc=>?_) (fun zc=>?_)
      ·refine al rfl rfl (ad rfl rfl (al rfl rfl (eM rfl rfl rfl (aZ rfl rfl rfl (ah rfl rfl (ab (aP ?_)))))));exact aV rfl rfl ⟨by simp only[fM];first|rfl|(congr 1;first|(exact(decide_eq_true (by omega)).symm)|(exact(decide_eq_false (by omega)).symm)|(exact decide_eq_decide.2 (by omega))),rfl⟩
      ·refine aw rfl rfl rfl rfl (aw rfl rfl rfl rfl (aE rfl rfl rfl (ah rfl rfl (ab (aP ?_)))));exact aV rfl rfl ⟨by simp only[fM];first|rfl|(congr 1;first|(exact(decide_eq_true (by omega)).symm)|(exact(decide_eq_false (by omega)).symm)|(exact decide_eq_decide.2 (by omega))),rfl⟩
     ·refine aw rfl rfl rfl rfl (aw rfl rfl rfl rfl (aE rfl rfl rfl (ad rfl rfl (aw rfl rfl rfl rfl (aw rfl rfl rfl rfl (aE rfl rfl rfl (ah rfl rfl (ab (aP ?_)))))))));exact aV rfl rfl ⟨by simp only[fM];first|rfl|(congr 1;first|(exact(decide_eq_true (by omega)).symm)|(exact(decide_eq_false (by omega)).symm)|(exact decide_eq_decide.2 (by omega))),rfl⟩
    ·refine aw rfl rfl rfl rfl (aw rfl rfl rfl rfl (aE rfl rfl rfl (ad rfl rfl (aw rfl rfl rfl rfl (aw rfl rfl rfl rfl (aE rfl rfl rfl (ad rfl rfl (aw rfl rfl rfl rfl (aw rfl rfl rfl rfl (aE rfl rfl rfl (ah rfl rfl ?_)))))))))));refine ab (aP ?_);exact aV rfl rfl ⟨by simp only[fM];first|rfl|(congr 1;first|(exact(decide_eq_true (by omega)).symm)|(exact(decide_eq_false (by omega)).symm)|(exact decide_eq_decide.2 (by omega))),rfl⟩
 ·refine aw rfl rfl rfl rfl (aw rfl rfl rfl rfl (aE rfl rfl rfl (ad rfl rfl (al rfl rfl (ad rfl rfl (al rfl rfl (ef rfl rfl rfl (al rfl rfl (ad rfl rfl ?_)))))))));refine aS (g:=12) rfl (fun tB=>?_) (fun tB=>?_)
  ·refine al rfl rfl (ad rfl rfl (al rfl rfl (gQ rfl rfl rfl (al rfl rfl (aZ rfl rfl rfl (aE rfl rfl rfl (ab ?_)))))));refine bM rfl (fun c1=>?_) (fun c1=>?_)
   ·refine aj (ae (ah rfl rfl (ab (aP ?_))));exact aV rfl rfl ⟨by simp only[fM];first|rfl|(congr 1;first|(exact(decide_eq_true (by omega)).symm)|(exact(decide_eq_false (by omega)).symm)|(exact decide_eq_decide.2 (by omega))),rfl⟩
   ·refine aT (aj (ae (ad rfl rfl (ef rfl rfl rfl (ad rfl rfl ?_)))));refine aS (g:=19) rfl (fun GR=>?_) (fun GR=>?_)
    ·refine al rfl rfl (ad rfl rfl (al rfl rfl (gQ rfl rfl rfl (aZ rfl rfl rfl (ad rfl rfl ?_)))));refine aS (g:=23) rfl (fun GS=>?_) (fun GS=>?_)
     ·refine al rfl rfl (ad rfl rfl (al rfl rfl (eM rfl rfl rfl (aZ rfl rfl rfl (ad rfl rfl ?_)))));refine aS (g:=27) rfl (fun zc=>?_) (fun zc=>?_)
      ·refine al rfl rfl (ad rfl rfl (al rfl rfl (eM rfl rfl rfl (aZ rfl rfl rfl (ah rfl rfl (ab (aP ?_)))))));exact aV rfl rfl ⟨by simp only[fM];first|rfl|(congr 1;first|(exact(decide_eq_true (by omega)).symm)|(exact(decide_eq_false (by omega)).symm)|(exact decide_eq_decide.2 (by omega))),rfl⟩
      ·refine aw rfl rfl rfl rfl (aw rfl rfl rfl rfl (aE rfl rfl rfl (ah rfl rfl (ab (aP ?_)))));exact aV rfl rfl ⟨by simp only[fM];first|rfl|(congr 1;first|(exact(decide_eq_true (by omega)).symm)|(exact(decide_eq_false (by omega)).symm)|(exact decide_eq_decide.2 (by omega))),rfl⟩
     ·refine aw rfl rfl rfl rfl (aw rfl rfl rfl rfl (aE rfl rfl rfl (ad rfl rfl (aw rfl rfl rfl rfl (aw rfl rfl rfl rfl (aE rfl rfl rfl (ah rfl rfl (ab (aP ?_)))))))));exact aV rfl rfl ⟨by simp only[fM];first|rfl|(congr 1;first|(exact(decide_eq_true (by omega)).symm)|(exact(decide_eq_false (by omega)).symm)|(exact decide_eq_decide.2 (by omega))),rfl⟩
    ·refine aw rfl rfl rfl rfl (aw rfl rfl rfl rfl (aE rfl rfl rfl (ad rfl rfl (aw rfl rfl rfl rfl (aw rfl rfl rfl rfl (aE rfl rfl rfl (ad rfl rfl (aw rfl rfl rfl rfl (aw rfl rfl rfl rfl (aE rfl rfl rfl (ah rfl rfl ?_)))))))))));refine ab (aP ?_);exact aV rfl rfl ⟨by simp only[fM];first|rfl|(congr 1;first|(exact(decide_eq_true (by omega)).symm)|(exact(decide_eq_false (by omega)).symm)|(exact decide_eq_decide.2 (by omega))),rfl⟩
  ·refine aw rfl rfl rfl rfl (aw rfl rfl rfl rfl (al rfl rfl (aE rfl rfl rfl (aE rfl rfl rfl (ab (jD rfl (aT (aj (ae (ad rfl rfl (ef rfl rfl rfl ?_)))))))))));refine ad rfl rfl ?_;refine aS (g:=19) rfl (fun GR=>?_) (fun GR=>?_)
   ·refine al rfl rfl (ad rfl rfl (al rfl rfl (gQ rfl rfl rfl (aZ rfl rfl rfl (ad rfl rfl ?_)))));refine aS (g:=23) rfl (fun GS=>?_) (fun GS=>?_)
    ·refine al rfl rfl (ad rfl rfl (al rfl rfl (eM rfl rfl rfl (aZ rfl rfl rfl (ad rfl rfl ?_)))));refine aS (g:=27) rfl (fun zc=>?_) (fun zc=>?_)
     ·refine al rfl rfl (ad rfl rfl (al rfl rfl (eM rfl rfl rfl (aZ rfl rfl rfl (ah rfl rfl (ab (aP ?_)))))));exact aV rfl rfl ⟨by simp only[fM];first|rfl|(congr 1;first|(exact(decide_eq_true (by omega)).symm)|(exact(decide_eq_false (by omega)).symm)|(exact decide_eq_decide.2 (by omega))),rfl⟩
     ·refine aw rfl rfl rfl rfl (aw rfl rfl rfl rfl (aE rfl rfl rfl (ah rfl rfl (ab (aP ?_)))));exact aV rfl rfl ⟨by simp only[fM];first|rfl|(congr 1;first|(exact(decide_eq_true (by omega)).symm)|(exact(decide_eq_false (by omega)).symm)|(exact decide_eq_decide.2 (by omega))),rfl⟩
    ·refine aw rfl rfl rfl rfl (aw rfl rfl rfl rfl (aE rfl rfl rfl (ad rfl rfl (aw rfl rfl rfl rfl (aw rfl rfl rfl rfl (aE rfl rfl rfl (ah rfl rfl (ab (aP ?_)))))))));exact aV rfl rfl ⟨by simp only[fM];first|rfl|(congr 1;first|(exact(decide_eq_true (by omega)).symm)|(exact(decide_eq_false (by omega)).symm)|(exact decide_eq_decide.2 (by omega))),rfl⟩
   ·refine aw rfl rfl rfl rfl (aw rfl rfl rfl rfl (aE rfl rfl rfl (ad rfl rfl (aw rfl rfl rfl rfl (aw rfl rfl rfl rfl (aE rfl rfl rfl (ad rfl rfl (aw rfl rfl rfl rfl (aw rfl rfl rfl rfl (aE rfl rfl rfl (ah rfl rfl ?_)))))))))));refine ab (aP ?_);exact aV rfl rfl ⟨by simp only[fM];first|rfl|(congr 1;first|(exact(decide_eq_true (by omega)).symm)|(exact(decide_eq_false (by omega)).symm)|(exact decide_eq_decide.2 (by omega))),rfl⟩
theorem GU (c:Int) (w0:World) (hc:0≤c∧c≤1114111):
  Spec Tryz.prog 253 #[.int .i64 c] w0 (fun v w=>v= .int .i64 (fO c)∧w=w0):=by
 refine bg (args:=[_]) (fn:=Tryz.f253) Tryz.func253 rfl (n:=28) Tryz.ntmps253 (aj (ae (ah rfl rfl (ab (aj (aj (ae (ad rfl rfl (ef rfl rfl rfl (ad rfl rfl ?_))))))))));refine aS (g:=5) rfl (fun iU=>?_) (fun iU=>?_)
 ·refine al rfl rfl (ad rfl rfl (al rfl rfl (gQ rfl rfl rfl (aZ rfl rfl rfl (ad rfl rfl ?_)))));refine aS (g:=9) rfl (fun Ct=>?_) (fun Ct=>?_)
  ·refine aw rfl rfl rfl rfl (aw rfl rfl rfl rfl (aw rfl rfl rfl rfl (cu rfl rfl rfl (cu rfl rfl rfl (aw rfl rfl rfl rfl (aZ rfl rfl rfl (ad rfl rfl (aw rfl rfl rfl rfl (aw rfl rfl rfl rfl (aw rfl rfl rfl rfl (cu rfl rfl rfl ?_)))))))))));refine cu rfl rfl rfl (aw rfl rfl rfl rfl (aZ rfl rfl rfl (ab (ot rfl (aj (ae (ad rfl rfl (bG rfl rfl rfl (by omega) (ah rfl rfl (ab (aP ?_)))))))))));exact aV rfl rfl ⟨by rw[fO,if_pos (by omega)],rfl⟩
  ·refine al rfl rfl (ad rfl rfl (al rfl rfl (ef rfl rfl rfl (al rfl rfl (ad rfl rfl ?_)))));refine aS (g:=12) rfl (fun tB=>?_) (fun tB=>?_)
   ·refine al rfl rfl (ad rfl rfl (al rfl rfl (gQ rfl rfl rfl (al rfl rfl (aZ rfl rfl rfl (aE rfl rfl rfl (ad rfl rfl ?_)))))));refine aS (g:=17) rfl (fun y6=>?_) (fun y6=>?_)
    ·refine aw rfl rfl rfl rfl (aw rfl rfl rfl rfl (aw rfl rfl rfl rfl (cu rfl rfl rfl (cu rfl rfl rfl (aw rfl rfl rfl rfl (aZ rfl rfl rfl (ab (ot rfl (aj (ae (ad rfl rfl ?_)))))))))));refine bG rfl rfl rfl (by omega) (ah rfl rfl (ab (aP ?_)));exact aV rfl rfl ⟨by rw[fO,if_pos (by omega)],rfl⟩
    ·refine al rfl rfl (ad rfl rfl (al rfl rfl (ef rfl rfl rfl (al rfl rfl (ad rfl rfl ?_)))));refine aS (g:=20) rfl (fun mN=>?_) (fun mN=>?_)
     ·refine al rfl rfl (ad rfl rfl (al rfl rfl (gQ rfl rfl rfl (al rfl rfl (aZ rfl rfl rfl (aE rfl rfl rfl (ab ?_)))))));refine bM rfl (fun c1=>?_) (fun c1=>?_)
      ·refine aj (ae (ad rfl rfl (bG rfl rfl rfl (by omega) (ah rfl rfl (ab (aP ?_))))));exact aV rfl rfl ⟨by rw[fO,if_pos (by omega)],rfl⟩
      ·refine aT (aj (ae (ad rfl rfl (ah rfl rfl (ab (aP ?_))))));exact aV rfl rfl ⟨by rw[fO,if_neg (by omega)],rfl⟩
     ·refine aw rfl rfl rfl rfl (aw rfl rfl rfl rfl (al rfl rfl (aE rfl rfl rfl (aE rfl rfl rfl (ab (jD rfl (aT (aj (ae (ad rfl rfl (ah rfl rfl ?_)))))))))));refine ab (aP ?_);exact aV rfl rfl ⟨by rw[fO,if_neg (by omega)],rfl⟩
   ·refine aw rfl rfl rfl rfl (aw rfl rfl rfl rfl (al rfl rfl (aE rfl rfl rfl (aE rfl rfl rfl (ad rfl rfl (al rfl rfl (ad rfl rfl (al rfl rfl (ef rfl rfl rfl (al rfl rfl (ad rfl rfl ?_)))))))))));refine aS (g:=20) rfl (fun mN=>?_) (fun mN=>?_)
    ·refine al rfl rfl (ad rfl rfl (al rfl rfl (gQ rfl rfl rfl (al rfl rfl (aZ rfl rfl rfl (aE rfl rfl rfl (ab ?_)))))));refine bM rfl (fun c1=>?_) (fun c1=>?_)
     ·refine aj (ae (ad rfl rfl (bG rfl rfl rfl (by omega) (ah rfl rfl (ab (aP ?_))))));exact aV rfl rfl ⟨by rw[fO,if_pos (by omega)],rfl⟩
     ·refine aT (aj (ae (ad rfl rfl (ah rfl rfl (ab (aP ?_))))));exact aV rfl rfl ⟨by rw[fO,if_neg (by omega)],rfl⟩
    ·refine aw rfl rfl rfl rfl (aw rfl rfl rfl rfl (al rfl rfl (aE rfl rfl rfl (aE rfl rfl rfl (ab (jD rfl (aT (aj (ae (ad rfl rfl (ah rfl rfl ?_)))))))))));refine ab (aP ?_);exact aV rfl rfl ⟨by rw[fO,if_neg (by omega)],rfl⟩
 ·refine aw rfl rfl rfl rfl (aw rfl rfl rfl rfl (aE rfl rfl rfl (ad rfl rfl (al rfl rfl (ad rfl rfl (al rfl rfl (ef rfl rfl rfl (al rfl rfl (ad rfl rfl ?_)))))))));refine aS (g:=12) rfl (fun tB=>?_) (fun tB=>?_)
  ·refine al rfl rfl (ad rfl rfl (al rfl rfl (gQ rfl rfl rfl (al rfl rfl (aZ rfl rfl rfl (aE rfl rfl rfl (ad rfl rfl ?_)))))));refine aS (g:=17) rfl (fun y6=>?_) (fun y6=>?_)
   ·refine aw rfl rfl rfl rfl (aw rfl rfl rfl rfl (aw rfl rfl rfl rfl (cu rfl rfl rfl (cu rfl rfl rfl (aw rfl rfl rfl rfl (aZ rfl rfl rfl (ab (ot rfl (aj (ae (ad rfl rfl ?_)))))))))));refine bG rfl rfl rfl (by omega) (ah rfl rfl (ab (aP ?_)));exact aV rfl rfl ⟨by rw[fO,if_pos (by omega)],rfl⟩
   ·refine al rfl rfl (ad rfl rfl (al rfl rfl (ef rfl rfl rfl (al rfl rfl (ad rfl rfl ?_)))));refine aS (g:=20) rfl (fun mN=>?_) (fun mN=>?_)
    ·refine al rfl rfl (ad rfl rfl (al rfl rfl (gQ rfl rfl rfl (al rfl rfl (aZ rfl rfl rfl (aE rfl rfl rfl (ab ?_)))))));refine bM rfl (fun c1=>?_) (fun c1=>?_)
     ·refine aj (ae (ad rfl rfl (bG rfl rfl rfl (by omega) (ah rfl rfl (ab (aP ?_))))));exact aV rfl rfl ⟨by rw[fO,if_pos (by omega)],rfl⟩
     ·refine aT (aj (ae (ad rfl rfl (ah rfl rfl (ab (aP ?_))))));exact aV rfl rfl ⟨by rw[fO,if_neg (by omega)],rfl⟩
    ·refine aw rfl rfl rfl rfl (aw rfl rfl rfl rfl (al rfl rfl (aE rfl rfl rfl (aE rfl rfl rfl (ab (jD rfl (aT (aj (ae (ad rfl rfl (ah rfl rfl ?_)))))))))));refine ab (aP ?_);exact aV rfl rfl ⟨by rw[fO,if_neg (by omega)],rfl⟩
  ·refine aw rfl rfl rfl rfl (aw rfl rfl rfl rfl (al rfl rfl (aE rfl rfl rfl (aE rfl rfl rfl (ad rfl rfl (al rfl rfl (ad rfl rfl (al rfl rfl (ef rfl rfl rfl (al rfl rfl (ad rfl rfl ?_)))))))))));refine aS (g:=20) rfl (fun mN=>?_) (fun mN=>?_)
   ·refine al rfl rfl (ad rfl rfl (al rfl rfl (gQ rfl rfl rfl (al rfl rfl (aZ rfl rfl rfl (aE rfl rfl rfl (ab ?_)))))));refine bM rfl (fun c1=>?_) (fun c1=>?_)
    ·refine aj (ae (ad rfl rfl (bG rfl rfl rfl (by omega) (ah rfl rfl (ab (aP ?_))))));exact aV rfl rfl ⟨by rw[fO,if_pos (by omega)],rfl⟩
    ·refine aT (aj (ae (ad rfl rfl (ah rfl rfl (ab (aP ?_))))));exact aV rfl rfl ⟨by rw[fO,if_neg (by omega)],rfl⟩
   ·refine aw rfl rfl rfl rfl (aw rfl rfl rfl rfl (al rfl rfl (aE rfl rfl rfl (aE rfl rfl rfl (ab (jD rfl (aT (aj (ae (ad rfl rfl (ah rfl rfl ?_)))))))))));refine ab (aP ?_);exact aV rfl rfl ⟨by rw[fO,if_neg (by omega)],rfl⟩
def yp (c:Int):Bool:=decide (fM c=true∨pE c=true)
theorem D7 (c:Int) (w0:World):
  Spec Tryz.prog 252 #[.int .i64 c] w0 (fun v w=>v= .bool (yp c)∧w=w0):=by
 refine bg (args:=[_]) (fn:=Tryz.f252) Tryz.func252 rfl (n:=13) Tryz.ntmps252 (aj (ae (ah rfl rfl (ab (aj (ae (ad rfl rfl ?_)))))));refine aX rfl rfl afm (Cu _ _) (fun r wc hc=>?_);obtain⟨rfl,rfl⟩:=hc;refine aU (v':= .bool (decide (fM c=true))) (by cases fM c<;>rfl) (ad rfl rfl ?_);refine aS (g:=5) rfl (fun iU=>?_) (fun iU=>?_)
 ·refine aw rfl rfl rfl rfl (aw rfl rfl rfl rfl (aw rfl rfl rfl rfl (cu rfl rfl rfl (cu rfl rfl rfl (aw rfl rfl rfl rfl (aZ rfl rfl rfl (ah rfl rfl (ab (aP ?_)))))))));have e:(pE c=true)=(48≤c∧c≤57):=by simp[pE]
  exact aV rfl rfl ⟨by simp only[yp,e];first|(congr 1;first|(exact(decide_eq_true (.inl (by assumption))).symm)|(exact(decide_eq_true (.inr (by omega))).symm)|(exact(decide_eq_false (by rintro(h|h)<;>first|exact absurd h (by assumption)|omega)).symm)|(exact decide_eq_decide.2 ⟨fun h=> .inr (by omega),fun h=>h.elim (fun h=>absurd h (by assumption)) (fun h=>by omega)⟩)),rfl⟩
 ·refine al rfl rfl (ad rfl rfl (al rfl rfl (ef rfl rfl rfl (al rfl rfl (ad rfl rfl ?_)))));refine aS (g:=8) rfl (fun pF=>?_) (fun pF=>?_)
  ·refine al rfl rfl (ad rfl rfl (al rfl rfl (gQ rfl rfl rfl (al rfl rfl (aZ rfl rfl rfl (aE rfl rfl rfl (ah rfl rfl (ab (aP ?_)))))))));have e:(pE c=true)=(48≤c∧c≤57):=by simp[pE]
   exact aV rfl rfl ⟨by simp only[yp,e];first|(congr 1;first|(exact(decide_eq_true (.inl (by assumption))).symm)|(exact(decide_eq_true (.inr (by omega))).symm)|(exact(decide_eq_false (by rintro(h|h)<;>first|exact absurd h (by assumption)|omega)).symm)|(exact decide_eq_decide.2 ⟨fun h=> .inr (by omega),fun h=>h.elim (fun h=>absurd h (by assumption)) (fun h=>by omega)⟩)),rfl⟩
  ·refine aw rfl rfl rfl rfl (aw rfl rfl rfl rfl (al rfl rfl (aE rfl rfl rfl (aE rfl rfl rfl (ah rfl rfl (ab (aP ?_)))))));have e:(pE c=true)=(48≤c∧c≤57):=by simp[pE]
   exact aV rfl rfl ⟨by simp only[yp,e];first|(congr 1;first|(exact(decide_eq_true (.inl (by assumption))).symm)|(exact(decide_eq_true (.inr (by omega))).symm)|(exact(decide_eq_false (by rintro(h|h)<;>first|exact absurd h (by assumption)|omega)).symm)|(exact decide_eq_decide.2 ⟨fun h=> .inr (by omega),fun h=>h.elim (fun h=>absurd h (by assumption)) (fun h=>by omega)⟩)),rfl⟩
theorem UX {l:List UInt8} {c:Int} (hc:c=(ku l 0:Int)) (hn:nO c≠0):∀{k:Nat},(∀j:Nat,1≤j→j<k+1→kD l j=true)→k≤3→0≤vO l k∧vO l k≤100000000:=by
 have key:∀k:Nat,(∀j:Nat,1≤j→j<k+1→kD l j=true)→0≤vO l k∧vO l k≤33*64^k-1:=by
  intro k
  induction k with
  |zero=>
   intro _;have:=oK hn;show 0≤wu (ku l 0:Int)∧wu (ku l 0:Int)≤33*64^0-1;rw[←hc];simp only[Int.pow_zero];omega
  |succ k ih=>
   intro h;have h1:=ih fun j h2 h3=>h j h2 (by omega)
   have h2:=ie.1 (h (k+1) (by omega) (by omega));show 0≤64*vO l k+_-128∧64*vO l k+_-128≤_;rw[Int.pow_succ];omega
 intro k h hk;have:=key k h
 have h3:(64:Int)^k≤262144:=by
  rcases(show k=0∨k=1∨k=2∨k=3 by omega)with rfl|rfl|rfl|rfl<;>decide
 omega
theorem Mc {l:List UInt8} (w0:World) (hl:l≠[]) (hlen:l.length≤1000000):
  Spec Tryz.prog 284 #[.string ⟨l.toArray⟩] w0 (fun v w=>v= .tuple #[.int .i64 ((dec l).1:Int),.int .i64 ((dec l).2:Int)]∧w=w0):=by
 have ud:0<l.length:=o9.2 hl;have hb0:=pC l 0;obtain⟨c,hc⟩:∃c:Int,c=(ku l 0:Int):=⟨_,rfl⟩;have hcr:0≤c∧c<256:=by omega
 refine bg (args:=[_]) (fn:=Tryz.f284) Tryz.func284 rfl (n:=85) Tryz.ntmps284 (aj (ae (ah rfl rfl (ah rfl rfl (ab (aj (ae (ad rfl rfl ?_))))))));refine Rg.Ix (c:=l.getD 0 0) aK rfl rfl rfl (by decide) (by rw[aA];show l[0]? =_;rw[ar ud];rfl) ?_;refine aU (v':= .int .u8 c) (by rw[hc];rfl) (Rg.vS cC ax rfl rfl (by omega) (ah rfl rfl (ab (aj (aj (ae (ad rfl rfl (cg rfl rfl rfl (ab ?_)))))))));refine bM rfl (fun c2=>?_) (fun c2=>?_)
 ·refine aj (ae (ad rfl rfl (ah rfl rfl (ah rfl rfl (ab (aP ?_))))));exact fp rfl rfl rfl ⟨by rw[Zg (by omega),hc];rfl,rfl⟩
 ·refine aT (aj (ae (ah rfl rfl (ab (aj (ae (ah rfl rfl (ab (aj (ae (ah rfl rfl ?_)))))))))));refine ab ?_;refine T.ym [(0,.string ⟨l.toArray⟩),(4,.int .i64 c),(5,.int .i64 (nO c)),(6,.int .i64 (iv c)),(7,.int .i64 (wu c))] ?_ ?_
  ·refine aj (ae (ad rfl rfl (ef rfl rfl rfl (ad rfl rfl ?_))));refine aS (g:=18) rfl (fun afp=>?_) (fun afp=>?_)
   ·refine al rfl rfl (ad rfl rfl (al rfl rfl (cg rfl rfl rfl (aZ rfl rfl rfl (ab ?_)))));refine bM rfl (fun c7=>?_) (fun c7=>?_)
    ·refine aj (ae (ah rfl rfl (ab (aj (ae (ah rfl rfl (ab (ae (ad rfl rfl (fv rfl rfl rfl (by omega) (ah rfl rfl ?_)))))))))));refine ab ?_;exact⟨rfl,rfl,rfl,.cons rfl (.cons rfl (.cons (congrArg (fun z=>some (Value.int .i64 z)) (by first|(exfalso;omega)|(unfold nO;repeat (first|rw[if_pos (by omega)]|rw[if_neg (by omega)])))) (.cons (congrArg (fun z=>some (Value.int .i64 z)) (by first|(exfalso;omega)|(unfold iv;repeat (first|rw[if_pos (by omega)]|rw[if_neg (by omega)])))) (.cons (congrArg (fun z=>some (Value.int .i64 z)) (by first|(exfalso;omega)|(unfold wu;repeat (first|rw[if_pos (by omega)]|rw[if_neg (by omega)])))) (.nil)))))⟩
    ·refine aj (ae (ad rfl rfl (ef rfl rfl rfl (ad rfl rfl ?_))));refine aS (g:=26) rfl (fun Md=>?_) (fun Md=>?_)
     ·refine al rfl rfl (ad rfl rfl (al rfl rfl (cg rfl rfl rfl (aZ rfl rfl rfl (ab ?_)))));refine bM rfl (fun GV=>?_) (fun GV=>?_)
      ·refine aj (ae (ah rfl rfl (ab (aj (ae (ah rfl rfl (ab (ae (ad rfl rfl (fv rfl rfl rfl (by omega) (ah rfl rfl ?_)))))))))));refine ab ?_;exact⟨rfl,rfl,rfl,.cons rfl (.cons rfl (.cons (congrArg (fun z=>some (Value.int .i64 z)) (by first|(exfalso;omega)|(unfold nO;repeat (first|rw[if_pos (by omega)]|rw[if_neg (by omega)])))) (.cons (congrArg (fun z=>some (Value.int .i64 z)) (by first|(exfalso;omega)|(unfold iv;repeat (first|rw[if_pos (by omega)]|rw[if_neg (by omega)])))) (.cons (congrArg (fun z=>some (Value.int .i64 z)) (by first|(exfalso;omega)|(unfold wu;repeat (first|rw[if_pos (by omega)]|rw[if_neg (by omega)])))) (.nil)))))⟩
      ·refine aj (ae (ad rfl rfl (ef rfl rfl rfl (ad rfl rfl ?_))));refine aS (g:=34) rfl (fun zd=>?_) (fun zd=>?_)
       ·refine al rfl rfl (ad rfl rfl (al rfl rfl (cg rfl rfl rfl (aZ rfl rfl rfl (ab ?_)))));refine bM rfl (fun UY=>?_) (fun UY=>?_)
        ·refine aj (ae (ah rfl rfl (ab (aj (ae (ah rfl rfl (ab (ae (ad rfl rfl (fv rfl rfl rfl (by omega) (ah rfl rfl ?_)))))))))));refine ab ?_;exact⟨rfl,rfl,rfl,.cons rfl (.cons rfl (.cons (congrArg (fun z=>some (Value.int .i64 z)) (by first|(exfalso;omega)|(unfold nO;repeat (first|rw[if_pos (by omega)]|rw[if_neg (by omega)])))) (.cons (congrArg (fun z=>some (Value.int .i64 z)) (by first|(exfalso;omega)|(unfold iv;repeat (first|rw[if_pos (by omega)]|rw[if_neg (by omega)])))) (.cons (congrArg (fun z=>some (Value.int .i64 z)) (by first|(exfalso;omega)|(unfold wu;repeat (first|rw[if_pos (by omega)]|rw[if_neg (by omega)])))) (.nil)))))⟩
        ·refine aT ?_;exact⟨rfl,rfl,rfl,.cons rfl (.cons rfl (.cons (congrArg (fun z=>some (Value.int .i64 z)) (by first|(exfalso;omega)|(unfold nO;repeat (first|rw[if_pos (by omega)]|rw[if_neg (by omega)])))) (.cons (congrArg (fun z=>some (Value.int .i64 z)) (by first|(exfalso;omega)|(unfold iv;repeat (first|rw[if_pos (by omega)]|rw[if_neg (by omega)])))) (.cons (congrArg (fun z=>some (Value.int .i64 z)) (by first|(exfalso;omega)|(unfold wu;repeat (first|rw[if_pos (by omega)]|rw[if_neg (by omega)])))) (.nil)))))⟩
       ·refine aw rfl rfl rfl rfl (aw rfl rfl rfl rfl (aE rfl rfl rfl (ab (jD rfl (aT ?_)))));exact⟨rfl,rfl,rfl,.cons rfl (.cons rfl (.cons (congrArg (fun z=>some (Value.int .i64 z)) (by first|(exfalso;omega)|(unfold nO;repeat (first|rw[if_pos (by omega)]|rw[if_neg (by omega)])))) (.cons (congrArg (fun z=>some (Value.int .i64 z)) (by first|(exfalso;omega)|(unfold iv;repeat (first|rw[if_pos (by omega)]|rw[if_neg (by omega)])))) (.cons (congrArg (fun z=>some (Value.int .i64 z)) (by first|(exfalso;omega)|(unfold wu;repeat (first|rw[if_pos (by omega)]|rw[if_neg (by omega)])))) (.nil)))))⟩
     ·refine aw rfl rfl rfl rfl (aw rfl rfl rfl rfl (aE rfl rfl rfl (ab (jD rfl (aj (ae (ad rfl rfl (ef rfl rfl rfl (ad rfl rfl ?_)))))))));refine aS (g:=34) rfl (fun zd=>?_) (fun zd=>?_)
      ·refine al rfl rfl (ad rfl rfl (al rfl rfl (cg rfl rfl rfl (aZ rfl rfl rfl (ab ?_)))));refine bM rfl (fun UY=>?_) (fun UY=>?_)
       ·refine aj (ae (ah rfl rfl (ab (aj (ae (ah rfl rfl (ab (ae (ad rfl rfl (fv rfl rfl rfl (by omega) (ah rfl rfl ?_)))))))))));refine ab ?_;exact⟨rfl,rfl,rfl,.cons rfl (.cons rfl (.cons (congrArg (fun z=>some (Value.int .i64 z)) (by first|(exfalso;omega)|(unfold nO;repeat (first|rw[if_pos (by omega)]|rw[if_neg (by omega)])))) (.cons (congrArg (fun z=>some (Value.int .i64 z)) (by first|(exfalso;omega)|(unfold iv;repeat (first|rw[if_pos (by omega)]|rw[if_neg (by omega)])))) (.cons (congrArg (fun z=>some (Value.int .i64 z)) (by first|(exfalso;omega)|(unfold wu;repeat (first|rw[if_pos (by omega)]|rw[if_neg (by omega)])))) (.nil)))))⟩
       ·refine aT ?_;exact⟨rfl,rfl,rfl,.cons rfl (.cons rfl (.cons (congrArg (fun z=>some (Value.int .i64 z)) (by first|(exfalso;omega)|(unfold nO;repeat (first|rw[if_pos (by omega)]|rw[if_neg (by omega)])))) (.cons (congrArg (fun z=>some (Value.int .i64 z)) (by first|(exfalso;omega)|(unfold iv;repeat (first|rw[if_pos (by omega)]|rw[if_neg (by omega)])))) (.cons (congrArg (fun z=>some (Value.int .i64 z)) (by first|(exfalso;omega)|(unfold wu;repeat (first|rw[if_pos (by omega)]|rw[if_neg (by omega)])))) (.nil)))))⟩
      ·refine aw rfl rfl rfl rfl (aw rfl rfl rfl rfl (aE rfl rfl rfl (ab (jD rfl (aT ?_)))));exact⟨rfl,rfl,rfl,.cons rfl (.cons rfl (.cons (congrArg (fun z=>some (Value.int .i64 z)) (by first|(exfalso;omega)|(unfold nO;repeat (first|rw[if_pos (by omega)]|rw[if_neg (by omega)])))) (.cons (congrArg (fun z=>some (Value.int .i64 z)) (by first|(exfalso;omega)|(unfold iv;repeat (first|rw[if_pos (by omega)]|rw[if_neg (by omega)])))) (.cons (congrArg (fun z=>some (Value.int .i64 z)) (by first|(exfalso;omega)|(unfold wu;repeat (first|rw[if_pos (by omega)]|rw[if_neg (by omega)])))) (.nil)))))⟩
   ·refine aw rfl rfl rfl rfl (aw rfl rfl rfl rfl (aE rfl rfl rfl (ab (jD rfl (aj (ae (ad rfl rfl (ef rfl rfl rfl (ad rfl rfl ?_)))))))));refine aS (g:=26) rfl (fun Md=>?_) (fun Md=>?_)
    ·refine al rfl rfl (ad rfl rfl (al rfl rfl (cg rfl rfl rfl (aZ rfl rfl rfl (ab ?_)))));refine bM rfl (fun GV=>?_) (fun GV=>?_)
     ·refine aj (ae (ah rfl rfl (ab (aj (ae (ah rfl rfl (ab (ae (ad rfl rfl (fv rfl rfl rfl (by omega) (ah rfl rfl ?_)))))))))));refine ab ?_;exact⟨rfl,rfl,rfl,.cons rfl (.cons rfl (.cons (congrArg (fun z=>some (Value.int .i64 z)) (by first|(exfalso;omega)|(unfold nO;repeat (first|rw[if_pos (by omega)]|rw[if_neg (by omega)])))) (.cons (congrArg (fun z=>some (Value.int .i64 z)) (by first|(exfalso;omega)|(unfold iv;repeat (first|rw[if_pos (by omega)]|rw[if_neg (by omega)])))) (.cons (congrArg (fun z=>some (Value.int .i64 z)) (by first|(exfalso;omega)|(unfold wu;repeat (first|rw[if_pos (by omega)]|rw[if_neg (by omega)])))) (.nil)))))⟩
     ·refine aj (ae (ad rfl rfl (ef rfl rfl rfl (ad rfl rfl ?_))));refine aS (g:=34) rfl (fun zd=>?_) (fun zd=>?_)
      ·refine al rfl rfl (ad rfl rfl (al rfl rfl (cg rfl rfl rfl (aZ rfl rfl rfl (ab ?_)))));refine bM rfl (fun UY=>?_) (fun UY=>?_)
       ·refine aj (ae (ah rfl rfl (ab (aj (ae (ah rfl rfl (ab (ae (ad rfl rfl (fv rfl rfl rfl (by omega) (ah rfl rfl ?_)))))))))));refine ab ?_;exact⟨rfl,rfl,rfl,.cons rfl (.cons rfl (.cons (congrArg (fun z=>some (Value.int .i64 z)) (by first|(exfalso;omega)|(unfold nO;repeat (first|rw[if_pos (by omega)]|rw[if_neg (by omega)])))) (.cons (congrArg (fun z=>some (Value.int .i64 z)) (by first|(exfalso;omega)|(unfold iv;repeat (first|rw[if_pos (by omega)]|rw[if_neg (by omega)])))) (.cons (congrArg (fun z=>some (Value.int .i64 z)) (by first|(exfalso;omega)|(unfold wu;repeat (first|rw[if_pos (by omega)]|rw[if_neg (by omega)])))) (.nil)))))⟩
       ·refine aT ?_;exact⟨rfl,rfl,rfl,.cons rfl (.cons rfl (.cons (congrArg (fun z=>some (Value.int .i64 z)) (by first|(exfalso;omega)|(unfold nO;repeat (first|rw[if_pos (by omega)]|rw[if_neg (by omega)])))) (.cons (congrArg (fun z=>some (Value.int .i64 z)) (by first|(exfalso;omega)|(unfold iv;repeat (first|rw[if_pos (by omega)]|rw[if_neg (by omega)])))) (.cons (congrArg (fun z=>some (Value.int .i64 z)) (by first|(exfalso;omega)|(unfold wu;repeat (first|rw[if_pos (by omega)]|rw[if_neg (by omega)])))) (.nil)))))⟩
      ·refine aw rfl rfl rfl rfl (aw rfl rfl rfl rfl (aE rfl rfl rfl (ab (jD rfl (aT ?_)))));exact⟨rfl,rfl,rfl,.cons rfl (.cons rfl (.cons (congrArg (fun z=>some (Value.int .i64 z)) (by first|(exfalso;omega)|(unfold nO;repeat (first|rw[if_pos (by omega)]|rw[if_neg (by omega)])))) (.cons (congrArg (fun z=>some (Value.int .i64 z)) (by first|(exfalso;omega)|(unfold iv;repeat (first|rw[if_pos (by omega)]|rw[if_neg (by omega)])))) (.cons (congrArg (fun z=>some (Value.int .i64 z)) (by first|(exfalso;omega)|(unfold wu;repeat (first|rw[if_pos (by omega)]|rw[if_neg (by omega)])))) (.nil)))))⟩
    ·refine aw rfl rfl rfl rfl (aw rfl rfl rfl rfl (aE rfl rfl rfl (ab (jD rfl (aj (ae (ad rfl rfl (ef rfl rfl rfl (ad rfl rfl ?_)))))))));refine aS (g:=34) rfl (fun zd=>?_) (fun zd=>?_)
     ·refine al rfl rfl (ad rfl rfl (al rfl rfl (cg rfl rfl rfl (aZ rfl rfl rfl (ab ?_)))));refine bM rfl (fun UY=>?_) (fun UY=>?_)
      ·refine aj (ae (ah rfl rfl (ab (aj (ae (ah rfl rfl (ab (ae (ad rfl rfl (fv rfl rfl rfl (by omega) (ah rfl rfl ?_)))))))))));refine ab ?_;exact⟨rfl,rfl,rfl,.cons rfl (.cons rfl (.cons (congrArg (fun z=>some (Value.int .i64 z)) (by first|(exfalso;omega)|(unfold nO;repeat (first|rw[if_pos (by omega)]|rw[if_neg (by omega)])))) (.cons (congrArg (fun z=>some (Value.int .i64 z)) (by first|(exfalso;omega)|(unfold iv;repeat (first|rw[if_pos (by omega)]|rw[if_neg (by omega)])))) (.cons (congrArg (fun z=>some (Value.int .i64 z)) (by first|(exfalso;omega)|(unfold wu;repeat (first|rw[if_pos (by omega)]|rw[if_neg (by omega)])))) (.nil)))))⟩
      ·refine aT ?_;exact⟨rfl,rfl,rfl,.cons rfl (.cons rfl (.cons (congrArg (fun z=>some (Value.int .i64 z)) (by first|(exfalso;omega)|(unfold nO;repeat (first|rw[if_pos (by omega)]|rw[if_neg (by omega)])))) (.cons (congrArg (fun z=>some (Value.int .i64 z)) (by first|(exfalso;omega)|(unfold iv;repeat (first|rw[if_pos (by omega)]|rw[if_neg (by omega)])))) (.cons (congrArg (fun z=>some (Value.int .i64 z)) (by first|(exfalso;omega)|(unfold wu;repeat (first|rw[if_pos (by omega)]|rw[if_neg (by omega)])))) (.nil)))))⟩
     ·refine aw rfl rfl rfl rfl (aw rfl rfl rfl rfl (aE rfl rfl rfl (ab (jD rfl (aT ?_)))));exact⟨rfl,rfl,rfl,.cons rfl (.cons rfl (.cons (congrArg (fun z=>some (Value.int .i64 z)) (by first|(exfalso;omega)|(unfold nO;repeat (first|rw[if_pos (by omega)]|rw[if_neg (by omega)])))) (.cons (congrArg (fun z=>some (Value.int .i64 z)) (by first|(exfalso;omega)|(unfold iv;repeat (first|rw[if_pos (by omega)]|rw[if_neg (by omega)])))) (.cons (congrArg (fun z=>some (Value.int .i64 z)) (by first|(exfalso;omega)|(unfold wu;repeat (first|rw[if_pos (by omega)]|rw[if_neg (by omega)])))) (.nil)))))⟩
  ·refine aj (aj (ae (ad rfl rfl (tY rfl rfl rfl (ad rfl rfl ?_)))));refine aS (g:=42) rfl (fun Zi=>?_) (fun Zi=>?_)
   ·refine aw rfl rfl rfl rfl (aw rfl rfl rfl rfl (aw rfl rfl rfl rfl (aw rfl rfl rfl rfl (aZ rfl rfl rfl (ab (ot rfl (aj (ae (ah rfl rfl (ah rfl rfl (ab ?_)))))))))));refine aP ?_
    have hx:nO (ku l 0:Int)=0∨∃k:Nat,1≤k∧(k:Int)<nO (ku l 0:Int)∧kD l k=false:=by
     rw[←hc];by_cases h0:nO c=0
     ·exact .inl h0
     ·have hnc:=oK h0;exact .inr ⟨(nO c).toNat-1,by omega,by omega,dd.2 fun h=>by have:=(ie.1 h).1;omega⟩
    have e:dec l=(65533,1):=Iz (by omega) hx;exact fp rfl rfl rfl ⟨by rw[e];rfl,rfl⟩
   ·refine al rfl rfl (ad rfl rfl (al rfl rfl (Rg.nQ aK rfl rfl (aU (v':= .int .i64 (l.length:Int)) (by simp[ByteArray.size]) (al rfl rfl (ad rfl rfl (al rfl rfl (cg rfl rfl rfl (aE rfl rfl rfl (ab ?_))))))))));refine bM rfl (fun c19=>?_) (fun c19=>?_)
    ·refine aj (ae (ah rfl rfl (ah rfl rfl (ab (aP ?_)))))
     have hx:nO (ku l 0:Int)=0∨∃k:Nat,1≤k∧(k:Int)<nO (ku l 0:Int)∧kD l k=false:=by
      rw[←hc];by_cases h0:nO c=0
      ·exact .inl h0
      ·have hnc:=oK h0;exact .inr ⟨(nO c).toNat-1,by omega,by omega,dd.2 fun h=>by have:=(ie.1 h).1;omega⟩
     have e:dec l=(65533,1):=Iz (by omega) hx;exact fp rfl rfl rfl ⟨by rw[e];rfl,rfl⟩
    ·refine aT (aj (aj (ae (ah rfl rfl (ab (aY ?_))))));refine dh (σ:=Nat) (fun i=>[(0,.string ⟨l.toArray⟩),(5,.int .i64 (nO c)),(6,.int .i64 (iv c)),(7,.int .i64 (vO l (i-1))),(8,.int .i64 (i:Int))]) (fun i w=>w=w0∧1≤i∧(i:Int)≤nO c∧∀k:Nat,1≤k→k<i→kD l k=true) (fun i=>(nO c).toNat-i) 1 (.cons rfl (.cons rfl (.cons rfl (.cons (congrArg (fun z=>some (Value.int .i64 z)) (by show wu c=wu (ku l 0:Int);rw[hc])) (.cons rfl .nil))))) ?_ ?_
     ·exact⟨rfl,aR _,by have:=oK (c:=c) (by omega);omega,fun k h1 h2=>by omega⟩
     ·rintro i w ⟨rfl,yi,AG,hok⟩;have hnc:=oK (c:=c) (by omega)
      have hvr:0≤vO l (i-1)∧vO l (i-1)≤100000000:=by
       exact UX (l:=l) (c:=c) (k:=i-1) hc (by omega) (fun j h1 h2=>hok j h1 (by omega)) (by omega)
      refine aj (aj (ae (ad rfl rfl (ad rfl rfl (cg rfl rfl rfl (ab ?_))))));refine bM rfl (fun c22=>?_) (fun c22=>?_)
      ·refine aT (aj (aY (aj (ae (ad rfl rfl (ad rfl rfl ?_))))));have kE:i<l.length:=by omega
       refine Rg.Ix (c:=l.getD i 0) aK rfl rfl rfl (by omega) (by rw[aA,ay,ar kE];rfl) ?_;refine aU (v':= .int .u8 (ku l i:Int)) rfl ?_;have QB:=pC l i;refine Rg.vS cC ax rfl rfl (by omega) (ah rfl rfl (ab (aj (aj (ae (ad rfl rfl (cg rfl rfl rfl (ad rfl rfl ?_))))))));refine aS (g:=59) rfl (fun Zj=>?_) (fun Zj=>?_)
       ·refine aw rfl rfl rfl rfl (aw rfl rfl rfl rfl (aZ rfl rfl rfl (ab (ot rfl (aj (ae (ah rfl rfl (ah rfl rfl (ab (aP ?_))))))))))
        have hx:nO (ku l 0:Int)=0∨∃k:Nat,1≤k∧(k:Int)<nO (ku l 0:Int)∧kD l k=false:=by
         rw[←hc];exact .inr ⟨i,yi,by omega,dd.2 fun h=>by have:=ie.1 h;omega⟩
        have e:dec l=(65533,1):=Iz (by omega) hx;exact fp rfl rfl rfl ⟨by rw[e];rfl,rfl⟩
       ·refine al rfl rfl (ad rfl rfl (al rfl rfl (ef rfl rfl rfl (aE rfl rfl rfl (ab ?_)))));refine bM rfl (fun c25=>?_) (fun c25=>?_)
        ·refine aj (ae (ah rfl rfl (ah rfl rfl (ab (aP ?_)))))
         have hx:nO (ku l 0:Int)=0∨∃k:Nat,1≤k∧(k:Int)<nO (ku l 0:Int)∧kD l k=false:=by
          rw[←hc];exact .inr ⟨i,yi,by omega,dd.2 fun h=>by have:=ie.1 h;omega⟩
         have e:dec l=(65533,1):=Iz (by omega) hx;exact fp rfl rfl rfl ⟨by rw[e];rfl,rfl⟩
        ·refine aT (ae (ad rfl rfl (Rg.P9 rfl rfl rfl (by omega) (ad rfl rfl (bG rfl rfl rfl (by omega) (fv rfl rfl rfl (by omega) (ah rfl rfl (ab (ae (ad rfl rfl (bG rfl rfl rfl (by omega) ?_)))))))))));refine ah rfl rfl (ab ?_);refine⟨rfl,i+1,(.cons rfl (.cons rfl (.cons rfl (.cons (congrArg (fun z=>some (Value.int .i64 z)) (by obtain⟨q,rfl⟩:∃q,i=q+1:=⟨i-1,by omega⟩;rfl)) (.cons rfl .nil))))),?_,?_⟩
         ·exact⟨rfl,by omega,by omega,fun k h1 h2=>by
           rcases cE k i with h|h
           ·exact hok k h1 h
           ·obtain rfl:k=i:=by omega
            exact ie.2 (by omega)⟩
         ·omega
      ·refine cH (aj (aj (ae (ad rfl rfl (ad rfl rfl (cg rfl rfl rfl (ad rfl rfl ?_)))))));refine aS (g:=71) rfl (fun Zk=>?_) (fun Zk=>?_)
       ·refine aw rfl rfl rfl rfl (aw rfl rfl rfl rfl (aZ rfl rfl rfl (ad rfl rfl (aw rfl rfl rfl rfl (aw rfl rfl rfl rfl (aw rfl rfl rfl rfl (cu rfl rfl rfl (cu rfl rfl rfl (aw rfl rfl rfl rfl (aZ rfl rfl rfl (ab ?_)))))))))));refine ot rfl (aj (ae (ah rfl rfl (ah rfl rfl (ab (aP ?_))))));have e:=D6 (l:=l) (by rw[←hc];omega) (by rw[←hc];exact fun k h1 h2=>hok k h1 (by omega)) (vO l (i-1)) (by rw[←hc];congr 1;omega);rw[←hc,if_pos (by omega)]at e;exact fp rfl rfl rfl ⟨by rw[e];rfl,rfl⟩
       ·refine al rfl rfl (ad rfl rfl (al rfl rfl (jk rfl rfl rfl (aE rfl rfl rfl (ad rfl rfl ?_)))));refine aS (g:=75) rfl (fun Zl=>?_) (fun Zl=>?_)
        ·refine aw rfl rfl rfl rfl (aw rfl rfl rfl rfl (aw rfl rfl rfl rfl (cu rfl rfl rfl (cu rfl rfl rfl (aw rfl rfl rfl rfl (aZ rfl rfl rfl (ab (ot rfl (aj (ae (ah rfl rfl ?_)))))))))));refine ah rfl rfl (ab (aP ?_));have e:=D6 (l:=l) (by rw[←hc];omega) (by rw[←hc];exact fun k h1 h2=>hok k h1 (by omega)) (vO l (i-1)) (by rw[←hc];congr 1;omega);rw[←hc,if_pos (by omega)]at e;exact fp rfl rfl rfl ⟨by rw[e];rfl,rfl⟩
        ·refine al rfl rfl (ad rfl rfl (al rfl rfl (ef rfl rfl rfl (al rfl rfl (ad rfl rfl ?_)))));refine aS (g:=78) rfl (fun UZ=>?_) (fun UZ=>?_)
         ·refine al rfl rfl (ad rfl rfl (al rfl rfl (gQ rfl rfl rfl (al rfl rfl (aZ rfl rfl rfl (aE rfl rfl rfl (ab ?_)))))));refine bM rfl (fun c28=>?_) (fun c28=>?_)
          ·refine aj (ae (ah rfl rfl (ah rfl rfl (ab (aP ?_)))));have e:=D6 (l:=l) (by rw[←hc];omega) (by rw[←hc];exact fun k h1 h2=>hok k h1 (by omega)) (vO l (i-1)) (by rw[←hc];congr 1;omega);rw[←hc,if_pos (by omega)]at e;exact fp rfl rfl rfl ⟨by rw[e];rfl,rfl⟩
          ·refine aT (aj (ae (ad rfl rfl (ad rfl rfl (ah rfl rfl (ah rfl rfl (ab (aP ?_))))))));have e:=D6 (l:=l) (by rw[←hc];omega) (by rw[←hc];exact fun k h1 h2=>hok k h1 (by omega)) (vO l (i-1)) (by rw[←hc];congr 1;omega);rw[←hc,if_neg (by omega)]at e;exact fp rfl rfl rfl ⟨by rw[e];simp only[];rw[pb hvr.1,pb (by omega)],rfl⟩
         ·refine aw rfl rfl rfl rfl (aw rfl rfl rfl rfl (al rfl rfl (aE rfl rfl rfl (aE rfl rfl rfl (ab (jD rfl (aT (aj (ae (ad rfl rfl (ad rfl rfl ?_)))))))))));refine ah rfl rfl (ah rfl rfl (ab (aP ?_)));have e:=D6 (l:=l) (by rw[←hc];omega) (by rw[←hc];exact fun k h1 h2=>hok k h1 (by omega)) (vO l (i-1)) (by rw[←hc];congr 1;omega);rw[←hc,if_neg (by omega)]at e;exact fp rfl rfl rfl ⟨by rw[e];simp only[];rw[pb hvr.1,pb (by omega)],rfl⟩
theorem D8 {M:aD} {l:List UInt8} (w0:World) (hM:Lt M w0) (hl:l.length≤1000000):
  Spec Tryz.prog 251 #[.string ⟨l.toArray⟩] w0 (fun v w=>((RT.int .i64).sl).V M w (fw l) v∧Step M w0 M w aC):=by
 have jO:=hM;refine bg (args:=[_]) (fn:=Tryz.f251) Tryz.func251 rfl (n:=22) Tryz.ntmps251 ?_;have S:Step M w0 M w0 aC:=(au _ _).cB (fun _ h=>h.elim) (fun _ h=>h.elim);refine aj (ae (ah rfl rfl (ab (aj (ae (ah rfl rfl (ab (aj (aY ?_)))))))));refine dh (σ:=Nat×List Int×Value) (fun q=>[(0,.string ⟨(l.drop q.1).toArray⟩),(3,q.2.2)]) (fun q w=>∃M',Lt M' w∧Step M w0 M' w aC∧Own (RT.int .i64) 3 M' w w0.heap.size q.2.2 q.2.1∧fw l=q.2.1++fw (l.drop q.1)∧q.1≤l.length) (fun q=>l.length-q.1) (0,[],.slice none 0 0) (.cons rfl (.cons rfl .nil)) ?_ ?_
 ·exact⟨M,hM,S,dz _ _ _ _ _,by simp,by simp⟩
 ·rintro⟨p,xs,u⟩ w ⟨M1,hM,S,ho,ze,hp⟩;dsimp only at ho ze hp ⊢;refine aj (aj (ae (ad rfl rfl (Rg.nQ aK rfl rfl (aU (v':= .int .i64 ((l.drop p).length:Int)) (by simp[ByteArray.size]) (jk rfl rfl rfl (ab ?_)))))));refine bM rfl (fun c2=>?_) (fun c2=>?_)
  ·refine aT (aY (aj (ae (ad rfl rfl ?_))));have eN:l.drop p≠[]:=by intro h;rw[h]at c2;simp at c2
   have tS:p<l.length:=by have:=o9.2 eN;rw[dC]at this;omega
   have hwd:=mi eN;refine aX rfl rfl afl (Mc (l:=l.drop p) _ eN (by rw[dC];omega)) (fun r3 w3 hc=>?_);obtain⟨rfl,rfl⟩:=hc;refine ad rfl rfl (bW rfl rfl rfl (bW rfl rfl rfl (ah rfl rfl (ah rfl rfl (ab (aj (ae (ad rfl rfl (ad rfl rfl ?_)))))))));refine eu (A:=RT.int .i64) (hn:=by decide) (M:=M1) ao I3 (by decide) rfl rfl hM (gv (by have:=wi (l.drop p);omega)) (.inr ⟨rfl,rfl⟩) (fun Zm QC oL mQ=>?_);replace ho:=ho.aO mQ;replace hM:=mQ.lt hM;have:=S.size;replace S:=S.aB mQ;refine cV (M:=M1) (base:=w0.heap.size) ao I3 rfl rfl rfl rfl ho oL (aq _ _) (by simp;have:=je l;rw[ze]at this;simp at this;omega) (by simp;have:=je l;rw[ze]at this;simp at this;omega) (S.size) (fun U0 afs ap3 Zn U1=>?_);replace oL:=oL.le U1.le;replace hM:=U1.lt hM;have:=S.size;replace S:=S.cX U1 ho (aR _);replace ho:=Zn;refine ah rfl rfl (ab (ae (ad rfl rfl (ad rfl rfl (Rg.Qv aK rfl rfl rfl (by omega) (aU (v':= .string ⟨(l.drop (p+(dec (l.drop p)).2)).toArray⟩) (by rw[List.drop_drop];simp) (ah rfl rfl (ab ?_))))))));refine⟨rfl,(p+(dec (l.drop p)).2,xs++[((dec (l.drop p)).1:Int)],U0),(.cons rfl (.cons rfl .nil)),?_,?_⟩
   ·refine⟨afs,hM,S,ho,?_,?_⟩
    ·rw[ze,tA eN,List.drop_drop];simp
    ·have:=hwd.2;rw[dC]at this;dsimp only;omega
   ·have:=hwd.1;have:=hwd.2;rw[dC]at this;dsimp only;omega
  ·refine cH (aj (ae (ad rfl rfl (ah rfl rfl (ab (aP ?_))))));have e:fw l=xs:=by rw[ze,gX (by simp at c2;omega),wk];simp
   rw[e];have:=je l;rw[e]at this;exact aV rfl rfl ⟨ho.close jO S (by omega),S.back⟩
theorem sI {M:aD} {w:World} {x:Int} (h:0≤x∧x<256):RT.u8.V M w x.toNat.toUInt8 (.int .u8 (IntKind.u8.wrap x)):=by
 have e1:IntKind.u8.wrap x=x:=by
  show(if(false&&decide (x%256≥128))=true then x%256-256 else x%256)=x;rw[if_neg (by simp)];omega
 have e2:((x.toNat.toUInt8).toNat:Int)=x:=by
  have:x.toNat.toUInt8.toNat=x.toNat%256:=UInt8.toNat_ofNat' ..;omega
 rw[e1];exact⟨[.int .u8 x],by show _=_;rw[e2],rfl⟩
theorem aft {r:Int} (h:0≤r∧r<128):Lib.encodeRune r=[r.toNat.toUInt8]:=by rw[Lib.encodeRune,Lib.encodeRuneZ_one h.1 (by omega)];rfl
theorem afu {r:Int} (h:128≤r∧r<2048):Lib.encodeRune r=[(192+r/64).toNat.toUInt8,(128+r%64).toNat.toUInt8]:=by rw[Lib.encodeRune,Lib.encodeRuneZ_two h.1 (by omega)];rfl
theorem JU (c:Int):uB c<55296∨57343<uB c:=by
 unfold uB
 split
 ·omega
 ·rename_i h
  have h2:Lib.validRune c=true:=by
   cases hv:Lib.validRune c with
   |true=>rfl
   |false=>exact absurd (.inr (.inr hv)) h
  simp only[Lib.validRune,decide_eq_true_eq]at h2;omega
theorem afv {r:Int} (h:2048≤r∧r<65536) (h2:r<55296∨57343<r):Lib.encodeRune r=[(224+r/4096).toNat.toUInt8,(128+r/64%64).toNat.toUInt8,(128+r%64).toNat.toUInt8]:=by rw[Lib.encodeRune,Lib.encodeRuneZ_three (by omega)];rfl
theorem afw {r:Int} (h:65536≤r∧r≤1114111):Lib.encodeRune r=[(240+r/262144).toNat.toUInt8,(128+r/4096%64).toNat.toUInt8,(128+r/64%64).toNat.toUInt8,(128+r%64).toNat.toUInt8]:=by rw[Lib.encodeRune,Lib.encodeRuneZ_four h.1 h.2];rfl
theorem uC {c:Int} (h:c<0∨c>1114111∨(55296≤c∧c≤57343)):uB c=65533:=by
 rw[uB,if_pos];rcases h with h|h|h
 ·exact .inl h
 ·exact .inr (.inl h)
 ·refine .inr (.inr ?_);simp only[Lib.validRune,decide_eq_false_iff_not];omega
theorem qG {c:Int} (h: ¬(c<0∨c>1114111∨(55296≤c∧c≤57343))):uB c=c:=by
 rw[uB,if_neg];rintro(h1|h1|h1)
 ·omega
 ·omega
 ·simp only[Lib.validRune,decide_eq_false_iff_not]at h1;omega
theorem zf {M:aD} {xs:List Int} {v0:Value} (w0:World) (hM:Lt M w0) (hv:((RT.int .i64).sl).V M w0 xs v0) (hl:xs.length≤1000000):
  Spec Tryz.prog 254 #[v0] w0 (fun v w=>v= .string ⟨(kT xs).toArray⟩∧Step M w0 M w aC):=by
 have jO:=hM;refine bg (args:=[_]) (fn:=Tryz.f254) Tryz.func254 rfl (n:=91) Tryz.ntmps254 ?_;have S:Step M w0 M w0 aC:=(au _ _).cB (fun _ h=>h.elim) (fun _ h=>h.elim);refine aj (ae (ah rfl rfl (ab (aj (ae (ah rfl rfl (ab (aj (aj (ae (ah rfl rfl ?_)))))))))));refine ab (aY ?_);refine dh (σ:=Nat×Value) (fun q=>[(0,v0),(3,q.2),(4,.int .i64 (q.1:Int))]) (fun q w=>∃M',Lt M' w∧Step M w0 M' w aC∧Own RT.u8 5 M' w w0.heap.size q.2 (kT (xs.take q.1))∧((RT.int .i64).sl).V M' w xs v0∧q.1≤xs.length) (fun q=>xs.length-q.1) (0,.slice none 0 0) (.cons rfl (.cons rfl (.cons rfl .nil))) ?_ ?_
 ·exact⟨M,hM,S,dz _ _ _ _ _,hv,bD _⟩
 ·rintro⟨k,u⟩ w ⟨M1,hM,S,ho,hv,hk⟩;dsimp only at ho hk ⊢;refine aj (aj (ae (ad rfl rfl (ad rfl rfl (bN ao rfl hv rfl (cg rfl rfl rfl (ab ?_)))))));refine bM rfl (fun c3=>?_) (fun c3=>?_)
  ·refine aT (aj (aY (aj (ae (ad rfl rfl (ad rfl rfl ?_))))));refine cv (M:=M1) ao I3 rfl rfl rfl hv (aq _ _) (by omega) (fun u5 c JV D9=>?_);refine cd (M:=M1) ax rfl rfl D9 (aq _ _) (fun in5=>?_);have tk:xs.take (k+1)=xs.take k++[c]:=by rw[bI];simp only[ay]at JV;rw[JV];rfl
   have hsr:=Iy c;have hsc:=JU c;refine ah rfl rfl (ab ?_);refine T.ym [(0,v0),(3,u),(4,.int .i64 (k:Int)),(5,.int .i64 (uB c))] ?_ ?_
   ·refine aj (ae (ad rfl rfl (cg rfl rfl rfl (ad rfl rfl ?_))));refine aS (g:=18) rfl (fun U2=>?_) (fun U2=>?_)
    ·refine aw rfl rfl rfl rfl (aw rfl rfl rfl rfl (aZ rfl rfl rfl (ad rfl rfl (aw rfl rfl rfl rfl (aw rfl rfl rfl rfl (aw rfl rfl rfl rfl (cu rfl rfl rfl (cu rfl rfl rfl (aw rfl rfl rfl rfl (aZ rfl rfl rfl (ab ?_)))))))))));refine ot rfl (ae (ah rfl rfl (ab ?_)));exact⟨rfl,rfl,rfl,.cons rfl (.cons rfl (.cons rfl (.cons (congrArg (fun z=>some (Value.int .i64 z)) (by first|exact(uC (by omega)).symm|exact(qG (by omega)).symm)) (.nil))))⟩
    ·refine al rfl rfl (ad rfl rfl (al rfl rfl (jk rfl rfl rfl (aE rfl rfl rfl (ad rfl rfl ?_)))));refine aS (g:=22) rfl (fun afx=>?_) (fun afx=>?_)
     ·refine aw rfl rfl rfl rfl (aw rfl rfl rfl rfl (aw rfl rfl rfl rfl (cu rfl rfl rfl (cu rfl rfl rfl (aw rfl rfl rfl rfl (aZ rfl rfl rfl (ab (ot rfl (ae (ah rfl rfl (ab ?_)))))))))));exact⟨rfl,rfl,rfl,.cons rfl (.cons rfl (.cons rfl (.cons (congrArg (fun z=>some (Value.int .i64 z)) (by first|exact(uC (by omega)).symm|exact(qG (by omega)).symm)) (.nil))))⟩
     ·refine al rfl rfl (ad rfl rfl (al rfl rfl (ef rfl rfl rfl (al rfl rfl (ad rfl rfl ?_)))));refine aS (g:=25) rfl (fun afy=>?_) (fun afy=>?_)
      ·refine al rfl rfl (ad rfl rfl (al rfl rfl (gQ rfl rfl rfl (al rfl rfl (aZ rfl rfl rfl (aE rfl rfl rfl (ab ?_)))))));refine bM rfl (fun c6=>?_) (fun c6=>?_)
       ·refine ae (ah rfl rfl (ab ?_));exact⟨rfl,rfl,rfl,.cons rfl (.cons rfl (.cons rfl (.cons (congrArg (fun z=>some (Value.int .i64 z)) (by first|exact(uC (by omega)).symm|exact(qG (by omega)).symm)) (.nil))))⟩
       ·refine aT ?_;exact⟨rfl,rfl,rfl,.cons rfl (.cons rfl (.cons rfl (.cons (congrArg (fun z=>some (Value.int .i64 z)) (by first|exact(uC (by omega)).symm|exact(qG (by omega)).symm)) (.nil))))⟩
      ·refine aw rfl rfl rfl rfl (aw rfl rfl rfl rfl (al rfl rfl (aE rfl rfl rfl (aE rfl rfl rfl (ab (jD rfl (aT ?_)))))));exact⟨rfl,rfl,rfl,.cons rfl (.cons rfl (.cons rfl (.cons (congrArg (fun z=>some (Value.int .i64 z)) (by first|exact(uC (by omega)).symm|exact(qG (by omega)).symm)) (.nil))))⟩
   ·refine aj (ae (ad rfl rfl (cg rfl rfl rfl (ab ?_))));refine bM rfl (fun c8=>?_) (fun c8=>?_)
    ·refine ae (ad rfl rfl (ad rfl rfl (td ax cC rfl rfl ?_)));refine eu (A:=RT.u8) (hn:=by decide) (M:=M1) bP I5 (by decide) rfl rfl hM (sI (by omega)) (.inr ⟨rfl,rfl⟩) (fun ap5 Zo Me qH=>?_);replace hv:=hv.le qH.le;replace ho:=ho.aO qH;replace hM:=qH.lt hM;have:=S.size;replace S:=S.aB qH;refine cV (M:=M1) (base:=w0.heap.size) bP I5 rfl rfl rfl rfl ho Me (aq _ _) (by have:=gE (xs.take k);rw[br]at this;simp;omega) (by have:=gE (xs.take k);rw[br]at this;simp;omega) (S.size) (fun Zp afz afA Zq AR=>?_);replace hv:=hv.le AR.le;replace Me:=Me.le AR.le;replace hM:=AR.lt hM;have:=S.size;replace S:=S.cX AR ho (aR _);replace ho:=Zq;refine ah rfl rfl (ab (ae (ad rfl rfl (bG rfl rfl rfl (by omega) (ah rfl rfl (ab ?_))))));refine⟨rfl,(k+1,Zp),(.cons rfl (.cons rfl (.cons rfl .nil))),?_,?_⟩
     ·exact⟨afz,hM,S,by rw[tk,mO,aft (by omega)];exact ho,hv,by dsimp only;omega⟩
     ·dsimp only;omega
    ·refine aj (ae (ad rfl rfl (cg rfl rfl rfl (ab ?_))));refine bM rfl (fun c10=>?_) (fun c10=>?_)
     ·refine ae (ad rfl rfl (ad rfl rfl (Rg.AL rfl rfl rfl (by omega) (bG rfl rfl rfl (by omega) (td ax cC rfl rfl (ad rfl rfl (Rg.AM rfl rfl rfl (by omega) (bG rfl rfl rfl (by omega) (td ax cC rfl rfl ?_)))))))));refine Rg.Sk (A:=RT.u8) (hn:=by decide) (M:=M1) (xs:=[(192+uB c/64).toNat.toUInt8,(128+uB c%64).toNat.toUInt8]) bP I5 rfl (by decide) rfl ⟨_,_,_,rfl,rfl,rfl,sI (by omega),_,_,_,rfl,rfl,rfl,sI (by omega),rfl⟩ rfl hM (.inr ⟨rfl,rfl⟩) (by decide) (fun alW alX GW IA=>?_);replace hv:=hv.le IA.le;replace ho:=ho.aO IA;replace hM:=IA.lt hM;have:=S.size;replace S:=S.aB IA;refine cV (M:=M1) (base:=w0.heap.size) bP I5 rfl rfl rfl rfl ho GW (aq _ _) (by have:=gE (xs.take k);rw[br]at this;simp;omega) (by have:=gE (xs.take k);rw[br]at this;simp;omega) (S.size) (fun Mf U3 U4 QD lN=>?_);replace hv:=hv.le lN.le;replace GW:=GW.le lN.le;replace hM:=lN.lt hM;have:=S.size;replace S:=S.cX lN ho (aR _);replace ho:=QD;refine ah rfl rfl (ab (ae (ad rfl rfl (bG rfl rfl rfl (by omega) (ah rfl rfl (ab ?_))))));refine⟨rfl,(k+1,Mf),(.cons rfl (.cons rfl (.cons rfl .nil))),?_,?_⟩
      ·exact⟨U3,hM,S,by rw[tk,mO,afu (by omega)];exact ho,hv,by dsimp only;omega⟩
      ·dsimp only;omega
     ·refine aj (ae (ad rfl rfl (cg rfl rfl rfl (ab ?_))));refine bM rfl (fun U5=>?_) (fun U5=>?_)
      ·refine ae (ad rfl rfl (ad rfl rfl (Rg.AL rfl rfl rfl (by omega) (bG rfl rfl rfl (by omega) (td ax cC rfl rfl (ad rfl rfl (Rg.AL rfl rfl rfl (by omega) (Rg.AM rfl rfl rfl (by omega) (bG rfl rfl rfl (by omega) (td ax cC rfl rfl (ad rfl rfl ?_)))))))))));refine Rg.AM rfl rfl rfl (by omega) (bG rfl rfl rfl (by omega) (td ax cC rfl rfl ?_));refine Rg.Sk (A:=RT.u8) (hn:=by decide) (M:=M1) (xs:=[(224+uB c/4096).toNat.toUInt8,(128+uB c/64%64).toNat.toUInt8,(128+uB c%64).toNat.toUInt8]) bP I5 rfl (by decide) rfl ⟨_,_,_,rfl,rfl,rfl,sI (by omega),_,_,_,rfl,rfl,rfl,sI (by omega),_,_,_,rfl,rfl,rfl,sI (by omega),rfl⟩ rfl hM (.inr ⟨rfl,rfl⟩) (by decide) (fun afC afD Cv Cw=>?_);replace hv:=hv.le Cw.le;replace ho:=ho.aO Cw;replace hM:=Cw.lt hM;have:=S.size;replace S:=S.aB Cw;refine cV (M:=M1) (base:=w0.heap.size) bP I5 rfl rfl rfl rfl ho Cv (aq _ _) (by have:=gE (xs.take k);rw[br]at this;simp;omega) (by have:=gE (xs.take k);rw[br]at this;simp;omega) (S.size) (fun U6 U7 afE QE Cx=>?_);replace hv:=hv.le Cx.le;replace Cv:=Cv.le Cx.le;replace hM:=Cx.lt hM;have:=S.size;replace S:=S.cX Cx ho (aR _);replace ho:=QE;refine ah rfl rfl (ab (ae (ad rfl rfl (bG rfl rfl rfl (by omega) (ah rfl rfl (ab ?_))))));refine⟨rfl,(k+1,U6),(.cons rfl (.cons rfl (.cons rfl .nil))),?_,?_⟩
       ·exact⟨U7,hM,S,by rw[tk,mO,afv (by omega) hsc];exact ho,hv,by dsimp only;omega⟩
       ·dsimp only;omega
      ·refine ae (ad rfl rfl (ad rfl rfl (Rg.AL rfl rfl rfl (by omega) (bG rfl rfl rfl (by omega) (td ax cC rfl rfl (ad rfl rfl (Rg.AL rfl rfl rfl (by omega) (Rg.AM rfl rfl rfl (by omega) (bG rfl rfl rfl (by omega) (td ax cC rfl rfl (ad rfl rfl ?_)))))))))));refine Rg.AL rfl rfl rfl (by omega) (Rg.AM rfl rfl rfl (by omega) (bG rfl rfl rfl (by omega) (td ax cC rfl rfl (ad rfl rfl (Rg.AM rfl rfl rfl (by omega) (bG rfl rfl rfl (by omega) (td ax cC rfl rfl ?_)))))));refine Rg.Sk (A:=RT.u8) (hn:=by decide) (M:=M1) (xs:=[(240+uB c/262144).toNat.toUInt8,(128+uB c/4096%64).toNat.toUInt8,(128+uB c/64%64).toNat.toUInt8,(128+uB c%64).toNat.toUInt8]) bP I5 rfl (by decide) rfl ⟨_,_,_,rfl,rfl,rfl,sI (by omega),_,_,_,rfl,rfl,rfl,sI (by omega),_,_,_,rfl,rfl,rfl,sI (by omega),_,_,_,rfl,rfl,rfl,sI (by omega),rfl⟩ rfl hM (.inr ⟨rfl,rfl⟩) (by decide) (fun afF afG Cy Cz=>?_);replace hv:=hv.le Cz.le;replace ho:=ho.aO Cz;replace hM:=Cz.lt hM;have:=S.size;replace S:=S.aB Cz;refine cV (M:=M1) (base:=w0.heap.size) bP I5 rfl rfl rfl rfl ho Cy (aq _ _) (by have:=gE (xs.take k);rw[br]at this;simp;omega) (by have:=gE (xs.take k);rw[br]at this;simp;omega) (S.size) (fun U8 U9 afH QF CA=>?_);replace hv:=hv.le CA.le;replace Cy:=Cy.le CA.le;replace hM:=CA.lt hM;have:=S.size;replace S:=S.cX CA ho (aR _);replace ho:=QF;refine ah rfl rfl (ab (ae (ad rfl rfl (bG rfl rfl rfl (by omega) (ah rfl rfl (ab ?_))))));refine⟨rfl,(k+1,U8),(.cons rfl (.cons rfl (.cons rfl .nil))),?_,?_⟩
       ·exact⟨U9,hM,S,by rw[tk,mO,afw (by omega)];exact ho,hv,by dsimp only;omega⟩
       ·dsimp only;omega
  ·refine cH (aj (ae (ad rfl rfl (Rg.b2s (hn:=by decide) (M:=M) bP cC aK rfl rfl (ho.close jO S (by have:=gE (xs.take k);rw[br]at this;omega)) (aq _ _) (ah rfl rfl (ab (aP ?_)))))));have e:xs.take k=xs:=aW (by omega);rw[e];exact aV rfl rfl ⟨rfl,S.back⟩
end Go.K
namespace Go.K
open Go.Proofs
set_option maxRecDepth 10000
theorem GX {M:aD} {l:List UInt8} (w0:World) (hM:Lt M w0) (hl:l.length≤1000000):
  Spec Tryz.prog 229 #[.string ⟨l.toArray⟩] w0 (fun v w=>((RT.int .i64).sl).V M w (fw l) v∧Step M w0 M w aC):=by
 have jO:=hM;refine bg (args:=[_]) (fn:=Tryz.f229) Tryz.func229 rfl (n:=17) Tryz.ntmps229 ?_;have S:Step M w0 M w0 aC:=(au _ _).cB (fun _ h=>h.elim) (fun _ h=>h.elim);refine aj (ae (ah rfl rfl (ab (aj (ae (ah rfl rfl (ab (aj (aj (ae (ad rfl rfl ?_)))))))))));refine Rg.L6 M aK rfl rfl (fun Mh ap6 ap7 ap8 afI Va=>?_);obtain⟨SH,Mi⟩:∃M',M'=ins M Mh:=⟨_,rfl⟩;rw[←Mi]at Va;have Vb:SH Mh:=by rw[Mi];exact .inl rfl
 replace hM:=Va.lt hM;have:=S.size;replace S:=S.aB Va;refine ab (aY ?_);refine dh (σ:=Nat×List Int×Value) (fun q=>[(3,q.2.2),(7,.pointer (some ⟨Mh,0,none⟩))]) (fun q w=>∃M',Lt M' w∧Step M w0 M' w aC∧w.heap[Mh]? =some (.stringIter ⟨l.toArray⟩ q.1)∧M' Mh∧Own (RT.int .i64) 3 M' w w0.heap.size q.2.2 q.2.1∧fw l=q.2.1++fw (l.drop q.1)∧q.1≤l.length) (fun q=>l.length-q.1) (0,[],.slice none 0 0) (.cons rfl (.cons rfl .nil)) ?_ ?_
 ·exact⟨SH,hM,S,afI,Vb,dz _ _ _ _ _,by simp,by simp⟩
 ·rintro⟨p,xs,u⟩ w ⟨M1,hM,S,g,Bw,ho,ze,hp⟩;dsimp only at g ho ze hp ⊢;refine aj (ae ?_);refine Rg.Qu (M:=M1) rfl g Bw rfl (fun afJ ap9 afK Mj=>?_) (fun afJ=>?_)
  ·have:=ak g;replace Bw:=(Mj.mem _ this).2 Bw;replace ho:=ho.step Mj (fun b hb hk=>ho.ep g (hk▸hb));replace hM:=Mj.lt hM;have:=S.size;replace S:=S.trans Mj (fun k hk h=>by have h:_=_:=h;subst h;first|(exfalso;omega)|(show _≤_;omega)|exact⟨by first|omega|assumption,(S.mem _ hk).1 ((Mj.mem _ (ak g)).1 Bw)⟩|exact .inl rfl|exact .inr rfl|exact .inr (.inl rfl)|exact .inr (.inr rfl)|exact .inr (.inr (.inl rfl))|exact rfl);have g_:=afK;clear g;have g:=g_;clear g_;refine bW rfl rfl rfl (ab (aj (ot rfl (aT (aY (aj (ae (bW rfl rfl rfl (ah rfl rfl (ab (ae ?_)))))))))));refine ad rfl rfl (ad rfl rfl (Rg.vS Tryz.underlying21 ax rfl rfl (by have:=wi (l.drop p);omega) ?_));refine eu (A:=RT.int .i64) (hn:=by decide) (M:=M1) ao I3 (by decide) rfl rfl hM (gv (by have:=wi (l.drop p);omega)) (.inr ⟨rfl,rfl⟩) (fun afL Zr IB xY=>?_);have:=ak g;replace Bw:=(xY.mem _ this).2 Bw;replace g:=xY.aL g;replace ho:=ho.aO xY;replace hM:=xY.lt hM;have:=S.size;replace S:=S.aB xY;refine cV (M:=M1) (base:=w0.heap.size) ao I3 rfl rfl rfl rfl ho IB (aq _ _) (by simp;have:=je l;rw[ze]at this;simp at this;omega) (by simp;have:=je l;rw[ze]at this;simp at this;omega) (S.size) (fun afM afN aqa Zs Mk=>?_);have:=ak g;replace Bw:=(Mk.mem _ this).2 Bw;replace g:=Mk.keep g (fun h=>by first|exact ho.ep g h|exact ho.eS g (by decide) h|(have:=(ho.base _ h).1;omega));replace IB:=IB.le Mk.le;replace hM:=Mk.lt hM;have:=S.size;replace S:=S.cX Mk ho (aR _);replace ho:=Zs;refine ah rfl rfl (ab ?_);have eN:l.drop p≠[]:=by intro h;have:=congrArg List.length h;simp at this;omega
   refine⟨rfl,(p+(dec (l.drop p)).2,xs++[((dec (l.drop p)).1:Int)],afM),(.cons rfl (.cons rfl .nil)),?_,?_⟩
   ·refine⟨afN,hM,S,g,Bw,ho,?_,?_⟩
    ·rw[ze,tA eN,List.drop_drop];simp
    ·have:=(mi eN).2;rw[dC]at this;dsimp only;omega
   ·have:=(mi eN).1;have:=(mi eN).2;rw[dC]at this;dsimp only;omega
  ·refine bW rfl rfl rfl (ab (aj (jD rfl (cH (aj (ae (ad rfl rfl (ah rfl rfl (ab (aP ?_))))))))));have e:fw l=xs:=by rw[ze,gX (by omega),wk];simp
   rw[e];have:=je l;rw[e]at this;exact aV rfl rfl ⟨ho.close jO S (by omega),S.back⟩
def gw (p:List Int×List (List UInt8)) (c:Int):List Int×List (List UInt8):=
 if fM c=true∨pE c=true then(p.1++[fO c],p.2)else if 0<p.1.length then([],p.2++[kT p.1])else([],p.2)
structure Ml (M:aD) (w:World) (B bo bs:Nat) (p:List Int×List (List UInt8)):Prop where
 a:∃u,w.heap[bo]? =some (.cells #[u] 37 (0,0))∧Own (RT.int .i64) 3 M w B u p.1
 b:∃u,w.heap[bs]? =some (.cells #[u] 57 (0,0))∧Own RT.str 9 M w B u p.2
 m:M bo∧M bs∧B≤bo∧B≤bs
theorem qI {c:Int} (h:fM c=true∨pE c=true):0≤c∧c≤1114111:=by
 simp only[fM,pE,decide_eq_true_eq]at h;omega
theorem zi {M:aD} {B bo bs:Nat} {p:List Int×List (List UInt8)} (w0:World) (hM:Lt M w0) (c:Int) (ht:Ml M w0 B bo bs p) (hl:p.1.length≤1000000∧p.2.length≤1000000):
  Spec Tryz.prog 224 #[.int .i64 c,.pointer (some ⟨bo,0,none⟩),.pointer (some ⟨bs,0,none⟩)] w0 (fun v w=>∃M',Lt M' w∧Ml M' w B bo bs (gw p c)∧Step M w0 M' w (l1 M B)):=by
 obtain⟨⟨uo,go,ho⟩,⟨us,gs,hs⟩,im,iZ,Ya,Yb⟩:=ht;obtain⟨own,out⟩:=p;dsimp only at ho hs hl ⊢;have eN:bo≠bs:=fun e=>by subst e;rw[go]at gs;cases gs
 refine bg (args:=[_,_,_]) (fn:=Tryz.f224) Tryz.func224 rfl (n:=23) Tryz.ntmps224 ?_;have S:Step M w0 M w0 (l1 M B):=(au _ _).cB (fun _ h=>h.elim) (fun _ h=>h.2);refine aj (aj (ae (ad rfl rfl ?_)));refine aX rfl rfl ae8 (D3 _ _) (fun r wc hc=>?_);obtain⟨rfl,rfl⟩:=hc;refine aU (v':= .bool (decide (fM c=true))) (by cases fM c<;>rfl) (ad rfl rfl ?_);refine aS (g:=6) rfl (fun afO=>?_) (fun afO=>?_)
 ·refine aw rfl rfl rfl rfl (aw rfl rfl rfl rfl (aZ rfl rfl rfl (ab (ot rfl (aj ?_)))));apply T.oG 2 [0] 2 aC mixed rfl rfl rfl rfl;intro Gf Mm;have mj:=Mm M;have:=ak go;replace im:=(mj.mem _ this).2 im;replace go:=mj.aL go;have:=ak gs;replace iZ:=(mj.mem _ this).2 iZ;replace gs:=mj.aL gs;replace ho:=ho.aO mj;replace hs:=hs.aO mj;replace hM:=mj.lt hM;have:=S.size;replace S:=S.aB mj;refine aN ao rfl rfl rfl (by first|assumption|exact de mj (by assumption)) rfl ?_;refine ab ⟨rfl,rfl,rfl,?_⟩;refine ad rfl rfl ?_;refine ab ⟨rfl,rfl,rfl,?_⟩;refine eD ?_;refine⟨ik ⟨ey rfl (by assumption) (by first|assumption|exact fun h=>h|(intro h;have h:_=_:=h;omega)),trivial⟩,?_⟩;have kp:=jl aC Gf;have GY:fM c=true∨pE c=true:=by first|exact .inl (by assumption)|exact .inr (by assumption)
  refine aX rfl rfl Zb (Bt c _ (qI GY)) (fun r wc hc=>?_);obtain⟨rfl,rfl⟩:=hc;refine(fun(kp:eJ _ _ _)=>ab ⟨rfl,rfl,fun _=>kp,?_⟩) (by first|exact kp|exact kp.ry (by assumption)|exact kp.goN (by assumption)|exact kp.go (by assumption) (fun _ _ h=>by first|exact h|exact h.elim));refine eu (A:=RT.int .i64) (hn:=by decide) (M:=M) ao I3 (by decide) rfl rfl hM (gv (by have:=qI GY;unfold fO;split<;>omega)) (.inr ⟨rfl,rfl⟩) (fun QG JW kU s1_3=>?_);have:=ak go;replace im:=(s1_3.mem _ this).2 im;replace go:=s1_3.aL go;have:=ak gs;replace iZ:=(s1_3.mem _ this).2 iZ;replace gs:=s1_3.aL gs;replace ho:=ho.aO s1_3;replace hs:=hs.aO s1_3;replace hM:=s1_3.lt hM;have:=S.size;replace S:=S.aB s1_3;refine(fun(kp:eJ _ _ _)=>ab ⟨rfl,rfl,fun _=>kp,?_⟩) (by first|exact kp|exact kp.ry (by assumption)|exact kp.goN (by assumption)|exact kp.go (by assumption) (fun _ _ h=>by first|exact h|exact h.elim));refine cV (M:=M) (base:=B) ao I3 rfl rfl rfl rfl ho kU (aq _ _) (by simp;omega) (by simp;omega) (by have:=ak go;omega) (fun Vc Mn Vd Mo mS=>?_);have:=ak go;replace im:=(mS.mem _ this).2 im;replace go:=mS.keep go (fun h=>by first|exact ho.ep go h|exact ho.eS go (by decide) h|(have:=(ho.base _ h).1;omega));have:=ak gs;replace iZ:=(mS.mem _ this).2 iZ;replace gs:=mS.keep gs (fun h=>by first|exact ho.ep gs h|exact ho.eS gs (by decide) h|(have:=(ho.base _ h).1;omega));replace kU:=kU.le mS.le;replace hs:=hs.step mS (fun b h1 h2=>hs.dw ho (by decide) h1 h2);replace hM:=mS.lt hM;have:=S.size;replace S:=S.trans mS (fun b hb h=>⟨(ho.base b h).1,(S.mem b hb).1 (ho.mut_ b h)⟩);replace ho:=Mo;refine ab ⟨rfl,rfl,fun h=>absurd rfl h,?_⟩;refine cw (M:=Mn) jY rfl rfl go rfl ((by obtain⟨_,_,he,_⟩:=ho.isSlice;rw[he];rfl)) im (fun Ve pF pG=>?_);change Ve.heap[_]? =some (Obj.cells #[Vc] _ _)at pF
  have:=ak go;replace im:=(pG.mem _ this).2 im;have:=ak gs;replace iZ:=(pG.mem _ this).2 iZ;replace gs:=pG.keep gs (fun hk=>by have hk:_=_:=hk;omega);replace kU:=kU.le pG.le;replace ho:=ho.step pG (fun b hb hk=>by have hk:b=_:=hk;subst hk;first|exact absurd hb (ho.eS go (by decide))|exact absurd hb (ho.eS gs (by decide)));replace hs:=hs.step pG (fun b hb hk=>by have hk:b=_:=hk;subst hk;first|exact absurd hb (hs.eS go (by decide))|exact absurd hb (hs.eS gs (by decide)));replace hM:=pG.lt hM;have:=S.size;replace S:=S.trans pG (fun k hk h=>by have h:_=_:=h;subst h;first|(exfalso;omega)|(show _≤_;omega)|exact⟨by first|omega|assumption,(S.mem _ hk).1 ((pG.mem _ (ak go)).1 im)⟩|exact .inl rfl|exact .inr rfl|exact .inr (.inl rfl)|exact .inr (.inr rfl)|exact .inr (.inr (.inl rfl))|exact rfl);have Mp:=pF;clear go;have go:=Mp;clear Mp;refine ab ⟨rfl,rfl,fun h=>absurd rfl h,?_⟩;refine lJ (aP ?_);rw[show gw (own,out) c=(own++[fO c],out)from if_pos GY];exact DD rfl ⟨Mn,hM,⟨⟨_,go,ho⟩,⟨_,gs,hs⟩,im,iZ,Ya,Yb⟩,S⟩
 ·refine al rfl rfl (ad rfl rfl (al rfl rfl ?_));refine aX rfl rfl ae9 (GP _ _) (fun r wc hc=>?_);obtain⟨rfl,rfl⟩:=hc;refine aU (v':= .bool (decide (pE c=true))) (by cases pE c<;>rfl) (aE rfl rfl rfl (ab ?_));refine bM rfl (fun c0=>?_) (fun c0=>?_)
  ·refine aj ?_;apply T.oG 2 [0] 2 aC mixed rfl rfl rfl rfl;intro Gf Mm;have mj:=Mm M;have:=ak go;replace im:=(mj.mem _ this).2 im;replace go:=mj.aL go;have:=ak gs;replace iZ:=(mj.mem _ this).2 iZ;replace gs:=mj.aL gs;replace ho:=ho.aO mj;replace hs:=hs.aO mj;replace hM:=mj.lt hM;have:=S.size;replace S:=S.aB mj;refine aN ao rfl rfl rfl (by first|assumption|exact de mj (by assumption)) rfl ?_;refine ab ⟨rfl,rfl,rfl,?_⟩;refine ad rfl rfl ?_;refine ab ⟨rfl,rfl,rfl,?_⟩;refine eD ?_;refine⟨ik ⟨ey rfl (by assumption) (by first|assumption|exact fun h=>h|(intro h;have h:_=_:=h;omega)),trivial⟩,?_⟩;have kp:=jl aC Gf;have GY:fM c=true∨pE c=true:=by first|exact .inl (by assumption)|exact .inr (by assumption)
   refine aX rfl rfl Zb (Bt c _ (qI GY)) (fun r wc hc=>?_);obtain⟨rfl,rfl⟩:=hc;refine(fun(kp:eJ _ _ _)=>ab ⟨rfl,rfl,fun _=>kp,?_⟩) (by first|exact kp|exact kp.ry (by assumption)|exact kp.goN (by assumption)|exact kp.go (by assumption) (fun _ _ h=>by first|exact h|exact h.elim));refine eu (A:=RT.int .i64) (hn:=by decide) (M:=M) ao I3 (by decide) rfl rfl hM (gv (by have:=qI GY;unfold fO;split<;>omega)) (.inr ⟨rfl,rfl⟩) (fun QG JW kU s1_3=>?_);have:=ak go;replace im:=(s1_3.mem _ this).2 im;replace go:=s1_3.aL go;have:=ak gs;replace iZ:=(s1_3.mem _ this).2 iZ;replace gs:=s1_3.aL gs;replace ho:=ho.aO s1_3;replace hs:=hs.aO s1_3;replace hM:=s1_3.lt hM;have:=S.size;replace S:=S.aB s1_3;refine(fun(kp:eJ _ _ _)=>ab ⟨rfl,rfl,fun _=>kp,?_⟩) (by first|exact kp|exact kp.ry (by assumption)|exact kp.goN (by assumption)|exact kp.go (by assumption) (fun _ _ h=>by first|exact h|exact h.elim));refine cV (M:=M) (base:=B) ao I3 rfl rfl rfl rfl ho kU (aq _ _) (by simp;omega) (by simp;omega) (by have:=ak go;omega) (fun Vc Mn Vd Mo mS=>?_);have:=ak go;replace im:=(mS.mem _ this).2 im;replace go:=mS.keep go (fun h=>by first|exact ho.ep go h|exact ho.eS go (by decide) h|(have:=(ho.base _ h).1;omega));have:=ak gs;replace iZ:=(mS.mem _ this).2 iZ;replace gs:=mS.keep gs (fun h=>by first|exact ho.ep gs h|exact ho.eS gs (by decide) h|(have:=(ho.base _ h).1;omega));replace kU:=kU.le mS.le;replace hs:=hs.step mS (fun b h1 h2=>hs.dw ho (by decide) h1 h2);replace hM:=mS.lt hM;have:=S.size;replace S:=S.trans mS (fun b hb h=>⟨(ho.base b h).1,(S.mem b hb).1 (ho.mut_ b h)⟩);replace ho:=Mo;refine ab ⟨rfl,rfl,fun h=>absurd rfl h,?_⟩;refine cw (M:=Mn) jY rfl rfl go rfl ((by obtain⟨_,_,he,_⟩:=ho.isSlice;rw[he];rfl)) im (fun Ve pF pG=>?_);change Ve.heap[_]? =some (Obj.cells #[Vc] _ _)at pF
   have:=ak go;replace im:=(pG.mem _ this).2 im;have:=ak gs;replace iZ:=(pG.mem _ this).2 iZ;replace gs:=pG.keep gs (fun hk=>by have hk:_=_:=hk;omega);replace kU:=kU.le pG.le;replace ho:=ho.step pG (fun b hb hk=>by have hk:b=_:=hk;subst hk;first|exact absurd hb (ho.eS go (by decide))|exact absurd hb (ho.eS gs (by decide)));replace hs:=hs.step pG (fun b hb hk=>by have hk:b=_:=hk;subst hk;first|exact absurd hb (hs.eS go (by decide))|exact absurd hb (hs.eS gs (by decide)));replace hM:=pG.lt hM;have:=S.size;replace S:=S.trans pG (fun k hk h=>by have h:_=_:=h;subst h;first|(exfalso;omega)|(show _≤_;omega)|exact⟨by first|omega|assumption,(S.mem _ hk).1 ((pG.mem _ (ak go)).1 im)⟩|exact .inl rfl|exact .inr rfl|exact .inr (.inl rfl)|exact .inr (.inr rfl)|exact .inr (.inr (.inl rfl))|exact rfl);have Mp:=pF;clear go;have go:=Mp;clear Mp;refine ab ⟨rfl,rfl,fun h=>absurd rfl h,?_⟩;refine lJ (aP ?_);rw[show gw (own,out) c=(own++[fO c],out)from if_pos GY];exact DD rfl ⟨Mn,hM,⟨⟨_,go,ho⟩,⟨_,gs,hs⟩,im,iZ,Ya,Yb⟩,S⟩
  ·refine aT (aj (aj (ae (aN ao rfl rfl rfl (by assumption) rfl (fS ao rfl ho rfl (jk rfl rfl rfl (ab ?_)))))));refine bM rfl (fun c2=>?_) (fun c2=>?_)
   ·apply T.oG 2 [0] 2 aC mixed rfl rfl rfl rfl;intro Zt SI;have rA:=SI M;have:=ak go;replace im:=(rA.mem _ this).2 im;replace go:=rA.aL go;have:=ak gs;replace iZ:=(rA.mem _ this).2 iZ;replace gs:=rA.aL gs;replace ho:=ho.aO rA;replace hs:=hs.aO rA;replace hM:=rA.lt hM;have:=S.size;replace S:=S.aB rA;refine aN aJ rfl rfl rfl (by first|assumption|exact de rA (by assumption)) rfl ?_;refine ab ⟨rfl,rfl,rfl,?_⟩;refine aN ao rfl rfl rfl (by first|assumption|exact de rA (by assumption)) rfl ?_;refine ab ⟨rfl,rfl,rfl,?_⟩;refine eD ?_;refine⟨ik ⟨ey rfl (by assumption) (by first|assumption|exact fun h=>h|(intro h;have h:_=_:=h;omega)),trivial⟩,?_⟩;have kp:=jl aC Zt;refine aX rfl rfl afa (JT (M:=rm M uo) _ (fun b hb=>hM b hb.1) (ho.view (by omega)) (by omega)) (fun r3 w3 hc=>?_);obtain⟨rfl,s3⟩:=hc;replace s3:=s3.any M;have:=ak go;replace im:=(s3.mem _ this).2 im;replace go:=s3.aL go;have:=ak gs;replace iZ:=(s3.mem _ this).2 iZ;replace gs:=s3.aL gs;replace ho:=ho.aO s3;replace hs:=hs.aO s3;replace hM:=s3.lt hM;have:=S.size;replace S:=S.aB s3;refine(fun(kp:eJ _ _ _)=>ab ⟨rfl,rfl,fun _=>kp,?_⟩) (by first|exact kp|exact kp.ry (by assumption)|exact kp.goN (by assumption)|exact kp.go (by assumption) (fun _ _ h=>by first|exact h|exact h.elim));refine eu (A:=RT.str) (hn:=by decide) (M:=M) aJ I9 (by decide) rfl rfl hM (kS.2 ⟨rfl,by have:=gE own;omega⟩) (.inr ⟨rfl,rfl⟩) (fun aqb aqc zj Ea=>?_);have:=ak go;replace im:=(Ea.mem _ this).2 im;replace go:=Ea.aL go;have:=ak gs;replace iZ:=(Ea.mem _ this).2 iZ;replace gs:=Ea.aL gs;replace ho:=ho.aO Ea;replace hs:=hs.aO Ea;replace hM:=Ea.lt hM;have:=S.size;replace S:=S.aB Ea;refine(fun(kp:eJ _ _ _)=>ab ⟨rfl,rfl,fun _=>kp,?_⟩) (by first|exact kp|exact kp.ry (by assumption)|exact kp.goN (by assumption)|exact kp.go (by assumption) (fun _ _ h=>by first|exact h|exact h.elim))
    refine cV (M:=M) (base:=B) aJ I9 rfl rfl rfl rfl hs zj (aq _ _) (by simp;omega) (by simp;omega) (by have:=ak go;omega) (fun afP Zu Zv Zw nu=>?_);have:=ak go;replace im:=(nu.mem _ this).2 im;replace go:=nu.keep go (fun h=>by first|exact hs.ep go h|exact hs.eS go (by decide) h|(have:=(hs.base _ h).1;omega));have:=ak gs;replace iZ:=(nu.mem _ this).2 iZ;replace gs:=nu.keep gs (fun h=>by first|exact hs.ep gs h|exact hs.eS gs (by decide) h|(have:=(hs.base _ h).1;omega));replace zj:=zj.le nu.le;replace ho:=ho.step nu (fun b h1 h2=>ho.dw hs (by decide) h1 h2);replace hM:=nu.lt hM;have:=S.size;replace S:=S.trans nu (fun b hb h=>⟨(hs.base b h).1,(S.mem b hb).1 (hs.mut_ b h)⟩);replace hs:=Zw;refine ab ⟨rfl,rfl,fun h=>absurd rfl h,?_⟩;refine cw (M:=Zu) yo rfl rfl gs rfl ((by obtain⟨_,_,he,_⟩:=hs.isSlice;rw[he];rfl)) iZ (fun Vf kP lO=>?_);change Vf.heap[_]? =some (Obj.cells #[afP] _ _)at kP;have:=ak go;replace im:=(lO.mem _ this).2 im;replace go:=lO.keep go (fun hk=>by have hk:_=_:=hk;omega);have:=ak gs;replace iZ:=(lO.mem _ this).2 iZ;replace zj:=zj.le lO.le;replace ho:=ho.step lO (fun b hb hk=>by have hk:b=_:=hk;subst hk;first|exact absurd hb (ho.eS go (by decide))|exact absurd hb (ho.eS gs (by decide)));replace hs:=hs.step lO (fun b hb hk=>by have hk:b=_:=hk;subst hk;first|exact absurd hb (hs.eS go (by decide))|exact absurd hb (hs.eS gs (by decide)));replace hM:=lO.lt hM;have:=S.size;replace S:=S.trans lO (fun k hk h=>by have h:_=_:=h;subst h;first|(exfalso;omega)|(show _≤_;omega)|exact⟨by first|omega|assumption,(S.mem _ hk).1 ((lO.mem _ (ak gs)).1 iZ)⟩|exact .inl rfl|exact .inr rfl|exact .inr (.inl rfl)|exact .inr (.inr rfl)|exact .inr (.inr (.inl rfl))|exact rfl);have gs_:=kP;clear gs;have gs:=gs_;clear gs_;refine ab ⟨rfl,rfl,fun h=>absurd rfl h,?_⟩;refine lJ (ae ?_)
    refine cw (M:=Zu) jY rfl rfl go rfl (rfl) im (fun Mt Eb lP=>?_);change Mt.heap[_]? =some (Obj.cells #[.slice none 0 0] _ _)at Eb;have:=ak go;replace im:=(lP.mem _ this).2 im;have:=ak gs;replace iZ:=(lP.mem _ this).2 iZ;replace gs:=lP.keep gs (fun hk=>by have hk:_=_:=hk;omega);replace zj:=zj.le lP.le;replace ho:=ho.step lP (fun b hb hk=>by have hk:b=_:=hk;subst hk;first|exact absurd hb (ho.eS go (by decide))|exact absurd hb (ho.eS gs (by decide)));replace hs:=hs.step lP (fun b hb hk=>by have hk:b=_:=hk;subst hk;first|exact absurd hb (hs.eS go (by decide))|exact absurd hb (hs.eS gs (by decide)));replace hM:=lP.lt hM;have:=S.size;replace S:=S.trans lP (fun k hk h=>by have h:_=_:=h;subst h;first|(exfalso;omega)|(show _≤_;omega)|exact⟨by first|omega|assumption,(S.mem _ hk).1 ((lP.mem _ (ak go)).1 im)⟩|exact .inl rfl|exact .inr rfl|exact .inr (.inl rfl)|exact .inr (.inr rfl)|exact .inr (.inr (.inl rfl))|exact rfl);have Mp:=Eb;clear go;have go:=Mp;clear Mp;refine ab ?_
    first|refine rN ?_|simp+decide only[rQ,jJ,if_true,if_false]|skip
    have Yc: ¬(fM c=true∨pE c=true):=by rintro(h|h)<;>exact absurd h (by assumption)
    first
    |rw[show gw (own,out) c=([],out++[kT own])from(if_neg Yc).trans (if_pos (by show 0<own.length;omega))]
     exact gj rfl ⟨_,hM,⟨⟨_,go,dz _ _ _ _ _⟩,⟨_,gs,hs⟩,im,iZ,Ya,Yb⟩,S⟩
    |rw[show gw (own,out) c=([],out)from(if_neg Yc).trans (if_neg (by show¬0<own.length;omega))]
     exact gj rfl ⟨_,hM,⟨⟨_,go,dz _ _ _ _ _⟩,⟨_,gs,hs⟩,im,iZ,Ya,Yb⟩,S⟩
   ·refine aT (ae ?_);refine cw (M:=M) jY rfl rfl go rfl (rfl) im (fun Mt Eb lP=>?_);change Mt.heap[_]? =some (Obj.cells #[.slice none 0 0] _ _)at Eb;have:=ak go;replace im:=(lP.mem _ this).2 im;have:=ak gs;replace iZ:=(lP.mem _ this).2 iZ;replace gs:=lP.keep gs (fun hk=>by have hk:_=_:=hk;omega);replace ho:=ho.step lP (fun b hb hk=>by have hk:b=_:=hk;subst hk;first|exact absurd hb (ho.eS go (by decide))|exact absurd hb (ho.eS gs (by decide)));replace hs:=hs.step lP (fun b hb hk=>by have hk:b=_:=hk;subst hk;first|exact absurd hb (hs.eS go (by decide))|exact absurd hb (hs.eS gs (by decide)));replace hM:=lP.lt hM;have:=S.size;replace S:=S.trans lP (fun k hk h=>by have h:_=_:=h;subst h;first|(exfalso;omega)|(show _≤_;omega)|exact⟨by first|omega|assumption,(S.mem _ hk).1 ((lP.mem _ (ak go)).1 im)⟩|exact .inl rfl|exact .inr rfl|exact .inr (.inl rfl)|exact .inr (.inr rfl)|exact .inr (.inr (.inl rfl))|exact rfl);have Mp:=Eb;clear go;have go:=Mp;clear Mp;refine ab ?_
    first|refine rN ?_|simp+decide only[rQ,jJ,if_true,if_false]|skip
    have Yc: ¬(fM c=true∨pE c=true):=by rintro(h|h)<;>exact absurd h (by assumption)
    first
    |rw[show gw (own,out) c=([],out++[kT own])from(if_neg Yc).trans (if_pos (by show 0<own.length;omega))]
     exact gj rfl ⟨_,hM,⟨⟨_,go,dz _ _ _ _ _⟩,⟨_,gs,hs⟩,im,iZ,Ya,Yb⟩,S⟩
    |rw[show gw (own,out) c=([],out)from(if_neg Yc).trans (if_neg (by show¬0<own.length;omega))]
     exact gj rfl ⟨_,hM,⟨⟨_,go,dz _ _ _ _ _⟩,⟨_,gs,hs⟩,im,iZ,Ya,Yb⟩,S⟩
theorem oM (l:List Int):∀p,(l.foldl gw p).1.length≤p.1.length+l.length∧(l.foldl gw p).2.length≤p.2.length+l.length:=by
 induction l with
 |nil=>intro p;simp
 |cons c l ih=>
  intro p;have:=ih (gw p c)
  have h1:(gw p c).1.length≤p.1.length+1∧(gw p c).2.length≤p.2.length+1:=by
   unfold gw
   split
   ·simp
   ·split<;>simp
  simp only[List.foldl_cons,cI];omega
def words (l:List UInt8):List (List UInt8):=((fw l++[32]).foldl gw ([],[])).2
theorem rB (l:List UInt8):(words l).length≤l.length+1:=by
 have h:=(oM (fw l++[32]) ([],[])).2;have h2:=je l;rw[a8]at h;have h3:([]:List (List UInt8)).length=0:=rfl;have h4: [(32:Int)].length=1:=rfl;unfold words;simp only[h3,h4]at h;omega
theorem zk {M:aD} {l:List UInt8} (w0:World) (hM:Lt M w0) (hl:l.length≤900000):
  Spec Tryz.prog 183 #[.string ⟨l.toArray⟩] w0 (fun v w=>(RT.str.sl).V M w (words l) v∧Step M w0 M w aC):=by
 have jO:=hM;refine bg (args:=[_]) (fn:=Tryz.f183) Tryz.func183 rfl (n:=23) Tryz.ntmps183 ?_;have S:Step M w0 M w0 aC:=(au _ _).cB (fun _ h=>h.elim) (fun _ h=>h.elim);refine aj (ae (ah rfl rfl (ab (aj (ae ?_)))));refine dU M yo rfl (fun mT Ec Vg Vh j8 nX=>?_);obtain⟨lE,mU⟩:∃M',M'=ins M mT:=⟨_,rfl⟩;rw[←mU]at nX;have iV:lE mT:=by rw[mU];exact .inl rfl
 change Ec.heap[mT]? =some (.cells #[.slice none 0 0] _ _)at j8;replace hM:=nX.lt hM;have:=S.size;replace S:=S.aB nX;refine ab (aj (ae ?_));refine dU lE jY rfl (fun gT Vi afQ afR Ed zm=>?_);obtain⟨Mu,zn⟩:∃M',M'=ins lE gT:=⟨_,rfl⟩;rw[←zn]at zm;have zo:Mu gT:=by rw[zn];exact .inl rfl
 change Vi.heap[gT]? =some (.cells #[.slice none 0 0] _ _)at Ed;have:=ak j8;replace iV:=(zm.mem _ this).2 iV;replace j8:=zm.aL j8;replace hM:=zm.lt hM;have:=S.size;replace S:=S.aB zm;refine ab (aj (ae (kr (xs:=[]) (ys:=[.tmp 4,.tmp 3]) rfl rfl rfl (ah rfl rfl (ab (aj (aj (ae (ad rfl rfl ?_)))))))));refine aX rfl rfl afb (GX _ hM (by omega)) (fun v4 w4 hc=>?_);obtain⟨ze,s4⟩:=hc;have:=ak j8;replace iV:=(s4.mem _ this).2 iV;replace j8:=s4.aL j8;have:=ak Ed;replace zo:=(s4.mem _ this).2 zo;replace Ed:=s4.aL Ed;replace hM:=s4.lt hM;have:=S.size;replace S:=S.aB s4;refine bN ao rfl ze rfl (ad rfl rfl (ab (aY ?_)));refine dh (σ:=Nat) (fun k=>[(3,.pointer (some ⟨mT,0,none⟩)),(5,.func (.func 224) #[] #[.pointer (some ⟨gT,0,none⟩),.pointer (some ⟨mT,0,none⟩)]),(10,v4),(11,.int .i64 ((fw l).length:Int)),(12,.int .i64 (k:Int))]) (fun k w=>∃M',Lt M' w∧Step M w0 M' w aC∧Ml M' w w0.heap.size gT mT (((fw l).take k).foldl gw ([],[]))∧((RT.int .i64).sl).V M' w (fw l) v4∧k≤(fw l).length) (fun k=>(fw l).length-k) 0 (.cons rfl (.cons rfl (.cons rfl (.cons rfl (.cons rfl .nil))))) ?_ ?_
 ·exact⟨_,hM,S,⟨⟨_,Ed,dz _ _ _ _ _⟩,⟨_,j8,dz _ _ _ _ _⟩,zo,iV,by omega,by omega⟩,ze,bD _⟩
 ·rintro k w ⟨M1,hM,S,ht,ze,hk⟩;refine aj (ae (cg rfl rfl rfl (ab (aj ?_))));refine bM rfl (fun c5=>?_) (fun c5=>?_)
  ·refine aT (aj (aY (aj (ae ?_))));refine cv (M:=M1) ao I3 rfl rfl rfl ze (aq _ _) (by omega) (fun u6 c K1 GZ=>?_);refine cd (M:=M1) ax rfl rfl GZ (aq _ _) (fun in6=>?_);refine ah rfl rfl (ab (ae (ad rfl rfl (ad rfl rfl ?_))));have nT:=je l;have PM:=oM ((fw l).take k) ([],[]);rw[br]at PM;refine rO (first:=[]) (captured:=[.pointer (some ⟨gT,0,none⟩),.pointer (some ⟨mT,0,none⟩)]) rfl rfl rfl Za (zi (B:=w0.heap.size) _ hM c ht (by simp at PM;omega)) (fun r7 w7 hc=>?_);obtain⟨M2,Gg,JX,s7⟩:=hc;have tk:(fw l).take (k+1)=(fw l).take k++[c]:=by rw[bI];simp only[ay]at K1;rw[K1];rfl
   refine ab (ae (bG rfl rfl rfl (by omega) (ad rfl rfl (ab ?_))));refine⟨rfl,k+1,(.cons rfl (.cons rfl (.cons rfl (.cons rfl (.cons rfl .nil))))),?_,?_⟩
   ·exact⟨M2,Gg,S.mA s7 (aR _),by rw[tk,tf];exact JX,ze.le s7.le,by omega⟩
   ·omega
  ·refine cH (aj (ae (ad rfl rfl ?_)));have nT:=je l;have PM:=oM ((fw l).take k) ([],[]);rw[br]at PM;refine rO (first:=[]) (captured:=[.pointer (some ⟨gT,0,none⟩),.pointer (some ⟨mT,0,none⟩)]) rfl rfl rfl Za (zi (B:=w0.heap.size) _ hM 32 ht (by simp at PM;omega)) (fun r9 w9 hc=>?_);obtain⟨M2,Gg,JX,s9⟩:=hc;have e9:gw (((fw l).take k).foldl gw ([],[])) 32=(fw l++[32]).foldl gw ([],[]):=by rw[tf,aW (by omega)];rfl
   rw[e9]at JX;obtain⟨_,⟨us,gs,hs⟩,_⟩:=JX;replace S:=S.mA s9 (aR _);refine ab (aj (ae (aN aJ rfl rfl rfl gs rfl (ah rfl rfl (ab (aP ?_))))));exact aV rfl rfl ⟨ye jO S hs (by have:=rB l;omega),S.back⟩
end Go.K
namespace Go.K
open Go.Proofs
set_option maxRecDepth 10000
theorem Mv {p:List Int×List (List UInt8)} {c:Int} (h:yp c=true):gw p c=(p.1++[fO c],p.2):=if_pos (by simpa[yp]using h)
theorem rC {p:List Int×List (List UInt8)} {c:Int} (h:yp c=false):gw p c=if 0<p.1.length then([],p.2++[kT p.1])else([],p.2):=if_neg (by simpa[yp]using h)
def K2 (sg:List Int) (i:Nat) (ws:List (List UInt8)):Prop:=(i≤sg.length∧(sg.take i).foldl gw ([],[])=([],ws))∨(i=sg.length+1∧((sg++[32]).foldl gw ([],[])).2=ws)
theorem Mw {c:Int} (h:yp c=true):0≤c∧c≤1114111:=qI (by simpa[yp]using h)
theorem Zx:yp 32=false:=by decide
theorem wy {sg:List Int} {i:Nat} {c:Int} (h:sg[i]? =some c) (p:List Int×List (List UInt8)):(sg.take (i+1)).foldl gw p=gw ((sg.take i).foldl gw p) c:=by
 rw[bI,h,cJ,tf];rfl
theorem K2.skip {sg:List Int} {i:Nat} {ws:List (List UInt8)} {c:Int} (h:K2 sg i ws) (hc:sg[i]? =some c) (hi:yp c=false):K2 sg (i+1) ws:=by
 have dY:=(an.1 hc).1;rcases h with⟨_,h⟩|⟨h,_⟩
 ·exact .inl ⟨dY,by rw[wy hc,h,rC hi];rfl⟩
 ·omega
theorem K2.word {sg:List Int} {j:Nat} {own:List Int} {ws:List (List UInt8)} (h:(sg.take j).foldl gw ([],[])=(own,ws)) (ho:0<own.length) (hj:j≤sg.length) (hn:∀c,sg[j]? =some c→yp c=false):K2 sg (j+1) (ws++[kT own]):=by
 rcases lK hj with e|dY
 ·refine .inr ⟨by omega,?_⟩;rw[e,List.take_length]at h;rw[tf,h];show(gw (own,ws) 32).2=_;rw[rC Zx,if_pos ho]
 ·have hc:sg[j]? =some sg[j]:=ar dY;exact .inl ⟨dY,by rw[wy hc,h,rC (hn _ hc),if_pos ho]⟩
theorem K2.done {sg:List Int} {i:Nat} {ws:List (List UInt8)} (h:K2 sg i ws) (hi:sg.length≤i):((sg++[32]).foldl gw ([],[])).2=ws:=by
 rcases h with⟨h1,h⟩|⟨_,h⟩
 ·rw[aW (by omega)]at h;rw[tf,h];show(gw ([],ws) 32).2=_;rw[rC Zx];rfl
 ·exact h
theorem K2.len {sg:List Int} {i:Nat} {ws:List (List UInt8)} (h:K2 sg i ws):ws.length≤sg.length+1:=by
 rcases h with⟨_,h⟩|⟨_,h⟩
 ·have:=(oM (sg.take i) ([],[])).2;rw[h,br]at this;simp only[ke]at this;have e:(([]:List Int),([]:List (List UInt8))).2.length=0:=rfl;omega
 ·have:=(oM (sg++[32]) ([],[])).2;rw[h,a8]at this;have e:(([]:List Int),([]:List (List UInt8))).2.length=0:=rfl;have e2: [(32:Int)].length=1:=rfl;omega
theorem ig {sg:List Int} {j:Nat} {own:List Int} {ws:List (List UInt8)} (h:(sg.take j).foldl gw ([],[])=(own,ws)):own.length≤sg.length∧ws.length≤sg.length:=by
 have:=oM (sg.take j) ([],[]);rw[h,br]at this;simp only[ke]at this;have e:(([]:List Int),([]:List (List UInt8))).1.length=0:=rfl;have e2:(([]:List Int),([]:List (List UInt8))).2.length=0:=rfl;omega
theorem Ee {M:aD} {l:List UInt8} (w0:World) (hM:Lt M w0) (hl:l.length≤900000):
  Spec Tryz.prog 201 #[.string ⟨l.toArray⟩] w0 (fun v w=>(RT.str.sl).V M w (words l) v∧Step M w0 M w aC):=by
 have jO:=hM;have nT:=je l;refine bg (args:=[_]) (fn:=Tryz.f201) Tryz.func201 rfl (n:=50) Tryz.ntmps201 ?_;have S:Step M w0 M w0 aC:=(au _ _).cB (fun _ h=>h.elim) (fun _ h=>h.elim);refine aj (ae (ah rfl rfl (ab (aj (ae (ad rfl rfl ?_))))));refine aX rfl rfl aff (D8 _ hM (by omega)) (fun v1 w1 hc=>?_);obtain⟨hv,s1⟩:=hc;replace hM:=s1.lt hM;have:=S.size;replace S:=S.aB s1;refine ah rfl rfl (ab (aj (ae (ah rfl rfl (ab (aj (aj (ae (ah rfl rfl (ab (aY ?_)))))))))));refine dh (σ:=Nat×Value) (fun q=>[(3,v1),(4,q.2),(5,.int .i64 (q.1:Int))]) (fun q w=>∃M' ws,Lt M' w∧Step M w0 M' w aC∧Own RT.str 9 M' w w0.heap.size q.2 ws∧((RT.int .i64).sl).V M' w (fw l) v1∧K2 (fw l) q.1 ws) (fun q=>(fw l).length+1-q.1) (0,.slice none 0 0) (.cons rfl (.cons rfl (.cons rfl .nil))) ?_ ?_
 ·exact⟨M,[],hM,S,dz _ _ _ _ _,hv,.inl ⟨bD _,rfl⟩⟩
 ·rintro⟨i,u4⟩ w ⟨M1,ws,hM,S,qu,hv,Zy⟩;dsimp only at qu Zy ⊢;refine aj (aj (ae (ad rfl rfl (ad rfl rfl (bN ao rfl hv rfl (cg rfl rfl rfl (ab ?_)))))));refine bM rfl (fun c4=>?_) (fun c4=>?_)
  ·refine aT (aj (aY (aj (ae (ad rfl rfl (ad rfl rfl ?_))))));refine cv (M:=M1) ao I3 rfl rfl rfl hv (aq _ _) (by omega) (fun Zz c ZA huc=>?_);refine cd (M:=M1) ax rfl rfl huc (aq _ _) (fun inc=>?_);rw[ay]at ZA;refine aX rfl rfl Zc (D7 c _) (fun r wc hc=>?_);obtain⟨rfl,rfl⟩:=hc;refine aU (v':= .bool (decide (yp c=true))) (by cases yp c<;>rfl) (ah rfl rfl (ab (aj (aj (ae (ad rfl rfl (lY rfl rfl (aU (v':= .bool (decide (yp c=false))) (by cases yp c<;>rfl) (ab ?_)))))))));refine bM rfl (fun c7=>?_) (fun c7=>?_)
   ·refine cH (ae (ad rfl rfl (bG rfl rfl rfl (by omega) (ah rfl rfl (ab ?_)))));refine⟨rfl,(i+1,u4),(.cons rfl (.cons rfl (.cons rfl .nil))),?_,?_⟩
    ·exact⟨M1,ws,hM,S,qu,hv,Zy.skip ZA (by assumption)⟩
    ·dsimp only;omega
   ·refine aT (aj (ae (ah rfl rfl (ab (aj (aY ?_))))));refine dh (σ:=Nat×List Int×Value) (fun q=>[(3,v1),(4,u4),(5,.int .i64 (q.1:Int)),(7,q.2.2)]) (fun q w=>∃M',Lt M' w∧Step M w0 M' w aC∧Own RT.str 9 M' w w0.heap.size u4 ws∧Own (RT.int .i64) 3 M' w w0.heap.size q.2.2 q.2.1∧((RT.int .i64).sl).V M' w (fw l) v1∧((fw l).take q.1).foldl gw ([],[])=(q.2.1,ws)∧i≤q.1∧q.1≤(fw l).length∧(i<q.1→0<q.2.1.length)) (fun q=>(fw l).length-q.1) (i,[],.slice none 0 0) (.cons rfl (.cons rfl (.cons rfl (.cons rfl .nil)))) ?_ ?_
    ·have afS:((fw l).take i).foldl gw ([],[])=([],ws):=by
      rcases Zy with⟨_,h⟩|⟨h,_⟩
      ·exact h
      ·omega
     exact⟨M1,hM,S,qu,dz _ _ _ _ _,hv,afS,aR _,by dsimp only;omega,fun h=>absurd h (jC _)⟩
    ·rintro⟨j,own,u7⟩ w ⟨M2,hM,S,qu,nE,hv,hf,ZB,uq,vV⟩;dsimp only at nE hf ZB uq vV ⊢;refine aj (aj (ae (ad rfl rfl (ad rfl rfl (bN ao rfl hv rfl (cg rfl rfl rfl (ad rfl rfl ?_)))))));refine aS (g:=27) rfl (fun afT=>?_) (fun afT=>?_)
     ·refine al rfl rfl (ad rfl rfl (al rfl rfl (ad rfl rfl (al rfl rfl ?_))));refine cv (M:=M2) ao I3 rfl rfl rfl hv (aq _ _) (by omega) (fun aqe d pH hud=>?_);refine al rfl rfl ?_;refine cd (M:=M2) ax rfl rfl hud (aq _ _) (fun ind=>?_);rw[ay]at pH;refine al rfl rfl ?_;refine aX rfl rfl Zc (D7 d _) (fun r wc hc=>?_);obtain⟨rfl,rfl⟩:=hc;refine aU (v':= .bool (decide (yp d=true))) (by cases yp d<;>rfl) (aZ rfl rfl rfl (ab ?_));refine bM rfl (fun c9=>?_) (fun c9=>?_)
      ·refine aT (aY (aj (ae (ad rfl rfl (ad rfl rfl (ad rfl rfl ?_))))));refine cv (M:=M2) ao I3 rfl rfl rfl hv (aq _ _) (by omega) (fun ZC e Lj hue=>?_);refine cd (M:=M2) ax rfl rfl hue (aq _ _) (fun my=>?_);rw[ay]at Lj;have Vj:yp e=true:=by rw[pH]at Lj;cases Lj;assumption
       refine aX rfl rfl afg (GU e _ (Mw Vj)) (fun r wc hc=>?_);obtain⟨rfl,rfl⟩:=hc;refine eu (A:=RT.int .i64) (hn:=by decide) (M:=M2) ao I3 (by decide) rfl rfl hM (gv (by have:=Mw Vj;unfold fO;split<;>omega)) (.inr ⟨rfl,rfl⟩) (fun alZ al0 G0 Ef=>?_);replace hv:=hv.le Ef.le;replace qu:=qu.aO Ef;replace nE:=nE.aO Ef;replace hM:=Ef.lt hM;have:=S.size;replace S:=S.aB Ef;refine cV (M:=M2) (base:=w0.heap.size) ao I3 rfl rfl rfl rfl nE G0 (aq _ _) (by have:=ig hf;simp;omega) (by have:=ig hf;simp;omega) (S.size) (fun SJ ZD ZE Vk p8=>?_);replace hv:=hv.le p8.le;replace G0:=G0.le p8.le;replace qu:=qu.step p8 (fun b h1 h2=>qu.dw nE (by decide) h1 h2);replace hM:=p8.lt hM;have:=S.size;replace S:=S.cX p8 nE (aR _);replace nE:=Vk;refine ah rfl rfl (ab (ae (ad rfl rfl (bG rfl rfl rfl (by omega) (ah rfl rfl (ab ?_))))));refine⟨rfl,(j+1,own++[fO e],SJ),(.cons rfl (.cons rfl (.cons rfl (.cons rfl .nil)))),?_,?_⟩
       ·exact⟨ZD,hM,S,qu,nE,hv,by rw[wy Lj,hf,Mv Vj],by dsimp only;omega,by dsimp only;omega,fun _=>by simp⟩
       ·dsimp only;omega
      ·refine cH (ae (ad rfl rfl (ad rfl rfl ?_)));refine aX rfl rfl Zd (zf (M:=rm M2 u7) _ (fun b hb=>hM b hb.1) (nE.view (by have:=ig hf;omega)) (by have:=ig hf;omega)) (fun r12 Yd Vl=>?_);obtain⟨rfl,AS⟩:=Vl;replace AS:=AS.any M2;replace hv:=hv.le AS.le;replace qu:=qu.aO AS;replace nE:=nE.aO AS;replace hM:=AS.lt hM;have:=S.size;replace S:=S.aB AS;refine eu (A:=RT.str) (hn:=by decide) (M:=M2) aJ I9 (by decide) rfl rfl hM (kS.2 ⟨rfl,by have:=gE own;have:=ig hf;omega⟩) (.inr ⟨rfl,rfl⟩) (fun ZF ZG tC qJ=>?_);replace hv:=hv.le qJ.le;replace qu:=qu.aO qJ;replace nE:=nE.aO qJ;replace hM:=qJ.lt hM;have:=S.size;replace S:=S.aB qJ;refine cV (M:=M2) (base:=w0.heap.size) aJ I9 rfl rfl rfl rfl qu tC (aq _ _) (by have:=ig hf;simp;omega) (by have:=ig hf;simp;omega) (S.size) (fun xp qK IC tD ek=>?_);replace hv:=hv.le ek.le;replace tC:=tC.le ek.le;replace nE:=nE.step ek (fun b h1 h2=>nE.dw qu (by decide) h1 h2);replace hM:=ek.lt hM;have:=S.size;replace S:=S.cX ek qu (aR _);replace qu:=tD;refine ah rfl rfl (ab (ae (ad rfl rfl (bG rfl rfl rfl (by omega) (ah rfl rfl (ab ?_))))))
       have vV:0<own.length:=by
        rcases lK ZB with e|h
        ·exfalso;subst e
         first|omega|(rw[ZA]at pH;cases pH;exact c9 (by cases hq:yp c with|true=>rfl|false=>exact absurd hq (by assumption)))
        ·exact vV h
       have Vm:∀c,(fw l)[j]? =some c→yp c=false:=fun c hc=>by
        first|(rw[du (by omega)]at hc;cases hc)|(rw[pH]at hc;cases hc;exact dd.2 c9)
       refine⟨rfl,(j+1,xp),(.cons rfl (.cons rfl (.cons rfl .nil))),?_,?_⟩
       ·exact⟨qK,_,hM,S,qu,hv,K2.word hf vV uq Vm⟩
       ·dsimp only;omega
     ·refine aw rfl rfl rfl rfl (aw rfl rfl rfl rfl (aw rfl rfl rfl rfl (aw rfl rfl rfl rfl (aw rfl rfl rfl rfl (aE rfl rfl rfl (ab (jD rfl (cH (ae (ad rfl rfl (ad rfl rfl ?_)))))))))));refine aX rfl rfl Zd (zf (M:=rm M2 u7) _ (fun b hb=>hM b hb.1) (nE.view (by have:=ig hf;omega)) (by have:=ig hf;omega)) (fun r12 Yd Vl=>?_);obtain⟨rfl,AS⟩:=Vl;replace AS:=AS.any M2;replace hv:=hv.le AS.le;replace qu:=qu.aO AS;replace nE:=nE.aO AS;replace hM:=AS.lt hM;have:=S.size;replace S:=S.aB AS;refine eu (A:=RT.str) (hn:=by decide) (M:=M2) aJ I9 (by decide) rfl rfl hM (kS.2 ⟨rfl,by have:=gE own;have:=ig hf;omega⟩) (.inr ⟨rfl,rfl⟩) (fun ZF ZG tC qJ=>?_);replace hv:=hv.le qJ.le;replace qu:=qu.aO qJ;replace nE:=nE.aO qJ;replace hM:=qJ.lt hM;have:=S.size;replace S:=S.aB qJ;refine cV (M:=M2) (base:=w0.heap.size) aJ I9 rfl rfl rfl rfl qu tC (aq _ _) (by have:=ig hf;simp;omega) (by have:=ig hf;simp;omega) (S.size) (fun xp qK IC tD ek=>?_);replace hv:=hv.le ek.le;replace tC:=tC.le ek.le;replace nE:=nE.step ek (fun b h1 h2=>nE.dw qu (by decide) h1 h2);replace hM:=ek.lt hM;have:=S.size;replace S:=S.cX ek qu (aR _);replace qu:=tD;refine ah rfl rfl (ab (ae (ad rfl rfl (bG rfl rfl rfl (by omega) (ah rfl rfl (ab ?_))))))
      have vV:0<own.length:=by
       rcases lK ZB with e|h
       ·exfalso;subst e
        first|omega|(rw[ZA]at pH;cases pH;exact c9 (by cases hq:yp c with|true=>rfl|false=>exact absurd hq (by assumption)))
       ·exact vV h
      have Vm:∀c,(fw l)[j]? =some c→yp c=false:=fun c hc=>by
       first|(rw[du (by omega)]at hc;cases hc)|(rw[pH]at hc;cases hc;exact dd.2 c9)
      refine⟨rfl,(j+1,xp),(.cons rfl (.cons rfl (.cons rfl .nil))),?_,?_⟩
      ·exact⟨qK,_,hM,S,qu,hv,K2.word hf vV uq Vm⟩
      ·dsimp only;omega
  ·refine cH (aj (ae (ad rfl rfl (ah rfl rfl (ab (aP ?_))))));have e:=Zy.done (by omega);have e2:words l=ws:=e;rw[e2];exact aV rfl rfl ⟨qu.close jO S (by have:=Zy.len;omega),S.back⟩
end Go.K
namespace Go.K
open Go.Proofs
set_option maxRecDepth 10000
def mV:Nat→List (List UInt8)→Int
 |_,[]=>0
 |i,w::ws=>if 30<w.length then 3 else if 500≤i then 7 else mV (i+1) ws
theorem ID {i k:Nat} {ws:List (List UInt8)} {x:List UInt8} (h:ws[k]? =some x):mV i (ws.drop k)=if 30<x.length then 3 else if 500≤i then 7 else mV (i+1) (ws.drop (k+1)):=by
 have dY:=(an.1 h).1;rw[dH dY,(an.1 h).2];rfl
theorem gm {M:aD} {w:World} {x:List UInt8} {v:Value} (h:RT.str.V M w x v):v= .string ⟨x.toArray⟩:=(kS.1 h).1
theorem JY {M:aD} {l:List UInt8} (w0:World) (hM:Lt M w0) (hl:l.length≤900000):
  Spec Tryz.prog 128 #[.string ⟨l.toArray⟩] w0 (fun v w=>(∃u,v= .tuple #[u,.int .i64 (mV 0 (words l))]∧(mV 0 (words l)=0→∃a cap,u= .slice a (words l).length cap))∧Step M w0 M w aC):=by
 have jO:=hM;refine bg (args:=[_]) (fn:=Tryz.f128) Tryz.func128 rfl (n:=30) Tryz.ntmps128 ?_;have S:Step M w0 M w0 aC:=(au _ _).cB (fun _ h=>h.elim) (fun _ h=>h.elim);refine aj (ae (ah rfl rfl (ah rfl rfl (ab (aj (ae (ah rfl rfl (ab (aj (aj (ae ?_)))))))))));refine ad rfl rfl ?_;refine aX rfl rfl Y9 (zk _ hM hl) (fun v1 w1 hc=>?_);obtain⟨hv,s1⟩:=hc;replace hM:=s1.lt hM;have:=S.size;replace S:=S.aB s1;refine bN aJ rfl hv rfl (ad rfl rfl (ab (aY ?_)));refine dh (σ:=Nat×Value) (fun q=>[(8,v1),(4,q.2),(9,.int .i64 ((words l).length:Int)),(10,.int .i64 (q.1:Int))]) (fun q w=>(∃M' xs,Lt M' w∧Step M w0 M' w aC∧Own (RT.pair RT.str (RT.int .i64)) 266 M' w w0.heap.size q.2 xs∧xs.length=q.1∧(RT.str.sl).V M' w (words l) v1)∧mV 0 (words l)=mV q.1 ((words l).drop q.1)∧q.1≤(words l).length∧q.1≤500) (fun q=>(words l).length-q.1) (0,.slice none 0 0) (.cons rfl (.cons rfl (.cons rfl (.cons rfl .nil)))) ?_ ?_
 ·exact⟨⟨M,[],hM,S,dz _ _ _ _ _,rfl,hv⟩,rfl,bD _,bD _⟩
 ·rintro⟨i,u⟩ w ⟨⟨M1,xs,hM,S,ho,ru,hv⟩,JJ,hi,hi5⟩;dsimp only at ho ru JJ hi hi5 ⊢;refine aj (ae (cg rfl rfl rfl (ab (aj ?_))));refine bM rfl (fun c3=>?_) (fun c3=>?_)
  ·refine aT (aj (aY (aj (ae (ad rfl rfl ?_)))));refine cv (M:=M1) aJ I9 rfl rfl rfl hv (aq _ _) (by omega) (fun ZH x xq Gh=>?_);refine bU (M:=M1) aK rfl rfl rfl rfl rfl Gh (aq _ _) (fun vx rV=>?_);rw[ay]at xq;obtain rfl:=gm rV;have ht:=ID (i:=i) xq;refine ah rfl rfl (ah rfl rfl (ab (aj (aY (aj (ae (ad rfl rfl (Rg.nQ aK rfl rfl (aU (v':= .int .i64 (x.length:Int)) (by simp[ByteArray.size]) (jk rfl rfl rfl (ah rfl rfl ?_)))))))))));refine ab ?_;refine bM rfl (fun c5=>?_) (fun c5=>?_)
   ·refine aj (ae (ah rfl rfl (ah rfl rfl (ab (aP ?_)))));rw[JJ,ht,if_pos (by omega)];exact fp rfl rfl rfl ⟨⟨_,rfl,fun h=>by cases h⟩,S.back⟩
   ·refine aj (ae (ad rfl rfl (tY rfl rfl rfl (ah rfl rfl (ab ?_)))));refine bM rfl (fun c7=>?_) (fun c7=>?_)
    ·refine aj (ae (ah rfl rfl (ah rfl rfl (ab (aP ?_)))));rw[JJ,ht,if_neg (by omega),if_pos (by omega)];exact fp rfl rfl rfl ⟨⟨_,rfl,fun h=>by cases h⟩,S.back⟩
    ·refine aT (ae (ad rfl rfl (ad rfl rfl (ad rfl rfl (iM (places:=[(0,1),(1,1)]) Tryz.underlying266 JR Y7 rfl ⟨_,_,rfl,rfl,_,_,rfl,rfl,rfl⟩ (out:=[_,_]) ⟨0,[_],rfl,rfl,by simp[Value.cells],1,[_],rfl,rfl,by simp[Value.cells],rfl⟩ ?_)))));refine eu (A:=(RT.pair RT.str (RT.int .i64))) (hn:=by decide) (M:=M1) Tryz.underlying212 JR (by decide) rfl rfl hM (fg rV (gv (x:=(i:Int)) (by omega)) rfl rfl rfl rfl) (.inl rfl) (fun Zp afA My AR=>?_);replace hv:=hv.le AR.le;replace rV:=rV.le AR.le;replace ho:=ho.aO AR;replace hM:=AR.lt hM;have:=S.size;replace S:=S.aB AR;refine cV (M:=M1) (base:=w0.heap.size) Tryz.underlying212 JR rfl rfl rfl rfl ho My (aq _ _) (by simp;omega) (by simp;omega) (S.size) (fun afV afW ZI ZJ qL=>?_);replace hv:=hv.le qL.le;replace rV:=rV.le qL.le;replace My:=My.le qL.le;replace hM:=qL.lt hM;have:=S.size;replace S:=S.cX qL ho (aR _);replace ho:=ZJ;refine ah rfl rfl (ab (ae (bG rfl rfl rfl (by omega) (ad rfl rfl (ab ?_)))));refine⟨rfl,(i+1,afV),(.cons rfl (.cons rfl (.cons rfl (.cons rfl .nil)))),?_,?_⟩
     ·exact⟨⟨afW,_,hM,S,ho,by simp[ru],hv⟩,by rw[JJ,ht,if_neg (by omega),if_neg (by omega)],by dsimp only;omega,by dsimp only;omega⟩
     ·dsimp only;omega
  ·refine cH (aj (ae (ad rfl rfl (ah rfl rfl (ah rfl rfl (ab (aP ?_)))))));have e:mV 0 (words l)=0:=by rw[JJ,gX (by omega)];rfl
   rw[e];obtain⟨a,cap,he,_⟩:=ho.isSlice;exact fp rfl rfl rfl ⟨⟨u,rfl,fun _=>⟨a,cap,by rw[he,ru];congr 1;omega⟩⟩,S.back⟩
theorem G1 {M:aD} {l:List UInt8} (w0:World) (hM:Lt M w0) (hl:l.length≤900000):
  Spec Tryz.prog 148 #[.string ⟨l.toArray⟩] w0 (fun v w=>(∃u,v= .tuple #[u,.int .i64 (mV 0 (words l))]∧(mV 0 (words l)=0→∃a cap,u= .slice a (words l).length cap))∧Step M w0 M w aC):=by
 have jO:=hM;refine bg (args:=[_]) (fn:=Tryz.f148) Tryz.func148 rfl (n:=33) Tryz.ntmps148 ?_;have S:Step M w0 M w0 aC:=(au _ _).cB (fun _ h=>h.elim) (fun _ h=>h.elim);refine aj (ae (ah rfl rfl (ah rfl rfl (ab (aj (ae (ad rfl rfl ?_)))))));refine aX rfl rfl ae5 (Ee _ hM hl) (fun v1 w1 hc=>?_);obtain⟨hv,s1⟩:=hc;replace hM:=s1.lt hM;have:=S.size;replace S:=S.aB s1;refine ah rfl rfl (ab (aj (ae (ah rfl rfl (ab (aj (aj (ae (ah rfl rfl (ab (aY ?_)))))))))));refine dh (σ:=Nat×Value) (fun q=>[(4,v1),(5,q.2),(6,.int .i64 (q.1:Int))]) (fun q w=>(∃M' xs,Lt M' w∧Step M w0 M' w aC∧Own (RT.pair RT.str (RT.int .i64)) 266 M' w w0.heap.size q.2 xs∧xs.length=q.1∧(RT.str.sl).V M' w (words l) v1)∧mV 0 (words l)=mV q.1 ((words l).drop q.1)∧q.1≤(words l).length∧q.1≤500) (fun q=>(words l).length-q.1) (0,.slice none 0 0) (.cons rfl (.cons rfl (.cons rfl .nil))) ?_ ?_
 ·exact⟨⟨M,[],hM,S,dz _ _ _ _ _,rfl,hv⟩,rfl,bD _,bD _⟩
 ·rintro⟨i,u⟩ w ⟨⟨M1,xs,hM,S,ho,ru,hv⟩,JJ,hi,hi5⟩;dsimp only at ho ru JJ hi hi5 ⊢;refine aj (aj (ae (ad rfl rfl (ad rfl rfl (bN aJ rfl hv rfl (cg rfl rfl rfl (ab ?_)))))));refine bM rfl (fun c4=>?_) (fun c4=>?_)
  ·refine aT (aj (aY (aj (aj (ae (ad rfl rfl (ad rfl rfl ?_)))))));refine cv (M:=M1) aJ I9 rfl rfl rfl hv (aq _ _) (by omega) (fun Zz x xq Gh=>?_);refine bU (M:=M1) aK rfl rfl rfl rfl rfl Gh (aq _ _) (fun vx rV=>?_);rw[ay]at xq;obtain rfl:=gm rV;have ht:=ID (i:=i) xq;refine Rg.nQ aK rfl rfl (aU (v':= .int .i64 (x.length:Int)) (by simp[ByteArray.size]) (jk rfl rfl rfl (ab ?_)));refine bM rfl (fun c6=>?_) (fun c6=>?_)
   ·refine aj (ae (ah rfl rfl (ah rfl rfl (ab (aP ?_)))));rw[JJ,ht,if_pos (by omega)];exact fp rfl rfl rfl ⟨⟨_,rfl,fun h=>by cases h⟩,S.back⟩
   ·refine aT (aj (aj (ae (ad rfl rfl (ef rfl rfl rfl (ab ?_))))));refine bM rfl (fun c8=>?_) (fun c8=>?_)
    ·refine aj (ae (ah rfl rfl (ah rfl rfl (ab (aP ?_)))));rw[JJ,ht,if_neg (by omega),if_pos (by omega)];exact fp rfl rfl rfl ⟨⟨_,rfl,fun h=>by cases h⟩,S.back⟩
    ·refine aT (ae (ad rfl rfl (ad rfl rfl (ad rfl rfl ?_))));refine cv (M:=M1) aJ I9 rfl rfl rfl hv (aq _ _) (by omega) (fun ZC y vJ huy=>?_);refine bU (M:=M1) aK rfl rfl rfl rfl rfl huy (aq _ _) (fun vy SK=>?_);rw[ay]at vJ;obtain rfl:=gm SK;obtain rfl:x=y:=by rw[xq]at vJ;exact aF vJ
     refine ad rfl rfl (iM (places:=[(0,1),(1,1)]) Tryz.underlying266 JR Y7 rfl ⟨_,_,rfl,rfl,_,_,rfl,rfl,rfl⟩ (out:=[_,_]) ⟨0,[_],rfl,rfl,by simp[Value.cells],1,[_],rfl,rfl,by simp[Value.cells],rfl⟩ ?_);refine eu (A:=(RT.pair RT.str (RT.int .i64))) (hn:=by decide) (M:=M1) Tryz.underlying212 JR (by decide) rfl rfl hM (fg SK (gv (x:=(i:Int)) (by omega)) rfl rfl rfl rfl) (.inl rfl) (fun SJ ZE G2 p8=>?_);replace hv:=hv.le p8.le;replace rV:=rV.le p8.le;replace SK:=SK.le p8.le;replace ho:=ho.aO p8;replace hM:=p8.lt hM;have:=S.size;replace S:=S.aB p8;refine cV (M:=M1) (base:=w0.heap.size) Tryz.underlying212 JR rfl rfl rfl rfl ho G2 (aq _ _) (by simp;omega) (by simp;omega) (S.size) (fun ZK ZL IE Vn gU=>?_);replace hv:=hv.le gU.le;replace rV:=rV.le gU.le;replace SK:=SK.le gU.le;replace G2:=G2.le gU.le;replace hM:=gU.lt hM;have:=S.size;replace S:=S.cX gU ho (aR _);replace ho:=Vn;refine ah rfl rfl (ab (ae (ad rfl rfl (bG rfl rfl rfl (by omega) (ah rfl rfl (ab ?_))))));refine⟨rfl,(i+1,ZK),(.cons rfl (.cons rfl (.cons rfl .nil))),?_,?_⟩
     ·exact⟨⟨ZL,_,hM,S,ho,by simp[ru],hv⟩,by rw[JJ,ht,if_neg (by omega),if_neg (by omega)],by dsimp only;omega,by dsimp only;omega⟩
     ·dsimp only;omega
  ·refine cH (aj (ae (ad rfl rfl (ah rfl rfl (ah rfl rfl (ab (aP ?_)))))));have e:mV 0 (words l)=0:=by rw[JJ,gX (by omega)];rfl
   rw[e];obtain⟨a,cap,he,_⟩:=ho.isSlice;exact fp rfl rfl rfl ⟨⟨u,rfl,fun _=>⟨a,cap,by rw[he,ru];congr 1;omega⟩⟩,S.back⟩
end Go.K
namespace Go.K
abbrev Fd:=List UInt8×List UInt8
abbrev Dc:=Int×List Fd
abbrev En:=Dc×Int
abbrev RT.fd:RT Fd:=RT.pair RT.str RT.str
abbrev RT.dc:RT Dc:=RT.pair (RT.int .i64) (RT.fd.sl)
abbrev RT.en:RT En:=RT.pair RT.dc (RT.int .i64)
theorem Ye:Part RT.fd RT.str (fun p=>p.1) 0:=np _ _
theorem fd1:Part RT.fd RT.str (fun p=>p.2) 1:=iK _ _
theorem ZM:Part RT.dc (RT.int .i64) (fun p=>p.1) 0:=np _ _
theorem JZ:Part RT.dc (RT.fd.sl) (fun p=>p.2) 1:=iK _ _
theorem ZN:Part RT.en RT.dc (fun p=>p.1) 0:=np _ _
theorem en1:Part RT.en (RT.int .i64) (fun p=>p.2) 2:=iK _ _
theorem MA {M:aD} {w:World} {p:Dc} {v:Value} (h:RT.dc.V M w p v):∃u,v= .agg #[.int .i64 p.1,u]:=by
 obtain⟨vs,⟨va,vb,rfl,⟨rfl,_⟩,hb⟩,rfl⟩:=h;have:=(RT.fd.sl (by decide)).len hb
 match vb,this with
 |[u],_=>exact⟨u,rfl⟩
theorem SL {M:aD} {w:World} {p:Dc} {u:Value} {s:Int} (h:RT.dc.V M w p (.agg #[.int .i64 p.1,u])) (hs: -9223372036854775808≤s∧s≤9223372036854775807):RT.en.V M w (p,s) (.agg [.int .i64 p.1,u,.int .i64 s].toArray):=by
 obtain⟨vs,h1,h2⟩:=h
 have h3:vs=[.int .i64 p.1,u]:=by
  have:Value.agg #[.int .i64 p.1,u]= .agg vs.toArray:=h2;injection this with this
  simpa using(congrArg Array.toList this).symm
 subst h3;exact⟨_,⟨[.int .i64 p.1,u],[.int .i64 s],rfl,h1,rfl,hs.1,hs.2⟩,rfl⟩
theorem Own.SM {α:Type} (A:RT α) (e:TypeId) (base:Nat) {M:aD} {w:World} (h:Lt M w):Own A e M w base (.slice none 0 0) []:=dz _ _ _ _ _
section
variable {P:Program} {r:Option Nat} {n:Nat} {L:Sl} {ds:List Deferred} {w:World} {K:Kt} {ops:Array Oper} {rest:List Oper} {d:Nat} {x:Operand} {ty:TypeId} {pos:String} {af:Array Edge}
theorem Rg.pI {α:Type} {A:RT α} {e:TypeId} {v:Value} {a:α} {M:aD} (hx:ev L x=some v) (hd:Nat.blt d n=true) (hM:Lt M w) (hv:A.V M w a v) (hg:A.agg=true)
  (k:∀u w',cO A M w' u a→Step M w M w' aC→w.heap.size≤w'.heap.size→Rg P r n ops rest ((d,u)::L) ds w' K):
  Rg P r n ops ({dst:=some d,op:= .box e x,type:=ty,pos,after:=af,guard:=none}::rest) L ds w K:=by
 refine xM M hx hd (fun b w' h1 h2 hb s=>?_);obtain⟨vs,h3,h4⟩:=hv;have hc:v.cells=vs.toArray:=by subst h4;simp[RT.val,hg,Value.cells]
 rw[hc]at hb;refine k _ w' ⟨b,0,vs,rfl,fun hm=>?_,A.le s.back.le h3,fun j u hj=>?_⟩ s.back s.size
 ·have:=hM b hm;omega
 ·rw[fR];exact fG hb (by simpa using hj)
end
end Go.K
namespace Go.Proofs
open Go.Shelf
def Tryz.Eg:Go.Shelf.Ren:=⟨fun|160=>184|232=>231|231=>230|227=>232|234=>234|233=>233|236=>236|235=>235|228=>268|271=>271|151=>270|197=>269|120=>293|152=>292|260=>291|137=>300|119=>290|224=>301|225=>302|217=>304|266=>305|n=>n,fun|9=>9|4=>4|3=>3|5=>5|117=>310|116=>309|0=>0|124=>313|21=>21|105=>344|46=>189|119=>365|139=>368|138=>367|n=>n,fun|3=>2|4=>3|n=>n⟩
theorem Tryz.QH:Go.Proofs.Lays.n160 Tryz.prog Tryz.Eg:={
 mixed:=by kernel_rfl
 f119:=Tryz.func290.trans (congrArg some (by kernel_rfl))
 f120:=Tryz.func293.trans (congrArg some (by kernel_rfl))
 f137:=Tryz.func300.trans (congrArg some (by kernel_rfl))
 f151:=Tryz.func270.trans (congrArg some (by kernel_rfl))
 f152:=Tryz.func292.trans (congrArg some (by kernel_rfl))
 f160:=Tryz.func184.trans (congrArg some (by kernel_rfl))
 f197:=Tryz.func269.trans (congrArg some (by kernel_rfl))
 f217:=Tryz.func304.trans (congrArg some (by kernel_rfl))
 f224:=Tryz.func301.trans (congrArg some (by kernel_rfl))
 f225:=Tryz.func302.trans (congrArg some (by kernel_rfl))
 f227:=Tryz.func232.trans (congrArg some (by kernel_rfl))
 f228:=Tryz.func268.trans (congrArg some (by kernel_rfl))
 f231:=Tryz.func230.trans (congrArg some (by kernel_rfl))
 f232:=Tryz.func231.trans (congrArg some (by kernel_rfl))
 f233:=Tryz.func233.trans (congrArg some (by kernel_rfl))
 f234:=Tryz.func234.trans (congrArg some (by kernel_rfl))
 f235:=Tryz.func235.trans (congrArg some (by kernel_rfl))
 f236:=Tryz.func236.trans (congrArg some (by kernel_rfl))
 f260:=Tryz.func291.trans (congrArg some (by kernel_rfl))
 f266:=Tryz.func305.trans (congrArg some (by kernel_rfl))
 f271:=Tryz.func271.trans (congrArg some (by kernel_rfl))
 t0:=fK
 a0:=lS
 z0:=kj
 v0:=gM
 t3:=ax
 a3:=lT
 z3:=km
 v3:=gN
 t4:=iX
 a4:=sk
 z4:=oB
 v4:=jG
 t5:=cC
 a5:=Tryz.isAgg5
 z5:=Tryz.sizeOf5
 v5:=tX
 t9:=aK
 a9:=lU
 z9:=kn
 v9:=gO
 t21:=Tryz.underlying21
 a21:=Tryz.isAgg21
 z21:=Tryz.sizeOf21
 v21:=Tryz.zeroValue21
 t46:=j4
 a46:=Tryz.isAgg189
 z46:=Tryz.sizeOf189
 v46:=Tryz.zeroValue189
 t105:=Tryz.underlying344
 a105:=Tryz.isAgg344
 z105:=Tryz.sizeOf344
 v105:=Tryz.zeroValue344
 t116:=Tryz.underlying309
 a116:=Tryz.isAgg309
 z116:=Tryz.sizeOf309
 t117:=Tryz.underlying310
 a117:=Tryz.isAgg310
 z117:=Tryz.sizeOf310
 v117:=Tryz.zeroValue310
 t119:=Tryz.underlying365
 a119:=Tryz.isAgg365
 z119:=Tryz.sizeOf365
 t124:=Tryz.underlying313
 a124:=Tryz.isAgg313
 z124:=Tryz.sizeOf313
 v124:=Tryz.zeroValue313
 t138:=Tryz.underlying367
 a138:=Tryz.isAgg367
 z138:=Tryz.sizeOf367
 v138:=Tryz.zeroValue367
 t139:=Tryz.underlying368
 a139:=Tryz.isAgg368
 z139:=Tryz.sizeOf368
 v139:=Tryz.zeroValue368
 g3:=by kernel_rfl
 g4:=by kernel_rfl}
end Go.Proofs
namespace Go.K
open Go.Proofs
set_option maxRecDepth 10000
open Go.RowKit Go.Shelf
def l5:List UInt8:=[97,98,99,100,101,102,103,104,105,106,107,108,109,110,111,112,113,114,115,116,117,118,119,120,121,122]
def iG (b:UInt8):Bool:=decide (97≤b.toNat∧b.toNat≤122)
def gx (s:List UInt8):Bool:=decide (1≤s.length∧s.length≤12)&&s.all iG
theorem Eh (b:UInt8):l5.contains b=iG b:=by
 have key:∀n:Fin 256,l5.contains (UInt8.ofNat n)=iG (UInt8.ofNat n):=by decide
 have:=key ⟨b.toNat,UInt8.toNat_lt b⟩;simpa using this
theorem drop_nil {α:Type} (p:α→Bool):∀l:List α,l.dropWhile p=[]↔∀x∈l,p x=true
 |[]=>by simp
 |x::l=>by
  rw[List.dropWhile_cons];by_cases h:p x=true
  ·rw[if_pos h,drop_nil p l];simp[h]
  ·rw[if_neg h];simp[h]
theorem zp (s:List UInt8):Lib.trimS s l5=[]↔s.all iG=true:=by
 have e:(fun b=>l5.contains b)=iG:=funext Eh;unfold Lib.trimS Lib.trimLeftS Lib.trimRightS;rw[e,drop_nil,fA];constructor
 ·intro h
  have h2:s.reverse.dropWhile iG=[]:=by
   cases hd:s.reverse.dropWhile iG with
   |nil=>rfl
   |cons x r=>
    have h3:=h x (by rw[hd];simp);have h4:=List.head?_dropWhile_not iG s.reverse;rw[hd]at h4;simp[h3]at h4
  intro x hx;exact(drop_nil _ _).1 h2 x (List.mem_reverse.2 hx)
 ·intro h x hx;rw[(drop_nil iG s.reverse).2 (fun y hy=>h y (List.mem_reverse.1 hy))]at hx
  cases hx
theorem J0 (s:List UInt8) (hs:s.length≤140737488355328) (w:World):Spec Tryz.prog 184 #[.string ⟨s.toArray⟩,.string ⟨l5.toArray⟩] w (fun v w'=>v= .string ⟨(Lib.trimS s l5).toArray⟩∧∀M,Step M w M w' aC):=
 (Any.strings_Trim_ascii Tryz.QH Tryz.zeroValue309 (by kernel_rfl) ⟨s.toArray⟩ ⟨l5.toArray⟩ w (by simp[ByteArray.size];omega) (by decide) (fun j b hj=>by
  have hm:b∈l5:=az hj;have:=Eh b;rw[jR.2 hm]at this;have h2:97≤b.toNat∧b.toNat≤122:=by simpa[iG]using this.symm
  omega)).mono fun e w' ⟨h1,h2⟩=>⟨_,h1,rfl,fun M=> .y4 h2 M⟩
theorem J1 (s:List UInt8) (hs:s.length≤140737488355328) (w0:World):
  Spec Tryz.prog 129 #[.string ⟨s.toArray⟩] w0 (fun v w=>v= .bool (gx s)∧∀M,Step M w0 M w aC):=by
 refine bg (args:=[_]) (fn:=Tryz.f129) Tryz.func129 rfl (n:=15) Tryz.ntmps129 (aj (ae (ah rfl rfl (ab (aj (ae (ad rfl rfl (Rg.Lk (p:=s) (q:=[]) rfl rfl rfl (ad rfl rfl ?_)))))))));refine aS (g:=5) rfl (fun iU=>?_) (fun iU=>?_)
 ·refine al rfl rfl (ad rfl rfl (al rfl rfl (Rg.nQ aK rfl rfl (aU (v':= .int .i64 (s.length:Int)) (by simp[ByteArray.size]) (al rfl rfl (gQ rfl rfl rfl (aZ rfl rfl rfl (ad rfl rfl ?_))))))));refine aS (g:=10) rfl (fun afY=>?_) (fun afY=>?_)
  ·refine al rfl rfl (ad rfl rfl (al rfl rfl ?_));refine aX rfl rfl aeW (J0 s hs _) (fun r w9 hc=>?_);obtain⟨rfl,s9⟩:=hc;refine al rfl rfl (Rg.Im (p:=Lib.trimS s l5) (q:=[]) rfl rfl rfl (aZ rfl rfl rfl (ah rfl rfl (ab (aP ?_)))))
   first
   |exact aV rfl rfl ⟨by rw[gx,decide_eq_true (p:=1≤s.length∧s.length≤12) ⟨o9.2 iU,by omega⟩,ff];exact congrArg Value.bool (by rw[lZ,decide_eq_true_eq];exact zp s),s9⟩
   |exact aV rfl rfl ⟨by rw[gx,decide_eq_false (p:=1≤s.length∧s.length≤12) (by omega),kX],fun M=>au _ _⟩
   |(have Vo:s=[]:=Classical.not_not.1 iU
     subst Vo;exact aV rfl rfl ⟨rfl,fun M=>au _ _⟩)
  ·refine aw rfl rfl rfl rfl (aw rfl rfl rfl rfl (aw rfl rfl rfl rfl (aE rfl rfl rfl (ah rfl rfl (ab (aP ?_))))))
   first
   |exact aV rfl rfl ⟨by rw[gx,decide_eq_true (p:=1≤s.length∧s.length≤12) ⟨o9.2 iU,by omega⟩,ff];exact congrArg Value.bool (by rw[lZ,decide_eq_true_eq];exact zp s),s9⟩
   |exact aV rfl rfl ⟨by rw[gx,decide_eq_false (p:=1≤s.length∧s.length≤12) (by omega),kX],fun M=>au _ _⟩
   |(have Vo:s=[]:=Classical.not_not.1 iU
     subst Vo;exact aV rfl rfl ⟨rfl,fun M=>au _ _⟩)
 ·refine aw rfl rfl rfl rfl (aw rfl rfl rfl rfl (aw rfl rfl rfl rfl (aE rfl rfl rfl (ad rfl rfl (aw rfl rfl rfl rfl (aw rfl rfl rfl rfl (aw rfl rfl rfl rfl (aE rfl rfl rfl (ah rfl rfl (ab (aP ?_)))))))))))
  first
  |exact aV rfl rfl ⟨by rw[gx,decide_eq_true (p:=1≤s.length∧s.length≤12) ⟨o9.2 iU,by omega⟩,ff];exact congrArg Value.bool (by rw[lZ,decide_eq_true_eq];exact zp s),s9⟩
  |exact aV rfl rfl ⟨by rw[gx,decide_eq_false (p:=1≤s.length∧s.length≤12) (by omega),kX],fun M=>au _ _⟩
  |(have Vo:s=[]:=Classical.not_not.1 iU
    subst Vo;exact aV rfl rfl ⟨rfl,fun M=>au _ _⟩)
theorem MB {s:List UInt8} (h:∀(k:Nat) c,s[k]? =some c→iG c=true):s.all iG=true:=fA.2 fun c hc=>by
 obtain⟨k,hk⟩:=bz.1 hc;exact h k c hk
theorem uD {s:List UInt8} {i:Nat} (h:i<s.length):s[i]? =some (s.getD i 0):=by rw[aA,ar h];rfl
theorem tF {M:aD} {w:World} {p:Fd} {v:Value} (h:RT.fd.V M w p v):v= .agg #[.string ⟨p.1.toArray⟩,.string ⟨p.2.toArray⟩]:=by
 obtain⟨vs,⟨va,vb,rfl,⟨rfl,_⟩,⟨rfl,_⟩⟩,rfl⟩:=h;rfl
theorem Vp {M:aD} {w:World} {p:Fd} {v:Value} (h:RT.fd.V M w p v):p.1.length≤140737488355328∧p.2.length≤140737488355328:=by
 obtain⟨vs,⟨va,vb,rfl,⟨rfl,h1⟩,⟨rfl,h2⟩⟩,_⟩:=h;exact⟨h1,h2⟩
def AT:List Fd→List Fd→Nat→Int
 |_,[],n=>if 500<n then 7 else 0
 |seen,f::fs,n=>if gx f.1=false then 4 else if(seen.any fun g=>decide (g.1=f.1))=true then 5 else if mV 0 (words f.2)≠0 then mV 0 (words f.2)else AT (seen++[f]) fs (n+(words f.2).length)
def l6 (d:Dc):Int:=if 8<d.2.length then 7 else AT [] d.2 0
theorem IF {fs:List Fd} {i n:Nat} {x:Fd} (h:fs[i]? =some x):AT (fs.take i) (fs.drop i) n=if gx x.1=false then 4 else if((fs.take i).any fun g=>decide (g.1=x.1))=true then 5 else if mV 0 (words x.2)≠0 then mV 0 (words x.2)else AT (fs.take (i+1)) (fs.drop (i+1)) (n+(words x.2).length):=by
 have dY:=(an.1 h).1;rw[dH dY,(an.1 h).2,bI,h];rfl
theorem uE {fs:List Fd} {i n:Nat} (h:fs.length≤i):AT (fs.take i) (fs.drop i) n=if 500<n then 7 else 0:=by
 rw[gX h];rfl
theorem zq (s:List UInt8) (hs:s.length≤140737488355328) (w0:World):
  Spec Tryz.prog 93 #[.string ⟨s.toArray⟩] w0 (fun v w=>v= .bool (gx s)∧w=w0):=by
 refine bg (args:=[_]) (fn:=Tryz.f93) Tryz.func93 rfl (n:=28) Tryz.ntmps93 (aj (ae (ah rfl rfl (ab (aj (aj (ae (ah rfl rfl (ab (aY ?_))))))))));refine dh (σ:=Nat) (fun i=>[(0,.string ⟨s.toArray⟩),(3,.int .i64 (i:Int))]) (fun i w=>w=w0∧i≤s.length∧∀k c,k<i→s[k]? =some c→iG c=true) (fun i=>s.length-i) 0 (.cons rfl (.cons rfl .nil)) ?_ ?_
 ·exact⟨rfl,bD _,fun k c h=>absurd h (Nat.not_lt_zero k)⟩
 ·rintro i w ⟨rfl,hi,hok⟩;refine aj (aj (ae (ad rfl rfl (ad rfl rfl (Rg.nQ aK rfl rfl (aU (v':= .int .i64 (s.length:Int)) (by simp[ByteArray.size]) (cg rfl rfl rfl (ab ?_))))))));refine bM rfl (fun c2=>?_) (fun c2=>?_)
  ·refine aT (aj (aY (aj (ae (ad rfl rfl (ad rfl rfl (Rg.Ix (c:=s.getD i 0) aK rfl rfl rfl (by omega) (by rw[ay];exact uD (by omega)) (cg rfl rfl rfl (ad rfl rfl ?_)))))))));refine aS (g:=14) rfl (fun afZ=>?_) (fun afZ=>?_)
   ·refine aw rfl rfl rfl rfl (aw rfl rfl rfl rfl (aw rfl rfl rfl rfl (aw rfl rfl rfl rfl (aZ rfl rfl rfl (ab (ot rfl (aj (ae (ah rfl rfl (ab (aP ?_)))))))))))
    have hx:s.all iG=false:=dd.2 fun h=>by
     have h2:=fA.1 h _ (az (uD (s:=s) (i:=i) (by omega)));simp only[iG,decide_eq_true_eq]at h2;omega
    exact aV rfl rfl ⟨by rw[gx,hx,Bool.and_false],rfl⟩
   ·refine al rfl rfl (ad rfl rfl (al rfl rfl (ad rfl rfl (al rfl rfl (Rg.Ix (c:=s.getD i 0) aK rfl rfl rfl (by omega) (by rw[ay];exact uD (by omega)) (al rfl rfl (jk rfl rfl rfl (aE rfl rfl rfl (ab ?_)))))))));refine bM rfl (fun c4=>?_) (fun c4=>?_)
    ·refine aj (ae (ah rfl rfl (ab (aP ?_))))
     have hx:s.all iG=false:=dd.2 fun h=>by
      have h2:=fA.1 h _ (az (uD (s:=s) (i:=i) (by omega)));simp only[iG,decide_eq_true_eq]at h2;omega
     exact aV rfl rfl ⟨by rw[gx,hx,Bool.and_false],rfl⟩
    ·refine aT (ae (ad rfl rfl (bG rfl rfl rfl (by omega) (ah rfl rfl (ab ?_)))));refine⟨rfl,i+1,(.cons rfl (.cons rfl .nil)),?_,?_⟩
     ·exact⟨rfl,by omega,fun k c h hc=>by
       rcases cE k i with h2|h2
       ·exact hok k c h2 hc
       ·obtain rfl:k=i:=by omega
        rw[uD (by omega)]at hc;cases hc;simp only[iG,decide_eq_true_eq];omega⟩
     ·omega
  ·refine cH (aj (ae (ad rfl rfl (Rg.nQ aK rfl rfl (aU (v':= .int .i64 (s.length:Int)) (by simp[ByteArray.size]) (ef rfl rfl rfl (ad rfl rfl ?_)))))));refine aS (g:=23) rfl (fun oN=>?_) (fun oN=>?_)
   ·refine al rfl rfl (ad rfl rfl (al rfl rfl (Rg.nQ aK rfl rfl (aU (v':= .int .i64 (s.length:Int)) (by simp[ByteArray.size]) (al rfl rfl (gQ rfl rfl rfl (aZ rfl rfl rfl (ah rfl rfl (ab (aP ?_))))))))));have ha:s.all iG=true:=MB fun k c hc=>hok k c (by have:=(an.1 hc).1;omega) hc
    first
    |exact aV rfl rfl ⟨by rw[gx,ha,Bool.and_true];exact congrArg Value.bool (decide_eq_decide.2 (by omega)),rfl⟩
    |exact aV rfl rfl ⟨by rw[gx,ha,Bool.and_true];exact congrArg Value.bool (decide_eq_false (by omega)).symm,rfl⟩
   ·refine aw rfl rfl rfl rfl (aw rfl rfl rfl rfl (aw rfl rfl rfl rfl (aE rfl rfl rfl (ah rfl rfl (ab (aP ?_))))));have ha:s.all iG=true:=MB fun k c hc=>hok k c (by have:=(an.1 hc).1;omega) hc
    first
    |exact aV rfl rfl ⟨by rw[gx,ha,Bool.and_true];exact congrArg Value.bool (decide_eq_decide.2 (by omega)),rfl⟩
    |exact aV rfl rfl ⟨by rw[gx,ha,Bool.and_true];exact congrArg Value.bool (decide_eq_false (by omega)).symm,rfl⟩
theorem J2 {M:aD} {o:Fd} {v0:Value} (w0:World) (hM:Lt M w0) (hv:RT.fd.V M w0 o v0) {nm:List UInt8} {t:Value} {bf:Nat} (g:w0.heap[bf]? =some (.cells #[.string ⟨nm.toArray⟩,t] 166 (0,0))) (Bw:M bf):
  Spec Tryz.prog 131 #[v0,.pointer (some ⟨bf,0,none⟩)] w0 (fun v w=>v= .bool (decide (o.1=nm))∧Step M w0 M w aC):=by
 refine bg (args:=[_,_]) (fn:=Tryz.f131) Tryz.func131 rfl (n:=9) Tryz.ntmps131 ?_;have S:Step M w0 M w0 aC:=(au _ _).cB (fun _ h=>h.elim) (fun _ h=>h.elim);refine aj (ae ?_);refine Rg.pI (A:=RT.fd) rfl rfl hM hv rfl (fun u0 w1 dx s0 _=>?_);have:=ak g;replace Bw:=(s0.mem _ this).2 Bw;replace g:=s0.aL g;replace hM:=s0.lt hM;have:=S.size;replace S:=S.aB s0;refine ah rfl rfl (ab (aj (ae ?_)));refine aQ (M:=M) (A:=RT.fd) (B:=RT.str) cz rfl rfl I9 (by decide) (Ye) rfl rfl (by decide) (by assumption) (by repeat (first|exact aq _ _|refine bc (bF (by assumption)) ?_)) (fun CB nF=>?_);refine bU (M:=M) aK rfl rfl rfl rfl rfl nF (aq _ _) (fun v1 vK=>?_);obtain rfl:=gm vK;refine bJ (o':=0) cz rfl rfl I9 (by decide) rfl rfl (aN aK rfl rfl rfl (by assumption) rfl (Rg.Im (p:=o.1) (q:=nm) rfl rfl rfl (ah rfl rfl (ab (aP ?_)))));exact aV rfl rfl ⟨rfl,S⟩
theorem G3 {M:aD} {fs:List Fd} {v0:Value} (w0:World) (hM:Lt M w0) (hv:(RT.fd.sl).V M w0 fs v0) {nm:List UInt8} {t:Value} {bf:Nat} (g:w0.heap[bf]? =some (.cells #[.string ⟨nm.toArray⟩,t] 166 (0,0))) (Bw:M bf):
  Spec Tryz.prog 185 #[v0,.func (.func 131) #[] #[.pointer (some ⟨bf,0,none⟩)]] w0 (fun v w=>(∃k:Int,v= .int .i64 k∧(0≤k↔(fs.any fun g=>decide (g.1=nm))=true)∧ -1≤k∧k≤9223372036854775807)∧Step M w0 M w aC):=by
 have Gb:=dD hv;refine bg (args:=[_,_]) (fn:=Tryz.f185) Tryz.func185 rfl (n:=19) Tryz.ntmps185 ?_;have S:Step M w0 M w0 aC:=(au _ _).cB (fun _ h=>h.elim) (fun _ h=>h.elim);refine aj (ae (ah rfl rfl (ab (aj (aj (ae (ad rfl rfl (bN bB rfl hv rfl (ad rfl rfl (ab (aY ?_)))))))))));refine dh (σ:=Nat) (fun i=>[(0,v0),(1,.func (.func 131) #[] #[.pointer (some ⟨bf,0,none⟩)]),(6,v0),(7,.int .i64 (fs.length:Int)),(8,.int .i64 (i:Int))]) (fun i w=>Lt M w∧Step M w0 M w aC∧(w.heap[bf]? =some (.cells #[.string ⟨nm.toArray⟩,t] 166 (0,0)))∧(RT.fd.sl).V M w fs v0∧i≤fs.length∧∀k o,k<i→fs[k]? =some o→o.1≠nm) (fun i=>fs.length-i) 0 (.cons rfl (.cons rfl (.cons rfl (.cons rfl (.cons rfl .nil))))) ?_ ?_
 ·exact⟨hM,S,g,hv,bD _,fun k c h=>absurd h (Nat.not_lt_zero k)⟩
 ·rintro i w ⟨hM,S,g,hv,hi,hok⟩;refine aj (ae (cg rfl rfl rfl (ab (aj ?_))));refine bM rfl (fun c2=>?_) (fun c2=>?_)
  ·refine aT (aj (aY (aj (ae (ad rfl rfl (ah rfl rfl (ab (aj (ae (ad rfl rfl (ad rfl rfl ?_)))))))))));refine ad rfl rfl ?_;refine cv (M:=M) bB kO rfl rfl rfl hv (aq _ _) (by omega) (fun u4 o xo Ge=>?_);refine cT (M:=M) (A:=RT.fd) cz rfl kO (by decide) rfl rfl rfl Ge (aq _ _) (fun v4 nv=>?_);rw[ay]at xo;refine rO (first:=[]) (captured:=[.pointer (some ⟨bf,0,none⟩)]) rfl rfl rfl aeQ (J2 _ hM nv g Bw) (fun r5 w5 hc=>?_);obtain⟨rfl,s5⟩:=hc;have:=ak g;replace Bw:=(s5.mem _ this).2 Bw;replace g:=s5.aL g;replace hv:=hv.le s5.le;replace hM:=s5.lt hM;have:=S.size;replace S:=S.aB s5;refine ab ?_;refine bM rfl (fun c4=>?_) (fun c4=>?_)
   ·refine aj (ae (ad rfl rfl (ah rfl rfl (ab (aP ?_)))));exact aV rfl rfl ⟨⟨_,rfl,⟨fun _=>vL.2 ⟨o,az xo,by simpa using(by assumption)⟩,fun _=>by omega⟩,by omega,by omega⟩,S.back⟩
   ·refine aT (ae (bG rfl rfl rfl (by omega) (ad rfl rfl (ab ?_))));refine⟨rfl,i+1,(.cons rfl (.cons rfl (.cons rfl (.cons rfl (.cons rfl .nil))))),?_,?_⟩
    ·exact⟨hM,S,g,hv,by omega,fun k o' h hc=>by
      rcases cE k i with h2|h2
      ·exact hok k o' h2 hc
      ·obtain rfl:k=i:=by omega
       rw[xo]at hc;cases hc;assumption⟩
    ·omega
  ·refine cH (aj (ae (ah rfl rfl (ab (aP ?_)))))
   exact aV rfl rfl ⟨⟨-1,rfl,⟨fun h=>by omega,fun h=>by
    obtain⟨o,ho,he⟩:=vL.1 h;obtain⟨k,hk⟩:=bz.1 ho;exact absurd (by simpa using he) (hok k o (by have:=(an.1 hk).1;omega) hk)⟩,by omega,by omega⟩,S.back⟩
theorem Ei {M:aD} {fs:List Fd} {v0:Value} (w0:World) (hM:Lt M w0) (hv:(RT.fd.sl).V M w0 fs v0) {nm:List UInt8} {t:Value} {bf:Nat} (g:w0.heap[bf]? =some (.cells #[.string ⟨nm.toArray⟩,t] 166 (0,0))) (Bw:M bf):
  Spec Tryz.prog 130 #[v0,.func (.func 131) #[] #[.pointer (some ⟨bf,0,none⟩)]] w0 (fun v w=>v= .bool (fs.any fun g=>decide (g.1=nm))∧Step M w0 M w aC):=by
 refine bg (args:=[_,_]) (fn:=Tryz.f130) Tryz.func130 rfl (n:=9) Tryz.ntmps130 ?_;have S:Step M w0 M w0 aC:=(au _ _).cB (fun _ h=>h.elim) (fun _ h=>h.elim);refine aj (ae (ah rfl rfl (ab (aj (ae (ad rfl rfl (ad rfl rfl ?_)))))));refine aX rfl rfl aeX (G3 _ hM hv g Bw) (fun r1 w1 hc=>?_);obtain⟨⟨k,rfl,hk,_⟩,s1⟩:=hc;have:=ak g;replace Bw:=(s1.mem _ this).2 Bw;replace g:=s1.aL g;replace hv:=hv.le s1.le;replace hM:=s1.lt hM;have:=S.size;replace S:=S.aB s1;refine ef rfl rfl rfl (ah rfl rfl (ab (aP ?_)));exact aV rfl rfl ⟨congrArg Value.bool (by rw[lZ,decide_eq_true_eq];exact hk),S⟩
theorem MC {M:aD} {d:Dc} {v0:Value} (w0:World) (hM:Lt M w0) (hv:RT.dc.V M w0 d v0) (hl:∀f∈d.2,f.1.length≤900000∧f.2.length≤900000):
  Spec Tryz.prog 86 #[v0] w0 (fun v w=>v= .int .i64 (l6 d)∧Step M w0 M w aC):=by
 have jO:=hM;refine bg (args:=[_]) (fn:=Tryz.f86) Tryz.func86 rfl (n:=49) Tryz.ntmps86 ?_;have S:Step M w0 M w0 aC:=(au _ _).cB (fun _ h=>h.elim) (fun _ h=>h.elim);refine aj (ae ?_);refine Rg.pI (A:=RT.dc) rfl rfl hM hv rfl (fun u0 w1 dx s0 _=>?_);replace hM:=s0.lt hM;have:=S.size;replace S:=S.aB s0;refine ah rfl rfl (ab (aj (aj (ae ?_))));refine aQ (M:=M) (A:=RT.dc) (B:=(RT.fd).sl) bm rfl rfl wo (by decide) (JZ) rfl rfl (by decide) (by assumption) (by repeat (first|exact aq _ _|refine bc (bF (by assumption)) ?_)) (fun CB nF=>?_);refine bU (M:=M) bB rfl rfl rfl rfl rfl (by assumption) (by repeat (first|exact aq _ _|refine bc (bF (by assumption)) ?_)) (fun AU nG=>?_);refine bN bB rfl nG rfl (jk rfl rfl rfl (ab ?_));refine bM rfl (fun c1=>?_) (fun c1=>?_)
 ·refine aj (ae (ah rfl rfl (ab (aP ?_))));exact aV rfl rfl ⟨by rw[l6,if_pos (by omega)],S.back⟩
 ·refine aT (aj (ae (ah rfl rfl (ab (aj (aj (ae ?_)))))));refine aQ (M:=M) (A:=RT.dc) (B:=(RT.fd).sl) bm rfl rfl wo (by decide) (JZ) rfl rfl (by decide) (by assumption) (by repeat (first|exact aq _ _|refine bc (bF (by assumption)) ?_)) (fun Vq IG=>?_);refine bU (M:=M) bB rfl rfl rfl rfl rfl (by assumption) (by repeat (first|exact aq _ _|refine bc (bF (by assumption)) ?_)) (fun Vr MD=>?_);refine bN bB rfl MD rfl (ad rfl rfl (ab (aY ?_)));refine dh (σ:=Nat×Nat) (fun q=>[(1,u0),(3,.int .i64 (q.2:Int)),(13,Vr),(14,.int .i64 (d.2.length:Int)),(15,.int .i64 (q.1:Int))]) (fun q w=>∃M',Lt M' w∧Step M w0 M' w aC∧cO RT.dc M' w u0 d∧(RT.fd.sl).V M' w d.2 Vr∧l6 d=AT (d.2.take q.1) (d.2.drop q.1) q.2∧q.1≤d.2.length∧q.2≤900001*q.1) (fun q=>d.2.length-q.1) (0,0) (.cons rfl (.cons rfl (.cons rfl (.cons rfl (.cons rfl .nil))))) ?_ ?_
  ·exact⟨M,hM,S,dx,MD,by rw[l6,if_neg (by omega)];rfl,bD _,aR _⟩
  ·rintro⟨i,n⟩ w ⟨M1,hM,S,dx,jd,G4,hi,hn⟩;dsimp only at G4 hi hn ⊢;refine aj (ae (cg rfl rfl rfl (ab (aj ?_))));refine bM rfl (fun c5=>?_) (fun c5=>?_)
   ·refine aT (aj (aY (aj (ae (ad rfl rfl ?_)))));refine cv (M:=M1) bB kO rfl rfl rfl jd (aq _ _) (by omega) (fun u6 x K1 GZ=>?_);refine cT (M:=M1) (A:=RT.fd) cz rfl kO (by decide) rfl rfl rfl GZ (aq _ _) (fun v6 rD=>?_);rw[ay]at K1;obtain rfl:=tF rD;have kM:=IF (n:=n) K1;have ru:=hl _ (az K1);refine dU M1 kO rfl (fun Vs af0 aqj aqk oN ME=>?_);obtain⟨Ej,MF⟩:∃M',M'=ins M1 Vs:=⟨_,rfl⟩;rw[←MF]at ME;have mW:Ej Vs:=by rw[MF];exact .inl rfl
    change af0.heap[Vs]? =some (.cells #[.string ⟨#[]⟩,.string ⟨#[]⟩] _ _)at oN;replace dx:=dx.le (by decide) ME.le;replace jd:=jd.le ME.le;replace hM:=ME.lt hM;have:=S.size;replace S:=S.aB ME;refine ah rfl rfl ?_;refine dI (M:=Ej) (vs:=[.string ⟨x.1.toArray⟩,.string ⟨x.2.toArray⟩]) kO rfl rfl (by intro u hu;simp at hu;rcases hu with rfl|rfl<;>rfl) rfl rfl oN mW (fun w6 g6 s6=>?_);have:=ak oN;replace mW:=(s6.mem _ this).2 mW;replace dx:=dx.le (by decide) s6.le;replace jd:=jd.le s6.le;replace hM:=s6.lt hM;have:=S.size;replace S:=S.trans s6 (fun k hk h=>by have h:_=_:=h;subst h;first|(exfalso;omega)|(show _≤_;omega)|exact⟨by first|omega|assumption,(S.mem _ hk).1 ((s6.mem _ (ak oN)).1 mW)⟩|exact .inl rfl|exact .inr rfl|exact .inr (.inl rfl)|exact .inr (.inr rfl)|exact .inr (.inr (.inl rfl))|exact rfl);have SN:=g6;clear oN;have oN:=SN;clear SN;refine ab (aj (ae (bJ (o':=1) cz rfl rfl I9 (by decide) rfl rfl (aN aK rfl rfl rfl (by assumption) rfl ?_))));refine aX rfl rfl aeN (JY _ hM ru.2) (fun r7 w7 hc=>?_);obtain⟨⟨u7,rfl,hu7⟩,s7⟩:=hc;have:=ak oN;replace mW:=(s7.mem _ this).2 mW;replace oN:=s7.aL oN;replace dx:=dx.le (by decide) s7.le;replace jd:=jd.le s7.le;replace hM:=s7.lt hM;have:=S.size;replace S:=S.aB s7;refine ad rfl rfl (bW rfl rfl rfl (bW rfl rfl rfl (ah rfl rfl (ah rfl rfl (ab (aj (aY (aj (ae (bJ (o':=0) cz rfl rfl I9 (by decide) rfl rfl (aN aK rfl rfl rfl (by assumption) rfl ?_)))))))))));refine aX rfl rfl aeO (J1 x.1 (by omega) _) (fun r8 w8 hc=>?_);obtain⟨rfl,s8_⟩:=hc;have s8:=s8_ Ej;have:=ak oN;replace mW:=(s8.mem _ this).2 mW;replace oN:=s8.aL oN;replace dx:=dx.le (by decide) s8.le;replace jd:=jd.le s8.le;replace hM:=s8.lt hM
    have:=S.size;replace S:=S.aB s8;refine lY rfl rfl (aU (v':= .bool (decide (gx x.1=false))) (by cases gx x.1<;>rfl) (ah rfl rfl (ab ?_)));refine bM rfl (fun c8=>?_) (fun c8=>?_)
    ·refine aj (ae (ah rfl rfl (ab (aP ?_))));exact aV rfl rfl ⟨by rw[G4,kM,if_pos (by assumption)],S.back⟩
    ·refine aj (ae ?_);refine aQ (M:=Ej) (A:=RT.dc) (B:=(RT.fd).sl) bm rfl rfl wo (by decide) (JZ) rfl rfl (by decide) (by assumption) (by repeat (first|exact aq _ _|refine bc (bF (by assumption)) ?_)) (fun ZO Vt=>?_);refine bU (M:=Ej) bB rfl rfl rfl rfl rfl (by assumption) (by repeat (first|exact aq _ _|refine bc (bF (by assumption)) ?_)) (fun ZQ MG=>?_);refine ad rfl rfl ?_;refine Rg.Cb bB kO rfl rfl rfl MG (by omega) (fun u10 QI=>?_);rw[ay]at QI;refine kr (xs:=[]) (ys:=[.tmp 5]) rfl rfl rfl ?_;refine aX rfl rfl aeP (Ei _ hM QI oN mW) (fun r10 w10 hc=>?_);obtain⟨rfl,zr⟩:=hc;have:=ak oN;replace mW:=(zr.mem _ this).2 mW;replace oN:=zr.aL oN;replace dx:=dx.le (by decide) zr.le;replace jd:=jd.le zr.le;replace hM:=zr.lt hM;have:=S.size;replace S:=S.aB zr;refine ah rfl rfl (aU (v':= .bool (decide (((d.2.take i).any fun g=>decide (g.1=x.1))=true))) (by cases((d.2.take i).any fun g=>decide (g.1=x.1))<;>rfl) (ab ?_));refine bM rfl (fun c10=>?_) (fun c10=>?_)
     ·refine aj (ae (ah rfl rfl (ab (aP ?_))));exact aV rfl rfl ⟨by rw[G4,kM,if_neg (by assumption),if_pos (by assumption)],S.back⟩
     ·refine aj (ae (ad rfl rfl (eM rfl rfl rfl (ah rfl rfl (ab ?_)))));refine bM rfl (fun U5=>?_) (fun U5=>?_)
      ·refine aj (ae (ad rfl rfl (ah rfl rfl (ab (aP ?_)))));exact aV rfl rfl ⟨by rw[G4,kM,if_neg (by assumption),if_neg (by assumption),if_pos (by assumption)];rfl,S.back⟩
      ·refine aT (ae (ad rfl rfl ?_));have SO:mV 0 (words x.2)=0:=Classical.not_not.1 U5;obtain⟨a,cap,rfl⟩:=hu7 SO;have hwl:=rB x.2;refine ad rfl rfl (Rg.mM Tryz.underlying212 rfl rfl (bG rfl rfl rfl (by omega) (ah rfl rfl (ab (ae (bG rfl rfl rfl (by omega) (ad rfl rfl (ab ?_))))))));refine⟨rfl,(i+1,n+(words x.2).length),(.cons rfl (.cons rfl (.cons rfl (.cons rfl (.cons rfl .nil))))),?_,?_⟩
       ·exact⟨_,hM,S,dx,jd,by rw[G4,kM,if_neg (by assumption),if_neg (by assumption),if_neg U5],by dsimp only;omega,by dsimp only;omega⟩
       ·dsimp only;omega
   ·refine cH (aj (aj (ae (ad rfl rfl (jk rfl rfl rfl (ab ?_))))));refine bM rfl (fun Yf=>?_) (fun Yf=>?_)
    ·refine aj (ae (ah rfl rfl (ab (aP ?_))));exact aV rfl rfl ⟨by rw[G4,uE (by omega),if_pos (by omega)],S.back⟩
    ·refine aT (aj (ae (ah rfl rfl (ab (aP ?_)))));exact aV rfl rfl ⟨by rw[G4,uE (by omega),if_neg (by omega)],S.back⟩
end Go.K

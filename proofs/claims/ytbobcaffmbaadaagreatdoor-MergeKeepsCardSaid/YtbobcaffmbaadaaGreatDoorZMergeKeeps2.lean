/- What the law 'MergeKeeps' needs of walks and plain Lean, part 2: nothing is assumed beyond the texts that it imports. -/
import Derived.ChangeKeysEq
import Derived.Ground.Names2Prog
import Derived.KernelRfl
import Derived.Laws.IdiomCopy
import Derived.Laws.MakeOwn
import Derived.Laws.StructEq
import Derived.Lib.RuneBytes
import Derived.Lib.SliceRun
import Derived.Maps.OwnSet
import Derived.Shelf.SlGeneric
import Derived.Shelf.Slices.SearchI
import Derived.Shelf.Small.Strs
import Derived.Shelf.Small.Utf8
import Derived.Shelf.Strings.Builder1
import Derived.Shelf.Strings.BuilderRune
import Derived.Shelf.Strings.SlTrimAscii
import Derived.Test.YtbobcaffmbaadaaGreatDoorProg
import Derived.Test.YtbobcaffmbaadaaGreatDoorZMergeKeeps1
set_option linter.unusedVariables false
set_option linter.unusedSimpArgs false
theorem ab:type_of% @Go.K.Rg.nil:=@Go.K.Rg.nil
theorem ad:type_of% @Go.K.Rg.move:=@Go.K.Rg.move
theorem ae:type_of% @Go.K.T.region:=@Go.K.T.region
theorem ah:type_of% @Go.K.Rg.assign:=@Go.K.Rg.assign
theorem aj:type_of% @Go.K.T.seq:=@Go.K.T.seq
theorem al:type_of% @Go.K.Rg.aG:=@Go.K.Rg.aG
theorem an:type_of% @Go.Proofs.Tryz.underlying37:=@Go.Proofs.Tryz.underlying37
theorem ao:type_of% @List.getElem?_eq_some_iff:=@List.getElem?_eq_some_iff
theorem aq:type_of% @Go.K.Le.refl:=@Go.K.Le.refl
theorem ar:type_of% @Go.K.Rg.bL:=@Go.K.Rg.bL
theorem au:type_of% @List.getElem?_eq_getElem:=@List.getElem?_eq_getElem
theorem aw:type_of% @Go.K.Step.refl:=@Go.K.Step.refl
theorem ax:type_of% @Go.Proofs.Tryz.underlying3:=@Go.Proofs.Tryz.underlying3
theorem ay:type_of% @Int.toNat_natCast:=@Int.toNat_natCast
theorem az:type_of% @List.mem_of_getElem?:=@List.mem_of_getElem?
theorem aA:type_of% @List.getD_eq_getElem?_getD:=@List.getD_eq_getElem?_getD
theorem aE:type_of% @Go.K.Rg.bB:=@Go.K.Rg.bB
theorem aF:type_of% @Go.K.bJ.cons:=@Go.K.bJ.cons
theorem aH:type_of% @List.length_map:=@List.length_map
theorem aI:type_of% @Option.some.inj:=@Option.some.inj
theorem aJ:type_of% @Go.Proofs.Tryz.underlying9:=@Go.Proofs.Tryz.underlying9
theorem aL:type_of% @Go.K.Rg.fieldAddr:=@Go.K.Rg.fieldAddr
theorem aN:type_of% @Go.K.Rg.bA:=@Go.K.Rg.bA
theorem aO:type_of% @Nat.le_refl:=@Nat.le_refl
theorem aP:type_of% @Go.K.Rg.bP:=@Go.K.Rg.bP
theorem aQ:type_of% @Go.K.T.ret:=@Go.K.T.ret
theorem aS:type_of% @Go.Proofs.Tryz.underlying57:=@Go.Proofs.Tryz.underlying57
theorem aT:type_of% @Go.K.T.skip:=@Go.K.T.skip
theorem aU:type_of% @Go.K.Rg.eqv:=@Go.K.Rg.eqv
theorem aW:type_of% @Go.K.Rg.call:=@Go.K.Rg.call
theorem aX:type_of% @Go.K.Rg.bY:=@Go.K.Rg.bY
theorem aY:type_of% @Go.K.Le.trans:=@Go.K.Le.trans
theorem aZ:type_of% @Go.K.T.block:=@Go.K.T.block
theorem a8:type_of% @Go.Proofs.Tryz.underlying69:=@Go.Proofs.Tryz.underlying69
theorem bc:type_of% @List.take_of_length_le:=@List.take_of_length_le
theorem bj:type_of% @List.length_append:=@List.length_append
theorem bm:type_of% @List.getElem?_map:=@List.getElem?_map
theorem bu:type_of% @Go.K.Step.le:=@Go.K.Step.le
theorem bz:type_of% @Go.Proofs.Tryz.underlying67:=@Go.Proofs.Tryz.underlying67
theorem bC:type_of% @List.length_take:=@List.length_take
theorem bD:type_of% @Go.K.Rg.cW:=@Go.K.Rg.cW
theorem bE:type_of% @List.mem_iff_getElem?:=@List.mem_iff_getElem?
theorem bF:type_of% @Go.Proofs.Tryz.underlying72:=@Go.Proofs.Tryz.underlying72
theorem bG:type_of% @Nat.zero_le:=@Nat.zero_le
theorem bH:type_of% @List.mem_singleton:=@List.mem_singleton
theorem bI:type_of% @Go.Proofs.Tryz.underlying80:=@Go.Proofs.Tryz.underlying80
theorem bK:type_of% @List.mem_cons_self:=@List.mem_cons_self
theorem bM:type_of% @Go.Proofs.Tryz.underlying204:=@Go.Proofs.Tryz.underlying204
theorem bN:type_of% @Go.K.T.dU:=@Go.K.T.dU
theorem bO:type_of% @Go.K.Rg.cC:=@Go.K.Rg.cC
theorem bQ:type_of% @Go.K.Rg.nilCheck:=@Go.K.Rg.nilCheck
theorem bR:type_of% @Go.K.Rg.cR:=@Go.K.Rg.cR
theorem bS:type_of% @Go.Proofs.Tryz.underlying180:=@Go.Proofs.Tryz.underlying180
theorem bT:type_of% @Go.K.Rg.load:=@Go.K.Rg.load
theorem bU:type_of% @Bool.and_eq_true:=@Bool.and_eq_true
theorem bV:type_of% @Go.K.Rg.extract:=@Go.K.Rg.extract
theorem bW:type_of% @Go.Proofs.Tryz.underlying83:=@Go.Proofs.Tryz.underlying83
theorem bZ:type_of% @List.mem_cons_of_mem:=@List.mem_cons_of_mem
theorem b9:type_of% @List.take_add_one:=@List.take_add_one
theorem ca:type_of% @List.mem_map:=@List.mem_map
theorem cb:type_of% @Go.K.Rg.cH:=@Go.K.Rg.cH
theorem cd:type_of% @List.mem_cons:=@List.mem_cons
theorem cg:type_of% @Go.K.dR.cons:=@Go.K.dR.cons
theorem cj:type_of% @Go.Sem.run_bind:=@Go.Sem.run_bind
theorem ck:type_of% @List.length_replicate:=@List.length_replicate
theorem cn:type_of% @Go.K.Rg.gJ:=@Go.K.Rg.gJ
theorem cp:type_of% @List.getElem?_take:=@List.getElem?_take
theorem cq:type_of% @List.mem_append:=@List.mem_append
theorem cr:type_of% @Go.K.Rg.eu:=@Go.K.Rg.eu
theorem cu:type_of% @Go.K.Rg.dp:=@Go.K.Rg.dp
theorem cw:type_of% @Go.Proofs.Tryz.underlying166:=@Go.Proofs.Tryz.underlying166
theorem cx:type_of% @Go.Proofs.Tryz.underlying124:=@Go.Proofs.Tryz.underlying124
theorem cy:type_of% @Nat.lt_or_ge:=@Nat.lt_or_ge
theorem cz:type_of% @Go.Proofs.Tryz.underlying5:=@Go.Proofs.Tryz.underlying5
theorem cA:type_of% @List.pairwise_map:=@List.pairwise_map
theorem cB:type_of% @Go.Result.andThen_ok:=@Go.Result.andThen_ok
theorem cD:type_of% @List.pairwise_iff_getElem:=@List.pairwise_iff_getElem
theorem cE:type_of% @Go.K.Rg.idx:=@Go.K.Rg.idx
theorem cI:type_of% @Go.K.T.exit:=@Go.K.T.exit
theorem cK:type_of% @Option.toList_some:=@Option.toList_some
theorem cL:type_of% @Go.Proofs.Tryz.underlying119:=@Go.Proofs.Tryz.underlying119
theorem cM:type_of% @List.length_cons:=@List.length_cons
theorem cT:type_of% @List.length_eq_zero_iff:=@List.length_eq_zero_iff
theorem cX:type_of% @Go.K.Rg.append:=@Go.K.Rg.append
theorem cZ:type_of% @Go.K.Step.aK:=@Go.K.Step.aK
theorem db:type_of% @Option.map_some:=@Option.map_some
theorem de:type_of% @Bool.eq_false_iff:=@Bool.eq_false_iff
theorem dg:type_of% @Go.K.Rg.dO:=@Go.K.Rg.dO
theorem dh:type_of% @Go.Proofs.Tryz.underlying178:=@Go.Proofs.Tryz.underlying178
theorem dm:type_of% @List.length_singleton:=@List.length_singleton
theorem dn:type_of% @Go.K.T.loop:=@Go.K.T.loop
theorem dr:type_of% @List.getElem?_set:=@List.getElem?_set
theorem du:type_of% @Eq.symm:=@Eq.symm
theorem dw:type_of% @List.length_drop:=@List.length_drop
theorem dz:type_of% @Go.K.Own.nil:=@Go.K.Own.nil
theorem dA:type_of% @Array.getElem?_setIfInBounds:=@Array.getElem?_setIfInBounds
theorem dC:type_of% @List.drop_eq_getElem_cons:=@List.drop_eq_getElem_cons
theorem dE:type_of% @Decidable.not_not:=@Decidable.not_not
theorem dF:type_of% @List.map_append:=@List.map_append
theorem dG:type_of% @Go.Proofs.Tryz.underlying71:=@Go.Proofs.Tryz.underlying71
theorem dH:type_of% @Go.Proofs.Tryz.underlying78:=@Go.Proofs.Tryz.underlying78
theorem dI:type_of% @Go.Proofs.Tryz.underlying183:=@Go.Proofs.Tryz.underlying183
theorem dK:type_of% @Option.some.injEq:=@Option.some.injEq
theorem dN:type_of% @List.getElem?_eq_none:=@List.getElem?_eq_none
theorem dP:type_of% @Go.Proofs.Tryz.underlying153:=@Go.Proofs.Tryz.underlying153
theorem dT:type_of% @Go.K.Rg.kV:=@Go.K.Rg.kV
theorem dX:type_of% @List.getElem?_toArray:=@List.getElem?_toArray
theorem dY:type_of% @Go.K.Rg.dV:=@Go.K.Rg.dV
theorem ed:type_of% @Go.Proofs.Tryz.underlying196:=@Go.Proofs.Tryz.underlying196
theorem ef:type_of% @Prod.mk.injEq:=@Prod.mk.injEq
theorem eg:type_of% @Go.K.Rg.ll:=@Go.K.Rg.ll
theorem ek:type_of% @Go.K.Rg.alloc:=@Go.K.Rg.alloc
theorem ey:type_of% @Go.Proofs.Tryz.underlying4:=@Go.Proofs.Tryz.underlying4
theorem ez:type_of% @List.pairwise_cons:=@List.pairwise_cons
theorem eB:type_of% @Go.Proofs.Tryz.underlying207:=@Go.Proofs.Tryz.underlying207
theorem eC:type_of% @Go.K.bX.load:=@Go.K.bX.load
theorem eD:type_of% @Nat.le_trans:=@Nat.le_trans
theorem eF:type_of% @List.not_mem_nil:=@List.not_mem_nil
theorem eK:type_of% @Nat.mul_one:=@Nat.mul_one
theorem eO:type_of% @Go.Proofs.Tryz.underlying142:=@Go.Proofs.Tryz.underlying142
theorem eP:type_of% @Go.Proofs.Tryz.underlying121:=@Go.Proofs.Tryz.underlying121
theorem eQ:type_of% @Go.K.k4.nil:=@Go.K.k4.nil
theorem eR:type_of% @List.map_cons:=@List.map_cons
theorem eZ:type_of% @List.ext_getElem?:=@List.ext_getElem?
theorem fa:type_of% @Nat.lt_trichotomy:=@Nat.lt_trichotomy
theorem fe:type_of% @Go.K.Rg.nB:=@Go.K.Rg.nB
theorem ff:type_of% @Go.Proofs.Tryz.underlying29:=@Go.Proofs.Tryz.underlying29
theorem fg:type_of% @Go.Proofs.Tryz.underlying46:=@Go.Proofs.Tryz.underlying46
theorem fm:type_of% @List.length_set:=@List.length_set
theorem fp:type_of% @Bool.true_and:=@Bool.true_and
theorem fq:type_of% @List.map_toArray:=@List.map_toArray
theorem fu:type_of% @Go.K.Rg.jG:=@Go.K.Rg.jG
theorem fv:type_of% @List.all_eq_true:=@List.all_eq_true
theorem fw:type_of% @List.drop_eq_nil_of_le:=@List.drop_eq_nil_of_le
theorem fG:type_of% @Go.Proofs.Tryz.underlying0:=@Go.Proofs.Tryz.underlying0
theorem fM:type_of% @List.nil_append:=@List.nil_append
theorem fN:type_of% @Nat.zero_add:=@Nat.zero_add
theorem fO:type_of% @Go.K.Rg.gZ:=@Go.K.Rg.gZ
theorem fP:type_of% @List.append_nil:=@List.append_nil
theorem fQ:type_of% @List.mem_filter:=@List.mem_filter
theorem fR:type_of% @Go.Proofs.Tryz.underlying58:=@Go.Proofs.Tryz.underlying58
theorem fV:type_of% @Go.Value.slice.injEq:=@Go.Value.slice.injEq
theorem gu:type_of% @Nat.mul_le_mul_right:=@Nat.mul_le_mul_right
theorem gv:type_of% @Go.IntWalk.u64_in:=@Go.IntWalk.u64_in
theorem gw:type_of% @List.mem_append_left:=@List.mem_append_left
theorem gz:type_of% @Go.Proofs.Tryz.underlying139:=@Go.Proofs.Tryz.underlying139
theorem gG:type_of% @Go.Proofs.Tryz.zeroValue0:=@Go.Proofs.Tryz.zeroValue0
theorem gH:type_of% @Go.Proofs.Tryz.zeroValue3:=@Go.Proofs.Tryz.zeroValue3
theorem gI:type_of% @Go.Proofs.Tryz.zeroValue9:=@Go.Proofs.Tryz.zeroValue9
theorem gL:type_of% @Go.K.Rg.pY:=@Go.K.Rg.pY
theorem gU:type_of% @List.take_succ_eq_append_getElem:=@List.take_succ_eq_append_getElem
theorem gV:type_of% @List.drop_of_length_le:=@List.drop_of_length_le
theorem gX:type_of% @Go.K.bX.move:=@Go.K.bX.move
theorem hY:type_of% @List.mem_map_of_mem:=@List.mem_map_of_mem
theorem im:type_of% @Option.map_none:=@Option.map_none
theorem iq:type_of% @Go.K.Rg.fT:=@Go.K.Rg.fT
theorem iv:type_of% @List.getElem?_append_left:=@List.getElem?_append_left
theorem iF:type_of% @Go.K.bX.field:=@Go.K.bX.field
theorem iG:type_of% @Go.K.Part.snd:=@Go.K.Part.snd
theorem iH:type_of% @Go.K.ir.all:=@Go.K.ir.all
theorem iI:type_of% @Go.K.Rg.build:=@Go.K.Rg.build
theorem iM:type_of% @Go.Proofs.Tryz.underlying151:=@Go.Proofs.Tryz.underlying151
theorem iN:type_of% @Go.Proofs.Tryz.underlying205:=@Go.Proofs.Tryz.underlying205
theorem iO:type_of% @Go.Proofs.Tryz.underlying141:=@Go.Proofs.Tryz.underlying141
theorem iV:type_of% @Bool.not_eq_true':=@Bool.not_eq_true'
theorem iX:type_of% @Go.K.T.iff:=@Go.K.T.iff
theorem jb:type_of% @List.getD_cons_zero:=@List.getD_cons_zero
theorem jc:type_of% @List.getD_cons_succ:=@List.getD_cons_succ
theorem jd:type_of% @List.mergeSort_perm:=@List.mergeSort_perm
theorem jg:type_of% @Go.Proofs.Tryz.underlying25:=@Go.Proofs.Tryz.underlying25
theorem ju:type_of% @Nat.lt_irrefl:=@Nat.lt_irrefl
theorem jv:type_of% @Go.K.Rg.tf:=@Go.K.Rg.tf
theorem jx:type_of% @Go.Proofs.Tryz.zeroValue4:=@Go.Proofs.Tryz.zeroValue4
theorem jy:type_of% @Nat.lt_of_lt_of_le:=@Nat.lt_of_lt_of_le
theorem jC:type_of% @Go.K.eJ.refl:=@Go.K.eJ.refl
theorem jD:type_of% @List.contains_iff_mem:=@List.contains_iff_mem
theorem jE:type_of% @Array.getElem?_modify:=@Array.getElem?_modify
theorem jF:type_of% @List.length_filter_le:=@List.length_filter_le
theorem jL:type_of% @Go.Proofs.Tryz.underlying189:=@Go.Proofs.Tryz.underlying189
theorem jM:type_of% @Go.Proofs.Tryz.underlying155:=@Go.Proofs.Tryz.underlying155
theorem jN:type_of% @Go.Proofs.Tryz.underlying198:=@Go.Proofs.Tryz.underlying198
theorem jT:type_of% @Bool.or_eq_true:=@Bool.or_eq_true
theorem jU:type_of% @List.length_nil:=@List.length_nil
theorem jX:type_of% @Go.IntWalk.i64_in:=@Go.IntWalk.i64_in
theorem jY:type_of% @List.map_nil:=@List.map_nil
theorem jZ:type_of% @Go.Proofs.Tryz.sizeOf0:=@Go.Proofs.Tryz.sizeOf0
theorem j0:type_of% @Go.Proofs.Tryz.sizeOf3:=@Go.Proofs.Tryz.sizeOf3
theorem j3:type_of% @Go.Proofs.Tryz.sizeOf9:=@Go.Proofs.Tryz.sizeOf9
theorem j5:type_of% @Go.K.Rg.makeFunc:=@Go.K.Rg.makeFunc
theorem kx:type_of% @Go.K.Rg.ig:=@Go.K.Rg.ig
theorem kF:type_of% @List.cons_append:=@List.cons_append
theorem kG:type_of% @Bool.false_and:=@Bool.false_and
theorem lh:type_of% @Go.K.T.ri:=@Go.K.T.ri
theorem lj:type_of% @Nat.eq_or_lt_of_le:=@Nat.eq_or_lt_of_le
theorem lA:type_of% @Go.Proofs.Tryz.isAgg0:=@Go.Proofs.Tryz.isAgg0
theorem lB:type_of% @Go.Proofs.Tryz.isAgg3:=@Go.Proofs.Tryz.isAgg3
theorem lC:type_of% @Go.Proofs.Tryz.isAgg9:=@Go.Proofs.Tryz.isAgg9
theorem lF:type_of% @Bool.eq_iff_iff:=@Bool.eq_iff_iff
theorem lY:type_of% @Go.Proofs.Tryz.underlying217:=@Go.Proofs.Tryz.underlying217
theorem lZ:type_of% @Go.Proofs.Tryz.underlying131:=@Go.Proofs.Tryz.underlying131
theorem mH:type_of% @Go.K.sd.nil:=@Go.K.sd.nil
theorem mI:type_of% @Go.K.Part.fst:=@Go.K.Part.fst
theorem mJ:type_of% @Go.K.Rg.not:=@Go.K.Rg.not
theorem ng:type_of% @List.pairwise_append:=@List.pairwise_append
theorem nA:type_of% @Go.Addr.mk.injEq:=@Go.Addr.mk.injEq
theorem nF:type_of% @Go.Proofs.Tryz.sizeOf4:=@Go.Proofs.Tryz.sizeOf4
theorem nG:type_of% @Go.Proofs.Tryz.underlying47:=@Go.Proofs.Tryz.underlying47
theorem nH:type_of% @Go.Proofs.Tryz.underlying50:=@Go.Proofs.Tryz.underlying50
theorem ox:type_of% @List.take_succ_cons:=@List.take_succ_cons
theorem oy:type_of% @List.length_pos_iff:=@List.length_pos_iff
theorem pI:type_of% @List.eq_of_mem_replicate:=@List.eq_of_mem_replicate
theorem pR:type_of% @List.idxOf_cons:=@List.idxOf_cons
theorem pW:type_of% @BitVec.toNat_ofInt:=@BitVec.toNat_ofInt
theorem qG:type_of% @List.getElem?_cons_zero:=@List.getElem?_cons_zero
theorem qQ:type_of% @Go.K.gx.nil:=@Go.K.gx.nil
theorem rh:type_of% @Go.Proofs.Tryz.isAgg4:=@Go.Proofs.Tryz.isAgg4
theorem rM:type_of% @List.append_assoc:=@List.append_assoc
theorem rN:type_of% @List.flatMap_cons:=@List.flatMap_cons
theorem rO:type_of% @Go.K.Rg.conv:=@Go.K.Rg.conv
theorem rQ:type_of% @List.foldl_append:=@List.foldl_append
theorem rR:type_of% @Go.K.Rg.lu:=@Go.K.Rg.lu
theorem rS:type_of% @Go.Proofs.Tryz.underlying190:=@Go.Proofs.Tryz.underlying190
theorem rT:type_of% @Go.Proofs.Tryz.underlying209:=@Go.Proofs.Tryz.underlying209
theorem rU:type_of% @Go.K.bJ.nil:=@Go.K.bJ.nil
theorem rV:type_of% @Go.Proofs.Tryz.underlying133:=@Go.Proofs.Tryz.underlying133
theorem tb:type_of% @Go.Proofs.Tryz.zeroValue5:=@Go.Proofs.Tryz.zeroValue5
theorem tc:type_of% @Go.K.Rg.A2:=@Go.K.Rg.A2
theorem uu:type_of% @List.take_append_drop:=@List.take_append_drop
theorem uv:type_of% @List.Pairwise.sublist:=@List.Pairwise.sublist
theorem uw:type_of% @Nat.mod_eq_of_lt:=@Nat.mod_eq_of_lt
theorem uy:type_of% @List.any_eq_true:=@List.any_eq_true
theorem uz:type_of% @Go.K.T.kK:=@Go.K.T.kK
theorem uA:type_of% @List.getElem_mem:=@List.getElem_mem
theorem uB:type_of% @List.mem_flatMap:=@List.mem_flatMap
theorem vL:type_of% @Go.Proofs.Tryz.underlying26:=@Go.Proofs.Tryz.underlying26
theorem wH:type_of% @Nat.pow_le_pow_right:=@Nat.pow_le_pow_right
theorem wI:type_of% @Go.Addr.add_mid:=@Go.Addr.add_mid
theorem wJ:type_of% @Go.K.Rg.box:=@Go.K.Rg.box
theorem wK:type_of% @Go.World.putObj_heap_same:=@Go.World.putObj_heap_same
theorem wL:type_of% @List.mem_iff_getElem:=@List.mem_iff_getElem
theorem xg:type_of% @Go.K.Own.close:=@Go.K.Own.close
theorem xv:type_of% @Nat.min_eq_left:=@Nat.min_eq_left
theorem zo:type_of% @Int.toNat_of_nonneg:=@Int.toNat_of_nonneg
theorem zp:type_of% @Array.length_toList:=@Array.length_toList
theorem zq:type_of% @List.filter_sublist:=@List.filter_sublist
theorem zy:type_of% @Go.K.Rg.o9:=@Go.K.Rg.o9
theorem zz:type_of% @Go.World.size_alloc:=@Go.World.size_alloc
namespace Go.K
def put (n:Nat):List UInt8:=if n<128 then[UInt8.ofNat n]else UInt8.ofNat (128+n%128)::put (n/128)
termination_by n
decreasing_by omega
theorem xN {n:Nat} (h:n<128):put n=[UInt8.ofNat n]:=by rw[put,if_pos h]
theorem Fl {n:Nat} (h:128≤n):put n=UInt8.ofNat (128+n%128)::put (n/128):=by rw[put,if_neg (by omega)]
theorem O6 (n:Nat):0<(put n).length:=by rw[put];split<;>simp
theorem O7 {k:Nat}:∀{n:Nat},n<128^(k+1)→(put n).length≤k+1:=by
 induction k with
 |zero=>intro n h;rw[xN (by simpa using h)];simp
 |succ k ih=>
  intro n h;by_cases h1:n<128
  ·rw[xN h1];simp
  ·rw[Fl (by omega)];have:=ih (n:=n/128) (by rw[Nat.pow_succ]at h;omega);simp;omega
theorem k9 {n:Nat} (h:n≤9223372036854775807):(put n).length≤9:=O7 (k:=8) (by omega)
def nN:List UInt8→Nat→Nat→Option (Nat×Nat)
 |[],_,_=>none
 |c::cs,i,n=>if c.toNat<128 then(if c.toNat=0∧0<i then none else some (n+c.toNat%128*128^i,i+1))else nN cs (i+1) (n+c.toNat%128*128^i)
def get (b:List UInt8) (at_:Int):Int×Int×Int:=
 if at_<0∨(b.length:Int)<at_ then(0,0,1)
 else match nN ((b.drop at_.toNat).take 9) 0 0 with
  |some (n,k)=>(n,at_+k,0)
  |none=>(0,0,2)
theorem nP {bs:List UInt8} {k:Nat} {c:UInt8} (h:bs[k]? =some c) (n:Nat):nN (bs.drop k) k n=
  if c.toNat<128 then(if c.toNat=0∧0<k then none else some (n+c.toNat%128*128^k,k+1))else nN (bs.drop (k+1)) (k+1) (n+c.toNat%128*128^k):=by
 obtain⟨dQ,he⟩:=ao.1 h;rw[dC dQ,nN,he]
theorem Tj (b:List UInt8) (i:Nat):(b.take (min b.length (i+9))).drop i=(b.drop i).take 9:=by
 rw[List.drop_take,List.take_eq_take_iff];simp;omega
def val:List UInt8→Nat
 |[]=>0
 |c::cs=>c.toNat%128+128*val cs
def eA:Int→List Int→Bool
 |_,[]=>true
 |last,x::l=>decide (last<x)&&eA x l
def lH:Int→List Int→List UInt8
 |_,[]=>[]
 |last,x::l=>put (x-last-1).toNat++lH x l
def eG (l:List Int):List UInt8:=put l.length++lH (-1) l
def Q8:Int→List Int→List Int
 |_,[]=>[]
 |last,x::l=>let m:=if x<0 then-(x+1)else x;(last+1+m%1000)::Q8 (last+1+m%1000) l
def good (l:List Int) (most:Nat):List Int:=Q8 (-1) (l.take most)
theorem uK {b:List UInt8} {at_:Int} (h:(get b at_).2.2=0):0≤at_∧at_<(get b at_).2.1∧(get b at_).2.1≤b.length∧0≤(get b at_).1∧(get b at_).1<9223372036854775808:=by
 unfold get at h ⊢
 split at h
 ·simp at h
 rename_i hr
 rw[if_neg hr]at*
 have key:∀(bs:List UInt8) (i n m k:Nat),nN bs i n=some (m,k)→bs.length+i≤9→n<128^i→i<k∧k≤i+bs.length∧m<128^k:=by
  intro bs
  induction bs with
  |nil=>intro i n m k h;simp[nN]at h
  |cons c cs ih=>
   intro i n m k h hl hn
   have hd:n+c.toNat%128*128^i<128^(i+1):=by
    have:=gu (128^i) (show c.toNat%128≤127 from by omega);rw[Nat.pow_succ];omega
   simp only[nN]at h
   split at h
   ·split at h
    ·cases h
    ·cases h;exact⟨by omega,by simp,hd⟩
   ·obtain⟨h1,h2,h3⟩:=ih (i+1) _ m k h (by simp at hl;omega) hd;exact⟨by omega,by simp;omega,h3⟩
 cases hg:nN ((b.drop at_.toNat).take 9) 0 0 with
 |none=>simp[hg]at h
 |some p=>
  obtain⟨m,k⟩:=p;have hlen:((b.drop at_.toNat).take 9).length≤9∧((b.drop at_.toNat).take 9).length≤b.length-at_.toNat:=by rw[bC,dw];omega
  obtain⟨h1,h2,h3⟩:=key _ 0 0 m k hg (by omega) (by decide);have hp:128^k≤128^9:=wH (by decide) (by omega);simp only;omega
def iK (b:List UInt8):Nat→Int→Int→Int×List Int×Int
 |0,at_,_=>(0,[],at_)
 |k+1,at_,last=>
  if(get b at_).2.2≠0 then((get b at_).2.2,[],0)
  else if 4611686018427387904-last-1<(get b at_).1 then(2,[],0)
  else if(iK b k (get b at_).2.1 (last+1+(get b at_).1)).1≠0 then((iK b k (get b at_).2.1 (last+1+(get b at_).1)).1,[],0)
  else(0,(last+1+(get b at_).1)::(iK b k (get b at_).2.1 (last+1+(get b at_).1)).2.1,(iK b k (get b at_).2.1 (last+1+(get b at_).1)).2.2)
def ia (b:List UInt8) (at_:Int):Int×List Int×Int:=
 if(get b at_).2.2≠0 then((get b at_).2.2,[],0)else iK b (get b at_).1.toNat (get b at_).2.1 (-1)
theorem gA {l:List Int} {k:Nat} {x:Int} (h:l[k]? =some x) (last:Int):eA last (l.drop k)=(decide (last<x)&&eA x (l.drop (k+1))):=by
 obtain⟨dQ,he⟩:=ao.1 h;rw[dC dQ,eA,he]
theorem IB {l:List Int} {k:Nat} {x:Int} (h:l[k]? =some x) (last:Int):lH last (l.drop k)=put (x-last-1).toNat++lH x (l.drop (k+1)):=by
 obtain⟨dQ,he⟩:=ao.1 h;rw[dC dQ,lH,he]
theorem xO:∀(l:List Int) (last:Int),-1≤last→(∀x∈l,x≤9223372036854775807)→eA last l=true→(lH last l).length≤9*l.length
 |[],_,_,_,_=>by simp[lH]
 |x::l,last,h1,h2,h3=>by
  simp only[eA,bU,decide_eq_true_eq]at h3;have hx:=h2 x (bK ..);have h4:=xO l x (by omega) (fun y hy=>h2 y (bZ _ hy)) h3.2;have h5:=k9 (n:=(x-last-1).toNat) (by omega);simp only[lH,bj,cM];omega
theorem xQ (b:List UInt8) (a last:Int):iK b 0 a last=(0,[],a):=rfl
theorem sk {b:List UInt8} {k:Nat} {a last:Int} (h:(get b a).2.2≠0):iK b (k+1) a last=((get b a).2.2,[],0):=by rw[iK,if_pos h]
theorem uL {b:List UInt8} {k:Nat} {a last:Int} (h:(get b a).2.2=0) (h2:4611686018427387904-last-1<(get b a).1):iK b (k+1) a last=(2,[],0):=by
 rw[iK,if_neg (by simpa using h),if_pos h2]
theorem xR {b:List UInt8} {k:Nat} {a last:Int} (h:(get b a).2.2=0) (h2: ¬4611686018427387904-last-1<(get b a).1):iK b (k+1) a last=
  if(iK b k (get b a).2.1 (last+1+(get b a).1)).1≠0 then((iK b k (get b a).2.1 (last+1+(get b a).1)).1,[],0)
  else(0,(last+1+(get b a).1)::(iK b k (get b a).2.1 (last+1+(get b a).1)).2.1,(iK b k (get b a).2.1 (last+1+(get b a).1)).2.2):=by
 rw[iK,if_neg (by simpa using h),if_neg h2]
def andThen (acc:List Int) (r:Int×List Int×Int):Int×List Int×Int:=if r.1≠0 then(r.1,[],0)else(0,acc++r.2.1,r.2.2)
theorem oG {b:List UInt8} {k:Nat} {a last:Int} (acc:List Int) (h:(get b a).2.2=0) (h2: ¬4611686018427387904-last-1<(get b a).1):
  andThen acc (iK b (k+1) a last)=andThen (acc++[last+1+(get b a).1]) (iK b k (get b a).2.1 (last+1+(get b a).1)):=by
 rw[xR h h2];unfold andThen;by_cases h3:(iK b k (get b a).2.1 (last+1+(get b a).1)).1=0<;>simp[h3]
theorem CM (r:Int×List Int×Int) (h:r.1≠0→r.2=([],0)):andThen [] r=r:=by
 unfold andThen;by_cases h3:r.1=0
 ·rw[if_neg (by simpa using h3)];ext<;>simp[h3]
 ·rw[if_pos h3,←h h3]
theorem IC (b:List UInt8):∀(k:Nat) (a last:Int),(iK b k a last).1≠0→(iK b k a last).2=([],0)
 |0,a,last,h=>by simp[iK]at h
 |k+1,a,last,h=>by
  rw[iK]at h ⊢
  split
  ·rfl
  ·rename_i h1;rw[if_neg h1]at h
   split
   ·rfl
   ·rename_i h2;rw[if_neg h2]at h
    split
    ·rfl
    ·rename_i h3;rw[if_neg h3]at h;simp at h
theorem oH (b:List UInt8) (a:Int):0≤(get b a).1∧0≤(get b a).2.2∧(get b a).2.2≤2∧((get b a).2.2≠0→(get b a).1=0∧(get b a).2.1=0):=by
 unfold get
 split
 ·simp
 ·split<;>simp<;>omega
theorem Al (b:List UInt8) (a:Int):(get b a).1≤9223372036854775807:=by
 by_cases h:(get b a).2.2=0
 ·have:=uK h;omega
 ·have:=(oH b a).2.2.2 h;omega
theorem KB:∀(k m i acc:Nat) (post:List UInt8),m<128^(k+1)→(0<i→m≠0)→nN ((put m++post).take (k+1)) i acc=some (acc+m*128^i,i+(put m).length):=by
 intro k
 induction k with
 |zero=>
  intro m i acc post h h0;have hm:m<128:=by simpa using h
  have e:(UInt8.ofNat m).toNat=m:=by rw[UInt8.toNat_ofNat'];omega
  rw[xN hm];simp only[kF,fM,ox,nN,e];rw[if_pos hm,if_neg (by omega),uw hm];rfl
 |succ k ih=>
  intro m i acc post h h0;by_cases hm:m<128
  ·have e:(UInt8.ofNat m).toNat=m:=by rw[UInt8.toNat_ofNat'];omega
   rw[xN hm];simp only[kF,fM,ox,nN,e];rw[if_pos hm,if_neg (by omega),uw hm];rfl
  ·have e:(UInt8.ofNat (128+m%128)).toNat=128+m%128:=by rw[UInt8.toNat_ofNat'];omega
   rw[Fl (by omega)];simp only[kF,ox,nN,e];rw[if_neg (by omega),ih (m/128) (i+1) _ post (by rw[Nat.pow_succ]at h;omega) (by omega)];have h2:(128+m%128)%128=m%128:=by omega
   rw[h2,Nat.pow_succ];congr 2
   ·have h3:m=m%128+128*(m/128):=by omega
    have h4:m*128^i=(m%128)*128^i+(m/128)*(128^i*128):=by
     conv=>lhs;rw[h3]
     rw[Nat.add_mul,Nat.mul_comm 128 (m/128),Nat.mul_assoc,Nat.mul_comm 128 (128^i)]
    omega
   ·simp;omega
theorem Bd (pre post:List UInt8) {n:Nat} (hn:n≤9223372036854775807):get (pre++put n++post) pre.length=((n:Int),((pre.length+(put n).length:Nat):Int),0):=by
 unfold get;rw[if_neg (by simp;omega)]
 have h1:((pre++put n++post).drop (pre.length:Int).toNat).take 9=(put n++post).take (8+1):=by
  rw[ay,rM,List.drop_left]
 rw[h1,KB 8 n 0 0 post (by omega) (by omega)];simp
theorem Am:∀(l:List Int) (pre post:List UInt8) (last:Int),-1≤last→eA last l=true→(∀x∈l,x≤4611686018427387904)→
  iK (pre++lH last l++post) l.length pre.length last=(0,l,((pre.length+(lH last l).length:Nat):Int))
 |[],pre,post,last,_,_,_=>by simp[lH,iK]
 |x::l,pre,post,last,h1,h2,h3=>by
  simp only[eA,bU,decide_eq_true_eq]at h2;have hx:=h3 x (bK ..);have e0:pre++lH last (x::l)++post=pre++put (x-last-1).toNat++(lH x l++post):=by simp[lH]
  have e1:=Bd pre (lH x l++post) (n:=(x-last-1).toNat) (by omega);have e2:pre++put (x-last-1).toNat++(lH x l++post)=(pre++put (x-last-1).toNat)++lH x l++post:=by simp
  have ih:=Am l (pre++put (x-last-1).toNat) post x (by omega) h2.2 (fun y hy=>h3 y (bZ _ hy));rw[e0,cM,xR (by rw[e1]) (by rw[e1];simp only;omega),e1];simp only;have e3:last+1+(((x-last-1).toNat:Nat):Int)=x:=by omega
  rw[e3,e2,show((pre.length+(put (x-last-1).toNat).length:Nat):Int)=((pre++put (x-last-1).toNat).length:Int)from by simp,ih];simp[lH];omega
theorem zE (pre post:List UInt8) {l:List Int} (hr:eA (-1) l=true) (h3:∀x∈l,x≤4611686018427387904) (hl:l.length≤9223372036854775807):
  ia (pre++eG l++post) pre.length=(0,l,((pre.length+(eG l).length:Nat):Int)):=by
 have e0:pre++eG l++post=pre++put l.length++(lH (-1) l++post):=by simp[eG]
 have e1:=Bd pre (lH (-1) l++post) (n:=l.length) hl;have e2:pre++put l.length++(lH (-1) l++post)=(pre++put l.length)++lH (-1) l++post:=by simp
 unfold ia;rw[e0,e1,if_neg (by simp)];simp only;have:=Am l (pre++put l.length) post (-1) (by omega) hr h3;rw[e2,show((pre.length+(put l.length).length:Nat):Int)=((pre++put l.length).length:Int)from by simp,ay,this];simp[eG];omega
end Go.K
namespace Go.K
abbrev Po:=Int×List Int
abbrev Bl:=Int×Int×Int×Int
abbrev Li:=List UInt8×List Bl×Int
abbrev RT.po:RT Po:=RT.pair (RT.int .i64) ((RT.int .i64).sl)
abbrev RT.bl:RT Bl:=RT.pair (RT.int .i64) (RT.pair (RT.int .i64) (RT.pair (RT.int .i64) (RT.int .i64)))
abbrev RT.li:RT Li:=RT.pair (RT.u8.sl) (RT.pair ((RT.bl).sl) (RT.int .i64))
theorem Q9:Part RT.po (RT.int .i64) (fun p=>p.1) 0:=mI _ _
theorem Xx:Part RT.po ((RT.int .i64).sl) (fun p=>p.2) 1:=iG _ _
theorem bl0:Part RT.bl (RT.int .i64) (fun b=>b.1) 0:=mI _ _
theorem bl1:Part RT.bl (RT.int .i64) (fun b=>b.2.1) 1:=(iG _ _).trans (mI _ _)
theorem bl3:Part RT.bl (RT.int .i64) (fun b=>b.2.2.2) 3:=(iG _ _).trans ((iG _ _).trans (iG _ _))
theorem li0:Part RT.li (RT.u8.sl) (fun x=>x.1) 0:=mI _ _
theorem li1:Part RT.li ((RT.bl).sl) (fun x=>x.2.1) 1:=(iG _ _).trans (mI _ _)
def WB (n:Nat) (k:Int):Bool:=decide (0≤k∧k<n)
def ec:Int→List Po→List UInt8
 |_,[]=>[]
 |last,(d,ps)::l=>put (d-last-1).toNat++eG ps++ec d l
def dv:Int→List Po→Int
 |last,[]=>last
 |_,(d,_)::l=>dv d l
def jk (l:List Po):Int:=(l.map fun p=>(p.2.length:Int)).sum
theorem tv (l l':List Po) (last:Int):ec last (l++l')=ec last l++ec (dv last l) l':=by
 induction l generalizing last with
 |nil=>rfl
 |cons p l ih=>obtain⟨d,ps⟩:=p;simp[ec,dv,ih]
theorem tw (l l':List Po):jk (l++l')=jk l+jk l':=by simp[jk]
def vV (l:List Po) (k:Nat):Bl:=((ec (-1) (l.take (8*k))).length,dv (-1) (l.take (8*k)),dv (-1) (l.take (8*k+8)),((l.drop (8*k)).take 8).length)
def qW (l:List Po) (m:Nat):List Bl:=(List.range m).map (vV l)
def nq (l:List Po):Li:=(ec (-1) l,qW l ((l.length+7)/8),jk l)
def oI (l:List Int):Bool:=eA (-1) l&&l.all (fun n=>decide (n<2147483648))
def fJ:Int→List Po→Bool
 |_,[]=>true
 |last,(d,ps)::l=>decide (last<d)&&decide (d<2147483648)&& !ps.isEmpty&&oI ps&&fJ d l
theorem Be:∀{l:List Po} {i:Nat} {last d:Int} {ps:List Int},fJ last l=true→l[i]? =some (d,ps)→
  dv last (l.take i)<d∧d<2147483648∧ps≠[]∧oI ps=true∧dv last (l.take (i+1))=d∧last≤dv last (l.take i)
 |[],i,_,_,_,_,h=>by simp at h
 |(d0,p0)::l,0,last,d,ps,hm,h=>by
  simp only[qG,dK,ef]at h;obtain⟨rfl,rfl⟩:=h;simp only[fJ,bU,decide_eq_true_eq]at hm;obtain⟨⟨⟨⟨h1,h2⟩,h3⟩,h4⟩,h5⟩:=hm;refine⟨h1,h2,?_,h4,by simp[dv],by simp[dv]⟩;rintro rfl;simp at h3
 |(d0,p0)::l,i+1,last,d,ps,hm,h=>by
  simp only[fJ,bU,decide_eq_true_eq]at hm;obtain⟨⟨⟨⟨h1,h2⟩,h3⟩,h4⟩,h5⟩:=hm;obtain⟨a1,a2,a3,a4,a5,a6⟩:=Be (i:=i) h5 (by simpa using h);refine⟨by simpa[dv]using a1,a2,a3,a4,by simpa[dv]using a5,?_⟩;simp only[ox,dv];omega
theorem xS {l:List Po} {i:Nat} {d:Int} {ps:List Int} (last:Int) (h:l[i]? =some (d,ps)):
  ec last (l.take (i+1))=ec last (l.take i)++put (d-dv last (l.take i)-1).toNat++eG ps:=by
 obtain⟨h1,h2⟩:=ao.1 h;rw[gU h1,h2,tv];simp[ec]
theorem p9 {l:List Po} {i:Nat} (last:Int):ec last l=ec last (l.take i)++ec (dv last (l.take i)) (l.drop i):=by
 conv=>lhs;rw[←uu i l]
 exact tv _ _ _
theorem oJ {l:List Int}:oI l=true↔eA (-1) l=true∧∀x∈l,x<2147483648:=by
 simp[oI]
def ry (b:List UInt8) (at_ ahead:Int):Po×Int×Int:=
 if(get b at_).2.2≠0 then((0,[]),0,(get b at_).2.2)
 else((IntKind.i64.wrap (IntKind.i64.wrap (ahead+1)+(get b at_).1),(ia b (get b at_).2.1).2.1),(ia b (get b at_).2.1).2.2,(ia b (get b at_).2.1).1)
theorem KC {l:List Po} {i:Nat} {d:Int} {ps:List Int} (hm:fJ (-1) l=true) (h:l[i]? =some (d,ps)) (hl:ps.length≤1099511627776):
  ry (ec (-1) l) (((ec (-1) (l.take i)).length:Nat):Int) (dv (-1) (l.take i))=((d,ps),(((ec (-1) (l.take (i+1))).length:Nat):Int),0):=by
 obtain⟨h1,h2,h3,h4,h5,h6⟩:=Be hm h;obtain⟨h7,h8⟩:=oJ.1 h4;have e1:=p9 (l:=l) (i:=i+1) (-1);have e2:=xS (-1) h;generalize hla:dv (-1) (l.take i)=last at h1 h6 e2 ⊢;generalize qT:ec (-1) (l.take i)=pre at e2 ⊢;generalize ec (dv (-1) (l.take (i+1))) (l.drop (i+1))=post at e1;rw[e2]at e1 ⊢;have g1:=Bd pre (eG ps++post) (n:=(d-last-1).toNat) (by omega);have g2:=zE (pre++put (d-last-1).toNat) post h7 (fun x hx=>by have:=h8 x hx;omega) (by omega);rw[show pre++put (d-last-1).toNat++(eG ps++post)=ec (-1) l from by rw[e1];simp]at g1;rw[←e1]at g2;unfold ry;rw[g1];simp only[ne_eq,not_true_eq_false,if_false];have sV:((pre.length+(put (d-last-1).toNat).length:Nat):Int)=((pre++put (d-last-1).toNat).length:Int):=by simp
 rw[sV,g2];refine Prod.ext (Prod.ext ?_ rfl) (Prod.ext ?_ rfl)
 ·simp only;rw[jX (last+1) (by omega),jX _ (by omega)];omega
 ·simp;omega
theorem qa {l:List Int} {k:Nat} {x:Int} (p:Int→Bool) (h:l[k]? =some x):(l.drop k).all p=(p x&&(l.drop (k+1)).all p):=by
 obtain⟨h1,h2⟩:=ao.1 h;rw[dC h1,h2,List.all_cons]
theorem l9 {l:List Po} {k:Nat} {d:Int} {ps:List Int} (h:l[k]? =some (d,ps)) (last:Int):
  fJ last (l.drop k)=(decide (last<d)&&decide (d<2147483648)&& !ps.isEmpty&&oI ps&&fJ d (l.drop (k+1))):=by
 obtain⟨h1,h2⟩:=ao.1 h;rw[dC h1,h2,fJ]
theorem xT {l:List Po} {i:Nat} {d:Int} {ps:List Int} (h:l[i]? =some (d,ps)):jk (l.take (i+1))=jk (l.take i)+ps.length:=by
 obtain⟨h1,h2⟩:=ao.1 h;rw[gU h1,h2,tw];simp[jk]
theorem oK (l:List Po):0≤jk l:=by
 induction l with
 |nil=>simp[jk]
 |cons p l ih=>simp only[jk,eR,List.sum_cons]at ih ⊢;omega
theorem CN (l:List Po) (i:Nat):0≤jk (l.take i)∧jk (l.take i)≤jk l:=by
 refine⟨oK _,?_⟩
 conv=>rhs;rw[←uu i l,tw]
 have:=oK (l.drop i);omega
theorem nr (l:List Po) (i:Nat):(ec (-1) (l.take i)).length≤(ec (-1) l).length:=by
 rw[p9 (l:=l) (i:=i) (-1)];simp
theorem ID (l:List Po) (k:Nat):qW l (k+1)=qW l k++[vV l k]:=by simp[qW,List.range_succ]
theorem sm:∀(l:List Po) (last:Int),fJ last l=true→last<2147483648→∀n:Nat,last≤dv last (l.take n)∧dv last (l.take n)<2147483648
 |[],last,_,h,n=>by simp[dv];exact h
 |(d,ps)::l,last,hm,h,0=>by simp[dv];exact h
 |(d,ps)::l,last,hm,h,n+1=>by
  simp only[fJ,bU,decide_eq_true_eq]at hm;obtain⟨⟨⟨⟨h1,h2⟩,h3⟩,h4⟩,h5⟩:=hm;have:=sm l d h5 h2 n;simp only[ox,dv];omega
theorem acL {M:aC} {w:World} {a b c d:Int} (ha: -9223372036854775808≤a∧a≤9223372036854775807) (hb: -9223372036854775808≤b∧b≤9223372036854775807) (hc: -9223372036854775808≤c∧c≤9223372036854775807) (hd: -9223372036854775808≤d∧d≤9223372036854775807):
  RT.bl.V M w (a,b,c,d) (.agg [.int .i64 a,.int .i64 b,.int .i64 c,.int .i64 d].toArray):=
 ⟨_,⟨[.int .i64 a],[.int .i64 b,.int .i64 c,.int .i64 d],rfl,⟨rfl,ha⟩,[.int .i64 b],[.int .i64 c,.int .i64 d],rfl,⟨rfl,hb⟩,[.int .i64 c],[.int .i64 d],rfl,⟨rfl,hc⟩,⟨rfl,hd⟩⟩,rfl⟩
theorem Xy {M:aC} {w:World} {bx:Nat} {b:List UInt8} {ks:List Bl} {rz:Int} {vb vk:Value} {e:TypeId} {fr:Nat×Nat} (hx:w.heap[bx]? =some (.cells #[vb,vk,.int .i64 rz] e fr)) (hm: ¬M bx) (hb:(RT.u8.sl).V M w b vb) (hk:((RT.bl).sl).V M w ks vk) (ht: -9223372036854775808≤rz∧rz≤9223372036854775807):
  cP RT.li M w (.pointer (some ⟨bx,0,none⟩)) (b,ks,rz):=
 ⟨bx,0,[vb,vk,.int .i64 rz],rfl,hm,⟨[vb],[vk,.int .i64 rz],rfl,l8 hb rfl rfl,[vk],[.int .i64 rz],rfl,l8 hk rfl rfl,⟨rfl,ht⟩⟩,fun j v hj=>fA hx (by simpa using hj)⟩
theorem KD {l:List Po} {i:Nat} (h8:i%8=0) (hi:i<l.length):qW l ((i+7)/8)++[(((ec (-1) (l.take i)).length:Int),dv (-1) (l.take i),dv (-1) (l.take (min (i+8) l.length)),(((l.drop i).take 8).length:Int))]=qW l ((min (i+8) l.length+7)/8):=by
 rw[show(min (i+8) l.length+7)/8=(i+7)/8+1 from by omega,ID];have e:8*((i+7)/8)=i:=by omega
 have e2:l.take (i+8)=l.take (min (i+8) l.length):=by rw[List.take_eq_take_iff];omega
 simp only[vV,e,e2]
end Go.K
namespace Go.K
section
variable {P:Program} {r:Option Nat} {n:Nat} {L:Sl} {ds:List Deferred} {w:World} {K:Kt} {ops:Array Oper} {rest:List Oper} {d:Nat} {x y:Operand} {ty:TypeId} {pos:String} {af:Array Edge}
theorem Rg.KE {t t' e:TypeId} {p:Option Addr} (ht:P.underlying t=some (.pointer e)) (hx:ev L x=some (.pointer p)) (hy:ev L y=some (.pointer none)) (hd:Nat.blt d n=true)
  (k:Rg P r n ops rest ((d,.bool (decide (p=none)))::L) ds w K):
  Rg P r n ops ({dst:=some d,op:= .binOp .eql t x y t',type:=ty,pos,after:=af,guard:=none}::rest) L ds w K:=
 .op (fun _ h=>by cases h) rfl rfl hd _ w (fun ρ h=>by
  have Xv:P.underlying t=some (.pointer (P.pointee t)):=by simp[Program.pointee,ht]
  have he:=run_equal_pointer_nil (P:=P) w t p Xv;simp only[execOp];rw[h x _ hx,h y _ hy]
  cases p<;>simp[eqGuard,binOp,run_underlying ht,he]) k
theorem Rg.Ra {t t' e:TypeId} {p:Option Addr} (ht:P.underlying t=some (.pointer e)) (hx:ev L x=some (.pointer p)) (hy:ev L y=some (.pointer none)) (hd:Nat.blt d n=true)
  (k:Rg P r n ops rest ((d,.bool (decide (p≠none)))::L) ds w K):
  Rg P r n ops ({dst:=some d,op:= .binOp .neq t x y t',type:=ty,pos,after:=af,guard:=none}::rest) L ds w K:=
 .op (fun _ h=>by cases h) rfl rfl hd _ w (fun ρ h=>by
  have Xv:P.underlying t=some (.pointer (P.pointee t)):=by simp[Program.pointee,ht]
  have he:=run_equal_pointer_nil (P:=P) w t p Xv;simp only[execOp];rw[h x _ hx,h y _ hy]
  cases p<;>simp[eqGuard,binOp,run_underlying ht,he]) k
end
end Go.K
namespace Go.K
section
variable {P:Program} {r:Option Nat} {n:Nat} {L:Sl} {ds:List Deferred} {w:World}
theorem Bf {fn:Func} {Q:Value→World→Prop} {c t b:Nat} {vs:List Value} {fs:TypeDesc} {e:TypeId} {fr:Nat×Nat} {zv:Value} {size bytes:Nat} (hr:fn.results= #[.cell c t]) (hc:lk L c=some (.pointer (some ⟨b,0,none⟩))) (hu:P.underlying t=some fs) (hf:fs.isRow=true) (hi:TI P t zv size bytes) (hl:vs.length=size)
  (hb:w.heap[b]? =some (.cells vs.toArray e fr)) (h:Q (.agg vs.toArray) w):wN P fn Q .ret L [] w:=
 ⟨rfl,fun a ha=>⟨_,by
  obtain⟨i,xj,_,zr,_⟩:=hi.get;have Kz:w.rangeAt b 0 vs:=fun j v hj=>fA hb (by simpa using hj)
  have:=run_loadVar_mid (P:=P) w b 0 t vs fs Kz hu hf (by simp[xj,zr,hl]);simp[results,hr,ha _ _ hc,asAddr,this,cj],h⟩⟩
end
end Go.K
namespace Go.K
section
variable {P:Program} {r:Option Nat} {n:Nat} {L:Sl} {ds:List Deferred} {w:World} {K:Kt} {ops:Array Oper} {rest:List Oper} {d:Nat} {ty:TypeId} {pos:String} {af:Array Edge} {x y i:Operand} {α:Type} {A:RT α}
theorem Rg.opv {o:Oper} (om:∀c,o.op≠ .defer c) (hg:o.guard=none) (hd:o.dst=none) (v:Value) (w':World)
  (gY:∀ρ:Operand→Value,(∀x u,ev L x=some u→ρ x=u)→(execOp ρ o).run P w= .ok (.value v) w')
  (h:Rg P r n ops rest L ds w' K):Rg P r n ops (o::rest) L ds w K:=by
 refine⟨fun a ha=>wpListIn_plain hg fun K' OP=>Cu om ?_⟩;rw[gY a.eval (fun x u hx=>ha.eval hx),Oper.uponIn_value,hd];exact OP _ _ (h.run _ ha)
def qb (P:Program) (t:TypeId) (name:String) (f:FuncId) (ptr:Bool):Prop:=
 (P.info? t).bind (fun i=>(i.methods.find? (fun m=>m.name==name)).map fun m=>(m.path.toList.length,m.func))=some (0,some (f,ptr))
theorem qb.get {t:TypeId} {name:String} {f:FuncId} {ptr:Bool} (h:qb P t name f ptr):∃inf m,P.info? t=some inf∧inf.methods.find? (fun m=>m.name==name)=some m∧m.path= #[]∧m.func=some (f,ptr):=by
 unfold qb at h
 cases hi:P.info? t with
 |none=>rw[hi]at h;cases h
 |some inf=>
  rw[hi]at h
  cases hm:inf.methods.find? (fun m=>m.name==name)with
  |none=>simp[hm]at h
  |some m=>
   simp[hm]at h;exact⟨inf,m,rfl,hm,h.1,h.2⟩
def Fm (P:Program) (w:World) (t:TypeId) (v:Value) (name:String) (f:FuncId) (u:Value):Prop:=∀fuel:Nat,(method (fuel+1) t v name).run P w= .ok (f,u) w
theorem qb.ptr {t e:TypeId} {name:String} {f:FuncId} (h:qb P t name f true) (ht:P.underlying t=some (.pointer e)) (v:Value):Fm P w t v name f v:=fun fuel=>by
 obtain⟨inf,m,h1,h2,h3,h4⟩:=h.get;simp[method,typeInfo,h1,h2,h3,h4,follow,receiverAt,run_underlying ht,Place.get]
theorem CO (Cw:Array TypeId) (ty:TypeId) (a:Addr) (s m:String):(Builtin.ssaWrapNilChk_ Cw ty #[.pointer (some a),strVal s,strVal m]).run P w= .ok (.pointer (some a)) w:=rfl
theorem qb.load {t e:TypeId} {u:TypeDesc} {name:String} {f:FuncId} {b:Nat} {cs:Array Value} {te:TypeId} {fr:Nat×Nat} {v:Value} (h:qb P t name f false) (ht:P.underlying t=some (.pointer e)) (hu:P.underlying e=some u) (hf:flat u=true)
  (hb:w.heap[b]? =some (.cells cs te fr)) (hv:cs[0]? =some v):Fm P w t (.pointer (some ⟨b,0,none⟩)) name f v:=fun fuel=>by
 obtain⟨inf,m,h1,h2,h3,h4⟩:=h.get
 have E5:(isAgg e).run P w= .ok false w:=by
  unfold isAgg;rw[cj,run_underlying hu w]
  cases u<;>simp_all [flat,Result.andThen]
 have hl:(loadVar e ⟨b,0,none⟩).run P w= .ok v w:=by simp[loadVar,E5,Go.load,Sem.run,fA hb hv]
 simp[method,typeInfo,h1,h2,h3,h4,follow,receiverAt,run_underlying ht,Place.get,CO,asAddr,hl]
theorem Rg.invoke {t:TypeId} {v u:Value} {name:String} {f:FuncId} {xs:List Operand} {vs:List Value} {Cw:Array TypeId} {Q:Value→World→Prop} (hx:ev L x=some (.iface t v)) (kH:Ow L xs=some vs) (hd:Nat.blt d n=true) (hm:Fm P w t v name f u) (he:Enters P f)
  (hs:Spec P f (u::vs).toArray w Q) (k:∀v w',Q v w'→Rg P r n ops rest ((d,v)::L) ds w' K):
  Rg P r n ops ({dst:=some d,op:= .call {callee:= .invoke x name,args:=xs.toArray,argTypes:=Cw},type:=ty,pos,after:=af,guard:=none}::rest) L ds w K:=
 .E3 (w1:=w) (fun _ h=>by cases h) rfl rfl hd (fun ρ h=>by
  have h1:=oz h kH;have h2:=hm (P.types.size+99);rw[show P.types.size+99+1=P.types.size+Made.depth from rfl]at h2;simp only[execOp,resolve,fq,h1,h x _ hx];have h3:=he (u::vs).toArray w;simp[Go.invoke,callMethod,h2]at h3 ⊢;exact h3) hs k
def isI:TypeDesc→Bool
 |.interface _=>true
 |_=>false
theorem Rg.xm {t:TypeId} {u:TypeDesc} {v:Value} (hu:P.underlying t=some u) (hn:isI u=false) (hx:ev L x=some v) (hd:Nat.blt d n=true) (k:Rg P r n ops rest ((d,.iface t v)::L) ds w K):
  Rg P r n ops ({dst:=some d,op:= .makeInterface t x,type:=ty,pos,after:=af,guard:=none}::rest) L ds w K:=
 .op (fun _ h=>by cases h) rfl rfl hd _ w (fun ρ h=>by
  simp only[execOp,h x _ hx]
  cases u<;>simp_all [Instr.makeInterface,run_underlying hu,isI]) k
theorem Rg.Hk {t xt:TypeId} {u:TypeDesc} {v:Value} (hu:P.underlying t=some u) (hn:isI u=false) (hx:ev L x=some (.iface t v)) (hd:Nat.blt d n=true) (k:Rg P r n ops rest ((d,v)::L) ds w K):
  Rg P r n ops ({dst:=some d,op:= .typeAssert x xt t false,type:=ty,pos,after:=af,guard:=none}::rest) L ds w K:=
 .op (fun _ h=>by cases h) rfl rfl hd _ w (fun ρ h=>by
  simp only[execOp,h x _ hx]
  cases u<;>simp_all [Instr.typeAssert,run_underlying hu,isI]) k
theorem dZ.set {M:aC} {x:α} {vs:List Value} (hx:A.R M w x vs):∀{xs:List α} {C:List Value},dZ A M w xs C→∀{j:Nat},j<xs.length→dZ A M w (xs.set j x) (C.take (j*A.n)++vs++C.drop (j*A.n+A.n))
 |[],_,_,j,hj=>by simp at hj
 |y::xs,_,⟨us,rest,h1,h2,h3⟩,0,_=>by
  subst h1;have hl:=A.len h2;refine⟨vs,rest,?_,hx,h3⟩;rw[Nat.zero_mul,List.take_zero,fM,fN,←hl,List.drop_left]
 |y::xs,_,⟨us,rest,h1,h2,h3⟩,j+1,hj=>by
  subst h1;have hl:=A.len h2;refine⟨us,_,?_,h2,dZ.set hx h3 (j:=j) (by simpa using hj)⟩;have e1:(j+1)*A.n=us.length+j*A.n:=by rw[Nat.add_mul,hl];omega
  rw[e1,List.take_length_add_append,show us.length+j*A.n+A.n=us.length+(j*A.n+A.n)from by omega,List.drop_length_add_append];simp
theorem dZ.take {M:aC}:∀{xs:List α} {C:List Value},dZ A M w xs C→∀m,dZ A M w (xs.take m) (C.take (m*A.n))
 |xs,C,h,0=>by simp;exact(rfl:([]:List Value)=[])
 |[],C,h,m+1=>by cases h;simp;exact(rfl:([]:List Value)=[])
 |y::xs,_,⟨us,rest,h1,h2,h3⟩,m+1=>by
  subst h1;have hl:=A.len h2;refine⟨us,rest.take (m*A.n),?_,h2,dZ.take h3 m⟩;rw[show(m+1)*A.n=us.length+m*A.n from by rw[Nat.add_mul,hl];omega,List.take_length_add_append]
theorem Hl {l vs:List Value} {o:Nat} (h:o+vs.length≤l.length) (t:Nat):(l.take o++vs++l.drop (o+vs.length))[t]? =if o≤t∧t<o+vs.length then vs[t-o]? else l[t]? :=by
 have h1:(l.take o).length=o:=by rw[bC];omega
 rcases cy t o with h2|h2
 ·rw[if_neg (by omega),rM,iv (by omega),cp,if_pos h2]
 ·rcases cy t (o+vs.length)with h3|h3
  ·rw[if_pos ⟨h2,h3⟩,iv (by rw[bj];omega),List.getElem?_append_right (by omega),h1]
  ·rw[if_neg (by omega),List.getElem?_append_right (by rw[bj];omega),List.getElem?_drop,bj,h1];congr 1;omega
theorem Own.uM {e:TypeId} {M:aC} {base:Nat} {v:Value} {xs:List α} (h:Own A e M w base v xs) (hv:v≠ .slice none 0 0):∃g cap cur,v= .slice (some ⟨g,0,none⟩) xs.length cap∧base≤g∧M g∧w.heap[g]? =some (.cells cur e (0,0)):=by
 obtain⟨⟨C,hr,_⟩,hm⟩:=h;rcases hr.2 with⟨h1,_⟩|⟨g,cap,cur,h1,h2,h3,_⟩
 ·exact absurd h1 hv
 ·exact⟨g,cap,cur,h1,h2,hm g (by rw[h1];rfl),h3⟩
theorem Own.setCells {e:TypeId} {M:aC} {base g len cap j:Nat} {xs:List α} {x:α} {vs:List Value} (h:Own A e M w base (.slice (some ⟨g,0,none⟩) len cap) xs) (hj:j<xs.length) (hx:A.R M w x vs):
  ∃w',w'=w.setCells g (j*A.n) vs∧Own A e M w' base (.slice (some ⟨g,0,none⟩) len cap) (xs.set j x)∧Step M w M w' (fun k=>k=g):=by
 obtain⟨⟨C,hr,ha⟩,hm⟩:=h;have Fp:=hm g rfl;have hl:=A.len hx;rcases hr.2 with⟨h1,_⟩|⟨g',xC,cur,h1,h2,h3,h4,h5,h6,h7⟩
 ·cases h1
 ·simp only[fV,dK,nA]at h1;obtain⟨⟨rfl,_⟩,rfl,rfl⟩:=h1;obtain⟨EU,c1,c2,c3,c4⟩:=mS vs w g (j*A.n) cur e (0,0) h3;have hs:=c4 M Fp;have JT:j*A.n+A.n≤xs.length*A.n:=by have:=gu A.n (show j+1≤xs.length from hj);rw[Nat.add_mul]at this;omega
  have lp:xs.length*A.n≤cap*A.n:=gu _ h4;have SJ:C.length=xs.length*A.n:=hr.1;refine⟨_,rfl,⟨⟨C.take (j*A.n)++vs++C.drop (j*A.n+A.n),⟨?_,.inr ⟨g,cap,EU,by rw[fm],h2,c1,by rw[fm];exact h4,h5,by rw[c2];exact h6,?_⟩⟩,dZ.set (A.le hs.le hx) (ha.le hs.le) hj⟩,fun b hb=>hm b hb⟩,hs⟩
  ·rw[bj,bj,bC,dw,SJ,fm];omega
  ·rw[fm];refine eZ fun t=>?_
   have KF:=Hl (l:=C) (vs:=vs) (o:=j*A.n) (by rw[hl,SJ];exact JT) t;rw[hl]at KF;rw[KF,cp];have Xh:∀t,t<xs.length*A.n→C[t]? =cur[t]? :=fun t ht=>by rw[←h7,cp,if_pos ht];simp
   split
   ·rename_i ht
    have e0:EU.toList[t]? =EU[t]? :=by simp
    rw[e0,c3 t,hl];by_cases h8:j*A.n≤t∧t<j*A.n+A.n
    ·rw[if_pos ⟨h8.1,h8.2,by omega⟩,if_pos h8]
    ·rw[if_neg (fun h=>h8 ⟨h.1,h.2.1⟩),if_neg h8,Xh t ht]
   ·rename_i ht
    rw[if_neg (by omega),dN (by rw[SJ];omega)]
theorem Rg.so {t e:TypeId} {κ:IntKind} {j:Int} {b o len cap bytes size:Nat} {zv:Value} (ht:P.underlying t=some (.slice e)) (hi:TI P e zv size bytes) (hx:ev L x=some (.slice (some ⟨b,o,none⟩) len cap)) (E6:ev L i=some (.int κ j)) (hd:Nat.blt d n=true) (hj:0≤j∧j<len) {q:Nat} (hq:o+j.toNat*size=q)
  (k:Rg P r n ops rest ((d,.pointer (some ⟨b,q,none⟩))::L) ds w K):
  Rg P r n ops ({dst:=some d,op:= .indexAddr t x i,type:=ty,pos,after:=af,guard:=none}::rest) L ds w K:=
 .op (fun _ h=>by cases h) rfl rfl hd _ w (fun ρ h=>by
  simp only[execOp,h x _ hx,h i _ E6];simp[Instr.indexAt,run_underlying ht,asIntOf,hj,hi.sizeOf,wI,hq]) k
theorem Own.ptr {e:TypeId} {M:aC} {base g len cap j:Nat} {xs:List α} {x:α} (h:Own A e M w base (.slice (some ⟨g,0,none⟩) len cap) xs) (hx:xs[j]? =some x):cP A (fun k=>M k∧k≠g) w (.pointer (some ⟨g,j*A.n,none⟩)) x:=by
 obtain⟨⟨C,hr,ha⟩,hm⟩:=h;rcases hr.2 with⟨h1,_⟩|⟨g',xC,cur,h1,h2,h3,h4,h5,h6,h7⟩
 ·cases h1
 ·simp only[fV,dK,nA]at h1;obtain⟨⟨rfl,_⟩,rfl,rfl⟩:=h1;obtain⟨vs,hv,hj⟩:=ha.at_ j x hx;refine⟨g,_,vs,rfl,fun h=>h.2 rfl,A.le (fun b _ hm=>⟨fun h=>hm h.1,rfl⟩) hv,fun t u hu=>?_⟩;have h8:=hj t u hu;rw[←h7,cp]at h8
  split at h8
  ·exact fA h3 (by simpa using h8)
  ·cases h8
theorem Own.cut {e:TypeId} {M:aC} {base g len cap m:Nat} {xs:List α} (h:Own A e M w base (.slice (some ⟨g,0,none⟩) len cap) xs) (hm:m≤xs.length):Own A e M w base (.slice (some ⟨g,0,none⟩) m cap) (xs.take m):=by
 obtain⟨⟨C,hr,ha⟩,hmm⟩:=h;have hl:(xs.take m).length=m:=by rw[bC];omega
 rcases hr.2 with⟨h1,_⟩|⟨g',xC,cur,h1,h2,h3,h4,h5,h6,h7⟩
 ·cases h1
 ·simp only[fV,dK,nA]at h1;obtain⟨⟨rfl,_⟩,rfl,rfl⟩:=h1;have KG:=gu A.n hm;refine⟨⟨C.take (m*A.n),⟨by rw[bC,hr.1,hl];omega,.inr ⟨g,cap,cur,by rw[hl],h2,h3,by omega,h5,h6,?_⟩⟩,ha.take m⟩,fun b hb=>hmm b hb⟩;rw[hl,←h7,List.take_take,xv KG]
theorem Rg.Tk {t e:TypeId} {h:Operand} {κ:IntKind} {hi:Int} {g len cap bytes size:Nat} {zv:Value} (ht:P.underlying t=some (.slice e)) (ET:TI P e zv size bytes) (hx:ev L x=some (.slice (some ⟨g,0,none⟩) len cap)) (hh:ev L h=some (.int κ hi)) (hd:Nat.blt d n=true) (hb:0≤hi∧hi≤cap)
  (k:Rg P r n ops rest ((d,.slice (some ⟨g,0,none⟩) hi.toNat cap)::L) ds w K):
  Rg P r n ops ({dst:=some d,op:= .slice t x none (some h) none,type:=ty,pos,after:=af,guard:=none}::rest) L ds w K:=by
 refine .op (fun _ h=>by cases h) rfl rfl hd _ w (fun ρ hρ=>?_) k;simp only[execOp,hρ x _ hx,db,im,hρ h _ hh];rw[cj,run_sliceAt_slice _ _ _ _ _ _ (iZ ht),run_slice_h _ _ _ _ _ (iZ ht) _ _ hb.1 hb.2,oA ht,ET.sizeOf];simp[sliced,wI]
theorem Rg.KH {t e:TypeId} {l:Operand} {κ:IntKind} {lo:Int} {g len cap bytes size:Nat} {zv:Value} (ht:P.underlying t=some (.slice e)) (ET:TI P e zv size bytes) (hx:ev L x=some (.slice (some ⟨g,0,none⟩) len cap)) (hl:ev L l=some (.int κ lo)) (hd:Nat.blt d n=true) (hb:0≤lo∧lo≤len∧lo<cap)
  (k:Rg P r n ops rest ((d,.slice (some ⟨g,lo.toNat*size,none⟩) (len-lo.toNat) (cap-lo.toNat))::L) ds w K):
  Rg P r n ops ({dst:=some d,op:= .slice t x (some l) none none,type:=ty,pos,after:=af,guard:=none}::rest) L ds w K:=by
 refine .op (fun _ h=>by cases h) rfl rfl hd _ w (fun ρ hρ=>?_) k;simp only[execOp,hρ x _ hx,db,im,hρ l _ hl];rw[cj,run_sliceAt_slice _ _ _ _ _ _ (iZ ht),run_slice_l _ _ _ _ _ (iZ ht) _ _ hb.1 hb.2.1,oA ht,ET.sizeOf];have eN: ¬cap=lo.toNat:=by omega
 simp[sliced,wI,eN]
theorem Rg.Fq {t e:TypeId} {zv:Value} {bytes:Nat} {M:aC} {base g len cap j:Nat} {xs:List α} {a:α} {v:Value} (hi:TI P t zv A.n bytes) (hg:A.agg=true) (hx:ev L x=some (.pointer (some ⟨g,j*A.n,none⟩))) (hy:ev L y=some v) (h:Own A e M w base (.slice (some ⟨g,0,none⟩) len cap) xs) (hj:j<xs.length) (hv:A.V M w a v)
  (k:∀w',Own A e M w' base (.slice (some ⟨g,0,none⟩) len cap) (xs.set j a)→Step M w M w' (fun k=>k=g)→Rg P r n ops rest L ds w' K):
  Rg P r n ops ({dst:=none,op:= .store t x y,type:=ty,pos,after:=af,guard:=none}::rest) L ds w K:=by
 obtain⟨vs,kH,rfl⟩:=hv;obtain⟨w',Tl,ho,hs⟩:=h.setCells hj kH;obtain⟨⟨C,hr,ha⟩,hm⟩:=h;have hl:=A.len kH;have h1:=A.one kH;rcases hr.2 with⟨h2,_⟩|⟨g',xC,cur,h2,_,h3,h4,h5,h6,h7⟩
 ·cases h2
 ·simp only[fV,dK,nA]at h2;obtain⟨⟨rfl,_⟩,rfl,rfl⟩:=h2;have JT:j*A.n+A.n≤xs.length*A.n:=by have:=gu A.n (show j+1≤xs.length from hj);rw[Nat.add_mul]at this;omega
  have lp:xs.length*A.n≤cap*A.n:=gu _ h4;refine .QV (fun _ h=>by cases h) rfl rfl w' (fun ρ hρ=>?_) (k w' ho hs);subst Tl;simp only[execOp,hρ x _ hx,hρ y _ hy];obtain⟨inf,xj,_,zr,_⟩:=hi.get
  have:=run_storeAt_mid (P:=P) w g (j*A.n) t vs.toArray (fun q hq=>by
   have hq':j*A.n+q<cur.size:=by simp at hq;omega
   exact⟨by rw[fA h3 (v:=cur[j*A.n+q]) (by simp[hq'])];rfl,by simp[World.frozen?,h3]⟩) (by simp[xj,zr,hl]) (by simpa[Array.all_eq_true_iff_forall_mem]using h1)
  simp[RT.val,hg,this]
theorem Rg.KI {t e:TypeId} {zv:Value} {bytes:Nat} {M:aC} {base g len cap j:Nat} {κ:IntKind} {xs:List Int} {a:Int} (hi:TI P t zv 1 bytes) (hx:ev L x=some (.pointer (some ⟨g,j,none⟩))) (hy:ev L y=some (.int κ a)) (h:Own (RT.int κ) e M w base (.slice (some ⟨g,0,none⟩) len cap) xs) (hj:j<xs.length) (ha:κ.min≤a∧a≤κ.max)
  (k:∀w',Own (RT.int κ) e M w' base (.slice (some ⟨g,0,none⟩) len cap) (xs.set j a)→Step M w M w' (fun k=>k=g)→Rg P r n ops rest L ds w' K):
  Rg P r n ops ({dst:=none,op:= .store t x y,type:=ty,pos,after:=af,guard:=none}::rest) L ds w K:=by
 have hR:(RT.int κ).R M w a [.int κ a]:=⟨rfl,ha.1,ha.2⟩;obtain⟨w',Tl,ho,hs⟩:=h.setCells hj hR;obtain⟨⟨C,hr,_⟩,hm⟩:=h;rcases hr.2 with⟨h2,_⟩|⟨g',xC,cur,h2,_,h3,h4,h5,h6,h7⟩
 ·cases h2
 ·simp only[fV,dK,nA]at h2;obtain⟨⟨rfl,_⟩,rfl,rfl⟩:=h2;have e1:(RT.int κ).n=1:=rfl;rw[e1]at h6 Tl;refine .QV (fun _ h=>by cases h) rfl rfl w' (fun ρ hρ=>?_) (k w' ho hs);subst Tl;simp only[execOp,hρ x _ hx,hρ y _ hy];have:=ni (P:=P) hi (w:=w) (b:=g) (o:=j) (v:= .int κ a) rfl (by rw[fA h3 (v:=cur[j]'(by omega)) (by simp)];rfl) (by simp[World.frozen?,h3]);simp[this,World.setCells]
theorem Rg.Xz {t e:TypeId} {zv:Value} {bytes size:Nat} (ht:P.underlying t=some (.slice e)) (hi:TI P e zv size bytes) (M:aC) (hd:Nat.blt d n=true)
  (k:∀g w',w.heap.size≤g→g<w'.heap.size→w'.heap[g]? =some (.cells #[] e (0,0))→Step M w (ins M g) w' aD→Rg P r n ops rest ((d,.slice (some ⟨g,0,none⟩) 0 0)::L) ds w' K):
  Rg P r n ops ({dst:=some d,op:= .buildSlice t 0 #[],type:=ty,pos,after:=af,guard:=none}::rest) L ds w K:=by
 refine .op (fun _ h=>by cases h) rfl rfl hd (.slice (some ⟨w.heap.size,0,none⟩) 0 0) (w.alloc (.cells #[] e)) (fun ρ hρ=>?_) (k w.heap.size _ (aO _) (by simp) (ch w _) ((cQ M w _).own (aO _) (by simp)));simp only[execOp,Instr.buildSlice,cj,run_underlying ht,cB,hi.sizeOf];simp[newRow,newObj,Sem.run,Instr.fill];have h0:Array.range 0= #[]:=by apply Array.ext<;>simp
 simp[h0]
end
theorem Own.empty {α:Type} {A:RT α} {e:TypeId} {M:aC} {w:World} {base g:Nat} (h:w.heap[g]? =some (.cells #[] e (0,0))) (hb:base≤g) (hm:M g):Own A e M w base (.slice (some ⟨g,0,none⟩) 0 0) []:=
 ⟨⟨[],⟨by simp,.inr ⟨g,0,#[],rfl,hb,h,aO _,bG _,by simp,by simp⟩⟩,rfl⟩,fun b hb=>by cases hb;exact hm⟩
theorem Own.KJ {e:TypeId} {M:aC} {w:World} {base g len cap j:Nat} {κ:IntKind} {xs:List Int} {x:Int} (h:Own (RT.int κ) e M w base (.slice (some ⟨g,0,none⟩) len cap) xs) (hx:xs[j]? =some x):cP (RT.int κ) (fun k=>M k∧k≠g) w (.pointer (some ⟨g,j,none⟩)) x:=by
 have:=h.ptr hx
 rwa [show j*(RT.int κ).n=j from eK j]at this
end Go.K
namespace Go.K
section
variable {P:Program} {r:Option Nat} {n:Nat} {L:Sl} {ds:List Deferred} {w:World} {K:Kt} {ops:Array Oper} {rest:List Oper} {d:Nat} {x y i:Operand} {ty:TypeId} {pos:String} {af:Array Edge}
theorem Rg.CP {t e:TypeId} {κ:IntKind} {j:Int} {b len cap bytes:Nat} {zv:Value} (ht:P.underlying t=some (.slice e)) (hi:TI P e zv 1 bytes) (hx:ev L x=some (.slice (some ⟨b,0,none⟩) len cap)) (E6:ev L i=some (.int κ j)) (hd:Nat.blt d n=true) (hj:0≤j∧j<len)
  (k:Rg P r n ops rest ((d,.pointer (some ⟨b,j.toNat,none⟩))::L) ds w K):
  Rg P r n ops ({dst:=some d,op:= .indexAddr t x i,type:=ty,pos,after:=af,guard:=none}::rest) L ds w K:=
 .op (fun _ h=>by cases h) rfl rfl hd _ w (fun ρ h=>by
  simp only[execOp,h x _ hx,h i _ E6];simp[Instr.indexAt,run_underlying ht,asIntOf,hj,hi.sizeOf,wI]) k
theorem Rg.ma {t e:TypeId} {κ:IntKind} {j:Int} {b len bytes:Nat} {zv:Value} (ht:P.underlying t=some (.array len e)) (hi:TI P e zv 1 bytes) (hx:ev L x=some (.pointer (some ⟨b,0,none⟩))) (E6:ev L i=some (.int κ j)) (hd:Nat.blt d n=true) (hj:0≤j∧j<len)
  (k:Rg P r n ops rest ((d,.pointer (some ⟨b,j.toNat,none⟩))::L) ds w K):
  Rg P r n ops ({dst:=some d,op:= .indexAddr t x i,type:=ty,pos,after:=af,guard:=none}::rest) L ds w K:=
 .op (fun _ h=>by cases h) rfl rfl hd _ w (fun ρ h=>by
  simp only[execOp,h x _ hx,h i _ E6];simp[Instr.indexAt,run_underlying ht,asIntOf,hj,hi.sizeOf,wI,Instr.sureAddr]) k
theorem Rg.mk0 {t e:TypeId} {len:Nat} {bytes:Nat} {zv:Value} (M:aC) (ht:P.underlying t=some (.slice e)) (hi:TI P e zv 1 bytes) (hz:zv.cells= #[zv]) (hx:ev L x=some (.int .i64 len)) (hy:ev L y=some (.int .i64 len)) (hd:Nat.blt d n=true) (hb:bytes*len≤140737488355328) (hl:len≤9223372036854775807)
  (k:∀b w',w.heap.size≤b→b<w'.heap.size→w'.heap[b]? =some (.cells (List.replicate len zv).toArray e (0,0))→Step M w (ins M b) w' aD→Rg P r n ops rest ((d,.slice (some ⟨b,0,none⟩) len len)::L) ds w' K):
  Rg P r n ops ({dst:=some d,op:= .makeSlice t x y,type:=ty,pos,after:=af,guard:=none}::rest) L ds w K:=by
 obtain⟨inf,i1,i2,i3,i4⟩:=hi.get
 have hm:madeCells zv.cells (len*1)=(List.replicate len zv).toArray:=by
  apply Array.ext
  ·simp[madeCells]
  ·intro j h1 h2;simp[madeCells,hz,Nat.mod_one]
 refine .op (fun _ h=>by cases h) rfl rfl hd (.slice (some ⟨w.heap.size,0,none⟩) len len) (w.alloc (.cells (List.replicate len zv).toArray e)) (fun ρ hρ=>?_) (k w.heap.size _ (aO _) (by simp) (ch w _) ((cQ M w _).own (aO _) (by simp)))
 have hbc:(inf.bytes:Int)*(len:Int)≤281474976710656:=by
  rw[i4];have h1:((bytes*len:Nat):Int)≤281474976710656:=by omega
  rwa [Int.natCast_mul]at h1
 have hr:=run_make (P:=P) w t e inf zv ht i1 i2 .i64 .i64 (len:Int) (len:Int) (by omega) (Int.le_refl _) hbc (by omega);simp only[ay,i3,hm]at hr;simp only[execOp,hρ x _ hx,hρ y _ hy];simp[cj,hr]
theorem Rg.acN {xt:TypeId} {κ:IntKind} {p:Int} (hx:ev L x=some (.int κ p)) (hd:Nat.blt d n=true) (k:Rg P r n ops rest ((d,.int κ (κ.wrap (0-p)))::L) ds w K):
  Rg P r n ops ({dst:=some d,op:= .unOp .neg xt x,type:=ty,pos,after:=af,guard:=none}::rest) L ds w K:=by
 refine .op (fun _ h=>by cases h) rfl rfl hd _ w (fun ρ h=>?_) k;simp only[execOp,h x _ hx];simp[Op.unary,Op.intArith]
theorem KK (p q:Nat) (hp:p<2^64) (hq:q<2^64):IntKind.u64.wrap (BitVec.ofInt IntKind.u64.bits (p:Int)&&&BitVec.ofInt IntKind.u64.bits (q:Int)).toNat=((p&&&q:Nat):Int):=by
 have h:∀z:Nat,z<2^64→((z:Int)%((2^IntKind.u64.bits:Nat):Int)).toNat=z:=fun z hz=>by
  change((z:Int)%((18446744073709551616:Nat):Int)).toNat=z;omega
 rw[BitVec.toNat_and,pW,pW,h p hp,h q hq];exact gv _ (by have:=Nat.and_le_left (n:=p) (m:=q);omega)
theorem XA (p q:Nat) (hp:p<2^64) (hq:q<2^64):IntKind.u64.wrap (BitVec.ofInt IntKind.u64.bits (p:Int)^^^BitVec.ofInt IntKind.u64.bits (q:Int)).toNat=((p^^^q:Nat):Int):=by
 have h:∀z:Nat,z<2^64→((z:Int)%((2^IntKind.u64.bits:Nat):Int)).toNat=z:=fun z hz=>by
  change((z:Int)%((18446744073709551616:Nat):Int)).toNat=z;omega
 rw[BitVec.toNat_xor,pW,pW,h p hp,h q hq];exact gv _ (by have:=Nat.xor_lt_two_pow hp hq;omega)
end
def bit (ws:List Nat) (i:Nat):Bool:=(ws.getD (i/64) 0).testBit (i%64)
def Words (ws:List Nat):Prop:=∀x∈ws,x<2^64
theorem Words.get {ws:List Nat} (h:Words ws) (k:Nat):ws.getD k 0<2^64:=by
 rw[aA]
 cases hx:ws[k]? with
 |none=>simp
 |some x=>exact h x (az hx)
theorem KL (ws:List Nat) (k j x:Nat) (hk:k<ws.length):(ws.set k x).getD j 0=if j=k then x else ws.getD j 0:=by
 rw[aA,aA,dr];by_cases h:k=j
 ·subst h;simp[hk]
 ·rw[if_neg h,if_neg (fun e=>h e.symm)]
theorem Words.set {ws:List Nat} (h:Words ws) {k x:Nat} (hx:x<2^64):Words (ws.set k x):=fun y hy=>by
 rcases List.mem_or_eq_of_mem_set hy with h1|h1
 ·exact h y h1
 ·rw[h1];exact hx
theorem KM {ws:List Nat} (hw:Words ws) {i:Nat} (hi:i/64<ws.length) (j:Nat):bit (ws.set (i/64) (ws.getD (i/64) 0^^^2^(i%64))) j=(bit ws j ^^ decide (j=i)):=by
 unfold bit;rw[KL _ _ _ _ hi];by_cases h:j/64=i/64
 ·rw[if_pos h,Nat.testBit_xor,Nat.testBit_two_pow,h];congr 1;exact decide_eq_decide.2 (by omega)
 ·rw[if_neg h,decide_eq_false (by intro e;rw[e]at h;exact h rfl),Bool.xor_false]
theorem CQ (x i t:Nat):(x/2^i).testBit t=x.testBit (t+i):=Nat.testBit_div_two_pow x t
theorem KN:∀x:Nat,0<x→∃k m,x=2^k*(2*m+1):=by
 intro x
 induction x using Nat.strongRecOn with
 |_ x ih=>
  intro h;by_cases h2:x%2=1
  ·exact⟨0,x/2,by omega⟩
  ·obtain⟨k,m,e⟩:=ih (x/2) (by omega) (by omega);refine⟨k+1,m,?_⟩;rw[Nat.pow_succ,Nat.mul_right_comm,←e];omega
theorem KO (m:Nat):(2*m+1).testBit 0=true:=by rw[Nat.testBit_zero];exact decide_eq_true (by omega)
theorem O8 (m:Nat):(2*m).testBit 0=false:=by rw[Nat.testBit_zero];exact decide_eq_false (by omega)
theorem Bg {k m:Nat}:(2^k*(2*m+1)).testBit k=true∧∀t,t<k→(2^k*(2*m+1)).testBit t=false:=by
 have h:=fun j=>Nat.testBit_two_pow_mul_add (2*m+1) (b:=0) (i:=k) (Nat.two_pow_pos k) j
 simp only[Nat.add_zero]at h;constructor
 ·rw[h k,if_neg (by omega),Nat.sub_self,KO]
 ·intro t ht;rw[h t,if_pos ht,Nat.zero_testBit]
theorem O9 {k m:Nat} (hx:2^k*(2*m+1)<2^64):(2^k*(2*m+1))&&&(2^64-2^k*(2*m+1))=2^k:=by
 have hp:=Nat.two_pow_pos k;have td:0<2^k*(2*m+1):=Nat.mul_pos hp (by omega)
 have e1:2^64-2^k*(2*m+1)=2^64-((2^k*(2*m)+(2^k-1))+1):=by
  have:2^k*(2*m+1)=2^k*(2*m)+2^k:=by rw[Nat.mul_add,eK]
  omega
 apply Nat.eq_of_testBit_eq;intro j
 have e2:2^k*(2*m)+(2^k-1)<2^64:=by
  have:2^k*(2*m+1)=2^k*(2*m)+2^k:=by rw[Nat.mul_add,eK]
  omega
 rw[Nat.testBit_and,e1,Nat.testBit_two_pow_sub_succ e2,Nat.testBit_two_pow_mul_add _ (by omega),Nat.testBit_two_pow_sub_one,Nat.testBit_two_pow];have h:=Nat.testBit_two_pow_mul_add (2*m+1) (b:=0) (i:=k) hp j;simp only[Nat.add_zero]at h;rw[h];rcases fa j k with h1|h1|h1
 ·rw[if_pos h1,Nat.zero_testBit,kG,decide_eq_false (by omega)]
 ·subst h1
  have hj:j<64:=by
   rcases cy j 64 with h2|h2
   ·exact h2
   ·have:=wH (n:=2) (by decide) h2;have:2^j*1≤2^j*(2*m+1):=Nat.mul_le_mul_left _ (by omega);omega
  rw[if_neg (ju _),if_neg (ju _),Nat.sub_self,KO,O8,decide_eq_true hj,decide_eq_true rfl];rfl
 ·rw[if_neg (by omega),if_neg (by omega),decide_eq_false (show¬k=j by omega)];obtain⟨t,rfl⟩:∃t,j=k+(t+1):=⟨j-k-1,by omega⟩;rw[show k+(t+1)-k=t+1 from by omega,Nat.testBit_succ,Nat.testBit_succ,show(2*m+1)/2=m from by omega,show 2*m/2=m from by omega]
  cases m.testBit t<;>simp
def IE:List Nat:=[0,1,56,2,57,49,28,3,61,58,42,50,38,29,17,4,62,47,59,36,45,43,51,22,53,39,33,30,24,18,12,5,63,55,48,27,60,41,37,16,46,35,44,21,52,32,23,11,54,26,40,15,34,20,31,10,25,14,19,9,13,8,7,6]
theorem Tn:∀k,k<64→(2^k*285870213051353865)%2^64/2^58<64∧IE[(2^k*285870213051353865)%2^64/2^58]? =some k:=by decide+kernel
theorem Hm (n:Nat):IntKind.u64.wrap (n:Int)=((n%2^64:Nat):Int):=by
 have:IntKind.u64.wrap (n:Int)=(n:Int)%18446744073709551616:=by simp[IntKind.wrap,IntKind.bits,IntKind.signed]
 rw[this];omega
theorem To (x t:Nat) (ht:t<64):((x:Int)).fdiv (2^min ((t:Int)).toNat IntKind.u64.bits)=((x/2^t:Nat):Int):=by
 rw[ay,show min t IntKind.u64.bits=t from xv (show t≤64 by omega),show(2:Int)^t=((2^t:Nat):Int)from by simp,Int.fdiv_eq_ediv_of_nonneg _ (Int.natCast_nonneg _)];rfl
theorem acO (t:Nat) (ht:t<64):IntKind.u64.wrap (1*2^min ((t:Int)).toNat IntKind.u64.bits)=((2^t:Nat):Int):=by
 have h:(2:Nat)^t<2^64:=Nat.pow_lt_pow_right (by decide) ht;rw[ay,show min t IntKind.u64.bits=t from xv (show t≤64 by omega),Int.one_mul,show(2:Int)^t=((2^t:Nat):Int)from by simp,Hm,uw h]
def qc (ws:List Nat):Array Value:=(ws.map fun(x:Nat)=>Value.int .u64 (x:Int)).toArray
theorem oL {ws:List Nat} {k:Nat} (hk:k<ws.length):(qc ws)[k]? =some (.int .u64 (ws.getD k 0:Nat)):=by
 simp[qc,aA,au hk]
theorem Fs (ws:List Nat) (k x:Nat):(qc ws).setIfInBounds k (.int .u64 (x:Int))=qc (ws.set k x):=by
 simp[qc,List.map_set]
structure jl (Ts Tw:TypeId) (n:Nat) (ws:List Nat) (M:aC) (w:World) (bs bw:Nat):Prop where
 ms:M bs
 mw:M bw
 ne:bs≠bw
 s:w.heap[bs]? =some (.cells #[.int .i64 n,.slice (some ⟨bw,0,none⟩) ws.length ws.length] Ts (0,0))
 w:w.heap[bw]? =some (.cells (qc ws) Tw (0,0))
 len:ws.length=(n+63)/64
 ok:Words ws
 nn:n≤1099511627776
theorem jl.step {Ts Tw:TypeId} {n:Nat} {ws:List Nat} {M M' N:aC} {w w':World} {bs bw:Nat} (h:jl Ts Tw n ws M w bs bw) (s:Step M w M' w' N) (h1: ¬N bs) (h2: ¬N bw):jl Ts Tw n ws M' w' bs bw:=
 ⟨(s.mem bs (ak h.s)).2 h.ms,(s.mem bw (ak h.w)).2 h.mw,h.ne,s.keep h.s h1,s.keep h.w h2,h.len,h.ok,h.nn⟩
theorem jl.put {Ts Tw:TypeId} {n:Nat} {ws EV:List Nat} {M:aC} {w w':World} {bs bw:Nat} (h:jl Ts Tw n ws M w bs bw) (s:Step M w M w' (fun b=>b=bw)) (hl:EV.length=ws.length) (hw:w'.heap[bw]? =some (.cells (qc EV) Tw (0,0))) (ok:Words EV):jl Ts Tw n EV M w' bs bw:=
 ⟨h.ms,h.mw,h.ne,by rw[hl];exact s.keep h.s h.ne,hw,by rw[hl];exact h.len,ok,h.nn⟩
def Pb (n:Nat) (ws:List Nat) (i:Int):Bool:=decide (0≤i∧i<n)&&bit ws i.toNat
section
variable {P:Program} {r:Option Nat} {n:Nat} {L:Sl} {ds:List Deferred} {w:World} {K:Kt} {ops:Array Oper} {rest:List Oper} {d:Nat} {x:Operand} {ty:TypeId} {pos:String} {af:Array Edge}
end
theorem KP (k j:Nat):bit (List.replicate k 0) j=false:=by
 unfold bit;rw[aA,List.getElem?_replicate]
 split<;>simp
def Rb (ws:List Nat) (p:Nat) (r:Int):Prop:=(∃j:Nat,r=j∧p≤j∧bit ws j=true∧∀t,p≤t→t<j→bit ws t=false)∨(r= -1∧∀t,p≤t→bit ws t=false)
theorem xU {ws:List Nat} {i t:Nat} (h:i%64+t<64):bit ws (i+t)=(ws.getD (i/64) 0/2^(i%64)).testBit t:=by
 unfold bit;rw[CQ,show(i+t)/64=i/64 from by omega,show(i+t)%64=t+i%64 from by omega]
theorem CR {x i:Nat} (hx:x<2^64) (hi:i<64) {k m:Nat} (h:x/2^i=2^k*(2*m+1)):i+k<64:=by
 rcases cy (i+k) 64 with h1|h1
 ·exact h1
 ·exfalso;have h2:(x/2^i).testBit k=true:=by rw[h];exact Bg.1
  rw[CQ]at h2;have:=Nat.testBit_lt_two_pow (jy hx (wH (n:=2) (by decide) (show 64≤k+i by omega)));rw[this]at h2;cases h2
end Go.K
namespace Go.K
abbrev Fo:=Int×Int
abbrev Tw:=Int×Int×Int
abbrev RT.fo:RT Fo:=RT.pair (RT.int .i64) (RT.int .i64)
def RT.OB:RT Nat where
 n:=1
 agg:=false
 R:=fun _ _ b vs=>vs=[.pointer (some ⟨b,0,none⟩)]
 len:=by rintro _ _ x vs rfl;rfl
 one:=by rintro _ _ x vs rfl v hv;simp at hv;subst hv;rfl
 le:=fun _ h=>h
theorem Hn {M:aC} {w:World} {b:Nat} {v:Value}:RT.OB.V M w b v↔v= .pointer (some ⟨b,0,none⟩):=⟨fun⟨_,h1,h2⟩=>by cases h1;exact h2,fun h=>⟨_,rfl,h⟩⟩
def hit (l:List Fo) (x:Int):Bool:=match l with| []=>false|p::_=>decide (p.1=x)
theorem acP {M:aC} {w:World} {a b:Int} (ha: -9223372036854775808≤a∧a≤9223372036854775807) (hb: -9223372036854775808≤b∧b≤9223372036854775807):RT.fo.V M w (a,b) (.agg [.int .i64 a,.int .i64 b].toArray):=
 eT (fI ha) (fI hb) rfl rfl rfl rfl
end Go.K
namespace Go.K
section
variable {P:Program} {r:Option Nat} {n:Nat} {L:Sl} {ds:List Deferred} {w:World} {K:Kt} {ops:Array Oper} {rest:List Oper} {d:Nat} {x y:Operand} {ty:TypeId} {pos:String} {af:Array Edge}
theorem lI {t:TypeId} {k:IntKind} (ht:P.underlying t=some (.int k)) {cs:Array Value} {off:Nat} {v:Value} (hv:cs[off]? =some v):(part t cs off).run P w= .ok v w:=by
 have E5:(isAgg t).run P w= .ok false w:=by
  unfold isAgg;rw[cj,run_underlying ht w];simp
 unfold part;rw[cj,E5];simp[hv]
end
end Go.K
namespace Go.K
section
variable {P:Program} {r:Option Nat} {n:Nat} {L:Sl} {ds:List Deferred} {w:World} {K:Kt} {ops:Array Oper} {rest:List Oper} {d:Nat} {ty:TypeId} {pos:String} {af:Array Edge} {x y i:Operand}
theorem zF {t e:TypeId} {inf:TypeInfo} (ht:P.underlying t=some (.array 2 e)) (he:P.underlying e=some (.int .i64)) (hi:P.info? e=some inf) (hc:P.cellsOf e=1) (a b c f:Int):
  (Op.equal t (.agg #[.int .i64 a,.int .i64 b]) (.agg #[.int .i64 c,.int .i64 f])).run P w= .ok (decide ((a,b)=(c,f))) w:=by
 have hI:∀(k:Nat) (p q:Int),(Op.equalIn (k+1) e (.int .i64 p) (.int .i64 q)).run P w= .ok (p==q) w:=fun k p q=>by simp[Op.equalIn,run_underlying he]
 change(Op.equalIn (9999+1) t _ _).run P w=_;rw[run_equalIn_array w 9999 _ _ ht hi,hc,show List.range 2=[0,1]from rfl];simp only[Op.eqItems,cj];rw[lI he (v:= .int .i64 a) rfl];simp only[cB];rw[lI he (v:= .int .i64 c) rfl];simp only[cB];rw[hI 9998];simp only[cB];by_cases h1:a=c
 ·subst h1;simp only[beq_self_eq_true,Bool.not_true,Bool.false_eq_true,if_false,cj];rw[lI he (v:= .int .i64 b) rfl];simp only[cB];rw[lI he (v:= .int .i64 f) rfl];simp only[cB];rw[hI 9998];simp only[cB];by_cases h2:b=f
  ·subst h2;simp
  ·simp[h2]
 ·simp[h1]
theorem Rg.XB {t t' e:TypeId} {inf:TypeInfo} {a b c f:Int} (ht:P.underlying t=some (.array 2 e)) (he:P.underlying e=some (.int .i64)) (hi:P.info? e=some inf) (hc:P.cellsOf e=1) (hq:P.eqGuardType P.depth t=false)
  (hx:ev L x=some (.agg #[.int .i64 a,.int .i64 b])) (hy:ev L y=some (.agg #[.int .i64 c,.int .i64 f])) (hd:Nat.blt d n=true)
  (k:Rg P r n ops rest ((d,.bool (decide ((a,b)=(c,f))))::L) ds w K):
  Rg P r n ops ({dst:=some d,op:= .binOp .eql t x y t',type:=ty,pos,after:=af,guard:=none}::rest) L ds w K:=
 .op (fun _ h=>by cases h) rfl rfl hd _ w (fun ρ h=>by
  have he:=zF (P:=P) (w:=w) ht he hi hc a b c f;simp only[execOp];rw[h x _ hx,h y _ hy];rw[cj,cj,run_eqGuard_agg (P:=P) w .eql t x y _ _ hq];simp[binOp,he]) k
theorem Rg.Ft {t t' e:TypeId} {zv:Value} {size bytes:Nat} {a b c f:Int} (ht:P.underlying t=some (.array 2 e)) (he:P.underlying e=some (.int .i64)) (hi:TI P e zv size bytes) (hc:P.cellsOf e=1) (hq:P.eqGuardType P.depth t=false)
  (hx:ev L x=some (.agg #[.int .i64 a,.int .i64 b])) (hy:ev L y=some (.agg #[.int .i64 c,.int .i64 f])) (hd:Nat.blt d n=true)
  (k:Rg P r n ops rest ((d,.bool (decide ((a,b)=(c,f))))::L) ds w K):
  Rg P r n ops ({dst:=some d,op:= .binOp .eql t x y t',type:=ty,pos,after:=af,guard:=none}::rest) L ds w K:=by
 obtain⟨inf,h1,_⟩:=hi.get;exact .XB ht he h1 hc hq hx hy hd k
theorem Rg.Pc {t e:TypeId} {zv:Value} {bytes:Nat} {a b:Int} (ht:P.underlying t=some (.array 2 e)) (hi:TI P t (.agg #[.int .i64 0,.int .i64 0]) 2 16) (he:TI P e zv 1 bytes) (hx:ev L x=some (.int .i64 a)) (hy:ev L y=some (.int .i64 b)) (hd:Nat.blt d n=true)
  (k:Rg P r n ops rest ((d,.agg #[.int .i64 a,.int .i64 b])::L) ds w K):
  Rg P r n ops ({dst:=some d,op:= .build t #[(0,x),(1,y)],type:=ty,pos,after:=af,guard:=none}::rest) L ds w K:=by
 obtain⟨inf,h1,h2,h3,h4⟩:=hi.get;refine .op (fun _ h=>by cases h) rfl rfl hd _ w (fun ρ h=>?_) k;simp only[execOp,fq,eR,jY,h x _ hx,h y _ hy];simp[Instr.build,zeroValue,typeInfo,h1,h2,run_underlying ht,he.sizeOf,Instr.fill,Value.cells]
theorem dZ.ints {M:aC} {κ:IntKind}:∀{xs:List Int} {C:List Value},dZ (RT.int κ) M w xs C→C=xs.map (Value.int κ)
 |[],_,h=>by cases h;rfl
 |x::xs,_,⟨us,rest,h1,h2,h3⟩=>by
  subst h1;rw[h2.1,dZ.ints h3];rfl
theorem dZ.Bh {M:aC} {κ:IntKind}:∀{xs:List Int},(∀x∈xs,κ.min≤x∧x≤κ.max)→dZ (RT.int κ) M w xs (xs.map (Value.int κ))
 |[],_=>rfl
 |x::xs,h=>⟨[.int κ x],_,rfl,⟨rfl,h x (bK ..)⟩,dZ.Bh fun y hy=>h y (bZ _ hy)⟩
theorem dZ.rng {M:aC} {κ:IntKind}:∀{xs:List Int} {C:List Value},dZ (RT.int κ) M w xs C→∀x∈xs,κ.min≤x∧x≤κ.max
 |[],_,_,x,hx=>by cases hx
 |y::xs,_,⟨us,rest,h1,h2,h3⟩,x,hx=>by
  rcases cd.1 hx with rfl|hx
  ·exact h2.2
  ·exact dZ.rng h3 x hx
theorem Own.over {e:TypeId} {M:aC} {base g len cap o:Nat} {κ:IntKind} {xs ys:List Int} (h:Own (RT.int κ) e M w base (.slice (some ⟨g,0,none⟩) len cap) xs) (ho:o+ys.length≤xs.length) (hy:∀y∈ys,κ.min≤y∧y≤κ.max):
  Own (RT.int κ) e M (w.setCells g o (ys.map (Value.int κ))) base (.slice (some ⟨g,0,none⟩) len cap) (xs.take o++ys++xs.drop (o+ys.length))∧Step M w M (w.setCells g o (ys.map (Value.int κ))) (fun k=>k=g)∧(∀j,j<ys.length→(w.cell? ⟨g,o+j,none⟩).isSome=true)∧(∀j,j<ys.length→w.frozen? ⟨g,o+j,none⟩=false):=by
 obtain⟨⟨C,hr,ha⟩,hm⟩:=h;have Fp:=hm g rfl;rcases hr.2 with⟨h1,_⟩|⟨g',xC,cur,h1,h2,h3,h4,h5,h6,h7⟩
 ·cases h1
 ·simp only[fV,dK,nA]at h1;obtain⟨⟨rfl,_⟩,rfl,rfl⟩:=h1;have e1:(RT.int κ).n=1:=rfl;rw[e1,eK]at h6 h7;have hCx:=ha.ints;have O0:=ha.rng;obtain⟨EU,c1,c2,c3,c4⟩:=mS (ys.map (Value.int κ)) w g o cur e (0,0) h3;have hs:=c4 M Fp;have hlen:(xs.take o++ys++xs.drop (o+ys.length)).length=xs.length:=by rw[bj,bj,bC,dw];omega
  refine⟨⟨⟨(xs.take o++ys++xs.drop (o+ys.length)).map (Value.int κ),⟨by rw[aH,e1,eK],.inr ⟨g,cap,EU,by rw[hlen],h2,c1,by rw[hlen];exact h4,h5,by rw[c2,e1,eK];exact h6,?_⟩⟩,dZ.Bh fun z hz=>?_⟩,fun b hb=>hm b hb⟩,hs,fun j hj=>?_,fun j hj=>by simp[World.frozen?,h3]⟩
  ·rw[e1,eK,hlen];refine eZ fun t=>?_
   rw[cp];have KF:=Hl (l:=xs.map (Value.int κ)) (vs:=ys.map (Value.int κ)) (o:=o) (by rw[aH,aH];exact ho) t;rw[aH,←List.map_take,←List.map_drop,←dF,←dF]at KF;rw[KF];have Xh:∀t,t<xs.length→(xs.map (Value.int κ))[t]? =cur[t]? :=fun t ht=>by rw[←hCx,←h7,cp,if_pos ht];simp
   split
   ·rename_i ht
    have e0:EU.toList[t]? =EU[t]? :=by simp
    rw[e0,c3 t,aH];by_cases h8:o≤t∧t<o+ys.length
    ·rw[if_pos ⟨h8.1,h8.2,by omega⟩,if_pos h8]
    ·rw[if_neg (fun h=>h8 ⟨h.1,h.2.1⟩),if_neg h8,Xh t ht]
   ·rename_i ht
    rw[if_neg (by omega),dN (by rw[aH];omega)]
  ·rcases cq.1 hz with hz|hz
   ·rcases cq.1 hz with hz|hz
    ·exact O0 z (List.mem_of_mem_take hz)
    ·exact hy z hz
   ·exact O0 z (List.mem_of_mem_drop hz)
  ·rw[fA h3 (v:=cur[o+j]'(by omega)) (by simp)];rfl
theorem Own.cell {e:TypeId} {M:aC} {base g len cap j:Nat} {κ:IntKind} {xs:List Int} {a:Int} (h:Own (RT.int κ) e M w base (.slice (some ⟨g,0,none⟩) len cap) xs) (hx:xs[j]? =some a):w.cell? ⟨g,j,none⟩=some (.int κ a):=by
 obtain⟨b,o,vs,h1,h2,h3,h4⟩:=h.ptr hx;simp only[Value.pointer.injEq,dK,nA]at h1;obtain⟨rfl,rfl,_⟩:=h1;have:=h4 0 (.int κ a) (by rw[h3.1];rfl);simpa[RT.int]using this
theorem Rg.Rc {tt st e:TypeId} {zv:Value} {bytes:Nat} {M:aC} {base g len cap o dl dc sl sc:Nat} {κ:IntKind} {xs ys:List Int} {sa:Addr} (ht:P.underlying tt=some (.slice e)) (hi:TI P e zv 1 bytes) (hd:Nat.blt d n=true)
  (hx:ev L x=some (.slice (some ⟨g,o,none⟩) dl dc)) (hy:ev L y=some (.slice (some sa) sl sc)) (h:Own (RT.int κ) e M w base (.slice (some ⟨g,0,none⟩) len cap) xs) (hn:ys.length=min sl dl) (ho:o+ys.length≤xs.length)
  (acQ:∀j a,ys[j]? =some a→w.cell? (sa.add j)=some (.int κ a)) (O0:∀a∈ys,κ.min≤a∧a≤κ.max)
  (k:∀w',Own (RT.int κ) e M w' base (.slice (some ⟨g,0,none⟩) len cap) (xs.take o++ys++xs.drop (o+ys.length))→Step M w M w' (fun k=>k=g)→Rg P r n ops rest ((d,.int .i64 (ys.length:Int))::L) ds w' K):
  Rg P r n ops ({dst:=some d,op:= .call {callee:= .builtin .copy,args:= #[x,y],argTypes:= #[tt,st]},type:=ty,pos,after:=af,guard:=none}::rest) L ds w K:=by
 obtain⟨h1,h2,h3,h4⟩:=h.over ho O0;obtain⟨inf,i1,_,i2,_⟩:=hi.get
 have gY:=run_copy_cells (P:=P) w tt st ty e g o dl dc sa sl sc (ys.map (Value.int κ)) ht (by simp[i1,i2]) (by rw[aH];exact hn)
  (fun j v hv=>by
   rw[bm]at hv
   cases hj:ys[j]? with
   |none=>rw[hj]at hv;cases hv
   |some a=>rw[hj]at hv;cases hv;exact acQ j a hj) (by rw[aH];exact h3) (by rw[aH];exact h4) (fun v hv=>by obtain⟨a,_,rfl⟩:=ca.1 hv;rfl)
 rw[aH]at gY;refine .op (fun _ h=>by cases h) rfl rfl hd _ _ (fun ρ hρ=>?_) (k _ h1 h2);simp only[execOp,resolve,fq,eR,jY,hρ x _ hx,hρ y _ hy];simp[Go.invoke,builtin,gY,goInt]
theorem Rg.Tp {tt e:TypeId} {bytes:Nat} {M:aC} {base g len cap o dl dc:Nat} {κ:IntKind} {xs:List Int} (ht:P.underlying tt=some (.slice e)) (hi:TI P e (.int κ 0) 1 bytes) (hx:ev L x=some (.slice (some ⟨g,o,none⟩) dl dc)) (h:Own (RT.int κ) e M w base (.slice (some ⟨g,0,none⟩) len cap) xs) (hdl:0<dl) (ho:o+dl≤xs.length) (hz:κ.min≤0∧0≤κ.max)
  (k:∀w',Own (RT.int κ) e M w' base (.slice (some ⟨g,0,none⟩) len cap) (xs.take o++List.replicate dl 0++xs.drop (o+dl))→Step M w M w' (fun k=>k=g)→Rg P r n ops rest L ds w' K):
  Rg P r n ops ({dst:=none,op:= .call {callee:= .builtin .clear,args:= #[x],argTypes:= #[tt]},type:=ty,pos,after:=af,guard:=none}::rest) L ds w K:=by
 obtain⟨h1,h2,h3,h4⟩:=h.over (ys:=List.replicate dl 0) (o:=o) (by rw[ck];exact ho) (fun a ha=>by rw[pI ha];exact hz);rw[ck]at h1 h3 h4;obtain⟨inf,i1,i2,i3,_⟩:=hi.get;have gY:=Go.Lib.run_clear_slice (P:=P) w tt e ty (.int κ 0) ht (fun w=>by simp[zeroValue,typeInfo,i1,i2]) rfl rfl g o dl dc hdl h3 h4;rw[List.map_replicate]at h1 h2;refine .opv (fun _ h=>by cases h) rfl rfl (.tuple #[]) _ (fun ρ hρ=>?_) (k _ h1 h2);simp only[execOp,resolve,fq,eR,jY,hρ x _ hx];simp[Go.invoke,builtin,gY]
end
end Go.K
namespace Go.K
open Go.RowKit (Below)
open Go.Maps (Keyed)
open Go.ChangeMaps (putKey delKey notKey)
abbrev DU:=DataW Unit
structure Tq (P:Program) (k:TypeId) (R:Value→Option (DU×List MemPlace)) (M:aC) (w:World) (b:Nat) (m:List (Lit×DU)):Prop where
 mut_:M b
 own:w.ownsMap P k R b m.length (.map m)
section
variable {P:Program} {r:Option Nat} {n:Nat} {L:Sl} {ds:List Deferred} {w:World} {K:Kt} {ops:Array Oper} {rest:List Oper} {d:Nat} {x y z:Operand} {ty:TypeId} {pos:String} {af:Array Edge}
variable {kt:TypeId} {R:Value→Option (DU×List MemPlace)} {M:aC} {b:Nat} {m:List (Lit×DU)}
theorem Step.xV {w w':World} (h:Below w.heap.size w w') (M:aC):Step M w M w' aD:=
 ⟨fun h0 b hb=>jy (h0 b hb) h.size,h.os,h.tape,h.output,h.size,fun _ _=>Iff.rfl,fun b hb _=>h.block b hb,fun _ h=>h.elim⟩
end
end Go.K
namespace Go.K
def allM:aC:=fun _=>True
theorem Step.all {M M' N:aC} {w w':World} (s:Step M w M' w' N):Step allM w allM w' N:=⟨fun h=>absurd (h w.heap.size trivial) (ju _),s.os,s.tape,s.output,s.size,fun _ _=>Iff.rfl,s.same,fun _ _=>trivial⟩
theorem Step.toAny {M M':aC} {w w':World} (s:Step M w M' w' aD) (M1:aC):Step M1 w M1 w' aD:=s.any M1
theorem dZ.int {κ:IntKind} {M M':aC} {w w':World}:∀{xs:List Int} {C:List Value},dZ (RT.int κ) M w xs C→dZ (RT.int κ) M' w' xs C
 |[],_,h=>h
 |x::xs,C,h=>by
  obtain⟨vs,r,h1,h2,h3⟩:=h;exact⟨vs,r,h1,h2,dZ.int h3⟩
theorem Own.Pd {κ:IntKind} {e:TypeId} {M:aC} {w:World} {base:Nat} {v:Value} {xs:List Int} (h:Own (RT.int κ) e M w base v xs) {M':aC} (hm:∀b,v.ownBlock=some b→M' b):Own (RT.int κ) e M' w base v xs:=by
 obtain⟨⟨C,h1,h2⟩,_⟩:=h;exact⟨⟨C,h1,dZ.int h2⟩,hm⟩
theorem Own.XC {κ:IntKind} {e:TypeId} {N:aC} {w w':World} {base:Nat} {v:Value} {xs:List Int} (h:Own (RT.int κ) e allM w base v xs) (s:Step allM w allM w' N) (hn:∀b,v.ownBlock=some b→¬N b):Own (RT.int κ) e allM w' base v xs:=by
 obtain⟨⟨C,h1,h2⟩,_⟩:=h;refine⟨⟨C,⟨h1.1,?_⟩,dZ.int h2⟩,fun _ _=>trivial⟩;rcases h1.2 with h3|⟨g,cap,cur,h3,h4,h5,h6,h7,h8⟩
 ·exact .inl h3
 ·exact .inr ⟨g,cap,cur,h3,h4,by rw[s.same g (ak h5) (hn g (by rw[h3];rfl))];exact h5,h6,h7,h8⟩
def mL (v:Value):aC:=fun b=>v.ownBlock=some b
theorem Own.lone {κ:IntKind} {e:TypeId} {M:aC} {w:World} {base:Nat} {v:Value} {xs:List Int} (h:Own (RT.int κ) e M w base v xs):Own (RT.int κ) e (mL v) w base v xs:=h.Pd fun _ h=>h
end Go.K
namespace Go.K
def Fu (at':Nat→Nat) (cont:Nat→Bool):Nat×Nat:=
 if at' 0<0x80 then(at' 0,1)
 else if at' 0/32==6&&cont 1 then
  if(at' 0%32)*64+at' 1%64≥0x80 then((at' 0%32)*64+at' 1%64,2)else(65533,1)
 else if at' 0/16==14&&cont 1&&cont 2 then
  if(at' 0%16)*4096+(at' 1%64)*64+at' 2%64≥0x800&&Utf8.valid ((at' 0%16)*4096+(at' 1%64)*64+at' 2%64:Nat)then((at' 0%16)*4096+(at' 1%64)*64+at' 2%64,3)else(65533,1)
 else if at' 0/8==30&&cont 1&&cont 2&&cont 3 then
  if(at' 0%8)*262144+(at' 1%64)*4096+(at' 2%64)*64+at' 3%64≥0x10000&&Utf8.valid ((at' 0%8)*262144+(at' 1%64)*4096+(at' 2%64)*64+at' 3%64:Nat)then((at' 0%8)*262144+(at' 1%64)*4096+(at' 2%64)*64+at' 3%64,4)else(65533,1)
 else(65533,1)
theorem IF (s:ByteArray) (i:Nat):Utf8.decode s i=Fu (fun k=>(s.get! (i+k)).toNat) (fun k=>decide (i+k<s.size)&&(s.get! (i+k)).toNat/64==2):=rfl
def j6 (l:List UInt8) (k:Nat):Nat:=(l.getD k 0).toNat
def kf (l:List UInt8) (k:Nat):Bool:=decide (k<l.length)&&j6 l k/64==2
def dec (l:List UInt8):Nat×Nat:=Fu (j6 l) (kf l)
theorem IG (l:List UInt8) (j:Nat):(⟨l.toArray⟩:ByteArray).get! j=l.getD j 0:=by
 show l.toArray[j]! =_;rw[aA,getElem!_def];simp only[dX]
 cases l[j]? <;>rfl
theorem Fv (l:List UInt8) (pos:Nat):Utf8.decode ⟨l.toArray⟩ pos=dec (l.drop pos):=by
 rw[IF,dec]
 have h1:(fun k=>((⟨l.toArray⟩:ByteArray).get! (pos+k)).toNat)=j6 (l.drop pos):=by
  funext k;rw[IG,j6,aA,aA,List.getElem?_drop]
 have h2:(fun k=>decide (pos+k<(⟨l.toArray⟩:ByteArray).size)&&((⟨l.toArray⟩:ByteArray).get! (pos+k)).toNat/64==2)=kf (l.drop pos):=by
  funext k;have:=congrFun h1 k;rw[this,kf,dw];congr 1;have hs:(⟨l.toArray⟩:ByteArray).size=l.length:=by simp[ByteArray.size]
  rw[hs];exact decide_eq_decide.2 (by omega)
 rw[h1,h2]
theorem xW {l:List UInt8} {k:Nat} (h:kf l k=true):k<l.length:=by
 simp only[kf,bU,decide_eq_true_eq]at h;exact h.1
theorem lT {l:List UInt8} (hl:l≠[]):1≤(dec l).2∧(dec l).2≤l.length:=by
 have h0:0<l.length:=oy.2 hl;unfold dec Fu
 split
 ·exact⟨aO _,h0⟩
 ·split
  ·rename_i h
   simp only[bU]at h;have:=xW h.2
   split<;>(simp only;omega)
  ·split
   ·rename_i h
    simp only[bU]at h;have:=xW h.2
    split<;>(simp only;omega)
   ·split
    ·rename_i h
     simp only[bU]at h;have:=xW h.2
     split<;>(simp only;omega)
    ·exact⟨aO _,h0⟩
theorem oN (l:List UInt8) (k:Nat):j6 l k<256:=by unfold j6;exact UInt8.toNat_lt _
theorem uN (l:List UInt8):(dec l).1≤1114111:=by
 unfold dec Fu
 split
 ·simp only;omega
 ·split
  ·have:=oN l 0
   split<;>(simp only;omega)
  ·split
   ·have:=oN l 0
    split<;>(simp only;omega)
   ·split
    ·split
     ·rename_i h
      simp only[bU,Utf8.valid,jT,decide_eq_true_eq]at h;simp only;omega
     ·simp only;omega
    ·simp only;omega
def fh (l:List UInt8):List Int:=match l with
 |[]=>[]
 |c::r=>((dec (c::r)).1:Int)::fh ((c::r).drop (dec (c::r)).2)
termination_by l.length
decreasing_by
 have:=(lT (l:=c::r) (by simp)).1;simp only[dw,cM];omega
theorem uO:fh []=[]:=by unfold fh;rfl
theorem sr {l:List UInt8} (h:l≠[]):fh l=((dec l).1:Int)::fh (l.drop (dec l).2):=by
 cases l with
 |nil=>exact absurd rfl h
 |cons c r=>rw[fh]
theorem iW (l:List UInt8):(fh l).length≤l.length:=by
 induction hn:l.length using Nat.strongRecOn generalizing l with
 |_ n ih=>
  by_cases h:l=[]
  ·subst h;rw[uO];simp
  ·rw[sr h,cM];have hw:=lT h;have:=ih _ (by rw[dw];omega) (l.drop (dec l).2) rfl;rw[dw]at this;omega
section
variable {P:Program} {r:Option Nat} {n:Nat} {L:Sl} {ds:List Deferred} {w:World} {K:Kt} {ops:Array Oper} {rest:List Oper} {d:Nat} {x:Operand} {ty:TypeId} {pos:String} {af:Array Edge}
theorem Rg.KQ {t:TypeId} {l:List UInt8} (M:aC) (ht:P.underlying t=some .string) (hx:ev L x=some (.string ⟨l.toArray⟩)) (hd:Nat.blt d n=true)
  (k:∀b w',w.heap.size≤b→b<w'.heap.size→w'.heap[b]? =some (.stringIter ⟨l.toArray⟩ 0)→Step M w (ins M b) w' aD→Rg P r n ops rest ((d,.pointer (some ⟨b,0,none⟩))::L) ds w' K):
  Rg P r n ops ({dst:=some d,op:= .range t x,type:=ty,pos,after:=af,guard:=none}::rest) L ds w K:=by
 refine .op (fun _ h=>by cases h) rfl rfl hd (.pointer (some ⟨w.heap.size,0,none⟩)) (w.alloc (.stringIter ⟨l.toArray⟩ 0)) (fun ρ hρ=>?_) (k w.heap.size _ (aO _) (by simp) (ch w _) ((cQ M w _).own (aO _) (by simp)));simp only[execOp,hρ x _ hx];simp[Instr.range,cj,run_underlying ht,newObj,Sem.run]
theorem jm (M:aC) {b:Nat} {o:Obj} (hm:M b):Step M w M {w with heap:=w.heap.setIfInBounds b o} (fun k=>k=b):=
 ⟨fun h b hb=>by simpa using h b hb,rfl,rfl,rfl,by simp,fun _ _=>Iff.rfl,fun k _ hn=>by simp[dA,Ne.symm hn],fun k hk=>by subst hk;exact hm⟩
theorem qd {b p:Nat} {s:ByteArray} (hb:w.heap[b]? =some (.stringIter s p)):(getObj b).run P w= .ok (.stringIter s p) w:=by simp[getObj,Sem.run,hb]
theorem Rg.Pe {l:List UInt8} {b p:Nat} {M:aC} (hx:ev L x=some (.pointer (some ⟨b,0,none⟩))) (hb:w.heap[b]? =some (.stringIter ⟨l.toArray⟩ p)) (hm:M b) (hd:Nat.blt d n=true)
  (k1:p<l.length→∀w',w'.heap[b]? =some (.stringIter ⟨l.toArray⟩ (p+(dec (l.drop p)).2))→Step M w M w' (fun k=>k=b)→Rg P r n ops rest ((d,.tuple #[.bool true,.int .i64 p,.int .i32 ((dec (l.drop p)).1:Nat)])::L) ds w' K)
  (k2: ¬p<l.length→Rg P r n ops rest ((d,.tuple #[.bool false])::L) ds w K):
  Rg P r n ops ({dst:=some d,op:= .next x true,type:=ty,pos,after:=af,guard:=none}::rest) L ds w K:=by
 have hs:(⟨l.toArray⟩:ByteArray).size=l.length:=by simp[ByteArray.size]
 have dQ:=ak hb;by_cases h:p<l.length
 ·have key:=k1 h {w with heap:=w.heap.setIfInBounds b (.stringIter ⟨l.toArray⟩ (p+(dec (l.drop p)).2))} (by simp[dA,dQ]) (jm M hm);refine .op (fun _ h=>by cases h) rfl rfl hd _ _ (fun ρ hρ=>?_) key;simp only[execOp,hρ x _ hx,Instr.next,cj,qd hb,cB];rw[if_pos (by rw[hs];exact h)];simp[Fv,setObj,Sem.run,goInt,hb]
 ·refine .op (fun _ h=>by cases h) rfl rfl hd _ w (fun ρ hρ=>?_) (k2 h);simp only[execOp,hρ x _ hx,Instr.next,cj,qd hb,cB];rw[if_neg (by rw[hs];exact h)];simp
theorem Rg.Ho {t:TypeId} {i:Operand} {l:List UInt8} {κ:IntKind} {j:Int} {c:UInt8} (ht:P.underlying t=some .string) (hx:ev L x=some (.string ⟨l.toArray⟩)) (hi:ev L i=some (.int κ j)) (hd:Nat.blt d n=true) (hj:0≤j) (hc:l[j.toNat]? =some c)
  (k:Rg P r n ops rest ((d,.int .u8 (c.toNat:Int))::L) ds w K):
  Rg P r n ops ({dst:=some d,op:= .index t x i,type:=ty,pos,after:=af,guard:=none}::rest) L ds w K:=by
 have dQ:=(ao.1 hc).1;have hs:(⟨l.toArray⟩:ByteArray).size=l.length:=by simp[ByteArray.size]
 have hg:(⟨l.toArray⟩:ByteArray)[j.toNat]? =some c:=by
  rw[getElem?_pos _ _ (by rw[hs];exact dQ)];congr 1;have:=(ao.1 hc).2;rw[←this];rfl
 refine .op (fun _ h=>by cases h) rfl rfl hd _ w (fun ρ hρ=>?_) k;simp only[execOp,hρ x _ hx,hρ i _ hi,Instr.index,cj,asIntOf,Sem.run_pure,cB,run_underlying ht];simp[hj,hg]
theorem rA (l:List UInt8) (a b:Nat):(⟨l.toArray⟩:ByteArray).extract a b=⟨((l.take b).drop a).toArray⟩:=by
 have:((⟨l.toArray⟩:ByteArray).extract a b).data=((l.take b).drop a).toArray:=by
  rw[ByteArray.data_extract];apply Array.toList_inj.1;rw[Array.toList_extract,List.extract_eq_take_drop,List.drop_take]
 exact congrArg ByteArray.mk this
theorem Rg.Pf {t:TypeId} {i:Operand} {l:List UInt8} {κ:IntKind} {j:Int} (ht:P.underlying t=some .string) (hx:ev L x=some (.string ⟨l.toArray⟩)) (hi:ev L i=some (.int κ j)) (hd:Nat.blt d n=true) (hj:0≤j∧j≤l.length)
  (k:Rg P r n ops rest ((d,.string ⟨(l.drop j.toNat).toArray⟩)::L) ds w K):
  Rg P r n ops ({dst:=some d,op:= .slice t x (some i) none none,type:=ty,pos,after:=af,guard:=none}::rest) L ds w K:=by
 have hs:(⟨l.toArray⟩:ByteArray).size=l.length:=by simp[ByteArray.size]
 refine .op (fun _ h=>by cases h) rfl rfl hd _ w (fun ρ hρ=>?_) k;simp only[execOp,hρ x _ hx,db,im,hρ i _ hi];rw[cj,run_sliceAt_string _ _ _ _ _ _ ht,run_slice_string_l _ _ _ ht _ _ hj.1 (by rw[hs];exact hj.2),rA,hs,List.take_length];simp
theorem Rg.Re {t:TypeId} {i:Operand} {l:List UInt8} {κ:IntKind} {j:Int} (ht:P.underlying t=some .string) (hx:ev L x=some (.string ⟨l.toArray⟩)) (hi:ev L i=some (.int κ j)) (hd:Nat.blt d n=true) (hj:0≤j∧j≤l.length)
  (k:Rg P r n ops rest ((d,.string ⟨(l.take j.toNat).toArray⟩)::L) ds w K):
  Rg P r n ops ({dst:=some d,op:= .slice t x none (some i) none,type:=ty,pos,after:=af,guard:=none}::rest) L ds w K:=by
 have hs:(⟨l.toArray⟩:ByteArray).size=l.length:=by simp[ByteArray.size]
 refine .op (fun _ h=>by cases h) rfl rfl hd _ w (fun ρ hρ=>?_) k;simp only[execOp,hρ x _ hx,db,im,hρ i _ hi];rw[cj,run_sliceAt_string _ _ _ _ _ _ ht,run_slice_string_h _ _ _ ht _ _ hj.1 (by rw[hs];exact hj.2),rA,List.drop_zero];simp
end
theorem Own.ej {α:Type} {A:RT α} {e:TypeId} {M:aC} {w:World} {base b p:Nat} {s:ByteArray} {v:Value} {xs:List α} (h:Own A e M w base v xs) (hb:w.heap[b]? =some (.stringIter s p)):v.ownBlock≠some b:=fun hv=>by
 obtain⟨⟨C,h1,_⟩,_⟩:=h;rcases h1.2 with⟨h2,_⟩|⟨g,cap,cur,h2,_,h3,_⟩
 ·rw[h2]at hv;cases hv
 ·rw[h2]at hv;cases hv;rw[h3]at hb;cases hb
theorem Own.dx {α β:Type} {A:RT α} {B:RT β} {e e':TypeId} {M M':aC} {w:World} {base Hg:Nat} {v u:Value} {xs:List α} {ys:List β} (h:Own A e M w base v xs) (h':Own B e' M' w Hg u ys) (ht:e≠e') {b:Nat} (hb:v.ownBlock=some b):u.ownBlock≠some b:=fun hu=>by
 obtain⟨⟨C,h1,_⟩,_⟩:=h;obtain⟨⟨C',WA,_⟩,_⟩:=h';rcases h1.2 with⟨h2,_⟩|⟨g,cap,cur,h2,_,h3,_⟩
 ·rw[h2]at hb;cases hb
 ·rcases WA.2 with⟨xE,_⟩|⟨g',xC,Xc,xE,_,h3',_⟩
  ·rw[xE]at hu;cases hu
  ·rw[h2]at hb;rw[xE]at hu;cases hb;cases hu;rw[h3]at h3';cases h3';exact ht rfl
theorem Own.eM {α:Type} {A:RT α} {e t:TypeId} {M:aC} {w:World} {base b:Nat} {v:Value} {xs:List α} {cs:Array Value} {fr:Nat×Nat} (h:Own A e M w base v xs) (hb:w.heap[b]? =some (.cells cs t fr)) (ht:t≠e):v.ownBlock≠some b:=fun hv=>by
 obtain⟨⟨C,h1,_⟩,_⟩:=h;rcases h1.2 with⟨h2,_⟩|⟨g,cap,cur,h2,_,h3,_⟩
 ·rw[h2]at hv;cases hv
 ·rw[h2]at hv;cases hv;rw[h3]at hb;cases hb;exact ht rfl
end Go.K
namespace Go.K
open Go.Proofs
theorem I3:TI Tryz.prog 3 (.int .i64 0) 1 8:=by unfold TI;kernel_rfl
theorem I5:TI Tryz.prog 5 (.int .u8 0) 1 1:=by unfold TI;kernel_rfl
theorem I9:TI Tryz.prog 9 (.string ⟨#[]⟩) 1 16:=by unfold TI;kernel_rfl
theorem I26:TI Tryz.prog 26 (.int .i64 0) 1 8:=by unfold TI;kernel_rfl
theorem j7:TI Tryz.prog 37 (.slice none 0 0) 1 24:=by unfold TI;kernel_rfl
theorem zt:TI Tryz.prog 57 (.slice none 0 0) 1 24:=by unfold TI;kernel_rfl
theorem uP:TI Tryz.prog 67 (.slice none 0 0) 1 24:=by unfold TI;kernel_rfl
theorem ou:TI Tryz.prog 69 (.agg #[(.int .i64 0),(.slice none 0 0)]) 2 32:=by unfold TI;kernel_rfl
theorem EW:TI Tryz.prog 71 (.agg #[(.int .i64 0),(.slice none 0 0),(.int .i64 0)]) 3 40:=by unfold TI;kernel_rfl
theorem An:TI Tryz.prog 78 (.agg #[(.string ⟨#[]⟩),(.string ⟨#[]⟩)]) 2 32:=by unfold TI;kernel_rfl
theorem oO:TI Tryz.prog 83 (.agg #[(.int .i64 0),(.slice none 0 0)]) 2 32:=by unfold TI;kernel_rfl
theorem zG:TI Tryz.prog 142 (.pointer none) 1 8:=by unfold TI;kernel_rfl
theorem acR:TI Tryz.prog 155 (.slice none 0 0) 1 24:=by unfold TI;kernel_rfl
theorem kz:TI Tryz.prog 166 (.agg #[(.string ⟨#[]⟩),(.string ⟨#[]⟩)]) 2 32:=by unfold TI;kernel_rfl
theorem CS:TI Tryz.prog 204 (.slice none 0 0) 1 24:=by unfold TI;kernel_rfl
theorem IH:TI Tryz.prog 205 (.slice none 0 0) 1 24:=by unfold TI;kernel_rfl
theorem acS:TI Tryz.prog 207 (.agg #[(.slice none 0 0),(.slice none 0 0),(.int .i64 0)]) 3 56:=by unfold TI;kernel_rfl
theorem Bi:TI Tryz.prog 209 (.agg #[(.int .i64 0),(.int .i64 0),(.int .i64 0),(.int .i64 0)]) 4 32:=by unfold TI;kernel_rfl
theorem II:TI Tryz.prog 266 (.agg #[(.string ⟨#[]⟩),(.int .i64 0)]) 2 24:=by unfold TI;kernel_rfl
theorem acT:TI Tryz.prog 336 (.agg #[(.pointer none),(.slice none 0 0)]) 2 32:=by unfold TI;kernel_rfl
theorem B69:placesOf Tryz.prog 69=[(0,1),(1,1)].map some:=by kernel_rfl
theorem B71:placesOf Tryz.prog 71=[(0,2),(2,1)].map some:=by kernel_rfl
theorem B78:placesOf Tryz.prog 78=[(0,1),(1,1)].map some:=by kernel_rfl
theorem XD:placesOf Tryz.prog 83=[(0,1),(1,1)].map some:=by kernel_rfl
theorem acU:placesOf Tryz.prog 207=[(0,1),(1,1),(2,1)].map some:=by kernel_rfl
theorem acV:placesOf Tryz.prog 209=[(0,1),(1,1),(2,1),(3,1)].map some:=by kernel_rfl
theorem XE:placesOf Tryz.prog 266=[(0,1),(1,1)].map some:=by kernel_rfl
theorem mixed:Tryz.prog.follows .mixedOrders=true:=by kernel_rfl
theorem E44:Enters Tryz.prog 44:=enters Tryz.func44 rfl (by decide)
theorem E80:Enters Tryz.prog 80:=enters Tryz.func80 rfl (by decide)
theorem E93:Enters Tryz.prog 93:=enters Tryz.func93 rfl (by decide)
theorem E94:Enters Tryz.prog 94:=enters Tryz.func94 rfl (by decide)
theorem acX:Enters Tryz.prog 128:=enters Tryz.func128 rfl (by decide)
theorem acY:Enters Tryz.prog 129:=enters Tryz.func129 rfl (by decide)
theorem acZ:Enters Tryz.prog 130:=enters Tryz.func130 rfl (by decide)
theorem ac0:Enters Tryz.prog 131:=enters Tryz.func131 rfl (by decide)
theorem XF:Enters Tryz.prog 132:=enters Tryz.func132 rfl (by decide)
theorem ac1:Enters Tryz.prog 136:=enters Tryz.func136 rfl (by decide)
theorem ac2:Enters Tryz.prog 137:=enters Tryz.func137 rfl (by decide)
theorem ac3:Enters Tryz.prog 138:=enters Tryz.func138 rfl (by decide)
theorem ac4:Enters Tryz.prog 139:=enters Tryz.func139 rfl (by decide)
theorem ac5:Enters Tryz.prog 148:=enters Tryz.func148 rfl (by decide)
theorem XG:Enters Tryz.prog 183:=enters Tryz.func183 rfl (by decide)
theorem ac6:Enters Tryz.prog 184:=enters Tryz.func184 rfl (by decide)
theorem ac7:Enters Tryz.prog 185:=enters Tryz.func185 rfl (by decide)
theorem ac8:Enters Tryz.prog 186:=enters Tryz.func186 rfl (by decide)
theorem ac9:Enters Tryz.prog 187:=enters Tryz.func187 rfl (by decide)
theorem ada:Enters Tryz.prog 188:=enters Tryz.func188 rfl (by decide)
theorem adb:Enters Tryz.prog 190:=enters Tryz.func190 rfl (by decide)
theorem ade:Enters Tryz.prog 193:=enters Tryz.func193 rfl (by decide)
theorem adf:Enters Tryz.prog 194:=enters Tryz.func194 rfl (by decide)
theorem Tt:Enters Tryz.prog 195:=enters Tryz.func195 rfl (by decide)
theorem adg:Enters Tryz.prog 196:=enters Tryz.func196 rfl (by decide)
theorem adh:Enters Tryz.prog 201:=enters Tryz.func201 rfl (by decide)
theorem adi:Enters Tryz.prog 222:=enters Tryz.func222 rfl (by decide)
theorem adj:Enters Tryz.prog 223:=enters Tryz.func223 rfl (by decide)
theorem XH:Enters Tryz.prog 224:=enters Tryz.func224 rfl (by decide)
theorem adk:Enters Tryz.prog 225:=enters Tryz.func225 rfl (by decide)
theorem adl:Enters Tryz.prog 226:=enters Tryz.func226 rfl (by decide)
theorem XI:Enters Tryz.prog 227:=enters Tryz.func227 rfl (by decide)
theorem adm:Enters Tryz.prog 228:=enters Tryz.func228 rfl (by decide)
theorem adn:Enters Tryz.prog 229:=enters Tryz.func229 rfl (by decide)
theorem ado:Enters Tryz.prog 237:=enters Tryz.func237 rfl (by decide)
theorem adp:Enters Tryz.prog 249:=enters Tryz.func249 rfl (by decide)
theorem adq:Enters Tryz.prog 250:=enters Tryz.func250 rfl (by decide)
theorem ads:Enters Tryz.prog 251:=enters Tryz.func251 rfl (by decide)
theorem XJ:Enters Tryz.prog 252:=enters Tryz.func252 rfl (by decide)
theorem adt:Enters Tryz.prog 253:=enters Tryz.func253 rfl (by decide)
theorem XK:Enters Tryz.prog 254:=enters Tryz.func254 rfl (by decide)
theorem XL:Enters Tryz.prog 263:=enters Tryz.func263 rfl (by decide)
theorem adu:Enters Tryz.prog 264:=enters Tryz.func264 rfl (by decide)
theorem adv:Enters Tryz.prog 265:=enters Tryz.func265 rfl (by decide)
theorem adw:Enters Tryz.prog 266:=enters Tryz.func266 rfl (by decide)
theorem adx:Enters Tryz.prog 267:=enters Tryz.func267 rfl (by decide)
theorem ady:Enters Tryz.prog 284:=enters Tryz.func284 rfl (by decide)
theorem adz:Enters Tryz.prog 285:=enters Tryz.func285 rfl (by decide)
theorem XM:Enters Tryz.prog 287:=enters Tryz.func287 rfl (by decide)
theorem adA:Enters Tryz.prog 290:=enters Tryz.func290 rfl (by decide)
end Go.K
namespace Go.K
open Go.Proofs
set_option maxRecDepth 10000
def fH (c:Int):Bool:=decide ((97≤c∧c≤122)∨(65≤c∧c≤90)∨(192≤c∧c≤591∧c≠215∧c≠247))
def oP (c:Int):Bool:=decide (48≤c∧c≤57)
def fK (c:Int):Int:=if(65≤c∧c≤90)∨(192≤c∧c≤222∧c≠215)then c+32 else c
theorem CT (c:Int) (w0:World):
  Spec Tryz.prog 225 #[.int .i64 c] w0 (fun v w=>v= .bool (fH c)∧w=w0):=by
 refine bg (args:=[_]) (fn:=Tryz.f225) Tryz.func225 rfl (n:=33) Tryz.ntmps225 (aj (ae (ah rfl rfl (ab (aj (ae (ad rfl rfl (dT rfl rfl rfl (ad rfl rfl ?_)))))))));refine aN (g:=5) rfl (fun iB=>?_) (fun iB=>?_)
 ·refine al rfl rfl (ad rfl rfl (al rfl rfl (gL rfl rfl rfl (aX rfl rfl rfl (ad rfl rfl ?_)))));refine aN (g:=9) rfl (fun Bj=>?_) (fun Bj=>?_)
  ·refine ar rfl rfl rfl rfl (ar rfl rfl rfl rfl (ar rfl rfl rfl rfl (cr rfl rfl rfl (cr rfl rfl rfl (ar rfl rfl rfl rfl (aX rfl rfl rfl (ad rfl rfl (ar rfl rfl rfl rfl (ar rfl rfl rfl rfl (ar rfl rfl rfl rfl (cr rfl rfl rfl ?_)))))))))));refine cr rfl rfl rfl (ar rfl rfl rfl rfl (ar rfl rfl rfl rfl (cr rfl rfl rfl (cr rfl rfl rfl (ar rfl rfl rfl rfl (ar rfl rfl rfl rfl (cr rfl rfl rfl (cr rfl rfl rfl (ar rfl rfl rfl rfl (aX rfl rfl rfl (ah rfl rfl ?_)))))))))));refine ab (aQ ?_);exact aV rfl rfl ⟨by simp only[fH];first|rfl|(congr 1;first|(exact(decide_eq_true (by omega)).symm)|(exact(decide_eq_false (by omega)).symm)|(exact decide_eq_decide.2 (by omega))),rfl⟩
  ·refine al rfl rfl (ad rfl rfl (al rfl rfl (dT rfl rfl rfl (al rfl rfl (ad rfl rfl ?_)))));refine aN (g:=12) rfl (fun su=>?_) (fun su=>?_)
   ·refine al rfl rfl (ad rfl rfl (al rfl rfl (gL rfl rfl rfl (al rfl rfl (aX rfl rfl rfl (aE rfl rfl rfl (ad rfl rfl ?_)))))));refine aN (g:=17) rfl (fun xX=>?_) (fun xX=>?_)
    ·refine ar rfl rfl rfl rfl (ar rfl rfl rfl rfl (ar rfl rfl rfl rfl (cr rfl rfl rfl (cr rfl rfl rfl (ar rfl rfl rfl rfl (ar rfl rfl rfl rfl (cr rfl rfl rfl (cr rfl rfl rfl (ar rfl rfl rfl rfl (ar rfl rfl rfl rfl (cr rfl rfl rfl ?_)))))))))));refine cr rfl rfl rfl (ar rfl rfl rfl rfl (aX rfl rfl rfl (ah rfl rfl (ab (aQ ?_)))));exact aV rfl rfl ⟨by simp only[fH];first|rfl|(congr 1;first|(exact(decide_eq_true (by omega)).symm)|(exact(decide_eq_false (by omega)).symm)|(exact decide_eq_decide.2 (by omega))),rfl⟩
    ·refine al rfl rfl (ad rfl rfl (al rfl rfl (dT rfl rfl rfl (al rfl rfl (ad rfl rfl ?_)))));refine aN (g:=20) rfl (fun mc=>?_) (fun mc=>?_)
     ·refine al rfl rfl (ad rfl rfl (al rfl rfl (gL rfl rfl rfl (al rfl rfl (aX rfl rfl rfl (al rfl rfl (ad rfl rfl ?_)))))));refine aN (g:=24) rfl (fun xY=>?_) (fun xY=>?_)
      ·refine al rfl rfl (ad rfl rfl (al rfl rfl (fe rfl rfl rfl (al rfl rfl (aX rfl rfl rfl (al rfl rfl (ad rfl rfl ?_)))))));refine aN (g:=28) rfl (fun xZ=>?_) (fun xZ=>?_)
       ·refine al rfl rfl (ad rfl rfl (al rfl rfl (fe rfl rfl rfl (al rfl rfl (aX rfl rfl rfl (aE rfl rfl rfl (ah rfl rfl (ab (aQ ?_)))))))));exact aV rfl rfl ⟨by simp only[fH];first|rfl|(congr 1;first|(exact(decide_eq_true (by omega)).symm)|(exact(decide_eq_false (by omega)).symm)|(exact decide_eq_decide.2 (by omega))),rfl⟩
       ·refine ar rfl rfl rfl rfl (ar rfl rfl rfl rfl (al rfl rfl (aE rfl rfl rfl (aE rfl rfl rfl (ah rfl rfl (ab (aQ ?_)))))));exact aV rfl rfl ⟨by simp only[fH];first|rfl|(congr 1;first|(exact(decide_eq_true (by omega)).symm)|(exact(decide_eq_false (by omega)).symm)|(exact decide_eq_decide.2 (by omega))),rfl⟩
      ·refine ar rfl rfl rfl rfl (ar rfl rfl rfl rfl (al rfl rfl (aE rfl rfl rfl (al rfl rfl (ad rfl rfl (ar rfl rfl rfl rfl (ar rfl rfl rfl rfl (al rfl rfl (aE rfl rfl rfl (aE rfl rfl rfl (ah rfl rfl ?_)))))))))));refine ab (aQ ?_);exact aV rfl rfl ⟨by simp only[fH];first|rfl|(congr 1;first|(exact(decide_eq_true (by omega)).symm)|(exact(decide_eq_false (by omega)).symm)|(exact decide_eq_decide.2 (by omega))),rfl⟩
     ·refine ar rfl rfl rfl rfl (ar rfl rfl rfl rfl (al rfl rfl (aE rfl rfl rfl (al rfl rfl (ad rfl rfl (ar rfl rfl rfl rfl (ar rfl rfl rfl rfl (al rfl rfl (aE rfl rfl rfl (al rfl rfl (ad rfl rfl ?_)))))))))));refine ar rfl rfl rfl rfl (ar rfl rfl rfl rfl (al rfl rfl (aE rfl rfl rfl (aE rfl rfl rfl (ah rfl rfl (ab (aQ ?_)))))));exact aV rfl rfl ⟨by simp only[fH];first|rfl|(congr 1;first|(exact(decide_eq_true (by omega)).symm)|(exact(decide_eq_false (by omega)).symm)|(exact decide_eq_decide.2 (by omega))),rfl⟩
   ·refine ar rfl rfl rfl rfl (ar rfl rfl rfl rfl (al rfl rfl (aE rfl rfl rfl (aE rfl rfl rfl (ad rfl rfl (al rfl rfl (ad rfl rfl (al rfl rfl (dT rfl rfl rfl (al rfl rfl (ad rfl rfl ?_)))))))))));refine aN (g:=20) rfl (fun mc=>?_) (fun mc=>?_)
    ·refine al rfl rfl (ad rfl rfl (al rfl rfl (gL rfl rfl rfl (al rfl rfl (aX rfl rfl rfl (al rfl rfl (ad rfl rfl ?_)))))));refine aN (g:=24) rfl (fun xY=>?_) (fun xY=>?_)
     ·refine al rfl rfl (ad rfl rfl (al rfl rfl (fe rfl rfl rfl (al rfl rfl (aX rfl rfl rfl (al rfl rfl (ad rfl rfl ?_)))))));refine aN (g:=28) rfl (fun xZ=>?_) (fun xZ=>?_)
      ·refine al rfl rfl (ad rfl rfl (al rfl rfl (fe rfl rfl rfl (al rfl rfl (aX rfl rfl rfl (aE rfl rfl rfl (ah rfl rfl (ab (aQ ?_)))))))));exact aV rfl rfl ⟨by simp only[fH];first|rfl|(congr 1;first|(exact(decide_eq_true (by omega)).symm)|(exact(decide_eq_false (by omega)).symm)|(exact decide_eq_decide.2 (by omega))),rfl⟩
      ·refine ar rfl rfl rfl rfl (ar rfl rfl rfl rfl (al rfl rfl (aE rfl rfl rfl (aE rfl rfl rfl (ah rfl rfl (ab (aQ ?_)))))));exact aV rfl rfl ⟨by simp only[fH];first|rfl|(congr 1;first|(exact(decide_eq_true (by omega)).symm)|(exact(decide_eq_false (by omega)).symm)|(exact decide_eq_decide.2 (by omega))),rfl⟩
     ·refine ar rfl rfl rfl rfl (ar rfl rfl rfl rfl (al rfl rfl (aE rfl rfl rfl (al rfl rfl (ad rfl rfl (ar rfl rfl rfl rfl (ar rfl rfl rfl rfl (al rfl rfl (aE rfl rfl rfl (aE rfl rfl rfl (ah rfl rfl ?_)))))))))));refine ab (aQ ?_);exact aV rfl rfl ⟨by simp only[fH];first|rfl|(congr 1;first|(exact(decide_eq_true (by omega)).symm)|(exact(decide_eq_false (by omega)).symm)|(exact decide_eq_decide.2 (by omega))),rfl⟩
    ·refine ar rfl rfl rfl rfl (ar rfl rfl rfl rfl (al rfl rfl (aE rfl rfl rfl (al rfl rfl (ad rfl rfl (ar rfl rfl rfl rfl (ar rfl rfl rfl rfl (al rfl rfl (aE rfl rfl rfl (al rfl rfl (ad rfl rfl ?_)))))))))));refine ar rfl rfl rfl rfl (ar rfl rfl rfl rfl (al rfl rfl (aE rfl rfl rfl (aE rfl rfl rfl (ah rfl rfl (ab (aQ ?_)))))));exact aV rfl rfl ⟨by simp only[fH];first|rfl|(congr 1;first|(exact(decide_eq_true (by omega)).symm)|(exact(decide_eq_false (by omega)).symm)|(exact decide_eq_decide.2 (by omega))),rfl⟩
 ·refine ar rfl rfl rfl rfl (ar rfl rfl rfl rfl (aE rfl rfl rfl (ad rfl rfl (al rfl rfl (ad rfl rfl (al rfl rfl (dT rfl rfl rfl (al rfl rfl (ad rfl rfl ?_)))))))));refine aN (g:=12) rfl (fun su=>?_) (fun su=>?_)
  ·refine al rfl rfl (ad rfl rfl (al rfl rfl (gL rfl rfl rfl (al rfl rfl (aX rfl rfl rfl (aE rfl rfl rfl (ad rfl rfl ?_)))))));refine aN (g:=17) rfl (fun xX=>?_) (fun xX=>?_)
   ·refine ar rfl rfl rfl rfl (ar rfl rfl rfl rfl (ar rfl rfl rfl rfl (cr rfl rfl rfl (cr rfl rfl rfl (ar rfl rfl rfl rfl (ar rfl rfl rfl rfl (cr rfl rfl rfl (cr rfl rfl rfl (ar rfl rfl rfl rfl (ar rfl rfl rfl rfl (cr rfl rfl rfl ?_)))))))))));refine cr rfl rfl rfl (ar rfl rfl rfl rfl (aX rfl rfl rfl (ah rfl rfl (ab (aQ ?_)))));exact aV rfl rfl ⟨by simp only[fH];first|rfl|(congr 1;first|(exact(decide_eq_true (by omega)).symm)|(exact(decide_eq_false (by omega)).symm)|(exact decide_eq_decide.2 (by omega))),rfl⟩
   ·refine al rfl rfl (ad rfl rfl (al rfl rfl (dT rfl rfl rfl (al rfl rfl (ad rfl rfl ?_)))));refine aN (g:=20) rfl (fun mc=>?_) (fun mc=>?_)
    ·refine al rfl rfl (ad rfl rfl (al rfl rfl (gL rfl rfl rfl (al rfl rfl (aX rfl rfl rfl (al rfl rfl (ad rfl rfl ?_)))))));refine aN (g:=24) rfl (fun xY=>?_) (fun xY=>?_)
     ·refine al rfl rfl (ad rfl rfl (al rfl rfl (fe rfl rfl rfl (al rfl rfl (aX rfl rfl rfl (al rfl rfl (ad rfl rfl ?_)))))));refine aN (g:=28) rfl (fun xZ=>?_) (fun xZ=>?_)
      ·refine al rfl rfl (ad rfl rfl (al rfl rfl (fe rfl rfl rfl (al rfl rfl (aX rfl rfl rfl (aE rfl rfl rfl (ah rfl rfl (ab (aQ ?_)))))))));exact aV rfl rfl ⟨by simp only[fH];first|rfl|(congr 1;first|(exact(decide_eq_true (by omega)).symm)|(exact(decide_eq_false (by omega)).symm)|(exact decide_eq_decide.2 (by omega))),rfl⟩
      ·refine ar rfl rfl rfl rfl (ar rfl rfl rfl rfl (al rfl rfl (aE rfl rfl rfl (aE rfl rfl rfl (ah rfl rfl (ab (aQ ?_)))))));exact aV rfl rfl ⟨by simp only[fH];first|rfl|(congr 1;first|(exact(decide_eq_true (by omega)).symm)|(exact(decide_eq_false (by omega)).symm)|(exact decide_eq_decide.2 (by omega))),rfl⟩
     ·refine ar rfl rfl rfl rfl (ar rfl rfl rfl rfl (al rfl rfl (aE rfl rfl rfl (al rfl rfl (ad rfl rfl (ar rfl rfl rfl rfl (ar rfl rfl rfl rfl (al rfl rfl (aE rfl rfl rfl (aE rfl rfl rfl (ah rfl rfl ?_)))))))))));refine ab (aQ ?_);exact aV rfl rfl ⟨by simp only[fH];first|rfl|(congr 1;first|(exact(decide_eq_true (by omega)).symm)|(exact(decide_eq_false (by omega)).symm)|(exact decide_eq_decide.2 (by omega))),rfl⟩
    ·refine ar rfl rfl rfl rfl (ar rfl rfl rfl rfl (al rfl rfl (aE rfl rfl rfl (al rfl rfl (ad rfl rfl (ar rfl rfl rfl rfl (ar rfl rfl rfl rfl (al rfl rfl (aE rfl rfl rfl (al rfl rfl (ad rfl rfl ?_)))))))))));refine ar rfl rfl rfl rfl (ar rfl rfl rfl rfl (al rfl rfl (aE rfl rfl rfl (aE rfl rfl rfl (ah rfl rfl (ab (aQ ?_)))))));exact aV rfl rfl ⟨by simp only[fH];first|rfl|(congr 1;first|(exact(decide_eq_true (by omega)).symm)|(exact(decide_eq_false (by omega)).symm)|(exact decide_eq_decide.2 (by omega))),rfl⟩
  ·refine ar rfl rfl rfl rfl (ar rfl rfl rfl rfl (al rfl rfl (aE rfl rfl rfl (aE rfl rfl rfl (ad rfl rfl (al rfl rfl (ad rfl rfl (al rfl rfl (dT rfl rfl rfl (al rfl rfl (ad rfl rfl ?_)))))))))));refine aN (g:=20) rfl (fun mc=>?_) (fun mc=>?_)
   ·refine al rfl rfl (ad rfl rfl (al rfl rfl (gL rfl rfl rfl (al rfl rfl (aX rfl rfl rfl (al rfl rfl (ad rfl rfl ?_)))))));refine aN (g:=24) rfl (fun xY=>?_) (fun xY=>?_)
    ·refine al rfl rfl (ad rfl rfl (al rfl rfl (fe rfl rfl rfl (al rfl rfl (aX rfl rfl rfl (al rfl rfl (ad rfl rfl ?_)))))));refine aN (g:=28) rfl (fun xZ=>?_) (fun xZ=>?_)
     ·refine al rfl rfl (ad rfl rfl (al rfl rfl (fe rfl rfl rfl (al rfl rfl (aX rfl rfl rfl (aE rfl rfl rfl (ah rfl rfl (ab (aQ ?_)))))))));exact aV rfl rfl ⟨by simp only[fH];first|rfl|(congr 1;first|(exact(decide_eq_true (by omega)).symm)|(exact(decide_eq_false (by omega)).symm)|(exact decide_eq_decide.2 (by omega))),rfl⟩
     ·refine ar rfl rfl rfl rfl (ar rfl rfl rfl rfl (al rfl rfl (aE rfl rfl rfl (aE rfl rfl rfl (ah rfl rfl (ab (aQ ?_)))))));exact aV rfl rfl ⟨by simp only[fH];first|rfl|(congr 1;first|(exact(decide_eq_true (by omega)).symm)|(exact(decide_eq_false (by omega)).symm)|(exact decide_eq_decide.2 (by omega))),rfl⟩
    ·refine ar rfl rfl rfl rfl (ar rfl rfl rfl rfl (al rfl rfl (aE rfl rfl rfl (al rfl rfl (ad rfl rfl (ar rfl rfl rfl rfl (ar rfl rfl rfl rfl (al rfl rfl (aE rfl rfl rfl (aE rfl rfl rfl (ah rfl rfl ?_)))))))))));refine ab (aQ ?_);exact aV rfl rfl ⟨by simp only[fH];first|rfl|(congr 1;first|(exact(decide_eq_true (by omega)).symm)|(exact(decide_eq_false (by omega)).symm)|(exact decide_eq_decide.2 (by omega))),rfl⟩
   ·refine ar rfl rfl rfl rfl (ar rfl rfl rfl rfl (al rfl rfl (aE rfl rfl rfl (al rfl rfl (ad rfl rfl (ar rfl rfl rfl rfl (ar rfl rfl rfl rfl (al rfl rfl (aE rfl rfl rfl (al rfl rfl (ad rfl rfl ?_)))))))))));refine ar rfl rfl rfl rfl (ar rfl rfl rfl rfl (al rfl rfl (aE rfl rfl rfl (aE rfl rfl rfl (ah rfl rfl (ab (aQ ?_)))))));exact aV rfl rfl ⟨by simp only[fH];first|rfl|(congr 1;first|(exact(decide_eq_true (by omega)).symm)|(exact(decide_eq_false (by omega)).symm)|(exact decide_eq_decide.2 (by omega))),rfl⟩
theorem Fw (c:Int) (w0:World):
  Spec Tryz.prog 226 #[.int .i64 c] w0 (fun v w=>v= .bool (oP c)∧w=w0):=by
 refine bg (args:=[_]) (fn:=Tryz.f226) Tryz.func226 rfl (n:=9) Tryz.ntmps226 (aj (ae (ah rfl rfl (ab (aj (ae (ad rfl rfl (dT rfl rfl rfl (ad rfl rfl ?_)))))))));refine aN (g:=5) rfl (fun iB=>?_) (fun iB=>?_)
 ·refine al rfl rfl (ad rfl rfl (al rfl rfl (gL rfl rfl rfl (aX rfl rfl rfl (ah rfl rfl (ab (aQ ?_)))))));exact aV rfl rfl ⟨by simp only[oP];first|rfl|(congr 1;first|(exact(decide_eq_true (by omega)).symm)|(exact(decide_eq_false (by omega)).symm)|(exact decide_eq_decide.2 (by omega))),rfl⟩
 ·refine ar rfl rfl rfl rfl (ar rfl rfl rfl rfl (aE rfl rfl rfl (ah rfl rfl (ab (aQ ?_)))));exact aV rfl rfl ⟨by simp only[oP];first|rfl|(congr 1;first|(exact(decide_eq_true (by omega)).symm)|(exact(decide_eq_false (by omega)).symm)|(exact decide_eq_decide.2 (by omega))),rfl⟩
theorem Ao (c:Int) (w0:World) (hc:0≤c∧c≤1114111):
  Spec Tryz.prog 227 #[.int .i64 c] w0 (fun v w=>v= .int .i64 (fK c)∧w=w0):=by
 refine bg (args:=[_]) (fn:=Tryz.f227) Tryz.func227 rfl (n:=24) Tryz.ntmps227 (aj (ae (ah rfl rfl (ab (aj (aj (ae (ad rfl rfl (dT rfl rfl rfl (ad rfl rfl ?_))))))))));refine aN (g:=5) rfl (fun iB=>?_) (fun iB=>?_)
 ·refine al rfl rfl (ad rfl rfl (al rfl rfl (gL rfl rfl rfl (aX rfl rfl rfl (ad rfl rfl ?_)))));refine aN (g:=9) rfl (fun Bj=>?_) (fun Bj=>?_)
  ·refine ar rfl rfl rfl rfl (ar rfl rfl rfl rfl (ar rfl rfl rfl rfl (cr rfl rfl rfl (cr rfl rfl rfl (ar rfl rfl rfl rfl (ar rfl rfl rfl rfl (cr rfl rfl rfl (cr rfl rfl rfl (ar rfl rfl rfl rfl (aX rfl rfl rfl (ab ?_)))))))))));refine lh rfl (aj (ae (ad rfl rfl (bD rfl rfl rfl (by omega) (ah rfl rfl (ab (aQ ?_)))))));exact aV rfl rfl ⟨by rw[fK,if_pos (by omega)],rfl⟩
  ·refine al rfl rfl (ad rfl rfl (al rfl rfl (dT rfl rfl rfl (al rfl rfl (ad rfl rfl ?_)))));refine aN (g:=12) rfl (fun su=>?_) (fun su=>?_)
   ·refine al rfl rfl (ad rfl rfl (al rfl rfl (gL rfl rfl rfl (al rfl rfl (aX rfl rfl rfl (al rfl rfl (ad rfl rfl ?_)))))));refine aN (g:=16) rfl (fun KR=>?_) (fun KR=>?_)
    ·refine al rfl rfl (ad rfl rfl (al rfl rfl (fe rfl rfl rfl (al rfl rfl (aX rfl rfl rfl (aE rfl rfl rfl (ab ?_)))))));refine bN rfl (fun c1=>?_) (fun c1=>?_)
     ·refine aj (ae (ad rfl rfl (bD rfl rfl rfl (by omega) (ah rfl rfl (ab (aQ ?_))))));exact aV rfl rfl ⟨by rw[fK,if_pos (by omega)],rfl⟩
     ·refine aT (aj (ae (ad rfl rfl (ah rfl rfl (ab (aQ ?_))))));exact aV rfl rfl ⟨by rw[fK,if_neg (by omega)],rfl⟩
    ·refine ar rfl rfl rfl rfl (ar rfl rfl rfl rfl (al rfl rfl (aE rfl rfl rfl (aE rfl rfl rfl (ab (iX rfl (aT (aj (ae (ad rfl rfl (ah rfl rfl ?_)))))))))));refine ab (aQ ?_);exact aV rfl rfl ⟨by rw[fK,if_neg (by omega)],rfl⟩
   ·refine ar rfl rfl rfl rfl (ar rfl rfl rfl rfl (al rfl rfl (aE rfl rfl rfl (al rfl rfl (ad rfl rfl (ar rfl rfl rfl rfl (ar rfl rfl rfl rfl (al rfl rfl (aE rfl rfl rfl (aE rfl rfl rfl (ab ?_)))))))))));refine iX rfl (aT (aj (ae (ad rfl rfl (ah rfl rfl (ab (aQ ?_)))))));exact aV rfl rfl ⟨by rw[fK,if_neg (by omega)],rfl⟩
 ·refine ar rfl rfl rfl rfl (ar rfl rfl rfl rfl (aE rfl rfl rfl (ad rfl rfl (al rfl rfl (ad rfl rfl (al rfl rfl (dT rfl rfl rfl (al rfl rfl (ad rfl rfl ?_)))))))));refine aN (g:=12) rfl (fun su=>?_) (fun su=>?_)
  ·refine al rfl rfl (ad rfl rfl (al rfl rfl (gL rfl rfl rfl (al rfl rfl (aX rfl rfl rfl (al rfl rfl (ad rfl rfl ?_)))))));refine aN (g:=16) rfl (fun KR=>?_) (fun KR=>?_)
   ·refine al rfl rfl (ad rfl rfl (al rfl rfl (fe rfl rfl rfl (al rfl rfl (aX rfl rfl rfl (aE rfl rfl rfl (ab ?_)))))));refine bN rfl (fun c1=>?_) (fun c1=>?_)
    ·refine aj (ae (ad rfl rfl (bD rfl rfl rfl (by omega) (ah rfl rfl (ab (aQ ?_))))));exact aV rfl rfl ⟨by rw[fK,if_pos (by omega)],rfl⟩
    ·refine aT (aj (ae (ad rfl rfl (ah rfl rfl (ab (aQ ?_))))));exact aV rfl rfl ⟨by rw[fK,if_neg (by omega)],rfl⟩
   ·refine ar rfl rfl rfl rfl (ar rfl rfl rfl rfl (al rfl rfl (aE rfl rfl rfl (aE rfl rfl rfl (ab (iX rfl (aT (aj (ae (ad rfl rfl (ah rfl rfl ?_)))))))))));refine ab (aQ ?_);exact aV rfl rfl ⟨by rw[fK,if_neg (by omega)],rfl⟩
  ·refine ar rfl rfl rfl rfl (ar rfl rfl rfl rfl (al rfl rfl (aE rfl rfl rfl (al rfl rfl (ad rfl rfl (ar rfl rfl rfl rfl (ar rfl rfl rfl rfl (al rfl rfl (aE rfl rfl rfl (aE rfl rfl rfl (ab ?_)))))))))));refine iX rfl (aT (aj (ae (ad rfl rfl (ah rfl rfl (ab (aQ ?_)))))));exact aV rfl rfl ⟨by rw[fK,if_neg (by omega)],rfl⟩
end Go.K
namespace Go.Proofs
open Go.Shelf
def Tryz.vW:Go.Shelf.Ren:=⟨fun|169=>267|n=>n,fun|70=>334|9=>9|0=>0|72=>336|37=>204|127=>358|3=>3|5=>5|n=>n,fun|n=>n⟩
theorem Tryz.Pg:Go.Proofs.Lays.n169 Tryz.prog Tryz.vW:={
 mixed:=by kernel_rfl
 f169:=Tryz.func267.trans (congrArg some (by kernel_rfl))
 t0:=fG
 a0:=lA
 z0:=jZ
 v0:=gG
 t3:=ax
 a3:=lB
 z3:=j0
 v3:=gH
 t9:=aJ
 a9:=lC
 z9:=j3
 v9:=gI
 t37:=bM
 a37:=Tryz.isAgg204
 z37:=Tryz.sizeOf204
 v37:=Tryz.zeroValue204
 t70:=Tryz.underlying334
 a70:=Tryz.isAgg334
 z70:=Tryz.sizeOf334
 v70:=Tryz.zeroValue334
 t72:=Tryz.underlying336
 a72:=Tryz.isAgg336
 z72:=Tryz.sizeOf336
 v72:=Tryz.zeroValue336
 t127:=Tryz.underlying358
 a127:=Tryz.isAgg358
 z127:=Tryz.sizeOf358
 v127:=Tryz.zeroValue358}
def Tryz.CU:Go.Shelf.Ren:=⟨fun|119=>290|n=>n,fun|21=>21|4=>4|n=>n,fun|n=>n⟩
theorem Tryz.Ph:Go.Proofs.Lays.n119 Tryz.prog Tryz.CU:={
 mixed:=by kernel_rfl
 f119:=Tryz.func290.trans (congrArg some (by kernel_rfl))
 t4:=ey
 a4:=rh
 z4:=nF
 v4:=jx
 t21:=Tryz.underlying21
 a21:=Tryz.isAgg21
 z21:=Tryz.sizeOf21
 v21:=Tryz.zeroValue21}
def Tryz.CV:Go.Shelf.Ren:=⟨fun|106=>137|213=>189|265=>239|n=>n,fun|9=>9|3=>3|n=>n,fun|n=>n⟩
theorem Tryz.Pj:Go.Proofs.Lays.n106 Tryz.prog Tryz.CV:={
 mixed:=by kernel_rfl
 f106:=Tryz.func137.trans (congrArg some (by kernel_rfl))
 f213:=Tryz.func189.trans (congrArg some (by kernel_rfl))
 f265:=Tryz.func239.trans (congrArg some (by kernel_rfl))
 t3:=ax
 a3:=lB
 z3:=j0
 v3:=gH
 t9:=aJ
 a9:=lC
 z9:=j3
 v9:=gI}
theorem Tryz.tx:Builder.Extra Tryz.prog Tryz.vW:={
 sizeBuilder:=by kernel_rfl
 liesBuilder:=by kernel_rfl
 t5:=cz
 a5:=Tryz.isAgg5
 z5:=Tryz.sizeOf5
 v5:=tb
 infoByte:=by kernel_rfl
 cellsByte:=by kernel_rfl
 sizeByte:=by kernel_rfl
 neB5:=by decide}
def Tryz.vX:Go.Shelf.Ren:=⟨fun|168=>265|240=>288|242=>289|276=>298|278=>299|n=>n,fun|0=>0|3=>3|4=>4|5=>5|9=>9|20=>20|21=>21|37=>204|46=>189|51=>257|70=>334|72=>336|75=>338|80=>342|164=>363|n=>n,fun|n=>n⟩
theorem Tryz.Pk:Go.Proofs.Lays.n168 Tryz.prog Tryz.vX:={
 mixed:=by kernel_rfl
 f168:=Tryz.func265.trans (congrArg some (by kernel_rfl))
 f240:=Tryz.func288.trans (congrArg some (by kernel_rfl))
 f242:=Tryz.func289.trans (congrArg some (by kernel_rfl))
 f276:=Tryz.func298.trans (congrArg some (by kernel_rfl))
 f278:=Tryz.func299.trans (congrArg some (by kernel_rfl))
 t0:=fG
 a0:=lA
 z0:=jZ
 v0:=gG
 t3:=ax
 a3:=lB
 z3:=j0
 v3:=gH
 t4:=ey
 a4:=rh
 z4:=nF
 v4:=jx
 t5:=cz
 a5:=Tryz.isAgg5
 z5:=Tryz.sizeOf5
 v5:=tb
 t9:=aJ
 a9:=lC
 z9:=j3
 v9:=gI
 t20:=Tryz.underlying20
 a20:=Tryz.isAgg20
 z20:=Tryz.sizeOf20
 v20:=Tryz.zeroValue20
 t21:=Tryz.underlying21
 a21:=Tryz.isAgg21
 z21:=Tryz.sizeOf21
 v21:=Tryz.zeroValue21
 t37:=bM
 a37:=Tryz.isAgg204
 z37:=Tryz.sizeOf204
 v37:=Tryz.zeroValue204
 t46:=jL
 a46:=Tryz.isAgg189
 z46:=Tryz.sizeOf189
 v46:=Tryz.zeroValue189
 t51:=Tryz.underlying257
 a51:=Tryz.isAgg257
 z51:=Tryz.sizeOf257
 v51:=Tryz.zeroValue257
 t70:=Tryz.underlying334
 a70:=Tryz.isAgg334
 z70:=Tryz.sizeOf334
 v70:=Tryz.zeroValue334
 t72:=Tryz.underlying336
 a72:=Tryz.isAgg336
 z72:=Tryz.sizeOf336
 v72:=Tryz.zeroValue336
 t75:=Tryz.underlying338
 a75:=Tryz.isAgg338
 z75:=Tryz.sizeOf338
 v75:=Tryz.zeroValue338
 t164:=Tryz.underlying363
 a164:=Tryz.isAgg363
 z164:=Tryz.sizeOf363
 v164:=Tryz.zeroValue363}
theorem Tryz.tz:Builder.Extra Tryz.prog Tryz.vX where
 sizeBuilder:=by kernel_rfl
 liesBuilder:=by kernel_rfl
 t5:=cz
 a5:=Tryz.isAgg5
 z5:=Tryz.sizeOf5
 v5:=tb
 infoByte:=by kernel_rfl
 cellsByte:=by kernel_rfl
 sizeByte:=by kernel_rfl
 neB5:=by decide
end Go.Proofs
namespace Go.K
open Go.Proofs
set_option maxRecDepth 10000
open Go.RowKit Go.Shelf
theorem Fx (r:Int) (w:World):Spec Tryz.prog 290 #[.int .i32 r] w (fun v w'=>v= .bool (Lib.validRune r)∧w'=w):=(Any.utf8_ValidRune Tryz.Ph r w).mono fun e w' ⟨h1,h2⟩=>⟨_,h1,rfl,h2⟩
theorem IK {B b:Nat} {bs:List Value} {r:Int} (w:World) (hr: -2147483648≤r∧r≤2147483647) (h:Lib.IsBuilderF 336 5 B b bs w) (hl:bs.length+4≤140737488355328) (hB:B≤w.heap.size):
  Spec Tryz.prog 265 #[.pointer (some ⟨b,0,none⟩),.int .i32 r] w (fun v w'=>Lib.IsBuilderF 336 5 B b (bs++Lib.runeCells r) w'∧Below B w w'):=
 (Any.Builder_WriteRune_k Tryz.Pk Tryz.tz B b bs r hr.1 hr.2 w h hl hB).mono fun e w' ⟨h1,h2,h3,_⟩=>⟨_,h1,.inr h2,h3⟩
theorem KS {B b:Nat} {l:List UInt8} (w:World) (h:Lib.IsBuilderF 336 5 B b (Lib.byteCells l) w) (hB:B≤w.heap.size):
  Spec Tryz.prog 267 #[.pointer (some ⟨b,0,none⟩)] w (fun v w'=>v= .string ⟨l.toArray⟩∧Below B w w'):=
 (Any.Builder_String_any_k Tryz.Pg Tryz.tx B b l w h hB).mono fun e w' ⟨h1,_,h3,_⟩=>⟨_,h1,rfl,h3⟩
theorem wrap32 {c:Int} (h:0≤c∧c≤1114111):IntKind.i32.wrap c=c:=by
 show(if(true&&decide (c%4294967296≥2147483648))=true then c%4294967296-4294967296 else c%4294967296)=c;rw[if_neg (by simp only[fp,decide_eq_true_eq];omega)];omega
def tA (c:Int):Int:=if c<0∨c>1114111∨Lib.validRune c=false then 65533 else c
theorem Hp (c:Int):0≤tA c∧tA c≤1114111:=by unfold tA;split<;>omega
def kC (l:List Int):List UInt8:=l.flatMap fun c=>Lib.encodeRune (tA c)
theorem me (l:List Int) (c:Int):kC (l++[c])=kC l++Lib.encodeRune (tA c):=by simp[kC]
theorem Pl (r:Int):(Lib.encodeRune r).length≤4:=by have:=(Lib.encodeRuneZ_length r).2;simpa[Lib.encodeRune]using this
theorem gy (l:List Int):(kC l).length≤4*l.length:=by
 induction l with
 |nil=>simp[kC]
 |cons c l ih=>
  have:=Pl (tA c);simp only[kC,rN,bj,cM]at ih ⊢;omega
theorem x4 (l:List Int) (c:Int):Lib.byteCells (kC l)++Lib.runeCells (tA c)=Lib.byteCells (kC (l++[c])):=by
 rw[me,←Lib.byteCells_encodeRune];simp[Lib.byteCells]
theorem KT (c:Int) (w0:World):
  Spec Tryz.prog 266 #[.int .i64 c] w0 (fun v w=>v= .int .i32 (tA c)∧w=w0):=by
 refine bg (args:=[_]) (fn:=Tryz.f266) Tryz.func266 rfl (n:=17) Tryz.ntmps266 (aj (ae (ah rfl rfl (ab (aj (aj (ae (ad rfl rfl (cn rfl rfl rfl (ad rfl rfl ?_))))))))));refine aN (g:=5) rfl (fun iB=>?_) (fun iB=>?_)
 ·refine ar rfl rfl rfl rfl (ar rfl rfl rfl rfl (aX rfl rfl rfl (ad rfl rfl (ar rfl rfl rfl rfl (ar rfl rfl rfl rfl (ar rfl rfl rfl rfl (ar rfl rfl rfl rfl (aX rfl rfl rfl (ab (lh rfl (aj ?_)))))))))));refine ae (ah rfl rfl (ab (aQ ?_)));exact aV rfl rfl ⟨by rw[tA,if_pos (by first|exact .inl (by omega)|exact .inr (.inl (by omega))|exact .inr (.inr (by assumption)))],rfl⟩
 ·refine al rfl rfl (ad rfl rfl (al rfl rfl (jv rfl rfl rfl (aE rfl rfl rfl (ad rfl rfl ?_)))));refine aN (g:=9) rfl (fun Bj=>?_) (fun Bj=>?_)
  ·refine ar rfl rfl rfl rfl (ar rfl rfl rfl rfl (ar rfl rfl rfl rfl (ar rfl rfl rfl rfl (aX rfl rfl rfl (ab (lh rfl (aj (ae (ah rfl rfl (ab (aQ ?_)))))))))));exact aV rfl rfl ⟨by rw[tA,if_pos (by first|exact .inl (by omega)|exact .inr (.inl (by omega))|exact .inr (.inr (by assumption)))],rfl⟩
  ·refine al rfl rfl (ad rfl rfl (al rfl rfl (rO ax Tryz.underlying21 rfl rfl (aU (v':= .int .i32 c) (congrArg (Value.int .i32) (wrap32 (by omega))) (al rfl rfl ?_)))));refine aW rfl rfl adA (Fx _ _) (fun r wc hc=>?_);obtain⟨rfl,rfl⟩:=hc;refine al rfl rfl (mJ rfl rfl (aU (v':= .bool (decide (Lib.validRune c=false))) (by cases Lib.validRune c<;>rfl) (aE rfl rfl rfl (ab ?_))));refine bN rfl (fun c1=>?_) (fun c1=>?_)
   ·refine aj (ae (ah rfl rfl (ab (aQ ?_))));exact aV rfl rfl ⟨by rw[tA,if_pos (by first|exact .inl (by omega)|exact .inr (.inl (by omega))|exact .inr (.inr (by assumption)))],rfl⟩
   ·refine aT (aj (ae (ad rfl rfl (rO ax Tryz.underlying21 rfl rfl (aU (v':= .int .i32 c) (congrArg (Value.int .i32) (wrap32 (by omega))) (ah rfl rfl (ab (aQ ?_))))))));exact aV rfl rfl ⟨by rw[tA,if_neg (by rintro(h|h|h)<;>first|omega|exact absurd h (by assumption))],rfl⟩
theorem IL {M:aC} {xs:List Int} {v0:Value} (w0:World) (hM:Lt M w0) (hv:((RT.int .i64).sl).V M w0 xs v0) (hl:xs.length≤1000000):
  Spec Tryz.prog 228 #[v0] w0 (fun v w=>v= .string ⟨(kC xs).toArray⟩∧Step M w0 M w aD):=by
 refine bg (args:=[_]) (fn:=Tryz.f228) Tryz.func228 rfl (n:=17) Tryz.ntmps228 (aj (ae (ah rfl rfl (ab (aj (ae ?_))))));refine ek M acT rfl (fun b w1 p1 q1 g1 s1=>?_);have Bk:Lib.IsBuilderF 336 5 w0.heap.size b (Lib.byteCells (kC (xs.take 0))) w1:= .of (.inl ⟨p1,.slice none 0 0,g1,World.ownsRow_nil _ _ _ _,by simp[Value.ownBlock]⟩);have S1:Below w0.heap.size w0 w1:=s1.below;refine ab (aj (aj (ae (ad rfl rfl (bR an rfl hv rfl (ad rfl rfl (ab (aZ ?_))))))));refine dn (σ:=Nat) (fun k=>[(3,.pointer (some ⟨b,0,none⟩)),(6,v0),(7,.int .i64 (xs.length:Int)),(8,.int .i64 (k:Int))]) (fun k w=>Lib.IsBuilderF 336 5 w0.heap.size b (Lib.byteCells (kC (xs.take k))) w∧Below w0.heap.size w0 w∧k≤xs.length) (fun k=>xs.length-k) 0 (.cons rfl (.cons rfl (.cons rfl (.cons rfl .nil)))) ?_ ?_
 ·exact⟨Bk,S1,bG _⟩
 ·rintro k w ⟨hb,S,hk⟩;refine aj (ae (cn rfl rfl rfl (ab (aj ?_))));refine bN rfl (fun c3=>?_) (fun c3=>?_)
  ·refine aT (aj (aZ (aj (ae ?_))));refine cE (M:=M) an I3 rfl rfl rfl hv (Step.xV S M).le (by omega) (fun u4 c vY EX=>?_);refine cb (M:=M) ax rfl rfl EX (aq _ _) (fun in4=>?_);refine ah rfl rfl (ab (ae (ad rfl rfl ?_)));refine aW rfl rfl adw (KT c _) (fun r wc hc=>?_);obtain⟨rfl,rfl⟩:=hc;refine aW rfl rfl adv (IK _ (by have:=Hp c;omega) hb (by rw[Lib.byteCells_length];have:=gy (xs.take k);rw[bC]at this;omega) S.size) (fun r5 w5 hc=>?_);obtain⟨Rf,S5⟩:=hc;have tk:xs.take (k+1)=xs.take k++[c]:=by rw[b9];simp only[ay]at vY;rw[vY];rfl
   rw[x4,←tk]at Rf;have S6:=S.trans S5;refine ab (ae (bD rfl rfl rfl (by omega) (ad rfl rfl (ab ?_))));refine⟨rfl,k+1,(.cons rfl (.cons rfl (.cons rfl (.cons rfl .nil)))),?_,?_⟩
   ·exact⟨Rf,S6,by omega⟩
   ·omega
  ·refine cI (aj (ae ?_));refine aW rfl rfl adx (KS _ hb S.size) (fun r7 w7 hc=>?_);obtain⟨rfl,S7⟩:=hc;refine ah rfl rfl (ab (aQ ?_));have e:xs.take k=xs:=bc (by omega);rw[e];exact aV rfl rfl ⟨rfl,Step.xV (S.trans S7) M⟩
end Go.K
namespace Go.K
def nO (c:Int):Int:=if 194≤c∧c<224 then 2 else if 224≤c∧c<240 then 3 else if 240≤c∧c<245 then 4 else 0
def iu (c:Int):Int:=if 194≤c∧c<224 then 128 else if 224≤c∧c<240 then 2048 else if 240≤c∧c<245 then 65536 else 0
def uQ (c:Int):Int:=if 194≤c∧c<224 then c-192 else if 224≤c∧c<240 then c-224 else if 240≤c∧c<245 then c-240 else 0
def vO (l:List UInt8):Nat→Int
 |0=>uQ (j6 l 0)
 |k+1=>64*vO l k+j6 l (k+1)-128
theorem ib {l:List UInt8} {k:Nat}:kf l k=true↔k<l.length∧128≤j6 l k∧j6 l k<192:=by
 unfold kf;simp only[bU,decide_eq_true_eq,beq_iff_eq];omega
theorem Ap {n:Nat}:Utf8.valid (n:Int)=true↔(n<55296∨(57344≤n∧n≤1114111)):=by
 simp only[Utf8.valid,jT,bU,decide_eq_true_eq];omega
theorem XN {l:List UInt8} (h:(j6 l 0:Int)<128):dec l=(j6 l 0,1):=by
 unfold dec Fu;rw[if_pos (by omega)]
theorem Hq {l:List UInt8} (h0:128≤(j6 l 0:Int)) (h:nO (j6 l 0)=0∨∃k:Nat,1≤k∧(k:Int)<nO (j6 l 0)∧kf l k=false):dec l=(65533,1):=by
 have hb:=oN l 0;unfold dec Fu;rw[if_neg (by omega)]
 have hk:nO (j6 l 0)=0∨(2≤nO (j6 l 0)∧kf l 1=false)∨(3≤nO (j6 l 0)∧kf l 2=false)∨(4≤nO (j6 l 0)∧kf l 3=false):=by
  rcases h with h|⟨k,h1,h2,h3⟩
  ·exact .inl h
  ·have:nO (j6 l 0)≤4:=by
    unfold nO
    split
    ·omega
    ·split
     ·omega
     ·split<;>omega
   have hk:k=1∨k=2∨k=3:=by omega
   rcases hk with rfl|rfl|rfl
   ·exact .inr (.inl ⟨by omega,h3⟩)
   ·exact .inr (.inr (.inl ⟨by omega,h3⟩))
   ·exact .inr (.inr (.inr ⟨by omega,h3⟩))
 simp only[beq_iff_eq,bU,decide_eq_true_eq,ge_iff_le,Ap];have hn:nO (j6 l 0)=if 194≤(j6 l 0:Int)∧(j6 l 0:Int)<224 then 2 else if 224≤(j6 l 0:Int)∧(j6 l 0:Int)<240 then 3 else if 240≤(j6 l 0:Int)∧(j6 l 0:Int)<245 then 4 else 0:=rfl
 rw[hn]at hk
 split
 ·rename_i hc
  obtain⟨WC,KU⟩:=hc
  split
  ·rename_i hv
   exfalso;by_cases anX:194≤(j6 l 0:Int)
   ·rw[if_pos (by omega)]at hk;rcases hk with hk|⟨_,hk⟩|⟨hk,_⟩|⟨hk,_⟩
    ·omega
    ·rw[hk]at KU;cases KU
    ·omega
    ·omega
   ·omega
  ·rfl
 ·split
  ·rename_i hc
   obtain⟨⟨WC,KU⟩,XO⟩:=hc
   split
   ·exfalso;rw[if_neg (by omega),if_pos (by omega)]at hk;rcases hk with hk|⟨_,hk⟩|⟨_,hk⟩|⟨hk,_⟩
    ·omega
    ·rw[hk]at KU;cases KU
    ·rw[hk]at XO;cases XO
    ·omega
   ·rfl
  ·split
   ·rename_i hc
    obtain⟨⟨⟨WC,KU⟩,XO⟩,hc4⟩:=hc
    split
    ·rename_i hv
     exfalso;by_cases anY:(j6 l 0:Int)<245
     ·rw[if_neg (by omega),if_neg (by omega),if_pos (by omega)]at hk;rcases hk with hk|⟨_,hk⟩|⟨_,hk⟩|⟨_,hk⟩
      ·omega
      ·rw[hk]at KU;cases KU
      ·rw[hk]at XO;cases XO
      ·rw[hk]at hc4;cases hc4
     ·omega
    ·rfl
   ·rfl
theorem nQ {c:Int} (h:nO c≠0):(nO c=2∧iu c=128∧uQ c=c-192∧194≤c∧c<224)∨(nO c=3∧iu c=2048∧uQ c=c-224∧224≤c∧c<240)∨(nO c=4∧iu c=65536∧uQ c=c-240∧240≤c∧c<245):=by
 by_cases h1:194≤c∧c<224
 ·exact .inl ⟨if_pos h1,if_pos h1,if_pos h1,h1.1,h1.2⟩
 ·by_cases h2:224≤c∧c<240
  ·exact .inr (.inl ⟨(if_neg h1).trans (if_pos h2),(if_neg h1).trans (if_pos h2),(if_neg h1).trans (if_pos h2),h2.1,h2.2⟩)
  ·by_cases h3:240≤c∧c<245
   ·exact .inr (.inr ⟨(if_neg h1).trans ((if_neg h2).trans (if_pos h3)),(if_neg h1).trans ((if_neg h2).trans (if_pos h3)),(if_neg h1).trans ((if_neg h2).trans (if_pos h3)),h3.1,h3.2⟩)
   ·exact absurd ((if_neg h1).trans ((if_neg h2).trans (if_neg h3))) h
theorem CW {l:List UInt8} (hn:nO (j6 l 0)≠0) (hc:∀k:Nat,1≤k→(k:Int)<nO (j6 l 0)→kf l k=true) (v:Int) (hv:v=vO l (nO (j6 l 0)-1).toNat):
  dec l=if v<iu (j6 l 0)∨v>1114111∨(55296≤v∧v≤57343)then(65533,1)else(v.toNat,(nO (j6 l 0)).toNat):=by
 have hb:=oN l 0;have b1:=oN l 1;have b2:=oN l 2;have b3:=oN l 3;unfold dec Fu;simp only[beq_iff_eq,bU,decide_eq_true_eq,ge_iff_le,Ap];rcases nQ hn with⟨e1,e2,e3,e4,e5⟩|⟨e1,e2,e3,e4,e5⟩|⟨e1,e2,e3,e4,e5⟩
 ·have c1:=hc 1 (by omega) (by omega);have d1:=ib.1 c1;rw[e1]at hv;have CX:v=64*((j6 l 0:Int)-192)+j6 l 1-128:=by rw[hv];show 64*uQ (j6 l 0)+_-_=_;rw[e3]
  rw[if_neg (by omega),if_pos ⟨by omega,c1⟩,e2,e1];by_cases hx:v<128∨v>1114111∨(55296≤v∧v≤57343)
  ·rw[if_pos hx,if_neg (by omega)]
  ·rw[if_neg hx,if_pos (by omega)];simp only[ef];omega
 ·have c1:=hc 1 (by omega) (by omega);have c2:=hc 2 (by omega) (by omega);have d1:=ib.1 c1;have d2:=ib.1 c2;rw[e1]at hv;have CX:v=64*(64*((j6 l 0:Int)-224)+j6 l 1-128)+j6 l 2-128:=by rw[hv];show 64*(64*uQ (j6 l 0)+_-_)+_-_=_;rw[e3]
  rw[if_neg (by omega),if_neg (by omega),if_pos ⟨⟨by omega,c1⟩,c2⟩,e2,e1];by_cases hx:v<2048∨v>1114111∨(55296≤v∧v≤57343)
  ·rw[if_pos hx,if_neg (by omega)]
  ·rw[if_neg hx,if_pos (by omega)];simp only[ef];omega
 ·have c1:=hc 1 (by omega) (by omega);have c2:=hc 2 (by omega) (by omega);have c3:=hc 3 (by omega) (by omega);have d1:=ib.1 c1;have d2:=ib.1 c2;have d3:=ib.1 c3;rw[e1]at hv;have CX:v=64*(64*(64*((j6 l 0:Int)-240)+j6 l 1-128)+j6 l 2-128)+j6 l 3-128:=by rw[hv];show 64*(64*(64*uQ (j6 l 0)+_-_)+_-_)+_-_=_;rw[e3]
  rw[if_neg (by omega),if_neg (by omega),if_neg (by omega),if_pos ⟨⟨⟨by omega,c1⟩,c2⟩,c3⟩,e2,e1];by_cases hx:v<65536∨v>1114111∨(55296≤v∧v≤57343)
  ·rw[if_pos hx,if_neg (by omega)]
  ·rw[if_neg hx,if_pos (by omega)];simp only[ef];omega
end Go.K
namespace Go.K
open Go.Proofs
set_option maxRecDepth 10000
theorem Bm (c:Int) (w0:World):
  Spec Tryz.prog 285 #[.int .i64 c] w0 (fun v w=>v= .bool (fH c)∧w=w0):=by
 refine bg (args:=[_]) (fn:=Tryz.f285) Tryz.func285 rfl (n:=31) Tryz.ntmps285 (aj (ae (ah rfl rfl (ab (aj (aj (ae (ad rfl rfl (dT rfl rfl rfl (ad rfl rfl ?_))))))))));refine aN (g:=5) rfl (fun iB=>?_) (fun iB=>?_)
 ·refine al rfl rfl (ad rfl rfl (al rfl rfl (gL rfl rfl rfl (aX rfl rfl rfl (ad rfl rfl ?_)))));refine aN (g:=9) rfl (fun Bj=>?_) (fun Bj=>?_)
  ·refine ar rfl rfl rfl rfl (ar rfl rfl rfl rfl (ar rfl rfl rfl rfl (cr rfl rfl rfl (cr rfl rfl rfl (ar rfl rfl rfl rfl (aX rfl rfl rfl (ab (lh rfl (aj (ae (ah rfl rfl ?_)))))))))));refine ab (aQ ?_);exact aV rfl rfl ⟨by simp only[fH];first|rfl|(congr 1;first|(exact(decide_eq_true (by omega)).symm)|(exact(decide_eq_false (by omega)).symm)|(exact decide_eq_decide.2 (by omega))),rfl⟩
  ·refine al rfl rfl (ad rfl rfl (al rfl rfl (dT rfl rfl rfl (al rfl rfl (ad rfl rfl ?_)))));refine aN (g:=12) rfl (fun su=>?_) (fun su=>?_)
   ·refine al rfl rfl (ad rfl rfl (al rfl rfl (gL rfl rfl rfl (al rfl rfl (aX rfl rfl rfl (aE rfl rfl rfl (ab ?_)))))));refine bN rfl (fun c1=>?_) (fun c1=>?_)
    ·refine aj (ae (ah rfl rfl (ab (aQ ?_))));exact aV rfl rfl ⟨by simp only[fH];first|rfl|(congr 1;first|(exact(decide_eq_true (by omega)).symm)|(exact(decide_eq_false (by omega)).symm)|(exact decide_eq_decide.2 (by omega))),rfl⟩
    ·refine aT (aj (ae (ad rfl rfl (dT rfl rfl rfl (ad rfl rfl ?_)))));refine aN (g:=19) rfl (fun Fy=>?_) (fun Fy=>?_)
     ·refine al rfl rfl (ad rfl rfl (al rfl rfl (gL rfl rfl rfl (aX rfl rfl rfl (ad rfl rfl ?_)))));refine aN (g:=23) rfl (fun Fz=>?_) (fun Fz=>?_)
      ·refine al rfl rfl (ad rfl rfl (al rfl rfl (fe rfl rfl rfl (aX rfl rfl rfl (ad rfl rfl ?_)))));refine aN (g:=27) rfl (fun x5=>?_) (fun x5=>?_)
       ·refine al rfl rfl (ad rfl rfl (al rfl rfl (fe rfl rfl rfl (aX rfl rfl rfl (ah rfl rfl (ab (aQ ?_)))))));exact aV rfl rfl ⟨by simp only[fH];first|rfl|(congr 1;first|(exact(decide_eq_true (by omega)).symm)|(exact(decide_eq_false (by omega)).symm)|(exact decide_eq_decide.2 (by omega))),rfl⟩
       ·refine ar rfl rfl rfl rfl (ar rfl rfl rfl rfl (aE rfl rfl rfl (ah rfl rfl (ab (aQ ?_)))));exact aV rfl rfl ⟨by simp only[fH];first|rfl|(congr 1;first|(exact(decide_eq_true (by omega)).symm)|(exact(decide_eq_false (by omega)).symm)|(exact decide_eq_decide.2 (by omega))),rfl⟩
      ·refine ar rfl rfl rfl rfl (ar rfl rfl rfl rfl (aE rfl rfl rfl (ad rfl rfl (ar rfl rfl rfl rfl (ar rfl rfl rfl rfl (aE rfl rfl rfl (ah rfl rfl (ab (aQ ?_)))))))));exact aV rfl rfl ⟨by simp only[fH];first|rfl|(congr 1;first|(exact(decide_eq_true (by omega)).symm)|(exact(decide_eq_false (by omega)).symm)|(exact decide_eq_decide.2 (by omega))),rfl⟩
     ·refine ar rfl rfl rfl rfl (ar rfl rfl rfl rfl (aE rfl rfl rfl (ad rfl rfl (ar rfl rfl rfl rfl (ar rfl rfl rfl rfl (aE rfl rfl rfl (ad rfl rfl (ar rfl rfl rfl rfl (ar rfl rfl rfl rfl (aE rfl rfl rfl (ah rfl rfl ?_)))))))))));refine ab (aQ ?_);exact aV rfl rfl ⟨by simp only[fH];first|rfl|(congr 1;first|(exact(decide_eq_true (by omega)).symm)|(exact(decide_eq_false (by omega)).symm)|(exact decide_eq_decide.2 (by omega))),rfl⟩
   ·refine ar rfl rfl rfl rfl (ar rfl rfl rfl rfl (al rfl rfl (aE rfl rfl rfl (aE rfl rfl rfl (ab (iX rfl (aT (aj (ae (ad rfl rfl (dT rfl rfl rfl ?_)))))))))));refine ad rfl rfl ?_;refine aN (g:=19) rfl (fun Fy=>?_) (fun Fy=>?_)
    ·refine al rfl rfl (ad rfl rfl (al rfl rfl (gL rfl rfl rfl (aX rfl rfl rfl (ad rfl rfl ?_)))));refine aN (g:=23) rfl (fun Fz=>?_) (fun Fz=>?_)
     ·refine al rfl rfl (ad rfl rfl (al rfl rfl (fe rfl rfl rfl (aX rfl rfl rfl (ad rfl rfl ?_)))));refine aN (g:=27) rfl (fun x5=>?_) (fun x5=>?_)
      ·refine al rfl rfl (ad rfl rfl (al rfl rfl (fe rfl rfl rfl (aX rfl rfl rfl (ah rfl rfl (ab (aQ ?_)))))));exact aV rfl rfl ⟨by simp only[fH];first|rfl|(congr 1;first|(exact(decide_eq_true (by omega)).symm)|(exact(decide_eq_false (by omega)).symm)|(exact decide_eq_decide.2 (by omega))),rfl⟩
      ·refine ar rfl rfl rfl rfl (ar rfl rfl rfl rfl (aE rfl rfl rfl (ah rfl rfl (ab (aQ ?_)))));exact aV rfl rfl ⟨by simp only[fH];first|rfl|(congr 1;first|(exact(decide_eq_true (by omega)).symm)|(exact(decide_eq_false (by omega)).symm)|(exact decide_eq_decide.2 (by omega))),rfl⟩
     ·refine ar rfl rfl rfl rfl (ar rfl rfl rfl rfl (aE rfl rfl rfl (ad rfl rfl (ar rfl rfl rfl rfl (ar rfl rfl rfl rfl (aE rfl rfl rfl (ah rfl rfl (ab (aQ ?_)))))))));exact aV rfl rfl ⟨by simp only[fH];first|rfl|(congr 1;first|(exact(decide_eq_true (by omega)).symm)|(exact(decide_eq_false (by omega)).symm)|(exact decide_eq_decide.2 (by omega))),rfl⟩
    ·refine ar rfl rfl rfl rfl (ar rfl rfl rfl rfl (aE rfl rfl rfl (ad rfl rfl (ar rfl rfl rfl rfl (ar rfl rfl rfl rfl (aE rfl rfl rfl (ad rfl rfl (ar rfl rfl rfl rfl (ar rfl rfl rfl rfl (aE rfl rfl rfl (ah rfl rfl ?_)))))))))));refine ab (aQ ?_);exact aV rfl rfl ⟨by simp only[fH];first|rfl|(congr 1;first|(exact(decide_eq_true (by omega)).symm)|(exact(decide_eq_false (by omega)).symm)|(exact decide_eq_decide.2 (by omega))),rfl⟩
 ·refine ar rfl rfl rfl rfl (ar rfl rfl rfl rfl (aE rfl rfl rfl (ad rfl rfl (al rfl rfl (ad rfl rfl (al rfl rfl (dT rfl rfl rfl (al rfl rfl (ad rfl rfl ?_)))))))));refine aN (g:=12) rfl (fun su=>?_) (fun su=>?_)
  ·refine al rfl rfl (ad rfl rfl (al rfl rfl (gL rfl rfl rfl (al rfl rfl (aX rfl rfl rfl (aE rfl rfl rfl (ab ?_)))))));refine bN rfl (fun c1=>?_) (fun c1=>?_)
   ·refine aj (ae (ah rfl rfl (ab (aQ ?_))));exact aV rfl rfl ⟨by simp only[fH];first|rfl|(congr 1;first|(exact(decide_eq_true (by omega)).symm)|(exact(decide_eq_false (by omega)).symm)|(exact decide_eq_decide.2 (by omega))),rfl⟩
   ·refine aT (aj (ae (ad rfl rfl (dT rfl rfl rfl (ad rfl rfl ?_)))));refine aN (g:=19) rfl (fun Fy=>?_) (fun Fy=>?_)
    ·refine al rfl rfl (ad rfl rfl (al rfl rfl (gL rfl rfl rfl (aX rfl rfl rfl (ad rfl rfl ?_)))));refine aN (g:=23) rfl (fun Fz=>?_) (fun Fz=>?_)
     ·refine al rfl rfl (ad rfl rfl (al rfl rfl (fe rfl rfl rfl (aX rfl rfl rfl (ad rfl rfl ?_)))));refine aN (g:=27) rfl (fun x5=>?_) (fun x5=>?_)
      ·refine al rfl rfl (ad rfl rfl (al rfl rfl (fe rfl rfl rfl (aX rfl rfl rfl (ah rfl rfl (ab (aQ ?_)))))));exact aV rfl rfl ⟨by simp only[fH];first|rfl|(congr 1;first|(exact(decide_eq_true (by omega)).symm)|(exact(decide_eq_false (by omega)).symm)|(exact decide_eq_decide.2 (by omega))),rfl⟩
      ·refine ar rfl rfl rfl rfl (ar rfl rfl rfl rfl (aE rfl rfl rfl (ah rfl rfl (ab (aQ ?_)))));exact aV rfl rfl ⟨by simp only[fH];first|rfl|(congr 1;first|(exact(decide_eq_true (by omega)).symm)|(exact(decide_eq_false (by omega)).symm)|(exact decide_eq_decide.2 (by omega))),rfl⟩
     ·refine ar rfl rfl rfl rfl (ar rfl rfl rfl rfl (aE rfl rfl rfl (ad rfl rfl (ar rfl rfl rfl rfl (ar rfl rfl rfl rfl (aE rfl rfl rfl (ah rfl rfl (ab (aQ ?_)))))))));exact aV rfl rfl ⟨by simp only[fH];first|rfl|(congr 1;first|(exact(decide_eq_true (by omega)).symm)|(exact(decide_eq_false (by omega)).symm)|(exact decide_eq_decide.2 (by omega))),rfl⟩
    ·refine ar rfl rfl rfl rfl (ar rfl rfl rfl rfl (aE rfl rfl rfl (ad rfl rfl (ar rfl rfl rfl rfl (ar rfl rfl rfl rfl (aE rfl rfl rfl (ad rfl rfl (ar rfl rfl rfl rfl (ar rfl rfl rfl rfl (aE rfl rfl rfl (ah rfl rfl ?_)))))))))));refine ab (aQ ?_);exact aV rfl rfl ⟨by simp only[fH];first|rfl|(congr 1;first|(exact(decide_eq_true (by omega)).symm)|(exact(decide_eq_false (by omega)).symm)|(exact decide_eq_decide.2 (by omega))),rfl⟩
  ·refine ar rfl rfl rfl rfl (ar rfl rfl rfl rfl (al rfl rfl (aE rfl rfl rfl (aE rfl rfl rfl (ab (iX rfl (aT (aj (ae (ad rfl rfl (dT rfl rfl rfl ?_)))))))))));refine ad rfl rfl ?_;refine aN (g:=19) rfl (fun Fy=>?_) (fun Fy=>?_)
   ·refine al rfl rfl (ad rfl rfl (al rfl rfl (gL rfl rfl rfl (aX rfl rfl rfl (ad rfl rfl ?_)))));refine aN (g:=23) rfl (fun Fz=>?_) (fun Fz=>?_)
    ·refine al rfl rfl (ad rfl rfl (al rfl rfl (fe rfl rfl rfl (aX rfl rfl rfl (ad rfl rfl ?_)))));refine aN (g:=27) rfl (fun x5=>?_) (fun x5=>?_)
     ·refine al rfl rfl (ad rfl rfl (al rfl rfl (fe rfl rfl rfl (aX rfl rfl rfl (ah rfl rfl (ab (aQ ?_)))))));exact aV rfl rfl ⟨by simp only[fH];first|rfl|(congr 1;first|(exact(decide_eq_true (by omega)).symm)|(exact(decide_eq_false (by omega)).symm)|(exact decide_eq_decide.2 (by omega))),rfl⟩
     ·refine ar rfl rfl rfl rfl (ar rfl rfl rfl rfl (aE rfl rfl rfl (ah rfl rfl (ab (aQ ?_)))));exact aV rfl rfl ⟨by simp only[fH];first|rfl|(congr 1;first|(exact(decide_eq_true (by omega)).symm)|(exact(decide_eq_false (by omega)).symm)|(exact decide_eq_decide.2 (by omega))),rfl⟩
    ·refine ar rfl rfl rfl rfl (ar rfl rfl rfl rfl (aE rfl rfl rfl (ad rfl rfl (ar rfl rfl rfl rfl (ar rfl rfl rfl rfl (aE rfl rfl rfl (ah rfl rfl (ab (aQ ?_)))))))));exact aV rfl rfl ⟨by simp only[fH];first|rfl|(congr 1;first|(exact(decide_eq_true (by omega)).symm)|(exact(decide_eq_false (by omega)).symm)|(exact decide_eq_decide.2 (by omega))),rfl⟩
   ·refine ar rfl rfl rfl rfl (ar rfl rfl rfl rfl (aE rfl rfl rfl (ad rfl rfl (ar rfl rfl rfl rfl (ar rfl rfl rfl rfl (aE rfl rfl rfl (ad rfl rfl (ar rfl rfl rfl rfl (ar rfl rfl rfl rfl (aE rfl rfl rfl (ah rfl rfl ?_)))))))))));refine ab (aQ ?_);exact aV rfl rfl ⟨by simp only[fH];first|rfl|(congr 1;first|(exact(decide_eq_true (by omega)).symm)|(exact(decide_eq_false (by omega)).symm)|(exact decide_eq_decide.2 (by omega))),rfl⟩
theorem FA (c:Int) (w0:World) (hc:0≤c∧c≤1114111):
  Spec Tryz.prog 253 #[.int .i64 c] w0 (fun v w=>v= .int .i64 (fK c)∧w=w0):=by
 refine bg (args:=[_]) (fn:=Tryz.f253) Tryz.func253 rfl (n:=28) Tryz.ntmps253 (aj (ae (ah rfl rfl (ab (aj (aj (ae (ad rfl rfl (dT rfl rfl rfl (ad rfl rfl ?_))))))))));refine aN (g:=5) rfl (fun iB=>?_) (fun iB=>?_)
 ·refine al rfl rfl (ad rfl rfl (al rfl rfl (gL rfl rfl rfl (aX rfl rfl rfl (ad rfl rfl ?_)))));refine aN (g:=9) rfl (fun Bj=>?_) (fun Bj=>?_)
  ·refine ar rfl rfl rfl rfl (ar rfl rfl rfl rfl (ar rfl rfl rfl rfl (cr rfl rfl rfl (cr rfl rfl rfl (ar rfl rfl rfl rfl (aX rfl rfl rfl (ad rfl rfl (ar rfl rfl rfl rfl (ar rfl rfl rfl rfl (ar rfl rfl rfl rfl (cr rfl rfl rfl ?_)))))))))));refine cr rfl rfl rfl (ar rfl rfl rfl rfl (aX rfl rfl rfl (ab (lh rfl (aj (ae (ad rfl rfl (bD rfl rfl rfl (by omega) (ah rfl rfl (ab (aQ ?_)))))))))));exact aV rfl rfl ⟨by rw[fK,if_pos (by omega)],rfl⟩
  ·refine al rfl rfl (ad rfl rfl (al rfl rfl (dT rfl rfl rfl (al rfl rfl (ad rfl rfl ?_)))));refine aN (g:=12) rfl (fun su=>?_) (fun su=>?_)
   ·refine al rfl rfl (ad rfl rfl (al rfl rfl (gL rfl rfl rfl (al rfl rfl (aX rfl rfl rfl (aE rfl rfl rfl (ad rfl rfl ?_)))))));refine aN (g:=17) rfl (fun xX=>?_) (fun xX=>?_)
    ·refine ar rfl rfl rfl rfl (ar rfl rfl rfl rfl (ar rfl rfl rfl rfl (cr rfl rfl rfl (cr rfl rfl rfl (ar rfl rfl rfl rfl (aX rfl rfl rfl (ab (lh rfl (aj (ae (ad rfl rfl ?_)))))))))));refine bD rfl rfl rfl (by omega) (ah rfl rfl (ab (aQ ?_)));exact aV rfl rfl ⟨by rw[fK,if_pos (by omega)],rfl⟩
    ·refine al rfl rfl (ad rfl rfl (al rfl rfl (dT rfl rfl rfl (al rfl rfl (ad rfl rfl ?_)))));refine aN (g:=20) rfl (fun mc=>?_) (fun mc=>?_)
     ·refine al rfl rfl (ad rfl rfl (al rfl rfl (gL rfl rfl rfl (al rfl rfl (aX rfl rfl rfl (aE rfl rfl rfl (ab ?_)))))));refine bN rfl (fun c1=>?_) (fun c1=>?_)
      ·refine aj (ae (ad rfl rfl (bD rfl rfl rfl (by omega) (ah rfl rfl (ab (aQ ?_))))));exact aV rfl rfl ⟨by rw[fK,if_pos (by omega)],rfl⟩
      ·refine aT (aj (ae (ad rfl rfl (ah rfl rfl (ab (aQ ?_))))));exact aV rfl rfl ⟨by rw[fK,if_neg (by omega)],rfl⟩
     ·refine ar rfl rfl rfl rfl (ar rfl rfl rfl rfl (al rfl rfl (aE rfl rfl rfl (aE rfl rfl rfl (ab (iX rfl (aT (aj (ae (ad rfl rfl (ah rfl rfl ?_)))))))))));refine ab (aQ ?_);exact aV rfl rfl ⟨by rw[fK,if_neg (by omega)],rfl⟩
   ·refine ar rfl rfl rfl rfl (ar rfl rfl rfl rfl (al rfl rfl (aE rfl rfl rfl (aE rfl rfl rfl (ad rfl rfl (al rfl rfl (ad rfl rfl (al rfl rfl (dT rfl rfl rfl (al rfl rfl (ad rfl rfl ?_)))))))))));refine aN (g:=20) rfl (fun mc=>?_) (fun mc=>?_)
    ·refine al rfl rfl (ad rfl rfl (al rfl rfl (gL rfl rfl rfl (al rfl rfl (aX rfl rfl rfl (aE rfl rfl rfl (ab ?_)))))));refine bN rfl (fun c1=>?_) (fun c1=>?_)
     ·refine aj (ae (ad rfl rfl (bD rfl rfl rfl (by omega) (ah rfl rfl (ab (aQ ?_))))));exact aV rfl rfl ⟨by rw[fK,if_pos (by omega)],rfl⟩
     ·refine aT (aj (ae (ad rfl rfl (ah rfl rfl (ab (aQ ?_))))));exact aV rfl rfl ⟨by rw[fK,if_neg (by omega)],rfl⟩
    ·refine ar rfl rfl rfl rfl (ar rfl rfl rfl rfl (al rfl rfl (aE rfl rfl rfl (aE rfl rfl rfl (ab (iX rfl (aT (aj (ae (ad rfl rfl (ah rfl rfl ?_)))))))))));refine ab (aQ ?_);exact aV rfl rfl ⟨by rw[fK,if_neg (by omega)],rfl⟩
 ·refine ar rfl rfl rfl rfl (ar rfl rfl rfl rfl (aE rfl rfl rfl (ad rfl rfl (al rfl rfl (ad rfl rfl (al rfl rfl (dT rfl rfl rfl (al rfl rfl (ad rfl rfl ?_)))))))));refine aN (g:=12) rfl (fun su=>?_) (fun su=>?_)
  ·refine al rfl rfl (ad rfl rfl (al rfl rfl (gL rfl rfl rfl (al rfl rfl (aX rfl rfl rfl (aE rfl rfl rfl (ad rfl rfl ?_)))))));refine aN (g:=17) rfl (fun xX=>?_) (fun xX=>?_)
   ·refine ar rfl rfl rfl rfl (ar rfl rfl rfl rfl (ar rfl rfl rfl rfl (cr rfl rfl rfl (cr rfl rfl rfl (ar rfl rfl rfl rfl (aX rfl rfl rfl (ab (lh rfl (aj (ae (ad rfl rfl ?_)))))))))));refine bD rfl rfl rfl (by omega) (ah rfl rfl (ab (aQ ?_)));exact aV rfl rfl ⟨by rw[fK,if_pos (by omega)],rfl⟩
   ·refine al rfl rfl (ad rfl rfl (al rfl rfl (dT rfl rfl rfl (al rfl rfl (ad rfl rfl ?_)))));refine aN (g:=20) rfl (fun mc=>?_) (fun mc=>?_)
    ·refine al rfl rfl (ad rfl rfl (al rfl rfl (gL rfl rfl rfl (al rfl rfl (aX rfl rfl rfl (aE rfl rfl rfl (ab ?_)))))));refine bN rfl (fun c1=>?_) (fun c1=>?_)
     ·refine aj (ae (ad rfl rfl (bD rfl rfl rfl (by omega) (ah rfl rfl (ab (aQ ?_))))));exact aV rfl rfl ⟨by rw[fK,if_pos (by omega)],rfl⟩
     ·refine aT (aj (ae (ad rfl rfl (ah rfl rfl (ab (aQ ?_))))));exact aV rfl rfl ⟨by rw[fK,if_neg (by omega)],rfl⟩
    ·refine ar rfl rfl rfl rfl (ar rfl rfl rfl rfl (al rfl rfl (aE rfl rfl rfl (aE rfl rfl rfl (ab (iX rfl (aT (aj (ae (ad rfl rfl (ah rfl rfl ?_)))))))))));refine ab (aQ ?_);exact aV rfl rfl ⟨by rw[fK,if_neg (by omega)],rfl⟩
  ·refine ar rfl rfl rfl rfl (ar rfl rfl rfl rfl (al rfl rfl (aE rfl rfl rfl (aE rfl rfl rfl (ad rfl rfl (al rfl rfl (ad rfl rfl (al rfl rfl (dT rfl rfl rfl (al rfl rfl (ad rfl rfl ?_)))))))))));refine aN (g:=20) rfl (fun mc=>?_) (fun mc=>?_)
   ·refine al rfl rfl (ad rfl rfl (al rfl rfl (gL rfl rfl rfl (al rfl rfl (aX rfl rfl rfl (aE rfl rfl rfl (ab ?_)))))));refine bN rfl (fun c1=>?_) (fun c1=>?_)
    ·refine aj (ae (ad rfl rfl (bD rfl rfl rfl (by omega) (ah rfl rfl (ab (aQ ?_))))));exact aV rfl rfl ⟨by rw[fK,if_pos (by omega)],rfl⟩
    ·refine aT (aj (ae (ad rfl rfl (ah rfl rfl (ab (aQ ?_))))));exact aV rfl rfl ⟨by rw[fK,if_neg (by omega)],rfl⟩
   ·refine ar rfl rfl rfl rfl (ar rfl rfl rfl rfl (al rfl rfl (aE rfl rfl rfl (aE rfl rfl rfl (ab (iX rfl (aT (aj (ae (ad rfl rfl (ah rfl rfl ?_)))))))))));refine ab (aQ ?_);exact aV rfl rfl ⟨by rw[fK,if_neg (by omega)],rfl⟩
def xn (c:Int):Bool:=decide (fH c=true∨oP c=true)
theorem CY (c:Int) (w0:World):
  Spec Tryz.prog 252 #[.int .i64 c] w0 (fun v w=>v= .bool (xn c)∧w=w0):=by
 refine bg (args:=[_]) (fn:=Tryz.f252) Tryz.func252 rfl (n:=13) Tryz.ntmps252 (aj (ae (ah rfl rfl (ab (aj (ae (ad rfl rfl ?_)))))));refine aW rfl rfl adz (Bm _ _) (fun r wc hc=>?_);obtain⟨rfl,rfl⟩:=hc;refine aU (v':= .bool (decide (fH c=true))) (by cases fH c<;>rfl) (ad rfl rfl ?_);refine aN (g:=5) rfl (fun iB=>?_) (fun iB=>?_)
 ·refine ar rfl rfl rfl rfl (ar rfl rfl rfl rfl (ar rfl rfl rfl rfl (cr rfl rfl rfl (cr rfl rfl rfl (ar rfl rfl rfl rfl (aX rfl rfl rfl (ah rfl rfl (ab (aQ ?_)))))))));have e:(oP c=true)=(48≤c∧c≤57):=by simp[oP]
  exact aV rfl rfl ⟨by simp only[xn,e];first|(congr 1;first|(exact(decide_eq_true (.inl (by assumption))).symm)|(exact(decide_eq_true (.inr (by omega))).symm)|(exact(decide_eq_false (by rintro(h|h)<;>first|exact absurd h (by assumption)|omega)).symm)|(exact decide_eq_decide.2 ⟨fun h=> .inr (by omega),fun h=>h.elim (fun h=>absurd h (by assumption)) (fun h=>by omega)⟩)),rfl⟩
 ·refine al rfl rfl (ad rfl rfl (al rfl rfl (dT rfl rfl rfl (al rfl rfl (ad rfl rfl ?_)))));refine aN (g:=8) rfl (fun uR=>?_) (fun uR=>?_)
  ·refine al rfl rfl (ad rfl rfl (al rfl rfl (gL rfl rfl rfl (al rfl rfl (aX rfl rfl rfl (aE rfl rfl rfl (ah rfl rfl (ab (aQ ?_)))))))));have e:(oP c=true)=(48≤c∧c≤57):=by simp[oP]
   exact aV rfl rfl ⟨by simp only[xn,e];first|(congr 1;first|(exact(decide_eq_true (.inl (by assumption))).symm)|(exact(decide_eq_true (.inr (by omega))).symm)|(exact(decide_eq_false (by rintro(h|h)<;>first|exact absurd h (by assumption)|omega)).symm)|(exact decide_eq_decide.2 ⟨fun h=> .inr (by omega),fun h=>h.elim (fun h=>absurd h (by assumption)) (fun h=>by omega)⟩)),rfl⟩
  ·refine ar rfl rfl rfl rfl (ar rfl rfl rfl rfl (al rfl rfl (aE rfl rfl rfl (aE rfl rfl rfl (ah rfl rfl (ab (aQ ?_)))))));have e:(oP c=true)=(48≤c∧c≤57):=by simp[oP]
   exact aV rfl rfl ⟨by simp only[xn,e];first|(congr 1;first|(exact(decide_eq_true (.inl (by assumption))).symm)|(exact(decide_eq_true (.inr (by omega))).symm)|(exact(decide_eq_false (by rintro(h|h)<;>first|exact absurd h (by assumption)|omega)).symm)|(exact decide_eq_decide.2 ⟨fun h=> .inr (by omega),fun h=>h.elim (fun h=>absurd h (by assumption)) (fun h=>by omega)⟩)),rfl⟩
theorem Tu {l:List UInt8} {c:Int} (hc:c=(j6 l 0:Int)) (hn:nO c≠0):∀{k:Nat},(∀j:Nat,1≤j→j<k+1→kf l j=true)→k≤3→0≤vO l k∧vO l k≤100000000:=by
 have key:∀k:Nat,(∀j:Nat,1≤j→j<k+1→kf l j=true)→0≤vO l k∧vO l k≤33*64^k-1:=by
  intro k
  induction k with
  |zero=>
   intro _;have:=nQ hn;show 0≤uQ (j6 l 0:Int)∧uQ (j6 l 0:Int)≤33*64^0-1;rw[←hc];simp only[Int.pow_zero];omega
  |succ k ih=>
   intro h;have h1:=ih fun j h2 h3=>h j h2 (by omega)
   have h2:=ib.1 (h (k+1) (by omega) (by omega));show 0≤64*vO l k+_-128∧64*vO l k+_-128≤_;rw[Int.pow_succ];omega
 intro k h hk;have:=key k h
 have h3:(64:Int)^k≤262144:=by
  rcases(show k=0∨k=1∨k=2∨k=3 by omega)with rfl|rfl|rfl|rfl<;>decide
 omega
theorem KV {l:List UInt8} (w0:World) (hl:l≠[]) (hlen:l.length≤1000000):
  Spec Tryz.prog 284 #[.string ⟨l.toArray⟩] w0 (fun v w=>v= .tuple #[.int .i64 ((dec l).1:Int),.int .i64 ((dec l).2:Int)]∧w=w0):=by
 have td:0<l.length:=oy.2 hl;have hb0:=oN l 0;obtain⟨c,hc⟩:∃c:Int,c=(j6 l 0:Int):=⟨_,rfl⟩;have hcr:0≤c∧c<256:=by omega
 refine bg (args:=[_]) (fn:=Tryz.f284) Tryz.func284 rfl (n:=85) Tryz.ntmps284 (aj (ae (ah rfl rfl (ah rfl rfl (ab (aj (ae (ad rfl rfl ?_))))))));refine Rg.Ho (c:=l.getD 0 0) aJ rfl rfl rfl (by decide) (by rw[aA];show l[0]? =_;rw[au td];rfl) ?_;refine aU (v':= .int .u8 c) (by rw[hc];rfl) (Rg.uE cz ax rfl rfl (by omega) (ah rfl rfl (ab (aj (aj (ae (ad rfl rfl (cn rfl rfl rfl (ab ?_)))))))));refine bN rfl (fun c2=>?_) (fun c2=>?_)
 ·refine aj (ae (ad rfl rfl (ah rfl rfl (ah rfl rfl (ab (aQ ?_))))));exact eS rfl rfl rfl ⟨by rw[XN (by omega),hc];rfl,rfl⟩
 ·refine aT (aj (ae (ah rfl rfl (ab (aj (ae (ah rfl rfl (ab (aj (ae (ah rfl rfl ?_)))))))))));refine ab ?_;refine T.Hi [(0,.string ⟨l.toArray⟩),(4,.int .i64 c),(5,.int .i64 (nO c)),(6,.int .i64 (iu c)),(7,.int .i64 (uQ c))] ?_ ?_
  ·refine aj (ae (ad rfl rfl (dT rfl rfl rfl (ad rfl rfl ?_))));refine aN (g:=18) rfl (fun adC=>?_) (fun adC=>?_)
   ·refine al rfl rfl (ad rfl rfl (al rfl rfl (cn rfl rfl rfl (aX rfl rfl rfl (ab ?_)))));refine bN rfl (fun c7=>?_) (fun c7=>?_)
    ·refine aj (ae (ah rfl rfl (ab (aj (ae (ah rfl rfl (ab (ae (ad rfl rfl (fu rfl rfl rfl (by omega) (ah rfl rfl ?_)))))))))));refine ab ?_;exact⟨rfl,rfl,rfl,.cons rfl (.cons rfl (.cons (congrArg (fun z=>some (Value.int .i64 z)) (by first|(exfalso;omega)|(unfold nO;repeat (first|rw[if_pos (by omega)]|rw[if_neg (by omega)])))) (.cons (congrArg (fun z=>some (Value.int .i64 z)) (by first|(exfalso;omega)|(unfold iu;repeat (first|rw[if_pos (by omega)]|rw[if_neg (by omega)])))) (.cons (congrArg (fun z=>some (Value.int .i64 z)) (by first|(exfalso;omega)|(unfold uQ;repeat (first|rw[if_pos (by omega)]|rw[if_neg (by omega)])))) (.nil)))))⟩
    ·refine aj (ae (ad rfl rfl (dT rfl rfl rfl (ad rfl rfl ?_))));refine aN (g:=26) rfl (fun KW=>?_) (fun KW=>?_)
     ·refine al rfl rfl (ad rfl rfl (al rfl rfl (cn rfl rfl rfl (aX rfl rfl rfl (ab ?_)))));refine bN rfl (fun FB=>?_) (fun FB=>?_)
      ·refine aj (ae (ah rfl rfl (ab (aj (ae (ah rfl rfl (ab (ae (ad rfl rfl (fu rfl rfl rfl (by omega) (ah rfl rfl ?_)))))))))));refine ab ?_;exact⟨rfl,rfl,rfl,.cons rfl (.cons rfl (.cons (congrArg (fun z=>some (Value.int .i64 z)) (by first|(exfalso;omega)|(unfold nO;repeat (first|rw[if_pos (by omega)]|rw[if_neg (by omega)])))) (.cons (congrArg (fun z=>some (Value.int .i64 z)) (by first|(exfalso;omega)|(unfold iu;repeat (first|rw[if_pos (by omega)]|rw[if_neg (by omega)])))) (.cons (congrArg (fun z=>some (Value.int .i64 z)) (by first|(exfalso;omega)|(unfold uQ;repeat (first|rw[if_pos (by omega)]|rw[if_neg (by omega)])))) (.nil)))))⟩
      ·refine aj (ae (ad rfl rfl (dT rfl rfl rfl (ad rfl rfl ?_))));refine aN (g:=34) rfl (fun x7=>?_) (fun x7=>?_)
       ·refine al rfl rfl (ad rfl rfl (al rfl rfl (cn rfl rfl rfl (aX rfl rfl rfl (ab ?_)))));refine bN rfl (fun Tv=>?_) (fun Tv=>?_)
        ·refine aj (ae (ah rfl rfl (ab (aj (ae (ah rfl rfl (ab (ae (ad rfl rfl (fu rfl rfl rfl (by omega) (ah rfl rfl ?_)))))))))));refine ab ?_;exact⟨rfl,rfl,rfl,.cons rfl (.cons rfl (.cons (congrArg (fun z=>some (Value.int .i64 z)) (by first|(exfalso;omega)|(unfold nO;repeat (first|rw[if_pos (by omega)]|rw[if_neg (by omega)])))) (.cons (congrArg (fun z=>some (Value.int .i64 z)) (by first|(exfalso;omega)|(unfold iu;repeat (first|rw[if_pos (by omega)]|rw[if_neg (by omega)])))) (.cons (congrArg (fun z=>some (Value.int .i64 z)) (by first|(exfalso;omega)|(unfold uQ;repeat (first|rw[if_pos (by omega)]|rw[if_neg (by omega)])))) (.nil)))))⟩
        ·refine aT ?_;exact⟨rfl,rfl,rfl,.cons rfl (.cons rfl (.cons (congrArg (fun z=>some (Value.int .i64 z)) (by first|(exfalso;omega)|(unfold nO;repeat (first|rw[if_pos (by omega)]|rw[if_neg (by omega)])))) (.cons (congrArg (fun z=>some (Value.int .i64 z)) (by first|(exfalso;omega)|(unfold iu;repeat (first|rw[if_pos (by omega)]|rw[if_neg (by omega)])))) (.cons (congrArg (fun z=>some (Value.int .i64 z)) (by first|(exfalso;omega)|(unfold uQ;repeat (first|rw[if_pos (by omega)]|rw[if_neg (by omega)])))) (.nil)))))⟩
       ·refine ar rfl rfl rfl rfl (ar rfl rfl rfl rfl (aE rfl rfl rfl (ab (iX rfl (aT ?_)))));exact⟨rfl,rfl,rfl,.cons rfl (.cons rfl (.cons (congrArg (fun z=>some (Value.int .i64 z)) (by first|(exfalso;omega)|(unfold nO;repeat (first|rw[if_pos (by omega)]|rw[if_neg (by omega)])))) (.cons (congrArg (fun z=>some (Value.int .i64 z)) (by first|(exfalso;omega)|(unfold iu;repeat (first|rw[if_pos (by omega)]|rw[if_neg (by omega)])))) (.cons (congrArg (fun z=>some (Value.int .i64 z)) (by first|(exfalso;omega)|(unfold uQ;repeat (first|rw[if_pos (by omega)]|rw[if_neg (by omega)])))) (.nil)))))⟩
     ·refine ar rfl rfl rfl rfl (ar rfl rfl rfl rfl (aE rfl rfl rfl (ab (iX rfl (aj (ae (ad rfl rfl (dT rfl rfl rfl (ad rfl rfl ?_)))))))));refine aN (g:=34) rfl (fun x7=>?_) (fun x7=>?_)
      ·refine al rfl rfl (ad rfl rfl (al rfl rfl (cn rfl rfl rfl (aX rfl rfl rfl (ab ?_)))));refine bN rfl (fun Tv=>?_) (fun Tv=>?_)
       ·refine aj (ae (ah rfl rfl (ab (aj (ae (ah rfl rfl (ab (ae (ad rfl rfl (fu rfl rfl rfl (by omega) (ah rfl rfl ?_)))))))))));refine ab ?_;exact⟨rfl,rfl,rfl,.cons rfl (.cons rfl (.cons (congrArg (fun z=>some (Value.int .i64 z)) (by first|(exfalso;omega)|(unfold nO;repeat (first|rw[if_pos (by omega)]|rw[if_neg (by omega)])))) (.cons (congrArg (fun z=>some (Value.int .i64 z)) (by first|(exfalso;omega)|(unfold iu;repeat (first|rw[if_pos (by omega)]|rw[if_neg (by omega)])))) (.cons (congrArg (fun z=>some (Value.int .i64 z)) (by first|(exfalso;omega)|(unfold uQ;repeat (first|rw[if_pos (by omega)]|rw[if_neg (by omega)])))) (.nil)))))⟩
       ·refine aT ?_;exact⟨rfl,rfl,rfl,.cons rfl (.cons rfl (.cons (congrArg (fun z=>some (Value.int .i64 z)) (by first|(exfalso;omega)|(unfold nO;repeat (first|rw[if_pos (by omega)]|rw[if_neg (by omega)])))) (.cons (congrArg (fun z=>some (Value.int .i64 z)) (by first|(exfalso;omega)|(unfold iu;repeat (first|rw[if_pos (by omega)]|rw[if_neg (by omega)])))) (.cons (congrArg (fun z=>some (Value.int .i64 z)) (by first|(exfalso;omega)|(unfold uQ;repeat (first|rw[if_pos (by omega)]|rw[if_neg (by omega)])))) (.nil)))))⟩
      ·refine ar rfl rfl rfl rfl (ar rfl rfl rfl rfl (aE rfl rfl rfl (ab (iX rfl (aT ?_)))));exact⟨rfl,rfl,rfl,.cons rfl (.cons rfl (.cons (congrArg (fun z=>some (Value.int .i64 z)) (by first|(exfalso;omega)|(unfold nO;repeat (first|rw[if_pos (by omega)]|rw[if_neg (by omega)])))) (.cons (congrArg (fun z=>some (Value.int .i64 z)) (by first|(exfalso;omega)|(unfold iu;repeat (first|rw[if_pos (by omega)]|rw[if_neg (by omega)])))) (.cons (congrArg (fun z=>some (Value.int .i64 z)) (by first|(exfalso;omega)|(unfold uQ;repeat (first|rw[if_pos (by omega)]|rw[if_neg (by omega)])))) (.nil)))))⟩
   ·refine ar rfl rfl rfl rfl (ar rfl rfl rfl rfl (aE rfl rfl rfl (ab (iX rfl (aj (ae (ad rfl rfl (dT rfl rfl rfl (ad rfl rfl ?_)))))))));refine aN (g:=26) rfl (fun KW=>?_) (fun KW=>?_)
    ·refine al rfl rfl (ad rfl rfl (al rfl rfl (cn rfl rfl rfl (aX rfl rfl rfl (ab ?_)))));refine bN rfl (fun FB=>?_) (fun FB=>?_)
     ·refine aj (ae (ah rfl rfl (ab (aj (ae (ah rfl rfl (ab (ae (ad rfl rfl (fu rfl rfl rfl (by omega) (ah rfl rfl ?_)))))))))));refine ab ?_;exact⟨rfl,rfl,rfl,.cons rfl (.cons rfl (.cons (congrArg (fun z=>some (Value.int .i64 z)) (by first|(exfalso;omega)|(unfold nO;repeat (first|rw[if_pos (by omega)]|rw[if_neg (by omega)])))) (.cons (congrArg (fun z=>some (Value.int .i64 z)) (by first|(exfalso;omega)|(unfold iu;repeat (first|rw[if_pos (by omega)]|rw[if_neg (by omega)])))) (.cons (congrArg (fun z=>some (Value.int .i64 z)) (by first|(exfalso;omega)|(unfold uQ;repeat (first|rw[if_pos (by omega)]|rw[if_neg (by omega)])))) (.nil)))))⟩
     ·refine aj (ae (ad rfl rfl (dT rfl rfl rfl (ad rfl rfl ?_))));refine aN (g:=34) rfl (fun x7=>?_) (fun x7=>?_)
      ·refine al rfl rfl (ad rfl rfl (al rfl rfl (cn rfl rfl rfl (aX rfl rfl rfl (ab ?_)))));refine bN rfl (fun Tv=>?_) (fun Tv=>?_)
       ·refine aj (ae (ah rfl rfl (ab (aj (ae (ah rfl rfl (ab (ae (ad rfl rfl (fu rfl rfl rfl (by omega) (ah rfl rfl ?_)))))))))));refine ab ?_;exact⟨rfl,rfl,rfl,.cons rfl (.cons rfl (.cons (congrArg (fun z=>some (Value.int .i64 z)) (by first|(exfalso;omega)|(unfold nO;repeat (first|rw[if_pos (by omega)]|rw[if_neg (by omega)])))) (.cons (congrArg (fun z=>some (Value.int .i64 z)) (by first|(exfalso;omega)|(unfold iu;repeat (first|rw[if_pos (by omega)]|rw[if_neg (by omega)])))) (.cons (congrArg (fun z=>some (Value.int .i64 z)) (by first|(exfalso;omega)|(unfold uQ;repeat (first|rw[if_pos (by omega)]|rw[if_neg (by omega)])))) (.nil)))))⟩
       ·refine aT ?_;exact⟨rfl,rfl,rfl,.cons rfl (.cons rfl (.cons (congrArg (fun z=>some (Value.int .i64 z)) (by first|(exfalso;omega)|(unfold nO;repeat (first|rw[if_pos (by omega)]|rw[if_neg (by omega)])))) (.cons (congrArg (fun z=>some (Value.int .i64 z)) (by first|(exfalso;omega)|(unfold iu;repeat (first|rw[if_pos (by omega)]|rw[if_neg (by omega)])))) (.cons (congrArg (fun z=>some (Value.int .i64 z)) (by first|(exfalso;omega)|(unfold uQ;repeat (first|rw[if_pos (by omega)]|rw[if_neg (by omega)])))) (.nil)))))⟩
      ·refine ar rfl rfl rfl rfl (ar rfl rfl rfl rfl (aE rfl rfl rfl (ab (iX rfl (aT ?_)))));exact⟨rfl,rfl,rfl,.cons rfl (.cons rfl (.cons (congrArg (fun z=>some (Value.int .i64 z)) (by first|(exfalso;omega)|(unfold nO;repeat (first|rw[if_pos (by omega)]|rw[if_neg (by omega)])))) (.cons (congrArg (fun z=>some (Value.int .i64 z)) (by first|(exfalso;omega)|(unfold iu;repeat (first|rw[if_pos (by omega)]|rw[if_neg (by omega)])))) (.cons (congrArg (fun z=>some (Value.int .i64 z)) (by first|(exfalso;omega)|(unfold uQ;repeat (first|rw[if_pos (by omega)]|rw[if_neg (by omega)])))) (.nil)))))⟩
    ·refine ar rfl rfl rfl rfl (ar rfl rfl rfl rfl (aE rfl rfl rfl (ab (iX rfl (aj (ae (ad rfl rfl (dT rfl rfl rfl (ad rfl rfl ?_)))))))));refine aN (g:=34) rfl (fun x7=>?_) (fun x7=>?_)
     ·refine al rfl rfl (ad rfl rfl (al rfl rfl (cn rfl rfl rfl (aX rfl rfl rfl (ab ?_)))));refine bN rfl (fun Tv=>?_) (fun Tv=>?_)
      ·refine aj (ae (ah rfl rfl (ab (aj (ae (ah rfl rfl (ab (ae (ad rfl rfl (fu rfl rfl rfl (by omega) (ah rfl rfl ?_)))))))))));refine ab ?_;exact⟨rfl,rfl,rfl,.cons rfl (.cons rfl (.cons (congrArg (fun z=>some (Value.int .i64 z)) (by first|(exfalso;omega)|(unfold nO;repeat (first|rw[if_pos (by omega)]|rw[if_neg (by omega)])))) (.cons (congrArg (fun z=>some (Value.int .i64 z)) (by first|(exfalso;omega)|(unfold iu;repeat (first|rw[if_pos (by omega)]|rw[if_neg (by omega)])))) (.cons (congrArg (fun z=>some (Value.int .i64 z)) (by first|(exfalso;omega)|(unfold uQ;repeat (first|rw[if_pos (by omega)]|rw[if_neg (by omega)])))) (.nil)))))⟩
      ·refine aT ?_;exact⟨rfl,rfl,rfl,.cons rfl (.cons rfl (.cons (congrArg (fun z=>some (Value.int .i64 z)) (by first|(exfalso;omega)|(unfold nO;repeat (first|rw[if_pos (by omega)]|rw[if_neg (by omega)])))) (.cons (congrArg (fun z=>some (Value.int .i64 z)) (by first|(exfalso;omega)|(unfold iu;repeat (first|rw[if_pos (by omega)]|rw[if_neg (by omega)])))) (.cons (congrArg (fun z=>some (Value.int .i64 z)) (by first|(exfalso;omega)|(unfold uQ;repeat (first|rw[if_pos (by omega)]|rw[if_neg (by omega)])))) (.nil)))))⟩
     ·refine ar rfl rfl rfl rfl (ar rfl rfl rfl rfl (aE rfl rfl rfl (ab (iX rfl (aT ?_)))));exact⟨rfl,rfl,rfl,.cons rfl (.cons rfl (.cons (congrArg (fun z=>some (Value.int .i64 z)) (by first|(exfalso;omega)|(unfold nO;repeat (first|rw[if_pos (by omega)]|rw[if_neg (by omega)])))) (.cons (congrArg (fun z=>some (Value.int .i64 z)) (by first|(exfalso;omega)|(unfold iu;repeat (first|rw[if_pos (by omega)]|rw[if_neg (by omega)])))) (.cons (congrArg (fun z=>some (Value.int .i64 z)) (by first|(exfalso;omega)|(unfold uQ;repeat (first|rw[if_pos (by omega)]|rw[if_neg (by omega)])))) (.nil)))))⟩
  ·refine aj (aj (ae (ad rfl rfl (tc rfl rfl rfl (ad rfl rfl ?_)))));refine aN (g:=42) rfl (fun XP=>?_) (fun XP=>?_)
   ·refine ar rfl rfl rfl rfl (ar rfl rfl rfl rfl (ar rfl rfl rfl rfl (ar rfl rfl rfl rfl (aX rfl rfl rfl (ab (lh rfl (aj (ae (ah rfl rfl (ah rfl rfl (ab ?_)))))))))));refine aQ ?_
    have hx:nO (j6 l 0:Int)=0∨∃k:Nat,1≤k∧(k:Int)<nO (j6 l 0:Int)∧kf l k=false:=by
     rw[←hc];by_cases h0:nO c=0
     ·exact .inl h0
     ·have hnc:=nQ h0;exact .inr ⟨(nO c).toNat-1,by omega,by omega,de.2 fun h=>by have:=(ib.1 h).1;omega⟩
    have e:dec l=(65533,1):=Hq (by omega) hx;exact eS rfl rfl rfl ⟨by rw[e];rfl,rfl⟩
   ·refine al rfl rfl (ad rfl rfl (al rfl rfl (Rg.nh aJ rfl rfl (aU (v':= .int .i64 (l.length:Int)) (by simp[ByteArray.size]) (al rfl rfl (ad rfl rfl (al rfl rfl (cn rfl rfl rfl (aE rfl rfl rfl (ab ?_))))))))));refine bN rfl (fun c19=>?_) (fun c19=>?_)
    ·refine aj (ae (ah rfl rfl (ah rfl rfl (ab (aQ ?_)))))
     have hx:nO (j6 l 0:Int)=0∨∃k:Nat,1≤k∧(k:Int)<nO (j6 l 0:Int)∧kf l k=false:=by
      rw[←hc];by_cases h0:nO c=0
      ·exact .inl h0
      ·have hnc:=nQ h0;exact .inr ⟨(nO c).toNat-1,by omega,by omega,de.2 fun h=>by have:=(ib.1 h).1;omega⟩
     have e:dec l=(65533,1):=Hq (by omega) hx;exact eS rfl rfl rfl ⟨by rw[e];rfl,rfl⟩
    ·refine aT (aj (aj (ae (ah rfl rfl (ab (aZ ?_))))));refine dn (σ:=Nat) (fun i=>[(0,.string ⟨l.toArray⟩),(5,.int .i64 (nO c)),(6,.int .i64 (iu c)),(7,.int .i64 (vO l (i-1))),(8,.int .i64 (i:Int))]) (fun i w=>w=w0∧1≤i∧(i:Int)≤nO c∧∀k:Nat,1≤k→k<i→kf l k=true) (fun i=>(nO c).toNat-i) 1 (.cons rfl (.cons rfl (.cons rfl (.cons (congrArg (fun z=>some (Value.int .i64 z)) (by show uQ c=uQ (j6 l 0:Int);rw[hc])) (.cons rfl .nil))))) ?_ ?_
     ·exact⟨rfl,aO _,by have:=nQ (c:=c) (by omega);omega,fun k h1 h2=>by omega⟩
     ·rintro i w ⟨rfl,xj,zr,hok⟩;have hnc:=nQ (c:=c) (by omega)
      have hvr:0≤vO l (i-1)∧vO l (i-1)≤100000000:=by
       exact Tu (l:=l) (c:=c) (k:=i-1) hc (by omega) (fun j h1 h2=>hok j h1 (by omega)) (by omega)
      refine aj (aj (ae (ad rfl rfl (ad rfl rfl (cn rfl rfl rfl (ab ?_))))));refine bN rfl (fun c22=>?_) (fun c22=>?_)
      ·refine aT (aj (aZ (aj (ae (ad rfl rfl (ad rfl rfl ?_))))));have kg:i<l.length:=by omega
       refine Rg.Ho (c:=l.getD i 0) aJ rfl rfl rfl (by omega) (by rw[aA,ay,au kg];rfl) ?_;refine aU (v':= .int .u8 (j6 l i:Int)) rfl ?_;have JU:=oN l i;refine Rg.uE cz ax rfl rfl (by omega) (ah rfl rfl (ab (aj (aj (ae (ad rfl rfl (cn rfl rfl rfl (ad rfl rfl ?_))))))));refine aN (g:=59) rfl (fun XQ=>?_) (fun XQ=>?_)
       ·refine ar rfl rfl rfl rfl (ar rfl rfl rfl rfl (aX rfl rfl rfl (ab (lh rfl (aj (ae (ah rfl rfl (ah rfl rfl (ab (aQ ?_))))))))))
        have hx:nO (j6 l 0:Int)=0∨∃k:Nat,1≤k∧(k:Int)<nO (j6 l 0:Int)∧kf l k=false:=by
         rw[←hc];exact .inr ⟨i,xj,by omega,de.2 fun h=>by have:=ib.1 h;omega⟩
        have e:dec l=(65533,1):=Hq (by omega) hx;exact eS rfl rfl rfl ⟨by rw[e];rfl,rfl⟩
       ·refine al rfl rfl (ad rfl rfl (al rfl rfl (dT rfl rfl rfl (aE rfl rfl rfl (ab ?_)))));refine bN rfl (fun c25=>?_) (fun c25=>?_)
        ·refine aj (ae (ah rfl rfl (ah rfl rfl (ab (aQ ?_)))))
         have hx:nO (j6 l 0:Int)=0∨∃k:Nat,1≤k∧(k:Int)<nO (j6 l 0:Int)∧kf l k=false:=by
          rw[←hc];exact .inr ⟨i,xj,by omega,de.2 fun h=>by have:=ib.1 h;omega⟩
         have e:dec l=(65533,1):=Hq (by omega) hx;exact eS rfl rfl rfl ⟨by rw[e];rfl,rfl⟩
        ·refine aT (ae (ad rfl rfl (Rg.OS rfl rfl rfl (by omega) (ad rfl rfl (bD rfl rfl rfl (by omega) (fu rfl rfl rfl (by omega) (ah rfl rfl (ab (ae (ad rfl rfl (bD rfl rfl rfl (by omega) ?_)))))))))));refine ah rfl rfl (ab ?_);refine⟨rfl,i+1,(.cons rfl (.cons rfl (.cons rfl (.cons (congrArg (fun z=>some (Value.int .i64 z)) (by obtain⟨q,rfl⟩:∃q,i=q+1:=⟨i-1,by omega⟩;rfl)) (.cons rfl .nil))))),?_,?_⟩
         ·exact⟨rfl,by omega,by omega,fun k h1 h2=>by
           rcases cy k i with h|h
           ·exact hok k h1 h
           ·obtain rfl:k=i:=by omega
            exact ib.2 (by omega)⟩
         ·omega
      ·refine cI (aj (aj (ae (ad rfl rfl (ad rfl rfl (cn rfl rfl rfl (ad rfl rfl ?_)))))));refine aN (g:=71) rfl (fun XR=>?_) (fun XR=>?_)
       ·refine ar rfl rfl rfl rfl (ar rfl rfl rfl rfl (aX rfl rfl rfl (ad rfl rfl (ar rfl rfl rfl rfl (ar rfl rfl rfl rfl (ar rfl rfl rfl rfl (cr rfl rfl rfl (cr rfl rfl rfl (ar rfl rfl rfl rfl (aX rfl rfl rfl (ab ?_)))))))))));refine lh rfl (aj (ae (ah rfl rfl (ah rfl rfl (ab (aQ ?_))))));have e:=CW (l:=l) (by rw[←hc];omega) (by rw[←hc];exact fun k h1 h2=>hok k h1 (by omega)) (vO l (i-1)) (by rw[←hc];congr 1;omega);rw[←hc,if_pos (by omega)]at e;exact eS rfl rfl rfl ⟨by rw[e];rfl,rfl⟩
       ·refine al rfl rfl (ad rfl rfl (al rfl rfl (jv rfl rfl rfl (aE rfl rfl rfl (ad rfl rfl ?_)))));refine aN (g:=75) rfl (fun XS=>?_) (fun XS=>?_)
        ·refine ar rfl rfl rfl rfl (ar rfl rfl rfl rfl (ar rfl rfl rfl rfl (cr rfl rfl rfl (cr rfl rfl rfl (ar rfl rfl rfl rfl (aX rfl rfl rfl (ab (lh rfl (aj (ae (ah rfl rfl ?_)))))))))));refine ah rfl rfl (ab (aQ ?_));have e:=CW (l:=l) (by rw[←hc];omega) (by rw[←hc];exact fun k h1 h2=>hok k h1 (by omega)) (vO l (i-1)) (by rw[←hc];congr 1;omega);rw[←hc,if_pos (by omega)]at e;exact eS rfl rfl rfl ⟨by rw[e];rfl,rfl⟩
        ·refine al rfl rfl (ad rfl rfl (al rfl rfl (dT rfl rfl rfl (al rfl rfl (ad rfl rfl ?_)))));refine aN (g:=78) rfl (fun Tx=>?_) (fun Tx=>?_)
         ·refine al rfl rfl (ad rfl rfl (al rfl rfl (gL rfl rfl rfl (al rfl rfl (aX rfl rfl rfl (aE rfl rfl rfl (ab ?_)))))));refine bN rfl (fun c28=>?_) (fun c28=>?_)
          ·refine aj (ae (ah rfl rfl (ah rfl rfl (ab (aQ ?_)))));have e:=CW (l:=l) (by rw[←hc];omega) (by rw[←hc];exact fun k h1 h2=>hok k h1 (by omega)) (vO l (i-1)) (by rw[←hc];congr 1;omega);rw[←hc,if_pos (by omega)]at e;exact eS rfl rfl rfl ⟨by rw[e];rfl,rfl⟩
          ·refine aT (aj (ae (ad rfl rfl (ad rfl rfl (ah rfl rfl (ah rfl rfl (ab (aQ ?_))))))));have e:=CW (l:=l) (by rw[←hc];omega) (by rw[←hc];exact fun k h1 h2=>hok k h1 (by omega)) (vO l (i-1)) (by rw[←hc];congr 1;omega);rw[←hc,if_neg (by omega)]at e;exact eS rfl rfl rfl ⟨by rw[e];simp only[];rw[zo hvr.1,zo (by omega)],rfl⟩
         ·refine ar rfl rfl rfl rfl (ar rfl rfl rfl rfl (al rfl rfl (aE rfl rfl rfl (aE rfl rfl rfl (ab (iX rfl (aT (aj (ae (ad rfl rfl (ad rfl rfl ?_)))))))))));refine ah rfl rfl (ah rfl rfl (ab (aQ ?_)));have e:=CW (l:=l) (by rw[←hc];omega) (by rw[←hc];exact fun k h1 h2=>hok k h1 (by omega)) (vO l (i-1)) (by rw[←hc];congr 1;omega);rw[←hc,if_neg (by omega)]at e;exact eS rfl rfl rfl ⟨by rw[e];simp only[];rw[zo hvr.1,zo (by omega)],rfl⟩
theorem CZ {M:aC} {l:List UInt8} (w0:World) (hM:Lt M w0) (hl:l.length≤1000000):
  Spec Tryz.prog 251 #[.string ⟨l.toArray⟩] w0 (fun v w=>((RT.int .i64).sl).V M w (fh l) v∧Step M w0 M w aD):=by
 have kr:=hM;refine bg (args:=[_]) (fn:=Tryz.f251) Tryz.func251 rfl (n:=22) Tryz.ntmps251 ?_;have S:Step M w0 M w0 aD:=(aw _ _).cF (fun _ h=>h.elim) (fun _ h=>h.elim);refine aj (ae (ah rfl rfl (ab (aj (ae (ah rfl rfl (ab (aj (aZ ?_)))))))));refine dn (σ:=Nat×List Int×Value) (fun q=>[(0,.string ⟨(l.drop q.1).toArray⟩),(3,q.2.2)]) (fun q w=>∃M',Lt M' w∧Step M w0 M' w aD∧Own (RT.int .i64) 3 M' w w0.heap.size q.2.2 q.2.1∧fh l=q.2.1++fh (l.drop q.1)∧q.1≤l.length) (fun q=>l.length-q.1) (0,[],.slice none 0 0) (.cons rfl (.cons rfl .nil)) ?_ ?_
 ·exact⟨M,hM,S,dz _ _ _ _ _,by simp,by simp⟩
 ·rintro⟨p,xs,u⟩ w ⟨M1,hM,S,ho,x8,hp⟩;dsimp only at ho x8 hp ⊢;refine aj (aj (ae (ad rfl rfl (Rg.nh aJ rfl rfl (aU (v':= .int .i64 ((l.drop p).length:Int)) (by simp[ByteArray.size]) (jv rfl rfl rfl (ab ?_)))))));refine bN rfl (fun c2=>?_) (fun c2=>?_)
  ·refine aT (aZ (aj (ae (ad rfl rfl ?_))));have eN:l.drop p≠[]:=by intro h;rw[h]at c2;simp at c2
   have sV:p<l.length:=by have:=oy.2 eN;rw[dw]at this;omega
   have hwd:=lT eN;refine aW rfl rfl ady (KV (l:=l.drop p) _ eN (by rw[dw];omega)) (fun r3 w3 hc=>?_);obtain⟨rfl,rfl⟩:=hc;refine ad rfl rfl (bV rfl rfl rfl (bV rfl rfl rfl (ah rfl rfl (ah rfl rfl (ab (aj (ae (ad rfl rfl (ad rfl rfl ?_)))))))));refine eg (A:=RT.int .i64) (hn:=by decide) (M:=M1) an I3 (by decide) rfl rfl hM (fI (by have:=uN (l.drop p);omega)) (.inr ⟨rfl,rfl⟩) (fun XT Pm nR mf=>?_);replace ho:=ho.aM mf;replace hM:=mf.lt hM;have:=S.size;replace S:=S.aB mf;refine cX (M:=M1) (base:=w0.heap.size) an I3 rfl rfl rfl rfl ho nR (aq _ _) (by simp;have:=iW l;rw[x8]at this;simp at this;omega) (by simp;have:=iW l;rw[x8]at this;simp at this;omega) (S.size) (fun Ty adF an2 XU Tz=>?_);replace nR:=nR.le Tz.le;replace hM:=Tz.lt hM;have:=S.size;replace S:=S.cV Tz ho (aO _);replace ho:=XU;refine ah rfl rfl (ab (ae (ad rfl rfl (ad rfl rfl (Rg.Pf aJ rfl rfl rfl (by omega) (aU (v':= .string ⟨(l.drop (p+(dec (l.drop p)).2)).toArray⟩) (by rw[List.drop_drop];simp) (ah rfl rfl (ab ?_))))))));refine⟨rfl,(p+(dec (l.drop p)).2,xs++[((dec (l.drop p)).1:Int)],Ty),(.cons rfl (.cons rfl .nil)),?_,?_⟩
   ·refine⟨adF,hM,S,ho,?_,?_⟩
    ·rw[x8,sr eN,List.drop_drop];simp
    ·have:=hwd.2;rw[dw]at this;dsimp only;omega
   ·have:=hwd.1;have:=hwd.2;rw[dw]at this;dsimp only;omega
  ·refine cI (aj (ae (ad rfl rfl (ah rfl rfl (ab (aQ ?_))))));have e:fh l=xs:=by rw[x8,gV (by simp at c2;omega),uO];simp
   rw[e];have:=iW l;rw[e]at this;exact aV rfl rfl ⟨ho.close kr S (by omega),S.back⟩
theorem rB {M:aC} {w:World} {x:Int} (h:0≤x∧x<256):RT.u8.V M w x.toNat.toUInt8 (.int .u8 (IntKind.u8.wrap x)):=by
 have e1:IntKind.u8.wrap x=x:=by
  show(if(false&&decide (x%256≥128))=true then x%256-256 else x%256)=x;rw[if_neg (by simp)];omega
 have e2:((x.toNat.toUInt8).toNat:Int)=x:=by
  have:x.toNat.toUInt8.toNat=x.toNat%256:=UInt8.toNat_ofNat' ..;omega
 rw[e1];exact⟨[.int .u8 x],by show _=_;rw[e2],rfl⟩
theorem adG {r:Int} (h:0≤r∧r<128):Lib.encodeRune r=[r.toNat.toUInt8]:=by rw[Lib.encodeRune,Lib.encodeRuneZ_one h.1 (by omega)];rfl
theorem adH {r:Int} (h:128≤r∧r<2048):Lib.encodeRune r=[(192+r/64).toNat.toUInt8,(128+r%64).toNat.toUInt8]:=by rw[Lib.encodeRune,Lib.encodeRuneZ_two h.1 (by omega)];rfl
theorem IM (c:Int):tA c<55296∨57343<tA c:=by
 unfold tA
 split
 ·omega
 ·rename_i h
  have h2:Lib.validRune c=true:=by
   cases hv:Lib.validRune c with
   |true=>rfl
   |false=>exact absurd (.inr (.inr hv)) h
  simp only[Lib.validRune,decide_eq_true_eq]at h2;omega
theorem adI {r:Int} (h:2048≤r∧r<65536) (h2:r<55296∨57343<r):Lib.encodeRune r=[(224+r/4096).toNat.toUInt8,(128+r/64%64).toNat.toUInt8,(128+r%64).toNat.toUInt8]:=by rw[Lib.encodeRune,Lib.encodeRuneZ_three (by omega)];rfl
theorem adJ {r:Int} (h:65536≤r∧r≤1114111):Lib.encodeRune r=[(240+r/262144).toNat.toUInt8,(128+r/4096%64).toNat.toUInt8,(128+r/64%64).toNat.toUInt8,(128+r%64).toNat.toUInt8]:=by rw[Lib.encodeRune,Lib.encodeRuneZ_four h.1 h.2];rfl
theorem tB {c:Int} (h:c<0∨c>1114111∨(55296≤c∧c≤57343)):tA c=65533:=by
 rw[tA,if_pos];rcases h with h|h|h
 ·exact .inl h
 ·exact .inr (.inl h)
 ·refine .inr (.inr ?_);simp only[Lib.validRune,decide_eq_false_iff_not];omega
theorem qe {c:Int} (h: ¬(c<0∨c>1114111∨(55296≤c∧c≤57343))):tA c=c:=by
 rw[tA,if_neg];rintro(h1|h1|h1)
 ·omega
 ·omega
 ·simp only[Lib.validRune,decide_eq_false_iff_not]at h1;omega
theorem x9 {M:aC} {xs:List Int} {v0:Value} (w0:World) (hM:Lt M w0) (hv:((RT.int .i64).sl).V M w0 xs v0) (hl:xs.length≤1000000):
  Spec Tryz.prog 254 #[v0] w0 (fun v w=>v= .string ⟨(kC xs).toArray⟩∧Step M w0 M w aD):=by
 have kr:=hM;refine bg (args:=[_]) (fn:=Tryz.f254) Tryz.func254 rfl (n:=91) Tryz.ntmps254 ?_;have S:Step M w0 M w0 aD:=(aw _ _).cF (fun _ h=>h.elim) (fun _ h=>h.elim);refine aj (ae (ah rfl rfl (ab (aj (ae (ah rfl rfl (ab (aj (aj (ae (ah rfl rfl ?_)))))))))));refine ab (aZ ?_);refine dn (σ:=Nat×Value) (fun q=>[(0,v0),(3,q.2),(4,.int .i64 (q.1:Int))]) (fun q w=>∃M',Lt M' w∧Step M w0 M' w aD∧Own RT.u8 5 M' w w0.heap.size q.2 (kC (xs.take q.1))∧((RT.int .i64).sl).V M' w xs v0∧q.1≤xs.length) (fun q=>xs.length-q.1) (0,.slice none 0 0) (.cons rfl (.cons rfl (.cons rfl .nil))) ?_ ?_
 ·exact⟨M,hM,S,dz _ _ _ _ _,hv,bG _⟩
 ·rintro⟨k,u⟩ w ⟨M1,hM,S,ho,hv,hk⟩;dsimp only at ho hk ⊢;refine aj (aj (ae (ad rfl rfl (ad rfl rfl (bR an rfl hv rfl (cn rfl rfl rfl (ab ?_)))))));refine bN rfl (fun c3=>?_) (fun c3=>?_)
  ·refine aT (aj (aZ (aj (ae (ad rfl rfl (ad rfl rfl ?_))))));refine cE (M:=M1) an I3 rfl rfl rfl hv (aq _ _) (by omega) (fun u5 c IN C0=>?_);refine cb (M:=M1) ax rfl rfl C0 (aq _ _) (fun in5=>?_);have tk:xs.take (k+1)=xs.take k++[c]:=by rw[b9];simp only[ay]at IN;rw[IN];rfl
   have hsr:=Hp c;have hsc:=IM c;refine ah rfl rfl (ab ?_);refine T.Hi [(0,v0),(3,u),(4,.int .i64 (k:Int)),(5,.int .i64 (tA c))] ?_ ?_
   ·refine aj (ae (ad rfl rfl (cn rfl rfl rfl (ad rfl rfl ?_))));refine aN (g:=18) rfl (fun TA=>?_) (fun TA=>?_)
    ·refine ar rfl rfl rfl rfl (ar rfl rfl rfl rfl (aX rfl rfl rfl (ad rfl rfl (ar rfl rfl rfl rfl (ar rfl rfl rfl rfl (ar rfl rfl rfl rfl (cr rfl rfl rfl (cr rfl rfl rfl (ar rfl rfl rfl rfl (aX rfl rfl rfl (ab ?_)))))))))));refine lh rfl (ae (ah rfl rfl (ab ?_)));exact⟨rfl,rfl,rfl,.cons rfl (.cons rfl (.cons rfl (.cons (congrArg (fun z=>some (Value.int .i64 z)) (by first|exact(tB (by omega)).symm|exact(qe (by omega)).symm)) (.nil))))⟩
    ·refine al rfl rfl (ad rfl rfl (al rfl rfl (jv rfl rfl rfl (aE rfl rfl rfl (ad rfl rfl ?_)))));refine aN (g:=22) rfl (fun TB=>?_) (fun TB=>?_)
     ·refine ar rfl rfl rfl rfl (ar rfl rfl rfl rfl (ar rfl rfl rfl rfl (cr rfl rfl rfl (cr rfl rfl rfl (ar rfl rfl rfl rfl (aX rfl rfl rfl (ab (lh rfl (ae (ah rfl rfl (ab ?_)))))))))));exact⟨rfl,rfl,rfl,.cons rfl (.cons rfl (.cons rfl (.cons (congrArg (fun z=>some (Value.int .i64 z)) (by first|exact(tB (by omega)).symm|exact(qe (by omega)).symm)) (.nil))))⟩
     ·refine al rfl rfl (ad rfl rfl (al rfl rfl (dT rfl rfl rfl (al rfl rfl (ad rfl rfl ?_)))));refine aN (g:=25) rfl (fun adK=>?_) (fun adK=>?_)
      ·refine al rfl rfl (ad rfl rfl (al rfl rfl (gL rfl rfl rfl (al rfl rfl (aX rfl rfl rfl (aE rfl rfl rfl (ab ?_)))))));refine bN rfl (fun c6=>?_) (fun c6=>?_)
       ·refine ae (ah rfl rfl (ab ?_));exact⟨rfl,rfl,rfl,.cons rfl (.cons rfl (.cons rfl (.cons (congrArg (fun z=>some (Value.int .i64 z)) (by first|exact(tB (by omega)).symm|exact(qe (by omega)).symm)) (.nil))))⟩
       ·refine aT ?_;exact⟨rfl,rfl,rfl,.cons rfl (.cons rfl (.cons rfl (.cons (congrArg (fun z=>some (Value.int .i64 z)) (by first|exact(tB (by omega)).symm|exact(qe (by omega)).symm)) (.nil))))⟩
      ·refine ar rfl rfl rfl rfl (ar rfl rfl rfl rfl (al rfl rfl (aE rfl rfl rfl (aE rfl rfl rfl (ab (iX rfl (aT ?_)))))));exact⟨rfl,rfl,rfl,.cons rfl (.cons rfl (.cons rfl (.cons (congrArg (fun z=>some (Value.int .i64 z)) (by first|exact(tB (by omega)).symm|exact(qe (by omega)).symm)) (.nil))))⟩
   ·refine aj (ae (ad rfl rfl (cn rfl rfl rfl (ab ?_))));refine bN rfl (fun c8=>?_) (fun c8=>?_)
    ·refine ae (ad rfl rfl (ad rfl rfl (rO ax cz rfl rfl ?_)));refine eg (A:=RT.u8) (hn:=by decide) (M:=M1) bM I5 (by decide) rfl rfl hM (rB (by omega)) (.inr ⟨rfl,rfl⟩) (fun an4 XV KX qf=>?_);replace hv:=hv.le qf.le;replace ho:=ho.aM qf;replace hM:=qf.lt hM;have:=S.size;replace S:=S.aB qf;refine cX (M:=M1) (base:=w0.heap.size) bM I5 rfl rfl rfl rfl ho KX (aq _ _) (by have:=gy (xs.take k);rw[bC]at this;simp;omega) (by have:=gy (xs.take k);rw[bC]at this;simp;omega) (S.size) (fun XW adL adM XX zH=>?_);replace hv:=hv.le zH.le;replace KX:=KX.le zH.le;replace hM:=zH.lt hM;have:=S.size;replace S:=S.cV zH ho (aO _);replace ho:=XX;refine ah rfl rfl (ab (ae (ad rfl rfl (bD rfl rfl rfl (by omega) (ah rfl rfl (ab ?_))))));refine⟨rfl,(k+1,XW),(.cons rfl (.cons rfl (.cons rfl .nil))),?_,?_⟩
     ·exact⟨adL,hM,S,by rw[tk,me,adG (by omega)];exact ho,hv,by dsimp only;omega⟩
     ·dsimp only;omega
    ·refine aj (ae (ad rfl rfl (cn rfl rfl rfl (ab ?_))));refine bN rfl (fun c10=>?_) (fun c10=>?_)
     ·refine ae (ad rfl rfl (ad rfl rfl (Rg.wR rfl rfl rfl (by omega) (bD rfl rfl rfl (by omega) (rO ax cz rfl rfl (ad rfl rfl (Rg.zB rfl rfl rfl (by omega) (bD rfl rfl rfl (by omega) (rO ax cz rfl rfl ?_)))))))));refine Rg.Ww (A:=RT.u8) (hn:=by decide) (M:=M1) (xs:=[(192+tA c/64).toNat.toUInt8,(128+tA c%64).toNat.toUInt8]) bM I5 rfl (by decide) rfl ⟨_,_,_,rfl,rfl,rfl,rB (by omega),_,_,_,rfl,rfl,rfl,rB (by omega),rfl⟩ rfl hM (.inr ⟨rfl,rfl⟩) (by decide) (fun ajM ajN FC Hr=>?_);replace hv:=hv.le Hr.le;replace ho:=ho.aM Hr;replace hM:=Hr.lt hM;have:=S.size;replace S:=S.aB Hr;refine cX (M:=M1) (base:=w0.heap.size) bM I5 rfl rfl rfl rfl ho FC (aq _ _) (by have:=gy (xs.take k);rw[bC]at this;simp;omega) (by have:=gy (xs.take k);rw[bC]at this;simp;omega) (S.size) (fun TC TD adO Pn Bn=>?_);replace hv:=hv.le Bn.le;replace FC:=FC.le Bn.le;replace hM:=Bn.lt hM;have:=S.size;replace S:=S.cV Bn ho (aO _);replace ho:=Pn;refine ah rfl rfl (ab (ae (ad rfl rfl (bD rfl rfl rfl (by omega) (ah rfl rfl (ab ?_))))));refine⟨rfl,(k+1,TC),(.cons rfl (.cons rfl (.cons rfl .nil))),?_,?_⟩
      ·exact⟨TD,hM,S,by rw[tk,me,adH (by omega)];exact ho,hv,by dsimp only;omega⟩
      ·dsimp only;omega
     ·refine aj (ae (ad rfl rfl (cn rfl rfl rfl (ab ?_))));refine bN rfl (fun Pp=>?_) (fun Pp=>?_)
      ·refine ae (ad rfl rfl (ad rfl rfl (Rg.wR rfl rfl rfl (by omega) (bD rfl rfl rfl (by omega) (rO ax cz rfl rfl (ad rfl rfl (Rg.wR rfl rfl rfl (by omega) (Rg.zB rfl rfl rfl (by omega) (bD rfl rfl rfl (by omega) (rO ax cz rfl rfl (ad rfl rfl ?_)))))))))));refine Rg.zB rfl rfl rfl (by omega) (bD rfl rfl rfl (by omega) (rO ax cz rfl rfl ?_));refine Rg.Ww (A:=RT.u8) (hn:=by decide) (M:=M1) (xs:=[(224+tA c/4096).toNat.toUInt8,(128+tA c/64%64).toNat.toUInt8,(128+tA c%64).toNat.toUInt8]) bM I5 rfl (by decide) rfl ⟨_,_,_,rfl,rfl,rfl,rB (by omega),_,_,_,rfl,rfl,rfl,rB (by omega),_,_,_,rfl,rfl,rfl,rB (by omega),rfl⟩ rfl hM (.inr ⟨rfl,rfl⟩) (by decide) (fun adP adQ Bo Bp=>?_);replace hv:=hv.le Bp.le;replace ho:=ho.aM Bp;replace hM:=Bp.lt hM;have:=S.size;replace S:=S.aB Bp;refine cX (M:=M1) (base:=w0.heap.size) bM I5 rfl rfl rfl rfl ho Bo (aq _ _) (by have:=gy (xs.take k);rw[bC]at this;simp;omega) (by have:=gy (xs.take k);rw[bC]at this;simp;omega) (S.size) (fun TE TF adR Pq Bq=>?_);replace hv:=hv.le Bq.le;replace Bo:=Bo.le Bq.le;replace hM:=Bq.lt hM;have:=S.size;replace S:=S.cV Bq ho (aO _);replace ho:=Pq;refine ah rfl rfl (ab (ae (ad rfl rfl (bD rfl rfl rfl (by omega) (ah rfl rfl (ab ?_))))));refine⟨rfl,(k+1,TE),(.cons rfl (.cons rfl (.cons rfl .nil))),?_,?_⟩
       ·exact⟨TF,hM,S,by rw[tk,me,adI (by omega) hsc];exact ho,hv,by dsimp only;omega⟩
       ·dsimp only;omega
      ·refine ae (ad rfl rfl (ad rfl rfl (Rg.wR rfl rfl rfl (by omega) (bD rfl rfl rfl (by omega) (rO ax cz rfl rfl (ad rfl rfl (Rg.wR rfl rfl rfl (by omega) (Rg.zB rfl rfl rfl (by omega) (bD rfl rfl rfl (by omega) (rO ax cz rfl rfl (ad rfl rfl ?_)))))))))));refine Rg.wR rfl rfl rfl (by omega) (Rg.zB rfl rfl rfl (by omega) (bD rfl rfl rfl (by omega) (rO ax cz rfl rfl (ad rfl rfl (Rg.zB rfl rfl rfl (by omega) (bD rfl rfl rfl (by omega) (rO ax cz rfl rfl ?_)))))));refine Rg.Ww (A:=RT.u8) (hn:=by decide) (M:=M1) (xs:=[(240+tA c/262144).toNat.toUInt8,(128+tA c/4096%64).toNat.toUInt8,(128+tA c/64%64).toNat.toUInt8,(128+tA c%64).toNat.toUInt8]) bM I5 rfl (by decide) rfl ⟨_,_,_,rfl,rfl,rfl,rB (by omega),_,_,_,rfl,rfl,rfl,rB (by omega),_,_,_,rfl,rfl,rfl,rB (by omega),_,_,_,rfl,rfl,rfl,rB (by omega),rfl⟩ rfl hM (.inr ⟨rfl,rfl⟩) (by decide) (fun adS adT Br Bs=>?_);replace hv:=hv.le Bs.le;replace ho:=ho.aM Bs;replace hM:=Bs.lt hM;have:=S.size;replace S:=S.aB Bs;refine cX (M:=M1) (base:=w0.heap.size) bM I5 rfl rfl rfl rfl ho Br (aq _ _) (by have:=gy (xs.take k);rw[bC]at this;simp;omega) (by have:=gy (xs.take k);rw[bC]at this;simp;omega) (S.size) (fun TG TH adU Pr Bt=>?_);replace hv:=hv.le Bt.le;replace Br:=Br.le Bt.le;replace hM:=Bt.lt hM;have:=S.size;replace S:=S.cV Bt ho (aO _);replace ho:=Pr;refine ah rfl rfl (ab (ae (ad rfl rfl (bD rfl rfl rfl (by omega) (ah rfl rfl (ab ?_))))));refine⟨rfl,(k+1,TG),(.cons rfl (.cons rfl (.cons rfl .nil))),?_,?_⟩
       ·exact⟨TH,hM,S,by rw[tk,me,adJ (by omega)];exact ho,hv,by dsimp only;omega⟩
       ·dsimp only;omega
  ·refine cI (aj (ae (ad rfl rfl (Rg.b2s (hn:=by decide) (M:=M) bM cz aJ rfl rfl (ho.close kr S (by have:=gy (xs.take k);rw[bC]at this;omega)) (aq _ _) (ah rfl rfl (ab (aQ ?_)))))));have e:xs.take k=xs:=bc (by omega);rw[e];exact aV rfl rfl ⟨rfl,S.back⟩
end Go.K
namespace Go.K
open Go.Proofs
set_option maxRecDepth 10000
theorem FD {M:aC} {l:List UInt8} (w0:World) (hM:Lt M w0) (hl:l.length≤1000000):
  Spec Tryz.prog 229 #[.string ⟨l.toArray⟩] w0 (fun v w=>((RT.int .i64).sl).V M w (fh l) v∧Step M w0 M w aD):=by
 have kr:=hM;refine bg (args:=[_]) (fn:=Tryz.f229) Tryz.func229 rfl (n:=17) Tryz.ntmps229 ?_;have S:Step M w0 M w0 aD:=(aw _ _).cF (fun _ h=>h.elim) (fun _ h=>h.elim);refine aj (ae (ah rfl rfl (ab (aj (ae (ah rfl rfl (ab (aj (aj (ae (ad rfl rfl ?_)))))))))));refine Rg.KQ M aJ rfl rfl (fun KY an5 an6 an7 adV TL=>?_);obtain⟨Rh,KZ⟩:∃M',M'=ins M KY:=⟨_,rfl⟩;rw[←KZ]at TL;have TM:Rh KY:=by rw[KZ];exact .inl rfl
 replace hM:=TL.lt hM;have:=S.size;replace S:=S.aB TL;refine ab (aZ ?_);refine dn (σ:=Nat×List Int×Value) (fun q=>[(3,q.2.2),(7,.pointer (some ⟨KY,0,none⟩))]) (fun q w=>∃M',Lt M' w∧Step M w0 M' w aD∧w.heap[KY]? =some (.stringIter ⟨l.toArray⟩ q.1)∧M' KY∧Own (RT.int .i64) 3 M' w w0.heap.size q.2.2 q.2.1∧fh l=q.2.1++fh (l.drop q.1)∧q.1≤l.length) (fun q=>l.length-q.1) (0,[],.slice none 0 0) (.cons rfl (.cons rfl .nil)) ?_ ?_
 ·exact⟨Rh,hM,S,adV,TM,dz _ _ _ _ _,by simp,by simp⟩
 ·rintro⟨p,xs,u⟩ w ⟨M1,hM,S,g,Ar,ho,x8,hp⟩;dsimp only at g ho x8 hp ⊢;refine aj (ae ?_);refine Rg.Pe (M:=M1) rfl g Ar rfl (fun adW an8 adX K0=>?_) (fun adW=>?_)
  ·have:=ak g;replace Ar:=(K0.mem _ this).2 Ar;replace ho:=ho.step K0 (fun b hb hk=>ho.ej g (hk▸hb));replace hM:=K0.lt hM;have:=S.size;replace S:=S.trans K0 (fun k hk h=>by have h:_=_:=h;subst h;first|(exfalso;omega)|(show _≤_;omega)|exact⟨by first|omega|assumption,(S.mem _ hk).1 ((K0.mem _ (ak g)).1 Ar)⟩|exact .inl rfl|exact .inr rfl|exact .inr (.inl rfl)|exact .inr (.inr rfl)|exact .inr (.inr (.inl rfl))|exact rfl);have g_:=adX;clear g;have g:=g_;clear g_;refine bV rfl rfl rfl (ab (aj (lh rfl (aT (aZ (aj (ae (bV rfl rfl rfl (ah rfl rfl (ab (ae ?_)))))))))));refine ad rfl rfl (ad rfl rfl (Rg.uE Tryz.underlying21 ax rfl rfl (by have:=uN (l.drop p);omega) ?_));refine eg (A:=RT.int .i64) (hn:=by decide) (M:=M1) an I3 (by decide) rfl rfl hM (fI (by have:=uN (l.drop p);omega)) (.inr ⟨rfl,rfl⟩) (fun adY an9 Hs K1=>?_);have:=ak g;replace Ar:=(K1.mem _ this).2 Ar;replace g:=K1.aK g;replace ho:=ho.aM K1;replace hM:=K1.lt hM;have:=S.size;replace S:=S.aB K1;refine cX (M:=M1) (base:=w0.heap.size) an I3 rfl rfl rfl rfl ho Hs (aq _ _) (by simp;have:=iW l;rw[x8]at this;simp at this;omega) (by simp;have:=iW l;rw[x8]at this;simp at this;omega) (S.size) (fun adZ ad0 aoa XY K2=>?_);have:=ak g;replace Ar:=(K2.mem _ this).2 Ar;replace g:=K2.keep g (fun h=>by first|exact ho.ej g h|exact ho.eM g (by decide) h|(have:=(ho.base _ h).1;omega));replace Hs:=Hs.le K2.le;replace hM:=K2.lt hM;have:=S.size;replace S:=S.cV K2 ho (aO _);replace ho:=XY;refine ah rfl rfl (ab ?_);have eN:l.drop p≠[]:=by intro h;have:=congrArg List.length h;simp at this;omega
   refine⟨rfl,(p+(dec (l.drop p)).2,xs++[((dec (l.drop p)).1:Int)],adZ),(.cons rfl (.cons rfl .nil)),?_,?_⟩
   ·refine⟨ad0,hM,S,g,Ar,ho,?_,?_⟩
    ·rw[x8,sr eN,List.drop_drop];simp
    ·have:=(lT eN).2;rw[dw]at this;dsimp only;omega
   ·have:=(lT eN).1;have:=(lT eN).2;rw[dw]at this;dsimp only;omega
  ·refine bV rfl rfl rfl (ab (aj (iX rfl (cI (aj (ae (ad rfl rfl (ah rfl rfl (ab (aQ ?_))))))))));have e:fh l=xs:=by rw[x8,gV (by omega),uO];simp
   rw[e];have:=iW l;rw[e]at this;exact aV rfl rfl ⟨ho.close kr S (by omega),S.back⟩
def fZ (p:List Int×List (List UInt8)) (c:Int):List Int×List (List UInt8):=
 if fH c=true∨oP c=true then(p.1++[fK c],p.2)else if 0<p.1.length then([],p.2++[kC p.1])else([],p.2)
structure K3 (M:aC) (w:World) (B bo bs:Nat) (p:List Int×List (List UInt8)):Prop where
 a:∃u,w.heap[bo]? =some (.cells #[u] 37 (0,0))∧Own (RT.int .i64) 3 M w B u p.1
 b:∃u,w.heap[bs]? =some (.cells #[u] 57 (0,0))∧Own RT.str 9 M w B u p.2
 m:M bo∧M bs∧B≤bo∧B≤bs
theorem qg {c:Int} (h:fH c=true∨oP c=true):0≤c∧c≤1114111:=by
 simp only[fH,oP,decide_eq_true_eq]at h;omega
theorem ya {M:aC} {B bo bs:Nat} {p:List Int×List (List UInt8)} (w0:World) (hM:Lt M w0) (c:Int) (ht:K3 M w0 B bo bs p) (hl:p.1.length≤1000000∧p.2.length≤1000000):
  Spec Tryz.prog 224 #[.int .i64 c,.pointer (some ⟨bo,0,none⟩),.pointer (some ⟨bs,0,none⟩)] w0 (fun v w=>∃M',Lt M' w∧K3 M' w B bo bs (fZ p c)∧Step M w0 M' w (lG M B)):=by
 obtain⟨⟨uo,go,ho⟩,⟨us,gs,hs⟩,ik,iS,WD,WE⟩:=ht;obtain⟨own,out⟩:=p;dsimp only at ho hs hl ⊢;have eN:bo≠bs:=fun e=>by subst e;rw[go]at gs;cases gs
 refine bg (args:=[_,_,_]) (fn:=Tryz.f224) Tryz.func224 rfl (n:=23) Tryz.ntmps224 ?_;have S:Step M w0 M w0 (lG M B):=(aw _ _).cF (fun _ h=>h.elim) (fun _ h=>h.2);refine aj (aj (ae (ad rfl rfl ?_)));refine aW rfl rfl adk (CT _ _) (fun r wc hc=>?_);obtain⟨rfl,rfl⟩:=hc;refine aU (v':= .bool (decide (fH c=true))) (by cases fH c<;>rfl) (ad rfl rfl ?_);refine aN (g:=6) rfl (fun ad1=>?_) (fun ad1=>?_)
 ·refine ar rfl rfl rfl rfl (ar rfl rfl rfl rfl (aX rfl rfl rfl (ab (lh rfl (aj ?_)))));apply T.pq 2 [0] 2 aD mixed rfl rfl rfl rfl;intro EY K4;have lU:=K4 M;have:=ak go;replace ik:=(lU.mem _ this).2 ik;replace go:=lU.aK go;have:=ak gs;replace iS:=(lU.mem _ this).2 iS;replace gs:=lU.aK gs;replace ho:=ho.aM lU;replace hs:=hs.aM lU;replace hM:=lU.lt hM;have:=S.size;replace S:=S.aB lU;refine aP an rfl rfl rfl (by first|assumption|exact cZ lU (by assumption)) rfl ?_;refine ab ⟨rfl,rfl,rfl,?_⟩;refine ad rfl rfl ?_;refine ab ⟨rfl,rfl,rfl,?_⟩;refine eQ ?_;refine⟨iH ⟨eC rfl (by assumption) (by first|assumption|exact fun h=>h|(intro h;have h:_=_:=h;omega)),trivial⟩,?_⟩;have kp:=jC aD EY;have FE:fH c=true∨oP c=true:=by first|exact .inl (by assumption)|exact .inr (by assumption)
  refine aW rfl rfl XI (Ao c _ (qg FE)) (fun r wc hc=>?_);obtain⟨rfl,rfl⟩:=hc;refine(fun(kp:eJ _ _ _)=>ab ⟨rfl,rfl,fun _=>kp,?_⟩) (by first|exact kp|exact kp.qV (by assumption)|exact kp.goN (by assumption)|exact kp.go (by assumption) (fun _ _ h=>by first|exact h|exact h.elim));refine eg (A:=RT.int .i64) (hn:=by decide) (M:=M) an I3 (by decide) rfl rfl hM (fI (by have:=qg FE;unfold fK;split<;>omega)) (.inr ⟨rfl,rfl⟩) (fun Ps IP kD s1_3=>?_);have:=ak go;replace ik:=(s1_3.mem _ this).2 ik;replace go:=s1_3.aK go;have:=ak gs;replace iS:=(s1_3.mem _ this).2 iS;replace gs:=s1_3.aK gs;replace ho:=ho.aM s1_3;replace hs:=hs.aM s1_3;replace hM:=s1_3.lt hM;have:=S.size;replace S:=S.aB s1_3;refine(fun(kp:eJ _ _ _)=>ab ⟨rfl,rfl,fun _=>kp,?_⟩) (by first|exact kp|exact kp.qV (by assumption)|exact kp.goN (by assumption)|exact kp.go (by assumption) (fun _ _ h=>by first|exact h|exact h.elim));refine cX (M:=M) (base:=B) an I3 rfl rfl rfl rfl ho kD (aq _ _) (by simp;omega) (by simp;omega) (by have:=ak go;omega) (fun TN K5 TO K6 mg=>?_);have:=ak go;replace ik:=(mg.mem _ this).2 ik;replace go:=mg.keep go (fun h=>by first|exact ho.ej go h|exact ho.eM go (by decide) h|(have:=(ho.base _ h).1;omega));have:=ak gs;replace iS:=(mg.mem _ this).2 iS;replace gs:=mg.keep gs (fun h=>by first|exact ho.ej gs h|exact ho.eM gs (by decide) h|(have:=(ho.base _ h).1;omega));replace kD:=kD.le mg.le;replace hs:=hs.step mg (fun b h1 h2=>hs.dx ho (by decide) h1 h2);replace hM:=mg.lt hM;have:=S.size;replace S:=S.trans mg (fun b hb h=>⟨(ho.base b h).1,(S.mem b hb).1 (ho.mut_ b h)⟩);replace ho:=K6;refine ab ⟨rfl,rfl,fun h=>absurd rfl h,?_⟩;refine cu (M:=K5) j7 rfl rfl go rfl ((by obtain⟨_,_,he,_⟩:=ho.isSlice;rw[he];rfl)) ik (fun TQ uR oQ=>?_);change TQ.heap[_]? =some (Obj.cells #[TN] _ _)at uR
  have:=ak go;replace ik:=(oQ.mem _ this).2 ik;have:=ak gs;replace iS:=(oQ.mem _ this).2 iS;replace gs:=oQ.keep gs (fun hk=>by have hk:_=_:=hk;omega);replace kD:=kD.le oQ.le;replace ho:=ho.step oQ (fun b hb hk=>by have hk:b=_:=hk;subst hk;first|exact absurd hb (ho.eM go (by decide))|exact absurd hb (ho.eM gs (by decide)));replace hs:=hs.step oQ (fun b hb hk=>by have hk:b=_:=hk;subst hk;first|exact absurd hb (hs.eM go (by decide))|exact absurd hb (hs.eM gs (by decide)));replace hM:=oQ.lt hM;have:=S.size;replace S:=S.trans oQ (fun k hk h=>by have h:_=_:=h;subst h;first|(exfalso;omega)|(show _≤_;omega)|exact⟨by first|omega|assumption,(S.mem _ hk).1 ((oQ.mem _ (ak go)).1 ik)⟩|exact .inl rfl|exact .inr rfl|exact .inr (.inl rfl)|exact .inr (.inr rfl)|exact .inr (.inr (.inl rfl))|exact rfl);have K7:=uR;clear go;have go:=K7;clear K7;refine ab ⟨rfl,rfl,fun h=>absurd rfl h,?_⟩;refine mH (aQ ?_);rw[show fZ (own,out) c=(own++[fK c],out)from if_pos FE];exact Cv rfl ⟨K5,hM,⟨⟨_,go,ho⟩,⟨_,gs,hs⟩,ik,iS,WD,WE⟩,S⟩
 ·refine al rfl rfl (ad rfl rfl (al rfl rfl ?_));refine aW rfl rfl adl (Fw _ _) (fun r wc hc=>?_);obtain⟨rfl,rfl⟩:=hc;refine aU (v':= .bool (decide (oP c=true))) (by cases oP c<;>rfl) (aE rfl rfl rfl (ab ?_));refine bN rfl (fun c0=>?_) (fun c0=>?_)
  ·refine aj ?_;apply T.pq 2 [0] 2 aD mixed rfl rfl rfl rfl;intro EY K4;have lU:=K4 M;have:=ak go;replace ik:=(lU.mem _ this).2 ik;replace go:=lU.aK go;have:=ak gs;replace iS:=(lU.mem _ this).2 iS;replace gs:=lU.aK gs;replace ho:=ho.aM lU;replace hs:=hs.aM lU;replace hM:=lU.lt hM;have:=S.size;replace S:=S.aB lU;refine aP an rfl rfl rfl (by first|assumption|exact cZ lU (by assumption)) rfl ?_;refine ab ⟨rfl,rfl,rfl,?_⟩;refine ad rfl rfl ?_;refine ab ⟨rfl,rfl,rfl,?_⟩;refine eQ ?_;refine⟨iH ⟨eC rfl (by assumption) (by first|assumption|exact fun h=>h|(intro h;have h:_=_:=h;omega)),trivial⟩,?_⟩;have kp:=jC aD EY;have FE:fH c=true∨oP c=true:=by first|exact .inl (by assumption)|exact .inr (by assumption)
   refine aW rfl rfl XI (Ao c _ (qg FE)) (fun r wc hc=>?_);obtain⟨rfl,rfl⟩:=hc;refine(fun(kp:eJ _ _ _)=>ab ⟨rfl,rfl,fun _=>kp,?_⟩) (by first|exact kp|exact kp.qV (by assumption)|exact kp.goN (by assumption)|exact kp.go (by assumption) (fun _ _ h=>by first|exact h|exact h.elim));refine eg (A:=RT.int .i64) (hn:=by decide) (M:=M) an I3 (by decide) rfl rfl hM (fI (by have:=qg FE;unfold fK;split<;>omega)) (.inr ⟨rfl,rfl⟩) (fun Ps IP kD s1_3=>?_);have:=ak go;replace ik:=(s1_3.mem _ this).2 ik;replace go:=s1_3.aK go;have:=ak gs;replace iS:=(s1_3.mem _ this).2 iS;replace gs:=s1_3.aK gs;replace ho:=ho.aM s1_3;replace hs:=hs.aM s1_3;replace hM:=s1_3.lt hM;have:=S.size;replace S:=S.aB s1_3;refine(fun(kp:eJ _ _ _)=>ab ⟨rfl,rfl,fun _=>kp,?_⟩) (by first|exact kp|exact kp.qV (by assumption)|exact kp.goN (by assumption)|exact kp.go (by assumption) (fun _ _ h=>by first|exact h|exact h.elim));refine cX (M:=M) (base:=B) an I3 rfl rfl rfl rfl ho kD (aq _ _) (by simp;omega) (by simp;omega) (by have:=ak go;omega) (fun TN K5 TO K6 mg=>?_);have:=ak go;replace ik:=(mg.mem _ this).2 ik;replace go:=mg.keep go (fun h=>by first|exact ho.ej go h|exact ho.eM go (by decide) h|(have:=(ho.base _ h).1;omega));have:=ak gs;replace iS:=(mg.mem _ this).2 iS;replace gs:=mg.keep gs (fun h=>by first|exact ho.ej gs h|exact ho.eM gs (by decide) h|(have:=(ho.base _ h).1;omega));replace kD:=kD.le mg.le;replace hs:=hs.step mg (fun b h1 h2=>hs.dx ho (by decide) h1 h2);replace hM:=mg.lt hM;have:=S.size;replace S:=S.trans mg (fun b hb h=>⟨(ho.base b h).1,(S.mem b hb).1 (ho.mut_ b h)⟩);replace ho:=K6;refine ab ⟨rfl,rfl,fun h=>absurd rfl h,?_⟩;refine cu (M:=K5) j7 rfl rfl go rfl ((by obtain⟨_,_,he,_⟩:=ho.isSlice;rw[he];rfl)) ik (fun TQ uR oQ=>?_);change TQ.heap[_]? =some (Obj.cells #[TN] _ _)at uR
   have:=ak go;replace ik:=(oQ.mem _ this).2 ik;have:=ak gs;replace iS:=(oQ.mem _ this).2 iS;replace gs:=oQ.keep gs (fun hk=>by have hk:_=_:=hk;omega);replace kD:=kD.le oQ.le;replace ho:=ho.step oQ (fun b hb hk=>by have hk:b=_:=hk;subst hk;first|exact absurd hb (ho.eM go (by decide))|exact absurd hb (ho.eM gs (by decide)));replace hs:=hs.step oQ (fun b hb hk=>by have hk:b=_:=hk;subst hk;first|exact absurd hb (hs.eM go (by decide))|exact absurd hb (hs.eM gs (by decide)));replace hM:=oQ.lt hM;have:=S.size;replace S:=S.trans oQ (fun k hk h=>by have h:_=_:=h;subst h;first|(exfalso;omega)|(show _≤_;omega)|exact⟨by first|omega|assumption,(S.mem _ hk).1 ((oQ.mem _ (ak go)).1 ik)⟩|exact .inl rfl|exact .inr rfl|exact .inr (.inl rfl)|exact .inr (.inr rfl)|exact .inr (.inr (.inl rfl))|exact rfl);have K7:=uR;clear go;have go:=K7;clear K7;refine ab ⟨rfl,rfl,fun h=>absurd rfl h,?_⟩;refine mH (aQ ?_);rw[show fZ (own,out) c=(own++[fK c],out)from if_pos FE];exact Cv rfl ⟨K5,hM,⟨⟨_,go,ho⟩,⟨_,gs,hs⟩,ik,iS,WD,WE⟩,S⟩
  ·refine aT (aj (aj (ae (aP an rfl rfl rfl (by assumption) rfl (fO an rfl ho rfl (jv rfl rfl rfl (ab ?_)))))));refine bN rfl (fun c2=>?_) (fun c2=>?_)
   ·apply T.pq 2 [0] 2 aD mixed rfl rfl rfl rfl;intro WG Ri;have pv:=Ri M;have:=ak go;replace ik:=(pv.mem _ this).2 ik;replace go:=pv.aK go;have:=ak gs;replace iS:=(pv.mem _ this).2 iS;replace gs:=pv.aK gs;replace ho:=ho.aM pv;replace hs:=hs.aM pv;replace hM:=pv.lt hM;have:=S.size;replace S:=S.aB pv;refine aP aS rfl rfl rfl (by first|assumption|exact cZ pv (by assumption)) rfl ?_;refine ab ⟨rfl,rfl,rfl,?_⟩;refine aP an rfl rfl rfl (by first|assumption|exact cZ pv (by assumption)) rfl ?_;refine ab ⟨rfl,rfl,rfl,?_⟩;refine eQ ?_;refine⟨iH ⟨eC rfl (by assumption) (by first|assumption|exact fun h=>h|(intro h;have h:_=_:=h;omega)),trivial⟩,?_⟩;have kp:=jC aD WG;refine aW rfl rfl adm (IL (M:=rm M uo) _ (fun b hb=>hM b hb.1) (ho.view (by omega)) (by omega)) (fun r3 w3 hc=>?_);obtain⟨rfl,s3⟩:=hc;replace s3:=s3.any M;have:=ak go;replace ik:=(s3.mem _ this).2 ik;replace go:=s3.aK go;have:=ak gs;replace iS:=(s3.mem _ this).2 iS;replace gs:=s3.aK gs;replace ho:=ho.aM s3;replace hs:=hs.aM s3;replace hM:=s3.lt hM;have:=S.size;replace S:=S.aB s3;refine(fun(kp:eJ _ _ _)=>ab ⟨rfl,rfl,fun _=>kp,?_⟩) (by first|exact kp|exact kp.qV (by assumption)|exact kp.goN (by assumption)|exact kp.go (by assumption) (fun _ _ h=>by first|exact h|exact h.elim));refine eg (A:=RT.str) (hn:=by decide) (M:=M) aS I9 (by decide) rfl rfl hM (kA.2 ⟨rfl,by have:=gy own;omega⟩) (.inr ⟨rfl,rfl⟩) (fun aob aoc yb C1=>?_);have:=ak go;replace ik:=(C1.mem _ this).2 ik;replace go:=C1.aK go;have:=ak gs;replace iS:=(C1.mem _ this).2 iS;replace gs:=C1.aK gs;replace ho:=ho.aM C1;replace hs:=hs.aM C1;replace hM:=C1.lt hM;have:=S.size;replace S:=S.aB C1;refine(fun(kp:eJ _ _ _)=>ab ⟨rfl,rfl,fun _=>kp,?_⟩) (by first|exact kp|exact kp.qV (by assumption)|exact kp.goN (by assumption)|exact kp.go (by assumption) (fun _ _ h=>by first|exact h|exact h.elim))
    refine cX (M:=M) (base:=B) aS I9 rfl rfl rfl rfl hs yb (aq _ _) (by simp;omega) (by simp;omega) (by have:=ak go;omega) (fun ad2 XZ aod X0 C2=>?_);have:=ak go;replace ik:=(C2.mem _ this).2 ik;replace go:=C2.keep go (fun h=>by first|exact hs.ej go h|exact hs.eM go (by decide) h|(have:=(hs.base _ h).1;omega));have:=ak gs;replace iS:=(C2.mem _ this).2 iS;replace gs:=C2.keep gs (fun h=>by first|exact hs.ej gs h|exact hs.eM gs (by decide) h|(have:=(hs.base _ h).1;omega));replace yb:=yb.le C2.le;replace ho:=ho.step C2 (fun b h1 h2=>ho.dx hs (by decide) h1 h2);replace hM:=C2.lt hM;have:=S.size;replace S:=S.trans C2 (fun b hb h=>⟨(hs.base b h).1,(S.mem b hb).1 (hs.mut_ b h)⟩);replace hs:=X0;refine ab ⟨rfl,rfl,fun h=>absurd rfl h,?_⟩;refine cu (M:=XZ) zt rfl rfl gs rfl ((by obtain⟨_,_,he,_⟩:=hs.isSlice;rw[he];rfl)) iS (fun ad3 X1 Bu=>?_);change ad3.heap[_]? =some (Obj.cells #[ad2] _ _)at X1;have:=ak go;replace ik:=(Bu.mem _ this).2 ik;replace go:=Bu.keep go (fun hk=>by have hk:_=_:=hk;omega);have:=ak gs;replace iS:=(Bu.mem _ this).2 iS;replace yb:=yb.le Bu.le;replace ho:=ho.step Bu (fun b hb hk=>by have hk:b=_:=hk;subst hk;first|exact absurd hb (ho.eM go (by decide))|exact absurd hb (ho.eM gs (by decide)));replace hs:=hs.step Bu (fun b hb hk=>by have hk:b=_:=hk;subst hk;first|exact absurd hb (hs.eM go (by decide))|exact absurd hb (hs.eM gs (by decide)));replace hM:=Bu.lt hM;have:=S.size;replace S:=S.trans Bu (fun k hk h=>by have h:_=_:=h;subst h;first|(exfalso;omega)|(show _≤_;omega)|exact⟨by first|omega|assumption,(S.mem _ hk).1 ((Bu.mem _ (ak gs)).1 iS)⟩|exact .inl rfl|exact .inr rfl|exact .inr (.inl rfl)|exact .inr (.inr rfl)|exact .inr (.inr (.inl rfl))|exact rfl);have gs_:=X1;clear gs;have gs:=gs_;clear gs_;refine ab ⟨rfl,rfl,fun h=>absurd rfl h,?_⟩;refine mH (ae ?_)
    refine cu (M:=XZ) j7 rfl rfl go rfl (rfl) ik (fun K8 C3 lx=>?_);change K8.heap[_]? =some (Obj.cells #[.slice none 0 0] _ _)at C3;have:=ak go;replace ik:=(lx.mem _ this).2 ik;have:=ak gs;replace iS:=(lx.mem _ this).2 iS;replace gs:=lx.keep gs (fun hk=>by have hk:_=_:=hk;omega);replace yb:=yb.le lx.le;replace ho:=ho.step lx (fun b hb hk=>by have hk:b=_:=hk;subst hk;first|exact absurd hb (ho.eM go (by decide))|exact absurd hb (ho.eM gs (by decide)));replace hs:=hs.step lx (fun b hb hk=>by have hk:b=_:=hk;subst hk;first|exact absurd hb (hs.eM go (by decide))|exact absurd hb (hs.eM gs (by decide)));replace hM:=lx.lt hM;have:=S.size;replace S:=S.trans lx (fun k hk h=>by have h:_=_:=h;subst h;first|(exfalso;omega)|(show _≤_;omega)|exact⟨by first|omega|assumption,(S.mem _ hk).1 ((lx.mem _ (ak go)).1 ik)⟩|exact .inl rfl|exact .inr rfl|exact .inr (.inl rfl)|exact .inr (.inr rfl)|exact .inr (.inr (.inl rfl))|exact rfl);have K7:=C3;clear go;have go:=K7;clear K7;refine ab ?_
    first|refine qQ ?_|simp+decide only[qR,jz,if_true,if_false]|skip
    have WH: ¬(fH c=true∨oP c=true):=by rintro(h|h)<;>exact absurd h (by assumption)
    first
    |rw[show fZ (own,out) c=([],out++[kC own])from(if_neg WH).trans (if_pos (by show 0<own.length;omega))]
     exact fW rfl ⟨_,hM,⟨⟨_,go,dz _ _ _ _ _⟩,⟨_,gs,hs⟩,ik,iS,WD,WE⟩,S⟩
    |rw[show fZ (own,out) c=([],out)from(if_neg WH).trans (if_neg (by show¬0<own.length;omega))]
     exact fW rfl ⟨_,hM,⟨⟨_,go,dz _ _ _ _ _⟩,⟨_,gs,hs⟩,ik,iS,WD,WE⟩,S⟩
   ·refine aT (ae ?_);refine cu (M:=M) j7 rfl rfl go rfl (rfl) ik (fun K8 C3 lx=>?_);change K8.heap[_]? =some (Obj.cells #[.slice none 0 0] _ _)at C3;have:=ak go;replace ik:=(lx.mem _ this).2 ik;have:=ak gs;replace iS:=(lx.mem _ this).2 iS;replace gs:=lx.keep gs (fun hk=>by have hk:_=_:=hk;omega);replace ho:=ho.step lx (fun b hb hk=>by have hk:b=_:=hk;subst hk;first|exact absurd hb (ho.eM go (by decide))|exact absurd hb (ho.eM gs (by decide)));replace hs:=hs.step lx (fun b hb hk=>by have hk:b=_:=hk;subst hk;first|exact absurd hb (hs.eM go (by decide))|exact absurd hb (hs.eM gs (by decide)));replace hM:=lx.lt hM;have:=S.size;replace S:=S.trans lx (fun k hk h=>by have h:_=_:=h;subst h;first|(exfalso;omega)|(show _≤_;omega)|exact⟨by first|omega|assumption,(S.mem _ hk).1 ((lx.mem _ (ak go)).1 ik)⟩|exact .inl rfl|exact .inr rfl|exact .inr (.inl rfl)|exact .inr (.inr rfl)|exact .inr (.inr (.inl rfl))|exact rfl);have K7:=C3;clear go;have go:=K7;clear K7;refine ab ?_
    first|refine qQ ?_|simp+decide only[qR,jz,if_true,if_false]|skip
    have WH: ¬(fH c=true∨oP c=true):=by rintro(h|h)<;>exact absurd h (by assumption)
    first
    |rw[show fZ (own,out) c=([],out++[kC own])from(if_neg WH).trans (if_pos (by show 0<own.length;omega))]
     exact fW rfl ⟨_,hM,⟨⟨_,go,dz _ _ _ _ _⟩,⟨_,gs,hs⟩,ik,iS,WD,WE⟩,S⟩
    |rw[show fZ (own,out) c=([],out)from(if_neg WH).trans (if_neg (by show¬0<own.length;omega))]
     exact fW rfl ⟨_,hM,⟨⟨_,go,dz _ _ _ _ _⟩,⟨_,gs,hs⟩,ik,iS,WD,WE⟩,S⟩
theorem nS (l:List Int):∀p,(l.foldl fZ p).1.length≤p.1.length+l.length∧(l.foldl fZ p).2.length≤p.2.length+l.length:=by
 induction l with
 |nil=>intro p;simp
 |cons c l ih=>
  intro p;have:=ih (fZ p c)
  have h1:(fZ p c).1.length≤p.1.length+1∧(fZ p c).2.length≤p.2.length+1:=by
   unfold fZ
   split
   ·simp
   ·split<;>simp
  simp only[List.foldl_cons,cM];omega
def words (l:List UInt8):List (List UInt8):=((fh l++[32]).foldl fZ ([],[])).2
theorem qJ (l:List UInt8):(words l).length≤l.length+1:=by
 have h:=(nS (fh l++[32]) ([],[])).2;have h2:=iW l;rw[bj]at h;have h3:([]:List (List UInt8)).length=0:=rfl;have h4: [(32:Int)].length=1:=rfl;unfold words;simp only[h3,h4]at h;omega
theorem yc {M:aC} {l:List UInt8} (w0:World) (hM:Lt M w0) (hl:l.length≤900000):
  Spec Tryz.prog 183 #[.string ⟨l.toArray⟩] w0 (fun v w=>(RT.str.sl).V M w (words l) v∧Step M w0 M w aD):=by
 have kr:=hM;refine bg (args:=[_]) (fn:=Tryz.f183) Tryz.func183 rfl (n:=23) Tryz.ntmps183 ?_;have S:Step M w0 M w0 aD:=(aw _ _).cF (fun _ h=>h.elim) (fun _ h=>h.elim);refine aj (ae (ah rfl rfl (ab (aj (ae ?_)))));refine ek M zt rfl (fun mi C4 TR TS jO nt=>?_);obtain⟨lf,mj⟩:∃M',M'=ins M mi:=⟨_,rfl⟩;rw[←mj]at nt;have iP:lf mi:=by rw[mj];exact .inl rfl
 change C4.heap[mi]? =some (.cells #[.slice none 0 0] _ _)at jO;replace hM:=nt.lt hM;have:=S.size;replace S:=S.aB nt;refine ab (aj (ae ?_));refine ek lf j7 rfl (fun gM TT ad4 ad5 C5 yd=>?_);obtain⟨K9,ye⟩:∃M',M'=ins lf gM:=⟨_,rfl⟩;rw[←ye]at yd;have yf:K9 gM:=by rw[ye];exact .inl rfl
 change TT.heap[gM]? =some (.cells #[.slice none 0 0] _ _)at C5;have:=ak jO;replace iP:=(yd.mem _ this).2 iP;replace jO:=yd.aK jO;replace hM:=yd.lt hM;have:=S.size;replace S:=S.aB yd;refine ab (aj (ae (j5 (xs:=[]) (ys:=[.tmp 4,.tmp 3]) rfl rfl rfl (ah rfl rfl (ab (aj (aj (ae (ad rfl rfl ?_)))))))));refine aW rfl rfl adn (FD _ hM (by omega)) (fun v4 w4 hc=>?_);obtain⟨x8,s4⟩:=hc;have:=ak jO;replace iP:=(s4.mem _ this).2 iP;replace jO:=s4.aK jO;have:=ak C5;replace yf:=(s4.mem _ this).2 yf;replace C5:=s4.aK C5;replace hM:=s4.lt hM;have:=S.size;replace S:=S.aB s4;refine bR an rfl x8 rfl (ad rfl rfl (ab (aZ ?_)));refine dn (σ:=Nat) (fun k=>[(3,.pointer (some ⟨mi,0,none⟩)),(5,.func (.func 224) #[] #[.pointer (some ⟨gM,0,none⟩),.pointer (some ⟨mi,0,none⟩)]),(10,v4),(11,.int .i64 ((fh l).length:Int)),(12,.int .i64 (k:Int))]) (fun k w=>∃M',Lt M' w∧Step M w0 M' w aD∧K3 M' w w0.heap.size gM mi (((fh l).take k).foldl fZ ([],[]))∧((RT.int .i64).sl).V M' w (fh l) v4∧k≤(fh l).length) (fun k=>(fh l).length-k) 0 (.cons rfl (.cons rfl (.cons rfl (.cons rfl (.cons rfl .nil))))) ?_ ?_
 ·exact⟨_,hM,S,⟨⟨_,C5,dz _ _ _ _ _⟩,⟨_,jO,dz _ _ _ _ _⟩,yf,iP,by omega,by omega⟩,x8,bG _⟩
 ·rintro k w ⟨M1,hM,S,ht,x8,hk⟩;refine aj (ae (cn rfl rfl rfl (ab (aj ?_))));refine bN rfl (fun c5=>?_) (fun c5=>?_)
  ·refine aT (aj (aZ (aj (ae ?_))));refine cE (M:=M1) an I3 rfl rfl rfl x8 (aq _ _) (by omega) (fun u6 c JV FF=>?_);refine cb (M:=M1) ax rfl rfl FF (aq _ _) (fun in6=>?_);refine ah rfl rfl (ab (ae (ad rfl rfl (ad rfl rfl ?_))));have nk:=iW l;have Oz:=nS ((fh l).take k) ([],[]);rw[bC]at Oz;refine zy (first:=[]) (captured:=[.pointer (some ⟨gM,0,none⟩),.pointer (some ⟨mi,0,none⟩)]) rfl rfl rfl XH (ya (B:=w0.heap.size) _ hM c ht (by simp at Oz;omega)) (fun r7 w7 hc=>?_);obtain⟨M2,EZ,IQ,s7⟩:=hc;have tk:(fh l).take (k+1)=(fh l).take k++[c]:=by rw[b9];simp only[ay]at JV;rw[JV];rfl
   refine ab (ae (bD rfl rfl rfl (by omega) (ad rfl rfl (ab ?_))));refine⟨rfl,k+1,(.cons rfl (.cons rfl (.cons rfl (.cons rfl (.cons rfl .nil))))),?_,?_⟩
   ·exact⟨M2,EZ,S.l0 s7 (aO _),by rw[tk,rQ];exact IQ,x8.le s7.le,by omega⟩
   ·omega
  ·refine cI (aj (ae (ad rfl rfl ?_)));have nk:=iW l;have Oz:=nS ((fh l).take k) ([],[]);rw[bC]at Oz;refine zy (first:=[]) (captured:=[.pointer (some ⟨gM,0,none⟩),.pointer (some ⟨mi,0,none⟩)]) rfl rfl rfl XH (ya (B:=w0.heap.size) _ hM 32 ht (by simp at Oz;omega)) (fun r9 w9 hc=>?_);obtain⟨M2,EZ,IQ,s9⟩:=hc;have e9:fZ (((fh l).take k).foldl fZ ([],[])) 32=(fh l++[32]).foldl fZ ([],[]):=by rw[rQ,bc (by omega)];rfl
   rw[e9]at IQ;obtain⟨_,⟨us,gs,hs⟩,_⟩:=IQ;replace S:=S.l0 s9 (aO _);refine ab (aj (ae (aP aS rfl rfl rfl gs rfl (ah rfl rfl (ab (aQ ?_))))));exact aV rfl rfl ⟨xg kr S hs (by have:=qJ l;omega),S.back⟩
end Go.K
namespace Go.K
open Go.Proofs
set_option maxRecDepth 10000
theorem La {p:List Int×List (List UInt8)} {c:Int} (h:xn c=true):fZ p c=(p.1++[fK c],p.2):=if_pos (by simpa[xn]using h)
theorem qK {p:List Int×List (List UInt8)} {c:Int} (h:xn c=false):fZ p c=if 0<p.1.length then([],p.2++[kC p.1])else([],p.2):=if_neg (by simpa[xn]using h)
def JW (sg:List Int) (i:Nat) (ws:List (List UInt8)):Prop:=(i≤sg.length∧(sg.take i).foldl fZ ([],[])=([],ws))∨(i=sg.length+1∧((sg++[32]).foldl fZ ([],[])).2=ws)
theorem Lb {c:Int} (h:xn c=true):0≤c∧c≤1114111:=qg (by simpa[xn]using h)
theorem X2:xn 32=false:=by decide
theorem uT {sg:List Int} {i:Nat} {c:Int} (h:sg[i]? =some c) (p:List Int×List (List UInt8)):(sg.take (i+1)).foldl fZ p=fZ ((sg.take i).foldl fZ p) c:=by
 rw[b9,h,cK,rQ];rfl
theorem JW.skip {sg:List Int} {i:Nat} {ws:List (List UInt8)} {c:Int} (h:JW sg i ws) (hc:sg[i]? =some c) (hi:xn c=false):JW sg (i+1) ws:=by
 have dQ:=(ao.1 hc).1;rcases h with⟨_,h⟩|⟨h,_⟩
 ·exact .inl ⟨dQ,by rw[uT hc,h,qK hi];rfl⟩
 ·omega
theorem JW.word {sg:List Int} {j:Nat} {own:List Int} {ws:List (List UInt8)} (h:(sg.take j).foldl fZ ([],[])=(own,ws)) (ho:0<own.length) (hj:j≤sg.length) (hn:∀c,sg[j]? =some c→xn c=false):JW sg (j+1) (ws++[kC own]):=by
 rcases lj hj with e|dQ
 ·refine .inr ⟨by omega,?_⟩;rw[e,List.take_length]at h;rw[rQ,h];show(fZ (own,ws) 32).2=_;rw[qK X2,if_pos ho]
 ·have hc:sg[j]? =some sg[j]:=au dQ;exact .inl ⟨dQ,by rw[uT hc,h,qK (hn _ hc),if_pos ho]⟩
theorem JW.done {sg:List Int} {i:Nat} {ws:List (List UInt8)} (h:JW sg i ws) (hi:sg.length≤i):((sg++[32]).foldl fZ ([],[])).2=ws:=by
 rcases h with⟨h1,h⟩|⟨_,h⟩
 ·rw[bc (by omega)]at h;rw[rQ,h];show(fZ ([],ws) 32).2=_;rw[qK X2];rfl
 ·exact h
theorem JW.len {sg:List Int} {i:Nat} {ws:List (List UInt8)} (h:JW sg i ws):ws.length≤sg.length+1:=by
 rcases h with⟨_,h⟩|⟨_,h⟩
 ·have:=(nS (sg.take i) ([],[])).2;rw[h,bC]at this;simp only[jU]at this;have e:(([]:List Int),([]:List (List UInt8))).2.length=0:=rfl;omega
 ·have:=(nS (sg++[32]) ([],[])).2;rw[h,bj]at this;have e:(([]:List Int),([]:List (List UInt8))).2.length=0:=rfl;have e2: [(32:Int)].length=1:=rfl;omega
theorem ic {sg:List Int} {j:Nat} {own:List Int} {ws:List (List UInt8)} (h:(sg.take j).foldl fZ ([],[])=(own,ws)):own.length≤sg.length∧ws.length≤sg.length:=by
 have:=nS (sg.take j) ([],[]);rw[h,bC]at this;simp only[jU]at this;have e:(([]:List Int),([]:List (List UInt8))).1.length=0:=rfl;have e2:(([]:List Int),([]:List (List UInt8))).2.length=0:=rfl;omega
theorem C6 {M:aC} {l:List UInt8} (w0:World) (hM:Lt M w0) (hl:l.length≤900000):
  Spec Tryz.prog 201 #[.string ⟨l.toArray⟩] w0 (fun v w=>(RT.str.sl).V M w (words l) v∧Step M w0 M w aD):=by
 have kr:=hM;have nk:=iW l;refine bg (args:=[_]) (fn:=Tryz.f201) Tryz.func201 rfl (n:=50) Tryz.ntmps201 ?_;have S:Step M w0 M w0 aD:=(aw _ _).cF (fun _ h=>h.elim) (fun _ h=>h.elim);refine aj (ae (ah rfl rfl (ab (aj (ae (ad rfl rfl ?_))))));refine aW rfl rfl ads (CZ _ hM (by omega)) (fun v1 w1 hc=>?_);obtain⟨hv,s1⟩:=hc;replace hM:=s1.lt hM;have:=S.size;replace S:=S.aB s1;refine ah rfl rfl (ab (aj (ae (ah rfl rfl (ab (aj (aj (ae (ah rfl rfl (ab (aZ ?_)))))))))));refine dn (σ:=Nat×Value) (fun q=>[(3,v1),(4,q.2),(5,.int .i64 (q.1:Int))]) (fun q w=>∃M' ws,Lt M' w∧Step M w0 M' w aD∧Own RT.str 9 M' w w0.heap.size q.2 ws∧((RT.int .i64).sl).V M' w (fh l) v1∧JW (fh l) q.1 ws) (fun q=>(fh l).length+1-q.1) (0,.slice none 0 0) (.cons rfl (.cons rfl (.cons rfl .nil))) ?_ ?_
 ·exact⟨M,[],hM,S,dz _ _ _ _ _,hv,.inl ⟨bG _,rfl⟩⟩
 ·rintro⟨i,u4⟩ w ⟨M1,ws,hM,S,pS,hv,X3⟩;dsimp only at pS X3 ⊢;refine aj (aj (ae (ad rfl rfl (ad rfl rfl (bR an rfl hv rfl (cn rfl rfl rfl (ab ?_)))))));refine bN rfl (fun c4=>?_) (fun c4=>?_)
  ·refine aT (aj (aZ (aj (ae (ad rfl rfl (ad rfl rfl ?_))))));refine cE (M:=M1) an I3 rfl rfl rfl hv (aq _ _) (by omega) (fun TU c X4 huc=>?_);refine cb (M:=M1) ax rfl rfl huc (aq _ _) (fun inc=>?_);rw[ay]at X4;refine aW rfl rfl XJ (CY c _) (fun r wc hc=>?_);obtain⟨rfl,rfl⟩:=hc;refine aU (v':= .bool (decide (xn c=true))) (by cases xn c<;>rfl) (ah rfl rfl (ab (aj (aj (ae (ad rfl rfl (mJ rfl rfl (aU (v':= .bool (decide (xn c=false))) (by cases xn c<;>rfl) (ab ?_)))))))));refine bN rfl (fun c7=>?_) (fun c7=>?_)
   ·refine cI (ae (ad rfl rfl (bD rfl rfl rfl (by omega) (ah rfl rfl (ab ?_)))));refine⟨rfl,(i+1,u4),(.cons rfl (.cons rfl (.cons rfl .nil))),?_,?_⟩
    ·exact⟨M1,ws,hM,S,pS,hv,X3.skip X4 (by assumption)⟩
    ·dsimp only;omega
   ·refine aT (aj (ae (ah rfl rfl (ab (aj (aZ ?_))))));refine dn (σ:=Nat×List Int×Value) (fun q=>[(3,v1),(4,u4),(5,.int .i64 (q.1:Int)),(7,q.2.2)]) (fun q w=>∃M',Lt M' w∧Step M w0 M' w aD∧Own RT.str 9 M' w w0.heap.size u4 ws∧Own (RT.int .i64) 3 M' w w0.heap.size q.2.2 q.2.1∧((RT.int .i64).sl).V M' w (fh l) v1∧((fh l).take q.1).foldl fZ ([],[])=(q.2.1,ws)∧i≤q.1∧q.1≤(fh l).length∧(i<q.1→0<q.2.1.length)) (fun q=>(fh l).length-q.1) (i,[],.slice none 0 0) (.cons rfl (.cons rfl (.cons rfl (.cons rfl .nil)))) ?_ ?_
    ·have ad6:((fh l).take i).foldl fZ ([],[])=([],ws):=by
      rcases X3 with⟨_,h⟩|⟨h,_⟩
      ·exact h
      ·omega
     exact⟨M1,hM,S,pS,dz _ _ _ _ _,hv,ad6,aO _,by dsimp only;omega,fun h=>absurd h (ju _)⟩
    ·rintro⟨j,own,u7⟩ w ⟨M2,hM,S,pS,mU,hv,hf,X5,xI,uH⟩;dsimp only at mU hf X5 xI uH ⊢;refine aj (aj (ae (ad rfl rfl (ad rfl rfl (bR an rfl hv rfl (cn rfl rfl rfl (ad rfl rfl ?_)))))));refine aN (g:=27) rfl (fun ad7=>?_) (fun ad7=>?_)
     ·refine al rfl rfl (ad rfl rfl (al rfl rfl (ad rfl rfl (al rfl rfl ?_))));refine cE (M:=M2) an I3 rfl rfl rfl hv (aq _ _) (by omega) (fun aof d oR hud=>?_);refine al rfl rfl ?_;refine cb (M:=M2) ax rfl rfl hud (aq _ _) (fun ind=>?_);rw[ay]at oR;refine al rfl rfl ?_;refine aW rfl rfl XJ (CY d _) (fun r wc hc=>?_);obtain⟨rfl,rfl⟩:=hc;refine aU (v':= .bool (decide (xn d=true))) (by cases xn d<;>rfl) (aX rfl rfl rfl (ab ?_));refine bN rfl (fun c9=>?_) (fun c9=>?_)
      ·refine aT (aZ (aj (ae (ad rfl rfl (ad rfl rfl (ad rfl rfl ?_))))));refine cE (M:=M2) an I3 rfl rfl rfl hv (aq _ _) (by omega) (fun X6 e J9 hue=>?_);refine cb (M:=M2) ax rfl rfl hue (aq _ _) (fun nB=>?_);rw[ay]at J9;have TV:xn e=true:=by rw[oR]at J9;cases J9;assumption
       refine aW rfl rfl adt (FA e _ (Lb TV)) (fun r wc hc=>?_);obtain⟨rfl,rfl⟩:=hc;refine eg (A:=RT.int .i64) (hn:=by decide) (M:=M2) an I3 (by decide) rfl rfl hM (fI (by have:=Lb TV;unfold fK;split<;>omega)) (.inr ⟨rfl,rfl⟩) (fun ajP ajQ FG C7=>?_);replace hv:=hv.le C7.le;replace pS:=pS.aM C7;replace mU:=mU.aM C7;replace hM:=C7.lt hM;have:=S.size;replace S:=S.aB C7;refine cX (M:=M2) (base:=w0.heap.size) an I3 rfl rfl rfl rfl mU FG (aq _ _) (by have:=ic hf;simp;omega) (by have:=ic hf;simp;omega) (S.size) (fun Rj X7 X8 TW pw=>?_);replace hv:=hv.le pw.le;replace FG:=FG.le pw.le;replace pS:=pS.step pw (fun b h1 h2=>pS.dx mU (by decide) h1 h2);replace hM:=pw.lt hM;have:=S.size;replace S:=S.cV pw mU (aO _);replace mU:=TW;refine ah rfl rfl (ab (ae (ad rfl rfl (bD rfl rfl rfl (by omega) (ah rfl rfl (ab ?_))))));refine⟨rfl,(j+1,own++[fK e],Rj),(.cons rfl (.cons rfl (.cons rfl (.cons rfl .nil)))),?_,?_⟩
       ·exact⟨X7,hM,S,pS,mU,hv,by rw[uT J9,hf,La TV],by dsimp only;omega,by dsimp only;omega,fun _=>by simp⟩
       ·dsimp only;omega
      ·refine cI (ae (ad rfl rfl (ad rfl rfl ?_)));refine aW rfl rfl XK (x9 (M:=rm M2 u7) _ (fun b hb=>hM b hb.1) (mU.view (by have:=ic hf;omega)) (by have:=ic hf;omega)) (fun r12 WI TX=>?_);obtain⟨rfl,zI⟩:=TX;replace zI:=zI.any M2;replace hv:=hv.le zI.le;replace pS:=pS.aM zI;replace mU:=mU.aM zI;replace hM:=zI.lt hM;have:=S.size;replace S:=S.aB zI;refine eg (A:=RT.str) (hn:=by decide) (M:=M2) aS I9 (by decide) rfl rfl hM (kA.2 ⟨rfl,by have:=gy own;have:=ic hf;omega⟩) (.inr ⟨rfl,rfl⟩) (fun X9 Ya sw qh=>?_);replace hv:=hv.le qh.le;replace pS:=pS.aM qh;replace mU:=mU.aM qh;replace hM:=qh.lt hM;have:=S.size;replace S:=S.aB qh;refine cX (M:=M2) (base:=w0.heap.size) aS I9 rfl rfl rfl rfl pS sw (aq _ _) (by have:=ic hf;simp;omega) (by have:=ic hf;simp;omega) (S.size) (fun yg qi Lc sx eU=>?_);replace hv:=hv.le eU.le;replace sw:=sw.le eU.le;replace mU:=mU.step eU (fun b h1 h2=>mU.dx pS (by decide) h1 h2);replace hM:=eU.lt hM;have:=S.size;replace S:=S.cV eU pS (aO _);replace pS:=sx;refine ah rfl rfl (ab (ae (ad rfl rfl (bD rfl rfl rfl (by omega) (ah rfl rfl (ab ?_))))))
       have uH:0<own.length:=by
        rcases lj X5 with e|h
        ·exfalso;subst e
         first|omega|(rw[X4]at oR;cases oR;exact c9 (by cases hq:xn c with|true=>rfl|false=>exact absurd hq (by assumption)))
        ·exact uH h
       have TY:∀c,(fh l)[j]? =some c→xn c=false:=fun c hc=>by
        first|(rw[dN (by omega)]at hc;cases hc)|(rw[oR]at hc;cases hc;exact de.2 c9)
       refine⟨rfl,(j+1,yg),(.cons rfl (.cons rfl (.cons rfl .nil))),?_,?_⟩
       ·exact⟨qi,_,hM,S,pS,hv,JW.word hf uH xI TY⟩
       ·dsimp only;omega
     ·refine ar rfl rfl rfl rfl (ar rfl rfl rfl rfl (ar rfl rfl rfl rfl (ar rfl rfl rfl rfl (ar rfl rfl rfl rfl (aE rfl rfl rfl (ab (iX rfl (cI (ae (ad rfl rfl (ad rfl rfl ?_)))))))))));refine aW rfl rfl XK (x9 (M:=rm M2 u7) _ (fun b hb=>hM b hb.1) (mU.view (by have:=ic hf;omega)) (by have:=ic hf;omega)) (fun r12 WI TX=>?_);obtain⟨rfl,zI⟩:=TX;replace zI:=zI.any M2;replace hv:=hv.le zI.le;replace pS:=pS.aM zI;replace mU:=mU.aM zI;replace hM:=zI.lt hM;have:=S.size;replace S:=S.aB zI;refine eg (A:=RT.str) (hn:=by decide) (M:=M2) aS I9 (by decide) rfl rfl hM (kA.2 ⟨rfl,by have:=gy own;have:=ic hf;omega⟩) (.inr ⟨rfl,rfl⟩) (fun X9 Ya sw qh=>?_);replace hv:=hv.le qh.le;replace pS:=pS.aM qh;replace mU:=mU.aM qh;replace hM:=qh.lt hM;have:=S.size;replace S:=S.aB qh;refine cX (M:=M2) (base:=w0.heap.size) aS I9 rfl rfl rfl rfl pS sw (aq _ _) (by have:=ic hf;simp;omega) (by have:=ic hf;simp;omega) (S.size) (fun yg qi Lc sx eU=>?_);replace hv:=hv.le eU.le;replace sw:=sw.le eU.le;replace mU:=mU.step eU (fun b h1 h2=>mU.dx pS (by decide) h1 h2);replace hM:=eU.lt hM;have:=S.size;replace S:=S.cV eU pS (aO _);replace pS:=sx;refine ah rfl rfl (ab (ae (ad rfl rfl (bD rfl rfl rfl (by omega) (ah rfl rfl (ab ?_))))))
      have uH:0<own.length:=by
       rcases lj X5 with e|h
       ·exfalso;subst e
        first|omega|(rw[X4]at oR;cases oR;exact c9 (by cases hq:xn c with|true=>rfl|false=>exact absurd hq (by assumption)))
       ·exact uH h
      have TY:∀c,(fh l)[j]? =some c→xn c=false:=fun c hc=>by
       first|(rw[dN (by omega)]at hc;cases hc)|(rw[oR]at hc;cases hc;exact de.2 c9)
      refine⟨rfl,(j+1,yg),(.cons rfl (.cons rfl (.cons rfl .nil))),?_,?_⟩
      ·exact⟨qi,_,hM,S,pS,hv,JW.word hf uH xI TY⟩
      ·dsimp only;omega
  ·refine cI (aj (ae (ad rfl rfl (ah rfl rfl (ab (aQ ?_))))));have e:=X3.done (by omega);have e2:words l=ws:=e;rw[e2];exact aV rfl rfl ⟨pS.close kr S (by have:=X3.len;omega),S.back⟩
end Go.K
namespace Go.K
open Go.Proofs
set_option maxRecDepth 10000
def mn:Nat→List (List UInt8)→Int
 |_,[]=>0
 |i,w::ws=>if 30<w.length then 3 else if 500≤i then 7 else mn (i+1) ws
theorem Ht {i k:Nat} {ws:List (List UInt8)} {x:List UInt8} (h:ws[k]? =some x):mn i (ws.drop k)=if 30<x.length then 3 else if 500≤i then 7 else mn (i+1) (ws.drop (k+1)):=by
 have dQ:=(ao.1 h).1;rw[dC dQ,(ao.1 h).2];rfl
theorem iC {M:aC} {w:World} {x:List UInt8} {v:Value} (h:RT.str.V M w x v):v= .string ⟨x.toArray⟩:=(kA.1 h).1
theorem IS {M:aC} {l:List UInt8} (w0:World) (hM:Lt M w0) (hl:l.length≤900000):
  Spec Tryz.prog 128 #[.string ⟨l.toArray⟩] w0 (fun v w=>(∃u,v= .tuple #[u,.int .i64 (mn 0 (words l))]∧(mn 0 (words l)=0→∃a cap,u= .slice a (words l).length cap))∧Step M w0 M w aD):=by
 have kr:=hM;refine bg (args:=[_]) (fn:=Tryz.f128) Tryz.func128 rfl (n:=30) Tryz.ntmps128 ?_;have S:Step M w0 M w0 aD:=(aw _ _).cF (fun _ h=>h.elim) (fun _ h=>h.elim);refine aj (ae (ah rfl rfl (ah rfl rfl (ab (aj (ae (ah rfl rfl (ab (aj (aj (ae ?_)))))))))));refine ad rfl rfl ?_;refine aW rfl rfl XG (yc _ hM hl) (fun v1 w1 hc=>?_);obtain⟨hv,s1⟩:=hc;replace hM:=s1.lt hM;have:=S.size;replace S:=S.aB s1;refine bR aS rfl hv rfl (ad rfl rfl (ab (aZ ?_)));refine dn (σ:=Nat×Value) (fun q=>[(8,v1),(4,q.2),(9,.int .i64 ((words l).length:Int)),(10,.int .i64 (q.1:Int))]) (fun q w=>(∃M' xs,Lt M' w∧Step M w0 M' w aD∧Own (RT.pair RT.str (RT.int .i64)) 266 M' w w0.heap.size q.2 xs∧xs.length=q.1∧(RT.str.sl).V M' w (words l) v1)∧mn 0 (words l)=mn q.1 ((words l).drop q.1)∧q.1≤(words l).length∧q.1≤500) (fun q=>(words l).length-q.1) (0,.slice none 0 0) (.cons rfl (.cons rfl (.cons rfl (.cons rfl .nil)))) ?_ ?_
 ·exact⟨⟨M,[],hM,S,dz _ _ _ _ _,rfl,hv⟩,rfl,bG _,bG _⟩
 ·rintro⟨i,u⟩ w ⟨⟨M1,xs,hM,S,ho,qH,hv⟩,Iy,hi,hi5⟩;dsimp only at ho qH Iy hi hi5 ⊢;refine aj (ae (cn rfl rfl rfl (ab (aj ?_))));refine bN rfl (fun c3=>?_) (fun c3=>?_)
  ·refine aT (aj (aZ (aj (ae (ad rfl rfl ?_)))));refine cE (M:=M1) aS I9 rfl rfl rfl hv (aq _ _) (by omega) (fun Yb x WK E0=>?_);refine bT (M:=M1) aJ rfl rfl rfl rfl rfl E0 (aq _ _) (fun vx qX=>?_);rw[ay]at WK;obtain rfl:=iC qX;have ht:=Ht (i:=i) WK;refine ah rfl rfl (ah rfl rfl (ab (aj (aZ (aj (ae (ad rfl rfl (Rg.nh aJ rfl rfl (aU (v':= .int .i64 (x.length:Int)) (by simp[ByteArray.size]) (jv rfl rfl rfl (ah rfl rfl ?_)))))))))));refine ab ?_;refine bN rfl (fun c5=>?_) (fun c5=>?_)
   ·refine aj (ae (ah rfl rfl (ah rfl rfl (ab (aQ ?_)))));rw[Iy,ht,if_pos (by omega)];exact eS rfl rfl rfl ⟨⟨_,rfl,fun h=>by cases h⟩,S.back⟩
   ·refine aj (ae (ad rfl rfl (tc rfl rfl rfl (ah rfl rfl (ab ?_)))));refine bN rfl (fun c7=>?_) (fun c7=>?_)
    ·refine aj (ae (ah rfl rfl (ah rfl rfl (ab (aQ ?_)))));rw[Iy,ht,if_neg (by omega),if_pos (by omega)];exact eS rfl rfl rfl ⟨⟨_,rfl,fun h=>by cases h⟩,S.back⟩
    ·refine aT (ae (ad rfl rfl (ad rfl rfl (ad rfl rfl (iI (places:=[(0,1),(1,1)]) Tryz.underlying266 II XE rfl ⟨_,_,rfl,rfl,_,_,rfl,rfl,rfl⟩ (out:=[_,_]) ⟨0,[_],rfl,rfl,by simp[Value.cells],1,[_],rfl,rfl,by simp[Value.cells],rfl⟩ ?_)))));refine eg (A:=(RT.pair RT.str (RT.int .i64))) (hn:=by decide) (M:=M1) Tryz.underlying212 II (by decide) rfl rfl hM (eT qX (fI (x:=(i:Int)) (by omega)) rfl rfl rfl rfl) (.inl rfl) (fun XW adM Ld zH=>?_);replace hv:=hv.le zH.le;replace qX:=qX.le zH.le;replace ho:=ho.aM zH;replace hM:=zH.lt hM;have:=S.size;replace S:=S.aB zH;refine cX (M:=M1) (base:=w0.heap.size) Tryz.underlying212 II rfl rfl rfl rfl ho Ld (aq _ _) (by simp;omega) (by simp;omega) (S.size) (fun ad9 aea Yc Yd qj=>?_);replace hv:=hv.le qj.le;replace qX:=qX.le qj.le;replace Ld:=Ld.le qj.le;replace hM:=qj.lt hM;have:=S.size;replace S:=S.cV qj ho (aO _);replace ho:=Yd;refine ah rfl rfl (ab (ae (bD rfl rfl rfl (by omega) (ad rfl rfl (ab ?_)))));refine⟨rfl,(i+1,ad9),(.cons rfl (.cons rfl (.cons rfl (.cons rfl .nil)))),?_,?_⟩
     ·exact⟨⟨aea,_,hM,S,ho,by simp[qH],hv⟩,by rw[Iy,ht,if_neg (by omega),if_neg (by omega)],by dsimp only;omega,by dsimp only;omega⟩
     ·dsimp only;omega
  ·refine cI (aj (ae (ad rfl rfl (ah rfl rfl (ah rfl rfl (ab (aQ ?_)))))));have e:mn 0 (words l)=0:=by rw[Iy,gV (by omega)];rfl
   rw[e];obtain⟨a,cap,he,_⟩:=ho.isSlice;exact eS rfl rfl rfl ⟨⟨u,rfl,fun _=>⟨a,cap,by rw[he,qH];congr 1;omega⟩⟩,S.back⟩
theorem FH {M:aC} {l:List UInt8} (w0:World) (hM:Lt M w0) (hl:l.length≤900000):
  Spec Tryz.prog 148 #[.string ⟨l.toArray⟩] w0 (fun v w=>(∃u,v= .tuple #[u,.int .i64 (mn 0 (words l))]∧(mn 0 (words l)=0→∃a cap,u= .slice a (words l).length cap))∧Step M w0 M w aD):=by
 have kr:=hM;refine bg (args:=[_]) (fn:=Tryz.f148) Tryz.func148 rfl (n:=33) Tryz.ntmps148 ?_;have S:Step M w0 M w0 aD:=(aw _ _).cF (fun _ h=>h.elim) (fun _ h=>h.elim);refine aj (ae (ah rfl rfl (ah rfl rfl (ab (aj (ae (ad rfl rfl ?_)))))));refine aW rfl rfl adh (C6 _ hM hl) (fun v1 w1 hc=>?_);obtain⟨hv,s1⟩:=hc;replace hM:=s1.lt hM;have:=S.size;replace S:=S.aB s1;refine ah rfl rfl (ab (aj (ae (ah rfl rfl (ab (aj (aj (ae (ah rfl rfl (ab (aZ ?_)))))))))));refine dn (σ:=Nat×Value) (fun q=>[(4,v1),(5,q.2),(6,.int .i64 (q.1:Int))]) (fun q w=>(∃M' xs,Lt M' w∧Step M w0 M' w aD∧Own (RT.pair RT.str (RT.int .i64)) 266 M' w w0.heap.size q.2 xs∧xs.length=q.1∧(RT.str.sl).V M' w (words l) v1)∧mn 0 (words l)=mn q.1 ((words l).drop q.1)∧q.1≤(words l).length∧q.1≤500) (fun q=>(words l).length-q.1) (0,.slice none 0 0) (.cons rfl (.cons rfl (.cons rfl .nil))) ?_ ?_
 ·exact⟨⟨M,[],hM,S,dz _ _ _ _ _,rfl,hv⟩,rfl,bG _,bG _⟩
 ·rintro⟨i,u⟩ w ⟨⟨M1,xs,hM,S,ho,qH,hv⟩,Iy,hi,hi5⟩;dsimp only at ho qH Iy hi hi5 ⊢;refine aj (aj (ae (ad rfl rfl (ad rfl rfl (bR aS rfl hv rfl (cn rfl rfl rfl (ab ?_)))))));refine bN rfl (fun c4=>?_) (fun c4=>?_)
  ·refine aT (aj (aZ (aj (aj (ae (ad rfl rfl (ad rfl rfl ?_)))))));refine cE (M:=M1) aS I9 rfl rfl rfl hv (aq _ _) (by omega) (fun TU x WK E0=>?_);refine bT (M:=M1) aJ rfl rfl rfl rfl rfl E0 (aq _ _) (fun vx qX=>?_);rw[ay]at WK;obtain rfl:=iC qX;have ht:=Ht (i:=i) WK;refine Rg.nh aJ rfl rfl (aU (v':= .int .i64 (x.length:Int)) (by simp[ByteArray.size]) (jv rfl rfl rfl (ab ?_)));refine bN rfl (fun c6=>?_) (fun c6=>?_)
   ·refine aj (ae (ah rfl rfl (ah rfl rfl (ab (aQ ?_)))));rw[Iy,ht,if_pos (by omega)];exact eS rfl rfl rfl ⟨⟨_,rfl,fun h=>by cases h⟩,S.back⟩
   ·refine aT (aj (aj (ae (ad rfl rfl (dT rfl rfl rfl (ab ?_))))));refine bN rfl (fun c8=>?_) (fun c8=>?_)
    ·refine aj (ae (ah rfl rfl (ah rfl rfl (ab (aQ ?_)))));rw[Iy,ht,if_neg (by omega),if_pos (by omega)];exact eS rfl rfl rfl ⟨⟨_,rfl,fun h=>by cases h⟩,S.back⟩
    ·refine aT (ae (ad rfl rfl (ad rfl rfl (ad rfl rfl ?_))));refine cE (M:=M1) aS I9 rfl rfl rfl hv (aq _ _) (by omega) (fun X6 y hgy huy=>?_);refine bT (M:=M1) aJ rfl rfl rfl rfl rfl huy (aq _ _) (fun vy Rk=>?_);rw[ay]at hgy;obtain rfl:=iC Rk;obtain rfl:x=y:=by rw[WK]at hgy;exact aI hgy
     refine ad rfl rfl (iI (places:=[(0,1),(1,1)]) Tryz.underlying266 II XE rfl ⟨_,_,rfl,rfl,_,_,rfl,rfl,rfl⟩ (out:=[_,_]) ⟨0,[_],rfl,rfl,by simp[Value.cells],1,[_],rfl,rfl,by simp[Value.cells],rfl⟩ ?_);refine eg (A:=(RT.pair RT.str (RT.int .i64))) (hn:=by decide) (M:=M1) Tryz.underlying212 II (by decide) rfl rfl hM (eT Rk (fI (x:=(i:Int)) (by omega)) rfl rfl rfl rfl) (.inl rfl) (fun Rj X8 FI pw=>?_);replace hv:=hv.le pw.le;replace qX:=qX.le pw.le;replace Rk:=Rk.le pw.le;replace ho:=ho.aM pw;replace hM:=pw.lt hM;have:=S.size;replace S:=S.aB pw;refine cX (M:=M1) (base:=w0.heap.size) Tryz.underlying212 II rfl rfl rfl rfl ho FI (aq _ _) (by simp;omega) (by simp;omega) (S.size) (fun Ye Yf Hu TZ gP=>?_);replace hv:=hv.le gP.le;replace qX:=qX.le gP.le;replace Rk:=Rk.le gP.le;replace FI:=FI.le gP.le;replace hM:=gP.lt hM;have:=S.size;replace S:=S.cV gP ho (aO _);replace ho:=TZ;refine ah rfl rfl (ab (ae (ad rfl rfl (bD rfl rfl rfl (by omega) (ah rfl rfl (ab ?_))))));refine⟨rfl,(i+1,Ye),(.cons rfl (.cons rfl (.cons rfl .nil))),?_,?_⟩
     ·exact⟨⟨Yf,_,hM,S,ho,by simp[qH],hv⟩,by rw[Iy,ht,if_neg (by omega),if_neg (by omega)],by dsimp only;omega,by dsimp only;omega⟩
     ·dsimp only;omega
  ·refine cI (aj (ae (ad rfl rfl (ah rfl rfl (ah rfl rfl (ab (aQ ?_)))))));have e:mn 0 (words l)=0:=by rw[Iy,gV (by omega)];rfl
   rw[e];obtain⟨a,cap,he,_⟩:=ho.isSlice;exact eS rfl rfl rfl ⟨⟨u,rfl,fun _=>⟨a,cap,by rw[he,qH];congr 1;omega⟩⟩,S.back⟩
end Go.K
namespace Go.K
abbrev Fd:=List UInt8×List UInt8
abbrev Dc:=Int×List Fd
abbrev En:=Dc×Int
abbrev RT.fd:RT Fd:=RT.pair RT.str RT.str
abbrev RT.dc:RT Dc:=RT.pair (RT.int .i64) (RT.fd.sl)
abbrev RT.en:RT En:=RT.pair RT.dc (RT.int .i64)
theorem WL:Part RT.fd RT.str (fun p=>p.1) 0:=mI _ _
theorem fd1:Part RT.fd RT.str (fun p=>p.2) 1:=iG _ _
theorem WM:Part RT.dc (RT.int .i64) (fun p=>p.1) 0:=mI _ _
theorem IT:Part RT.dc (RT.fd.sl) (fun p=>p.2) 1:=iG _ _
theorem WN:Part RT.en RT.dc (fun p=>p.1) 0:=mI _ _
theorem Yg:Part RT.en (RT.int .i64) (fun p=>p.2) 2:=iG _ _
theorem Lg {M:aC} {w:World} {p:Dc} {v:Value} (h:RT.dc.V M w p v):∃u,v= .agg #[.int .i64 p.1,u]:=by
 obtain⟨vs,⟨va,vb,rfl,⟨rfl,_⟩,hb⟩,rfl⟩:=h;have:=(RT.fd.sl (by decide)).len hb
 match vb,this with
 |[u],_=>exact⟨u,rfl⟩
theorem Rl {M:aC} {w:World} {p:Dc} {u:Value} {s:Int} (h:RT.dc.V M w p (.agg #[.int .i64 p.1,u])) (hs: -9223372036854775808≤s∧s≤9223372036854775807):RT.en.V M w (p,s) (.agg [.int .i64 p.1,u,.int .i64 s].toArray):=by
 obtain⟨vs,h1,h2⟩:=h
 have h3:vs=[.int .i64 p.1,u]:=by
  have:Value.agg #[.int .i64 p.1,u]= .agg vs.toArray:=h2;injection this with this
  simpa using(congrArg Array.toList this).symm
 subst h3;exact⟨_,⟨[.int .i64 p.1,u],[.int .i64 s],rfl,h1,rfl,hs.1,hs.2⟩,rfl⟩
theorem Own.Rm {α:Type} (A:RT α) (e:TypeId) (base:Nat) {M:aC} {w:World} (h:Lt M w):Own A e M w base (.slice none 0 0) []:=dz _ _ _ _ _
section
variable {P:Program} {r:Option Nat} {n:Nat} {L:Sl} {ds:List Deferred} {w:World} {K:Kt} {ops:Array Oper} {rest:List Oper} {d:Nat} {x:Operand} {ty:TypeId} {pos:String} {af:Array Edge}
theorem Rg.ql {α:Type} {A:RT α} {e:TypeId} {v:Value} {a:α} {M:aC} (hx:ev L x=some v) (hd:Nat.blt d n=true) (hM:Lt M w) (hv:A.V M w a v) (hg:A.agg=true)
  (k:∀u w',cP A M w' u a→Step M w M w' aD→w.heap.size≤w'.heap.size→Rg P r n ops rest ((d,u)::L) ds w' K):
  Rg P r n ops ({dst:=some d,op:= .box e x,type:=ty,pos,after:=af,guard:=none}::rest) L ds w K:=by
 refine wJ M hx hd (fun b w' h1 h2 hb s=>?_);obtain⟨vs,h3,h4⟩:=hv;have hc:v.cells=vs.toArray:=by subst h4;simp[RT.val,hg,Value.cells]
 rw[hc]at hb;refine k _ w' ⟨b,0,vs,rfl,fun hm=>?_,A.le s.back.le h3,fun j u hj=>?_⟩ s.back s.size
 ·have:=hM b hm;omega
 ·rw[fN];exact fA hb (by simpa using hj)
end
end Go.K
namespace Go.Proofs
open Go.Shelf
def Tryz.C8:Go.Shelf.Ren:=⟨fun|160=>184|232=>231|231=>230|227=>232|234=>234|233=>233|236=>236|235=>235|228=>268|271=>271|151=>270|197=>269|120=>293|152=>292|260=>291|137=>300|119=>290|224=>301|225=>302|217=>304|266=>305|n=>n,fun|9=>9|4=>4|3=>3|5=>5|117=>310|116=>309|0=>0|124=>313|21=>21|105=>344|46=>189|119=>365|139=>368|138=>367|n=>n,fun|3=>2|4=>3|n=>n⟩
theorem Tryz.Pt:Go.Proofs.Lays.n160 Tryz.prog Tryz.C8:={
 mixed:=by kernel_rfl
 f119:=Tryz.func290.trans (congrArg some (by kernel_rfl))
 f120:=Tryz.func293.trans (congrArg some (by kernel_rfl))
 f137:=Tryz.func300.trans (congrArg some (by kernel_rfl))
 f151:=Tryz.func270.trans (congrArg some (by kernel_rfl))
 f152:=Tryz.func292.trans (congrArg some (by kernel_rfl))
 f160:=Tryz.func184.trans (congrArg some (by kernel_rfl))
 f197:=Tryz.func269.trans (congrArg some (by kernel_rfl))
 f217:=Tryz.func304.trans (congrArg some (by kernel_rfl))
 f224:=Tryz.func301.trans (congrArg some (by kernel_rfl))
 f225:=Tryz.func302.trans (congrArg some (by kernel_rfl))
 f227:=Tryz.func232.trans (congrArg some (by kernel_rfl))
 f228:=Tryz.func268.trans (congrArg some (by kernel_rfl))
 f231:=Tryz.func230.trans (congrArg some (by kernel_rfl))
 f232:=Tryz.func231.trans (congrArg some (by kernel_rfl))
 f233:=Tryz.func233.trans (congrArg some (by kernel_rfl))
 f234:=Tryz.func234.trans (congrArg some (by kernel_rfl))
 f235:=Tryz.func235.trans (congrArg some (by kernel_rfl))
 f236:=Tryz.func236.trans (congrArg some (by kernel_rfl))
 f260:=Tryz.func291.trans (congrArg some (by kernel_rfl))
 f266:=Tryz.func305.trans (congrArg some (by kernel_rfl))
 f271:=Tryz.func271.trans (congrArg some (by kernel_rfl))
 t0:=fG
 a0:=lA
 z0:=jZ
 v0:=gG
 t3:=ax
 a3:=lB
 z3:=j0
 v3:=gH
 t4:=ey
 a4:=rh
 z4:=nF
 v4:=jx
 t5:=cz
 a5:=Tryz.isAgg5
 z5:=Tryz.sizeOf5
 v5:=tb
 t9:=aJ
 a9:=lC
 z9:=j3
 v9:=gI
 t21:=Tryz.underlying21
 a21:=Tryz.isAgg21
 z21:=Tryz.sizeOf21
 v21:=Tryz.zeroValue21
 t46:=jL
 a46:=Tryz.isAgg189
 z46:=Tryz.sizeOf189
 v46:=Tryz.zeroValue189
 t105:=Tryz.underlying344
 a105:=Tryz.isAgg344
 z105:=Tryz.sizeOf344
 v105:=Tryz.zeroValue344
 t116:=Tryz.underlying309
 a116:=Tryz.isAgg309
 z116:=Tryz.sizeOf309
 t117:=Tryz.underlying310
 a117:=Tryz.isAgg310
 z117:=Tryz.sizeOf310
 v117:=Tryz.zeroValue310
 t119:=Tryz.underlying365
 a119:=Tryz.isAgg365
 z119:=Tryz.sizeOf365
 t124:=Tryz.underlying313
 a124:=Tryz.isAgg313
 z124:=Tryz.sizeOf313
 v124:=Tryz.zeroValue313
 t138:=Tryz.underlying367
 a138:=Tryz.isAgg367
 z138:=Tryz.sizeOf367
 v138:=Tryz.zeroValue367
 t139:=Tryz.underlying368
 a139:=Tryz.isAgg368
 z139:=Tryz.sizeOf368
 v139:=Tryz.zeroValue368
 g3:=by kernel_rfl
 g4:=by kernel_rfl}
end Go.Proofs
namespace Go.K
open Go.Proofs
set_option maxRecDepth 10000
open Go.RowKit Go.Shelf
def lJ:List UInt8:=[97,98,99,100,101,102,103,104,105,106,107,108,109,110,111,112,113,114,115,116,117,118,119,120,121,122]
def iD (b:UInt8):Bool:=decide (97≤b.toNat∧b.toNat≤122)
def gj (s:List UInt8):Bool:=decide (1≤s.length∧s.length≤12)&&s.all iD
theorem C9 (b:UInt8):lJ.contains b=iD b:=by
 have key:∀n:Fin 256,lJ.contains (UInt8.ofNat n)=iD (UInt8.ofNat n):=by decide
 have:=key ⟨b.toNat,UInt8.toNat_lt b⟩;simpa using this
theorem drop_nil {α:Type} (p:α→Bool):∀l:List α,l.dropWhile p=[]↔∀x∈l,p x=true
 |[]=>by simp
 |x::l=>by
  rw[List.dropWhile_cons];by_cases h:p x=true
  ·rw[if_pos h,drop_nil p l];simp[h]
  ·rw[if_neg h];simp[h]
theorem yh (s:List UInt8):Lib.trimS s lJ=[]↔s.all iD=true:=by
 have e:(fun b=>lJ.contains b)=iD:=funext C9;unfold Lib.trimS Lib.trimLeftS Lib.trimRightS;rw[e,drop_nil,fv];constructor
 ·intro h
  have h2:s.reverse.dropWhile iD=[]:=by
   cases hd:s.reverse.dropWhile iD with
   |nil=>rfl
   |cons x r=>
    have h3:=h x (by rw[hd];simp);have h4:=List.head?_dropWhile_not iD s.reverse;rw[hd]at h4;simp[h3]at h4
  intro x hx;exact(drop_nil _ _).1 h2 x (List.mem_reverse.2 hx)
 ·intro h x hx;rw[(drop_nil iD s.reverse).2 (fun y hy=>h y (List.mem_reverse.1 hy))]at hx
  cases hx
theorem IU (s:List UInt8) (hs:s.length≤140737488355328) (w:World):Spec Tryz.prog 184 #[.string ⟨s.toArray⟩,.string ⟨lJ.toArray⟩] w (fun v w'=>v= .string ⟨(Lib.trimS s lJ).toArray⟩∧∀M,Step M w M w' aD):=
 (Any.strings_Trim_ascii Tryz.Pt Tryz.zeroValue309 (by kernel_rfl) ⟨s.toArray⟩ ⟨lJ.toArray⟩ w (by simp[ByteArray.size];omega) (by decide) (fun j b hj=>by
  have hm:b∈lJ:=az hj;have:=C9 b;rw[jD.2 hm]at this;have h2:97≤b.toNat∧b.toNat≤122:=by simpa[iD]using this.symm
  omega)).mono fun e w' ⟨h1,h2⟩=>⟨_,h1,rfl,fun M=> .xV h2 M⟩
theorem IV (s:List UInt8) (hs:s.length≤140737488355328) (w0:World):
  Spec Tryz.prog 129 #[.string ⟨s.toArray⟩] w0 (fun v w=>v= .bool (gj s)∧∀M,Step M w0 M w aD):=by
 refine bg (args:=[_]) (fn:=Tryz.f129) Tryz.func129 rfl (n:=15) Tryz.ntmps129 (aj (ae (ah rfl rfl (ab (aj (ae (ad rfl rfl (Rg.W7 (p:=s) (q:=[]) rfl rfl rfl (ad rfl rfl ?_)))))))));refine aN (g:=5) rfl (fun iB=>?_) (fun iB=>?_)
 ·refine al rfl rfl (ad rfl rfl (al rfl rfl (Rg.nh aJ rfl rfl (aU (v':= .int .i64 (s.length:Int)) (by simp[ByteArray.size]) (al rfl rfl (gL rfl rfl rfl (aX rfl rfl rfl (ad rfl rfl ?_))))))));refine aN (g:=10) rfl (fun aed=>?_) (fun aed=>?_)
  ·refine al rfl rfl (ad rfl rfl (al rfl rfl ?_));refine aW rfl rfl ac6 (IU s hs _) (fun r w9 hc=>?_);obtain⟨rfl,s9⟩:=hc;refine al rfl rfl (Rg.He (p:=Lib.trimS s lJ) (q:=[]) rfl rfl rfl (aX rfl rfl rfl (ah rfl rfl (ab (aQ ?_)))))
   first
   |exact aV rfl rfl ⟨by rw[gj,decide_eq_true (p:=1≤s.length∧s.length≤12) ⟨oy.2 iB,by omega⟩,fp];exact congrArg Value.bool (by rw[lF,decide_eq_true_eq];exact yh s),s9⟩
   |exact aV rfl rfl ⟨by rw[gj,decide_eq_false (p:=1≤s.length∧s.length≤12) (by omega),kG],fun M=>aw _ _⟩
   |(have T0:s=[]:=Classical.not_not.1 iB
     subst T0;exact aV rfl rfl ⟨rfl,fun M=>aw _ _⟩)
  ·refine ar rfl rfl rfl rfl (ar rfl rfl rfl rfl (ar rfl rfl rfl rfl (aE rfl rfl rfl (ah rfl rfl (ab (aQ ?_))))))
   first
   |exact aV rfl rfl ⟨by rw[gj,decide_eq_true (p:=1≤s.length∧s.length≤12) ⟨oy.2 iB,by omega⟩,fp];exact congrArg Value.bool (by rw[lF,decide_eq_true_eq];exact yh s),s9⟩
   |exact aV rfl rfl ⟨by rw[gj,decide_eq_false (p:=1≤s.length∧s.length≤12) (by omega),kG],fun M=>aw _ _⟩
   |(have T0:s=[]:=Classical.not_not.1 iB
     subst T0;exact aV rfl rfl ⟨rfl,fun M=>aw _ _⟩)
 ·refine ar rfl rfl rfl rfl (ar rfl rfl rfl rfl (ar rfl rfl rfl rfl (aE rfl rfl rfl (ad rfl rfl (ar rfl rfl rfl rfl (ar rfl rfl rfl rfl (ar rfl rfl rfl rfl (aE rfl rfl rfl (ah rfl rfl (ab (aQ ?_)))))))))))
  first
  |exact aV rfl rfl ⟨by rw[gj,decide_eq_true (p:=1≤s.length∧s.length≤12) ⟨oy.2 iB,by omega⟩,fp];exact congrArg Value.bool (by rw[lF,decide_eq_true_eq];exact yh s),s9⟩
  |exact aV rfl rfl ⟨by rw[gj,decide_eq_false (p:=1≤s.length∧s.length≤12) (by omega),kG],fun M=>aw _ _⟩
  |(have T0:s=[]:=Classical.not_not.1 iB
    subst T0;exact aV rfl rfl ⟨rfl,fun M=>aw _ _⟩)
theorem Lh {s:List UInt8} (h:∀(k:Nat) c,s[k]? =some c→iD c=true):s.all iD=true:=fv.2 fun c hc=>by
 obtain⟨k,hk⟩:=bE.1 hc;exact h k c hk
theorem tC {s:List UInt8} {i:Nat} (h:i<s.length):s[i]? =some (s.getD i 0):=by rw[aA,au h];rfl
theorem sy {M:aC} {w:World} {p:Fd} {v:Value} (h:RT.fd.V M w p v):v= .agg #[.string ⟨p.1.toArray⟩,.string ⟨p.2.toArray⟩]:=by
 obtain⟨vs,⟨va,vb,rfl,⟨rfl,_⟩,⟨rfl,_⟩⟩,rfl⟩:=h;rfl
theorem T1 {M:aC} {w:World} {p:Fd} {v:Value} (h:RT.fd.V M w p v):p.1.length≤140737488355328∧p.2.length≤140737488355328:=by
 obtain⟨vs,⟨va,vb,rfl,⟨rfl,h1⟩,⟨rfl,h2⟩⟩,_⟩:=h;exact⟨h1,h2⟩
def zJ:List Fd→List Fd→Nat→Int
 |_,[],n=>if 500<n then 7 else 0
 |seen,f::fs,n=>if gj f.1=false then 4 else if(seen.any fun g=>decide (g.1=f.1))=true then 5 else if mn 0 (words f.2)≠0 then mn 0 (words f.2)else zJ (seen++[f]) fs (n+(words f.2).length)
def lK (d:Dc):Int:=if 8<d.2.length then 7 else zJ [] d.2 0
theorem Hv {fs:List Fd} {i n:Nat} {x:Fd} (h:fs[i]? =some x):zJ (fs.take i) (fs.drop i) n=if gj x.1=false then 4 else if((fs.take i).any fun g=>decide (g.1=x.1))=true then 5 else if mn 0 (words x.2)≠0 then mn 0 (words x.2)else zJ (fs.take (i+1)) (fs.drop (i+1)) (n+(words x.2).length):=by
 have dQ:=(ao.1 h).1;rw[dC dQ,(ao.1 h).2,b9,h];rfl
theorem tD {fs:List Fd} {i n:Nat} (h:fs.length≤i):zJ (fs.take i) (fs.drop i) n=if 500<n then 7 else 0:=by
 rw[gV h];rfl
theorem yi (s:List UInt8) (hs:s.length≤140737488355328) (w0:World):
  Spec Tryz.prog 93 #[.string ⟨s.toArray⟩] w0 (fun v w=>v= .bool (gj s)∧w=w0):=by
 refine bg (args:=[_]) (fn:=Tryz.f93) Tryz.func93 rfl (n:=28) Tryz.ntmps93 (aj (ae (ah rfl rfl (ab (aj (aj (ae (ah rfl rfl (ab (aZ ?_))))))))));refine dn (σ:=Nat) (fun i=>[(0,.string ⟨s.toArray⟩),(3,.int .i64 (i:Int))]) (fun i w=>w=w0∧i≤s.length∧∀k c,k<i→s[k]? =some c→iD c=true) (fun i=>s.length-i) 0 (.cons rfl (.cons rfl .nil)) ?_ ?_
 ·exact⟨rfl,bG _,fun k c h=>absurd h (Nat.not_lt_zero k)⟩
 ·rintro i w ⟨rfl,hi,hok⟩;refine aj (aj (ae (ad rfl rfl (ad rfl rfl (Rg.nh aJ rfl rfl (aU (v':= .int .i64 (s.length:Int)) (by simp[ByteArray.size]) (cn rfl rfl rfl (ab ?_))))))));refine bN rfl (fun c2=>?_) (fun c2=>?_)
  ·refine aT (aj (aZ (aj (ae (ad rfl rfl (ad rfl rfl (Rg.Ho (c:=s.getD i 0) aJ rfl rfl rfl (by omega) (by rw[ay];exact tC (by omega)) (cn rfl rfl rfl (ad rfl rfl ?_)))))))));refine aN (g:=14) rfl (fun aee=>?_) (fun aee=>?_)
   ·refine ar rfl rfl rfl rfl (ar rfl rfl rfl rfl (ar rfl rfl rfl rfl (ar rfl rfl rfl rfl (aX rfl rfl rfl (ab (lh rfl (aj (ae (ah rfl rfl (ab (aQ ?_)))))))))))
    have hx:s.all iD=false:=de.2 fun h=>by
     have h2:=fv.1 h _ (az (tC (s:=s) (i:=i) (by omega)));simp only[iD,decide_eq_true_eq]at h2;omega
    exact aV rfl rfl ⟨by rw[gj,hx,Bool.and_false],rfl⟩
   ·refine al rfl rfl (ad rfl rfl (al rfl rfl (ad rfl rfl (al rfl rfl (Rg.Ho (c:=s.getD i 0) aJ rfl rfl rfl (by omega) (by rw[ay];exact tC (by omega)) (al rfl rfl (jv rfl rfl rfl (aE rfl rfl rfl (ab ?_)))))))));refine bN rfl (fun c4=>?_) (fun c4=>?_)
    ·refine aj (ae (ah rfl rfl (ab (aQ ?_))))
     have hx:s.all iD=false:=de.2 fun h=>by
      have h2:=fv.1 h _ (az (tC (s:=s) (i:=i) (by omega)));simp only[iD,decide_eq_true_eq]at h2;omega
     exact aV rfl rfl ⟨by rw[gj,hx,Bool.and_false],rfl⟩
    ·refine aT (ae (ad rfl rfl (bD rfl rfl rfl (by omega) (ah rfl rfl (ab ?_)))));refine⟨rfl,i+1,(.cons rfl (.cons rfl .nil)),?_,?_⟩
     ·exact⟨rfl,by omega,fun k c h hc=>by
       rcases cy k i with h2|h2
       ·exact hok k c h2 hc
       ·obtain rfl:k=i:=by omega
        rw[tC (by omega)]at hc;cases hc;simp only[iD,decide_eq_true_eq];omega⟩
     ·omega
  ·refine cI (aj (ae (ad rfl rfl (Rg.nh aJ rfl rfl (aU (v':= .int .i64 (s.length:Int)) (by simp[ByteArray.size]) (dT rfl rfl rfl (ad rfl rfl ?_)))))));refine aN (g:=23) rfl (fun nT=>?_) (fun nT=>?_)
   ·refine al rfl rfl (ad rfl rfl (al rfl rfl (Rg.nh aJ rfl rfl (aU (v':= .int .i64 (s.length:Int)) (by simp[ByteArray.size]) (al rfl rfl (gL rfl rfl rfl (aX rfl rfl rfl (ah rfl rfl (ab (aQ ?_))))))))));have ha:s.all iD=true:=Lh fun k c hc=>hok k c (by have:=(ao.1 hc).1;omega) hc
    first
    |exact aV rfl rfl ⟨by rw[gj,ha,Bool.and_true];exact congrArg Value.bool (decide_eq_decide.2 (by omega)),rfl⟩
    |exact aV rfl rfl ⟨by rw[gj,ha,Bool.and_true];exact congrArg Value.bool (decide_eq_false (by omega)).symm,rfl⟩
   ·refine ar rfl rfl rfl rfl (ar rfl rfl rfl rfl (ar rfl rfl rfl rfl (aE rfl rfl rfl (ah rfl rfl (ab (aQ ?_))))));have ha:s.all iD=true:=Lh fun k c hc=>hok k c (by have:=(ao.1 hc).1;omega) hc
    first
    |exact aV rfl rfl ⟨by rw[gj,ha,Bool.and_true];exact congrArg Value.bool (decide_eq_decide.2 (by omega)),rfl⟩
    |exact aV rfl rfl ⟨by rw[gj,ha,Bool.and_true];exact congrArg Value.bool (decide_eq_false (by omega)).symm,rfl⟩
theorem IW {M:aC} {o:Fd} {v0:Value} (w0:World) (hM:Lt M w0) (hv:RT.fd.V M w0 o v0) {nm:List UInt8} {t:Value} {bf:Nat} (g:w0.heap[bf]? =some (.cells #[.string ⟨nm.toArray⟩,t] 166 (0,0))) (Ar:M bf):
  Spec Tryz.prog 131 #[v0,.pointer (some ⟨bf,0,none⟩)] w0 (fun v w=>v= .bool (decide (o.1=nm))∧Step M w0 M w aD):=by
 refine bg (args:=[_,_]) (fn:=Tryz.f131) Tryz.func131 rfl (n:=9) Tryz.ntmps131 ?_;have S:Step M w0 M w0 aD:=(aw _ _).cF (fun _ h=>h.elim) (fun _ h=>h.elim);refine aj (ae ?_);refine Rg.ql (A:=RT.fd) rfl rfl hM hv rfl (fun u0 w1 dq s0 _=>?_);have:=ak g;replace Ar:=(s0.mem _ this).2 Ar;replace g:=s0.aK g;replace hM:=s0.lt hM;have:=S.size;replace S:=S.aB s0;refine ah rfl rfl (ab (aj (ae ?_)));refine aL (M:=M) (A:=RT.fd) (B:=RT.str) cw rfl rfl I9 (by decide) (WL) rfl rfl (by decide) (by assumption) (by repeat (first|exact aq _ _|refine aY (bu (by assumption)) ?_)) (fun Bv mV=>?_);refine bT (M:=M) aJ rfl rfl rfl rfl rfl mV (aq _ _) (fun v1 qL=>?_);obtain rfl:=iC qL;refine bO (o':=0) cw rfl rfl I9 (by decide) rfl rfl (aP aJ rfl rfl rfl (by assumption) rfl (Rg.He (p:=o.1) (q:=nm) rfl rfl rfl (ah rfl rfl (ab (aQ ?_)))));exact aV rfl rfl ⟨rfl,S⟩
theorem FJ {M:aC} {fs:List Fd} {v0:Value} (w0:World) (hM:Lt M w0) (hv:(RT.fd.sl).V M w0 fs v0) {nm:List UInt8} {t:Value} {bf:Nat} (g:w0.heap[bf]? =some (.cells #[.string ⟨nm.toArray⟩,t] 166 (0,0))) (Ar:M bf):
  Spec Tryz.prog 185 #[v0,.func (.func 131) #[] #[.pointer (some ⟨bf,0,none⟩)]] w0 (fun v w=>(∃k:Int,v= .int .i64 k∧(0≤k↔(fs.any fun g=>decide (g.1=nm))=true)∧ -1≤k∧k≤9223372036854775807)∧Step M w0 M w aD):=by
 have Ci:=ei hv;refine bg (args:=[_,_]) (fn:=Tryz.f185) Tryz.func185 rfl (n:=19) Tryz.ntmps185 ?_;have S:Step M w0 M w0 aD:=(aw _ _).cF (fun _ h=>h.elim) (fun _ h=>h.elim);refine aj (ae (ah rfl rfl (ab (aj (aj (ae (ad rfl rfl (bR bz rfl hv rfl (ad rfl rfl (ab (aZ ?_)))))))))));refine dn (σ:=Nat) (fun i=>[(0,v0),(1,.func (.func 131) #[] #[.pointer (some ⟨bf,0,none⟩)]),(6,v0),(7,.int .i64 (fs.length:Int)),(8,.int .i64 (i:Int))]) (fun i w=>Lt M w∧Step M w0 M w aD∧(w.heap[bf]? =some (.cells #[.string ⟨nm.toArray⟩,t] 166 (0,0)))∧(RT.fd.sl).V M w fs v0∧i≤fs.length∧∀k o,k<i→fs[k]? =some o→o.1≠nm) (fun i=>fs.length-i) 0 (.cons rfl (.cons rfl (.cons rfl (.cons rfl (.cons rfl .nil))))) ?_ ?_
 ·exact⟨hM,S,g,hv,bG _,fun k c h=>absurd h (Nat.not_lt_zero k)⟩
 ·rintro i w ⟨hM,S,g,hv,hi,hok⟩;refine aj (ae (cn rfl rfl rfl (ab (aj ?_))));refine bN rfl (fun c2=>?_) (fun c2=>?_)
  ·refine aT (aj (aZ (aj (ae (ad rfl rfl (ah rfl rfl (ab (aj (ae (ad rfl rfl (ad rfl rfl ?_)))))))))));refine ad rfl rfl ?_;refine cE (M:=M) bz kz rfl rfl rfl hv (aq _ _) (by omega) (fun u4 o vY EX=>?_);refine dg (M:=M) (A:=RT.fd) cw rfl kz (by decide) rfl rfl rfl EX (aq _ _) (fun v4 pT=>?_);rw[ay]at vY;refine zy (first:=[]) (captured:=[.pointer (some ⟨bf,0,none⟩)]) rfl rfl rfl ac0 (IW _ hM pT g Ar) (fun r5 w5 hc=>?_);obtain⟨rfl,s5⟩:=hc;have:=ak g;replace Ar:=(s5.mem _ this).2 Ar;replace g:=s5.aK g;replace hv:=hv.le s5.le;replace hM:=s5.lt hM;have:=S.size;replace S:=S.aB s5;refine ab ?_;refine bN rfl (fun c4=>?_) (fun c4=>?_)
   ·refine aj (ae (ad rfl rfl (ah rfl rfl (ab (aQ ?_)))));exact aV rfl rfl ⟨⟨_,rfl,⟨fun _=>uy.2 ⟨o,az vY,by simpa using(by assumption)⟩,fun _=>by omega⟩,by omega,by omega⟩,S.back⟩
   ·refine aT (ae (bD rfl rfl rfl (by omega) (ad rfl rfl (ab ?_))));refine⟨rfl,i+1,(.cons rfl (.cons rfl (.cons rfl (.cons rfl (.cons rfl .nil))))),?_,?_⟩
    ·exact⟨hM,S,g,hv,by omega,fun k o' h hc=>by
      rcases cy k i with h2|h2
      ·exact hok k o' h2 hc
      ·obtain rfl:k=i:=by omega
       rw[vY]at hc;cases hc;assumption⟩
    ·omega
  ·refine cI (aj (ae (ah rfl rfl (ab (aQ ?_)))))
   exact aV rfl rfl ⟨⟨-1,rfl,⟨fun h=>by omega,fun h=>by
    obtain⟨o,ho,he⟩:=uy.1 h;obtain⟨k,hk⟩:=bE.1 ho;exact absurd (by simpa using he) (hok k o (by have:=(ao.1 hk).1;omega) hk)⟩,by omega,by omega⟩,S.back⟩
theorem Da {M:aC} {fs:List Fd} {v0:Value} (w0:World) (hM:Lt M w0) (hv:(RT.fd.sl).V M w0 fs v0) {nm:List UInt8} {t:Value} {bf:Nat} (g:w0.heap[bf]? =some (.cells #[.string ⟨nm.toArray⟩,t] 166 (0,0))) (Ar:M bf):
  Spec Tryz.prog 130 #[v0,.func (.func 131) #[] #[.pointer (some ⟨bf,0,none⟩)]] w0 (fun v w=>v= .bool (fs.any fun g=>decide (g.1=nm))∧Step M w0 M w aD):=by
 refine bg (args:=[_,_]) (fn:=Tryz.f130) Tryz.func130 rfl (n:=9) Tryz.ntmps130 ?_;have S:Step M w0 M w0 aD:=(aw _ _).cF (fun _ h=>h.elim) (fun _ h=>h.elim);refine aj (ae (ah rfl rfl (ab (aj (ae (ad rfl rfl (ad rfl rfl ?_)))))));refine aW rfl rfl ac7 (FJ _ hM hv g Ar) (fun r1 w1 hc=>?_);obtain⟨⟨k,rfl,hk,_⟩,s1⟩:=hc;have:=ak g;replace Ar:=(s1.mem _ this).2 Ar;replace g:=s1.aK g;replace hv:=hv.le s1.le;replace hM:=s1.lt hM;have:=S.size;replace S:=S.aB s1;refine dT rfl rfl rfl (ah rfl rfl (ab (aQ ?_)));exact aV rfl rfl ⟨congrArg Value.bool (by rw[lF,decide_eq_true_eq];exact hk),S⟩
theorem Lj {M:aC} {d:Dc} {v0:Value} (w0:World) (hM:Lt M w0) (hv:RT.dc.V M w0 d v0) (hl:∀f∈d.2,f.1.length≤900000∧f.2.length≤900000):
  Spec Tryz.prog 86 #[v0] w0 (fun v w=>v= .int .i64 (lK d)∧Step M w0 M w aD):=by
 have kr:=hM;refine bg (args:=[_]) (fn:=Tryz.f86) Tryz.func86 rfl (n:=49) Tryz.ntmps86 ?_;have S:Step M w0 M w0 aD:=(aw _ _).cF (fun _ h=>h.elim) (fun _ h=>h.elim);refine aj (ae ?_);refine Rg.ql (A:=RT.dc) rfl rfl hM hv rfl (fun u0 w1 dq s0 _=>?_);replace hM:=s0.lt hM;have:=S.size;replace S:=S.aB s0;refine ah rfl rfl (ab (aj (aj (ae ?_))));refine aL (M:=M) (A:=RT.dc) (B:=(RT.fd).sl) a8 rfl rfl uP (by decide) (IT) rfl rfl (by decide) (by assumption) (by repeat (first|exact aq _ _|refine aY (bu (by assumption)) ?_)) (fun Bv mV=>?_);refine bT (M:=M) bz rfl rfl rfl rfl rfl (by assumption) (by repeat (first|exact aq _ _|refine aY (bu (by assumption)) ?_)) (fun zK mW=>?_);refine bR bz rfl mW rfl (jv rfl rfl rfl (ab ?_));refine bN rfl (fun c1=>?_) (fun c1=>?_)
 ·refine aj (ae (ah rfl rfl (ab (aQ ?_))));exact aV rfl rfl ⟨by rw[lK,if_pos (by omega)],S.back⟩
 ·refine aT (aj (ae (ah rfl rfl (ab (aj (aj (ae ?_)))))));refine aL (M:=M) (A:=RT.dc) (B:=(RT.fd).sl) a8 rfl rfl uP (by decide) (IT) rfl rfl (by decide) (by assumption) (by repeat (first|exact aq _ _|refine aY (bu (by assumption)) ?_)) (fun T2 Hw=>?_);refine bT (M:=M) bz rfl rfl rfl rfl rfl (by assumption) (by repeat (first|exact aq _ _|refine aY (bu (by assumption)) ?_)) (fun T3 Lk=>?_);refine bR bz rfl Lk rfl (ad rfl rfl (ab (aZ ?_)));refine dn (σ:=Nat×Nat) (fun q=>[(1,u0),(3,.int .i64 (q.2:Int)),(13,T3),(14,.int .i64 (d.2.length:Int)),(15,.int .i64 (q.1:Int))]) (fun q w=>∃M',Lt M' w∧Step M w0 M' w aD∧cP RT.dc M' w u0 d∧(RT.fd.sl).V M' w d.2 T3∧lK d=zJ (d.2.take q.1) (d.2.drop q.1) q.2∧q.1≤d.2.length∧q.2≤900001*q.1) (fun q=>d.2.length-q.1) (0,0) (.cons rfl (.cons rfl (.cons rfl (.cons rfl (.cons rfl .nil))))) ?_ ?_
  ·exact⟨M,hM,S,dq,Lk,by rw[lK,if_neg (by omega)];rfl,bG _,aO _⟩
  ·rintro⟨i,n⟩ w ⟨M1,hM,S,dq,kH,FK,hi,hn⟩;dsimp only at FK hi hn ⊢;refine aj (ae (cn rfl rfl rfl (ab (aj ?_))));refine bN rfl (fun c5=>?_) (fun c5=>?_)
   ·refine aT (aj (aZ (aj (ae (ad rfl rfl ?_)))));refine cE (M:=M1) bz kz rfl rfl rfl kH (aq _ _) (by omega) (fun u6 x JV FF=>?_);refine dg (M:=M1) (A:=RT.fd) cw rfl kz (by decide) rfl rfl rfl FF (aq _ _) (fun v6 uU=>?_);rw[ay]at JV;obtain rfl:=sy uU;have ky:=Hv (n:=n) JV;have qH:=hl _ (az JV);refine ek M1 kz rfl (fun T4 Yh aok aol nT tF=>?_);obtain⟨Db,Ll⟩:∃M',M'=ins M1 T4:=⟨_,rfl⟩;rw[←Ll]at tF;have mq:Db T4:=by rw[Ll];exact .inl rfl
    change Yh.heap[T4]? =some (.cells #[.string ⟨#[]⟩,.string ⟨#[]⟩] _ _)at nT;replace dq:=dq.le (by decide) tF.le;replace kH:=kH.le tF.le;replace hM:=tF.lt hM;have:=S.size;replace S:=S.aB tF;refine ah rfl rfl ?_;refine dY (M:=Db) (vs:=[.string ⟨x.1.toArray⟩,.string ⟨x.2.toArray⟩]) kz rfl rfl (by intro u hu;simp at hu;rcases hu with rfl|rfl<;>rfl) rfl rfl nT mq (fun w6 g6 s6=>?_);have:=ak nT;replace mq:=(s6.mem _ this).2 mq;replace dq:=dq.le (by decide) s6.le;replace kH:=kH.le s6.le;replace hM:=s6.lt hM;have:=S.size;replace S:=S.trans s6 (fun k hk h=>by have h:_=_:=h;subst h;first|(exfalso;omega)|(show _≤_;omega)|exact⟨by first|omega|assumption,(S.mem _ hk).1 ((s6.mem _ (ak nT)).1 mq)⟩|exact .inl rfl|exact .inr rfl|exact .inr (.inl rfl)|exact .inr (.inr rfl)|exact .inr (.inr (.inl rfl))|exact rfl);have Rn:=g6;clear nT;have nT:=Rn;clear Rn;refine ab (aj (ae (bO (o':=1) cw rfl rfl I9 (by decide) rfl rfl (aP aJ rfl rfl rfl (by assumption) rfl ?_))));refine aW rfl rfl acX (IS _ hM qH.2) (fun r7 w7 hc=>?_);obtain⟨⟨u7,rfl,hu7⟩,s7⟩:=hc;have:=ak nT;replace mq:=(s7.mem _ this).2 mq;replace nT:=s7.aK nT;replace dq:=dq.le (by decide) s7.le;replace kH:=kH.le s7.le;replace hM:=s7.lt hM;have:=S.size;replace S:=S.aB s7;refine ad rfl rfl (bV rfl rfl rfl (bV rfl rfl rfl (ah rfl rfl (ah rfl rfl (ab (aj (aZ (aj (ae (bO (o':=0) cw rfl rfl I9 (by decide) rfl rfl (aP aJ rfl rfl rfl (by assumption) rfl ?_)))))))))));refine aW rfl rfl acY (IV x.1 (by omega) _) (fun r8 w8 hc=>?_);obtain⟨rfl,s8_⟩:=hc;have s8:=s8_ Db;have:=ak nT;replace mq:=(s8.mem _ this).2 mq;replace nT:=s8.aK nT;replace dq:=dq.le (by decide) s8.le;replace kH:=kH.le s8.le;replace hM:=s8.lt hM
    have:=S.size;replace S:=S.aB s8;refine mJ rfl rfl (aU (v':= .bool (decide (gj x.1=false))) (by cases gj x.1<;>rfl) (ah rfl rfl (ab ?_)));refine bN rfl (fun c8=>?_) (fun c8=>?_)
    ·refine aj (ae (ah rfl rfl (ab (aQ ?_))));exact aV rfl rfl ⟨by rw[FK,ky,if_pos (by assumption)],S.back⟩
    ·refine aj (ae ?_);refine aL (M:=Db) (A:=RT.dc) (B:=(RT.fd).sl) a8 rfl rfl uP (by decide) (IT) rfl rfl (by decide) (by assumption) (by repeat (first|exact aq _ _|refine aY (bu (by assumption)) ?_)) (fun Yi T5=>?_);refine bT (M:=Db) bz rfl rfl rfl rfl rfl (by assumption) (by repeat (first|exact aq _ _|refine aY (bu (by assumption)) ?_)) (fun Yj Ln=>?_);refine ad rfl rfl ?_;refine Rg.OU bz kz rfl rfl rfl Ln (by omega) (fun u10 Yk=>?_);rw[ay]at Yk;refine j5 (xs:=[]) (ys:=[.tmp 5]) rfl rfl rfl ?_;refine aW rfl rfl acZ (Da _ hM Yk nT mq) (fun r10 w10 hc=>?_);obtain⟨rfl,Cl⟩:=hc;have:=ak nT;replace mq:=(Cl.mem _ this).2 mq;replace nT:=Cl.aK nT;replace dq:=dq.le (by decide) Cl.le;replace kH:=kH.le Cl.le;replace hM:=Cl.lt hM;have:=S.size;replace S:=S.aB Cl;refine ah rfl rfl (aU (v':= .bool (decide (((d.2.take i).any fun g=>decide (g.1=x.1))=true))) (by cases((d.2.take i).any fun g=>decide (g.1=x.1))<;>rfl) (ab ?_));refine bN rfl (fun c10=>?_) (fun c10=>?_)
     ·refine aj (ae (ah rfl rfl (ab (aQ ?_))));exact aV rfl rfl ⟨by rw[FK,ky,if_neg (by assumption),if_pos (by assumption)],S.back⟩
     ·refine aj (ae (ad rfl rfl (fe rfl rfl rfl (ah rfl rfl (ab ?_)))));refine bN rfl (fun Pp=>?_) (fun Pp=>?_)
      ·refine aj (ae (ad rfl rfl (ah rfl rfl (ab (aQ ?_)))));exact aV rfl rfl ⟨by rw[FK,ky,if_neg (by assumption),if_neg (by assumption),if_pos (by assumption)];rfl,S.back⟩
      ·refine aT (ae (ad rfl rfl ?_));have Ro:mn 0 (words x.2)=0:=Classical.not_not.1 Pp;obtain⟨a,cap,rfl⟩:=hu7 Ro;have hwl:=qJ x.2;refine ad rfl rfl (Rg.oM Tryz.underlying212 rfl rfl (bD rfl rfl rfl (by omega) (ah rfl rfl (ab (ae (bD rfl rfl rfl (by omega) (ad rfl rfl (ab ?_))))))));refine⟨rfl,(i+1,n+(words x.2).length),(.cons rfl (.cons rfl (.cons rfl (.cons rfl (.cons rfl .nil))))),?_,?_⟩
       ·exact⟨_,hM,S,dq,kH,by rw[FK,ky,if_neg (by assumption),if_neg (by assumption),if_neg Pp],by dsimp only;omega,by dsimp only;omega⟩
       ·dsimp only;omega
   ·refine cI (aj (aj (ae (ad rfl rfl (jv rfl rfl rfl (ab ?_))))));refine bN rfl (fun WO=>?_) (fun WO=>?_)
    ·refine aj (ae (ah rfl rfl (ab (aQ ?_))));exact aV rfl rfl ⟨by rw[FK,tD (by omega),if_pos (by omega)],S.back⟩
    ·refine aT (aj (ae (ah rfl rfl (ab (aQ ?_)))));exact aV rfl rfl ⟨by rw[FK,tD (by omega),if_neg (by omega)],S.back⟩
end Go.K

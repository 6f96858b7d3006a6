/- What the law 'MergeNone' needs of walks and plain Lean, part 2: nothing is assumed beyond the texts that it imports. -/
import Derived.ChangeKeysEq
import Derived.Ground.Names2Prog
import Derived.KernelRfl
import Derived.Laws.IdiomCopy
import Derived.Laws.MakeOwn
import Derived.Laws.StructEq
import Derived.Lib.RuneBytes
import Derived.Lib.SliceRun
import Derived.Maps.OwnSet
import Derived.Shelf.SlGeneric
import Derived.Shelf.Slices.SearchI
import Derived.Shelf.Small.Strs
import Derived.Shelf.Small.Utf8
import Derived.Shelf.Strings.Builder1
import Derived.Shelf.Strings.BuilderRune
import Derived.Shelf.Strings.SlTrimAscii
import Derived.Test.YtbobcaffmbaadaaGreatDoorProg
import Derived.Test.YtbobcaffmbaadaaGreatDoorZMergeNone1
set_option linter.unusedVariables false
set_option linter.unusedSimpArgs false
theorem ab:type_of% @Go.K.Rg.nil:=@Go.K.Rg.nil
theorem ad:type_of% @Go.K.Rg.move:=@Go.K.Rg.move
theorem ae:type_of% @Go.K.T.region:=@Go.K.T.region
theorem ah:type_of% @Go.K.Rg.assign:=@Go.K.Rg.assign
theorem aj:type_of% @Go.K.T.seq:=@Go.K.T.seq
theorem al:type_of% @Go.K.Rg.aG:=@Go.K.Rg.aG
theorem an:type_of% @Go.Proofs.Tryz.underlying37:=@Go.Proofs.Tryz.underlying37
theorem ao:type_of% @List.getElem?_eq_some_iff:=@List.getElem?_eq_some_iff
theorem aq:type_of% @Go.K.Le.refl:=@Go.K.Le.refl
theorem ar:type_of% @List.getElem?_eq_getElem:=@List.getElem?_eq_getElem
theorem au:type_of% @Go.K.Rg.bO:=@Go.K.Rg.bO
theorem aw:type_of% @Go.K.Step.refl:=@Go.K.Step.refl
theorem ax:type_of% @Go.Proofs.Tryz.underlying3:=@Go.Proofs.Tryz.underlying3
theorem ay:type_of% @Int.toNat_natCast:=@Int.toNat_natCast
theorem az:type_of% @List.getD_eq_getElem?_getD:=@List.getD_eq_getElem?_getD
theorem aA:type_of% @List.mem_of_getElem?:=@List.mem_of_getElem?
theorem aE:type_of% @Go.K.Rg.bz:=@Go.K.Rg.bz
theorem aF:type_of% @Go.K.bL.cons:=@Go.K.bL.cons
theorem aH:type_of% @Option.some.inj:=@Option.some.inj
theorem aI:type_of% @Go.Proofs.Tryz.underlying57:=@Go.Proofs.Tryz.underlying57
theorem aJ:type_of% @Go.Proofs.Tryz.underlying9:=@Go.Proofs.Tryz.underlying9
theorem aL:type_of% @List.length_map:=@List.length_map
theorem aM:type_of% @Go.K.Rg.bR:=@Go.K.Rg.bR
theorem aN:type_of% @Go.K.Rg.fieldAddr:=@Go.K.Rg.fieldAddr
theorem aO:type_of% @Go.K.T.ret:=@Go.K.T.ret
theorem aQ:type_of% @Go.K.Rg.bA:=@Go.K.Rg.bA
theorem aT:type_of% @Nat.le_refl:=@Nat.le_refl
theorem aU:type_of% @Go.K.T.skip:=@Go.K.T.skip
theorem aV:type_of% @Go.K.Rg.eqv:=@Go.K.Rg.eqv
theorem aW:type_of% @List.take_of_length_le:=@List.take_of_length_le
theorem aX:type_of% @Go.K.Rg.call:=@Go.K.Rg.call
theorem aY:type_of% @Go.K.Rg.bZ:=@Go.K.Rg.bZ
theorem aZ:type_of% @Go.K.T.block:=@Go.K.T.block
theorem a8:type_of% @Go.K.Le.trans:=@Go.K.Le.trans
theorem bg:type_of% @Go.Proofs.Tryz.underlying69:=@Go.Proofs.Tryz.underlying69
theorem bj:type_of% @List.length_append:=@List.length_append
theorem bm:type_of% @Go.Proofs.Tryz.underlying72:=@Go.Proofs.Tryz.underlying72
theorem br:type_of% @Go.Proofs.Tryz.underlying80:=@Go.Proofs.Tryz.underlying80
theorem bu:type_of% @Go.Proofs.Tryz.underlying67:=@Go.Proofs.Tryz.underlying67
theorem bB:type_of% @List.mem_iff_getElem?:=@List.mem_iff_getElem?
theorem bC:type_of% @List.getElem?_map:=@List.getElem?_map
theorem bD:type_of% @Go.K.Step.le:=@Go.K.Step.le
theorem bE:type_of% @Nat.zero_le:=@Nat.zero_le
theorem bF:type_of% @Go.K.Rg.cY:=@Go.K.Rg.cY
theorem bG:type_of% @Go.K.Rg.ch:=@Go.K.Rg.ch
theorem bH:type_of% @List.length_take:=@List.length_take
theorem bI:type_of% @Go.Proofs.Tryz.underlying83:=@Go.Proofs.Tryz.underlying83
theorem bJ:type_of% @List.mem_singleton:=@List.mem_singleton
theorem bK:type_of% @List.take_add_one:=@List.take_add_one
theorem bM:type_of% @Go.K.Rg.cE:=@Go.K.Rg.cE
theorem bN:type_of% @Go.K.T.dO:=@Go.K.T.dO
theorem bP:type_of% @List.mem_cons_self:=@List.mem_cons_self
theorem bQ:type_of% @Go.Proofs.Tryz.underlying204:=@Go.Proofs.Tryz.underlying204
theorem bS:type_of% @Go.K.Rg.nilCheck:=@Go.K.Rg.nilCheck
theorem bT:type_of% @Go.K.Rg.load:=@Go.K.Rg.load
theorem bU:type_of% @Bool.and_eq_true:=@Bool.and_eq_true
theorem bV:type_of% @Go.Proofs.Tryz.underlying180:=@Go.Proofs.Tryz.underlying180
theorem bW:type_of% @Go.K.Rg.extract:=@Go.K.Rg.extract
theorem bY:type_of% @List.length_replicate:=@List.length_replicate
theorem b9:type_of% @List.mem_cons_of_mem:=@List.mem_cons_of_mem
theorem ca:type_of% @List.mem_map:=@List.mem_map
theorem cb:type_of% @Go.K.Rg.cH:=@Go.K.Rg.cH
theorem cf:type_of% @List.mem_cons:=@List.mem_cons
theorem cj:type_of% @Go.K.Rg.gx:=@Go.K.Rg.gx
theorem ck:type_of% @Go.Sem.run_bind:=@Go.Sem.run_bind
theorem cn:type_of% @List.getElem?_take:=@List.getElem?_take
theorem cp:type_of% @List.mem_append:=@List.mem_append
theorem cq:type_of% @Go.K.Rg.ei:=@Go.K.Rg.ei
theorem cu:type_of% @Go.K.Rg.dq:=@Go.K.Rg.dq
theorem cv:type_of% @Go.Proofs.Tryz.underlying166:=@Go.Proofs.Tryz.underlying166
theorem cw:type_of% @Go.Proofs.Tryz.underlying124:=@Go.Proofs.Tryz.underlying124
theorem cx:type_of% @Go.Proofs.Tryz.underlying5:=@Go.Proofs.Tryz.underlying5
theorem cy:type_of% @Go.K.Rg.idx:=@Go.K.Rg.idx
theorem cz:type_of% @List.pairwise_map:=@List.pairwise_map
theorem cB:type_of% @Go.Result.andThen_ok:=@Go.Result.andThen_ok
theorem cC:type_of% @List.pairwise_iff_getElem:=@List.pairwise_iff_getElem
theorem cD:type_of% @Go.K.eh.cons:=@Go.K.eh.cons
theorem cG:type_of% @Go.K.T.exit:=@Go.K.T.exit
theorem cI:type_of% @Nat.lt_or_ge:=@Nat.lt_or_ge
theorem cJ:type_of% @Decidable.not_not:=@Decidable.not_not
theorem cK:type_of% @Go.Proofs.Tryz.underlying119:=@Go.Proofs.Tryz.underlying119
theorem cM:type_of% @List.length_cons:=@List.length_cons
theorem cR:type_of% @List.length_eq_zero_iff:=@List.length_eq_zero_iff
theorem cT:type_of% @Option.toList_some:=@Option.toList_some
theorem cV:type_of% @Bool.eq_false_iff:=@Bool.eq_false_iff
theorem cW:type_of% @Go.K.Step.aK:=@Go.K.Step.aK
theorem cX:type_of% @Go.K.Rg.dJ:=@Go.K.Rg.dJ
theorem cZ:type_of% @Go.K.Rg.append:=@Go.K.Rg.append
theorem dd:type_of% @Option.map_some:=@Option.map_some
theorem de:type_of% @Go.K.T.loop:=@Go.K.T.loop
theorem dj:type_of% @Go.Proofs.Tryz.underlying178:=@Go.Proofs.Tryz.underlying178
theorem dp:type_of% @List.getElem?_set:=@List.getElem?_set
theorem du:type_of% @List.length_drop:=@List.length_drop
theorem dw:type_of% @Go.Proofs.Tryz.underlying58:=@Go.Proofs.Tryz.underlying58
theorem dx:type_of% @Array.getElem?_setIfInBounds:=@Array.getElem?_setIfInBounds
theorem dB:type_of% @List.drop_eq_getElem_cons:=@List.drop_eq_getElem_cons
theorem dC:type_of% @Go.K.Rg.dG:=@Go.K.Rg.dG
theorem dD:type_of% @Eq.symm:=@Eq.symm
theorem dF:type_of% @Go.K.Own.nil:=@Go.K.Own.nil
theorem dH:type_of% @Go.Proofs.Tryz.underlying78:=@Go.Proofs.Tryz.underlying78
theorem dI:type_of% @Go.Proofs.Tryz.underlying183:=@Go.Proofs.Tryz.underlying183
theorem dL:type_of% @Option.some.injEq:=@Option.some.injEq
theorem dP:type_of% @Go.K.Rg.alloc:=@Go.K.Rg.alloc
theorem dQ:type_of% @Go.Proofs.Tryz.underlying153:=@Go.Proofs.Tryz.underlying153
theorem dU:type_of% @List.getElem?_eq_none:=@List.getElem?_eq_none
theorem dV:type_of% @Go.K.Rg.ll:=@Go.K.Rg.ll
theorem dW:type_of% @Go.Proofs.Tryz.underlying71:=@Go.Proofs.Tryz.underlying71
theorem dZ:type_of% @Go.Proofs.Tryz.underlying196:=@Go.Proofs.Tryz.underlying196
theorem ec:type_of% @Prod.mk.injEq:=@Prod.mk.injEq
theorem ed:type_of% @Go.K.Rg.lu:=@Go.K.Rg.lu
theorem ek:type_of% @List.pairwise_cons:=@List.pairwise_cons
theorem ep:type_of% @Go.Proofs.Tryz.underlying207:=@Go.Proofs.Tryz.underlying207
theorem eu:type_of% @List.length_singleton:=@List.length_singleton
theorem ew:type_of% @Go.K.kH.nil:=@Go.K.kH.nil
theorem ey:type_of% @Go.K.bX.load:=@Go.K.bX.load
theorem ez:type_of% @Nat.le_trans:=@Nat.le_trans
theorem eA:type_of% @List.map_append:=@List.map_append
theorem eC:type_of% @List.not_mem_nil:=@List.not_mem_nil
theorem eG:type_of% @Nat.mul_one:=@Nat.mul_one
theorem eJ:type_of% @Go.Proofs.Tryz.underlying46:=@Go.Proofs.Tryz.underlying46
theorem eM:type_of% @Go.K.Rg.mT:=@Go.K.Rg.mT
theorem eN:type_of% @Go.Proofs.Tryz.underlying142:=@Go.Proofs.Tryz.underlying142
theorem eO:type_of% @Go.Proofs.Tryz.underlying121:=@Go.Proofs.Tryz.underlying121
theorem eP:type_of% @Go.Proofs.Tryz.underlying131:=@Go.Proofs.Tryz.underlying131
theorem eQ:type_of% @List.map_cons:=@List.map_cons
theorem eR:type_of% @Bool.true_and:=@Bool.true_and
theorem eZ:type_of% @List.ext_getElem?:=@List.ext_getElem?
theorem fa:type_of% @Nat.lt_trichotomy:=@Nat.lt_trichotomy
theorem fe:type_of% @Go.K.Rg.jy:=@Go.K.Rg.jy
theorem ff:type_of% @Go.Proofs.Tryz.underlying25:=@Go.Proofs.Tryz.underlying25
theorem fm:type_of% @List.length_set:=@List.length_set
theorem fq:type_of% @List.map_toArray:=@List.map_toArray
theorem fu:type_of% @List.all_eq_true:=@List.all_eq_true
theorem fv:type_of% @List.drop_eq_nil_of_le:=@List.drop_eq_nil_of_le
theorem fD:type_of% @Go.Proofs.Tryz.underlying0:=@Go.Proofs.Tryz.underlying0
theorem fE:type_of% @Go.K.Rg.fp:=@Go.K.Rg.fp
theorem fK:type_of% @List.nil_append:=@List.nil_append
theorem fL:type_of% @Nat.zero_add:=@Nat.zero_add
theorem fM:type_of% @Go.K.Rg.gT:=@Go.K.Rg.gT
theorem fN:type_of% @List.mem_filter:=@List.mem_filter
theorem fQ:type_of% @Go.Value.slice.injEq:=@Go.Value.slice.injEq
theorem gj:type_of% @Nat.mul_le_mul_right:=@Nat.mul_le_mul_right
theorem gm:type_of% @Go.IntWalk.u64_in:=@Go.IntWalk.u64_in
theorem gr:type_of% @List.getElem?_replicate:=@List.getElem?_replicate
theorem gu:type_of% @List.mem_append_left:=@List.mem_append_left
theorem gy:type_of% @Go.Proofs.Tryz.underlying139:=@Go.Proofs.Tryz.underlying139
theorem gG:type_of% @Go.Proofs.Tryz.zeroValue0:=@Go.Proofs.Tryz.zeroValue0
theorem gH:type_of% @Go.Proofs.Tryz.zeroValue3:=@Go.Proofs.Tryz.zeroValue3
theorem gI:type_of% @Go.Proofs.Tryz.zeroValue9:=@Go.Proofs.Tryz.zeroValue9
theorem gK:type_of% @Go.K.Rg.qj:=@Go.K.Rg.qj
theorem gO:type_of% @List.drop_of_length_le:=@List.drop_of_length_le
theorem gP:type_of% @Go.K.bX.move:=@Go.K.bX.move
theorem gX:type_of% @List.mem_map_of_mem:=@List.mem_map_of_mem
theorem ie:type_of% @Option.map_none:=@Option.map_none
theorem ik:type_of% @Go.Proofs.Tryz.underlying29:=@Go.Proofs.Tryz.underlying29
theorem il:type_of% @List.getElem?_toArray:=@List.getElem?_toArray
theorem iu:type_of% @Nat.lt_of_lt_of_le:=@Nat.lt_of_lt_of_le
theorem iz:type_of% @Go.K.bX.field:=@Go.K.bX.field
theorem iA:type_of% @Go.K.Part.snd:=@Go.K.Part.snd
theorem iB:type_of% @Go.K.ig.all:=@Go.K.ig.all
theorem iC:type_of% @Go.K.Rg.build:=@Go.K.Rg.build
theorem iG:type_of% @Go.Proofs.Tryz.underlying151:=@Go.Proofs.Tryz.underlying151
theorem iH:type_of% @Go.Proofs.Tryz.underlying205:=@Go.Proofs.Tryz.underlying205
theorem iI:type_of% @Go.Proofs.Tryz.underlying141:=@Go.Proofs.Tryz.underlying141
theorem iJ:type_of% @Go.Proofs.Tryz.underlying133:=@Go.Proofs.Tryz.underlying133
theorem iO:type_of% @Go.Proofs.Tryz.underlying4:=@Go.Proofs.Tryz.underlying4
theorem iU:type_of% @Bool.not_eq_true':=@Bool.not_eq_true'
theorem iW:type_of% @List.append_nil:=@List.append_nil
theorem jd:type_of% @Go.K.Rg.tx:=@Go.K.Rg.tx
theorem je:type_of% @List.getD_cons_zero:=@List.getD_cons_zero
theorem jf:type_of% @List.getD_cons_succ:=@List.getD_cons_succ
theorem jg:type_of% @List.mergeSort_perm:=@List.mergeSort_perm
theorem jt:type_of% @Nat.lt_irrefl:=@Nat.lt_irrefl
theorem jv:type_of% @Go.Proofs.Tryz.zeroValue4:=@Go.Proofs.Tryz.zeroValue4
theorem jE:type_of% @Go.K.T.iff:=@Go.K.T.iff
theorem jF:type_of% @Go.K.eF.refl:=@Go.K.eF.refl
theorem jG:type_of% @List.contains_iff_mem:=@List.contains_iff_mem
theorem jH:type_of% @Array.getElem?_modify:=@Array.getElem?_modify
theorem jP:type_of% @List.getElem?_append_left:=@List.getElem?_append_left
theorem jQ:type_of% @Go.Proofs.Tryz.underlying189:=@Go.Proofs.Tryz.underlying189
theorem jR:type_of% @Go.Proofs.Tryz.underlying155:=@Go.Proofs.Tryz.underlying155
theorem jS:type_of% @Go.Proofs.Tryz.underlying198:=@Go.Proofs.Tryz.underlying198
theorem jZ:type_of% @List.length_nil:=@List.length_nil
theorem j4:type_of% @Go.IntWalk.i64_in:=@Go.IntWalk.i64_in
theorem j5:type_of% @List.map_nil:=@List.map_nil
theorem j6:type_of% @Go.Proofs.Tryz.sizeOf0:=@Go.Proofs.Tryz.sizeOf0
theorem j7:type_of% @Go.Proofs.Tryz.sizeOf3:=@Go.Proofs.Tryz.sizeOf3
theorem j8:type_of% @Go.Proofs.Tryz.sizeOf9:=@Go.Proofs.Tryz.sizeOf9
theorem kb:type_of% @Go.K.Rg.makeFunc:=@Go.K.Rg.makeFunc
theorem kK:type_of% @List.cons_append:=@List.cons_append
theorem kL:type_of% @Bool.false_and:=@Bool.false_and
theorem lr:type_of% @Nat.eq_or_lt_of_le:=@Nat.eq_or_lt_of_le
theorem lB:type_of% @Go.Proofs.Tryz.isAgg0:=@Go.Proofs.Tryz.isAgg0
theorem lC:type_of% @Go.Proofs.Tryz.isAgg3:=@Go.Proofs.Tryz.isAgg3
theorem lD:type_of% @Go.Proofs.Tryz.isAgg9:=@Go.Proofs.Tryz.isAgg9
theorem lH:type_of% @Go.K.Rg.not:=@Go.K.Rg.not
theorem lI:type_of% @Bool.eq_iff_iff:=@Bool.eq_iff_iff
theorem l2:type_of% @Go.Proofs.Tryz.underlying217:=@Go.Proofs.Tryz.underlying217
theorem l3:type_of% @List.length_filter_le:=@List.length_filter_le
theorem mN:type_of% @Go.K.sM.nil:=@Go.K.sM.nil
theorem mP:type_of% @Go.K.Part.fst:=@Go.K.Part.fst
theorem mQ:type_of% @Go.K.T.jC:=@Go.K.T.jC
theorem nw:type_of% @Nat.pow_le_pow_right:=@Nat.pow_le_pow_right
theorem ny:type_of% @List.pairwise_append:=@List.pairwise_append
theorem nP:type_of% @Go.Addr.mk.injEq:=@Go.Addr.mk.injEq
theorem nQ:type_of% @Go.K.T.tD:=@Go.K.T.tD
theorem nV:type_of% @Nat.mod_eq_of_lt:=@Nat.mod_eq_of_lt
theorem nW:type_of% @Go.Proofs.Tryz.sizeOf4:=@Go.Proofs.Tryz.sizeOf4
theorem nX:type_of% @Go.K.Rg.Aa:=@Go.K.Rg.Aa
theorem nY:type_of% @Go.K.Rg.iK:=@Go.K.Rg.iK
theorem oM:type_of% @List.take_succ_cons:=@List.take_succ_cons
theorem oN:type_of% @List.length_pos_iff:=@List.length_pos_iff
theorem pV:type_of% @List.eq_of_mem_replicate:=@List.eq_of_mem_replicate
theorem qb:type_of% @Bool.or_eq_true:=@Bool.or_eq_true
theorem qd:type_of% @List.idxOf_cons:=@List.idxOf_cons
theorem qh:type_of% @BitVec.toNat_ofInt:=@BitVec.toNat_ofInt
theorem qU:type_of% @List.getElem?_cons_zero:=@List.getElem?_cons_zero
theorem rq:type_of% @Go.K.gv.nil:=@Go.K.gv.nil
theorem rr:type_of% @Go.K.Rg.mZ:=@Go.K.Rg.mZ
theorem rO:type_of% @Go.Proofs.Tryz.isAgg4:=@Go.Proofs.Tryz.isAgg4
theorem su:type_of% @List.take_succ_eq_append_getElem:=@List.take_succ_eq_append_getElem
theorem sw:type_of% @List.flatMap_cons:=@List.flatMap_cons
theorem sx:type_of% @Go.K.Rg.conv:=@Go.K.Rg.conv
theorem sy:type_of% @List.foldl_append:=@List.foldl_append
theorem sC:type_of% @Go.Proofs.Tryz.underlying190:=@Go.Proofs.Tryz.underlying190
theorem sG:type_of% @Go.Proofs.Tryz.underlying209:=@Go.Proofs.Tryz.underlying209
theorem sH:type_of% @Go.K.bL.nil:=@Go.K.bL.nil
theorem tC:type_of% @Go.Proofs.Tryz.zeroValue5:=@Go.Proofs.Tryz.zeroValue5
theorem uP:type_of% @List.take_append_drop:=@List.take_append_drop
theorem uQ:type_of% @List.Pairwise.sublist:=@List.Pairwise.sublist
theorem uU:type_of% @List.any_eq_true:=@List.any_eq_true
theorem uV:type_of% @List.getElem_mem:=@List.getElem_mem
theorem uW:type_of% @List.mem_flatMap:=@List.mem_flatMap
theorem wy:type_of% @Go.Proofs.Tryz.underlying26:=@Go.Proofs.Tryz.underlying26
theorem xh:type_of% @Prod.ext:=@Prod.ext
theorem xi:type_of% @Go.Addr.add_mid:=@Go.Addr.add_mid
theorem xj:type_of% @Go.K.Rg.box:=@Go.K.Rg.box
theorem xk:type_of% @Go.World.putObj_heap_same:=@Go.World.putObj_heap_same
theorem xl:type_of% @List.mem_iff_getElem:=@List.mem_iff_getElem
theorem xF:type_of% @Go.K.Own.close:=@Go.K.Own.close
theorem xG:type_of% @Go.K.Rg.me:=@Go.K.Rg.me
theorem xY:type_of% @Nat.min_eq_left:=@Nat.min_eq_left
theorem zX:type_of% @Int.toNat_of_nonneg:=@Int.toNat_of_nonneg
theorem zY:type_of% @Array.length_toList:=@Array.length_toList
theorem zZ:type_of% @List.filter_sublist:=@List.filter_sublist
theorem Af:type_of% @Go.World.size_alloc:=@Go.World.size_alloc
namespace Go.K
def put (n:Nat):List UInt8:=if n<128 then[UInt8.ofNat n]else UInt8.ofNat (128+n%128)::put (n/128)
termination_by n
decreasing_by omega
theorem ym {n:Nat} (h:n<128):put n=[UInt8.ofNat n]:=by rw[put,if_pos h]
theorem FV {n:Nat} (h:128≤n):put n=UInt8.ofNat (128+n%128)::put (n/128):=by rw[put,if_neg (by omega)]
theorem Pz (n:Nat):0<(put n).length:=by rw[put];split<;>simp
theorem PA {k:Nat}:∀{n:Nat},n<128^(k+1)→(put n).length≤k+1:=by
 induction k with
 |zero=>intro n h;rw[ym (by simpa using h)];simp
 |succ k ih=>
  intro n h;by_cases h1:n<128
  ·rw[ym h1];simp
  ·rw[FV (by omega)];have:=ih (n:=n/128) (by rw[Nat.pow_succ]at h;omega);simp;omega
theorem lf {n:Nat} (h:n≤9223372036854775807):(put n).length≤9:=PA (k:=8) (by omega)
def od:List UInt8→Nat→Nat→Option (Nat×Nat)
 |[],_,_=>none
 |c::cs,i,n=>if c.toNat<128 then(if c.toNat=0∧0<i then none else some (n+c.toNat%128*128^i,i+1))else od cs (i+1) (n+c.toNat%128*128^i)
def get (b:List UInt8) (at_:Int):Int×Int×Int:=
 if at_<0∨(b.length:Int)<at_ then(0,0,1)
 else match od ((b.drop at_.toNat).take 9) 0 0 with
  |some (n,k)=>(n,at_+k,0)
  |none=>(0,0,2)
theorem oe {bs:List UInt8} {k:Nat} {c:UInt8} (h:bs[k]? =some c) (n:Nat):od (bs.drop k) k n=
  if c.toNat<128 then(if c.toNat=0∧0<k then none else some (n+c.toNat%128*128^k,k+1))else od (bs.drop (k+1)) (k+1) (n+c.toNat%128*128^k):=by
 obtain⟨dR,he⟩:=ao.1 h;rw[dB dR,od,he]
theorem TN (b:List UInt8) (i:Nat):(b.take (min b.length (i+9))).drop i=(b.drop i).take 9:=by
 rw[List.drop_take,List.take_eq_take_iff];simp;omega
def val:List UInt8→Nat
 |[]=>0
 |c::cs=>c.toNat%128+128*val cs
def eo:Int→List Int→Bool
 |_,[]=>true
 |last,x::l=>decide (last<x)&&eo x l
def lK:Int→List Int→List UInt8
 |_,[]=>[]
 |last,x::l=>put (x-last-1).toNat++lK x l
def eD (l:List Int):List UInt8:=put l.length++lK (-1) l
def Rz:Int→List Int→List Int
 |_,[]=>[]
 |last,x::l=>let m:=if x<0 then-(x+1)else x;(last+1+m%1000)::Rz (last+1+m%1000) l
def good (l:List Int) (most:Nat):List Int:=Rz (-1) (l.take most)
theorem vw {b:List UInt8} {at_:Int} (h:(get b at_).2.2=0):0≤at_∧at_<(get b at_).2.1∧(get b at_).2.1≤b.length∧0≤(get b at_).1∧(get b at_).1<9223372036854775808:=by
 unfold get at h ⊢
 split at h
 ·simp at h
 rename_i hr
 rw[if_neg hr]at*
 have key:∀(bs:List UInt8) (i n m k:Nat),od bs i n=some (m,k)→bs.length+i≤9→n<128^i→i<k∧k≤i+bs.length∧m<128^k:=by
  intro bs
  induction bs with
  |nil=>intro i n m k h;simp[od]at h
  |cons c cs ih=>
   intro i n m k h hl hn
   have hd:n+c.toNat%128*128^i<128^(i+1):=by
    have:=gj (128^i) (show c.toNat%128≤127 from by omega);rw[Nat.pow_succ];omega
   simp only[od]at h
   split at h
   ·split at h
    ·cases h
    ·cases h;exact⟨by omega,by simp,hd⟩
   ·obtain⟨h1,h2,h3⟩:=ih (i+1) _ m k h (by simp at hl;omega) hd;exact⟨by omega,by simp;omega,h3⟩
 cases hg:od ((b.drop at_.toNat).take 9) 0 0 with
 |none=>simp[hg]at h
 |some p=>
  obtain⟨m,k⟩:=p;have hlen:((b.drop at_.toNat).take 9).length≤9∧((b.drop at_.toNat).take 9).length≤b.length-at_.toNat:=by rw[bH,du];omega
  obtain⟨h1,h2,h3⟩:=key _ 0 0 m k hg (by omega) (by decide);have hp:128^k≤128^9:=nw (by decide) (by omega);simp only;omega
def iF (b:List UInt8):Nat→Int→Int→Int×List Int×Int
 |0,at_,_=>(0,[],at_)
 |k+1,at_,last=>
  if(get b at_).2.2≠0 then((get b at_).2.2,[],0)
  else if 4611686018427387904-last-1<(get b at_).1 then(2,[],0)
  else if(iF b k (get b at_).2.1 (last+1+(get b at_).1)).1≠0 then((iF b k (get b at_).2.1 (last+1+(get b at_).1)).1,[],0)
  else(0,(last+1+(get b at_).1)::(iF b k (get b at_).2.1 (last+1+(get b at_).1)).2.1,(iF b k (get b at_).2.1 (last+1+(get b at_).1)).2.2)
def gY (b:List UInt8) (at_:Int):Int×List Int×Int:=
 if(get b at_).2.2≠0 then((get b at_).2.2,[],0)else iF b (get b at_).1.toNat (get b at_).2.1 (-1)
theorem gA {l:List Int} {k:Nat} {x:Int} (h:l[k]? =some x) (last:Int):eo last (l.drop k)=(decide (last<x)&&eo x (l.drop (k+1))):=by
 obtain⟨dR,he⟩:=ao.1 h;rw[dB dR,eo,he]
theorem IV {l:List Int} {k:Nat} {x:Int} (h:l[k]? =some x) (last:Int):lK last (l.drop k)=put (x-last-1).toNat++lK x (l.drop (k+1)):=by
 obtain⟨dR,he⟩:=ao.1 h;rw[dB dR,lK,he]
theorem yn:∀(l:List Int) (last:Int),-1≤last→(∀x∈l,x≤9223372036854775807)→eo last l=true→(lK last l).length≤9*l.length
 |[],_,_,_,_=>by simp[lK]
 |x::l,last,h1,h2,h3=>by
  simp only[eo,bU,decide_eq_true_eq]at h3;have hx:=h2 x (bP ..);have h4:=yn l x (by omega) (fun y hy=>h2 y (b9 _ hy)) h3.2;have h5:=lf (n:=(x-last-1).toNat) (by omega);simp only[lK,bj,cM];omega
theorem yo (b:List UInt8) (a last:Int):iF b 0 a last=(0,[],a):=rfl
theorem sT {b:List UInt8} {k:Nat} {a last:Int} (h:(get b a).2.2≠0):iF b (k+1) a last=((get b a).2.2,[],0):=by rw[iF,if_pos h]
theorem vz {b:List UInt8} {k:Nat} {a last:Int} (h:(get b a).2.2=0) (h2:4611686018427387904-last-1<(get b a).1):iF b (k+1) a last=(2,[],0):=by
 rw[iF,if_neg (by simpa using h),if_pos h2]
theorem yp {b:List UInt8} {k:Nat} {a last:Int} (h:(get b a).2.2=0) (h2: ¬4611686018427387904-last-1<(get b a).1):iF b (k+1) a last=
  if(iF b k (get b a).2.1 (last+1+(get b a).1)).1≠0 then((iF b k (get b a).2.1 (last+1+(get b a).1)).1,[],0)
  else(0,(last+1+(get b a).1)::(iF b k (get b a).2.1 (last+1+(get b a).1)).2.1,(iF b k (get b a).2.1 (last+1+(get b a).1)).2.2):=by
 rw[iF,if_neg (by simpa using h),if_neg h2]
def andThen (acc:List Int) (r:Int×List Int×Int):Int×List Int×Int:=if r.1≠0 then(r.1,[],0)else(0,acc++r.2.1,r.2.2)
theorem oV {b:List UInt8} {k:Nat} {a last:Int} (acc:List Int) (h:(get b a).2.2=0) (h2: ¬4611686018427387904-last-1<(get b a).1):
  andThen acc (iF b (k+1) a last)=andThen (acc++[last+1+(get b a).1]) (iF b k (get b a).2.1 (last+1+(get b a).1)):=by
 rw[yp h h2];unfold andThen;by_cases h3:(iF b k (get b a).2.1 (last+1+(get b a).1)).1=0<;>simp[h3]
theorem Dh (r:Int×List Int×Int) (h:r.1≠0→r.2=([],0)):andThen [] r=r:=by
 unfold andThen;by_cases h3:r.1=0
 ·rw[if_neg (by simpa using h3)];ext<;>simp[h3]
 ·rw[if_pos h3,←h h3]
theorem IW (b:List UInt8):∀(k:Nat) (a last:Int),(iF b k a last).1≠0→(iF b k a last).2=([],0)
 |0,a,last,h=>by simp[iF]at h
 |k+1,a,last,h=>by
  rw[iF]at h ⊢
  split
  ·rfl
  ·rename_i h1;rw[if_neg h1]at h
   split
   ·rfl
   ·rename_i h2;rw[if_neg h2]at h
    split
    ·rfl
    ·rename_i h3;rw[if_neg h3]at h;simp at h
theorem oW (b:List UInt8) (a:Int):0≤(get b a).1∧0≤(get b a).2.2∧(get b a).2.2≤2∧((get b a).2.2≠0→(get b a).1=0∧(get b a).2.1=0):=by
 unfold get
 split
 ·simp
 ·split<;>simp<;>omega
theorem AV (b:List UInt8) (a:Int):(get b a).1≤9223372036854775807:=by
 by_cases h:(get b a).2.2=0
 ·have:=vw h;omega
 ·have:=(oW b a).2.2.2 h;omega
theorem KX:∀(k m i acc:Nat) (post:List UInt8),m<128^(k+1)→(0<i→m≠0)→od ((put m++post).take (k+1)) i acc=some (acc+m*128^i,i+(put m).length):=by
 intro k
 induction k with
 |zero=>
  intro m i acc post h h0;have hm:m<128:=by simpa using h
  have e:(UInt8.ofNat m).toNat=m:=by rw[UInt8.toNat_ofNat'];omega
  rw[ym hm];simp only[kK,fK,oM,od,e];rw[if_pos hm,if_neg (by omega),nV hm];rfl
 |succ k ih=>
  intro m i acc post h h0;by_cases hm:m<128
  ·have e:(UInt8.ofNat m).toNat=m:=by rw[UInt8.toNat_ofNat'];omega
   rw[ym hm];simp only[kK,fK,oM,od,e];rw[if_pos hm,if_neg (by omega),nV hm];rfl
  ·have e:(UInt8.ofNat (128+m%128)).toNat=128+m%128:=by rw[UInt8.toNat_ofNat'];omega
   rw[FV (by omega)];simp only[kK,oM,od,e];rw[if_neg (by omega),ih (m/128) (i+1) _ post (by rw[Nat.pow_succ]at h;omega) (by omega)];have h2:(128+m%128)%128=m%128:=by omega
   rw[h2,Nat.pow_succ];congr 2
   ·have h3:m=m%128+128*(m/128):=by omega
    have h4:m*128^i=(m%128)*128^i+(m/128)*(128^i*128):=by
     conv=>lhs;rw[h3]
     rw[Nat.add_mul,Nat.mul_comm 128 (m/128),Nat.mul_assoc,Nat.mul_comm 128 (128^i)]
    omega
   ·simp;omega
theorem BO (pre post:List UInt8) {n:Nat} (hn:n≤9223372036854775807):get (pre++put n++post) pre.length=((n:Int),((pre.length+(put n).length:Nat):Int),0):=by
 unfold get;rw[if_neg (by simp;omega)]
 have h1:((pre++put n++post).drop (pre.length:Int).toNat).take 9=(put n++post).take (8+1):=by
  rw[ay,List.append_assoc,List.drop_left]
 rw[h1,KX 8 n 0 0 post (by omega) (by omega)];simp
theorem AW:∀(l:List Int) (pre post:List UInt8) (last:Int),-1≤last→eo last l=true→(∀x∈l,x≤4611686018427387904)→
  iF (pre++lK last l++post) l.length pre.length last=(0,l,((pre.length+(lK last l).length:Nat):Int))
 |[],pre,post,last,_,_,_=>by simp[lK,iF]
 |x::l,pre,post,last,h1,h2,h3=>by
  simp only[eo,bU,decide_eq_true_eq]at h2;have hx:=h3 x (bP ..);have e0:pre++lK last (x::l)++post=pre++put (x-last-1).toNat++(lK x l++post):=by simp[lK]
  have e1:=BO pre (lK x l++post) (n:=(x-last-1).toNat) (by omega);have e2:pre++put (x-last-1).toNat++(lK x l++post)=(pre++put (x-last-1).toNat)++lK x l++post:=by simp
  have ih:=AW l (pre++put (x-last-1).toNat) post x (by omega) h2.2 (fun y hy=>h3 y (b9 _ hy));rw[e0,cM,yp (by rw[e1]) (by rw[e1];simp only;omega),e1];simp only;have e3:last+1+(((x-last-1).toNat:Nat):Int)=x:=by omega
  rw[e3,e2,show((pre.length+(put (x-last-1).toNat).length:Nat):Int)=((pre++put (x-last-1).toNat).length:Int)from by simp,ih];simp[lK];omega
theorem Ak (pre post:List UInt8) {l:List Int} (hr:eo (-1) l=true) (h3:∀x∈l,x≤4611686018427387904) (hl:l.length≤9223372036854775807):
  gY (pre++eD l++post) pre.length=(0,l,((pre.length+(eD l).length:Nat):Int)):=by
 have e0:pre++eD l++post=pre++put l.length++(lK (-1) l++post):=by simp[eD]
 have e1:=BO pre (lK (-1) l++post) (n:=l.length) hl;have e2:pre++put l.length++(lK (-1) l++post)=(pre++put l.length)++lK (-1) l++post:=by simp
 unfold gY;rw[e0,e1,if_neg (by simp)];simp only;have:=AW l (pre++put l.length) post (-1) (by omega) hr h3;rw[e2,show((pre.length+(put l.length).length:Nat):Int)=((pre++put l.length).length:Int)from by simp,ay,this];simp[eD];omega
end Go.K
namespace Go.K
abbrev Po:=Int×List Int
abbrev Bl:=Int×Int×Int×Int
abbrev Li:=List UInt8×List Bl×Int
abbrev RT.po:RT Po:=RT.pair (RT.int .i64) ((RT.int .i64).sl)
abbrev RT.bl:RT Bl:=RT.pair (RT.int .i64) (RT.pair (RT.int .i64) (RT.pair (RT.int .i64) (RT.int .i64)))
abbrev RT.li:RT Li:=RT.pair (RT.u8.sl) (RT.pair ((RT.bl).sl) (RT.int .i64))
theorem O0:Part RT.po (RT.int .i64) (fun p=>p.1) 0:=mP _ _
theorem TO:Part RT.po ((RT.int .i64).sl) (fun p=>p.2) 1:=iA _ _
theorem bl0:Part RT.bl (RT.int .i64) (fun b=>b.1) 0:=mP _ _
theorem bl1:Part RT.bl (RT.int .i64) (fun b=>b.2.1) 1:=(iA _ _).trans (mP _ _)
theorem bl3:Part RT.bl (RT.int .i64) (fun b=>b.2.2.2) 3:=(iA _ _).trans ((iA _ _).trans (iA _ _))
theorem li0:Part RT.li (RT.u8.sl) (fun x=>x.1) 0:=mP _ _
theorem li1:Part RT.li ((RT.bl).sl) (fun x=>x.2.1) 1:=(iA _ _).trans (mP _ _)
def W8 (n:Nat) (k:Int):Bool:=decide (0≤k∧k<n)
def dY:Int→List Po→List UInt8
 |_,[]=>[]
 |last,(d,ps)::l=>put (d-last-1).toNat++eD ps++dY d l
def dr:Int→List Po→Int
 |last,[]=>last
 |_,(d,_)::l=>dr d l
def jl (l:List Po):Int:=(l.map fun p=>(p.2.length:Int)).sum
theorem tQ (l l':List Po) (last:Int):dY last (l++l')=dY last l++dY (dr last l) l':=by
 induction l generalizing last with
 |nil=>rfl
 |cons p l ih=>obtain⟨d,ps⟩:=p;simp[dY,dr,ih]
theorem tR (l l':List Po):jl (l++l')=jl l+jl l':=by simp[jl]
def wL (l:List Po) (k:Nat):Bl:=((dY (-1) (l.take (8*k))).length,dr (-1) (l.take (8*k)),dr (-1) (l.take (8*k+8)),((l.drop (8*k)).take 8).length)
def rC (l:List Po) (m:Nat):List Bl:=(List.range m).map (wL l)
def mU (l:List Po):Li:=(dY (-1) l,rC l ((l.length+7)/8),jl l)
def oX (l:List Int):Bool:=eo (-1) l&&l.all (fun n=>decide (n<2147483648))
def fH:Int→List Po→Bool
 |_,[]=>true
 |last,(d,ps)::l=>decide (last<d)&&decide (d<2147483648)&& !ps.isEmpty&&oX ps&&fH d l
theorem BP:∀{l:List Po} {i:Nat} {last d:Int} {ps:List Int},fH last l=true→l[i]? =some (d,ps)→
  dr last (l.take i)<d∧d<2147483648∧ps≠[]∧oX ps=true∧dr last (l.take (i+1))=d∧last≤dr last (l.take i)
 |[],i,_,_,_,_,h=>by simp at h
 |(d0,p0)::l,0,last,d,ps,hm,h=>by
  simp only[qU,dL,ec]at h;obtain⟨rfl,rfl⟩:=h;simp only[fH,bU,decide_eq_true_eq]at hm;obtain⟨⟨⟨⟨h1,h2⟩,h3⟩,h4⟩,h5⟩:=hm;refine⟨h1,h2,?_,h4,by simp[dr],by simp[dr]⟩;rintro rfl;simp at h3
 |(d0,p0)::l,i+1,last,d,ps,hm,h=>by
  simp only[fH,bU,decide_eq_true_eq]at hm;obtain⟨⟨⟨⟨h1,h2⟩,h3⟩,h4⟩,h5⟩:=hm;obtain⟨a1,a2,a3,a4,a5,a6⟩:=BP (i:=i) h5 (by simpa using h);refine⟨by simpa[dr]using a1,a2,a3,a4,by simpa[dr]using a5,?_⟩;simp only[oM,dr];omega
theorem yq {l:List Po} {i:Nat} {d:Int} {ps:List Int} (last:Int) (h:l[i]? =some (d,ps)):
  dY last (l.take (i+1))=dY last (l.take i)++put (d-dr last (l.take i)-1).toNat++eD ps:=by
 obtain⟨h1,h2⟩:=ao.1 h;rw[su h1,h2,tQ];simp[dY]
theorem qo {l:List Po} {i:Nat} (last:Int):dY last l=dY last (l.take i)++dY (dr last (l.take i)) (l.drop i):=by
 conv=>lhs;rw[←uP i l]
 exact tQ _ _ _
theorem oY {l:List Int}:oX l=true↔eo (-1) l=true∧∀x∈l,x<2147483648:=by
 simp[oX]
def rV (b:List UInt8) (at_ ahead:Int):Po×Int×Int:=
 if(get b at_).2.2≠0 then((0,[]),0,(get b at_).2.2)
 else((IntKind.i64.wrap (IntKind.i64.wrap (ahead+1)+(get b at_).1),(gY b (get b at_).2.1).2.1),(gY b (get b at_).2.1).2.2,(gY b (get b at_).2.1).1)
theorem KY {l:List Po} {i:Nat} {d:Int} {ps:List Int} (hm:fH (-1) l=true) (h:l[i]? =some (d,ps)) (hl:ps.length≤1099511627776):
  rV (dY (-1) l) (((dY (-1) (l.take i)).length:Nat):Int) (dr (-1) (l.take i))=((d,ps),(((dY (-1) (l.take (i+1))).length:Nat):Int),0):=by
 obtain⟨h1,h2,h3,h4,h5,h6⟩:=BP hm h;obtain⟨h7,h8⟩:=oY.1 h4;have e1:=qo (l:=l) (i:=i+1) (-1);have e2:=yq (-1) h;generalize XW:dr (-1) (l.take i)=last at h1 h6 e2 ⊢;generalize rz:dY (-1) (l.take i)=pre at e2 ⊢;generalize dY (dr (-1) (l.take (i+1))) (l.drop (i+1))=post at e1;rw[e2]at e1 ⊢;have g1:=BO pre (eD ps++post) (n:=(d-last-1).toNat) (by omega);have g2:=Ak (pre++put (d-last-1).toNat) post h7 (fun x hx=>by have:=h8 x hx;omega) (by omega);rw[show pre++put (d-last-1).toNat++(eD ps++post)=dY (-1) l from by rw[e1];simp]at g1;rw[←e1]at g2;unfold rV;rw[g1];simp only[ne_eq,not_true_eq_false,if_false];have tz:((pre.length+(put (d-last-1).toNat).length:Nat):Int)=((pre++put (d-last-1).toNat).length:Int):=by simp
 rw[tz,g2];refine xh (xh ?_ rfl) (xh ?_ rfl)
 ·simp only;rw[j4 (last+1) (by omega),j4 _ (by omega)];omega
 ·simp;omega
theorem qp {l:List Int} {k:Nat} {x:Int} (p:Int→Bool) (h:l[k]? =some x):(l.drop k).all p=(p x&&(l.drop (k+1)).all p):=by
 obtain⟨h1,h2⟩:=ao.1 h;rw[dB h1,h2,List.all_cons]
theorem mg {l:List Po} {k:Nat} {d:Int} {ps:List Int} (h:l[k]? =some (d,ps)) (last:Int):
  fH last (l.drop k)=(decide (last<d)&&decide (d<2147483648)&& !ps.isEmpty&&oX ps&&fH d (l.drop (k+1))):=by
 obtain⟨h1,h2⟩:=ao.1 h;rw[dB h1,h2,fH]
theorem yr {l:List Po} {i:Nat} {d:Int} {ps:List Int} (h:l[i]? =some (d,ps)):jl (l.take (i+1))=jl (l.take i)+ps.length:=by
 obtain⟨h1,h2⟩:=ao.1 h;rw[su h1,h2,tR];simp[jl]
theorem oZ (l:List Po):0≤jl l:=by
 induction l with
 |nil=>simp[jl]
 |cons p l ih=>simp only[jl,eQ,List.sum_cons]at ih ⊢;omega
theorem Dj (l:List Po) (i:Nat):0≤jl (l.take i)∧jl (l.take i)≤jl l:=by
 refine⟨oZ _,?_⟩
 conv=>rhs;rw[←uP i l,tR]
 have:=oZ (l.drop i);omega
theorem nE (l:List Po) (i:Nat):(dY (-1) (l.take i)).length≤(dY (-1) l).length:=by
 rw[qo (l:=l) (i:=i) (-1)];simp
theorem IX (l:List Po) (k:Nat):rC l (k+1)=rC l k++[wL l k]:=by simp[rC,List.range_succ]
theorem sU:∀(l:List Po) (last:Int),fH last l=true→last<2147483648→∀n:Nat,last≤dr last (l.take n)∧dr last (l.take n)<2147483648
 |[],last,_,h,n=>by simp[dr];exact h
 |(d,ps)::l,last,hm,h,0=>by simp[dr];exact h
 |(d,ps)::l,last,hm,h,n+1=>by
  simp only[fH,bU,decide_eq_true_eq]at hm;obtain⟨⟨⟨⟨h1,h2⟩,h3⟩,h4⟩,h5⟩:=hm;have:=sU l d h5 h2 n;simp only[oM,dr];omega
theorem adf {M:aD} {w:World} {a b c d:Int} (ha: -9223372036854775808≤a∧a≤9223372036854775807) (hb: -9223372036854775808≤b∧b≤9223372036854775807) (hc: -9223372036854775808≤c∧c≤9223372036854775807) (hd: -9223372036854775808≤d∧d≤9223372036854775807):
  RT.bl.V M w (a,b,c,d) (.agg [.int .i64 a,.int .i64 b,.int .i64 c,.int .i64 d].toArray):=
 ⟨_,⟨[.int .i64 a],[.int .i64 b,.int .i64 c,.int .i64 d],rfl,⟨rfl,ha⟩,[.int .i64 b],[.int .i64 c,.int .i64 d],rfl,⟨rfl,hb⟩,[.int .i64 c],[.int .i64 d],rfl,⟨rfl,hc⟩,⟨rfl,hd⟩⟩,rfl⟩
theorem XX {M:aD} {w:World} {bx:Nat} {b:List UInt8} {ks:List Bl} {rW:Int} {vb vk:Value} {e:TypeId} {fr:Nat×Nat} (hx:w.heap[bx]? =some (.cells #[vb,vk,.int .i64 rW] e fr)) (hm: ¬M bx) (hb:(RT.u8.sl).V M w b vb) (hk:((RT.bl).sl).V M w ks vk) (ht: -9223372036854775808≤rW∧rW≤9223372036854775807):
  cN RT.li M w (.pointer (some ⟨bx,0,none⟩)) (b,ks,rW):=
 ⟨bx,0,[vb,vk,.int .i64 rW],rfl,hm,⟨[vb],[vk,.int .i64 rW],rfl,mf hb rfl rfl,[vk],[.int .i64 rW],rfl,mf hk rfl rfl,⟨rfl,ht⟩⟩,fun j v hj=>fG hx (by simpa using hj)⟩
theorem KZ {l:List Po} {i:Nat} (h8:i%8=0) (hi:i<l.length):rC l ((i+7)/8)++[(((dY (-1) (l.take i)).length:Int),dr (-1) (l.take i),dr (-1) (l.take (min (i+8) l.length)),(((l.drop i).take 8).length:Int))]=rC l ((min (i+8) l.length+7)/8):=by
 rw[show(min (i+8) l.length+7)/8=(i+7)/8+1 from by omega,IX];have e:8*((i+7)/8)=i:=by omega
 have e2:l.take (i+8)=l.take (min (i+8) l.length):=by rw[List.take_eq_take_iff];omega
 simp only[wL,e,e2]
end Go.K
namespace Go.K
section
variable {P:Program} {r:Option Nat} {n:Nat} {L:Sl} {ds:List Deferred} {w:World} {K:Kt} {ops:Array Oper} {rest:List Oper} {d:Nat} {x y:Operand} {ty:TypeId} {pos:String} {af:Array Edge}
theorem Rg.AX {t t' e:TypeId} {p:Option Addr} (ht:P.underlying t=some (.pointer e)) (hx:ev L x=some (.pointer p)) (hy:ev L y=some (.pointer none)) (hd:Nat.blt d n=true)
  (k:Rg P r n ops rest ((d,.bool (decide (p=none)))::L) ds w K):
  Rg P r n ops ({dst:=some d,op:= .binOp .eql t x y t',type:=ty,pos,after:=af,guard:=none}::rest) L ds w K:=
 .op (fun _ h=>by cases h) rfl rfl hd _ w (fun ρ h=>by
  have hpe:P.underlying t=some (.pointer (P.pointee t)):=by simp[Program.pointee,ht]
  have he:=run_equal_pointer_nil (P:=P) w t p hpe;simp only[execOp];rw[h x _ hx,h y _ hy]
  cases p<;>simp[eqGuard,binOp,run_underlying ht,he]) k
end
end Go.K
namespace Go.K
theorem K0 {M:aD} {w:World} {d:Int} {ps:List Int} {v:Value} (h:RT.po.V M w (d,ps) v):∃u,v= .agg #[.int .i64 d,u]∧u.oneCell'=true∧(-9223372036854775808≤d∧d≤9223372036854775807):=by
 obtain⟨vs,⟨va,vb,rfl,⟨rfl,hd⟩,hb⟩,rfl⟩:=h;obtain⟨a,cap,rfl,_⟩:=hb;exact⟨_,rfl,rfl,hd⟩
end Go.K
namespace Go.K
section
variable {P:Program} {r:Option Nat} {n:Nat} {L:Sl} {ds:List Deferred} {w:World}
theorem BQ {fn:Func} {Q:Value→World→Prop} {c t b:Nat} {vs:List Value} {fs:TypeDesc} {e:TypeId} {fr:Nat×Nat} {zv:Value} {size bytes:Nat} (hr:fn.results= #[.cell c t]) (hc:lk L c=some (.pointer (some ⟨b,0,none⟩))) (hu:P.underlying t=some fs) (hf:fs.isRow=true) (hi:TI P t zv size bytes) (hl:vs.length=size)
  (hb:w.heap[b]? =some (.cells vs.toArray e fr)) (h:Q (.agg vs.toArray) w):xm P fn Q .ret L [] w:=
 ⟨rfl,fun a ha=>⟨_,by
  obtain⟨i,xJ,_,Ab,_⟩:=hi.get;have KV:w.rangeAt b 0 vs:=fun j v hj=>fG hb (by simpa using hj)
  have:=run_loadVar_mid (P:=P) w b 0 t vs fs KV hu hf (by simp[xJ,Ab,hl]);simp[results,hr,ha _ _ hc,asAddr,this,ck],h⟩⟩
end
end Go.K
namespace Go.K
section
variable {P:Program} {r:Option Nat} {n:Nat} {L:Sl} {ds:List Deferred} {w:World} {K:Kt} {ops:Array Oper} {rest:List Oper} {d:Nat} {ty:TypeId} {pos:String} {af:Array Edge} {x y i:Operand} {α:Type} {A:RT α}
theorem Rg.opv {o:Oper} (oJ:∀c,o.op≠ .defer c) (hg:o.guard=none) (hd:o.dst=none) (v:Value) (w':World)
  (gQ:∀ρ:Operand→Value,(∀x u,ev L x=some u→ρ x=u)→(execOp ρ o).run P w= .ok (.value v) w')
  (h:Rg P r n ops rest L ds w' K):Rg P r n ops (o::rest) L ds w K:=by
 refine⟨fun a ha=>wpListIn_plain hg fun K' Pg=>CY oJ ?_⟩;rw[gQ a.eval (fun x u hx=>ha.eval hx),Oper.uponIn_value,hd];exact Pg _ _ (h.run _ ha)
def qq (P:Program) (t:TypeId) (name:String) (f:FuncId) (ptr:Bool):Prop:=
 (P.info? t).bind (fun i=>(i.methods.find? (fun m=>m.name==name)).map fun m=>(m.path.toList.length,m.func))=some (0,some (f,ptr))
theorem qq.get {t:TypeId} {name:String} {f:FuncId} {ptr:Bool} (h:qq P t name f ptr):∃inf m,P.info? t=some inf∧inf.methods.find? (fun m=>m.name==name)=some m∧m.path= #[]∧m.func=some (f,ptr):=by
 unfold qq at h
 cases hi:P.info? t with
 |none=>rw[hi]at h;cases h
 |some inf=>
  rw[hi]at h
  cases hm:inf.methods.find? (fun m=>m.name==name)with
  |none=>simp[hm]at h
  |some m=>
   simp[hm]at h;exact⟨inf,m,rfl,hm,h.1,h.2⟩
def FX (P:Program) (w:World) (t:TypeId) (v:Value) (name:String) (f:FuncId) (u:Value):Prop:=∀fuel:Nat,(method (fuel+1) t v name).run P w= .ok (f,u) w
theorem qq.ptr {t e:TypeId} {name:String} {f:FuncId} (h:qq P t name f true) (ht:P.underlying t=some (.pointer e)) (v:Value):FX P w t v name f v:=fun fuel=>by
 obtain⟨inf,m,h1,h2,h3,h4⟩:=h.get;simp[method,typeInfo,h1,h2,h3,h4,follow,receiverAt,run_underlying ht,Place.get]
theorem Dk (C0:Array TypeId) (ty:TypeId) (a:Addr) (s m:String):(Builtin.ssaWrapNilChk_ C0 ty #[.pointer (some a),strVal s,strVal m]).run P w= .ok (.pointer (some a)) w:=rfl
theorem qq.load {t e:TypeId} {u:TypeDesc} {name:String} {f:FuncId} {b:Nat} {cs:Array Value} {te:TypeId} {fr:Nat×Nat} {v:Value} (h:qq P t name f false) (ht:P.underlying t=some (.pointer e)) (hu:P.underlying e=some u) (hf:flat u=true)
  (hb:w.heap[b]? =some (.cells cs te fr)) (hv:cs[0]? =some v):FX P w t (.pointer (some ⟨b,0,none⟩)) name f v:=fun fuel=>by
 obtain⟨inf,m,h1,h2,h3,h4⟩:=h.get
 have FE:(isAgg e).run P w= .ok false w:=by
  unfold isAgg;rw[ck,run_underlying hu w]
  cases u<;>simp_all [flat,Result.andThen]
 have hl:(loadVar e ⟨b,0,none⟩).run P w= .ok v w:=by simp[loadVar,FE,Go.load,Sem.run,fG hb hv]
 simp[method,typeInfo,h1,h2,h3,h4,follow,receiverAt,run_underlying ht,Place.get,Dk,asAddr,hl]
theorem Rg.invoke {t:TypeId} {v u:Value} {name:String} {f:FuncId} {xs:List Operand} {vs:List Value} {C0:Array TypeId} {Q:Value→World→Prop} (hx:ev L x=some (.iface t v)) (lp:OV L xs=some vs) (hd:Nat.blt d n=true) (hm:FX P w t v name f u) (he:Enters P f)
  (hs:Spec P f (u::vs).toArray w Q) (k:∀v w',Q v w'→Rg P r n ops rest ((d,v)::L) ds w' K):
  Rg P r n ops ({dst:=some d,op:= .call {callee:= .invoke x name,args:=xs.toArray,argTypes:=C0},type:=ty,pos,after:=af,guard:=none}::rest) L ds w K:=
 .FD (w1:=w) (fun _ h=>by cases h) rfl rfl hd (fun ρ h=>by
  have h1:=oO h lp;have h2:=hm (P.types.size+99);rw[show P.types.size+99+1=P.types.size+Made.depth from rfl]at h2;simp only[execOp,resolve,fq,h1,h x _ hx];have h3:=he (u::vs).toArray w;simp[Go.invoke,callMethod,h2]at h3 ⊢;exact h3) hs k
def isI:TypeDesc→Bool
 |.interface _=>true
 |_=>false
theorem Rg.xM {t:TypeId} {u:TypeDesc} {v:Value} (hu:P.underlying t=some u) (hn:isI u=false) (hx:ev L x=some v) (hd:Nat.blt d n=true) (k:Rg P r n ops rest ((d,.iface t v)::L) ds w K):
  Rg P r n ops ({dst:=some d,op:= .makeInterface t x,type:=ty,pos,after:=af,guard:=none}::rest) L ds w K:=
 .op (fun _ h=>by cases h) rfl rfl hd _ w (fun ρ h=>by
  simp only[execOp,h x _ hx]
  cases u<;>simp_all [Instr.makeInterface,run_underlying hu,isI]) k
theorem Rg.HH {t xt:TypeId} {u:TypeDesc} {v:Value} (hu:P.underlying t=some u) (hn:isI u=false) (hx:ev L x=some (.iface t v)) (hd:Nat.blt d n=true) (k:Rg P r n ops rest ((d,v)::L) ds w K):
  Rg P r n ops ({dst:=some d,op:= .typeAssert x xt t false,type:=ty,pos,after:=af,guard:=none}::rest) L ds w K:=
 .op (fun _ h=>by cases h) rfl rfl hd _ w (fun ρ h=>by
  simp only[execOp,h x _ hx]
  cases u<;>simp_all [Instr.typeAssert,run_underlying hu,isI]) k
theorem dX.set {M:aD} {x:α} {vs:List Value} (hx:A.R M w x vs):∀{xs:List α} {C:List Value},dX A M w xs C→∀{j:Nat},j<xs.length→dX A M w (xs.set j x) (C.take (j*A.n)++vs++C.drop (j*A.n+A.n))
 |[],_,_,j,hj=>by simp at hj
 |y::xs,_,⟨us,rest,h1,h2,h3⟩,0,_=>by
  subst h1;have hl:=A.len h2;refine⟨vs,rest,?_,hx,h3⟩;rw[Nat.zero_mul,List.take_zero,fK,fL,←hl,List.drop_left]
 |y::xs,_,⟨us,rest,h1,h2,h3⟩,j+1,hj=>by
  subst h1;have hl:=A.len h2;refine⟨us,_,?_,h2,dX.set hx h3 (j:=j) (by simpa using hj)⟩;have e1:(j+1)*A.n=us.length+j*A.n:=by rw[Nat.add_mul,hl];omega
  rw[e1,List.take_length_add_append,show us.length+j*A.n+A.n=us.length+(j*A.n+A.n)from by omega,List.drop_length_add_append];simp
theorem dX.take {M:aD}:∀{xs:List α} {C:List Value},dX A M w xs C→∀m,dX A M w (xs.take m) (C.take (m*A.n))
 |xs,C,h,0=>by simp;exact(rfl:([]:List Value)=[])
 |[],C,h,m+1=>by cases h;simp;exact(rfl:([]:List Value)=[])
 |y::xs,_,⟨us,rest,h1,h2,h3⟩,m+1=>by
  subst h1;have hl:=A.len h2;refine⟨us,rest.take (m*A.n),?_,h2,dX.take h3 m⟩;rw[show(m+1)*A.n=us.length+m*A.n from by rw[Nat.add_mul,hl];omega,List.take_length_add_append]
theorem HI {l vs:List Value} {o:Nat} (h:o+vs.length≤l.length) (t:Nat):(l.take o++vs++l.drop (o+vs.length))[t]? =if o≤t∧t<o+vs.length then vs[t-o]? else l[t]? :=by
 have h1:(l.take o).length=o:=by rw[bH];omega
 rcases cI t o with h2|h2
 ·rw[if_neg (by omega),List.append_assoc,jP (by omega),cn,if_pos h2]
 ·rcases cI t (o+vs.length)with h3|h3
  ·rw[if_pos ⟨h2,h3⟩,jP (by rw[bj];omega),List.getElem?_append_right (by omega),h1]
  ·rw[if_neg (by omega),List.getElem?_append_right (by rw[bj];omega),List.getElem?_drop,bj,h1];congr 1;omega
theorem Own.vB {e:TypeId} {M:aD} {base:Nat} {v:Value} {xs:List α} (h:Own A e M w base v xs) (hv:v≠ .slice none 0 0):∃g cap cur,v= .slice (some ⟨g,0,none⟩) xs.length cap∧base≤g∧M g∧w.heap[g]? =some (.cells cur e (0,0)):=by
 obtain⟨⟨C,hr,_⟩,hm⟩:=h;rcases hr.2 with⟨h1,_⟩|⟨g,cap,cur,h1,h2,h3,_⟩
 ·exact absurd h1 hv
 ·exact⟨g,cap,cur,h1,h2,hm g (by rw[h1];rfl),h3⟩
theorem Own.setCells {e:TypeId} {M:aD} {base g len cap j:Nat} {xs:List α} {x:α} {vs:List Value} (h:Own A e M w base (.slice (some ⟨g,0,none⟩) len cap) xs) (hj:j<xs.length) (hx:A.R M w x vs):
  ∃w',w'=w.setCells g (j*A.n) vs∧Own A e M w' base (.slice (some ⟨g,0,none⟩) len cap) (xs.set j x)∧Step M w M w' (fun k=>k=g):=by
 obtain⟨⟨C,hr,ha⟩,hm⟩:=h;have FY:=hm g rfl;have hl:=A.len hx;rcases hr.2 with⟨h1,_⟩|⟨g',ya,cur,h1,h2,h3,h4,h5,h6,h7⟩
 ·cases h1
 ·simp only[fQ,dL,nP]at h1;obtain⟨⟨rfl,_⟩,rfl,rfl⟩:=h1;obtain⟨Fs,c1,c2,c3,c4⟩:=ng vs w g (j*A.n) cur e (0,0) h3;have hs:=c4 M FY;have Ke:j*A.n+A.n≤xs.length*A.n:=by have:=gj A.n (show j+1≤xs.length from hj);rw[Nat.add_mul]at this;omega
  have lv:xs.length*A.n≤cap*A.n:=gj _ h4;have Tp:C.length=xs.length*A.n:=hr.1;refine⟨_,rfl,⟨⟨C.take (j*A.n)++vs++C.drop (j*A.n+A.n),⟨?_,.inr ⟨g,cap,Fs,by rw[fm],h2,c1,by rw[fm];exact h4,h5,by rw[c2];exact h6,?_⟩⟩,dX.set (A.le hs.le hx) (ha.le hs.le) hj⟩,fun b hb=>hm b hb⟩,hs⟩
  ·rw[bj,bj,bH,du,Tp,fm];omega
  ·rw[fm];refine eZ fun t=>?_
   have K1:=HI (l:=C) (vs:=vs) (o:=j*A.n) (by rw[hl,Tp];exact Ke) t;rw[hl]at K1;rw[K1,cn];have XH:∀t,t<xs.length*A.n→C[t]? =cur[t]? :=fun t ht=>by rw[←h7,cn,if_pos ht];simp
   split
   ·rename_i ht
    have e0:Fs.toList[t]? =Fs[t]? :=by simp
    rw[e0,c3 t,hl];by_cases h8:j*A.n≤t∧t<j*A.n+A.n
    ·rw[if_pos ⟨h8.1,h8.2,by omega⟩,if_pos h8]
    ·rw[if_neg (fun h=>h8 ⟨h.1,h.2.1⟩),if_neg h8,XH t ht]
   ·rename_i ht
    rw[if_neg (by omega),dU (by rw[Tp];omega)]
theorem Rg.sV {t e:TypeId} {κ:IntKind} {j:Int} {b o len cap bytes size:Nat} {zv:Value} (ht:P.underlying t=some (.slice e)) (hi:TI P e zv size bytes) (hx:ev L x=some (.slice (some ⟨b,o,none⟩) len cap)) (FF:ev L i=some (.int κ j)) (hd:Nat.blt d n=true) (hj:0≤j∧j<len) {q:Nat} (hq:o+j.toNat*size=q)
  (k:Rg P r n ops rest ((d,.pointer (some ⟨b,q,none⟩))::L) ds w K):
  Rg P r n ops ({dst:=some d,op:= .indexAddr t x i,type:=ty,pos,after:=af,guard:=none}::rest) L ds w K:=
 .op (fun _ h=>by cases h) rfl rfl hd _ w (fun ρ h=>by
  simp only[execOp,h x _ hx,h i _ FF];simp[Instr.indexAt,run_underlying ht,asIntOf,hj,hi.sizeOf,xi,hq]) k
theorem Own.ptr {e:TypeId} {M:aD} {base g len cap j:Nat} {xs:List α} {x:α} (h:Own A e M w base (.slice (some ⟨g,0,none⟩) len cap) xs) (hx:xs[j]? =some x):cN A (fun k=>M k∧k≠g) w (.pointer (some ⟨g,j*A.n,none⟩)) x:=by
 obtain⟨⟨C,hr,ha⟩,hm⟩:=h;rcases hr.2 with⟨h1,_⟩|⟨g',ya,cur,h1,h2,h3,h4,h5,h6,h7⟩
 ·cases h1
 ·simp only[fQ,dL,nP]at h1;obtain⟨⟨rfl,_⟩,rfl,rfl⟩:=h1;obtain⟨vs,hv,hj⟩:=ha.at_ j x hx;refine⟨g,_,vs,rfl,fun h=>h.2 rfl,A.le (fun b _ hm=>⟨fun h=>hm h.1,rfl⟩) hv,fun t u hu=>?_⟩;have h8:=hj t u hu;rw[←h7,cn]at h8
  split at h8
  ·exact fG h3 (by simpa using h8)
  ·cases h8
theorem Own.cut {e:TypeId} {M:aD} {base g len cap m:Nat} {xs:List α} (h:Own A e M w base (.slice (some ⟨g,0,none⟩) len cap) xs) (hm:m≤xs.length):Own A e M w base (.slice (some ⟨g,0,none⟩) m cap) (xs.take m):=by
 obtain⟨⟨C,hr,ha⟩,hmm⟩:=h;have hl:(xs.take m).length=m:=by rw[bH];omega
 rcases hr.2 with⟨h1,_⟩|⟨g',ya,cur,h1,h2,h3,h4,h5,h6,h7⟩
 ·cases h1
 ·simp only[fQ,dL,nP]at h1;obtain⟨⟨rfl,_⟩,rfl,rfl⟩:=h1;have K2:=gj A.n hm;refine⟨⟨C.take (m*A.n),⟨by rw[bH,hr.1,hl];omega,.inr ⟨g,cap,cur,by rw[hl],h2,h3,by omega,h5,h6,?_⟩⟩,ha.take m⟩,fun b hb=>hmm b hb⟩;rw[hl,←h7,List.take_take,xY K2]
theorem Rg.TQ {t e:TypeId} {h:Operand} {κ:IntKind} {hi:Int} {g len cap bytes size:Nat} {zv:Value} (ht:P.underlying t=some (.slice e)) (Fp:TI P e zv size bytes) (hx:ev L x=some (.slice (some ⟨g,0,none⟩) len cap)) (hh:ev L h=some (.int κ hi)) (hd:Nat.blt d n=true) (hb:0≤hi∧hi≤cap)
  (k:Rg P r n ops rest ((d,.slice (some ⟨g,0,none⟩) hi.toNat cap)::L) ds w K):
  Rg P r n ops ({dst:=some d,op:= .slice t x none (some h) none,type:=ty,pos,after:=af,guard:=none}::rest) L ds w K:=by
 refine .op (fun _ h=>by cases h) rfl rfl hd _ w (fun ρ hρ=>?_) k;simp only[execOp,hρ x _ hx,dd,ie,hρ h _ hh];rw[ck,run_sliceAt_slice _ _ _ _ _ _ (iY ht),run_slice_h _ _ _ _ _ (iY ht) _ _ hb.1 hb.2,oP ht,Fp.sizeOf];simp[sliced,xi]
theorem Rg.K3 {t e:TypeId} {l:Operand} {κ:IntKind} {lo:Int} {g len cap bytes size:Nat} {zv:Value} (ht:P.underlying t=some (.slice e)) (Fp:TI P e zv size bytes) (hx:ev L x=some (.slice (some ⟨g,0,none⟩) len cap)) (hl:ev L l=some (.int κ lo)) (hd:Nat.blt d n=true) (hb:0≤lo∧lo≤len∧lo<cap)
  (k:Rg P r n ops rest ((d,.slice (some ⟨g,lo.toNat*size,none⟩) (len-lo.toNat) (cap-lo.toNat))::L) ds w K):
  Rg P r n ops ({dst:=some d,op:= .slice t x (some l) none none,type:=ty,pos,after:=af,guard:=none}::rest) L ds w K:=by
 refine .op (fun _ h=>by cases h) rfl rfl hd _ w (fun ρ hρ=>?_) k;simp only[execOp,hρ x _ hx,dd,ie,hρ l _ hl];rw[ck,run_sliceAt_slice _ _ _ _ _ _ (iY ht),run_slice_l _ _ _ _ _ (iY ht) _ _ hb.1 hb.2.1,oP ht,Fp.sizeOf];have eK: ¬cap=lo.toNat:=by omega
 simp[sliced,xi,eK]
theorem Rg.FZ {t e:TypeId} {zv:Value} {bytes:Nat} {M:aD} {base g len cap j:Nat} {xs:List α} {a:α} {v:Value} (hi:TI P t zv A.n bytes) (hg:A.agg=true) (hx:ev L x=some (.pointer (some ⟨g,j*A.n,none⟩))) (hy:ev L y=some v) (h:Own A e M w base (.slice (some ⟨g,0,none⟩) len cap) xs) (hj:j<xs.length) (hv:A.V M w a v)
  (k:∀w',Own A e M w' base (.slice (some ⟨g,0,none⟩) len cap) (xs.set j a)→Step M w M w' (fun k=>k=g)→Rg P r n ops rest L ds w' K):
  Rg P r n ops ({dst:=none,op:= .store t x y,type:=ty,pos,after:=af,guard:=none}::rest) L ds w K:=by
 obtain⟨vs,lp,rfl⟩:=hv;obtain⟨w',TR,ho,hs⟩:=h.setCells hj lp;obtain⟨⟨C,hr,ha⟩,hm⟩:=h;have hl:=A.len lp;have h1:=A.one lp;rcases hr.2 with⟨h2,_⟩|⟨g',ya,cur,h2,_,h3,h4,h5,h6,h7⟩
 ·cases h2
 ·simp only[fQ,dL,nP]at h2;obtain⟨⟨rfl,_⟩,rfl,rfl⟩:=h2;have Ke:j*A.n+A.n≤xs.length*A.n:=by have:=gj A.n (show j+1≤xs.length from hj);rw[Nat.add_mul]at this;omega
  have lv:xs.length*A.n≤cap*A.n:=gj _ h4;refine .Rm (fun _ h=>by cases h) rfl rfl w' (fun ρ hρ=>?_) (k w' ho hs);subst TR;simp only[execOp,hρ x _ hx,hρ y _ hy];obtain⟨inf,xJ,_,Ab,_⟩:=hi.get
  have:=run_storeAt_mid (P:=P) w g (j*A.n) t vs.toArray (fun q hq=>by
   have hq':j*A.n+q<cur.size:=by simp at hq;omega
   exact⟨by rw[fG h3 (v:=cur[j*A.n+q]) (by simp[hq'])];rfl,by simp[World.frozen?,h3]⟩) (by simp[xJ,Ab,hl]) (by simpa[Array.all_eq_true_iff_forall_mem]using h1)
  simp[RT.val,hg,this]
theorem Rg.K4 {t e:TypeId} {zv:Value} {bytes:Nat} {M:aD} {base g len cap j:Nat} {κ:IntKind} {xs:List Int} {a:Int} (hi:TI P t zv 1 bytes) (hx:ev L x=some (.pointer (some ⟨g,j,none⟩))) (hy:ev L y=some (.int κ a)) (h:Own (RT.int κ) e M w base (.slice (some ⟨g,0,none⟩) len cap) xs) (hj:j<xs.length) (ha:κ.min≤a∧a≤κ.max)
  (k:∀w',Own (RT.int κ) e M w' base (.slice (some ⟨g,0,none⟩) len cap) (xs.set j a)→Step M w M w' (fun k=>k=g)→Rg P r n ops rest L ds w' K):
  Rg P r n ops ({dst:=none,op:= .store t x y,type:=ty,pos,after:=af,guard:=none}::rest) L ds w K:=by
 have hR:(RT.int κ).R M w a [.int κ a]:=⟨rfl,ha.1,ha.2⟩;obtain⟨w',TR,ho,hs⟩:=h.setCells hj hR;obtain⟨⟨C,hr,_⟩,hm⟩:=h;rcases hr.2 with⟨h2,_⟩|⟨g',ya,cur,h2,_,h3,h4,h5,h6,h7⟩
 ·cases h2
 ·simp only[fQ,dL,nP]at h2;obtain⟨⟨rfl,_⟩,rfl,rfl⟩:=h2;have e1:(RT.int κ).n=1:=rfl;rw[e1]at h6 TR;refine .Rm (fun _ h=>by cases h) rfl rfl w' (fun ρ hρ=>?_) (k w' ho hs);subst TR;simp only[execOp,hρ x _ hx,hρ y _ hy];have:=nA (P:=P) hi (w:=w) (b:=g) (o:=j) (v:= .int κ a) rfl (by rw[fG h3 (v:=cur[j]'(by omega)) (by simp)];rfl) (by simp[World.frozen?,h3]);simp[this,World.setCells]
theorem Rg.XY {t e:TypeId} {zv:Value} {bytes size:Nat} (ht:P.underlying t=some (.slice e)) (hi:TI P e zv size bytes) (M:aD) (hd:Nat.blt d n=true)
  (k:∀g w',w.heap.size≤g→g<w'.heap.size→w'.heap[g]? =some (.cells #[] e (0,0))→Step M w (ins M g) w' aC→Rg P r n ops rest ((d,.slice (some ⟨g,0,none⟩) 0 0)::L) ds w' K):
  Rg P r n ops ({dst:=some d,op:= .buildSlice t 0 #[],type:=ty,pos,after:=af,guard:=none}::rest) L ds w K:=by
 refine .op (fun _ h=>by cases h) rfl rfl hd (.slice (some ⟨w.heap.size,0,none⟩) 0 0) (w.alloc (.cells #[] e)) (fun ρ hρ=>?_) (k w.heap.size _ (aT _) (by simp) (cg w _) ((cQ M w _).own (aT _) (by simp)));simp only[execOp,Instr.buildSlice,ck,run_underlying ht,cB,hi.sizeOf];simp[newRow,newObj,Sem.run,Instr.fill];have h0:Array.range 0= #[]:=by apply Array.ext<;>simp
 simp[h0]
end
theorem Own.empty {α:Type} {A:RT α} {e:TypeId} {M:aD} {w:World} {base g:Nat} (h:w.heap[g]? =some (.cells #[] e (0,0))) (hb:base≤g) (hm:M g):Own A e M w base (.slice (some ⟨g,0,none⟩) 0 0) []:=
 ⟨⟨[],⟨by simp,.inr ⟨g,0,#[],rfl,hb,h,aT _,bE _,by simp,by simp⟩⟩,rfl⟩,fun b hb=>by cases hb;exact hm⟩
theorem Own.K5 {e:TypeId} {M:aD} {w:World} {base g len cap j:Nat} {κ:IntKind} {xs:List Int} {x:Int} (h:Own (RT.int κ) e M w base (.slice (some ⟨g,0,none⟩) len cap) xs) (hx:xs[j]? =some x):cN (RT.int κ) (fun k=>M k∧k≠g) w (.pointer (some ⟨g,j,none⟩)) x:=by
 have:=h.ptr hx
 rwa [show j*(RT.int κ).n=j from eG j]at this
end Go.K
namespace Go.K
section
variable {P:Program} {r:Option Nat} {n:Nat} {L:Sl} {ds:List Deferred} {w:World} {K:Kt} {ops:Array Oper} {rest:List Oper} {d:Nat} {x y i:Operand} {ty:TypeId} {pos:String} {af:Array Edge}
theorem Rg.K6 {t e:TypeId} {κ:IntKind} {j:Int} {b len cap bytes:Nat} {zv:Value} (ht:P.underlying t=some (.slice e)) (hi:TI P e zv 1 bytes) (hx:ev L x=some (.slice (some ⟨b,0,none⟩) len cap)) (FF:ev L i=some (.int κ j)) (hd:Nat.blt d n=true) (hj:0≤j∧j<len)
  (k:Rg P r n ops rest ((d,.pointer (some ⟨b,j.toNat,none⟩))::L) ds w K):
  Rg P r n ops ({dst:=some d,op:= .indexAddr t x i,type:=ty,pos,after:=af,guard:=none}::rest) L ds w K:=
 .op (fun _ h=>by cases h) rfl rfl hd _ w (fun ρ h=>by
  simp only[execOp,h x _ hx,h i _ FF];simp[Instr.indexAt,run_underlying ht,asIntOf,hj,hi.sizeOf,xi]) k
theorem Rg.mi {t e:TypeId} {κ:IntKind} {j:Int} {b len bytes:Nat} {zv:Value} (ht:P.underlying t=some (.array len e)) (hi:TI P e zv 1 bytes) (hx:ev L x=some (.pointer (some ⟨b,0,none⟩))) (FF:ev L i=some (.int κ j)) (hd:Nat.blt d n=true) (hj:0≤j∧j<len)
  (k:Rg P r n ops rest ((d,.pointer (some ⟨b,j.toNat,none⟩))::L) ds w K):
  Rg P r n ops ({dst:=some d,op:= .indexAddr t x i,type:=ty,pos,after:=af,guard:=none}::rest) L ds w K:=
 .op (fun _ h=>by cases h) rfl rfl hd _ w (fun ρ h=>by
  simp only[execOp,h x _ hx,h i _ FF];simp[Instr.indexAt,run_underlying ht,asIntOf,hj,hi.sizeOf,xi,Instr.sureAddr]) k
theorem Rg.mk0 {t e:TypeId} {len:Nat} {bytes:Nat} {zv:Value} (M:aD) (ht:P.underlying t=some (.slice e)) (hi:TI P e zv 1 bytes) (hz:zv.cells= #[zv]) (hx:ev L x=some (.int .i64 len)) (hy:ev L y=some (.int .i64 len)) (hd:Nat.blt d n=true) (hb:bytes*len≤140737488355328) (hl:len≤9223372036854775807)
  (k:∀b w',w.heap.size≤b→b<w'.heap.size→w'.heap[b]? =some (.cells (List.replicate len zv).toArray e (0,0))→Step M w (ins M b) w' aC→Rg P r n ops rest ((d,.slice (some ⟨b,0,none⟩) len len)::L) ds w' K):
  Rg P r n ops ({dst:=some d,op:= .makeSlice t x y,type:=ty,pos,after:=af,guard:=none}::rest) L ds w K:=by
 obtain⟨inf,i1,i2,i3,i4⟩:=hi.get
 have hm:madeCells zv.cells (len*1)=(List.replicate len zv).toArray:=by
  apply Array.ext
  ·simp[madeCells]
  ·intro j h1 h2;simp[madeCells,hz,Nat.mod_one]
 refine .op (fun _ h=>by cases h) rfl rfl hd (.slice (some ⟨w.heap.size,0,none⟩) len len) (w.alloc (.cells (List.replicate len zv).toArray e)) (fun ρ hρ=>?_) (k w.heap.size _ (aT _) (by simp) (cg w _) ((cQ M w _).own (aT _) (by simp)))
 have hbc:(inf.bytes:Int)*(len:Int)≤281474976710656:=by
  rw[i4];have h1:((bytes*len:Nat):Int)≤281474976710656:=by omega
  rwa [Int.natCast_mul]at h1
 have hr:=run_make (P:=P) w t e inf zv ht i1 i2 .i64 .i64 (len:Int) (len:Int) (by omega) (Int.le_refl _) hbc (by omega);simp only[ay,i3,hm]at hr;simp only[execOp,hρ x _ hx,hρ y _ hy];simp[ck,hr]
theorem Rg.XZ {xt:TypeId} {p:Nat} (hx:ev L x=some (.int .u64 p)) (hd:Nat.blt d n=true) (hp:p<2^64) (k:Rg P r n ops rest ((d,.int .u64 ((2^64-1-p:Nat):Int))::L) ds w K):
  Rg P r n ops ({dst:=some d,op:= .unOp .xor xt x,type:=ty,pos,after:=af,guard:=none}::rest) L ds w K:=by
 refine .op (fun _ h=>by cases h) rfl rfl hd _ w (fun ρ h=>?_) k
 have e:(2^64-1:Nat)^^^p=2^64-1-p:=by
  apply Nat.eq_of_testBit_eq;intro j;have h1:=Nat.testBit_two_pow_sub_succ (x:=p) (n:=64) hp j;rw[show 2^64-1-p=2^64-(p+1)from by omega,h1,Nat.testBit_xor,Nat.testBit_two_pow_sub_one];by_cases hj:j<64
  ·simp[hj]
  ·have:p.testBit j=false:=Nat.testBit_lt_two_pow (iu hp (nw (by decide) (by omega)));simp[hj,this]
 simp only[execOp,h x _ hx]
 have hb:(BitVec.ofInt IntKind.u64.bits IntKind.u64.max^^^BitVec.ofInt IntKind.u64.bits (p:Int)).toNat=2^64-1-p:=by
  rw[BitVec.toNat_xor,qh,qh];have h1:(IntKind.u64.max%((2^IntKind.u64.bits:Nat):Int)).toNat=2^64-1:=by decide
  have h2:((p:Int)%((2^IntKind.u64.bits:Nat):Int)).toNat=p:=by
   change((p:Int)%((18446744073709551616:Nat):Int)).toNat=p;omega
  rw[h1,h2,e]
 have hw:IntKind.u64.wrap ((2^64-1-p:Nat):Int)=((2^64-1-p:Nat):Int):=gm _ (by omega)
 have hu:(Op.unary .xor (.int .u64 (p:Int))).run P w= .ok (.int .u64 ((2^64-1-p:Nat):Int)) w:=by
  change(Op.intBits .xor .u64 IntKind.u64.max (p:Int)).run P w=_;unfold Op.intBits;simp only[];rw[hb,hw];simp
 simp[hu]
theorem Rg.adi {xt:TypeId} {κ:IntKind} {p:Int} (hx:ev L x=some (.int κ p)) (hd:Nat.blt d n=true) (k:Rg P r n ops rest ((d,.int κ (κ.wrap (0-p)))::L) ds w K):
  Rg P r n ops ({dst:=some d,op:= .unOp .neg xt x,type:=ty,pos,after:=af,guard:=none}::rest) L ds w K:=by
 refine .op (fun _ h=>by cases h) rfl rfl hd _ w (fun ρ h=>?_) k;simp only[execOp,h x _ hx];simp[Op.unary,Op.intArith]
theorem K7 (p q:Nat) (hp:p<2^64) (hq:q<2^64):IntKind.u64.wrap (BitVec.ofInt IntKind.u64.bits (p:Int)&&&BitVec.ofInt IntKind.u64.bits (q:Int)).toNat=((p&&&q:Nat):Int):=by
 have h:∀z:Nat,z<2^64→((z:Int)%((2^IntKind.u64.bits:Nat):Int)).toNat=z:=fun z hz=>by
  change((z:Int)%((18446744073709551616:Nat):Int)).toNat=z;omega
 rw[BitVec.toNat_and,qh,qh,h p hp,h q hq];exact gm _ (by have:=Nat.and_le_left (n:=p) (m:=q);omega)
end
def bit (ws:List Nat) (i:Nat):Bool:=(ws.getD (i/64) 0).testBit (i%64)
def Words (ws:List Nat):Prop:=∀x∈ws,x<2^64
theorem Words.get {ws:List Nat} (h:Words ws) (k:Nat):ws.getD k 0<2^64:=by
 rw[az]
 cases hx:ws[k]? with
 |none=>simp
 |some x=>exact h x (aA hx)
theorem K8 (ws:List Nat) (k j x:Nat) (hk:k<ws.length):(ws.set k x).getD j 0=if j=k then x else ws.getD j 0:=by
 rw[az,az,dp];by_cases h:k=j
 ·subst h;simp[hk]
 ·rw[if_neg h,if_neg (fun e=>h e.symm)]
theorem Words.set {ws:List Nat} (h:Words ws) {k x:Nat} (hx:x<2^64):Words (ws.set k x):=fun y hy=>by
 rcases List.mem_or_eq_of_mem_set hy with h1|h1
 ·exact h y h1
 ·rw[h1];exact hx
theorem Dl (x i t:Nat):(x/2^i).testBit t=x.testBit (t+i):=Nat.testBit_div_two_pow x t
theorem K9:∀x:Nat,0<x→∃k m,x=2^k*(2*m+1):=by
 intro x
 induction x using Nat.strongRecOn with
 |_ x ih=>
  intro h;by_cases h2:x%2=1
  ·exact⟨0,x/2,by omega⟩
  ·obtain⟨k,m,e⟩:=ih (x/2) (by omega) (by omega);refine⟨k+1,m,?_⟩;rw[Nat.pow_succ,Nat.mul_right_comm,←e];omega
theorem La (m:Nat):(2*m+1).testBit 0=true:=by rw[Nat.testBit_zero];exact decide_eq_true (by omega)
theorem PB (m:Nat):(2*m).testBit 0=false:=by rw[Nat.testBit_zero];exact decide_eq_false (by omega)
theorem BR {k m:Nat}:(2^k*(2*m+1)).testBit k=true∧∀t,t<k→(2^k*(2*m+1)).testBit t=false:=by
 have h:=fun j=>Nat.testBit_two_pow_mul_add (2*m+1) (b:=0) (i:=k) (Nat.two_pow_pos k) j
 simp only[Nat.add_zero]at h;constructor
 ·rw[h k,if_neg (by omega),Nat.sub_self,La]
 ·intro t ht;rw[h t,if_pos ht,Nat.zero_testBit]
theorem PC {k m:Nat} (hx:2^k*(2*m+1)<2^64):(2^k*(2*m+1))&&&(2^64-2^k*(2*m+1))=2^k:=by
 have hp:=Nat.two_pow_pos k;have tG:0<2^k*(2*m+1):=Nat.mul_pos hp (by omega)
 have e1:2^64-2^k*(2*m+1)=2^64-((2^k*(2*m)+(2^k-1))+1):=by
  have:2^k*(2*m+1)=2^k*(2*m)+2^k:=by rw[Nat.mul_add,eG]
  omega
 apply Nat.eq_of_testBit_eq;intro j
 have e2:2^k*(2*m)+(2^k-1)<2^64:=by
  have:2^k*(2*m+1)=2^k*(2*m)+2^k:=by rw[Nat.mul_add,eG]
  omega
 rw[Nat.testBit_and,e1,Nat.testBit_two_pow_sub_succ e2,Nat.testBit_two_pow_mul_add _ (by omega),Nat.testBit_two_pow_sub_one,Nat.testBit_two_pow];have h:=Nat.testBit_two_pow_mul_add (2*m+1) (b:=0) (i:=k) hp j;simp only[Nat.add_zero]at h;rw[h];rcases fa j k with h1|h1|h1
 ·rw[if_pos h1,Nat.zero_testBit,kL,decide_eq_false (by omega)]
 ·subst h1
  have hj:j<64:=by
   rcases cI j 64 with h2|h2
   ·exact h2
   ·have:=nw (n:=2) (by decide) h2;have:2^j*1≤2^j*(2*m+1):=Nat.mul_le_mul_left _ (by omega);omega
  rw[if_neg (jt _),if_neg (jt _),Nat.sub_self,La,PB,decide_eq_true hj,decide_eq_true rfl];rfl
 ·rw[if_neg (by omega),if_neg (by omega),decide_eq_false (show¬k=j by omega)];obtain⟨t,rfl⟩:∃t,j=k+(t+1):=⟨j-k-1,by omega⟩;rw[show k+(t+1)-k=t+1 from by omega,Nat.testBit_succ,Nat.testBit_succ,show(2*m+1)/2=m from by omega,show 2*m/2=m from by omega]
  cases m.testBit t<;>simp
def IY:List Nat:=[0,1,56,2,57,49,28,3,61,58,42,50,38,29,17,4,62,47,59,36,45,43,51,22,53,39,33,30,24,18,12,5,63,55,48,27,60,41,37,16,46,35,44,21,52,32,23,11,54,26,40,15,34,20,31,10,25,14,19,9,13,8,7,6]
theorem TS:∀k,k<64→(2^k*285870213051353865)%2^64/2^58<64∧IY[(2^k*285870213051353865)%2^64/2^58]? =some k:=by decide+kernel
theorem BS (n:Nat):IntKind.u64.wrap (n:Int)=((n%2^64:Nat):Int):=by
 have:IntKind.u64.wrap (n:Int)=(n:Int)%18446744073709551616:=by simp[IntKind.wrap,IntKind.bits,IntKind.signed]
 rw[this];omega
theorem X0 (x t:Nat) (ht:t<64):((x:Int)).fdiv (2^min ((t:Int)).toNat IntKind.u64.bits)=((x/2^t:Nat):Int):=by
 rw[ay,show min t IntKind.u64.bits=t from xY (show t≤64 by omega),show(2:Int)^t=((2^t:Nat):Int)from by simp,Int.fdiv_eq_ediv_of_nonneg _ (Int.natCast_nonneg _)];rfl
theorem adj (t:Nat) (ht:t<64):IntKind.u64.wrap (1*2^min ((t:Int)).toNat IntKind.u64.bits)=((2^t:Nat):Int):=by
 have h:(2:Nat)^t<2^64:=Nat.pow_lt_pow_right (by decide) ht;rw[ay,show min t IntKind.u64.bits=t from xY (show t≤64 by omega),Int.one_mul,show(2:Int)^t=((2^t:Nat):Int)from by simp,BS,nV h]
def qs (ws:List Nat):Array Value:=(ws.map fun(x:Nat)=>Value.int .u64 (x:Int)).toArray
theorem mj {ws:List Nat} {k:Nat} (hk:k<ws.length):(qs ws)[k]? =some (.int .u64 (ws.getD k 0:Nat)):=by
 simp[qs,az,ar hk]
theorem yt (ws:List Nat) (k x:Nat):(qs ws).setIfInBounds k (.int .u64 (x:Int))=qs (ws.set k x):=by
 simp[qs,List.map_set]
structure jJ (Ts Tw:TypeId) (n:Nat) (ws:List Nat) (M:aD) (w:World) (bs bw:Nat):Prop where
 ms:M bs
 mw:M bw
 ne:bs≠bw
 s:w.heap[bs]? =some (.cells #[.int .i64 n,.slice (some ⟨bw,0,none⟩) ws.length ws.length] Ts (0,0))
 w:w.heap[bw]? =some (.cells (qs ws) Tw (0,0))
 len:ws.length=(n+63)/64
 ok:Words ws
 nn:n≤1099511627776
theorem jJ.step {Ts Tw:TypeId} {n:Nat} {ws:List Nat} {M M' N:aD} {w w':World} {bs bw:Nat} (h:jJ Ts Tw n ws M w bs bw) (s:Step M w M' w' N) (h1: ¬N bs) (h2: ¬N bw):jJ Ts Tw n ws M' w' bs bw:=
 ⟨(s.mem bs (ak h.s)).2 h.ms,(s.mem bw (ak h.w)).2 h.mw,h.ne,s.keep h.s h1,s.keep h.w h2,h.len,h.ok,h.nn⟩
theorem jJ.put {Ts Tw:TypeId} {n:Nat} {ws Kf:List Nat} {M:aD} {w w':World} {bs bw:Nat} (h:jJ Ts Tw n ws M w bs bw) (s:Step M w M w' (fun b=>b=bw)) (hl:Kf.length=ws.length) (hw:w'.heap[bw]? =some (.cells (qs Kf) Tw (0,0))) (ok:Words Kf):jJ Ts Tw n Kf M w' bs bw:=
 ⟨h.ms,h.mw,h.ne,by rw[hl];exact s.keep h.s h.ne,hw,by rw[hl];exact h.len,ok,h.nn⟩
section
variable {P:Program} {r:Option Nat} {n:Nat} {L:Sl} {ds:List Deferred} {w:World} {K:Kt} {ops:Array Oper} {rest:List Oper} {d:Nat} {x:Operand} {ty:TypeId} {pos:String} {af:Array Edge}
end
theorem BU (ws:List Nat) {k x:Nat} (hk:k<ws.length) (j:Nat):bit (ws.set k x) j=if j/64=k then x.testBit (j%64)else bit ws j:=by
 unfold bit;rw[K8 _ _ _ _ hk]
 split<;>rfl
theorem Lb {x t:Nat} (hx:x<2^64) (ht:t<64):(2^64-1-x).testBit t= !x.testBit t:=by
 rw[show 2^64-1-x=2^64-(x+1)from by omega,Nat.testBit_two_pow_sub_succ hx,decide_eq_true ht,eR]
theorem PD {ws:List Nat} {j:Nat} (h:ws.length≤j/64):bit ws j=false:=by
 unfold bit;rw[az,dU h];simp
theorem yu (k j:Nat):bit (List.replicate k 0) j=false:=by
 unfold bit;rw[az,gr]
 split<;>simp
def RA (ws:List Nat) (p:Nat) (r:Int):Prop:=(∃j:Nat,r=j∧p≤j∧bit ws j=true∧∀t,p≤t→t<j→bit ws t=false)∨(r= -1∧∀t,p≤t→bit ws t=false)
theorem yv {ws:List Nat} {i t:Nat} (h:i%64+t<64):bit ws (i+t)=(ws.getD (i/64) 0/2^(i%64)).testBit t:=by
 unfold bit;rw[Dl,show(i+t)/64=i/64 from by omega,show(i+t)%64=t+i%64 from by omega]
theorem Dm {x i:Nat} (hx:x<2^64) (hi:i<64) {k m:Nat} (h:x/2^i=2^k*(2*m+1)):i+k<64:=by
 rcases cI (i+k) 64 with h1|h1
 ·exact h1
 ·exfalso;have h2:(x/2^i).testBit k=true:=by rw[h];exact BR.1
  rw[Dl]at h2;have:=Nat.testBit_lt_two_pow (iu hx (nw (n:=2) (by decide) (show 64≤k+i by omega)));rw[this]at h2;cases h2
end Go.K
namespace Go.K
abbrev Fo:=Int×Int
abbrev Tw:=Int×Int×Int
abbrev RT.fo:RT Fo:=RT.pair (RT.int .i64) (RT.int .i64)
def RT.Lc:RT Nat where
 n:=1
 agg:=false
 R:=fun _ _ b vs=>vs=[.pointer (some ⟨b,0,none⟩)]
 len:=by rintro _ _ x vs rfl;rfl
 one:=by rintro _ _ x vs rfl v hv;simp at hv;subst hv;rfl
 le:=fun _ h=>h
theorem Dn {M:aD} {w:World} {b:Nat} {v:Value}:RT.Lc.V M w b v↔v= .pointer (some ⟨b,0,none⟩):=⟨fun⟨_,h1,h2⟩=>by cases h1;exact h2,fun h=>⟨_,rfl,h⟩⟩
def hit (l:List Fo) (x:Int):Bool:=match l with| []=>false|p::_=>decide (p.1=x)
theorem adk {M:aD} {w:World} {a b:Int} (ha: -9223372036854775808≤a∧a≤9223372036854775807) (hb: -9223372036854775808≤b∧b≤9223372036854775807):RT.fo.V M w (a,b) (.agg [.int .i64 a,.int .i64 b].toArray):=
 eS (fV ha) (fV hb) rfl rfl rfl rfl
end Go.K
namespace Go.K
section
variable {P:Program} {r:Option Nat} {n:Nat} {L:Sl} {ds:List Deferred} {w:World} {K:Kt} {ops:Array Oper} {rest:List Oper} {d:Nat} {x y:Operand} {ty:TypeId} {pos:String} {af:Array Edge}
theorem lL {t:TypeId} {k:IntKind} (ht:P.underlying t=some (.int k)) {cs:Array Value} {off:Nat} {v:Value} (hv:cs[off]? =some v):(part t cs off).run P w= .ok v w:=by
 have FE:(isAgg t).run P w= .ok false w:=by
  unfold isAgg;rw[ck,run_underlying ht w];simp
 unfold part;rw[ck,FE];simp[hv]
end
end Go.K
namespace Go.K
section
variable {P:Program} {r:Option Nat} {n:Nat} {L:Sl} {ds:List Deferred} {w:World} {K:Kt} {ops:Array Oper} {rest:List Oper} {d:Nat} {ty:TypeId} {pos:String} {af:Array Edge} {x y i:Operand}
theorem Al {t e:TypeId} {inf:TypeInfo} (ht:P.underlying t=some (.array 2 e)) (he:P.underlying e=some (.int .i64)) (hi:P.info? e=some inf) (hc:P.cellsOf e=1) (a b c f:Int):
  (Op.equal t (.agg #[.int .i64 a,.int .i64 b]) (.agg #[.int .i64 c,.int .i64 f])).run P w= .ok (decide ((a,b)=(c,f))) w:=by
 have hI:∀(k:Nat) (p q:Int),(Op.equalIn (k+1) e (.int .i64 p) (.int .i64 q)).run P w= .ok (p==q) w:=fun k p q=>by simp[Op.equalIn,run_underlying he]
 change(Op.equalIn (9999+1) t _ _).run P w=_;rw[run_equalIn_array w 9999 _ _ ht hi,hc,show List.range 2=[0,1]from rfl];simp only[Op.eqItems,ck];rw[lL he (v:= .int .i64 a) rfl];simp only[cB];rw[lL he (v:= .int .i64 c) rfl];simp only[cB];rw[hI 9998];simp only[cB];by_cases h1:a=c
 ·subst h1;simp only[beq_self_eq_true,Bool.not_true,Bool.false_eq_true,if_false,ck];rw[lL he (v:= .int .i64 b) rfl];simp only[cB];rw[lL he (v:= .int .i64 f) rfl];simp only[cB];rw[hI 9998];simp only[cB];by_cases h2:b=f
  ·subst h2;simp
  ·simp[h2]
 ·simp[h1]
theorem Rg.X1 {t t' e:TypeId} {inf:TypeInfo} {a b c f:Int} (ht:P.underlying t=some (.array 2 e)) (he:P.underlying e=some (.int .i64)) (hi:P.info? e=some inf) (hc:P.cellsOf e=1) (hq:P.eqGuardType P.depth t=false)
  (hx:ev L x=some (.agg #[.int .i64 a,.int .i64 b])) (hy:ev L y=some (.agg #[.int .i64 c,.int .i64 f])) (hd:Nat.blt d n=true)
  (k:Rg P r n ops rest ((d,.bool (decide ((a,b)=(c,f))))::L) ds w K):
  Rg P r n ops ({dst:=some d,op:= .binOp .eql t x y t',type:=ty,pos,after:=af,guard:=none}::rest) L ds w K:=
 .op (fun _ h=>by cases h) rfl rfl hd _ w (fun ρ h=>by
  have he:=Al (P:=P) (w:=w) ht he hi hc a b c f;simp only[execOp];rw[h x _ hx,h y _ hy];rw[ck,ck,run_eqGuard_agg (P:=P) w .eql t x y _ _ hq];simp[binOp,he]) k
theorem Rg.F0 {t t' e:TypeId} {zv:Value} {size bytes:Nat} {a b c f:Int} (ht:P.underlying t=some (.array 2 e)) (he:P.underlying e=some (.int .i64)) (hi:TI P e zv size bytes) (hc:P.cellsOf e=1) (hq:P.eqGuardType P.depth t=false)
  (hx:ev L x=some (.agg #[.int .i64 a,.int .i64 b])) (hy:ev L y=some (.agg #[.int .i64 c,.int .i64 f])) (hd:Nat.blt d n=true)
  (k:Rg P r n ops rest ((d,.bool (decide ((a,b)=(c,f))))::L) ds w K):
  Rg P r n ops ({dst:=some d,op:= .binOp .eql t x y t',type:=ty,pos,after:=af,guard:=none}::rest) L ds w K:=by
 obtain⟨inf,h1,_⟩:=hi.get;exact .X1 ht he h1 hc hq hx hy hd k
theorem Rg.PE {t e:TypeId} {zv:Value} {bytes:Nat} {a b:Int} (ht:P.underlying t=some (.array 2 e)) (hi:TI P t (.agg #[.int .i64 0,.int .i64 0]) 2 16) (he:TI P e zv 1 bytes) (hx:ev L x=some (.int .i64 a)) (hy:ev L y=some (.int .i64 b)) (hd:Nat.blt d n=true)
  (k:Rg P r n ops rest ((d,.agg #[.int .i64 a,.int .i64 b])::L) ds w K):
  Rg P r n ops ({dst:=some d,op:= .build t #[(0,x),(1,y)],type:=ty,pos,after:=af,guard:=none}::rest) L ds w K:=by
 obtain⟨inf,h1,h2,h3,h4⟩:=hi.get;refine .op (fun _ h=>by cases h) rfl rfl hd _ w (fun ρ h=>?_) k;simp only[execOp,fq,eQ,j5,h x _ hx,h y _ hy];simp[Instr.build,zeroValue,typeInfo,h1,h2,run_underlying ht,he.sizeOf,Instr.fill,Value.cells]
theorem dX.ints {M:aD} {κ:IntKind}:∀{xs:List Int} {C:List Value},dX (RT.int κ) M w xs C→C=xs.map (Value.int κ)
 |[],_,h=>by cases h;rfl
 |x::xs,_,⟨us,rest,h1,h2,h3⟩=>by
  subst h1;rw[h2.1,dX.ints h3];rfl
theorem dX.BV {M:aD} {κ:IntKind}:∀{xs:List Int},(∀x∈xs,κ.min≤x∧x≤κ.max)→dX (RT.int κ) M w xs (xs.map (Value.int κ))
 |[],_=>rfl
 |x::xs,h=>⟨[.int κ x],_,rfl,⟨rfl,h x (bP ..)⟩,dX.BV fun y hy=>h y (b9 _ hy)⟩
theorem dX.rng {M:aD} {κ:IntKind}:∀{xs:List Int} {C:List Value},dX (RT.int κ) M w xs C→∀x∈xs,κ.min≤x∧x≤κ.max
 |[],_,_,x,hx=>by cases hx
 |y::xs,_,⟨us,rest,h1,h2,h3⟩,x,hx=>by
  rcases cf.1 hx with rfl|hx
  ·exact h2.2
  ·exact dX.rng h3 x hx
theorem Own.over {e:TypeId} {M:aD} {base g len cap o:Nat} {κ:IntKind} {xs ys:List Int} (h:Own (RT.int κ) e M w base (.slice (some ⟨g,0,none⟩) len cap) xs) (ho:o+ys.length≤xs.length) (hy:∀y∈ys,κ.min≤y∧y≤κ.max):
  Own (RT.int κ) e M (w.setCells g o (ys.map (Value.int κ))) base (.slice (some ⟨g,0,none⟩) len cap) (xs.take o++ys++xs.drop (o+ys.length))∧Step M w M (w.setCells g o (ys.map (Value.int κ))) (fun k=>k=g)∧(∀j,j<ys.length→(w.cell? ⟨g,o+j,none⟩).isSome=true)∧(∀j,j<ys.length→w.frozen? ⟨g,o+j,none⟩=false):=by
 obtain⟨⟨C,hr,ha⟩,hm⟩:=h;have FY:=hm g rfl;rcases hr.2 with⟨h1,_⟩|⟨g',ya,cur,h1,h2,h3,h4,h5,h6,h7⟩
 ·cases h1
 ·simp only[fQ,dL,nP]at h1;obtain⟨⟨rfl,_⟩,rfl,rfl⟩:=h1;have e1:(RT.int κ).n=1:=rfl;rw[e1,eG]at h6 h7;have hCx:=ha.ints;have Pt:=ha.rng;obtain⟨Fs,c1,c2,c3,c4⟩:=ng (ys.map (Value.int κ)) w g o cur e (0,0) h3;have hs:=c4 M FY;have hlen:(xs.take o++ys++xs.drop (o+ys.length)).length=xs.length:=by rw[bj,bj,bH,du];omega
  refine⟨⟨⟨(xs.take o++ys++xs.drop (o+ys.length)).map (Value.int κ),⟨by rw[aL,e1,eG],.inr ⟨g,cap,Fs,by rw[hlen],h2,c1,by rw[hlen];exact h4,h5,by rw[c2,e1,eG];exact h6,?_⟩⟩,dX.BV fun z hz=>?_⟩,fun b hb=>hm b hb⟩,hs,fun j hj=>?_,fun j hj=>by simp[World.frozen?,h3]⟩
  ·rw[e1,eG,hlen];refine eZ fun t=>?_
   rw[cn];have K1:=HI (l:=xs.map (Value.int κ)) (vs:=ys.map (Value.int κ)) (o:=o) (by rw[aL,aL];exact ho) t;rw[aL,←List.map_take,←List.map_drop,←eA,←eA]at K1;rw[K1];have XH:∀t,t<xs.length→(xs.map (Value.int κ))[t]? =cur[t]? :=fun t ht=>by rw[←hCx,←h7,cn,if_pos ht];simp
   split
   ·rename_i ht
    have e0:Fs.toList[t]? =Fs[t]? :=by simp
    rw[e0,c3 t,aL];by_cases h8:o≤t∧t<o+ys.length
    ·rw[if_pos ⟨h8.1,h8.2,by omega⟩,if_pos h8]
    ·rw[if_neg (fun h=>h8 ⟨h.1,h.2.1⟩),if_neg h8,XH t ht]
   ·rename_i ht
    rw[if_neg (by omega),dU (by rw[aL];omega)]
  ·rcases cp.1 hz with hz|hz
   ·rcases cp.1 hz with hz|hz
    ·exact Pt z (List.mem_of_mem_take hz)
    ·exact hy z hz
   ·exact Pt z (List.mem_of_mem_drop hz)
  ·rw[fG h3 (v:=cur[o+j]'(by omega)) (by simp)];rfl
theorem Own.cell {e:TypeId} {M:aD} {base g len cap j:Nat} {κ:IntKind} {xs:List Int} {a:Int} (h:Own (RT.int κ) e M w base (.slice (some ⟨g,0,none⟩) len cap) xs) (hx:xs[j]? =some a):w.cell? ⟨g,j,none⟩=some (.int κ a):=by
 obtain⟨b,o,vs,h1,h2,h3,h4⟩:=h.ptr hx;simp only[Value.pointer.injEq,dL,nP]at h1;obtain⟨rfl,rfl,_⟩:=h1;have:=h4 0 (.int κ a) (by rw[h3.1];rfl);simpa[RT.int]using this
theorem Rg.RB {tt st e:TypeId} {zv:Value} {bytes:Nat} {M:aD} {base g len cap o dl dc sl sc:Nat} {κ:IntKind} {xs ys:List Int} {sa:Addr} (ht:P.underlying tt=some (.slice e)) (hi:TI P e zv 1 bytes) (hd:Nat.blt d n=true)
  (hx:ev L x=some (.slice (some ⟨g,o,none⟩) dl dc)) (hy:ev L y=some (.slice (some sa) sl sc)) (h:Own (RT.int κ) e M w base (.slice (some ⟨g,0,none⟩) len cap) xs) (hn:ys.length=min sl dl) (ho:o+ys.length≤xs.length)
  (adl:∀j a,ys[j]? =some a→w.cell? (sa.add j)=some (.int κ a)) (Pt:∀a∈ys,κ.min≤a∧a≤κ.max)
  (k:∀w',Own (RT.int κ) e M w' base (.slice (some ⟨g,0,none⟩) len cap) (xs.take o++ys++xs.drop (o+ys.length))→Step M w M w' (fun k=>k=g)→Rg P r n ops rest ((d,.int .i64 (ys.length:Int))::L) ds w' K):
  Rg P r n ops ({dst:=some d,op:= .call {callee:= .builtin .copy,args:= #[x,y],argTypes:= #[tt,st]},type:=ty,pos,after:=af,guard:=none}::rest) L ds w K:=by
 obtain⟨h1,h2,h3,h4⟩:=h.over ho Pt;obtain⟨inf,i1,_,i2,_⟩:=hi.get
 have gQ:=run_copy_cells (P:=P) w tt st ty e g o dl dc sa sl sc (ys.map (Value.int κ)) ht (by simp[i1,i2]) (by rw[aL];exact hn)
  (fun j v hv=>by
   rw[bC]at hv
   cases hj:ys[j]? with
   |none=>rw[hj]at hv;cases hv
   |some a=>rw[hj]at hv;cases hv;exact adl j a hj) (by rw[aL];exact h3) (by rw[aL];exact h4) (fun v hv=>by obtain⟨a,_,rfl⟩:=ca.1 hv;rfl)
 rw[aL]at gQ;refine .op (fun _ h=>by cases h) rfl rfl hd _ _ (fun ρ hρ=>?_) (k _ h1 h2);simp only[execOp,resolve,fq,eQ,j5,hρ x _ hx,hρ y _ hy];simp[Go.invoke,builtin,gQ,goInt]
theorem Rg.TT {tt e:TypeId} {bytes:Nat} {M:aD} {base g len cap o dl dc:Nat} {κ:IntKind} {xs:List Int} (ht:P.underlying tt=some (.slice e)) (hi:TI P e (.int κ 0) 1 bytes) (hx:ev L x=some (.slice (some ⟨g,o,none⟩) dl dc)) (h:Own (RT.int κ) e M w base (.slice (some ⟨g,0,none⟩) len cap) xs) (hdl:0<dl) (ho:o+dl≤xs.length) (hz:κ.min≤0∧0≤κ.max)
  (k:∀w',Own (RT.int κ) e M w' base (.slice (some ⟨g,0,none⟩) len cap) (xs.take o++List.replicate dl 0++xs.drop (o+dl))→Step M w M w' (fun k=>k=g)→Rg P r n ops rest L ds w' K):
  Rg P r n ops ({dst:=none,op:= .call {callee:= .builtin .clear,args:= #[x],argTypes:= #[tt]},type:=ty,pos,after:=af,guard:=none}::rest) L ds w K:=by
 obtain⟨h1,h2,h3,h4⟩:=h.over (ys:=List.replicate dl 0) (o:=o) (by rw[bY];exact ho) (fun a ha=>by rw[pV ha];exact hz);rw[bY]at h1 h3 h4;obtain⟨inf,i1,i2,i3,_⟩:=hi.get;have gQ:=Go.Lib.run_clear_slice (P:=P) w tt e ty (.int κ 0) ht (fun w=>by simp[zeroValue,typeInfo,i1,i2]) rfl rfl g o dl dc hdl h3 h4;rw[List.map_replicate]at h1 h2;refine .opv (fun _ h=>by cases h) rfl rfl (.tuple #[]) _ (fun ρ hρ=>?_) (k _ h1 h2);simp only[execOp,resolve,fq,eQ,j5,hρ x _ hx];simp[Go.invoke,builtin,gQ]
end
end Go.K
namespace Go.K
open Go.RowKit (Below)
open Go.Maps (Keyed)
open Go.ChangeMaps (putKey delKey notKey)
abbrev DU:=DataW Unit
structure TU (P:Program) (k:TypeId) (R:Value→Option (DU×List MemPlace)) (M:aD) (w:World) (b:Nat) (m:List (Lit×DU)):Prop where
 mut_:M b
 own:w.ownsMap P k R b m.length (.map m)
section
variable {P:Program} {r:Option Nat} {n:Nat} {L:Sl} {ds:List Deferred} {w:World} {K:Kt} {ops:Array Oper} {rest:List Oper} {d:Nat} {x y z:Operand} {ty:TypeId} {pos:String} {af:Array Edge}
variable {kt:TypeId} {R:Value→Option (DU×List MemPlace)} {M:aD} {b:Nat} {m:List (Lit×DU)}
theorem Step.yw {w w':World} (h:Below w.heap.size w w') (M:aD):Step M w M w' aC:=
 ⟨fun h0 b hb=>iu (h0 b hb) h.size,h.os,h.tape,h.output,h.size,fun _ _=>Iff.rfl,fun b hb _=>h.block b hb,fun _ h=>h.elim⟩
end
end Go.K
namespace Go.K
def allM:aD:=fun _=>True
theorem Step.all {M M' N:aD} {w w':World} (s:Step M w M' w' N):Step allM w allM w' N:=⟨fun h=>absurd (h w.heap.size trivial) (jt _),s.os,s.tape,s.output,s.size,fun _ _=>Iff.rfl,s.same,fun _ _=>trivial⟩
theorem Step.toAny {M M':aD} {w w':World} (s:Step M w M' w' aC) (M1:aD):Step M1 w M1 w' aC:=s.any M1
theorem dX.int {κ:IntKind} {M M':aD} {w w':World}:∀{xs:List Int} {C:List Value},dX (RT.int κ) M w xs C→dX (RT.int κ) M' w' xs C
 |[],_,h=>h
 |x::xs,C,h=>by
  obtain⟨vs,r,h1,h2,h3⟩:=h;exact⟨vs,r,h1,h2,dX.int h3⟩
theorem Own.PF {κ:IntKind} {e:TypeId} {M:aD} {w:World} {base:Nat} {v:Value} {xs:List Int} (h:Own (RT.int κ) e M w base v xs) {M':aD} (hm:∀b,v.ownBlock=some b→M' b):Own (RT.int κ) e M' w base v xs:=by
 obtain⟨⟨C,h1,h2⟩,_⟩:=h;exact⟨⟨C,h1,dX.int h2⟩,hm⟩
theorem Own.X2 {κ:IntKind} {e:TypeId} {N:aD} {w w':World} {base:Nat} {v:Value} {xs:List Int} (h:Own (RT.int κ) e allM w base v xs) (s:Step allM w allM w' N) (hn:∀b,v.ownBlock=some b→¬N b):Own (RT.int κ) e allM w' base v xs:=by
 obtain⟨⟨C,h1,h2⟩,_⟩:=h;refine⟨⟨C,⟨h1.1,?_⟩,dX.int h2⟩,fun _ _=>trivial⟩;rcases h1.2 with h3|⟨g,cap,cur,h3,h4,h5,h6,h7,h8⟩
 ·exact .inl h3
 ·exact .inr ⟨g,cap,cur,h3,h4,by rw[s.same g (ak h5) (hn g (by rw[h3];rfl))];exact h5,h6,h7,h8⟩
def mV (v:Value):aD:=fun b=>v.ownBlock=some b
theorem Own.lone {κ:IntKind} {e:TypeId} {M:aD} {w:World} {base:Nat} {v:Value} {xs:List Int} (h:Own (RT.int κ) e M w base v xs):Own (RT.int κ) e (mV v) w base v xs:=h.PF fun _ h=>h
end Go.K
namespace Go.K
def F1 (at':Nat→Nat) (cont:Nat→Bool):Nat×Nat:=
 if at' 0<0x80 then(at' 0,1)
 else if at' 0/32==6&&cont 1 then
  if(at' 0%32)*64+at' 1%64≥0x80 then((at' 0%32)*64+at' 1%64,2)else(65533,1)
 else if at' 0/16==14&&cont 1&&cont 2 then
  if(at' 0%16)*4096+(at' 1%64)*64+at' 2%64≥0x800&&Utf8.valid ((at' 0%16)*4096+(at' 1%64)*64+at' 2%64:Nat)then((at' 0%16)*4096+(at' 1%64)*64+at' 2%64,3)else(65533,1)
 else if at' 0/8==30&&cont 1&&cont 2&&cont 3 then
  if(at' 0%8)*262144+(at' 1%64)*4096+(at' 2%64)*64+at' 3%64≥0x10000&&Utf8.valid ((at' 0%8)*262144+(at' 1%64)*4096+(at' 2%64)*64+at' 3%64:Nat)then((at' 0%8)*262144+(at' 1%64)*4096+(at' 2%64)*64+at' 3%64,4)else(65533,1)
 else(65533,1)
theorem IZ (s:ByteArray) (i:Nat):Utf8.decode s i=F1 (fun k=>(s.get! (i+k)).toNat) (fun k=>decide (i+k<s.size)&&(s.get! (i+k)).toNat/64==2):=rfl
def kd (l:List UInt8) (k:Nat):Nat:=(l.getD k 0).toNat
def ko (l:List UInt8) (k:Nat):Bool:=decide (k<l.length)&&kd l k/64==2
def dec (l:List UInt8):Nat×Nat:=F1 (kd l) (ko l)
theorem I0 (l:List UInt8) (j:Nat):(⟨l.toArray⟩:ByteArray).get! j=l.getD j 0:=by
 show l.toArray[j]! =_;rw[az,getElem!_def];simp only[il]
 cases l[j]? <;>rfl
theorem F2 (l:List UInt8) (pos:Nat):Utf8.decode ⟨l.toArray⟩ pos=dec (l.drop pos):=by
 rw[IZ,dec]
 have h1:(fun k=>((⟨l.toArray⟩:ByteArray).get! (pos+k)).toNat)=kd (l.drop pos):=by
  funext k;rw[I0,kd,az,az,List.getElem?_drop]
 have h2:(fun k=>decide (pos+k<(⟨l.toArray⟩:ByteArray).size)&&((⟨l.toArray⟩:ByteArray).get! (pos+k)).toNat/64==2)=ko (l.drop pos):=by
  funext k;have:=congrFun h1 k;rw[this,ko,du];congr 1;have hs:(⟨l.toArray⟩:ByteArray).size=l.length:=by simp[ByteArray.size]
  rw[hs];exact decide_eq_decide.2 (by omega)
 rw[h1,h2]
theorem yx {l:List UInt8} {k:Nat} (h:ko l k=true):k<l.length:=by
 simp only[ko,bU,decide_eq_true_eq]at h;exact h.1
theorem lX {l:List UInt8} (hl:l≠[]):1≤(dec l).2∧(dec l).2≤l.length:=by
 have h0:0<l.length:=oN.2 hl;unfold dec F1
 split
 ·exact⟨aT _,h0⟩
 ·split
  ·rename_i h
   simp only[bU]at h;have:=yx h.2
   split<;>(simp only;omega)
  ·split
   ·rename_i h
    simp only[bU]at h;have:=yx h.2
    split<;>(simp only;omega)
   ·split
    ·rename_i h
     simp only[bU]at h;have:=yx h.2
     split<;>(simp only;omega)
    ·exact⟨aT _,h0⟩
theorem o0 (l:List UInt8) (k:Nat):kd l k<256:=by unfold kd;exact UInt8.toNat_lt _
theorem vC (l:List UInt8):(dec l).1≤1114111:=by
 unfold dec F1
 split
 ·simp only;omega
 ·split
  ·have:=o0 l 0
   split<;>(simp only;omega)
  ·split
   ·have:=o0 l 0
    split<;>(simp only;omega)
   ·split
    ·split
     ·rename_i h
      simp only[bU,Utf8.valid,qb,decide_eq_true_eq]at h;simp only;omega
     ·simp only;omega
    ·simp only;omega
def fh (l:List UInt8):List Int:=match l with
 |[]=>[]
 |c::r=>((dec (c::r)).1:Int)::fh ((c::r).drop (dec (c::r)).2)
termination_by l.length
decreasing_by
 have:=(lX (l:=c::r) (by simp)).1;simp only[du,cM];omega
theorem vD:fh []=[]:=by unfold fh;rfl
theorem ta {l:List UInt8} (h:l≠[]):fh l=((dec l).1:Int)::fh (l.drop (dec l).2):=by
 cases l with
 |nil=>exact absurd rfl h
 |cons c r=>rw[fh]
theorem iV (l:List UInt8):(fh l).length≤l.length:=by
 induction hn:l.length using Nat.strongRecOn generalizing l with
 |_ n ih=>
  by_cases h:l=[]
  ·subst h;rw[vD];simp
  ·rw[ta h,cM];have hw:=lX h;have:=ih _ (by rw[du];omega) (l.drop (dec l).2) rfl;rw[du]at this;omega
section
variable {P:Program} {r:Option Nat} {n:Nat} {L:Sl} {ds:List Deferred} {w:World} {K:Kt} {ops:Array Oper} {rest:List Oper} {d:Nat} {x:Operand} {ty:TypeId} {pos:String} {af:Array Edge}
theorem Rg.Ld {t:TypeId} {l:List UInt8} (M:aD) (ht:P.underlying t=some .string) (hx:ev L x=some (.string ⟨l.toArray⟩)) (hd:Nat.blt d n=true)
  (k:∀b w',w.heap.size≤b→b<w'.heap.size→w'.heap[b]? =some (.stringIter ⟨l.toArray⟩ 0)→Step M w (ins M b) w' aC→Rg P r n ops rest ((d,.pointer (some ⟨b,0,none⟩))::L) ds w' K):
  Rg P r n ops ({dst:=some d,op:= .range t x,type:=ty,pos,after:=af,guard:=none}::rest) L ds w K:=by
 refine .op (fun _ h=>by cases h) rfl rfl hd (.pointer (some ⟨w.heap.size,0,none⟩)) (w.alloc (.stringIter ⟨l.toArray⟩ 0)) (fun ρ hρ=>?_) (k w.heap.size _ (aT _) (by simp) (cg w _) ((cQ M w _).own (aT _) (by simp)));simp only[execOp,hρ x _ hx];simp[Instr.range,ck,run_underlying ht,newObj,Sem.run]
theorem jm (M:aD) {b:Nat} {o:Obj} (hm:M b):Step M w M {w with heap:=w.heap.setIfInBounds b o} (fun k=>k=b):=
 ⟨fun h b hb=>by simpa using h b hb,rfl,rfl,rfl,by simp,fun _ _=>Iff.rfl,fun k _ hn=>by simp[dx,Ne.symm hn],fun k hk=>by subst hk;exact hm⟩
theorem qt {b p:Nat} {s:ByteArray} (hb:w.heap[b]? =some (.stringIter s p)):(getObj b).run P w= .ok (.stringIter s p) w:=by simp[getObj,Sem.run,hb]
theorem Rg.PG {l:List UInt8} {b p:Nat} {M:aD} (hx:ev L x=some (.pointer (some ⟨b,0,none⟩))) (hb:w.heap[b]? =some (.stringIter ⟨l.toArray⟩ p)) (hm:M b) (hd:Nat.blt d n=true)
  (k1:p<l.length→∀w',w'.heap[b]? =some (.stringIter ⟨l.toArray⟩ (p+(dec (l.drop p)).2))→Step M w M w' (fun k=>k=b)→Rg P r n ops rest ((d,.tuple #[.bool true,.int .i64 p,.int .i32 ((dec (l.drop p)).1:Nat)])::L) ds w' K)
  (k2: ¬p<l.length→Rg P r n ops rest ((d,.tuple #[.bool false])::L) ds w K):
  Rg P r n ops ({dst:=some d,op:= .next x true,type:=ty,pos,after:=af,guard:=none}::rest) L ds w K:=by
 have hs:(⟨l.toArray⟩:ByteArray).size=l.length:=by simp[ByteArray.size]
 have dR:=ak hb;by_cases h:p<l.length
 ·have key:=k1 h {w with heap:=w.heap.setIfInBounds b (.stringIter ⟨l.toArray⟩ (p+(dec (l.drop p)).2))} (by simp[dx,dR]) (jm M hm);refine .op (fun _ h=>by cases h) rfl rfl hd _ _ (fun ρ hρ=>?_) key;simp only[execOp,hρ x _ hx,Instr.next,ck,qt hb,cB];rw[if_pos (by rw[hs];exact h)];simp[F2,setObj,Sem.run,goInt,hb]
 ·refine .op (fun _ h=>by cases h) rfl rfl hd _ w (fun ρ hρ=>?_) (k2 h);simp only[execOp,hρ x _ hx,Instr.next,ck,qt hb,cB];rw[if_neg (by rw[hs];exact h)];simp
theorem Rg.HJ {t:TypeId} {i:Operand} {l:List UInt8} {κ:IntKind} {j:Int} {c:UInt8} (ht:P.underlying t=some .string) (hx:ev L x=some (.string ⟨l.toArray⟩)) (hi:ev L i=some (.int κ j)) (hd:Nat.blt d n=true) (hj:0≤j) (hc:l[j.toNat]? =some c)
  (k:Rg P r n ops rest ((d,.int .u8 (c.toNat:Int))::L) ds w K):
  Rg P r n ops ({dst:=some d,op:= .index t x i,type:=ty,pos,after:=af,guard:=none}::rest) L ds w K:=by
 have dR:=(ao.1 hc).1;have hs:(⟨l.toArray⟩:ByteArray).size=l.length:=by simp[ByteArray.size]
 have hg:(⟨l.toArray⟩:ByteArray)[j.toNat]? =some c:=by
  rw[getElem?_pos _ _ (by rw[hs];exact dR)];congr 1;have:=(ao.1 hc).2;rw[←this];rfl
 refine .op (fun _ h=>by cases h) rfl rfl hd _ w (fun ρ hρ=>?_) k;simp only[execOp,hρ x _ hx,hρ i _ hi,Instr.index,ck,asIntOf,Sem.run_pure,cB,run_underlying ht];simp[hj,hg]
theorem rX (l:List UInt8) (a b:Nat):(⟨l.toArray⟩:ByteArray).extract a b=⟨((l.take b).drop a).toArray⟩:=by
 have:((⟨l.toArray⟩:ByteArray).extract a b).data=((l.take b).drop a).toArray:=by
  rw[ByteArray.data_extract];apply Array.toList_inj.1;rw[Array.toList_extract,List.extract_eq_take_drop,List.drop_take]
 exact congrArg ByteArray.mk this
theorem Rg.PH {t:TypeId} {i:Operand} {l:List UInt8} {κ:IntKind} {j:Int} (ht:P.underlying t=some .string) (hx:ev L x=some (.string ⟨l.toArray⟩)) (hi:ev L i=some (.int κ j)) (hd:Nat.blt d n=true) (hj:0≤j∧j≤l.length)
  (k:Rg P r n ops rest ((d,.string ⟨(l.drop j.toNat).toArray⟩)::L) ds w K):
  Rg P r n ops ({dst:=some d,op:= .slice t x (some i) none none,type:=ty,pos,after:=af,guard:=none}::rest) L ds w K:=by
 have hs:(⟨l.toArray⟩:ByteArray).size=l.length:=by simp[ByteArray.size]
 refine .op (fun _ h=>by cases h) rfl rfl hd _ w (fun ρ hρ=>?_) k;simp only[execOp,hρ x _ hx,dd,ie,hρ i _ hi];rw[ck,run_sliceAt_string _ _ _ _ _ _ ht,run_slice_string_l _ _ _ ht _ _ hj.1 (by rw[hs];exact hj.2),rX,hs,List.take_length];simp
theorem Rg.RC {t:TypeId} {i:Operand} {l:List UInt8} {κ:IntKind} {j:Int} (ht:P.underlying t=some .string) (hx:ev L x=some (.string ⟨l.toArray⟩)) (hi:ev L i=some (.int κ j)) (hd:Nat.blt d n=true) (hj:0≤j∧j≤l.length)
  (k:Rg P r n ops rest ((d,.string ⟨(l.take j.toNat).toArray⟩)::L) ds w K):
  Rg P r n ops ({dst:=some d,op:= .slice t x none (some i) none,type:=ty,pos,after:=af,guard:=none}::rest) L ds w K:=by
 have hs:(⟨l.toArray⟩:ByteArray).size=l.length:=by simp[ByteArray.size]
 refine .op (fun _ h=>by cases h) rfl rfl hd _ w (fun ρ hρ=>?_) k;simp only[execOp,hρ x _ hx,dd,ie,hρ i _ hi];rw[ck,run_sliceAt_string _ _ _ _ _ _ ht,run_slice_string_h _ _ _ ht _ _ hj.1 (by rw[hs];exact hj.2),rX,List.drop_zero];simp
end
theorem Own.eg {α:Type} {A:RT α} {e:TypeId} {M:aD} {w:World} {base b p:Nat} {s:ByteArray} {v:Value} {xs:List α} (h:Own A e M w base v xs) (hb:w.heap[b]? =some (.stringIter s p)):v.ownBlock≠some b:=fun hv=>by
 obtain⟨⟨C,h1,_⟩,_⟩:=h;rcases h1.2 with⟨h2,_⟩|⟨g,cap,cur,h2,_,h3,_⟩
 ·rw[h2]at hv;cases hv
 ·rw[h2]at hv;cases hv;rw[h3]at hb;cases hb
theorem Own.dz {α β:Type} {A:RT α} {B:RT β} {e e':TypeId} {M M':aD} {w:World} {base HC:Nat} {v u:Value} {xs:List α} {ys:List β} (h:Own A e M w base v xs) (h':Own B e' M' w HC u ys) (ht:e≠e') {b:Nat} (hb:v.ownBlock=some b):u.ownBlock≠some b:=fun hu=>by
 obtain⟨⟨C,h1,_⟩,_⟩:=h;obtain⟨⟨C',W7,_⟩,_⟩:=h';rcases h1.2 with⟨h2,_⟩|⟨g,cap,cur,h2,_,h3,_⟩
 ·rw[h2]at hb;cases hb
 ·rcases W7.2 with⟨yc,_⟩|⟨g',ya,XC,yc,_,h3',_⟩
  ·rw[yc]at hu;cases hu
  ·rw[h2]at hb;rw[yc]at hu;cases hb;cases hu;rw[h3]at h3';cases h3';exact ht rfl
theorem Own.eI {α:Type} {A:RT α} {e t:TypeId} {M:aD} {w:World} {base b:Nat} {v:Value} {xs:List α} {cs:Array Value} {fr:Nat×Nat} (h:Own A e M w base v xs) (hb:w.heap[b]? =some (.cells cs t fr)) (ht:t≠e):v.ownBlock≠some b:=fun hv=>by
 obtain⟨⟨C,h1,_⟩,_⟩:=h;rcases h1.2 with⟨h2,_⟩|⟨g,cap,cur,h2,_,h3,_⟩
 ·rw[h2]at hv;cases hv
 ·rw[h2]at hv;cases hv;rw[h3]at hb;cases hb;exact ht rfl
end Go.K
namespace Go.K
open Go.Proofs
theorem I3:TI Tryz.prog 3 (.int .i64 0) 1 8:=by unfold TI;kernel_rfl
theorem I5:TI Tryz.prog 5 (.int .u8 0) 1 1:=by unfold TI;kernel_rfl
theorem I9:TI Tryz.prog 9 (.string ⟨#[]⟩) 1 16:=by unfold TI;kernel_rfl
theorem I26:TI Tryz.prog 26 (.int .i64 0) 1 8:=by unfold TI;kernel_rfl
theorem jL:TI Tryz.prog 37 (.slice none 0 0) 1 24:=by unfold TI;kernel_rfl
theorem xN:TI Tryz.prog 57 (.slice none 0 0) 1 24:=by unfold TI;kernel_rfl
theorem vE:TI Tryz.prog 67 (.slice none 0 0) 1 24:=by unfold TI;kernel_rfl
theorem o5:TI Tryz.prog 69 (.agg #[(.int .i64 0),(.slice none 0 0)]) 2 32:=by unfold TI;kernel_rfl
theorem HK:TI Tryz.prog 71 (.agg #[(.int .i64 0),(.slice none 0 0),(.int .i64 0)]) 3 40:=by unfold TI;kernel_rfl
theorem AY:TI Tryz.prog 78 (.agg #[(.string ⟨#[]⟩),(.string ⟨#[]⟩)]) 2 32:=by unfold TI;kernel_rfl
theorem lM:TI Tryz.prog 83 (.agg #[(.int .i64 0),(.slice none 0 0)]) 2 32:=by unfold TI;kernel_rfl
theorem Am:TI Tryz.prog 142 (.pointer none) 1 8:=by unfold TI;kernel_rfl
theorem adm:TI Tryz.prog 155 (.slice none 0 0) 1 24:=by unfold TI;kernel_rfl
theorem kE:TI Tryz.prog 166 (.agg #[(.string ⟨#[]⟩),(.string ⟨#[]⟩)]) 2 32:=by unfold TI;kernel_rfl
theorem Dp:TI Tryz.prog 204 (.slice none 0 0) 1 24:=by unfold TI;kernel_rfl
theorem I1:TI Tryz.prog 205 (.slice none 0 0) 1 24:=by unfold TI;kernel_rfl
theorem adn:TI Tryz.prog 207 (.agg #[(.slice none 0 0),(.slice none 0 0),(.int .i64 0)]) 3 56:=by unfold TI;kernel_rfl
theorem BW:TI Tryz.prog 209 (.agg #[(.int .i64 0),(.int .i64 0),(.int .i64 0),(.int .i64 0)]) 4 32:=by unfold TI;kernel_rfl
theorem I2:TI Tryz.prog 266 (.agg #[(.string ⟨#[]⟩),(.int .i64 0)]) 2 24:=by unfold TI;kernel_rfl
theorem ado:TI Tryz.prog 336 (.agg #[(.pointer none),(.slice none 0 0)]) 2 32:=by unfold TI;kernel_rfl
theorem B69:placesOf Tryz.prog 69=[(0,1),(1,1)].map some:=by kernel_rfl
theorem B71:placesOf Tryz.prog 71=[(0,2),(2,1)].map some:=by kernel_rfl
theorem B78:placesOf Tryz.prog 78=[(0,1),(1,1)].map some:=by kernel_rfl
theorem X3:placesOf Tryz.prog 83=[(0,1),(1,1)].map some:=by kernel_rfl
theorem adp:placesOf Tryz.prog 207=[(0,1),(1,1),(2,1)].map some:=by kernel_rfl
theorem adq:placesOf Tryz.prog 209=[(0,1),(1,1),(2,1),(3,1)].map some:=by kernel_rfl
theorem X4:placesOf Tryz.prog 266=[(0,1),(1,1)].map some:=by kernel_rfl
theorem mixed:Tryz.prog.follows .mixedOrders=true:=by kernel_rfl
theorem E44:Enters Tryz.prog 44:=enters Tryz.func44 rfl (by decide)
theorem E80:Enters Tryz.prog 80:=enters Tryz.func80 rfl (by decide)
theorem E93:Enters Tryz.prog 93:=enters Tryz.func93 rfl (by decide)
theorem E94:Enters Tryz.prog 94:=enters Tryz.func94 rfl (by decide)
theorem adt:Enters Tryz.prog 128:=enters Tryz.func128 rfl (by decide)
theorem adu:Enters Tryz.prog 129:=enters Tryz.func129 rfl (by decide)
theorem adv:Enters Tryz.prog 130:=enters Tryz.func130 rfl (by decide)
theorem adw:Enters Tryz.prog 131:=enters Tryz.func131 rfl (by decide)
theorem X5:Enters Tryz.prog 132:=enters Tryz.func132 rfl (by decide)
theorem adx:Enters Tryz.prog 136:=enters Tryz.func136 rfl (by decide)
theorem ady:Enters Tryz.prog 137:=enters Tryz.func137 rfl (by decide)
theorem adz:Enters Tryz.prog 138:=enters Tryz.func138 rfl (by decide)
theorem adA:Enters Tryz.prog 139:=enters Tryz.func139 rfl (by decide)
theorem adB:Enters Tryz.prog 148:=enters Tryz.func148 rfl (by decide)
theorem X6:Enters Tryz.prog 183:=enters Tryz.func183 rfl (by decide)
theorem adC:Enters Tryz.prog 184:=enters Tryz.func184 rfl (by decide)
theorem adD:Enters Tryz.prog 185:=enters Tryz.func185 rfl (by decide)
theorem adE:Enters Tryz.prog 186:=enters Tryz.func186 rfl (by decide)
theorem adF:Enters Tryz.prog 187:=enters Tryz.func187 rfl (by decide)
theorem adG:Enters Tryz.prog 188:=enters Tryz.func188 rfl (by decide)
theorem adH:Enters Tryz.prog 190:=enters Tryz.func190 rfl (by decide)
theorem adI:Enters Tryz.prog 193:=enters Tryz.func193 rfl (by decide)
theorem adJ:Enters Tryz.prog 194:=enters Tryz.func194 rfl (by decide)
theorem TV:Enters Tryz.prog 195:=enters Tryz.func195 rfl (by decide)
theorem adK:Enters Tryz.prog 196:=enters Tryz.func196 rfl (by decide)
theorem adL:Enters Tryz.prog 201:=enters Tryz.func201 rfl (by decide)
theorem adM:Enters Tryz.prog 222:=enters Tryz.func222 rfl (by decide)
theorem adN:Enters Tryz.prog 223:=enters Tryz.func223 rfl (by decide)
theorem X7:Enters Tryz.prog 224:=enters Tryz.func224 rfl (by decide)
theorem adO:Enters Tryz.prog 225:=enters Tryz.func225 rfl (by decide)
theorem adP:Enters Tryz.prog 226:=enters Tryz.func226 rfl (by decide)
theorem X8:Enters Tryz.prog 227:=enters Tryz.func227 rfl (by decide)
theorem adQ:Enters Tryz.prog 228:=enters Tryz.func228 rfl (by decide)
theorem adR:Enters Tryz.prog 229:=enters Tryz.func229 rfl (by decide)
theorem adS:Enters Tryz.prog 237:=enters Tryz.func237 rfl (by decide)
theorem adT:Enters Tryz.prog 249:=enters Tryz.func249 rfl (by decide)
theorem adU:Enters Tryz.prog 250:=enters Tryz.func250 rfl (by decide)
theorem adV:Enters Tryz.prog 251:=enters Tryz.func251 rfl (by decide)
theorem X9:Enters Tryz.prog 252:=enters Tryz.func252 rfl (by decide)
theorem adW:Enters Tryz.prog 253:=enters Tryz.func253 rfl (by decide)
theorem Ya:Enters Tryz.prog 254:=enters Tryz.func254 rfl (by decide)
theorem Yb:Enters Tryz.prog 263:=enters Tryz.func263 rfl (by decide)
theorem adX:Enters Tryz.prog 264:=enters Tryz.func264 rfl (by decide)
theorem adY:Enters Tryz.prog 265:=enters Tryz.func265 rfl (by decide)
theorem adZ:Enters Tryz.prog 266:=enters Tryz.func266 rfl (by decide)
theorem ad0:Enters Tryz.prog 267:=enters Tryz.func267 rfl (by decide)
theorem ad1:Enters Tryz.prog 284:=enters Tryz.func284 rfl (by decide)
theorem ad2:Enters Tryz.prog 285:=enters Tryz.func285 rfl (by decide)
theorem Yc:Enters Tryz.prog 287:=enters Tryz.func287 rfl (by decide)
theorem ad3:Enters Tryz.prog 290:=enters Tryz.func290 rfl (by decide)
end Go.K
namespace Go.K
open Go.Proofs
set_option maxRecDepth 10000
def fF (c:Int):Bool:=decide ((97≤c∧c≤122)∨(65≤c∧c≤90)∨(192≤c∧c≤591∧c≠215∧c≠247))
def o6 (c:Int):Bool:=decide (48≤c∧c≤57)
def fI (c:Int):Int:=if(65≤c∧c≤90)∨(192≤c∧c≤222∧c≠215)then c+32 else c
theorem Dq (c:Int) (w0:World):
  Spec Tryz.prog 225 #[.int .i64 c] w0 (fun v w=>v= .bool (fF c)∧w=w0):=by
 refine bc (args:=[_]) (fn:=Tryz.f225) Tryz.func225 rfl (n:=33) Tryz.ntmps225 (aj (ae (ah rfl rfl (ab (aj (ae (ad rfl rfl (dV rfl rfl rfl (ad rfl rfl ?_)))))))));refine aQ (g:=5) rfl (fun iL=>?_) (fun iL=>?_)
 ·refine al rfl rfl (ad rfl rfl (al rfl rfl (gK rfl rfl rfl (aY rfl rfl rfl (ad rfl rfl ?_)))));refine aQ (g:=9) rfl (fun BX=>?_) (fun BX=>?_)
  ·refine au rfl rfl rfl rfl (au rfl rfl rfl rfl (au rfl rfl rfl rfl (cq rfl rfl rfl (cq rfl rfl rfl (au rfl rfl rfl rfl (aY rfl rfl rfl (ad rfl rfl (au rfl rfl rfl rfl (au rfl rfl rfl rfl (au rfl rfl rfl rfl (cq rfl rfl rfl ?_)))))))))));refine cq rfl rfl rfl (au rfl rfl rfl rfl (au rfl rfl rfl rfl (cq rfl rfl rfl (cq rfl rfl rfl (au rfl rfl rfl rfl (au rfl rfl rfl rfl (cq rfl rfl rfl (cq rfl rfl rfl (au rfl rfl rfl rfl (aY rfl rfl rfl (ah rfl rfl ?_)))))))))));refine ab (aO ?_);exact aS rfl rfl ⟨by simp only[fF];first|rfl|(congr 1;first|(exact(decide_eq_true (by omega)).symm)|(exact(decide_eq_false (by omega)).symm)|(exact decide_eq_decide.2 (by omega))),rfl⟩
  ·refine al rfl rfl (ad rfl rfl (al rfl rfl (dV rfl rfl rfl (al rfl rfl (ad rfl rfl ?_)))));refine aQ (g:=12) rfl (fun tb=>?_) (fun tb=>?_)
   ·refine al rfl rfl (ad rfl rfl (al rfl rfl (gK rfl rfl rfl (al rfl rfl (aY rfl rfl rfl (aE rfl rfl rfl (ad rfl rfl ?_)))))));refine aQ (g:=17) rfl (fun yy=>?_) (fun yy=>?_)
    ·refine au rfl rfl rfl rfl (au rfl rfl rfl rfl (au rfl rfl rfl rfl (cq rfl rfl rfl (cq rfl rfl rfl (au rfl rfl rfl rfl (au rfl rfl rfl rfl (cq rfl rfl rfl (cq rfl rfl rfl (au rfl rfl rfl rfl (au rfl rfl rfl rfl (cq rfl rfl rfl ?_)))))))))));refine cq rfl rfl rfl (au rfl rfl rfl rfl (aY rfl rfl rfl (ah rfl rfl (ab (aO ?_)))));exact aS rfl rfl ⟨by simp only[fF];first|rfl|(congr 1;first|(exact(decide_eq_true (by omega)).symm)|(exact(decide_eq_false (by omega)).symm)|(exact decide_eq_decide.2 (by omega))),rfl⟩
    ·refine al rfl rfl (ad rfl rfl (al rfl rfl (dV rfl rfl rfl (al rfl rfl (ad rfl rfl ?_)))));refine aQ (g:=20) rfl (fun mq=>?_) (fun mq=>?_)
     ·refine al rfl rfl (ad rfl rfl (al rfl rfl (gK rfl rfl rfl (al rfl rfl (aY rfl rfl rfl (al rfl rfl (ad rfl rfl ?_)))))));refine aQ (g:=24) rfl (fun yz=>?_) (fun yz=>?_)
      ·refine al rfl rfl (ad rfl rfl (al rfl rfl (eM rfl rfl rfl (al rfl rfl (aY rfl rfl rfl (al rfl rfl (ad rfl rfl ?_)))))));refine aQ (g:=28) rfl (fun yA=>?_) (fun yA=>?_)
       ·refine al rfl rfl (ad rfl rfl (al rfl rfl (eM rfl rfl rfl (al rfl rfl (aY rfl rfl rfl (aE rfl rfl rfl (ah rfl rfl (ab (aO ?_)))))))));exact aS rfl rfl ⟨by simp only[fF];first|rfl|(congr 1;first|(exact(decide_eq_true (by omega)).symm)|(exact(decide_eq_false (by omega)).symm)|(exact decide_eq_decide.2 (by omega))),rfl⟩
       ·refine au rfl rfl rfl rfl (au rfl rfl rfl rfl (al rfl rfl (aE rfl rfl rfl (aE rfl rfl rfl (ah rfl rfl (ab (aO ?_)))))));exact aS rfl rfl ⟨by simp only[fF];first|rfl|(congr 1;first|(exact(decide_eq_true (by omega)).symm)|(exact(decide_eq_false (by omega)).symm)|(exact decide_eq_decide.2 (by omega))),rfl⟩
      ·refine au rfl rfl rfl rfl (au rfl rfl rfl rfl (al rfl rfl (aE rfl rfl rfl (al rfl rfl (ad rfl rfl (au rfl rfl rfl rfl (au rfl rfl rfl rfl (al rfl rfl (aE rfl rfl rfl (aE rfl rfl rfl (ah rfl rfl ?_)))))))))));refine ab (aO ?_);exact aS rfl rfl ⟨by simp only[fF];first|rfl|(congr 1;first|(exact(decide_eq_true (by omega)).symm)|(exact(decide_eq_false (by omega)).symm)|(exact decide_eq_decide.2 (by omega))),rfl⟩
     ·refine au rfl rfl rfl rfl (au rfl rfl rfl rfl (al rfl rfl (aE rfl rfl rfl (al rfl rfl (ad rfl rfl (au rfl rfl rfl rfl (au rfl rfl rfl rfl (al rfl rfl (aE rfl rfl rfl (al rfl rfl (ad rfl rfl ?_)))))))))));refine au rfl rfl rfl rfl (au rfl rfl rfl rfl (al rfl rfl (aE rfl rfl rfl (aE rfl rfl rfl (ah rfl rfl (ab (aO ?_)))))));exact aS rfl rfl ⟨by simp only[fF];first|rfl|(congr 1;first|(exact(decide_eq_true (by omega)).symm)|(exact(decide_eq_false (by omega)).symm)|(exact decide_eq_decide.2 (by omega))),rfl⟩
   ·refine au rfl rfl rfl rfl (au rfl rfl rfl rfl (al rfl rfl (aE rfl rfl rfl (aE rfl rfl rfl (ad rfl rfl (al rfl rfl (ad rfl rfl (al rfl rfl (dV rfl rfl rfl (al rfl rfl (ad rfl rfl ?_)))))))))));refine aQ (g:=20) rfl (fun mq=>?_) (fun mq=>?_)
    ·refine al rfl rfl (ad rfl rfl (al rfl rfl (gK rfl rfl rfl (al rfl rfl (aY rfl rfl rfl (al rfl rfl (ad rfl rfl ?_)))))));refine aQ (g:=24) rfl (fun yz=>?_) (fun yz=>?_)
     ·refine al rfl rfl (ad rfl rfl (al rfl rfl (eM rfl rfl rfl (al rfl rfl (aY rfl rfl rfl (al rfl rfl (ad rfl rfl ?_)))))));refine aQ (g:=28) rfl (fun yA=>?_) (fun yA=>?_)
      ·refine al rfl rfl (ad rfl rfl (al rfl rfl (eM rfl rfl rfl (al rfl rfl (aY rfl rfl rfl (aE rfl rfl rfl (ah rfl rfl (ab (aO ?_)))))))));exact aS rfl rfl ⟨by simp only[fF];first|rfl|(congr 1;first|(exact(decide_eq_true (by omega)).symm)|(exact(decide_eq_false (by omega)).symm)|(exact decide_eq_decide.2 (by omega))),rfl⟩
      ·refine au rfl rfl rfl rfl (au rfl rfl rfl rfl (al rfl rfl (aE rfl rfl rfl (aE rfl rfl rfl (ah rfl rfl (ab (aO ?_)))))));exact aS rfl rfl ⟨by simp only[fF];first|rfl|(congr 1;first|(exact(decide_eq_true (by omega)).symm)|(exact(decide_eq_false (by omega)).symm)|(exact decide_eq_decide.2 (by omega))),rfl⟩
     ·refine au rfl rfl rfl rfl (au rfl rfl rfl rfl (al rfl rfl (aE rfl rfl rfl (al rfl rfl (ad rfl rfl (au rfl rfl rfl rfl (au rfl rfl rfl rfl (al rfl rfl (aE rfl rfl rfl (aE rfl rfl rfl (ah rfl rfl ?_)))))))))));refine ab (aO ?_);exact aS rfl rfl ⟨by simp only[fF];first|rfl|(congr 1;first|(exact(decide_eq_true (by omega)).symm)|(exact(decide_eq_false (by omega)).symm)|(exact decide_eq_decide.2 (by omega))),rfl⟩
    ·refine au rfl rfl rfl rfl (au rfl rfl rfl rfl (al rfl rfl (aE rfl rfl rfl (al rfl rfl (ad rfl rfl (au rfl rfl rfl rfl (au rfl rfl rfl rfl (al rfl rfl (aE rfl rfl rfl (al rfl rfl (ad rfl rfl ?_)))))))))));refine au rfl rfl rfl rfl (au rfl rfl rfl rfl (al rfl rfl (aE rfl rfl rfl (aE rfl rfl rfl (ah rfl rfl (ab (aO ?_)))))));exact aS rfl rfl ⟨by simp only[fF];first|rfl|(congr 1;first|(exact(decide_eq_true (by omega)).symm)|(exact(decide_eq_false (by omega)).symm)|(exact decide_eq_decide.2 (by omega))),rfl⟩
 ·refine au rfl rfl rfl rfl (au rfl rfl rfl rfl (aE rfl rfl rfl (ad rfl rfl (al rfl rfl (ad rfl rfl (al rfl rfl (dV rfl rfl rfl (al rfl rfl (ad rfl rfl ?_)))))))));refine aQ (g:=12) rfl (fun tb=>?_) (fun tb=>?_)
  ·refine al rfl rfl (ad rfl rfl (al rfl rfl (gK rfl rfl rfl (al rfl rfl (aY rfl rfl rfl (aE rfl rfl rfl (ad rfl rfl ?_)))))));refine aQ (g:=17) rfl (fun yy=>?_) (fun yy=>?_)
   ·refine au rfl rfl rfl rfl (au rfl rfl rfl rfl (au rfl rfl rfl rfl (cq rfl rfl rfl (cq rfl rfl rfl (au rfl rfl rfl rfl (au rfl rfl rfl rfl (cq rfl rfl rfl (cq rfl rfl rfl (au rfl rfl rfl rfl (au rfl rfl rfl rfl (cq rfl rfl rfl ?_)))))))))));refine cq rfl rfl rfl (au rfl rfl rfl rfl (aY rfl rfl rfl (ah rfl rfl (ab (aO ?_)))));exact aS rfl rfl ⟨by simp only[fF];first|rfl|(congr 1;first|(exact(decide_eq_true (by omega)).symm)|(exact(decide_eq_false (by omega)).symm)|(exact decide_eq_decide.2 (by omega))),rfl⟩
   ·refine al rfl rfl (ad rfl rfl (al rfl rfl (dV rfl rfl rfl (al rfl rfl (ad rfl rfl ?_)))));refine aQ (g:=20) rfl (fun mq=>?_) (fun mq=>?_)
    ·refine al rfl rfl (ad rfl rfl (al rfl rfl (gK rfl rfl rfl (al rfl rfl (aY rfl rfl rfl (al rfl rfl (ad rfl rfl ?_)))))));refine aQ (g:=24) rfl (fun yz=>?_) (fun yz=>?_)
     ·refine al rfl rfl (ad rfl rfl (al rfl rfl (eM rfl rfl rfl (al rfl rfl (aY rfl rfl rfl (al rfl rfl (ad rfl rfl ?_)))))));refine aQ (g:=28) rfl (fun yA=>?_) (fun yA=>?_)
      ·refine al rfl rfl (ad rfl rfl (al rfl rfl (eM rfl rfl rfl (al rfl rfl (aY rfl rfl rfl (aE rfl rfl rfl (ah rfl rfl (ab (aO ?_)))))))));exact aS rfl rfl ⟨by simp only[fF];first|rfl|(congr 1;first|(exact(decide_eq_true (by omega)).symm)|(exact(decide_eq_false (by omega)).symm)|(exact decide_eq_decide.2 (by omega))),rfl⟩
      ·refine au rfl rfl rfl rfl (au rfl rfl rfl rfl (al rfl rfl (aE rfl rfl rfl (aE rfl rfl rfl (ah rfl rfl (ab (aO ?_)))))));exact aS rfl rfl ⟨by simp only[fF];first|rfl|(congr 1;first|(exact(decide_eq_true (by omega)).symm)|(exact(decide_eq_false (by omega)).symm)|(exact decide_eq_decide.2 (by omega))),rfl⟩
     ·refine au rfl rfl rfl rfl (au rfl rfl rfl rfl (al rfl rfl (aE rfl rfl rfl (al rfl rfl (ad rfl rfl (au rfl rfl rfl rfl (au rfl rfl rfl rfl (al rfl rfl (aE rfl rfl rfl (aE rfl rfl rfl (ah rfl rfl ?_)))))))))));refine ab (aO ?_);exact aS rfl rfl ⟨by simp only[fF];first|rfl|(congr 1;first|(exact(decide_eq_true (by omega)).symm)|(exact(decide_eq_false (by omega)).symm)|(exact decide_eq_decide.2 (by omega))),rfl⟩
    ·refine au rfl rfl rfl rfl (au rfl rfl rfl rfl (al rfl rfl (aE rfl rfl rfl (al rfl rfl (ad rfl rfl (au rfl rfl rfl rfl (au rfl rfl rfl rfl (al rfl rfl (aE rfl rfl rfl (al rfl rfl (ad rfl rfl ?_)))))))))));refine au rfl rfl rfl rfl (au rfl rfl rfl rfl (al rfl rfl (aE rfl rfl rfl (aE rfl rfl rfl (ah rfl rfl (ab (aO ?_)))))));exact aS rfl rfl ⟨by simp only[fF];first|rfl|(congr 1;first|(exact(decide_eq_true (by omega)).symm)|(exact(decide_eq_false (by omega)).symm)|(exact decide_eq_decide.2 (by omega))),rfl⟩
  ·refine au rfl rfl rfl rfl (au rfl rfl rfl rfl (al rfl rfl (aE rfl rfl rfl (aE rfl rfl rfl (ad rfl rfl (al rfl rfl (ad rfl rfl (al rfl rfl (dV rfl rfl rfl (al rfl rfl (ad rfl rfl ?_)))))))))));refine aQ (g:=20) rfl (fun mq=>?_) (fun mq=>?_)
   ·refine al rfl rfl (ad rfl rfl (al rfl rfl (gK rfl rfl rfl (al rfl rfl (aY rfl rfl rfl (al rfl rfl (ad rfl rfl ?_)))))));refine aQ (g:=24) rfl (fun yz=>?_) (fun yz=>?_)
    ·refine al rfl rfl (ad rfl rfl (al rfl rfl (eM rfl rfl rfl (al rfl rfl (aY rfl rfl rfl (al rfl rfl (ad rfl rfl ?_)))))));refine aQ (g:=28) rfl (fun yA=>?_) (fun yA=>?_)
     ·refine al rfl rfl (ad rfl rfl (al rfl rfl (eM rfl rfl rfl (al rfl rfl (aY rfl rfl rfl (aE rfl rfl rfl (ah rfl rfl (ab (aO ?_)))))))));exact aS rfl rfl ⟨by simp only[fF];first|rfl|(congr 1;first|(exact(decide_eq_true (by omega)).symm)|(exact(decide_eq_false (by omega)).symm)|(exact decide_eq_decide.2 (by omega))),rfl⟩
     ·refine au rfl rfl rfl rfl (au rfl rfl rfl rfl (al rfl rfl (aE rfl rfl rfl (aE rfl rfl rfl (ah rfl rfl (ab (aO ?_)))))));exact aS rfl rfl ⟨by simp only[fF];first|rfl|(congr 1;first|(exact(decide_eq_true (by omega)).symm)|(exact(decide_eq_false (by omega)).symm)|(exact decide_eq_decide.2 (by omega))),rfl⟩
    ·refine au rfl rfl rfl rfl (au rfl rfl rfl rfl (al rfl rfl (aE rfl rfl rfl (al rfl rfl (ad rfl rfl (au rfl rfl rfl rfl (au rfl rfl rfl rfl (al rfl rfl (aE rfl rfl rfl (aE rfl rfl rfl (ah rfl rfl ?_)))))))))));refine ab (aO ?_);exact aS rfl rfl ⟨by simp only[fF];first|rfl|(congr 1;first|(exact(decide_eq_true (by omega)).symm)|(exact(decide_eq_false (by omega)).symm)|(exact decide_eq_decide.2 (by omega))),rfl⟩
   ·refine au rfl rfl rfl rfl (au rfl rfl rfl rfl (al rfl rfl (aE rfl rfl rfl (al rfl rfl (ad rfl rfl (au rfl rfl rfl rfl (au rfl rfl rfl rfl (al rfl rfl (aE rfl rfl rfl (al rfl rfl (ad rfl rfl ?_)))))))))));refine au rfl rfl rfl rfl (au rfl rfl rfl rfl (al rfl rfl (aE rfl rfl rfl (aE rfl rfl rfl (ah rfl rfl (ab (aO ?_)))))));exact aS rfl rfl ⟨by simp only[fF];first|rfl|(congr 1;first|(exact(decide_eq_true (by omega)).symm)|(exact(decide_eq_false (by omega)).symm)|(exact decide_eq_decide.2 (by omega))),rfl⟩
theorem F3 (c:Int) (w0:World):
  Spec Tryz.prog 226 #[.int .i64 c] w0 (fun v w=>v= .bool (o6 c)∧w=w0):=by
 refine bc (args:=[_]) (fn:=Tryz.f226) Tryz.func226 rfl (n:=9) Tryz.ntmps226 (aj (ae (ah rfl rfl (ab (aj (ae (ad rfl rfl (dV rfl rfl rfl (ad rfl rfl ?_)))))))));refine aQ (g:=5) rfl (fun iL=>?_) (fun iL=>?_)
 ·refine al rfl rfl (ad rfl rfl (al rfl rfl (gK rfl rfl rfl (aY rfl rfl rfl (ah rfl rfl (ab (aO ?_)))))));exact aS rfl rfl ⟨by simp only[o6];first|rfl|(congr 1;first|(exact(decide_eq_true (by omega)).symm)|(exact(decide_eq_false (by omega)).symm)|(exact decide_eq_decide.2 (by omega))),rfl⟩
 ·refine au rfl rfl rfl rfl (au rfl rfl rfl rfl (aE rfl rfl rfl (ah rfl rfl (ab (aO ?_)))));exact aS rfl rfl ⟨by simp only[o6];first|rfl|(congr 1;first|(exact(decide_eq_true (by omega)).symm)|(exact(decide_eq_false (by omega)).symm)|(exact decide_eq_decide.2 (by omega))),rfl⟩
theorem AZ (c:Int) (w0:World) (hc:0≤c∧c≤1114111):
  Spec Tryz.prog 227 #[.int .i64 c] w0 (fun v w=>v= .int .i64 (fI c)∧w=w0):=by
 refine bc (args:=[_]) (fn:=Tryz.f227) Tryz.func227 rfl (n:=24) Tryz.ntmps227 (aj (ae (ah rfl rfl (ab (aj (aj (ae (ad rfl rfl (dV rfl rfl rfl (ad rfl rfl ?_))))))))));refine aQ (g:=5) rfl (fun iL=>?_) (fun iL=>?_)
 ·refine al rfl rfl (ad rfl rfl (al rfl rfl (gK rfl rfl rfl (aY rfl rfl rfl (ad rfl rfl ?_)))));refine aQ (g:=9) rfl (fun BX=>?_) (fun BX=>?_)
  ·refine au rfl rfl rfl rfl (au rfl rfl rfl rfl (au rfl rfl rfl rfl (cq rfl rfl rfl (cq rfl rfl rfl (au rfl rfl rfl rfl (au rfl rfl rfl rfl (cq rfl rfl rfl (cq rfl rfl rfl (au rfl rfl rfl rfl (aY rfl rfl rfl (ab ?_)))))))))));refine nQ rfl (aj (ae (ad rfl rfl (bF rfl rfl rfl (by omega) (ah rfl rfl (ab (aO ?_)))))));exact aS rfl rfl ⟨by rw[fI,if_pos (by omega)],rfl⟩
  ·refine al rfl rfl (ad rfl rfl (al rfl rfl (dV rfl rfl rfl (al rfl rfl (ad rfl rfl ?_)))));refine aQ (g:=12) rfl (fun tb=>?_) (fun tb=>?_)
   ·refine al rfl rfl (ad rfl rfl (al rfl rfl (gK rfl rfl rfl (al rfl rfl (aY rfl rfl rfl (al rfl rfl (ad rfl rfl ?_)))))));refine aQ (g:=16) rfl (fun Lg=>?_) (fun Lg=>?_)
    ·refine al rfl rfl (ad rfl rfl (al rfl rfl (eM rfl rfl rfl (al rfl rfl (aY rfl rfl rfl (aE rfl rfl rfl (ab ?_)))))));refine bN rfl (fun c1=>?_) (fun c1=>?_)
     ·refine aj (ae (ad rfl rfl (bF rfl rfl rfl (by omega) (ah rfl rfl (ab (aO ?_))))));exact aS rfl rfl ⟨by rw[fI,if_pos (by omega)],rfl⟩
     ·refine aU (aj (ae (ad rfl rfl (ah rfl rfl (ab (aO ?_))))));exact aS rfl rfl ⟨by rw[fI,if_neg (by omega)],rfl⟩
    ·refine au rfl rfl rfl rfl (au rfl rfl rfl rfl (al rfl rfl (aE rfl rfl rfl (aE rfl rfl rfl (ab (jE rfl (aU (aj (ae (ad rfl rfl (ah rfl rfl ?_)))))))))));refine ab (aO ?_);exact aS rfl rfl ⟨by rw[fI,if_neg (by omega)],rfl⟩
   ·refine au rfl rfl rfl rfl (au rfl rfl rfl rfl (al rfl rfl (aE rfl rfl rfl (al rfl rfl (ad rfl rfl (au rfl rfl rfl rfl (au rfl rfl rfl rfl (al rfl rfl (aE rfl rfl rfl (aE rfl rfl rfl (ab ?_)))))))))));refine jE rfl (aU (aj (ae (ad rfl rfl (ah rfl rfl (ab (aO ?_)))))));exact aS rfl rfl ⟨by rw[fI,if_neg (by omega)],rfl⟩
 ·refine au rfl rfl rfl rfl (au rfl rfl rfl rfl (aE rfl rfl rfl (ad rfl rfl (al rfl rfl (ad rfl rfl (al rfl rfl (dV rfl rfl rfl (al rfl rfl (ad rfl rfl ?_)))))))));refine aQ (g:=12) rfl (fun tb=>?_) (fun tb=>?_)
  ·refine al rfl rfl (ad rfl rfl (al rfl rfl (gK rfl rfl rfl (al rfl rfl (aY rfl rfl rfl (al rfl rfl (ad rfl rfl ?_)))))));refine aQ (g:=16) rfl (fun Lg=>?_) (fun Lg=>?_)
   ·refine al rfl rfl (ad rfl rfl (al rfl rfl (eM rfl rfl rfl (al rfl rfl (aY rfl rfl rfl (aE rfl rfl rfl (ab ?_)))))));refine bN rfl (fun c1=>?_) (fun c1=>?_)
    ·refine aj (ae (ad rfl rfl (bF rfl rfl rfl (by omega) (ah rfl rfl (ab (aO ?_))))));exact aS rfl rfl ⟨by rw[fI,if_pos (by omega)],rfl⟩
    ·refine aU (aj (ae (ad rfl rfl (ah rfl rfl (ab (aO ?_))))));exact aS rfl rfl ⟨by rw[fI,if_neg (by omega)],rfl⟩
   ·refine au rfl rfl rfl rfl (au rfl rfl rfl rfl (al rfl rfl (aE rfl rfl rfl (aE rfl rfl rfl (ab (jE rfl (aU (aj (ae (ad rfl rfl (ah rfl rfl ?_)))))))))));refine ab (aO ?_);exact aS rfl rfl ⟨by rw[fI,if_neg (by omega)],rfl⟩
  ·refine au rfl rfl rfl rfl (au rfl rfl rfl rfl (al rfl rfl (aE rfl rfl rfl (al rfl rfl (ad rfl rfl (au rfl rfl rfl rfl (au rfl rfl rfl rfl (al rfl rfl (aE rfl rfl rfl (aE rfl rfl rfl (ab ?_)))))))))));refine jE rfl (aU (aj (ae (ad rfl rfl (ah rfl rfl (ab (aO ?_)))))));exact aS rfl rfl ⟨by rw[fI,if_neg (by omega)],rfl⟩
end Go.K
namespace Go.Proofs
open Go.Shelf
def Tryz.wM:Go.Shelf.Ren:=⟨fun|169=>267|n=>n,fun|70=>334|9=>9|0=>0|72=>336|37=>204|127=>358|3=>3|5=>5|n=>n,fun|n=>n⟩
theorem Tryz.PI:Go.Proofs.Lays.n169 Tryz.prog Tryz.wM:={
 mixed:=by kernel_rfl
 f169:=Tryz.func267.trans (congrArg some (by kernel_rfl))
 t0:=fD
 a0:=lB
 z0:=j6
 v0:=gG
 t3:=ax
 a3:=lC
 z3:=j7
 v3:=gH
 t9:=aJ
 a9:=lD
 z9:=j8
 v9:=gI
 t37:=bQ
 a37:=Tryz.isAgg204
 z37:=Tryz.sizeOf204
 v37:=Tryz.zeroValue204
 t70:=Tryz.underlying334
 a70:=Tryz.isAgg334
 z70:=Tryz.sizeOf334
 v70:=Tryz.zeroValue334
 t72:=Tryz.underlying336
 a72:=Tryz.isAgg336
 z72:=Tryz.sizeOf336
 v72:=Tryz.zeroValue336
 t127:=Tryz.underlying358
 a127:=Tryz.isAgg358
 z127:=Tryz.sizeOf358
 v127:=Tryz.zeroValue358}
def Tryz.Dr:Go.Shelf.Ren:=⟨fun|119=>290|n=>n,fun|21=>21|4=>4|n=>n,fun|n=>n⟩
theorem Tryz.PJ:Go.Proofs.Lays.n119 Tryz.prog Tryz.Dr:={
 mixed:=by kernel_rfl
 f119:=Tryz.func290.trans (congrArg some (by kernel_rfl))
 t4:=iO
 a4:=rO
 z4:=nW
 v4:=jv
 t21:=Tryz.underlying21
 a21:=Tryz.isAgg21
 z21:=Tryz.sizeOf21
 v21:=Tryz.zeroValue21}
def Tryz.Ds:Go.Shelf.Ren:=⟨fun|106=>137|213=>189|265=>239|n=>n,fun|9=>9|3=>3|n=>n,fun|n=>n⟩
theorem Tryz.PK:Go.Proofs.Lays.n106 Tryz.prog Tryz.Ds:={
 mixed:=by kernel_rfl
 f106:=Tryz.func137.trans (congrArg some (by kernel_rfl))
 f213:=Tryz.func189.trans (congrArg some (by kernel_rfl))
 f265:=Tryz.func239.trans (congrArg some (by kernel_rfl))
 t3:=ax
 a3:=lC
 z3:=j7
 v3:=gH
 t9:=aJ
 a9:=lD
 z9:=j8
 v9:=gI}
theorem Tryz.tS:Builder.Extra Tryz.prog Tryz.wM:={
 sizeBuilder:=by kernel_rfl
 liesBuilder:=by kernel_rfl
 t5:=cx
 a5:=Tryz.isAgg5
 z5:=Tryz.sizeOf5
 v5:=tC
 infoByte:=by kernel_rfl
 cellsByte:=by kernel_rfl
 sizeByte:=by kernel_rfl
 neB5:=by decide}
def Tryz.wN:Go.Shelf.Ren:=⟨fun|168=>265|240=>288|242=>289|276=>298|278=>299|n=>n,fun|0=>0|3=>3|4=>4|5=>5|9=>9|20=>20|21=>21|37=>204|46=>189|51=>257|70=>334|72=>336|75=>338|80=>342|164=>363|n=>n,fun|n=>n⟩
theorem Tryz.PL:Go.Proofs.Lays.n168 Tryz.prog Tryz.wN:={
 mixed:=by kernel_rfl
 f168:=Tryz.func265.trans (congrArg some (by kernel_rfl))
 f240:=Tryz.func288.trans (congrArg some (by kernel_rfl))
 f242:=Tryz.func289.trans (congrArg some (by kernel_rfl))
 f276:=Tryz.func298.trans (congrArg some (by kernel_rfl))
 f278:=Tryz.func299.trans (congrArg some (by kernel_rfl))
 t0:=fD
 a0:=lB
 z0:=j6
 v0:=gG
 t3:=ax
 a3:=lC
 z3:=j7
 v3:=gH
 t4:=iO
 a4:=rO
 z4:=nW
 v4:=jv
 t5:=cx
 a5:=Tryz.isAgg5
 z5:=Tryz.sizeOf5
 v5:=tC
 t9:=aJ
 a9:=lD
 z9:=j8
 v9:=gI
 t20:=Tryz.underlying20
 a20:=Tryz.isAgg20
 z20:=Tryz.sizeOf20
 v20:=Tryz.zeroValue20
 t21:=Tryz.underlying21
 a21:=Tryz.isAgg21
 z21:=Tryz.sizeOf21
 v21:=Tryz.zeroValue21
 t37:=bQ
 a37:=Tryz.isAgg204
 z37:=Tryz.sizeOf204
 v37:=Tryz.zeroValue204
 t46:=jQ
 a46:=Tryz.isAgg189
 z46:=Tryz.sizeOf189
 v46:=Tryz.zeroValue189
 t51:=Tryz.underlying257
 a51:=Tryz.isAgg257
 z51:=Tryz.sizeOf257
 v51:=Tryz.zeroValue257
 t70:=Tryz.underlying334
 a70:=Tryz.isAgg334
 z70:=Tryz.sizeOf334
 v70:=Tryz.zeroValue334
 t72:=Tryz.underlying336
 a72:=Tryz.isAgg336
 z72:=Tryz.sizeOf336
 v72:=Tryz.zeroValue336
 t75:=Tryz.underlying338
 a75:=Tryz.isAgg338
 z75:=Tryz.sizeOf338
 v75:=Tryz.zeroValue338
 t164:=Tryz.underlying363
 a164:=Tryz.isAgg363
 z164:=Tryz.sizeOf363
 v164:=Tryz.zeroValue363}
theorem Tryz.tT:Builder.Extra Tryz.prog Tryz.wN where
 sizeBuilder:=by kernel_rfl
 liesBuilder:=by kernel_rfl
 t5:=cx
 a5:=Tryz.isAgg5
 z5:=Tryz.sizeOf5
 v5:=tC
 infoByte:=by kernel_rfl
 cellsByte:=by kernel_rfl
 sizeByte:=by kernel_rfl
 neB5:=by decide
end Go.Proofs
namespace Go.K
open Go.Proofs
set_option maxRecDepth 10000
open Go.RowKit Go.Shelf
theorem F4 (r:Int) (w:World):Spec Tryz.prog 290 #[.int .i32 r] w (fun v w'=>v= .bool (Lib.validRune r)∧w'=w):=(Any.utf8_ValidRune Tryz.PJ r w).mono fun e w' ⟨h1,h2⟩=>⟨_,h1,rfl,h2⟩
theorem I4 {B b:Nat} {bs:List Value} {r:Int} (w:World) (hr: -2147483648≤r∧r≤2147483647) (h:Lib.IsBuilderF 336 5 B b bs w) (hl:bs.length+4≤140737488355328) (hB:B≤w.heap.size):
  Spec Tryz.prog 265 #[.pointer (some ⟨b,0,none⟩),.int .i32 r] w (fun v w'=>Lib.IsBuilderF 336 5 B b (bs++Lib.runeCells r) w'∧Below B w w'):=
 (Any.Builder_WriteRune_k Tryz.PL Tryz.tT B b bs r hr.1 hr.2 w h hl hB).mono fun e w' ⟨h1,h2,h3,_⟩=>⟨_,h1,.inr h2,h3⟩
theorem Lh {B b:Nat} {l:List UInt8} (w:World) (h:Lib.IsBuilderF 336 5 B b (Lib.byteCells l) w) (hB:B≤w.heap.size):
  Spec Tryz.prog 267 #[.pointer (some ⟨b,0,none⟩)] w (fun v w'=>v= .string ⟨l.toArray⟩∧Below B w w'):=
 (Any.Builder_String_any_k Tryz.PI Tryz.tS B b l w h hB).mono fun e w' ⟨h1,_,h3,_⟩=>⟨_,h1,rfl,h3⟩
theorem wrap32 {c:Int} (h:0≤c∧c≤1114111):IntKind.i32.wrap c=c:=by
 show(if(true&&decide (c%4294967296≥2147483648))=true then c%4294967296-4294967296 else c%4294967296)=c;rw[if_neg (by simp only[eR,decide_eq_true_eq];omega)];omega
def tU (c:Int):Int:=if c<0∨c>1114111∨Lib.validRune c=false then 65533 else c
theorem HL (c:Int):0≤tU c∧tU c≤1114111:=by unfold tU;split<;>omega
def kI (l:List Int):List UInt8:=l.flatMap fun c=>Lib.encodeRune (tU c)
theorem mu (l:List Int) (c:Int):kI (l++[c])=kI l++Lib.encodeRune (tU c):=by simp[kI]
theorem PM (r:Int):(Lib.encodeRune r).length≤4:=by have:=(Lib.encodeRuneZ_length r).2;simpa[Lib.encodeRune]using this
theorem gw (l:List Int):(kI l).length≤4*l.length:=by
 induction l with
 |nil=>simp[kI]
 |cons c l ih=>
  have:=PM (tU c);simp only[kI,sw,bj,cM]at ih ⊢;omega
theorem yB (l:List Int) (c:Int):Lib.byteCells (kI l)++Lib.runeCells (tU c)=Lib.byteCells (kI (l++[c])):=by
 rw[mu,←Lib.byteCells_encodeRune];simp[Lib.byteCells]
theorem Lj (c:Int) (w0:World):
  Spec Tryz.prog 266 #[.int .i64 c] w0 (fun v w=>v= .int .i32 (tU c)∧w=w0):=by
 refine bc (args:=[_]) (fn:=Tryz.f266) Tryz.func266 rfl (n:=17) Tryz.ntmps266 (aj (ae (ah rfl rfl (ab (aj (aj (ae (ad rfl rfl (cj rfl rfl rfl (ad rfl rfl ?_))))))))));refine aQ (g:=5) rfl (fun iL=>?_) (fun iL=>?_)
 ·refine au rfl rfl rfl rfl (au rfl rfl rfl rfl (aY rfl rfl rfl (ad rfl rfl (au rfl rfl rfl rfl (au rfl rfl rfl rfl (au rfl rfl rfl rfl (au rfl rfl rfl rfl (aY rfl rfl rfl (ab (nQ rfl (aj ?_)))))))))));refine ae (ah rfl rfl (ab (aO ?_)));exact aS rfl rfl ⟨by rw[tU,if_pos (by first|exact .inl (by omega)|exact .inr (.inl (by omega))|exact .inr (.inr (by assumption)))],rfl⟩
 ·refine al rfl rfl (ad rfl rfl (al rfl rfl (jd rfl rfl rfl (aE rfl rfl rfl (ad rfl rfl ?_)))));refine aQ (g:=9) rfl (fun BX=>?_) (fun BX=>?_)
  ·refine au rfl rfl rfl rfl (au rfl rfl rfl rfl (au rfl rfl rfl rfl (au rfl rfl rfl rfl (aY rfl rfl rfl (ab (nQ rfl (aj (ae (ah rfl rfl (ab (aO ?_)))))))))));exact aS rfl rfl ⟨by rw[tU,if_pos (by first|exact .inl (by omega)|exact .inr (.inl (by omega))|exact .inr (.inr (by assumption)))],rfl⟩
  ·refine al rfl rfl (ad rfl rfl (al rfl rfl (sx ax Tryz.underlying21 rfl rfl (aV (v':= .int .i32 c) (congrArg (Value.int .i32) (wrap32 (by omega))) (al rfl rfl ?_)))));refine aX rfl rfl ad3 (F4 _ _) (fun r wc hc=>?_);obtain⟨rfl,rfl⟩:=hc;refine al rfl rfl (lH rfl rfl (aV (v':= .bool (decide (Lib.validRune c=false))) (by cases Lib.validRune c<;>rfl) (aE rfl rfl rfl (ab ?_))));refine bN rfl (fun c1=>?_) (fun c1=>?_)
   ·refine aj (ae (ah rfl rfl (ab (aO ?_))));exact aS rfl rfl ⟨by rw[tU,if_pos (by first|exact .inl (by omega)|exact .inr (.inl (by omega))|exact .inr (.inr (by assumption)))],rfl⟩
   ·refine aU (aj (ae (ad rfl rfl (sx ax Tryz.underlying21 rfl rfl (aV (v':= .int .i32 c) (congrArg (Value.int .i32) (wrap32 (by omega))) (ah rfl rfl (ab (aO ?_))))))));exact aS rfl rfl ⟨by rw[tU,if_neg (by rintro(h|h|h)<;>first|omega|exact absurd h (by assumption))],rfl⟩
theorem I6 {M:aD} {xs:List Int} {v0:Value} (w0:World) (hM:Lt M w0) (hv:((RT.int .i64).sl).V M w0 xs v0) (hl:xs.length≤1000000):
  Spec Tryz.prog 228 #[v0] w0 (fun v w=>v= .string ⟨(kI xs).toArray⟩∧Step M w0 M w aC):=by
 refine bc (args:=[_]) (fn:=Tryz.f228) Tryz.func228 rfl (n:=17) Tryz.ntmps228 (aj (ae (ah rfl rfl (ab (aj (ae ?_))))));refine dP M ado rfl (fun b w1 p1 q1 g1 s1=>?_);have mv:Lib.IsBuilderF 336 5 w0.heap.size b (Lib.byteCells (kI (xs.take 0))) w1:= .of (.inl ⟨p1,.slice none 0 0,g1,World.ownsRow_nil _ _ _ _,by simp[Value.ownBlock]⟩);have S1:Below w0.heap.size w0 w1:=s1.below;refine ab (aj (aj (ae (ad rfl rfl (bM an rfl hv rfl (ad rfl rfl (ab (aZ ?_))))))));refine de (σ:=Nat) (fun k=>[(3,.pointer (some ⟨b,0,none⟩)),(6,v0),(7,.int .i64 (xs.length:Int)),(8,.int .i64 (k:Int))]) (fun k w=>Lib.IsBuilderF 336 5 w0.heap.size b (Lib.byteCells (kI (xs.take k))) w∧Below w0.heap.size w0 w∧k≤xs.length) (fun k=>xs.length-k) 0 (.cons rfl (.cons rfl (.cons rfl (.cons rfl .nil)))) ?_ ?_
 ·exact⟨mv,S1,bE _⟩
 ·rintro k w ⟨hb,S,hk⟩;refine aj (ae (cj rfl rfl rfl (ab (aj ?_))));refine bN rfl (fun c3=>?_) (fun c3=>?_)
  ·refine aU (aj (aZ (aj (ae ?_))));refine cy (M:=M) an I3 rfl rfl rfl hv (Step.yw S M).le (by omega) (fun u4 c wO Ft=>?_);refine cb (M:=M) ax rfl rfl Ft (aq _ _) (fun in4=>?_);refine ah rfl rfl (ab (ae (ad rfl rfl ?_)));refine aX rfl rfl adZ (Lj c _) (fun r wc hc=>?_);obtain⟨rfl,rfl⟩:=hc;refine aX rfl rfl adY (I4 _ (by have:=HL c;omega) hb (by rw[Lib.byteCells_length];have:=gw (xs.take k);rw[bH]at this;omega) S.size) (fun r5 w5 hc=>?_);obtain⟨RD,S5⟩:=hc;have tk:xs.take (k+1)=xs.take k++[c]:=by rw[bK];simp only[ay]at wO;rw[wO];rfl
   rw[yB,←tk]at RD;have S6:=S.trans S5;refine ab (ae (bF rfl rfl rfl (by omega) (ad rfl rfl (ab ?_))));refine⟨rfl,k+1,(.cons rfl (.cons rfl (.cons rfl (.cons rfl .nil)))),?_,?_⟩
   ·exact⟨RD,S6,by omega⟩
   ·omega
  ·refine cG (aj (ae ?_));refine aX rfl rfl ad0 (Lh _ hb S.size) (fun r7 w7 hc=>?_);obtain⟨rfl,S7⟩:=hc;refine ah rfl rfl (ab (aO ?_));have e:xs.take k=xs:=aW (by omega);rw[e];exact aS rfl rfl ⟨rfl,Step.yw (S.trans S7) M⟩
end Go.K
namespace Go.K
def nO (c:Int):Int:=if 194≤c∧c<224 then 2 else if 224≤c∧c<240 then 3 else if 240≤c∧c<245 then 4 else 0
def ij (c:Int):Int:=if 194≤c∧c<224 then 128 else if 224≤c∧c<240 then 2048 else if 240≤c∧c<245 then 65536 else 0
def vF (c:Int):Int:=if 194≤c∧c<224 then c-192 else if 224≤c∧c<240 then c-224 else if 240≤c∧c<245 then c-240 else 0
def vO (l:List UInt8):Nat→Int
 |0=>vF (kd l 0)
 |k+1=>64*vO l k+kd l (k+1)-128
theorem gZ {l:List UInt8} {k:Nat}:ko l k=true↔k<l.length∧128≤kd l k∧kd l k<192:=by
 unfold ko;simp only[bU,decide_eq_true_eq,beq_iff_eq];omega
theorem A0 {n:Nat}:Utf8.valid (n:Int)=true↔(n<55296∨(57344≤n∧n≤1114111)):=by
 simp only[Utf8.valid,qb,bU,decide_eq_true_eq];omega
theorem Yd {l:List UInt8} (h:(kd l 0:Int)<128):dec l=(kd l 0,1):=by
 unfold dec F1;rw[if_pos (by omega)]
theorem HM {l:List UInt8} (h0:128≤(kd l 0:Int)) (h:nO (kd l 0)=0∨∃k:Nat,1≤k∧(k:Int)<nO (kd l 0)∧ko l k=false):dec l=(65533,1):=by
 have hb:=o0 l 0;unfold dec F1;rw[if_neg (by omega)]
 have hk:nO (kd l 0)=0∨(2≤nO (kd l 0)∧ko l 1=false)∨(3≤nO (kd l 0)∧ko l 2=false)∨(4≤nO (kd l 0)∧ko l 3=false):=by
  rcases h with h|⟨k,h1,h2,h3⟩
  ·exact .inl h
  ·have:nO (kd l 0)≤4:=by
    unfold nO
    split
    ·omega
    ·split
     ·omega
     ·split<;>omega
   have hk:k=1∨k=2∨k=3:=by omega
   rcases hk with rfl|rfl|rfl
   ·exact .inr (.inl ⟨by omega,h3⟩)
   ·exact .inr (.inr (.inl ⟨by omega,h3⟩))
   ·exact .inr (.inr (.inr ⟨by omega,h3⟩))
 simp only[beq_iff_eq,bU,decide_eq_true_eq,ge_iff_le,A0];have hn:nO (kd l 0)=if 194≤(kd l 0:Int)∧(kd l 0:Int)<224 then 2 else if 224≤(kd l 0:Int)∧(kd l 0:Int)<240 then 3 else if 240≤(kd l 0:Int)∧(kd l 0:Int)<245 then 4 else 0:=rfl
 rw[hn]at hk
 split
 ·rename_i hc
  obtain⟨vG,tA⟩:=hc
  split
  ·rename_i hv
   exfalso;by_cases an8:194≤(kd l 0:Int)
   ·rw[if_pos (by omega)]at hk;rcases hk with hk|⟨_,hk⟩|⟨hk,_⟩|⟨hk,_⟩
    ·omega
    ·rw[hk]at tA;cases tA
    ·omega
    ·omega
   ·omega
  ·rfl
 ·split
  ·rename_i hc
   obtain⟨⟨vG,tA⟩,Ye⟩:=hc
   split
   ·exfalso;rw[if_neg (by omega),if_pos (by omega)]at hk;rcases hk with hk|⟨_,hk⟩|⟨_,hk⟩|⟨hk,_⟩
    ·omega
    ·rw[hk]at tA;cases tA
    ·rw[hk]at Ye;cases Ye
    ·omega
   ·rfl
  ·split
   ·rename_i hc
    obtain⟨⟨⟨vG,tA⟩,Ye⟩,hc4⟩:=hc
    split
    ·rename_i hv
     exfalso;by_cases an9:(kd l 0:Int)<245
     ·rw[if_neg (by omega),if_neg (by omega),if_pos (by omega)]at hk;rcases hk with hk|⟨_,hk⟩|⟨_,hk⟩|⟨_,hk⟩
      ·omega
      ·rw[hk]at tA;cases tA
      ·rw[hk]at Ye;cases Ye
      ·rw[hk]at hc4;cases hc4
     ·omega
    ·rfl
   ·rfl
theorem og {c:Int} (h:nO c≠0):(nO c=2∧ij c=128∧vF c=c-192∧194≤c∧c<224)∨(nO c=3∧ij c=2048∧vF c=c-224∧224≤c∧c<240)∨(nO c=4∧ij c=65536∧vF c=c-240∧240≤c∧c<245):=by
 by_cases h1:194≤c∧c<224
 ·exact .inl ⟨if_pos h1,if_pos h1,if_pos h1,h1.1,h1.2⟩
 ·by_cases h2:224≤c∧c<240
  ·exact .inr (.inl ⟨(if_neg h1).trans (if_pos h2),(if_neg h1).trans (if_pos h2),(if_neg h1).trans (if_pos h2),h2.1,h2.2⟩)
  ·by_cases h3:240≤c∧c<245
   ·exact .inr (.inr ⟨(if_neg h1).trans ((if_neg h2).trans (if_pos h3)),(if_neg h1).trans ((if_neg h2).trans (if_pos h3)),(if_neg h1).trans ((if_neg h2).trans (if_pos h3)),h3.1,h3.2⟩)
   ·exact absurd ((if_neg h1).trans ((if_neg h2).trans (if_neg h3))) h
theorem Dt {l:List UInt8} (hn:nO (kd l 0)≠0) (hc:∀k:Nat,1≤k→(k:Int)<nO (kd l 0)→ko l k=true) (v:Int) (hv:v=vO l (nO (kd l 0)-1).toNat):
  dec l=if v<ij (kd l 0)∨v>1114111∨(55296≤v∧v≤57343)then(65533,1)else(v.toNat,(nO (kd l 0)).toNat):=by
 have hb:=o0 l 0;have b1:=o0 l 1;have b2:=o0 l 2;have b3:=o0 l 3;unfold dec F1;simp only[beq_iff_eq,bU,decide_eq_true_eq,ge_iff_le,A0];rcases og hn with⟨e1,e2,e3,e4,e5⟩|⟨e1,e2,e3,e4,e5⟩|⟨e1,e2,e3,e4,e5⟩
 ·have c1:=hc 1 (by omega) (by omega);have d1:=gZ.1 c1;rw[e1]at hv;have Fu:v=64*((kd l 0:Int)-192)+kd l 1-128:=by rw[hv];show 64*vF (kd l 0)+_-_=_;rw[e3]
  rw[if_neg (by omega),if_pos ⟨by omega,c1⟩,e2,e1];by_cases hx:v<128∨v>1114111∨(55296≤v∧v≤57343)
  ·rw[if_pos hx,if_neg (by omega)]
  ·rw[if_neg hx,if_pos (by omega)];simp only[ec];omega
 ·have c1:=hc 1 (by omega) (by omega);have c2:=hc 2 (by omega) (by omega);have d1:=gZ.1 c1;have d2:=gZ.1 c2;rw[e1]at hv;have Fu:v=64*(64*((kd l 0:Int)-224)+kd l 1-128)+kd l 2-128:=by rw[hv];show 64*(64*vF (kd l 0)+_-_)+_-_=_;rw[e3]
  rw[if_neg (by omega),if_neg (by omega),if_pos ⟨⟨by omega,c1⟩,c2⟩,e2,e1];by_cases hx:v<2048∨v>1114111∨(55296≤v∧v≤57343)
  ·rw[if_pos hx,if_neg (by omega)]
  ·rw[if_neg hx,if_pos (by omega)];simp only[ec];omega
 ·have c1:=hc 1 (by omega) (by omega);have c2:=hc 2 (by omega) (by omega);have c3:=hc 3 (by omega) (by omega);have d1:=gZ.1 c1;have d2:=gZ.1 c2;have d3:=gZ.1 c3;rw[e1]at hv;have Fu:v=64*(64*(64*((kd l 0:Int)-240)+kd l 1-128)+kd l 2-128)+kd l 3-128:=by rw[hv];show 64*(64*(64*vF (kd l 0)+_-_)+_-_)+_-_=_;rw[e3]
  rw[if_neg (by omega),if_neg (by omega),if_neg (by omega),if_pos ⟨⟨⟨by omega,c1⟩,c2⟩,c3⟩,e2,e1];by_cases hx:v<65536∨v>1114111∨(55296≤v∧v≤57343)
  ·rw[if_pos hx,if_neg (by omega)]
  ·rw[if_neg hx,if_pos (by omega)];simp only[ec];omega
end Go.K
namespace Go.K
open Go.Proofs
set_option maxRecDepth 10000
theorem BY (c:Int) (w0:World):
  Spec Tryz.prog 285 #[.int .i64 c] w0 (fun v w=>v= .bool (fF c)∧w=w0):=by
 refine bc (args:=[_]) (fn:=Tryz.f285) Tryz.func285 rfl (n:=31) Tryz.ntmps285 (aj (ae (ah rfl rfl (ab (aj (aj (ae (ad rfl rfl (dV rfl rfl rfl (ad rfl rfl ?_))))))))));refine aQ (g:=5) rfl (fun iL=>?_) (fun iL=>?_)
 ·refine al rfl rfl (ad rfl rfl (al rfl rfl (gK rfl rfl rfl (aY rfl rfl rfl (ad rfl rfl ?_)))));refine aQ (g:=9) rfl (fun BX=>?_) (fun BX=>?_)
  ·refine au rfl rfl rfl rfl (au rfl rfl rfl rfl (au rfl rfl rfl rfl (cq rfl rfl rfl (cq rfl rfl rfl (au rfl rfl rfl rfl (aY rfl rfl rfl (ab (nQ rfl (aj (ae (ah rfl rfl ?_)))))))))));refine ab (aO ?_);exact aS rfl rfl ⟨by simp only[fF];first|rfl|(congr 1;first|(exact(decide_eq_true (by omega)).symm)|(exact(decide_eq_false (by omega)).symm)|(exact decide_eq_decide.2 (by omega))),rfl⟩
  ·refine al rfl rfl (ad rfl rfl (al rfl rfl (dV rfl rfl rfl (al rfl rfl (ad rfl rfl ?_)))));refine aQ (g:=12) rfl (fun tb=>?_) (fun tb=>?_)
   ·refine al rfl rfl (ad rfl rfl (al rfl rfl (gK rfl rfl rfl (al rfl rfl (aY rfl rfl rfl (aE rfl rfl rfl (ab ?_)))))));refine bN rfl (fun c1=>?_) (fun c1=>?_)
    ·refine aj (ae (ah rfl rfl (ab (aO ?_))));exact aS rfl rfl ⟨by simp only[fF];first|rfl|(congr 1;first|(exact(decide_eq_true (by omega)).symm)|(exact(decide_eq_false (by omega)).symm)|(exact decide_eq_decide.2 (by omega))),rfl⟩
    ·refine aU (aj (ae (ad rfl rfl (dV rfl rfl rfl (ad rfl rfl ?_)))));refine aQ (g:=19) rfl (fun F5=>?_) (fun F5=>?_)
     ·refine al rfl rfl (ad rfl rfl (al rfl rfl (gK rfl rfl rfl (aY rfl rfl rfl (ad rfl rfl ?_)))));refine aQ (g:=23) rfl (fun F6=>?_) (fun F6=>?_)
      ·refine al rfl rfl (ad rfl rfl (al rfl rfl (eM rfl rfl rfl (aY rfl rfl rfl (ad rfl rfl ?_)))));refine aQ (g:=27) rfl (fun yC=>?_) (fun yC=>?_)
       ·refine al rfl rfl (ad rfl rfl (al rfl rfl (eM rfl rfl rfl (aY rfl rfl rfl (ah rfl rfl (ab (aO ?_)))))));exact aS rfl rfl ⟨by simp only[fF];first|rfl|(congr 1;first|(exact(decide_eq_true (by omega)).symm)|(exact(decide_eq_false (by omega)).symm)|(exact decide_eq_decide.2 (by omega))),rfl⟩
       ·refine au rfl rfl rfl rfl (au rfl rfl rfl rfl (aE rfl rfl rfl (ah rfl rfl (ab (aO ?_)))));exact aS rfl rfl ⟨by simp only[fF];first|rfl|(congr 1;first|(exact(decide_eq_true (by omega)).symm)|(exact(decide_eq_false (by omega)).symm)|(exact decide_eq_decide.2 (by omega))),rfl⟩
      ·refine au rfl rfl rfl rfl (au rfl rfl rfl rfl (aE rfl rfl rfl (ad rfl rfl (au rfl rfl rfl rfl (au rfl rfl rfl rfl (aE rfl rfl rfl (ah rfl rfl (ab (aO ?_)))))))));exact aS rfl rfl ⟨by simp only[fF];first|rfl|(congr 1;first|(exact(decide_eq_true (by omega)).symm)|(exact(decide_eq_false (by omega)).symm)|(exact decide_eq_decide.2 (by omega))),rfl⟩
     ·refine au rfl rfl rfl rfl (au rfl rfl rfl rfl (aE rfl rfl rfl (ad rfl rfl (au rfl rfl rfl rfl (au rfl rfl rfl rfl (aE rfl rfl rfl (ad rfl rfl (au rfl rfl rfl rfl (au rfl rfl rfl rfl (aE rfl rfl rfl (ah rfl rfl ?_)))))))))));refine ab (aO ?_);exact aS rfl rfl ⟨by simp only[fF];first|rfl|(congr 1;first|(exact(decide_eq_true (by omega)).symm)|(exact(decide_eq_false (by omega)).symm)|(exact decide_eq_decide.2 (by omega))),rfl⟩
   ·refine au rfl rfl rfl rfl (au rfl rfl rfl rfl (al rfl rfl (aE rfl rfl rfl (aE rfl rfl rfl (ab (jE rfl (aU (aj (ae (ad rfl rfl (dV rfl rfl rfl ?_)))))))))));refine ad rfl rfl ?_;refine aQ (g:=19) rfl (fun F5=>?_) (fun F5=>?_)
    ·refine al rfl rfl (ad rfl rfl (al rfl rfl (gK rfl rfl rfl (aY rfl rfl rfl (ad rfl rfl ?_)))));refine aQ (g:=23) rfl (fun F6=>?_) (fun F6=>?_)
     ·refine al rfl rfl (ad rfl rfl (al rfl rfl (eM rfl rfl rfl (aY rfl rfl rfl (ad rfl rfl ?_)))));refine aQ (g:=27) rfl (fun yC=>?_) (fun yC=>?_)
      ·refine al rfl rfl (ad rfl rfl (al rfl rfl (eM rfl rfl rfl (aY rfl rfl rfl (ah rfl rfl (ab (aO ?_)))))));exact aS rfl rfl ⟨by simp only[fF];first|rfl|(congr 1;first|(exact(decide_eq_true (by omega)).symm)|(exact(decide_eq_false (by omega)).symm)|(exact decide_eq_decide.2 (by omega))),rfl⟩
      ·refine au rfl rfl rfl rfl (au rfl rfl rfl rfl (aE rfl rfl rfl (ah rfl rfl (ab (aO ?_)))));exact aS rfl rfl ⟨by simp only[fF];first|rfl|(congr 1;first|(exact(decide_eq_true (by omega)).symm)|(exact(decide_eq_false (by omega)).symm)|(exact decide_eq_decide.2 (by omega))),rfl⟩
     ·refine au rfl rfl rfl rfl (au rfl rfl rfl rfl (aE rfl rfl rfl (ad rfl rfl (au rfl rfl rfl rfl (au rfl rfl rfl rfl (aE rfl rfl rfl (ah rfl rfl (ab (aO ?_)))))))));exact aS rfl rfl ⟨by simp only[fF];first|rfl|(congr 1;first|(exact(decide_eq_true (by omega)).symm)|(exact(decide_eq_false (by omega)).symm)|(exact decide_eq_decide.2 (by omega))),rfl⟩
    ·refine au rfl rfl rfl rfl (au rfl rfl rfl rfl (aE rfl rfl rfl (ad rfl rfl (au rfl rfl rfl rfl (au rfl rfl rfl rfl (aE rfl rfl rfl (ad rfl rfl (au rfl rfl rfl rfl (au rfl rfl rfl rfl (aE rfl rfl rfl (ah rfl rfl ?_)))))))))));refine ab (aO ?_);exact aS rfl rfl ⟨by simp only[fF];first|rfl|(congr 1;first|(exact(decide_eq_true (by omega)).symm)|(exact(decide_eq_false (by omega)).symm)|(exact decide_eq_decide.2 (by omega))),rfl⟩
 ·refine au rfl rfl rfl rfl (au rfl rfl rfl rfl (aE rfl rfl rfl (ad rfl rfl (al rfl rfl (ad rfl rfl (al rfl rfl (dV rfl rfl rfl (al rfl rfl (ad rfl rfl ?_)))))))));refine aQ (g:=12) rfl (fun tb=>?_) (fun tb=>?_)
  ·refine al rfl rfl (ad rfl rfl (al rfl rfl (gK rfl rfl rfl (al rfl rfl (aY rfl rfl rfl (aE rfl rfl rfl (ab ?_)))))));refine bN rfl (fun c1=>?_) (fun c1=>?_)
   ·refine aj (ae (ah rfl rfl (ab (aO ?_))));exact aS rfl rfl ⟨by simp only[fF];first|rfl|(congr 1;first|(exact(decide_eq_true (by omega)).symm)|(exact(decide_eq_false (by omega)).symm)|(exact decide_eq_decide.2 (by omega))),rfl⟩
   ·refine aU (aj (ae (ad rfl rfl (dV rfl rfl rfl (ad rfl rfl ?_)))));refine aQ (g:=19) rfl (fun F5=>?_) (fun F5=>?_)
    ·refine al rfl rfl (ad rfl rfl (al rfl rfl (gK rfl rfl rfl (aY rfl rfl rfl (ad rfl rfl ?_)))));refine aQ (g:=23) rfl (fun F6=>?_) (fun F6=>?_)
     ·refine al rfl rfl (ad rfl rfl (al rfl rfl (eM rfl rfl rfl (aY rfl rfl rfl (ad rfl rfl ?_)))));refine aQ (g:=27) rfl (fun yC=>?_) (fun yC=>?_)
      ·refine al rfl rfl (ad rfl rfl (al rfl rfl (eM rfl rfl rfl (aY rfl rfl rfl (ah rfl rfl (ab (aO ?_)))))));exact aS rfl rfl ⟨by simp only[fF];first|rfl|(congr 1;first|(exact(decide_eq_true (by omega)).symm)|(exact(decide_eq_false (by omega)).symm)|(exact decide_eq_decide.2 (by omega))),rfl⟩
      ·refine au rfl rfl rfl rfl (au rfl rfl rfl rfl (aE rfl rfl rfl (ah rfl rfl (ab (aO ?_)))));exact aS rfl rfl ⟨by simp only[fF];first|rfl|(congr 1;first|(exact(decide_eq_true (by omega)).symm)|(exact(decide_eq_false (by omega)).symm)|(exact decide_eq_decide.2 (by omega))),rfl⟩
     ·refine au rfl rfl rfl rfl (au rfl rfl rfl rfl (aE rfl rfl rfl (ad rfl rfl (au rfl rfl rfl rfl (au rfl rfl rfl rfl (aE rfl rfl rfl (ah rfl rfl (ab (aO ?_)))))))));exact aS rfl rfl ⟨by simp only[fF];first|rfl|(congr 1;first|(exact(decide_eq_true (by omega)).symm)|(exact(decide_eq_false (by omega)).symm)|(exact decide_eq_decide.2 (by omega))),rfl⟩
    ·refine au rfl rfl rfl rfl (au rfl rfl rfl rfl (aE rfl rfl rfl (ad rfl rfl (au rfl rfl rfl rfl (au rfl rfl rfl rfl (aE rfl rfl rfl (ad rfl rfl (au rfl rfl rfl rfl (au rfl rfl rfl rfl (aE rfl rfl rfl (ah rfl rfl ?_)))))))))));refine ab (aO ?_);exact aS rfl rfl ⟨by simp only[fF];first|rfl|(congr 1;first|(exact(decide_eq_true (by omega)).symm)|(exact(decide_eq_false (by omega)).symm)|(exact decide_eq_decide.2 (by omega))),rfl⟩
  ·refine au rfl rfl rfl rfl (au rfl rfl rfl rfl (al rfl rfl (aE rfl rfl rfl (aE rfl rfl rfl (ab (jE rfl (aU (aj (ae (ad rfl rfl (dV rfl rfl rfl ?_)))))))))));refine ad rfl rfl ?_;refine aQ (g:=19) rfl (fun F5=>?_) (fun F5=>?_)
   ·refine al rfl rfl (ad rfl rfl (al rfl rfl (gK rfl rfl rfl (aY rfl rfl rfl (ad rfl rfl ?_)))));refine aQ (g:=23) rfl (fun F6=>?_) (fun F6=>?_)
    ·refine al rfl rfl (ad rfl rfl (al rfl rfl (eM rfl rfl rfl (aY rfl rfl rfl (ad rfl rfl ?_)))));refine aQ (g:=27) rfl (fun yC=>?_) (fun yC=>?_)
     ·refine al rfl rfl (ad rfl rfl (al rfl rfl (eM rfl rfl rfl (aY rfl rfl rfl (ah rfl rfl (ab (aO ?_)))))));exact aS rfl rfl ⟨by simp only[fF];first|rfl|(congr 1;first|(exact(decide_eq_true (by omega)).symm)|(exact(decide_eq_false (by omega)).symm)|(exact decide_eq_decide.2 (by omega))),rfl⟩
     ·refine au rfl rfl rfl rfl (au rfl rfl rfl rfl (aE rfl rfl rfl (ah rfl rfl (ab (aO ?_)))));exact aS rfl rfl ⟨by simp only[fF];first|rfl|(congr 1;first|(exact(decide_eq_true (by omega)).symm)|(exact(decide_eq_false (by omega)).symm)|(exact decide_eq_decide.2 (by omega))),rfl⟩
    ·refine au rfl rfl rfl rfl (au rfl rfl rfl rfl (aE rfl rfl rfl (ad rfl rfl (au rfl rfl rfl rfl (au rfl rfl rfl rfl (aE rfl rfl rfl (ah rfl rfl (ab (aO ?_)))))))));exact aS rfl rfl ⟨by simp only[fF];first|rfl|(congr 1;first|(exact(decide_eq_true (by omega)).symm)|(exact(decide_eq_false (by omega)).symm)|(exact decide_eq_decide.2 (by omega))),rfl⟩
   ·refine au rfl rfl rfl rfl (au rfl rfl rfl rfl (aE rfl rfl rfl (ad rfl rfl (au rfl rfl rfl rfl (au rfl rfl rfl rfl (aE rfl rfl rfl (ad rfl rfl (au rfl rfl rfl rfl (au rfl rfl rfl rfl (aE rfl rfl rfl (ah rfl rfl ?_)))))))))));refine ab (aO ?_);exact aS rfl rfl ⟨by simp only[fF];first|rfl|(congr 1;first|(exact(decide_eq_true (by omega)).symm)|(exact(decide_eq_false (by omega)).symm)|(exact decide_eq_decide.2 (by omega))),rfl⟩
theorem F7 (c:Int) (w0:World) (hc:0≤c∧c≤1114111):
  Spec Tryz.prog 253 #[.int .i64 c] w0 (fun v w=>v= .int .i64 (fI c)∧w=w0):=by
 refine bc (args:=[_]) (fn:=Tryz.f253) Tryz.func253 rfl (n:=28) Tryz.ntmps253 (aj (ae (ah rfl rfl (ab (aj (aj (ae (ad rfl rfl (dV rfl rfl rfl (ad rfl rfl ?_))))))))));refine aQ (g:=5) rfl (fun iL=>?_) (fun iL=>?_)
 ·refine al rfl rfl (ad rfl rfl (al rfl rfl (gK rfl rfl rfl (aY rfl rfl rfl (ad rfl rfl ?_)))));refine aQ (g:=9) rfl (fun BX=>?_) (fun BX=>?_)
  ·refine au rfl rfl rfl rfl (au rfl rfl rfl rfl (au rfl rfl rfl rfl (cq rfl rfl rfl (cq rfl rfl rfl (au rfl rfl rfl rfl (aY rfl rfl rfl (ad rfl rfl (au rfl rfl rfl rfl (au rfl rfl rfl rfl (au rfl rfl rfl rfl (cq rfl rfl rfl ?_)))))))))));refine cq rfl rfl rfl (au rfl rfl rfl rfl (aY rfl rfl rfl (ab (nQ rfl (aj (ae (ad rfl rfl (bF rfl rfl rfl (by omega) (ah rfl rfl (ab (aO ?_)))))))))));exact aS rfl rfl ⟨by rw[fI,if_pos (by omega)],rfl⟩
  ·refine al rfl rfl (ad rfl rfl (al rfl rfl (dV rfl rfl rfl (al rfl rfl (ad rfl rfl ?_)))));refine aQ (g:=12) rfl (fun tb=>?_) (fun tb=>?_)
   ·refine al rfl rfl (ad rfl rfl (al rfl rfl (gK rfl rfl rfl (al rfl rfl (aY rfl rfl rfl (aE rfl rfl rfl (ad rfl rfl ?_)))))));refine aQ (g:=17) rfl (fun yy=>?_) (fun yy=>?_)
    ·refine au rfl rfl rfl rfl (au rfl rfl rfl rfl (au rfl rfl rfl rfl (cq rfl rfl rfl (cq rfl rfl rfl (au rfl rfl rfl rfl (aY rfl rfl rfl (ab (nQ rfl (aj (ae (ad rfl rfl ?_)))))))))));refine bF rfl rfl rfl (by omega) (ah rfl rfl (ab (aO ?_)));exact aS rfl rfl ⟨by rw[fI,if_pos (by omega)],rfl⟩
    ·refine al rfl rfl (ad rfl rfl (al rfl rfl (dV rfl rfl rfl (al rfl rfl (ad rfl rfl ?_)))));refine aQ (g:=20) rfl (fun mq=>?_) (fun mq=>?_)
     ·refine al rfl rfl (ad rfl rfl (al rfl rfl (gK rfl rfl rfl (al rfl rfl (aY rfl rfl rfl (aE rfl rfl rfl (ab ?_)))))));refine bN rfl (fun c1=>?_) (fun c1=>?_)
      ·refine aj (ae (ad rfl rfl (bF rfl rfl rfl (by omega) (ah rfl rfl (ab (aO ?_))))));exact aS rfl rfl ⟨by rw[fI,if_pos (by omega)],rfl⟩
      ·refine aU (aj (ae (ad rfl rfl (ah rfl rfl (ab (aO ?_))))));exact aS rfl rfl ⟨by rw[fI,if_neg (by omega)],rfl⟩
     ·refine au rfl rfl rfl rfl (au rfl rfl rfl rfl (al rfl rfl (aE rfl rfl rfl (aE rfl rfl rfl (ab (jE rfl (aU (aj (ae (ad rfl rfl (ah rfl rfl ?_)))))))))));refine ab (aO ?_);exact aS rfl rfl ⟨by rw[fI,if_neg (by omega)],rfl⟩
   ·refine au rfl rfl rfl rfl (au rfl rfl rfl rfl (al rfl rfl (aE rfl rfl rfl (aE rfl rfl rfl (ad rfl rfl (al rfl rfl (ad rfl rfl (al rfl rfl (dV rfl rfl rfl (al rfl rfl (ad rfl rfl ?_)))))))))));refine aQ (g:=20) rfl (fun mq=>?_) (fun mq=>?_)
    ·refine al rfl rfl (ad rfl rfl (al rfl rfl (gK rfl rfl rfl (al rfl rfl (aY rfl rfl rfl (aE rfl rfl rfl (ab ?_)))))));refine bN rfl (fun c1=>?_) (fun c1=>?_)
     ·refine aj (ae (ad rfl rfl (bF rfl rfl rfl (by omega) (ah rfl rfl (ab (aO ?_))))));exact aS rfl rfl ⟨by rw[fI,if_pos (by omega)],rfl⟩
     ·refine aU (aj (ae (ad rfl rfl (ah rfl rfl (ab (aO ?_))))));exact aS rfl rfl ⟨by rw[fI,if_neg (by omega)],rfl⟩
    ·refine au rfl rfl rfl rfl (au rfl rfl rfl rfl (al rfl rfl (aE rfl rfl rfl (aE rfl rfl rfl (ab (jE rfl (aU (aj (ae (ad rfl rfl (ah rfl rfl ?_)))))))))));refine ab (aO ?_);exact aS rfl rfl ⟨by rw[fI,if_neg (by omega)],rfl⟩
 ·refine au rfl rfl rfl rfl (au rfl rfl rfl rfl (aE rfl rfl rfl (ad rfl rfl (al rfl rfl (ad rfl rfl (al rfl rfl (dV rfl rfl rfl (al rfl rfl (ad rfl rfl ?_)))))))));refine aQ (g:=12) rfl (fun tb=>?_) (fun tb=>?_)
  ·refine al rfl rfl (ad rfl rfl (al rfl rfl (gK rfl rfl rfl (al rfl rfl (aY rfl rfl rfl (aE rfl rfl rfl (ad rfl rfl ?_)))))));refine aQ (g:=17) rfl (fun yy=>?_) (fun yy=>?_)
   ·refine au rfl rfl rfl rfl (au rfl rfl rfl rfl (au rfl rfl rfl rfl (cq rfl rfl rfl (cq rfl rfl rfl (au rfl rfl rfl rfl (aY rfl rfl rfl (ab (nQ rfl (aj (ae (ad rfl rfl ?_)))))))))));refine bF rfl rfl rfl (by omega) (ah rfl rfl (ab (aO ?_)));exact aS rfl rfl ⟨by rw[fI,if_pos (by omega)],rfl⟩
   ·refine al rfl rfl (ad rfl rfl (al rfl rfl (dV rfl rfl rfl (al rfl rfl (ad rfl rfl ?_)))));refine aQ (g:=20) rfl (fun mq=>?_) (fun mq=>?_)
    ·refine al rfl rfl (ad rfl rfl (al rfl rfl (gK rfl rfl rfl (al rfl rfl (aY rfl rfl rfl (aE rfl rfl rfl (ab ?_)))))));refine bN rfl (fun c1=>?_) (fun c1=>?_)
     ·refine aj (ae (ad rfl rfl (bF rfl rfl rfl (by omega) (ah rfl rfl (ab (aO ?_))))));exact aS rfl rfl ⟨by rw[fI,if_pos (by omega)],rfl⟩
     ·refine aU (aj (ae (ad rfl rfl (ah rfl rfl (ab (aO ?_))))));exact aS rfl rfl ⟨by rw[fI,if_neg (by omega)],rfl⟩
    ·refine au rfl rfl rfl rfl (au rfl rfl rfl rfl (al rfl rfl (aE rfl rfl rfl (aE rfl rfl rfl (ab (jE rfl (aU (aj (ae (ad rfl rfl (ah rfl rfl ?_)))))))))));refine ab (aO ?_);exact aS rfl rfl ⟨by rw[fI,if_neg (by omega)],rfl⟩
  ·refine au rfl rfl rfl rfl (au rfl rfl rfl rfl (al rfl rfl (aE rfl rfl rfl (aE rfl rfl rfl (ad rfl rfl (al rfl rfl (ad rfl rfl (al rfl rfl (dV rfl rfl rfl (al rfl rfl (ad rfl rfl ?_)))))))))));refine aQ (g:=20) rfl (fun mq=>?_) (fun mq=>?_)
   ·refine al rfl rfl (ad rfl rfl (al rfl rfl (gK rfl rfl rfl (al rfl rfl (aY rfl rfl rfl (aE rfl rfl rfl (ab ?_)))))));refine bN rfl (fun c1=>?_) (fun c1=>?_)
    ·refine aj (ae (ad rfl rfl (bF rfl rfl rfl (by omega) (ah rfl rfl (ab (aO ?_))))));exact aS rfl rfl ⟨by rw[fI,if_pos (by omega)],rfl⟩
    ·refine aU (aj (ae (ad rfl rfl (ah rfl rfl (ab (aO ?_))))));exact aS rfl rfl ⟨by rw[fI,if_neg (by omega)],rfl⟩
   ·refine au rfl rfl rfl rfl (au rfl rfl rfl rfl (al rfl rfl (aE rfl rfl rfl (aE rfl rfl rfl (ab (jE rfl (aU (aj (ae (ad rfl rfl (ah rfl rfl ?_)))))))))));refine ab (aO ?_);exact aS rfl rfl ⟨by rw[fI,if_neg (by omega)],rfl⟩
def xO (c:Int):Bool:=decide (fF c=true∨o6 c=true)
theorem Du (c:Int) (w0:World):
  Spec Tryz.prog 252 #[.int .i64 c] w0 (fun v w=>v= .bool (xO c)∧w=w0):=by
 refine bc (args:=[_]) (fn:=Tryz.f252) Tryz.func252 rfl (n:=13) Tryz.ntmps252 (aj (ae (ah rfl rfl (ab (aj (ae (ad rfl rfl ?_)))))));refine aX rfl rfl ad2 (BY _ _) (fun r wc hc=>?_);obtain⟨rfl,rfl⟩:=hc;refine aV (v':= .bool (decide (fF c=true))) (by cases fF c<;>rfl) (ad rfl rfl ?_);refine aQ (g:=5) rfl (fun iL=>?_) (fun iL=>?_)
 ·refine au rfl rfl rfl rfl (au rfl rfl rfl rfl (au rfl rfl rfl rfl (cq rfl rfl rfl (cq rfl rfl rfl (au rfl rfl rfl rfl (aY rfl rfl rfl (ah rfl rfl (ab (aO ?_)))))))));have e:(o6 c=true)=(48≤c∧c≤57):=by simp[o6]
  exact aS rfl rfl ⟨by simp only[xO,e];first|(congr 1;first|(exact(decide_eq_true (.inl (by assumption))).symm)|(exact(decide_eq_true (.inr (by omega))).symm)|(exact(decide_eq_false (by rintro(h|h)<;>first|exact absurd h (by assumption)|omega)).symm)|(exact decide_eq_decide.2 ⟨fun h=> .inr (by omega),fun h=>h.elim (fun h=>absurd h (by assumption)) (fun h=>by omega)⟩)),rfl⟩
 ·refine al rfl rfl (ad rfl rfl (al rfl rfl (dV rfl rfl rfl (al rfl rfl (ad rfl rfl ?_)))));refine aQ (g:=8) rfl (fun o7=>?_) (fun o7=>?_)
  ·refine al rfl rfl (ad rfl rfl (al rfl rfl (gK rfl rfl rfl (al rfl rfl (aY rfl rfl rfl (aE rfl rfl rfl (ah rfl rfl (ab (aO ?_)))))))));have e:(o6 c=true)=(48≤c∧c≤57):=by simp[o6]
   exact aS rfl rfl ⟨by simp only[xO,e];first|(congr 1;first|(exact(decide_eq_true (.inl (by assumption))).symm)|(exact(decide_eq_true (.inr (by omega))).symm)|(exact(decide_eq_false (by rintro(h|h)<;>first|exact absurd h (by assumption)|omega)).symm)|(exact decide_eq_decide.2 ⟨fun h=> .inr (by omega),fun h=>h.elim (fun h=>absurd h (by assumption)) (fun h=>by omega)⟩)),rfl⟩
  ·refine au rfl rfl rfl rfl (au rfl rfl rfl rfl (al rfl rfl (aE rfl rfl rfl (aE rfl rfl rfl (ah rfl rfl (ab (aO ?_)))))));have e:(o6 c=true)=(48≤c∧c≤57):=by simp[o6]
   exact aS rfl rfl ⟨by simp only[xO,e];first|(congr 1;first|(exact(decide_eq_true (.inl (by assumption))).symm)|(exact(decide_eq_true (.inr (by omega))).symm)|(exact(decide_eq_false (by rintro(h|h)<;>first|exact absurd h (by assumption)|omega)).symm)|(exact decide_eq_decide.2 ⟨fun h=> .inr (by omega),fun h=>h.elim (fun h=>absurd h (by assumption)) (fun h=>by omega)⟩)),rfl⟩
theorem TW {l:List UInt8} {c:Int} (hc:c=(kd l 0:Int)) (hn:nO c≠0):∀{k:Nat},(∀j:Nat,1≤j→j<k+1→ko l j=true)→k≤3→0≤vO l k∧vO l k≤100000000:=by
 have key:∀k:Nat,(∀j:Nat,1≤j→j<k+1→ko l j=true)→0≤vO l k∧vO l k≤33*64^k-1:=by
  intro k
  induction k with
  |zero=>
   intro _;have:=og hn;show 0≤vF (kd l 0:Int)∧vF (kd l 0:Int)≤33*64^0-1;rw[←hc];simp only[Int.pow_zero];omega
  |succ k ih=>
   intro h;have h1:=ih fun j h2 h3=>h j h2 (by omega)
   have h2:=gZ.1 (h (k+1) (by omega) (by omega));show 0≤64*vO l k+_-128∧64*vO l k+_-128≤_;rw[Int.pow_succ];omega
 intro k h hk;have:=key k h
 have h3:(64:Int)^k≤262144:=by
  rcases(show k=0∨k=1∨k=2∨k=3 by omega)with rfl|rfl|rfl|rfl<;>decide
 omega
theorem Lk {l:List UInt8} (w0:World) (hl:l≠[]) (hlen:l.length≤1000000):
  Spec Tryz.prog 284 #[.string ⟨l.toArray⟩] w0 (fun v w=>v= .tuple #[.int .i64 ((dec l).1:Int),.int .i64 ((dec l).2:Int)]∧w=w0):=by
 have tG:0<l.length:=oN.2 hl;have hb0:=o0 l 0;obtain⟨c,hc⟩:∃c:Int,c=(kd l 0:Int):=⟨_,rfl⟩;have hcr:0≤c∧c<256:=by omega
 refine bc (args:=[_]) (fn:=Tryz.f284) Tryz.func284 rfl (n:=85) Tryz.ntmps284 (aj (ae (ah rfl rfl (ah rfl rfl (ab (aj (ae (ad rfl rfl ?_))))))));refine Rg.HJ (c:=l.getD 0 0) aJ rfl rfl rfl (by decide) (by rw[az];show l[0]? =_;rw[ar tG];rfl) ?_;refine aV (v':= .int .u8 c) (by rw[hc];rfl) (Rg.uZ cx ax rfl rfl (by omega) (ah rfl rfl (ab (aj (aj (ae (ad rfl rfl (cj rfl rfl rfl (ab ?_)))))))));refine bN rfl (fun c2=>?_) (fun c2=>?_)
 ·refine aj (ae (ad rfl rfl (ah rfl rfl (ah rfl rfl (ab (aO ?_))))));exact eY rfl rfl rfl ⟨by rw[Yd (by omega),hc];rfl,rfl⟩
 ·refine aU (aj (ae (ah rfl rfl (ab (aj (ae (ah rfl rfl (ab (aj (ae (ah rfl rfl ?_)))))))))));refine ab ?_;refine T.HE [(0,.string ⟨l.toArray⟩),(4,.int .i64 c),(5,.int .i64 (nO c)),(6,.int .i64 (ij c)),(7,.int .i64 (vF c))] ?_ ?_
  ·refine aj (ae (ad rfl rfl (dV rfl rfl rfl (ad rfl rfl ?_))));refine aQ (g:=18) rfl (fun ad5=>?_) (fun ad5=>?_)
   ·refine al rfl rfl (ad rfl rfl (al rfl rfl (cj rfl rfl rfl (aY rfl rfl rfl (ab ?_)))));refine bN rfl (fun c7=>?_) (fun c7=>?_)
    ·refine aj (ae (ah rfl rfl (ab (aj (ae (ah rfl rfl (ab (ae (ad rfl rfl (fe rfl rfl rfl (by omega) (ah rfl rfl ?_)))))))))));refine ab ?_;exact⟨rfl,rfl,rfl,.cons rfl (.cons rfl (.cons (congrArg (fun z=>some (Value.int .i64 z)) (by first|(exfalso;omega)|(unfold nO;repeat (first|rw[if_pos (by omega)]|rw[if_neg (by omega)])))) (.cons (congrArg (fun z=>some (Value.int .i64 z)) (by first|(exfalso;omega)|(unfold ij;repeat (first|rw[if_pos (by omega)]|rw[if_neg (by omega)])))) (.cons (congrArg (fun z=>some (Value.int .i64 z)) (by first|(exfalso;omega)|(unfold vF;repeat (first|rw[if_pos (by omega)]|rw[if_neg (by omega)])))) (.nil)))))⟩
    ·refine aj (ae (ad rfl rfl (dV rfl rfl rfl (ad rfl rfl ?_))));refine aQ (g:=26) rfl (fun Ll=>?_) (fun Ll=>?_)
     ·refine al rfl rfl (ad rfl rfl (al rfl rfl (cj rfl rfl rfl (aY rfl rfl rfl (ab ?_)))));refine bN rfl (fun F8=>?_) (fun F8=>?_)
      ·refine aj (ae (ah rfl rfl (ab (aj (ae (ah rfl rfl (ab (ae (ad rfl rfl (fe rfl rfl rfl (by omega) (ah rfl rfl ?_)))))))))));refine ab ?_;exact⟨rfl,rfl,rfl,.cons rfl (.cons rfl (.cons (congrArg (fun z=>some (Value.int .i64 z)) (by first|(exfalso;omega)|(unfold nO;repeat (first|rw[if_pos (by omega)]|rw[if_neg (by omega)])))) (.cons (congrArg (fun z=>some (Value.int .i64 z)) (by first|(exfalso;omega)|(unfold ij;repeat (first|rw[if_pos (by omega)]|rw[if_neg (by omega)])))) (.cons (congrArg (fun z=>some (Value.int .i64 z)) (by first|(exfalso;omega)|(unfold vF;repeat (first|rw[if_pos (by omega)]|rw[if_neg (by omega)])))) (.nil)))))⟩
      ·refine aj (ae (ad rfl rfl (dV rfl rfl rfl (ad rfl rfl ?_))));refine aQ (g:=34) rfl (fun yD=>?_) (fun yD=>?_)
       ·refine al rfl rfl (ad rfl rfl (al rfl rfl (cj rfl rfl rfl (aY rfl rfl rfl (ab ?_)))));refine bN rfl (fun TX=>?_) (fun TX=>?_)
        ·refine aj (ae (ah rfl rfl (ab (aj (ae (ah rfl rfl (ab (ae (ad rfl rfl (fe rfl rfl rfl (by omega) (ah rfl rfl ?_)))))))))));refine ab ?_;exact⟨rfl,rfl,rfl,.cons rfl (.cons rfl (.cons (congrArg (fun z=>some (Value.int .i64 z)) (by first|(exfalso;omega)|(unfold nO;repeat (first|rw[if_pos (by omega)]|rw[if_neg (by omega)])))) (.cons (congrArg (fun z=>some (Value.int .i64 z)) (by first|(exfalso;omega)|(unfold ij;repeat (first|rw[if_pos (by omega)]|rw[if_neg (by omega)])))) (.cons (congrArg (fun z=>some (Value.int .i64 z)) (by first|(exfalso;omega)|(unfold vF;repeat (first|rw[if_pos (by omega)]|rw[if_neg (by omega)])))) (.nil)))))⟩
        ·refine aU ?_;exact⟨rfl,rfl,rfl,.cons rfl (.cons rfl (.cons (congrArg (fun z=>some (Value.int .i64 z)) (by first|(exfalso;omega)|(unfold nO;repeat (first|rw[if_pos (by omega)]|rw[if_neg (by omega)])))) (.cons (congrArg (fun z=>some (Value.int .i64 z)) (by first|(exfalso;omega)|(unfold ij;repeat (first|rw[if_pos (by omega)]|rw[if_neg (by omega)])))) (.cons (congrArg (fun z=>some (Value.int .i64 z)) (by first|(exfalso;omega)|(unfold vF;repeat (first|rw[if_pos (by omega)]|rw[if_neg (by omega)])))) (.nil)))))⟩
       ·refine au rfl rfl rfl rfl (au rfl rfl rfl rfl (aE rfl rfl rfl (ab (jE rfl (aU ?_)))));exact⟨rfl,rfl,rfl,.cons rfl (.cons rfl (.cons (congrArg (fun z=>some (Value.int .i64 z)) (by first|(exfalso;omega)|(unfold nO;repeat (first|rw[if_pos (by omega)]|rw[if_neg (by omega)])))) (.cons (congrArg (fun z=>some (Value.int .i64 z)) (by first|(exfalso;omega)|(unfold ij;repeat (first|rw[if_pos (by omega)]|rw[if_neg (by omega)])))) (.cons (congrArg (fun z=>some (Value.int .i64 z)) (by first|(exfalso;omega)|(unfold vF;repeat (first|rw[if_pos (by omega)]|rw[if_neg (by omega)])))) (.nil)))))⟩
     ·refine au rfl rfl rfl rfl (au rfl rfl rfl rfl (aE rfl rfl rfl (ab (jE rfl (aj (ae (ad rfl rfl (dV rfl rfl rfl (ad rfl rfl ?_)))))))));refine aQ (g:=34) rfl (fun yD=>?_) (fun yD=>?_)
      ·refine al rfl rfl (ad rfl rfl (al rfl rfl (cj rfl rfl rfl (aY rfl rfl rfl (ab ?_)))));refine bN rfl (fun TX=>?_) (fun TX=>?_)
       ·refine aj (ae (ah rfl rfl (ab (aj (ae (ah rfl rfl (ab (ae (ad rfl rfl (fe rfl rfl rfl (by omega) (ah rfl rfl ?_)))))))))));refine ab ?_;exact⟨rfl,rfl,rfl,.cons rfl (.cons rfl (.cons (congrArg (fun z=>some (Value.int .i64 z)) (by first|(exfalso;omega)|(unfold nO;repeat (first|rw[if_pos (by omega)]|rw[if_neg (by omega)])))) (.cons (congrArg (fun z=>some (Value.int .i64 z)) (by first|(exfalso;omega)|(unfold ij;repeat (first|rw[if_pos (by omega)]|rw[if_neg (by omega)])))) (.cons (congrArg (fun z=>some (Value.int .i64 z)) (by first|(exfalso;omega)|(unfold vF;repeat (first|rw[if_pos (by omega)]|rw[if_neg (by omega)])))) (.nil)))))⟩
       ·refine aU ?_;exact⟨rfl,rfl,rfl,.cons rfl (.cons rfl (.cons (congrArg (fun z=>some (Value.int .i64 z)) (by first|(exfalso;omega)|(unfold nO;repeat (first|rw[if_pos (by omega)]|rw[if_neg (by omega)])))) (.cons (congrArg (fun z=>some (Value.int .i64 z)) (by first|(exfalso;omega)|(unfold ij;repeat (first|rw[if_pos (by omega)]|rw[if_neg (by omega)])))) (.cons (congrArg (fun z=>some (Value.int .i64 z)) (by first|(exfalso;omega)|(unfold vF;repeat (first|rw[if_pos (by omega)]|rw[if_neg (by omega)])))) (.nil)))))⟩
      ·refine au rfl rfl rfl rfl (au rfl rfl rfl rfl (aE rfl rfl rfl (ab (jE rfl (aU ?_)))));exact⟨rfl,rfl,rfl,.cons rfl (.cons rfl (.cons (congrArg (fun z=>some (Value.int .i64 z)) (by first|(exfalso;omega)|(unfold nO;repeat (first|rw[if_pos (by omega)]|rw[if_neg (by omega)])))) (.cons (congrArg (fun z=>some (Value.int .i64 z)) (by first|(exfalso;omega)|(unfold ij;repeat (first|rw[if_pos (by omega)]|rw[if_neg (by omega)])))) (.cons (congrArg (fun z=>some (Value.int .i64 z)) (by first|(exfalso;omega)|(unfold vF;repeat (first|rw[if_pos (by omega)]|rw[if_neg (by omega)])))) (.nil)))))⟩
   ·refine au rfl rfl rfl rfl (au rfl rfl rfl rfl (aE rfl rfl rfl (ab (jE rfl (aj (ae (ad rfl rfl (dV rfl rfl rfl (ad rfl rfl ?_)))))))));refine aQ (g:=26) rfl (fun Ll=>?_) (fun Ll=>?_)
    ·refine al rfl rfl (ad rfl rfl (al rfl rfl (cj rfl rfl rfl (aY rfl rfl rfl (ab ?_)))));refine bN rfl (fun F8=>?_) (fun F8=>?_)
     ·refine aj (ae (ah rfl rfl (ab (aj (ae (ah rfl rfl (ab (ae (ad rfl rfl (fe rfl rfl rfl (by omega) (ah rfl rfl ?_)))))))))));refine ab ?_;exact⟨rfl,rfl,rfl,.cons rfl (.cons rfl (.cons (congrArg (fun z=>some (Value.int .i64 z)) (by first|(exfalso;omega)|(unfold nO;repeat (first|rw[if_pos (by omega)]|rw[if_neg (by omega)])))) (.cons (congrArg (fun z=>some (Value.int .i64 z)) (by first|(exfalso;omega)|(unfold ij;repeat (first|rw[if_pos (by omega)]|rw[if_neg (by omega)])))) (.cons (congrArg (fun z=>some (Value.int .i64 z)) (by first|(exfalso;omega)|(unfold vF;repeat (first|rw[if_pos (by omega)]|rw[if_neg (by omega)])))) (.nil)))))⟩
     ·refine aj (ae (ad rfl rfl (dV rfl rfl rfl (ad rfl rfl ?_))));refine aQ (g:=34) rfl (fun yD=>?_) (fun yD=>?_)
      ·refine al rfl rfl (ad rfl rfl (al rfl rfl (cj rfl rfl rfl (aY rfl rfl rfl (ab ?_)))));refine bN rfl (fun TX=>?_) (fun TX=>?_)
       ·refine aj (ae (ah rfl rfl (ab (aj (ae (ah rfl rfl (ab (ae (ad rfl rfl (fe rfl rfl rfl (by omega) (ah rfl rfl ?_)))))))))));refine ab ?_;exact⟨rfl,rfl,rfl,.cons rfl (.cons rfl (.cons (congrArg (fun z=>some (Value.int .i64 z)) (by first|(exfalso;omega)|(unfold nO;repeat (first|rw[if_pos (by omega)]|rw[if_neg (by omega)])))) (.cons (congrArg (fun z=>some (Value.int .i64 z)) (by first|(exfalso;omega)|(unfold ij;repeat (first|rw[if_pos (by omega)]|rw[if_neg (by omega)])))) (.cons (congrArg (fun z=>some (Value.int .i64 z)) (by first|(exfalso;omega)|(unfold vF;repeat (first|rw[if_pos (by omega)]|rw[if_neg (by omega)])))) (.nil)))))⟩
       ·refine aU ?_;exact⟨rfl,rfl,rfl,.cons rfl (.cons rfl (.cons (congrArg (fun z=>some (Value.int .i64 z)) (by first|(exfalso;omega)|(unfold nO;repeat (first|rw[if_pos (by omega)]|rw[if_neg (by omega)])))) (.cons (congrArg (fun z=>some (Value.int .i64 z)) (by first|(exfalso;omega)|(unfold ij;repeat (first|rw[if_pos (by omega)]|rw[if_neg (by omega)])))) (.cons (congrArg (fun z=>some (Value.int .i64 z)) (by first|(exfalso;omega)|(unfold vF;repeat (first|rw[if_pos (by omega)]|rw[if_neg (by omega)])))) (.nil)))))⟩
      ·refine au rfl rfl rfl rfl (au rfl rfl rfl rfl (aE rfl rfl rfl (ab (jE rfl (aU ?_)))));exact⟨rfl,rfl,rfl,.cons rfl (.cons rfl (.cons (congrArg (fun z=>some (Value.int .i64 z)) (by first|(exfalso;omega)|(unfold nO;repeat (first|rw[if_pos (by omega)]|rw[if_neg (by omega)])))) (.cons (congrArg (fun z=>some (Value.int .i64 z)) (by first|(exfalso;omega)|(unfold ij;repeat (first|rw[if_pos (by omega)]|rw[if_neg (by omega)])))) (.cons (congrArg (fun z=>some (Value.int .i64 z)) (by first|(exfalso;omega)|(unfold vF;repeat (first|rw[if_pos (by omega)]|rw[if_neg (by omega)])))) (.nil)))))⟩
    ·refine au rfl rfl rfl rfl (au rfl rfl rfl rfl (aE rfl rfl rfl (ab (jE rfl (aj (ae (ad rfl rfl (dV rfl rfl rfl (ad rfl rfl ?_)))))))));refine aQ (g:=34) rfl (fun yD=>?_) (fun yD=>?_)
     ·refine al rfl rfl (ad rfl rfl (al rfl rfl (cj rfl rfl rfl (aY rfl rfl rfl (ab ?_)))));refine bN rfl (fun TX=>?_) (fun TX=>?_)
      ·refine aj (ae (ah rfl rfl (ab (aj (ae (ah rfl rfl (ab (ae (ad rfl rfl (fe rfl rfl rfl (by omega) (ah rfl rfl ?_)))))))))));refine ab ?_;exact⟨rfl,rfl,rfl,.cons rfl (.cons rfl (.cons (congrArg (fun z=>some (Value.int .i64 z)) (by first|(exfalso;omega)|(unfold nO;repeat (first|rw[if_pos (by omega)]|rw[if_neg (by omega)])))) (.cons (congrArg (fun z=>some (Value.int .i64 z)) (by first|(exfalso;omega)|(unfold ij;repeat (first|rw[if_pos (by omega)]|rw[if_neg (by omega)])))) (.cons (congrArg (fun z=>some (Value.int .i64 z)) (by first|(exfalso;omega)|(unfold vF;repeat (first|rw[if_pos (by omega)]|rw[if_neg (by omega)])))) (.nil)))))⟩
      ·refine aU ?_;exact⟨rfl,rfl,rfl,.cons rfl (.cons rfl (.cons (congrArg (fun z=>some (Value.int .i64 z)) (by first|(exfalso;omega)|(unfold nO;repeat (first|rw[if_pos (by omega)]|rw[if_neg (by omega)])))) (.cons (congrArg (fun z=>some (Value.int .i64 z)) (by first|(exfalso;omega)|(unfold ij;repeat (first|rw[if_pos (by omega)]|rw[if_neg (by omega)])))) (.cons (congrArg (fun z=>some (Value.int .i64 z)) (by first|(exfalso;omega)|(unfold vF;repeat (first|rw[if_pos (by omega)]|rw[if_neg (by omega)])))) (.nil)))))⟩
     ·refine au rfl rfl rfl rfl (au rfl rfl rfl rfl (aE rfl rfl rfl (ab (jE rfl (aU ?_)))));exact⟨rfl,rfl,rfl,.cons rfl (.cons rfl (.cons (congrArg (fun z=>some (Value.int .i64 z)) (by first|(exfalso;omega)|(unfold nO;repeat (first|rw[if_pos (by omega)]|rw[if_neg (by omega)])))) (.cons (congrArg (fun z=>some (Value.int .i64 z)) (by first|(exfalso;omega)|(unfold ij;repeat (first|rw[if_pos (by omega)]|rw[if_neg (by omega)])))) (.cons (congrArg (fun z=>some (Value.int .i64 z)) (by first|(exfalso;omega)|(unfold vF;repeat (first|rw[if_pos (by omega)]|rw[if_neg (by omega)])))) (.nil)))))⟩
  ·refine aj (aj (ae (ad rfl rfl (nX rfl rfl rfl (ad rfl rfl ?_)))));refine aQ (g:=42) rfl (fun Yf=>?_) (fun Yf=>?_)
   ·refine au rfl rfl rfl rfl (au rfl rfl rfl rfl (au rfl rfl rfl rfl (au rfl rfl rfl rfl (aY rfl rfl rfl (ab (nQ rfl (aj (ae (ah rfl rfl (ah rfl rfl (ab ?_)))))))))));refine aO ?_
    have hx:nO (kd l 0:Int)=0∨∃k:Nat,1≤k∧(k:Int)<nO (kd l 0:Int)∧ko l k=false:=by
     rw[←hc];by_cases h0:nO c=0
     ·exact .inl h0
     ·have hnc:=og h0;exact .inr ⟨(nO c).toNat-1,by omega,by omega,cV.2 fun h=>by have:=(gZ.1 h).1;omega⟩
    have e:dec l=(65533,1):=HM (by omega) hx;exact eY rfl rfl rfl ⟨by rw[e];rfl,rfl⟩
   ·refine al rfl rfl (ad rfl rfl (al rfl rfl (Rg.nz aJ rfl rfl (aV (v':= .int .i64 (l.length:Int)) (by simp[ByteArray.size]) (al rfl rfl (ad rfl rfl (al rfl rfl (cj rfl rfl rfl (aE rfl rfl rfl (ab ?_))))))))));refine bN rfl (fun c19=>?_) (fun c19=>?_)
    ·refine aj (ae (ah rfl rfl (ah rfl rfl (ab (aO ?_)))))
     have hx:nO (kd l 0:Int)=0∨∃k:Nat,1≤k∧(k:Int)<nO (kd l 0:Int)∧ko l k=false:=by
      rw[←hc];by_cases h0:nO c=0
      ·exact .inl h0
      ·have hnc:=og h0;exact .inr ⟨(nO c).toNat-1,by omega,by omega,cV.2 fun h=>by have:=(gZ.1 h).1;omega⟩
     have e:dec l=(65533,1):=HM (by omega) hx;exact eY rfl rfl rfl ⟨by rw[e];rfl,rfl⟩
    ·refine aU (aj (aj (ae (ah rfl rfl (ab (aZ ?_))))));refine de (σ:=Nat) (fun i=>[(0,.string ⟨l.toArray⟩),(5,.int .i64 (nO c)),(6,.int .i64 (ij c)),(7,.int .i64 (vO l (i-1))),(8,.int .i64 (i:Int))]) (fun i w=>w=w0∧1≤i∧(i:Int)≤nO c∧∀k:Nat,1≤k→k<i→ko l k=true) (fun i=>(nO c).toNat-i) 1 (.cons rfl (.cons rfl (.cons rfl (.cons (congrArg (fun z=>some (Value.int .i64 z)) (by show vF c=vF (kd l 0:Int);rw[hc])) (.cons rfl .nil))))) ?_ ?_
     ·exact⟨rfl,aT _,by have:=og (c:=c) (by omega);omega,fun k h1 h2=>by omega⟩
     ·rintro i w ⟨rfl,xJ,Ab,hok⟩;have hnc:=og (c:=c) (by omega)
      have hvr:0≤vO l (i-1)∧vO l (i-1)≤100000000:=by
       exact TW (l:=l) (c:=c) (k:=i-1) hc (by omega) (fun j h1 h2=>hok j h1 (by omega)) (by omega)
      refine aj (aj (ae (ad rfl rfl (ad rfl rfl (cj rfl rfl rfl (ab ?_))))));refine bN rfl (fun c22=>?_) (fun c22=>?_)
      ·refine aU (aj (aZ (aj (ae (ad rfl rfl (ad rfl rfl ?_))))));have kq:i<l.length:=by omega
       refine Rg.HJ (c:=l.getD i 0) aJ rfl rfl rfl (by omega) (by rw[az,ay,ar kq];rfl) ?_;refine aV (v':= .int .u8 (kd l i:Int)) rfl ?_;have PN:=o0 l i;refine Rg.uZ cx ax rfl rfl (by omega) (ah rfl rfl (ab (aj (aj (ae (ad rfl rfl (cj rfl rfl rfl (ad rfl rfl ?_))))))));refine aQ (g:=59) rfl (fun Yg=>?_) (fun Yg=>?_)
       ·refine au rfl rfl rfl rfl (au rfl rfl rfl rfl (aY rfl rfl rfl (ab (nQ rfl (aj (ae (ah rfl rfl (ah rfl rfl (ab (aO ?_))))))))))
        have hx:nO (kd l 0:Int)=0∨∃k:Nat,1≤k∧(k:Int)<nO (kd l 0:Int)∧ko l k=false:=by
         rw[←hc];exact .inr ⟨i,xJ,by omega,cV.2 fun h=>by have:=gZ.1 h;omega⟩
        have e:dec l=(65533,1):=HM (by omega) hx;exact eY rfl rfl rfl ⟨by rw[e];rfl,rfl⟩
       ·refine al rfl rfl (ad rfl rfl (al rfl rfl (dV rfl rfl rfl (aE rfl rfl rfl (ab ?_)))));refine bN rfl (fun c25=>?_) (fun c25=>?_)
        ·refine aj (ae (ah rfl rfl (ah rfl rfl (ab (aO ?_)))))
         have hx:nO (kd l 0:Int)=0∨∃k:Nat,1≤k∧(k:Int)<nO (kd l 0:Int)∧ko l k=false:=by
          rw[←hc];exact .inr ⟨i,xJ,by omega,cV.2 fun h=>by have:=gZ.1 h;omega⟩
         have e:dec l=(65533,1):=HM (by omega) hx;exact eY rfl rfl rfl ⟨by rw[e];rfl,rfl⟩
        ·refine aU (ae (ad rfl rfl (Rg.Pk rfl rfl rfl (by omega) (ad rfl rfl (bF rfl rfl rfl (by omega) (fe rfl rfl rfl (by omega) (ah rfl rfl (ab (ae (ad rfl rfl (bF rfl rfl rfl (by omega) ?_)))))))))));refine ah rfl rfl (ab ?_);refine⟨rfl,i+1,(.cons rfl (.cons rfl (.cons rfl (.cons (congrArg (fun z=>some (Value.int .i64 z)) (by obtain⟨q,rfl⟩:∃q,i=q+1:=⟨i-1,by omega⟩;rfl)) (.cons rfl .nil))))),?_,?_⟩
         ·exact⟨rfl,by omega,by omega,fun k h1 h2=>by
           rcases cI k i with h|h
           ·exact hok k h1 h
           ·obtain rfl:k=i:=by omega
            exact gZ.2 (by omega)⟩
         ·omega
      ·refine cG (aj (aj (ae (ad rfl rfl (ad rfl rfl (cj rfl rfl rfl (ad rfl rfl ?_)))))));refine aQ (g:=71) rfl (fun Yh=>?_) (fun Yh=>?_)
       ·refine au rfl rfl rfl rfl (au rfl rfl rfl rfl (aY rfl rfl rfl (ad rfl rfl (au rfl rfl rfl rfl (au rfl rfl rfl rfl (au rfl rfl rfl rfl (cq rfl rfl rfl (cq rfl rfl rfl (au rfl rfl rfl rfl (aY rfl rfl rfl (ab ?_)))))))))));refine nQ rfl (aj (ae (ah rfl rfl (ah rfl rfl (ab (aO ?_))))));have e:=Dt (l:=l) (by rw[←hc];omega) (by rw[←hc];exact fun k h1 h2=>hok k h1 (by omega)) (vO l (i-1)) (by rw[←hc];congr 1;omega);rw[←hc,if_pos (by omega)]at e;exact eY rfl rfl rfl ⟨by rw[e];rfl,rfl⟩
       ·refine al rfl rfl (ad rfl rfl (al rfl rfl (jd rfl rfl rfl (aE rfl rfl rfl (ad rfl rfl ?_)))));refine aQ (g:=75) rfl (fun Yi=>?_) (fun Yi=>?_)
        ·refine au rfl rfl rfl rfl (au rfl rfl rfl rfl (au rfl rfl rfl rfl (cq rfl rfl rfl (cq rfl rfl rfl (au rfl rfl rfl rfl (aY rfl rfl rfl (ab (nQ rfl (aj (ae (ah rfl rfl ?_)))))))))));refine ah rfl rfl (ab (aO ?_));have e:=Dt (l:=l) (by rw[←hc];omega) (by rw[←hc];exact fun k h1 h2=>hok k h1 (by omega)) (vO l (i-1)) (by rw[←hc];congr 1;omega);rw[←hc,if_pos (by omega)]at e;exact eY rfl rfl rfl ⟨by rw[e];rfl,rfl⟩
        ·refine al rfl rfl (ad rfl rfl (al rfl rfl (dV rfl rfl rfl (al rfl rfl (ad rfl rfl ?_)))));refine aQ (g:=78) rfl (fun TY=>?_) (fun TY=>?_)
         ·refine al rfl rfl (ad rfl rfl (al rfl rfl (gK rfl rfl rfl (al rfl rfl (aY rfl rfl rfl (aE rfl rfl rfl (ab ?_)))))));refine bN rfl (fun c28=>?_) (fun c28=>?_)
          ·refine aj (ae (ah rfl rfl (ah rfl rfl (ab (aO ?_)))));have e:=Dt (l:=l) (by rw[←hc];omega) (by rw[←hc];exact fun k h1 h2=>hok k h1 (by omega)) (vO l (i-1)) (by rw[←hc];congr 1;omega);rw[←hc,if_pos (by omega)]at e;exact eY rfl rfl rfl ⟨by rw[e];rfl,rfl⟩
          ·refine aU (aj (ae (ad rfl rfl (ad rfl rfl (ah rfl rfl (ah rfl rfl (ab (aO ?_))))))));have e:=Dt (l:=l) (by rw[←hc];omega) (by rw[←hc];exact fun k h1 h2=>hok k h1 (by omega)) (vO l (i-1)) (by rw[←hc];congr 1;omega);rw[←hc,if_neg (by omega)]at e;exact eY rfl rfl rfl ⟨by rw[e];simp only[];rw[zX hvr.1,zX (by omega)],rfl⟩
         ·refine au rfl rfl rfl rfl (au rfl rfl rfl rfl (al rfl rfl (aE rfl rfl rfl (aE rfl rfl rfl (ab (jE rfl (aU (aj (ae (ad rfl rfl (ad rfl rfl ?_)))))))))));refine ah rfl rfl (ah rfl rfl (ab (aO ?_)));have e:=Dt (l:=l) (by rw[←hc];omega) (by rw[←hc];exact fun k h1 h2=>hok k h1 (by omega)) (vO l (i-1)) (by rw[←hc];congr 1;omega);rw[←hc,if_neg (by omega)]at e;exact eY rfl rfl rfl ⟨by rw[e];simp only[];rw[zX hvr.1,zX (by omega)],rfl⟩
theorem Dv {M:aD} {l:List UInt8} (w0:World) (hM:Lt M w0) (hl:l.length≤1000000):
  Spec Tryz.prog 251 #[.string ⟨l.toArray⟩] w0 (fun v w=>((RT.int .i64).sl).V M w (fh l) v∧Step M w0 M w aC):=by
 have jM:=hM;refine bc (args:=[_]) (fn:=Tryz.f251) Tryz.func251 rfl (n:=22) Tryz.ntmps251 ?_;have S:Step M w0 M w0 aC:=(aw _ _).cA (fun _ h=>h.elim) (fun _ h=>h.elim);refine aj (ae (ah rfl rfl (ab (aj (ae (ah rfl rfl (ab (aj (aZ ?_)))))))));refine de (σ:=Nat×List Int×Value) (fun q=>[(0,.string ⟨(l.drop q.1).toArray⟩),(3,q.2.2)]) (fun q w=>∃M',Lt M' w∧Step M w0 M' w aC∧Own (RT.int .i64) 3 M' w w0.heap.size q.2.2 q.2.1∧fh l=q.2.1++fh (l.drop q.1)∧q.1≤l.length) (fun q=>l.length-q.1) (0,[],.slice none 0 0) (.cons rfl (.cons rfl .nil)) ?_ ?_
 ·exact⟨M,hM,S,dF _ _ _ _ _,by simp,by simp⟩
 ·rintro⟨p,xs,u⟩ w ⟨M1,hM,S,ho,yE,hp⟩;dsimp only at ho yE hp ⊢;refine aj (aj (ae (ad rfl rfl (Rg.nz aJ rfl rfl (aV (v':= .int .i64 ((l.drop p).length:Int)) (by simp[ByteArray.size]) (jd rfl rfl rfl (ab ?_)))))));refine bN rfl (fun c2=>?_) (fun c2=>?_)
  ·refine aU (aZ (aj (ae (ad rfl rfl ?_))));have eK:l.drop p≠[]:=by intro h;rw[h]at c2;simp at c2
   have tz:p<l.length:=by have:=oN.2 eK;rw[du]at this;omega
   have hwd:=lX eK;refine aX rfl rfl ad1 (Lk (l:=l.drop p) _ eK (by rw[du];omega)) (fun r3 w3 hc=>?_);obtain⟨rfl,rfl⟩:=hc;refine ad rfl rfl (bW rfl rfl rfl (bW rfl rfl rfl (ah rfl rfl (ah rfl rfl (ab (aj (ae (ad rfl rfl (ad rfl rfl ?_)))))))));refine ed (A:=RT.int .i64) (hn:=by decide) (M:=M1) an I3 (by decide) rfl rfl hM (fV (by have:=vC (l.drop p);omega)) (.inr ⟨rfl,rfl⟩) (fun Yj PO oh my=>?_);replace ho:=ho.aP my;replace hM:=my.lt hM;have:=S.size;replace S:=S.aB my;refine cZ (M:=M1) (base:=w0.heap.size) an I3 rfl rfl rfl rfl ho oh (aq _ _) (by simp;have:=iV l;rw[yE]at this;simp at this;omega) (by simp;have:=iV l;rw[yE]at this;simp at this;omega) (S.size) (fun TZ ad8 aod Yk T0=>?_);replace oh:=oh.le T0.le;replace hM:=T0.lt hM;have:=S.size;replace S:=S.dg T0 ho (aT _);replace ho:=Yk;refine ah rfl rfl (ab (ae (ad rfl rfl (ad rfl rfl (Rg.PH aJ rfl rfl rfl (by omega) (aV (v':= .string ⟨(l.drop (p+(dec (l.drop p)).2)).toArray⟩) (by rw[List.drop_drop];simp) (ah rfl rfl (ab ?_))))))));refine⟨rfl,(p+(dec (l.drop p)).2,xs++[((dec (l.drop p)).1:Int)],TZ),(.cons rfl (.cons rfl .nil)),?_,?_⟩
   ·refine⟨ad8,hM,S,ho,?_,?_⟩
    ·rw[yE,ta eK,List.drop_drop];simp
    ·have:=hwd.2;rw[du]at this;dsimp only;omega
   ·have:=hwd.1;have:=hwd.2;rw[du]at this;dsimp only;omega
  ·refine cG (aj (ae (ad rfl rfl (ah rfl rfl (ab (aO ?_))))));have e:fh l=xs:=by rw[yE,gO (by simp at c2;omega),vD];simp
   rw[e];have:=iV l;rw[e]at this;exact aS rfl rfl ⟨ho.close jM S (by omega),S.back⟩
theorem rY {M:aD} {w:World} {x:Int} (h:0≤x∧x<256):RT.u8.V M w x.toNat.toUInt8 (.int .u8 (IntKind.u8.wrap x)):=by
 have e1:IntKind.u8.wrap x=x:=by
  show(if(false&&decide (x%256≥128))=true then x%256-256 else x%256)=x;rw[if_neg (by simp)];omega
 have e2:((x.toNat.toUInt8).toNat:Int)=x:=by
  have:x.toNat.toUInt8.toNat=x.toNat%256:=UInt8.toNat_ofNat' ..;omega
 rw[e1];exact⟨[.int .u8 x],by show _=_;rw[e2],rfl⟩
theorem ad9 {r:Int} (h:0≤r∧r<128):Lib.encodeRune r=[r.toNat.toUInt8]:=by rw[Lib.encodeRune,Lib.encodeRuneZ_one h.1 (by omega)];rfl
theorem aea {r:Int} (h:128≤r∧r<2048):Lib.encodeRune r=[(192+r/64).toNat.toUInt8,(128+r%64).toNat.toUInt8]:=by rw[Lib.encodeRune,Lib.encodeRuneZ_two h.1 (by omega)];rfl
theorem I7 (c:Int):tU c<55296∨57343<tU c:=by
 unfold tU
 split
 ·omega
 ·rename_i h
  have h2:Lib.validRune c=true:=by
   cases hv:Lib.validRune c with
   |true=>rfl
   |false=>exact absurd (.inr (.inr hv)) h
  simp only[Lib.validRune,decide_eq_true_eq]at h2;omega
theorem aeb {r:Int} (h:2048≤r∧r<65536) (h2:r<55296∨57343<r):Lib.encodeRune r=[(224+r/4096).toNat.toUInt8,(128+r/64%64).toNat.toUInt8,(128+r%64).toNat.toUInt8]:=by rw[Lib.encodeRune,Lib.encodeRuneZ_three (by omega)];rfl
theorem aec {r:Int} (h:65536≤r∧r≤1114111):Lib.encodeRune r=[(240+r/262144).toNat.toUInt8,(128+r/4096%64).toNat.toUInt8,(128+r/64%64).toNat.toUInt8,(128+r%64).toNat.toUInt8]:=by rw[Lib.encodeRune,Lib.encodeRuneZ_four h.1 h.2];rfl
theorem tV {c:Int} (h:c<0∨c>1114111∨(55296≤c∧c≤57343)):tU c=65533:=by
 rw[tU,if_pos];rcases h with h|h|h
 ·exact .inl h
 ·exact .inr (.inl h)
 ·refine .inr (.inr ?_);simp only[Lib.validRune,decide_eq_false_iff_not];omega
theorem qu {c:Int} (h: ¬(c<0∨c>1114111∨(55296≤c∧c≤57343))):tU c=c:=by
 rw[tU,if_neg];rintro(h1|h1|h1)
 ·omega
 ·omega
 ·simp only[Lib.validRune,decide_eq_false_iff_not]at h1;omega
theorem yF {M:aD} {xs:List Int} {v0:Value} (w0:World) (hM:Lt M w0) (hv:((RT.int .i64).sl).V M w0 xs v0) (hl:xs.length≤1000000):
  Spec Tryz.prog 254 #[v0] w0 (fun v w=>v= .string ⟨(kI xs).toArray⟩∧Step M w0 M w aC):=by
 have jM:=hM;refine bc (args:=[_]) (fn:=Tryz.f254) Tryz.func254 rfl (n:=91) Tryz.ntmps254 ?_;have S:Step M w0 M w0 aC:=(aw _ _).cA (fun _ h=>h.elim) (fun _ h=>h.elim);refine aj (ae (ah rfl rfl (ab (aj (ae (ah rfl rfl (ab (aj (aj (ae (ah rfl rfl ?_)))))))))));refine ab (aZ ?_);refine de (σ:=Nat×Value) (fun q=>[(0,v0),(3,q.2),(4,.int .i64 (q.1:Int))]) (fun q w=>∃M',Lt M' w∧Step M w0 M' w aC∧Own RT.u8 5 M' w w0.heap.size q.2 (kI (xs.take q.1))∧((RT.int .i64).sl).V M' w xs v0∧q.1≤xs.length) (fun q=>xs.length-q.1) (0,.slice none 0 0) (.cons rfl (.cons rfl (.cons rfl .nil))) ?_ ?_
 ·exact⟨M,hM,S,dF _ _ _ _ _,hv,bE _⟩
 ·rintro⟨k,u⟩ w ⟨M1,hM,S,ho,hv,hk⟩;dsimp only at ho hk ⊢;refine aj (aj (ae (ad rfl rfl (ad rfl rfl (bM an rfl hv rfl (cj rfl rfl rfl (ab ?_)))))));refine bN rfl (fun c3=>?_) (fun c3=>?_)
  ·refine aU (aj (aZ (aj (ae (ad rfl rfl (ad rfl rfl ?_))))));refine cy (M:=M1) an I3 rfl rfl rfl hv (aq _ _) (by omega) (fun u5 c I8 Dw=>?_);refine cb (M:=M1) ax rfl rfl Dw (aq _ _) (fun in5=>?_);have tk:xs.take (k+1)=xs.take k++[c]:=by rw[bK];simp only[ay]at I8;rw[I8];rfl
   have hsr:=HL c;have hsc:=I7 c;refine ah rfl rfl (ab ?_);refine T.HE [(0,v0),(3,u),(4,.int .i64 (k:Int)),(5,.int .i64 (tU c))] ?_ ?_
   ·refine aj (ae (ad rfl rfl (cj rfl rfl rfl (ad rfl rfl ?_))));refine aQ (g:=18) rfl (fun T1=>?_) (fun T1=>?_)
    ·refine au rfl rfl rfl rfl (au rfl rfl rfl rfl (aY rfl rfl rfl (ad rfl rfl (au rfl rfl rfl rfl (au rfl rfl rfl rfl (au rfl rfl rfl rfl (cq rfl rfl rfl (cq rfl rfl rfl (au rfl rfl rfl rfl (aY rfl rfl rfl (ab ?_)))))))))));refine nQ rfl (ae (ah rfl rfl (ab ?_)));exact⟨rfl,rfl,rfl,.cons rfl (.cons rfl (.cons rfl (.cons (congrArg (fun z=>some (Value.int .i64 z)) (by first|exact(tV (by omega)).symm|exact(qu (by omega)).symm)) (.nil))))⟩
    ·refine al rfl rfl (ad rfl rfl (al rfl rfl (jd rfl rfl rfl (aE rfl rfl rfl (ad rfl rfl ?_)))));refine aQ (g:=22) rfl (fun aed=>?_) (fun aed=>?_)
     ·refine au rfl rfl rfl rfl (au rfl rfl rfl rfl (au rfl rfl rfl rfl (cq rfl rfl rfl (cq rfl rfl rfl (au rfl rfl rfl rfl (aY rfl rfl rfl (ab (nQ rfl (ae (ah rfl rfl (ab ?_)))))))))));exact⟨rfl,rfl,rfl,.cons rfl (.cons rfl (.cons rfl (.cons (congrArg (fun z=>some (Value.int .i64 z)) (by first|exact(tV (by omega)).symm|exact(qu (by omega)).symm)) (.nil))))⟩
     ·refine al rfl rfl (ad rfl rfl (al rfl rfl (dV rfl rfl rfl (al rfl rfl (ad rfl rfl ?_)))));refine aQ (g:=25) rfl (fun aee=>?_) (fun aee=>?_)
      ·refine al rfl rfl (ad rfl rfl (al rfl rfl (gK rfl rfl rfl (al rfl rfl (aY rfl rfl rfl (aE rfl rfl rfl (ab ?_)))))));refine bN rfl (fun c6=>?_) (fun c6=>?_)
       ·refine ae (ah rfl rfl (ab ?_));exact⟨rfl,rfl,rfl,.cons rfl (.cons rfl (.cons rfl (.cons (congrArg (fun z=>some (Value.int .i64 z)) (by first|exact(tV (by omega)).symm|exact(qu (by omega)).symm)) (.nil))))⟩
       ·refine aU ?_;exact⟨rfl,rfl,rfl,.cons rfl (.cons rfl (.cons rfl (.cons (congrArg (fun z=>some (Value.int .i64 z)) (by first|exact(tV (by omega)).symm|exact(qu (by omega)).symm)) (.nil))))⟩
      ·refine au rfl rfl rfl rfl (au rfl rfl rfl rfl (al rfl rfl (aE rfl rfl rfl (aE rfl rfl rfl (ab (jE rfl (aU ?_)))))));exact⟨rfl,rfl,rfl,.cons rfl (.cons rfl (.cons rfl (.cons (congrArg (fun z=>some (Value.int .i64 z)) (by first|exact(tV (by omega)).symm|exact(qu (by omega)).symm)) (.nil))))⟩
   ·refine aj (ae (ad rfl rfl (cj rfl rfl rfl (ab ?_))));refine bN rfl (fun c8=>?_) (fun c8=>?_)
    ·refine ae (ad rfl rfl (ad rfl rfl (sx ax cx rfl rfl ?_)));refine ed (A:=RT.u8) (hn:=by decide) (M:=M1) bQ I5 (by decide) rfl rfl hM (rY (by omega)) (.inr ⟨rfl,rfl⟩) (fun aof Yl Ln qv=>?_);replace hv:=hv.le qv.le;replace ho:=ho.aP qv;replace hM:=qv.lt hM;have:=S.size;replace S:=S.aB qv;refine cZ (M:=M1) (base:=w0.heap.size) bQ I5 rfl rfl rfl rfl ho Ln (aq _ _) (by have:=gw (xs.take k);rw[bH]at this;simp;omega) (by have:=gw (xs.take k);rw[bH]at this;simp;omega) (S.size) (fun Ym aef aeg Yn An=>?_);replace hv:=hv.le An.le;replace Ln:=Ln.le An.le;replace hM:=An.lt hM;have:=S.size;replace S:=S.dg An ho (aT _);replace ho:=Yn;refine ah rfl rfl (ab (ae (ad rfl rfl (bF rfl rfl rfl (by omega) (ah rfl rfl (ab ?_))))));refine⟨rfl,(k+1,Ym),(.cons rfl (.cons rfl (.cons rfl .nil))),?_,?_⟩
     ·exact⟨aef,hM,S,by rw[tk,mu,ad9 (by omega)];exact ho,hv,by dsimp only;omega⟩
     ·dsimp only;omega
    ·refine aj (ae (ad rfl rfl (cj rfl rfl rfl (ab ?_))));refine bN rfl (fun c10=>?_) (fun c10=>?_)
     ·refine ae (ad rfl rfl (ad rfl rfl (Rg.Ah rfl rfl rfl (by omega) (bF rfl rfl rfl (by omega) (sx ax cx rfl rfl (ad rfl rfl (Rg.BD rfl rfl rfl (by omega) (bF rfl rfl rfl (by omega) (sx ax cx rfl rfl ?_)))))))));refine Rg.W2 (A:=RT.u8) (hn:=by decide) (M:=M1) (xs:=[(192+tU c/64).toNat.toUInt8,(128+tU c%64).toNat.toUInt8]) bQ I5 rfl (by decide) rfl ⟨_,_,_,rfl,rfl,rfl,rY (by omega),_,_,_,rfl,rfl,rfl,rY (by omega),rfl⟩ rfl hM (.inr ⟨rfl,rfl⟩) (by decide) (fun ake akf F9 HN=>?_);replace hv:=hv.le HN.le;replace ho:=ho.aP HN;replace hM:=HN.lt hM;have:=S.size;replace S:=S.aB HN;refine cZ (M:=M1) (base:=w0.heap.size) bQ I5 rfl rfl rfl rfl ho F9 (aq _ _) (by have:=gw (xs.take k);rw[bH]at this;simp;omega) (by have:=gw (xs.take k);rw[bH]at this;simp;omega) (S.size) (fun T2 T3 aei PQ BZ=>?_);replace hv:=hv.le BZ.le;replace F9:=F9.le BZ.le;replace hM:=BZ.lt hM;have:=S.size;replace S:=S.dg BZ ho (aT _);replace ho:=PQ;refine ah rfl rfl (ab (ae (ad rfl rfl (bF rfl rfl rfl (by omega) (ah rfl rfl (ab ?_))))));refine⟨rfl,(k+1,T2),(.cons rfl (.cons rfl (.cons rfl .nil))),?_,?_⟩
      ·exact⟨T3,hM,S,by rw[tk,mu,aea (by omega)];exact ho,hv,by dsimp only;omega⟩
      ·dsimp only;omega
     ·refine aj (ae (ad rfl rfl (cj rfl rfl rfl (ab ?_))));refine bN rfl (fun T4=>?_) (fun T4=>?_)
      ·refine ae (ad rfl rfl (ad rfl rfl (Rg.Ah rfl rfl rfl (by omega) (bF rfl rfl rfl (by omega) (sx ax cx rfl rfl (ad rfl rfl (Rg.Ah rfl rfl rfl (by omega) (Rg.BD rfl rfl rfl (by omega) (bF rfl rfl rfl (by omega) (sx ax cx rfl rfl (ad rfl rfl ?_)))))))))));refine Rg.BD rfl rfl rfl (by omega) (bF rfl rfl rfl (by omega) (sx ax cx rfl rfl ?_));refine Rg.W2 (A:=RT.u8) (hn:=by decide) (M:=M1) (xs:=[(224+tU c/4096).toNat.toUInt8,(128+tU c/64%64).toNat.toUInt8,(128+tU c%64).toNat.toUInt8]) bQ I5 rfl (by decide) rfl ⟨_,_,_,rfl,rfl,rfl,rY (by omega),_,_,_,rfl,rfl,rfl,rY (by omega),_,_,_,rfl,rfl,rfl,rY (by omega),rfl⟩ rfl hM (.inr ⟨rfl,rfl⟩) (by decide) (fun aej aek B0 B1=>?_);replace hv:=hv.le B1.le;replace ho:=ho.aP B1;replace hM:=B1.lt hM;have:=S.size;replace S:=S.aB B1;refine cZ (M:=M1) (base:=w0.heap.size) bQ I5 rfl rfl rfl rfl ho B0 (aq _ _) (by have:=gw (xs.take k);rw[bH]at this;simp;omega) (by have:=gw (xs.take k);rw[bH]at this;simp;omega) (S.size) (fun T5 T6 ael PR B2=>?_);replace hv:=hv.le B2.le;replace B0:=B0.le B2.le;replace hM:=B2.lt hM;have:=S.size;replace S:=S.dg B2 ho (aT _);replace ho:=PR;refine ah rfl rfl (ab (ae (ad rfl rfl (bF rfl rfl rfl (by omega) (ah rfl rfl (ab ?_))))));refine⟨rfl,(k+1,T5),(.cons rfl (.cons rfl (.cons rfl .nil))),?_,?_⟩
       ·exact⟨T6,hM,S,by rw[tk,mu,aeb (by omega) hsc];exact ho,hv,by dsimp only;omega⟩
       ·dsimp only;omega
      ·refine ae (ad rfl rfl (ad rfl rfl (Rg.Ah rfl rfl rfl (by omega) (bF rfl rfl rfl (by omega) (sx ax cx rfl rfl (ad rfl rfl (Rg.Ah rfl rfl rfl (by omega) (Rg.BD rfl rfl rfl (by omega) (bF rfl rfl rfl (by omega) (sx ax cx rfl rfl (ad rfl rfl ?_)))))))))));refine Rg.Ah rfl rfl rfl (by omega) (Rg.BD rfl rfl rfl (by omega) (bF rfl rfl rfl (by omega) (sx ax cx rfl rfl (ad rfl rfl (Rg.BD rfl rfl rfl (by omega) (bF rfl rfl rfl (by omega) (sx ax cx rfl rfl ?_)))))));refine Rg.W2 (A:=RT.u8) (hn:=by decide) (M:=M1) (xs:=[(240+tU c/262144).toNat.toUInt8,(128+tU c/4096%64).toNat.toUInt8,(128+tU c/64%64).toNat.toUInt8,(128+tU c%64).toNat.toUInt8]) bQ I5 rfl (by decide) rfl ⟨_,_,_,rfl,rfl,rfl,rY (by omega),_,_,_,rfl,rfl,rfl,rY (by omega),_,_,_,rfl,rfl,rfl,rY (by omega),_,_,_,rfl,rfl,rfl,rY (by omega),rfl⟩ rfl hM (.inr ⟨rfl,rfl⟩) (by decide) (fun aem aen B3 B4=>?_);replace hv:=hv.le B4.le;replace ho:=ho.aP B4;replace hM:=B4.lt hM;have:=S.size;replace S:=S.aB B4;refine cZ (M:=M1) (base:=w0.heap.size) bQ I5 rfl rfl rfl rfl ho B3 (aq _ _) (by have:=gw (xs.take k);rw[bH]at this;simp;omega) (by have:=gw (xs.take k);rw[bH]at this;simp;omega) (S.size) (fun T7 T8 aeo PS B5=>?_);replace hv:=hv.le B5.le;replace B3:=B3.le B5.le;replace hM:=B5.lt hM;have:=S.size;replace S:=S.dg B5 ho (aT _);replace ho:=PS;refine ah rfl rfl (ab (ae (ad rfl rfl (bF rfl rfl rfl (by omega) (ah rfl rfl (ab ?_))))));refine⟨rfl,(k+1,T7),(.cons rfl (.cons rfl (.cons rfl .nil))),?_,?_⟩
       ·exact⟨T8,hM,S,by rw[tk,mu,aec (by omega)];exact ho,hv,by dsimp only;omega⟩
       ·dsimp only;omega
  ·refine cG (aj (ae (ad rfl rfl (Rg.b2s (hn:=by decide) (M:=M) bQ cx aJ rfl rfl (ho.close jM S (by have:=gw (xs.take k);rw[bH]at this;omega)) (aq _ _) (ah rfl rfl (ab (aO ?_)))))));have e:xs.take k=xs:=aW (by omega);rw[e];exact aS rfl rfl ⟨rfl,S.back⟩
end Go.K
namespace Go.K
open Go.Proofs
set_option maxRecDepth 10000
theorem Ga {M:aD} {l:List UInt8} (w0:World) (hM:Lt M w0) (hl:l.length≤1000000):
  Spec Tryz.prog 229 #[.string ⟨l.toArray⟩] w0 (fun v w=>((RT.int .i64).sl).V M w (fh l) v∧Step M w0 M w aC):=by
 have jM:=hM;refine bc (args:=[_]) (fn:=Tryz.f229) Tryz.func229 rfl (n:=17) Tryz.ntmps229 ?_;have S:Step M w0 M w0 aC:=(aw _ _).cA (fun _ h=>h.elim) (fun _ h=>h.elim);refine aj (ae (ah rfl rfl (ab (aj (ae (ah rfl rfl (ab (aj (aj (ae (ad rfl rfl ?_)))))))))));refine Rg.Ld M aJ rfl rfl (fun Lo aog aoh aoi aep T9=>?_);obtain⟨RE,Lq⟩:∃M',M'=ins M Lo:=⟨_,rfl⟩;rw[←Lq]at T9;have Ua:RE Lo:=by rw[Lq];exact .inl rfl
 replace hM:=T9.lt hM;have:=S.size;replace S:=S.aB T9;refine ab (aZ ?_);refine de (σ:=Nat×List Int×Value) (fun q=>[(3,q.2.2),(7,.pointer (some ⟨Lo,0,none⟩))]) (fun q w=>∃M',Lt M' w∧Step M w0 M' w aC∧w.heap[Lo]? =some (.stringIter ⟨l.toArray⟩ q.1)∧M' Lo∧Own (RT.int .i64) 3 M' w w0.heap.size q.2.2 q.2.1∧fh l=q.2.1++fh (l.drop q.1)∧q.1≤l.length) (fun q=>l.length-q.1) (0,[],.slice none 0 0) (.cons rfl (.cons rfl .nil)) ?_ ?_
 ·exact⟨RE,hM,S,aep,Ua,dF _ _ _ _ _,by simp,by simp⟩
 ·rintro⟨p,xs,u⟩ w ⟨M1,hM,S,g,A1,ho,yE,hp⟩;dsimp only at g ho yE hp ⊢;refine aj (ae ?_);refine Rg.PG (M:=M1) rfl g A1 rfl (fun aeq aoj aer Lr=>?_) (fun aeq=>?_)
  ·have:=ak g;replace A1:=(Lr.mem _ this).2 A1;replace ho:=ho.step Lr (fun b hb hk=>ho.eg g (hk▸hb));replace hM:=Lr.lt hM;have:=S.size;replace S:=S.trans Lr (fun k hk h=>by have h:_=_:=h;subst h;first|(exfalso;omega)|(show _≤_;omega)|exact⟨by first|omega|assumption,(S.mem _ hk).1 ((Lr.mem _ (ak g)).1 A1)⟩|exact .inl rfl|exact .inr rfl|exact .inr (.inl rfl)|exact .inr (.inr rfl)|exact .inr (.inr (.inl rfl))|exact rfl);have g_:=aer;clear g;have g:=g_;clear g_;refine bW rfl rfl rfl (ab (aj (nQ rfl (aU (aZ (aj (ae (bW rfl rfl rfl (ah rfl rfl (ab (ae ?_)))))))))));refine ad rfl rfl (ad rfl rfl (Rg.uZ Tryz.underlying21 ax rfl rfl (by have:=vC (l.drop p);omega) ?_));refine ed (A:=RT.int .i64) (hn:=by decide) (M:=M1) an I3 (by decide) rfl rfl hM (fV (by have:=vC (l.drop p);omega)) (.inr ⟨rfl,rfl⟩) (fun aes Yo HO xu=>?_);have:=ak g;replace A1:=(xu.mem _ this).2 A1;replace g:=xu.aK g;replace ho:=ho.aP xu;replace hM:=xu.lt hM;have:=S.size;replace S:=S.aB xu;refine cZ (M:=M1) (base:=w0.heap.size) an I3 rfl rfl rfl rfl ho HO (aq _ _) (by simp;have:=iV l;rw[yE]at this;simp at this;omega) (by simp;have:=iV l;rw[yE]at this;simp at this;omega) (S.size) (fun aet aeu aok Yp Ls=>?_);have:=ak g;replace A1:=(Ls.mem _ this).2 A1;replace g:=Ls.keep g (fun h=>by first|exact ho.eg g h|exact ho.eI g (by decide) h|(have:=(ho.base _ h).1;omega));replace HO:=HO.le Ls.le;replace hM:=Ls.lt hM;have:=S.size;replace S:=S.dg Ls ho (aT _);replace ho:=Yp;refine ah rfl rfl (ab ?_);have eK:l.drop p≠[]:=by intro h;have:=congrArg List.length h;simp at this;omega
   refine⟨rfl,(p+(dec (l.drop p)).2,xs++[((dec (l.drop p)).1:Int)],aet),(.cons rfl (.cons rfl .nil)),?_,?_⟩
   ·refine⟨aeu,hM,S,g,A1,ho,?_,?_⟩
    ·rw[yE,ta eK,List.drop_drop];simp
    ·have:=(lX eK).2;rw[du]at this;dsimp only;omega
   ·have:=(lX eK).1;have:=(lX eK).2;rw[du]at this;dsimp only;omega
  ·refine bW rfl rfl rfl (ab (aj (jE rfl (cG (aj (ae (ad rfl rfl (ah rfl rfl (ab (aO ?_))))))))));have e:fh l=xs:=by rw[yE,gO (by omega),vD];simp
   rw[e];have:=iV l;rw[e]at this;exact aS rfl rfl ⟨ho.close jM S (by omega),S.back⟩
def fW (p:List Int×List (List UInt8)) (c:Int):List Int×List (List UInt8):=
 if fF c=true∨o6 c=true then(p.1++[fI c],p.2)else if 0<p.1.length then([],p.2++[kI p.1])else([],p.2)
structure Lu (M:aD) (w:World) (B bo bs:Nat) (p:List Int×List (List UInt8)):Prop where
 a:∃u,w.heap[bo]? =some (.cells #[u] 37 (0,0))∧Own (RT.int .i64) 3 M w B u p.1
 b:∃u,w.heap[bs]? =some (.cells #[u] 57 (0,0))∧Own RT.str 9 M w B u p.2
 m:M bo∧M bs∧B≤bo∧B≤bs
theorem qw {c:Int} (h:fF c=true∨o6 c=true):0≤c∧c≤1114111:=by
 simp only[fF,o6,decide_eq_true_eq]at h;omega
theorem yG {M:aD} {B bo bs:Nat} {p:List Int×List (List UInt8)} (w0:World) (hM:Lt M w0) (c:Int) (ht:Lu M w0 B bo bs p) (hl:p.1.length≤1000000∧p.2.length≤1000000):
  Spec Tryz.prog 224 #[.int .i64 c,.pointer (some ⟨bo,0,none⟩),.pointer (some ⟨bs,0,none⟩)] w0 (fun v w=>∃M',Lt M' w∧Lu M' w B bo bs (fW p c)∧Step M w0 M' w (lJ M B)):=by
 obtain⟨⟨uo,go,ho⟩,⟨us,gs,hs⟩,ib,iQ,W9,Xa⟩:=ht;obtain⟨own,out⟩:=p;dsimp only at ho hs hl ⊢;have eK:bo≠bs:=fun e=>by subst e;rw[go]at gs;cases gs
 refine bc (args:=[_,_,_]) (fn:=Tryz.f224) Tryz.func224 rfl (n:=23) Tryz.ntmps224 ?_;have S:Step M w0 M w0 (lJ M B):=(aw _ _).cA (fun _ h=>h.elim) (fun _ h=>h.2);refine aj (aj (ae (ad rfl rfl ?_)));refine aX rfl rfl adO (Dq _ _) (fun r wc hc=>?_);obtain⟨rfl,rfl⟩:=hc;refine aV (v':= .bool (decide (fF c=true))) (by cases fF c<;>rfl) (ad rfl rfl ?_);refine aQ (g:=6) rfl (fun aev=>?_) (fun aev=>?_)
 ·refine au rfl rfl rfl rfl (au rfl rfl rfl rfl (aY rfl rfl rfl (ab (nQ rfl (aj ?_)))));apply T.pJ 2 [0] 2 aC mixed rfl rfl rfl rfl;intro Fv Lv;have lY:=Lv M;have:=ak go;replace ib:=(lY.mem _ this).2 ib;replace go:=lY.aK go;have:=ak gs;replace iQ:=(lY.mem _ this).2 iQ;replace gs:=lY.aK gs;replace ho:=ho.aP lY;replace hs:=hs.aP lY;replace hM:=lY.lt hM;have:=S.size;replace S:=S.aB lY;refine aM an rfl rfl rfl (by first|assumption|exact cW lY (by assumption)) rfl ?_;refine ab ⟨rfl,rfl,rfl,?_⟩;refine ad rfl rfl ?_;refine ab ⟨rfl,rfl,rfl,?_⟩;refine ew ?_;refine⟨iB ⟨ey rfl (by assumption) (by first|assumption|exact fun h=>h|(intro h;have h:_=_:=h;omega)),trivial⟩,?_⟩;have kp:=jF aC Fv;have Gb:fF c=true∨o6 c=true:=by first|exact .inl (by assumption)|exact .inr (by assumption)
  refine aX rfl rfl X8 (AZ c _ (qw Gb)) (fun r wc hc=>?_);obtain⟨rfl,rfl⟩:=hc;refine(fun(kp:eF _ _ _)=>ab ⟨rfl,rfl,fun _=>kp,?_⟩) (by first|exact kp|exact kp.rB (by assumption)|exact kp.goN (by assumption)|exact kp.go (by assumption) (fun _ _ h=>by first|exact h|exact h.elim));refine ed (A:=RT.int .i64) (hn:=by decide) (M:=M) an I3 (by decide) rfl rfl hM (fV (by have:=qw Gb;unfold fI;split<;>omega)) (.inr ⟨rfl,rfl⟩) (fun PT Ja kJ s1_3=>?_);have:=ak go;replace ib:=(s1_3.mem _ this).2 ib;replace go:=s1_3.aK go;have:=ak gs;replace iQ:=(s1_3.mem _ this).2 iQ;replace gs:=s1_3.aK gs;replace ho:=ho.aP s1_3;replace hs:=hs.aP s1_3;replace hM:=s1_3.lt hM;have:=S.size;replace S:=S.aB s1_3;refine(fun(kp:eF _ _ _)=>ab ⟨rfl,rfl,fun _=>kp,?_⟩) (by first|exact kp|exact kp.rB (by assumption)|exact kp.goN (by assumption)|exact kp.go (by assumption) (fun _ _ h=>by first|exact h|exact h.elim));refine cZ (M:=M) (base:=B) an I3 rfl rfl rfl rfl ho kJ (aq _ _) (by simp;omega) (by simp;omega) (by have:=ak go;omega) (fun Ub Lw Uc Lx mz=>?_);have:=ak go;replace ib:=(mz.mem _ this).2 ib;replace go:=mz.keep go (fun h=>by first|exact ho.eg go h|exact ho.eI go (by decide) h|(have:=(ho.base _ h).1;omega));have:=ak gs;replace iQ:=(mz.mem _ this).2 iQ;replace gs:=mz.keep gs (fun h=>by first|exact ho.eg gs h|exact ho.eI gs (by decide) h|(have:=(ho.base _ h).1;omega));replace kJ:=kJ.le mz.le;replace hs:=hs.step mz (fun b h1 h2=>hs.dz ho (by decide) h1 h2);replace hM:=mz.lt hM;have:=S.size;replace S:=S.trans mz (fun b hb h=>⟨(ho.base b h).1,(S.mem b hb).1 (ho.mut_ b h)⟩);replace ho:=Lx;refine ab ⟨rfl,rfl,fun h=>absurd rfl h,?_⟩;refine cu (M:=Lw) jL rfl rfl go rfl ((by obtain⟨_,_,he,_⟩:=ho.isSlice;rw[he];rfl)) ib (fun Ud o7 o8=>?_);change Ud.heap[_]? =some (Obj.cells #[Ub] _ _)at o7
  have:=ak go;replace ib:=(o8.mem _ this).2 ib;have:=ak gs;replace iQ:=(o8.mem _ this).2 iQ;replace gs:=o8.keep gs (fun hk=>by have hk:_=_:=hk;omega);replace kJ:=kJ.le o8.le;replace ho:=ho.step o8 (fun b hb hk=>by have hk:b=_:=hk;subst hk;first|exact absurd hb (ho.eI go (by decide))|exact absurd hb (ho.eI gs (by decide)));replace hs:=hs.step o8 (fun b hb hk=>by have hk:b=_:=hk;subst hk;first|exact absurd hb (hs.eI go (by decide))|exact absurd hb (hs.eI gs (by decide)));replace hM:=o8.lt hM;have:=S.size;replace S:=S.trans o8 (fun k hk h=>by have h:_=_:=h;subst h;first|(exfalso;omega)|(show _≤_;omega)|exact⟨by first|omega|assumption,(S.mem _ hk).1 ((o8.mem _ (ak go)).1 ib)⟩|exact .inl rfl|exact .inr rfl|exact .inr (.inl rfl)|exact .inr (.inr rfl)|exact .inr (.inr (.inl rfl))|exact rfl);have Ly:=o7;clear go;have go:=Ly;clear Ly;refine ab ⟨rfl,rfl,fun h=>absurd rfl h,?_⟩;refine mN (aO ?_);rw[show fW (own,out) c=(own++[fI c],out)from if_pos Gb];exact CZ rfl ⟨Lw,hM,⟨⟨_,go,ho⟩,⟨_,gs,hs⟩,ib,iQ,W9,Xa⟩,S⟩
 ·refine al rfl rfl (ad rfl rfl (al rfl rfl ?_));refine aX rfl rfl adP (F3 _ _) (fun r wc hc=>?_);obtain⟨rfl,rfl⟩:=hc;refine aV (v':= .bool (decide (o6 c=true))) (by cases o6 c<;>rfl) (aE rfl rfl rfl (ab ?_));refine bN rfl (fun c0=>?_) (fun c0=>?_)
  ·refine aj ?_;apply T.pJ 2 [0] 2 aC mixed rfl rfl rfl rfl;intro Fv Lv;have lY:=Lv M;have:=ak go;replace ib:=(lY.mem _ this).2 ib;replace go:=lY.aK go;have:=ak gs;replace iQ:=(lY.mem _ this).2 iQ;replace gs:=lY.aK gs;replace ho:=ho.aP lY;replace hs:=hs.aP lY;replace hM:=lY.lt hM;have:=S.size;replace S:=S.aB lY;refine aM an rfl rfl rfl (by first|assumption|exact cW lY (by assumption)) rfl ?_;refine ab ⟨rfl,rfl,rfl,?_⟩;refine ad rfl rfl ?_;refine ab ⟨rfl,rfl,rfl,?_⟩;refine ew ?_;refine⟨iB ⟨ey rfl (by assumption) (by first|assumption|exact fun h=>h|(intro h;have h:_=_:=h;omega)),trivial⟩,?_⟩;have kp:=jF aC Fv;have Gb:fF c=true∨o6 c=true:=by first|exact .inl (by assumption)|exact .inr (by assumption)
   refine aX rfl rfl X8 (AZ c _ (qw Gb)) (fun r wc hc=>?_);obtain⟨rfl,rfl⟩:=hc;refine(fun(kp:eF _ _ _)=>ab ⟨rfl,rfl,fun _=>kp,?_⟩) (by first|exact kp|exact kp.rB (by assumption)|exact kp.goN (by assumption)|exact kp.go (by assumption) (fun _ _ h=>by first|exact h|exact h.elim));refine ed (A:=RT.int .i64) (hn:=by decide) (M:=M) an I3 (by decide) rfl rfl hM (fV (by have:=qw Gb;unfold fI;split<;>omega)) (.inr ⟨rfl,rfl⟩) (fun PT Ja kJ s1_3=>?_);have:=ak go;replace ib:=(s1_3.mem _ this).2 ib;replace go:=s1_3.aK go;have:=ak gs;replace iQ:=(s1_3.mem _ this).2 iQ;replace gs:=s1_3.aK gs;replace ho:=ho.aP s1_3;replace hs:=hs.aP s1_3;replace hM:=s1_3.lt hM;have:=S.size;replace S:=S.aB s1_3;refine(fun(kp:eF _ _ _)=>ab ⟨rfl,rfl,fun _=>kp,?_⟩) (by first|exact kp|exact kp.rB (by assumption)|exact kp.goN (by assumption)|exact kp.go (by assumption) (fun _ _ h=>by first|exact h|exact h.elim));refine cZ (M:=M) (base:=B) an I3 rfl rfl rfl rfl ho kJ (aq _ _) (by simp;omega) (by simp;omega) (by have:=ak go;omega) (fun Ub Lw Uc Lx mz=>?_);have:=ak go;replace ib:=(mz.mem _ this).2 ib;replace go:=mz.keep go (fun h=>by first|exact ho.eg go h|exact ho.eI go (by decide) h|(have:=(ho.base _ h).1;omega));have:=ak gs;replace iQ:=(mz.mem _ this).2 iQ;replace gs:=mz.keep gs (fun h=>by first|exact ho.eg gs h|exact ho.eI gs (by decide) h|(have:=(ho.base _ h).1;omega));replace kJ:=kJ.le mz.le;replace hs:=hs.step mz (fun b h1 h2=>hs.dz ho (by decide) h1 h2);replace hM:=mz.lt hM;have:=S.size;replace S:=S.trans mz (fun b hb h=>⟨(ho.base b h).1,(S.mem b hb).1 (ho.mut_ b h)⟩);replace ho:=Lx;refine ab ⟨rfl,rfl,fun h=>absurd rfl h,?_⟩;refine cu (M:=Lw) jL rfl rfl go rfl ((by obtain⟨_,_,he,_⟩:=ho.isSlice;rw[he];rfl)) ib (fun Ud o7 o8=>?_);change Ud.heap[_]? =some (Obj.cells #[Ub] _ _)at o7
   have:=ak go;replace ib:=(o8.mem _ this).2 ib;have:=ak gs;replace iQ:=(o8.mem _ this).2 iQ;replace gs:=o8.keep gs (fun hk=>by have hk:_=_:=hk;omega);replace kJ:=kJ.le o8.le;replace ho:=ho.step o8 (fun b hb hk=>by have hk:b=_:=hk;subst hk;first|exact absurd hb (ho.eI go (by decide))|exact absurd hb (ho.eI gs (by decide)));replace hs:=hs.step o8 (fun b hb hk=>by have hk:b=_:=hk;subst hk;first|exact absurd hb (hs.eI go (by decide))|exact absurd hb (hs.eI gs (by decide)));replace hM:=o8.lt hM;have:=S.size;replace S:=S.trans o8 (fun k hk h=>by have h:_=_:=h;subst h;first|(exfalso;omega)|(show _≤_;omega)|exact⟨by first|omega|assumption,(S.mem _ hk).1 ((o8.mem _ (ak go)).1 ib)⟩|exact .inl rfl|exact .inr rfl|exact .inr (.inl rfl)|exact .inr (.inr rfl)|exact .inr (.inr (.inl rfl))|exact rfl);have Ly:=o7;clear go;have go:=Ly;clear Ly;refine ab ⟨rfl,rfl,fun h=>absurd rfl h,?_⟩;refine mN (aO ?_);rw[show fW (own,out) c=(own++[fI c],out)from if_pos Gb];exact CZ rfl ⟨Lw,hM,⟨⟨_,go,ho⟩,⟨_,gs,hs⟩,ib,iQ,W9,Xa⟩,S⟩
  ·refine aU (aj (aj (ae (aM an rfl rfl rfl (by assumption) rfl (fM an rfl ho rfl (jd rfl rfl rfl (ab ?_)))))));refine bN rfl (fun c2=>?_) (fun c2=>?_)
   ·apply T.pJ 2 [0] 2 aC mixed rfl rfl rfl rfl;intro Yq RF;have qX:=RF M;have:=ak go;replace ib:=(qX.mem _ this).2 ib;replace go:=qX.aK go;have:=ak gs;replace iQ:=(qX.mem _ this).2 iQ;replace gs:=qX.aK gs;replace ho:=ho.aP qX;replace hs:=hs.aP qX;replace hM:=qX.lt hM;have:=S.size;replace S:=S.aB qX;refine aM aI rfl rfl rfl (by first|assumption|exact cW qX (by assumption)) rfl ?_;refine ab ⟨rfl,rfl,rfl,?_⟩;refine aM an rfl rfl rfl (by first|assumption|exact cW qX (by assumption)) rfl ?_;refine ab ⟨rfl,rfl,rfl,?_⟩;refine ew ?_;refine⟨iB ⟨ey rfl (by assumption) (by first|assumption|exact fun h=>h|(intro h;have h:_=_:=h;omega)),trivial⟩,?_⟩;have kp:=jF aC Yq;refine aX rfl rfl adQ (I6 (M:=rm M uo) _ (fun b hb=>hM b hb.1) (ho.view (by omega)) (by omega)) (fun r3 w3 hc=>?_);obtain⟨rfl,s3⟩:=hc;replace s3:=s3.any M;have:=ak go;replace ib:=(s3.mem _ this).2 ib;replace go:=s3.aK go;have:=ak gs;replace iQ:=(s3.mem _ this).2 iQ;replace gs:=s3.aK gs;replace ho:=ho.aP s3;replace hs:=hs.aP s3;replace hM:=s3.lt hM;have:=S.size;replace S:=S.aB s3;refine(fun(kp:eF _ _ _)=>ab ⟨rfl,rfl,fun _=>kp,?_⟩) (by first|exact kp|exact kp.rB (by assumption)|exact kp.goN (by assumption)|exact kp.go (by assumption) (fun _ _ h=>by first|exact h|exact h.elim));refine ed (A:=RT.str) (hn:=by decide) (M:=M) aI I9 (by decide) rfl rfl hM (kG.2 ⟨rfl,by have:=gw own;omega⟩) (.inr ⟨rfl,rfl⟩) (fun aol aom yH Dx=>?_);have:=ak go;replace ib:=(Dx.mem _ this).2 ib;replace go:=Dx.aK go;have:=ak gs;replace iQ:=(Dx.mem _ this).2 iQ;replace gs:=Dx.aK gs;replace ho:=ho.aP Dx;replace hs:=hs.aP Dx;replace hM:=Dx.lt hM;have:=S.size;replace S:=S.aB Dx;refine(fun(kp:eF _ _ _)=>ab ⟨rfl,rfl,fun _=>kp,?_⟩) (by first|exact kp|exact kp.rB (by assumption)|exact kp.goN (by assumption)|exact kp.go (by assumption) (fun _ _ h=>by first|exact h|exact h.elim))
    refine cZ (M:=M) (base:=B) aI I9 rfl rfl rfl rfl hs yH (aq _ _) (by simp;omega) (by simp;omega) (by have:=ak go;omega) (fun aew Yr Ys Yt mW=>?_);have:=ak go;replace ib:=(mW.mem _ this).2 ib;replace go:=mW.keep go (fun h=>by first|exact hs.eg go h|exact hs.eI go (by decide) h|(have:=(hs.base _ h).1;omega));have:=ak gs;replace iQ:=(mW.mem _ this).2 iQ;replace gs:=mW.keep gs (fun h=>by first|exact hs.eg gs h|exact hs.eI gs (by decide) h|(have:=(hs.base _ h).1;omega));replace yH:=yH.le mW.le;replace ho:=ho.step mW (fun b h1 h2=>ho.dz hs (by decide) h1 h2);replace hM:=mW.lt hM;have:=S.size;replace S:=S.trans mW (fun b hb h=>⟨(hs.base b h).1,(S.mem b hb).1 (hs.mut_ b h)⟩);replace hs:=Yt;refine ab ⟨rfl,rfl,fun h=>absurd rfl h,?_⟩;refine cu (M:=Yr) xN rfl rfl gs rfl ((by obtain⟨_,_,he,_⟩:=hs.isSlice;rw[he];rfl)) iQ (fun Ue kF ly=>?_);change Ue.heap[_]? =some (Obj.cells #[aew] _ _)at kF;have:=ak go;replace ib:=(ly.mem _ this).2 ib;replace go:=ly.keep go (fun hk=>by have hk:_=_:=hk;omega);have:=ak gs;replace iQ:=(ly.mem _ this).2 iQ;replace yH:=yH.le ly.le;replace ho:=ho.step ly (fun b hb hk=>by have hk:b=_:=hk;subst hk;first|exact absurd hb (ho.eI go (by decide))|exact absurd hb (ho.eI gs (by decide)));replace hs:=hs.step ly (fun b hb hk=>by have hk:b=_:=hk;subst hk;first|exact absurd hb (hs.eI go (by decide))|exact absurd hb (hs.eI gs (by decide)));replace hM:=ly.lt hM;have:=S.size;replace S:=S.trans ly (fun k hk h=>by have h:_=_:=h;subst h;first|(exfalso;omega)|(show _≤_;omega)|exact⟨by first|omega|assumption,(S.mem _ hk).1 ((ly.mem _ (ak gs)).1 iQ)⟩|exact .inl rfl|exact .inr rfl|exact .inr (.inl rfl)|exact .inr (.inr rfl)|exact .inr (.inr (.inl rfl))|exact rfl);have gs_:=kF;clear gs;have gs:=gs_;clear gs_;refine ab ⟨rfl,rfl,fun h=>absurd rfl h,?_⟩;refine mN (ae ?_)
    refine cu (M:=Yr) jL rfl rfl go rfl (rfl) ib (fun Lz Dy lz=>?_);change Lz.heap[_]? =some (Obj.cells #[.slice none 0 0] _ _)at Dy;have:=ak go;replace ib:=(lz.mem _ this).2 ib;have:=ak gs;replace iQ:=(lz.mem _ this).2 iQ;replace gs:=lz.keep gs (fun hk=>by have hk:_=_:=hk;omega);replace yH:=yH.le lz.le;replace ho:=ho.step lz (fun b hb hk=>by have hk:b=_:=hk;subst hk;first|exact absurd hb (ho.eI go (by decide))|exact absurd hb (ho.eI gs (by decide)));replace hs:=hs.step lz (fun b hb hk=>by have hk:b=_:=hk;subst hk;first|exact absurd hb (hs.eI go (by decide))|exact absurd hb (hs.eI gs (by decide)));replace hM:=lz.lt hM;have:=S.size;replace S:=S.trans lz (fun k hk h=>by have h:_=_:=h;subst h;first|(exfalso;omega)|(show _≤_;omega)|exact⟨by first|omega|assumption,(S.mem _ hk).1 ((lz.mem _ (ak go)).1 ib)⟩|exact .inl rfl|exact .inr rfl|exact .inr (.inl rfl)|exact .inr (.inr rfl)|exact .inr (.inr (.inl rfl))|exact rfl);have Ly:=Dy;clear go;have go:=Ly;clear Ly;refine ab ?_
    first|refine rq ?_|simp+decide only[ru,jx,if_true,if_false]|skip
    have Xb: ¬(fF c=true∨o6 c=true):=by rintro(h|h)<;>exact absurd h (by assumption)
    first
    |rw[show fW (own,out) c=([],out++[kI own])from(if_neg Xb).trans (if_pos (by show 0<own.length;omega))]
     exact fR rfl ⟨_,hM,⟨⟨_,go,dF _ _ _ _ _⟩,⟨_,gs,hs⟩,ib,iQ,W9,Xa⟩,S⟩
    |rw[show fW (own,out) c=([],out)from(if_neg Xb).trans (if_neg (by show¬0<own.length;omega))]
     exact fR rfl ⟨_,hM,⟨⟨_,go,dF _ _ _ _ _⟩,⟨_,gs,hs⟩,ib,iQ,W9,Xa⟩,S⟩
   ·refine aU (ae ?_);refine cu (M:=M) jL rfl rfl go rfl (rfl) ib (fun Lz Dy lz=>?_);change Lz.heap[_]? =some (Obj.cells #[.slice none 0 0] _ _)at Dy;have:=ak go;replace ib:=(lz.mem _ this).2 ib;have:=ak gs;replace iQ:=(lz.mem _ this).2 iQ;replace gs:=lz.keep gs (fun hk=>by have hk:_=_:=hk;omega);replace ho:=ho.step lz (fun b hb hk=>by have hk:b=_:=hk;subst hk;first|exact absurd hb (ho.eI go (by decide))|exact absurd hb (ho.eI gs (by decide)));replace hs:=hs.step lz (fun b hb hk=>by have hk:b=_:=hk;subst hk;first|exact absurd hb (hs.eI go (by decide))|exact absurd hb (hs.eI gs (by decide)));replace hM:=lz.lt hM;have:=S.size;replace S:=S.trans lz (fun k hk h=>by have h:_=_:=h;subst h;first|(exfalso;omega)|(show _≤_;omega)|exact⟨by first|omega|assumption,(S.mem _ hk).1 ((lz.mem _ (ak go)).1 ib)⟩|exact .inl rfl|exact .inr rfl|exact .inr (.inl rfl)|exact .inr (.inr rfl)|exact .inr (.inr (.inl rfl))|exact rfl);have Ly:=Dy;clear go;have go:=Ly;clear Ly;refine ab ?_
    first|refine rq ?_|simp+decide only[ru,jx,if_true,if_false]|skip
    have Xb: ¬(fF c=true∨o6 c=true):=by rintro(h|h)<;>exact absurd h (by assumption)
    first
    |rw[show fW (own,out) c=([],out++[kI own])from(if_neg Xb).trans (if_pos (by show 0<own.length;omega))]
     exact fR rfl ⟨_,hM,⟨⟨_,go,dF _ _ _ _ _⟩,⟨_,gs,hs⟩,ib,iQ,W9,Xa⟩,S⟩
    |rw[show fW (own,out) c=([],out)from(if_neg Xb).trans (if_neg (by show¬0<own.length;omega))]
     exact fR rfl ⟨_,hM,⟨⟨_,go,dF _ _ _ _ _⟩,⟨_,gs,hs⟩,ib,iQ,W9,Xa⟩,S⟩
theorem om (l:List Int):∀p,(l.foldl fW p).1.length≤p.1.length+l.length∧(l.foldl fW p).2.length≤p.2.length+l.length:=by
 induction l with
 |nil=>intro p;simp
 |cons c l ih=>
  intro p;have:=ih (fW p c)
  have h1:(fW p c).1.length≤p.1.length+1∧(fW p c).2.length≤p.2.length+1:=by
   unfold fW
   split
   ·simp
   ·split<;>simp
  simp only[List.foldl_cons,cM];omega
def words (l:List UInt8):List (List UInt8):=((fh l++[32]).foldl fW ([],[])).2
theorem qY (l:List UInt8):(words l).length≤l.length+1:=by
 have h:=(om (fh l++[32]) ([],[])).2;have h2:=iV l;rw[bj]at h;have h3:([]:List (List UInt8)).length=0:=rfl;have h4: [(32:Int)].length=1:=rfl;unfold words;simp only[h3,h4]at h;omega
theorem yI {M:aD} {l:List UInt8} (w0:World) (hM:Lt M w0) (hl:l.length≤900000):
  Spec Tryz.prog 183 #[.string ⟨l.toArray⟩] w0 (fun v w=>(RT.str.sl).V M w (words l) v∧Step M w0 M w aC):=by
 have jM:=hM;refine bc (args:=[_]) (fn:=Tryz.f183) Tryz.func183 rfl (n:=23) Tryz.ntmps183 ?_;have S:Step M w0 M w0 aC:=(aw _ _).cA (fun _ h=>h.elim) (fun _ h=>h.elim);refine aj (ae (ah rfl rfl (ab (aj (ae ?_)))));refine dP M xN rfl (fun mA Dz Uf Ug jU nF=>?_);obtain⟨lg,mB⟩:∃M',M'=ins M mA:=⟨_,rfl⟩;rw[←mB]at nF;have iM:lg mA:=by rw[mB];exact .inl rfl
 change Dz.heap[mA]? =some (.cells #[.slice none 0 0] _ _)at jU;replace hM:=nF.lt hM;have:=S.size;replace S:=S.aB nF;refine ab (aj (ae ?_));refine dP lg jL rfl (fun gL Uh aex aey DA yJ=>?_);obtain⟨LA,yK⟩:∃M',M'=ins lg gL:=⟨_,rfl⟩;rw[←yK]at yJ;have yL:LA gL:=by rw[yK];exact .inl rfl
 change Uh.heap[gL]? =some (.cells #[.slice none 0 0] _ _)at DA;have:=ak jU;replace iM:=(yJ.mem _ this).2 iM;replace jU:=yJ.aK jU;replace hM:=yJ.lt hM;have:=S.size;replace S:=S.aB yJ;refine ab (aj (ae (kb (xs:=[]) (ys:=[.tmp 4,.tmp 3]) rfl rfl rfl (ah rfl rfl (ab (aj (aj (ae (ad rfl rfl ?_)))))))));refine aX rfl rfl adR (Ga _ hM (by omega)) (fun v4 w4 hc=>?_);obtain⟨yE,s4⟩:=hc;have:=ak jU;replace iM:=(s4.mem _ this).2 iM;replace jU:=s4.aK jU;have:=ak DA;replace yL:=(s4.mem _ this).2 yL;replace DA:=s4.aK DA;replace hM:=s4.lt hM;have:=S.size;replace S:=S.aB s4;refine bM an rfl yE rfl (ad rfl rfl (ab (aZ ?_)));refine de (σ:=Nat) (fun k=>[(3,.pointer (some ⟨mA,0,none⟩)),(5,.func (.func 224) #[] #[.pointer (some ⟨gL,0,none⟩),.pointer (some ⟨mA,0,none⟩)]),(10,v4),(11,.int .i64 ((fh l).length:Int)),(12,.int .i64 (k:Int))]) (fun k w=>∃M',Lt M' w∧Step M w0 M' w aC∧Lu M' w w0.heap.size gL mA (((fh l).take k).foldl fW ([],[]))∧((RT.int .i64).sl).V M' w (fh l) v4∧k≤(fh l).length) (fun k=>(fh l).length-k) 0 (.cons rfl (.cons rfl (.cons rfl (.cons rfl (.cons rfl .nil))))) ?_ ?_
 ·exact⟨_,hM,S,⟨⟨_,DA,dF _ _ _ _ _⟩,⟨_,jU,dF _ _ _ _ _⟩,yL,iM,by omega,by omega⟩,yE,bE _⟩
 ·rintro k w ⟨M1,hM,S,ht,yE,hk⟩;refine aj (ae (cj rfl rfl rfl (ab (aj ?_))));refine bN rfl (fun c5=>?_) (fun c5=>?_)
  ·refine aU (aj (aZ (aj (ae ?_))));refine cy (M:=M1) an I3 rfl rfl rfl yE (aq _ _) (by omega) (fun u6 c Kg Gc=>?_);refine cb (M:=M1) ax rfl rfl Gc (aq _ _) (fun in6=>?_);refine ah rfl rfl (ab (ae (ad rfl rfl (ad rfl rfl ?_))));have nC:=iV l;have OY:=om ((fh l).take k) ([],[]);rw[bH]at OY;refine rr (first:=[]) (captured:=[.pointer (some ⟨gL,0,none⟩),.pointer (some ⟨mA,0,none⟩)]) rfl rfl rfl X7 (yG (B:=w0.heap.size) _ hM c ht (by simp at OY;omega)) (fun r7 w7 hc=>?_);obtain⟨M2,Fw,Jb,s7⟩:=hc;have tk:(fh l).take (k+1)=(fh l).take k++[c]:=by rw[bK];simp only[ay]at Kg;rw[Kg];rfl
   refine ab (ae (bF rfl rfl rfl (by omega) (ad rfl rfl (ab ?_))));refine⟨rfl,k+1,(.cons rfl (.cons rfl (.cons rfl (.cons rfl (.cons rfl .nil))))),?_,?_⟩
   ·exact⟨M2,Fw,S.l4 s7 (aT _),by rw[tk,sy];exact Jb,yE.le s7.le,by omega⟩
   ·omega
  ·refine cG (aj (ae (ad rfl rfl ?_)));have nC:=iV l;have OY:=om ((fh l).take k) ([],[]);rw[bH]at OY;refine rr (first:=[]) (captured:=[.pointer (some ⟨gL,0,none⟩),.pointer (some ⟨mA,0,none⟩)]) rfl rfl rfl X7 (yG (B:=w0.heap.size) _ hM 32 ht (by simp at OY;omega)) (fun r9 w9 hc=>?_);obtain⟨M2,Fw,Jb,s9⟩:=hc;have e9:fW (((fh l).take k).foldl fW ([],[])) 32=(fh l++[32]).foldl fW ([],[]):=by rw[sy,aW (by omega)];rfl
   rw[e9]at Jb;obtain⟨_,⟨us,gs,hs⟩,_⟩:=Jb;replace S:=S.l4 s9 (aT _);refine ab (aj (ae (aM aI rfl rfl rfl gs rfl (ah rfl rfl (ab (aO ?_))))));exact aS rfl rfl ⟨xF jM S hs (by have:=qY l;omega),S.back⟩
end Go.K
namespace Go.K
open Go.Proofs
set_option maxRecDepth 10000
theorem LB {p:List Int×List (List UInt8)} {c:Int} (h:xO c=true):fW p c=(p.1++[fI c],p.2):=if_pos (by simpa[xO]using h)
theorem qZ {p:List Int×List (List UInt8)} {c:Int} (h:xO c=false):fW p c=if 0<p.1.length then([],p.2++[kI p.1])else([],p.2):=if_neg (by simpa[xO]using h)
def Kh (sg:List Int) (i:Nat) (ws:List (List UInt8)):Prop:=(i≤sg.length∧(sg.take i).foldl fW ([],[])=([],ws))∨(i=sg.length+1∧((sg++[32]).foldl fW ([],[])).2=ws)
theorem LC {c:Int} (h:xO c=true):0≤c∧c≤1114111:=qw (by simpa[xO]using h)
theorem Yu:xO 32=false:=by decide
theorem vH {sg:List Int} {i:Nat} {c:Int} (h:sg[i]? =some c) (p:List Int×List (List UInt8)):(sg.take (i+1)).foldl fW p=fW ((sg.take i).foldl fW p) c:=by
 rw[bK,h,cT,sy];rfl
theorem Kh.skip {sg:List Int} {i:Nat} {ws:List (List UInt8)} {c:Int} (h:Kh sg i ws) (hc:sg[i]? =some c) (hi:xO c=false):Kh sg (i+1) ws:=by
 have dR:=(ao.1 hc).1;rcases h with⟨_,h⟩|⟨h,_⟩
 ·exact .inl ⟨dR,by rw[vH hc,h,qZ hi];rfl⟩
 ·omega
theorem Kh.word {sg:List Int} {j:Nat} {own:List Int} {ws:List (List UInt8)} (h:(sg.take j).foldl fW ([],[])=(own,ws)) (ho:0<own.length) (hj:j≤sg.length) (hn:∀c,sg[j]? =some c→xO c=false):Kh sg (j+1) (ws++[kI own]):=by
 rcases lr hj with e|dR
 ·refine .inr ⟨by omega,?_⟩;rw[e,List.take_length]at h;rw[sy,h];show(fW (own,ws) 32).2=_;rw[qZ Yu,if_pos ho]
 ·have hc:sg[j]? =some sg[j]:=ar dR;exact .inl ⟨dR,by rw[vH hc,h,qZ (hn _ hc),if_pos ho]⟩
theorem Kh.done {sg:List Int} {i:Nat} {ws:List (List UInt8)} (h:Kh sg i ws) (hi:sg.length≤i):((sg++[32]).foldl fW ([],[])).2=ws:=by
 rcases h with⟨h1,h⟩|⟨_,h⟩
 ·rw[aW (by omega)]at h;rw[sy,h];show(fW ([],ws) 32).2=_;rw[qZ Yu];rfl
 ·exact h
theorem Kh.len {sg:List Int} {i:Nat} {ws:List (List UInt8)} (h:Kh sg i ws):ws.length≤sg.length+1:=by
 rcases h with⟨_,h⟩|⟨_,h⟩
 ·have:=(om (sg.take i) ([],[])).2;rw[h,bH]at this;simp only[jZ]at this;have e:(([]:List Int),([]:List (List UInt8))).2.length=0:=rfl;omega
 ·have:=(om (sg++[32]) ([],[])).2;rw[h,bj]at this;have e:(([]:List Int),([]:List (List UInt8))).2.length=0:=rfl;have e2: [(32:Int)].length=1:=rfl;omega
theorem hU {sg:List Int} {j:Nat} {own:List Int} {ws:List (List UInt8)} (h:(sg.take j).foldl fW ([],[])=(own,ws)):own.length≤sg.length∧ws.length≤sg.length:=by
 have:=om (sg.take j) ([],[]);rw[h,bH]at this;simp only[jZ]at this;have e:(([]:List Int),([]:List (List UInt8))).1.length=0:=rfl;have e2:(([]:List Int),([]:List (List UInt8))).2.length=0:=rfl;omega
theorem DB {M:aD} {l:List UInt8} (w0:World) (hM:Lt M w0) (hl:l.length≤900000):
  Spec Tryz.prog 201 #[.string ⟨l.toArray⟩] w0 (fun v w=>(RT.str.sl).V M w (words l) v∧Step M w0 M w aC):=by
 have jM:=hM;have nC:=iV l;refine bc (args:=[_]) (fn:=Tryz.f201) Tryz.func201 rfl (n:=50) Tryz.ntmps201 ?_;have S:Step M w0 M w0 aC:=(aw _ _).cA (fun _ h=>h.elim) (fun _ h=>h.elim);refine aj (ae (ah rfl rfl (ab (aj (ae (ad rfl rfl ?_))))));refine aX rfl rfl adV (Dv _ hM (by omega)) (fun v1 w1 hc=>?_);obtain⟨hv,s1⟩:=hc;replace hM:=s1.lt hM;have:=S.size;replace S:=S.aB s1;refine ah rfl rfl (ab (aj (ae (ah rfl rfl (ab (aj (aj (ae (ah rfl rfl (ab (aZ ?_)))))))))));refine de (σ:=Nat×Value) (fun q=>[(3,v1),(4,q.2),(5,.int .i64 (q.1:Int))]) (fun q w=>∃M' ws,Lt M' w∧Step M w0 M' w aC∧Own RT.str 9 M' w w0.heap.size q.2 ws∧((RT.int .i64).sl).V M' w (fh l) v1∧Kh (fh l) q.1 ws) (fun q=>(fh l).length+1-q.1) (0,.slice none 0 0) (.cons rfl (.cons rfl (.cons rfl .nil))) ?_ ?_
 ·exact⟨M,[],hM,S,dF _ _ _ _ _,hv,.inl ⟨bE _,rfl⟩⟩
 ·rintro⟨i,u4⟩ w ⟨M1,ws,hM,S,qe,hv,Yv⟩;dsimp only at qe Yv ⊢;refine aj (aj (ae (ad rfl rfl (ad rfl rfl (bM an rfl hv rfl (cj rfl rfl rfl (ab ?_)))))));refine bN rfl (fun c4=>?_) (fun c4=>?_)
  ·refine aU (aj (aZ (aj (ae (ad rfl rfl (ad rfl rfl ?_))))));refine cy (M:=M1) an I3 rfl rfl rfl hv (aq _ _) (by omega) (fun Yw c Yx huc=>?_);refine cb (M:=M1) ax rfl rfl huc (aq _ _) (fun inc=>?_);rw[ay]at Yx;refine aX rfl rfl X9 (Du c _) (fun r wc hc=>?_);obtain⟨rfl,rfl⟩:=hc;refine aV (v':= .bool (decide (xO c=true))) (by cases xO c<;>rfl) (ah rfl rfl (ab (aj (aj (ae (ad rfl rfl (lH rfl rfl (aV (v':= .bool (decide (xO c=false))) (by cases xO c<;>rfl) (ab ?_)))))))));refine bN rfl (fun c7=>?_) (fun c7=>?_)
   ·refine cG (ae (ad rfl rfl (bF rfl rfl rfl (by omega) (ah rfl rfl (ab ?_)))));refine⟨rfl,(i+1,u4),(.cons rfl (.cons rfl (.cons rfl .nil))),?_,?_⟩
    ·exact⟨M1,ws,hM,S,qe,hv,Yv.skip Yx (by assumption)⟩
    ·dsimp only;omega
   ·refine aU (aj (ae (ah rfl rfl (ab (aj (aZ ?_))))));refine de (σ:=Nat×List Int×Value) (fun q=>[(3,v1),(4,u4),(5,.int .i64 (q.1:Int)),(7,q.2.2)]) (fun q w=>∃M',Lt M' w∧Step M w0 M' w aC∧Own RT.str 9 M' w w0.heap.size u4 ws∧Own (RT.int .i64) 3 M' w w0.heap.size q.2.2 q.2.1∧((RT.int .i64).sl).V M' w (fh l) v1∧((fh l).take q.1).foldl fW ([],[])=(q.2.1,ws)∧i≤q.1∧q.1≤(fh l).length∧(i<q.1→0<q.2.1.length)) (fun q=>(fh l).length-q.1) (i,[],.slice none 0 0) (.cons rfl (.cons rfl (.cons rfl (.cons rfl .nil)))) ?_ ?_
    ·have aez:((fh l).take i).foldl fW ([],[])=([],ws):=by
      rcases Yv with⟨_,h⟩|⟨h,_⟩
      ·exact h
      ·omega
     exact⟨M1,hM,S,qe,dF _ _ _ _ _,hv,aez,aT _,by dsimp only;omega,fun h=>absurd h (jt _)⟩
    ·rintro⟨j,own,u7⟩ w ⟨M2,hM,S,qe,nh,hv,hf,Yy,tN,vr⟩;dsimp only at nh hf Yy tN vr ⊢;refine aj (aj (ae (ad rfl rfl (ad rfl rfl (bM an rfl hv rfl (cj rfl rfl rfl (ad rfl rfl ?_)))))));refine aQ (g:=27) rfl (fun aeA=>?_) (fun aeA=>?_)
     ·refine al rfl rfl (ad rfl rfl (al rfl rfl (ad rfl rfl (al rfl rfl ?_))));refine cy (M:=M2) an I3 rfl rfl rfl hv (aq _ _) (by omega) (fun aoo d o9 hud=>?_);refine al rfl rfl ?_;refine cb (M:=M2) ax rfl rfl hud (aq _ _) (fun ind=>?_);rw[ay]at o9;refine al rfl rfl ?_;refine aX rfl rfl X9 (Du d _) (fun r wc hc=>?_);obtain⟨rfl,rfl⟩:=hc;refine aV (v':= .bool (decide (xO d=true))) (by cases xO d<;>rfl) (aY rfl rfl rfl (ab ?_));refine bN rfl (fun c9=>?_) (fun c9=>?_)
      ·refine aU (aZ (aj (ae (ad rfl rfl (ad rfl rfl (ad rfl rfl ?_))))));refine cy (M:=M2) an I3 rfl rfl rfl hv (aq _ _) (by omega) (fun Yz e Kw hue=>?_);refine cb (M:=M2) ax rfl rfl hue (aq _ _) (fun mT=>?_);rw[ay]at Kw;have Ui:xO e=true:=by rw[o9]at Kw;cases Kw;assumption
       refine aX rfl rfl adW (F7 e _ (LC Ui)) (fun r wc hc=>?_);obtain⟨rfl,rfl⟩:=hc;refine ed (A:=RT.int .i64) (hn:=by decide) (M:=M2) an I3 (by decide) rfl rfl hM (fV (by have:=LC Ui;unfold fI;split<;>omega)) (.inr ⟨rfl,rfl⟩) (fun akh aki Gd DC=>?_);replace hv:=hv.le DC.le;replace qe:=qe.aP DC;replace nh:=nh.aP DC;replace hM:=DC.lt hM;have:=S.size;replace S:=S.aB DC;refine cZ (M:=M2) (base:=w0.heap.size) an I3 rfl rfl rfl rfl nh Gd (aq _ _) (by have:=hU hf;simp;omega) (by have:=hU hf;simp;omega) (S.size) (fun RG YA YB Uj pK=>?_);replace hv:=hv.le pK.le;replace Gd:=Gd.le pK.le;replace qe:=qe.step pK (fun b h1 h2=>qe.dz nh (by decide) h1 h2);replace hM:=pK.lt hM;have:=S.size;replace S:=S.dg pK nh (aT _);replace nh:=Uj;refine ah rfl rfl (ab (ae (ad rfl rfl (bF rfl rfl rfl (by omega) (ah rfl rfl (ab ?_))))));refine⟨rfl,(j+1,own++[fI e],RG),(.cons rfl (.cons rfl (.cons rfl (.cons rfl .nil)))),?_,?_⟩
       ·exact⟨YA,hM,S,qe,nh,hv,by rw[vH Kw,hf,LB Ui],by dsimp only;omega,by dsimp only;omega,fun _=>by simp⟩
       ·dsimp only;omega
      ·refine cG (ae (ad rfl rfl (ad rfl rfl ?_)));refine aX rfl rfl Ya (yF (M:=rm M2 u7) _ (fun b hb=>hM b hb.1) (nh.view (by have:=hU hf;omega)) (by have:=hU hf;omega)) (fun r12 Xc Uk=>?_);obtain⟨rfl,Ao⟩:=Uk;replace Ao:=Ao.any M2;replace hv:=hv.le Ao.le;replace qe:=qe.aP Ao;replace nh:=nh.aP Ao;replace hM:=Ao.lt hM;have:=S.size;replace S:=S.aB Ao;refine ed (A:=RT.str) (hn:=by decide) (M:=M2) aI I9 (by decide) rfl rfl hM (kG.2 ⟨rfl,by have:=gw own;have:=hU hf;omega⟩) (.inr ⟨rfl,rfl⟩) (fun YC YD tc qx=>?_);replace hv:=hv.le qx.le;replace qe:=qe.aP qx;replace nh:=nh.aP qx;replace hM:=qx.lt hM;have:=S.size;replace S:=S.aB qx;refine cZ (M:=M2) (base:=w0.heap.size) aI I9 rfl rfl rfl rfl qe tc (aq _ _) (by have:=hU hf;simp;omega) (by have:=hU hf;simp;omega) (S.size) (fun yM qy LD td eT=>?_);replace hv:=hv.le eT.le;replace tc:=tc.le eT.le;replace nh:=nh.step eT (fun b h1 h2=>nh.dz qe (by decide) h1 h2);replace hM:=eT.lt hM;have:=S.size;replace S:=S.dg eT qe (aT _);replace qe:=td;refine ah rfl rfl (ab (ae (ad rfl rfl (bF rfl rfl rfl (by omega) (ah rfl rfl (ab ?_))))))
       have vr:0<own.length:=by
        rcases lr Yy with e|h
        ·exfalso;subst e
         first|omega|(rw[Yx]at o9;cases o9;exact c9 (by cases hq:xO c with|true=>rfl|false=>exact absurd hq (by assumption)))
        ·exact vr h
       have Ul:∀c,(fh l)[j]? =some c→xO c=false:=fun c hc=>by
        first|(rw[dU (by omega)]at hc;cases hc)|(rw[o9]at hc;cases hc;exact cV.2 c9)
       refine⟨rfl,(j+1,yM),(.cons rfl (.cons rfl (.cons rfl .nil))),?_,?_⟩
       ·exact⟨qy,_,hM,S,qe,hv,Kh.word hf vr tN Ul⟩
       ·dsimp only;omega
     ·refine au rfl rfl rfl rfl (au rfl rfl rfl rfl (au rfl rfl rfl rfl (au rfl rfl rfl rfl (au rfl rfl rfl rfl (aE rfl rfl rfl (ab (jE rfl (cG (ae (ad rfl rfl (ad rfl rfl ?_)))))))))));refine aX rfl rfl Ya (yF (M:=rm M2 u7) _ (fun b hb=>hM b hb.1) (nh.view (by have:=hU hf;omega)) (by have:=hU hf;omega)) (fun r12 Xc Uk=>?_);obtain⟨rfl,Ao⟩:=Uk;replace Ao:=Ao.any M2;replace hv:=hv.le Ao.le;replace qe:=qe.aP Ao;replace nh:=nh.aP Ao;replace hM:=Ao.lt hM;have:=S.size;replace S:=S.aB Ao;refine ed (A:=RT.str) (hn:=by decide) (M:=M2) aI I9 (by decide) rfl rfl hM (kG.2 ⟨rfl,by have:=gw own;have:=hU hf;omega⟩) (.inr ⟨rfl,rfl⟩) (fun YC YD tc qx=>?_);replace hv:=hv.le qx.le;replace qe:=qe.aP qx;replace nh:=nh.aP qx;replace hM:=qx.lt hM;have:=S.size;replace S:=S.aB qx;refine cZ (M:=M2) (base:=w0.heap.size) aI I9 rfl rfl rfl rfl qe tc (aq _ _) (by have:=hU hf;simp;omega) (by have:=hU hf;simp;omega) (S.size) (fun yM qy LD td eT=>?_);replace hv:=hv.le eT.le;replace tc:=tc.le eT.le;replace nh:=nh.step eT (fun b h1 h2=>nh.dz qe (by decide) h1 h2);replace hM:=eT.lt hM;have:=S.size;replace S:=S.dg eT qe (aT _);replace qe:=td;refine ah rfl rfl (ab (ae (ad rfl rfl (bF rfl rfl rfl (by omega) (ah rfl rfl (ab ?_))))))
      have vr:0<own.length:=by
       rcases lr Yy with e|h
       ·exfalso;subst e
        first|omega|(rw[Yx]at o9;cases o9;exact c9 (by cases hq:xO c with|true=>rfl|false=>exact absurd hq (by assumption)))
       ·exact vr h
      have Ul:∀c,(fh l)[j]? =some c→xO c=false:=fun c hc=>by
       first|(rw[dU (by omega)]at hc;cases hc)|(rw[o9]at hc;cases hc;exact cV.2 c9)
      refine⟨rfl,(j+1,yM),(.cons rfl (.cons rfl (.cons rfl .nil))),?_,?_⟩
      ·exact⟨qy,_,hM,S,qe,hv,Kh.word hf vr tN Ul⟩
      ·dsimp only;omega
  ·refine cG (aj (ae (ad rfl rfl (ah rfl rfl (ab (aO ?_))))));have e:=Yv.done (by omega);have e2:words l=ws:=e;rw[e2];exact aS rfl rfl ⟨qe.close jM S (by have:=Yv.len;omega),S.back⟩
end Go.K
namespace Go.K
open Go.Proofs
set_option maxRecDepth 10000
def mC:Nat→List (List UInt8)→Int
 |_,[]=>0
 |i,w::ws=>if 30<w.length then 3 else if 500≤i then 7 else mC (i+1) ws
theorem HP {i k:Nat} {ws:List (List UInt8)} {x:List UInt8} (h:ws[k]? =some x):mC i (ws.drop k)=if 30<x.length then 3 else if 500≤i then 7 else mC (i+1) (ws.drop (k+1)):=by
 have dR:=(ao.1 h).1;rw[dB dR,(ao.1 h).2];rfl
theorem fS {M:aD} {w:World} {x:List UInt8} {v:Value} (h:RT.str.V M w x v):v= .string ⟨x.toArray⟩:=(kG.1 h).1
theorem Jc {M:aD} {l:List UInt8} (w0:World) (hM:Lt M w0) (hl:l.length≤900000):
  Spec Tryz.prog 128 #[.string ⟨l.toArray⟩] w0 (fun v w=>(∃u,v= .tuple #[u,.int .i64 (mC 0 (words l))]∧(mC 0 (words l)=0→∃a cap,u= .slice a (words l).length cap))∧Step M w0 M w aC):=by
 have jM:=hM;refine bc (args:=[_]) (fn:=Tryz.f128) Tryz.func128 rfl (n:=30) Tryz.ntmps128 ?_;have S:Step M w0 M w0 aC:=(aw _ _).cA (fun _ h=>h.elim) (fun _ h=>h.elim);refine aj (ae (ah rfl rfl (ah rfl rfl (ab (aj (ae (ah rfl rfl (ab (aj (aj (ae ?_)))))))))));refine ad rfl rfl ?_;refine aX rfl rfl X6 (yI _ hM hl) (fun v1 w1 hc=>?_);obtain⟨hv,s1⟩:=hc;replace hM:=s1.lt hM;have:=S.size;replace S:=S.aB s1;refine bM aI rfl hv rfl (ad rfl rfl (ab (aZ ?_)));refine de (σ:=Nat×Value) (fun q=>[(8,v1),(4,q.2),(9,.int .i64 ((words l).length:Int)),(10,.int .i64 (q.1:Int))]) (fun q w=>(∃M' xs,Lt M' w∧Step M w0 M' w aC∧Own (RT.pair RT.str (RT.int .i64)) 266 M' w w0.heap.size q.2 xs∧xs.length=q.1∧(RT.str.sl).V M' w (words l) v1)∧mC 0 (words l)=mC q.1 ((words l).drop q.1)∧q.1≤(words l).length∧q.1≤500) (fun q=>(words l).length-q.1) (0,.slice none 0 0) (.cons rfl (.cons rfl (.cons rfl (.cons rfl .nil)))) ?_ ?_
 ·exact⟨⟨M,[],hM,S,dF _ _ _ _ _,rfl,hv⟩,rfl,bE _,bE _⟩
 ·rintro⟨i,u⟩ w ⟨⟨M1,xs,hM,S,ho,qV,hv⟩,IT,hi,hi5⟩;dsimp only at ho qV IT hi hi5 ⊢;refine aj (ae (cj rfl rfl rfl (ab (aj ?_))));refine bN rfl (fun c3=>?_) (fun c3=>?_)
  ·refine aU (aj (aZ (aj (ae (ad rfl rfl ?_)))));refine cy (M:=M1) aI I9 rfl rfl rfl hv (aq _ _) (by omega) (fun YE x wR Fx=>?_);refine bT (M:=M1) aJ rfl rfl rfl rfl rfl Fx (aq _ _) (fun vx rD=>?_);rw[ay]at wR;obtain rfl:=fS rD;have ht:=HP (i:=i) wR;refine ah rfl rfl (ah rfl rfl (ab (aj (aZ (aj (ae (ad rfl rfl (Rg.nz aJ rfl rfl (aV (v':= .int .i64 (x.length:Int)) (by simp[ByteArray.size]) (jd rfl rfl rfl (ah rfl rfl ?_)))))))))));refine ab ?_;refine bN rfl (fun c5=>?_) (fun c5=>?_)
   ·refine aj (ae (ah rfl rfl (ah rfl rfl (ab (aO ?_)))));rw[IT,ht,if_pos (by omega)];exact eY rfl rfl rfl ⟨⟨_,rfl,fun h=>by cases h⟩,S.back⟩
   ·refine aj (ae (ad rfl rfl (nX rfl rfl rfl (ah rfl rfl (ab ?_)))));refine bN rfl (fun c7=>?_) (fun c7=>?_)
    ·refine aj (ae (ah rfl rfl (ah rfl rfl (ab (aO ?_)))));rw[IT,ht,if_neg (by omega),if_pos (by omega)];exact eY rfl rfl rfl ⟨⟨_,rfl,fun h=>by cases h⟩,S.back⟩
    ·refine aU (ae (ad rfl rfl (ad rfl rfl (ad rfl rfl (iC (places:=[(0,1),(1,1)]) Tryz.underlying266 I2 X4 rfl ⟨_,_,rfl,rfl,_,_,rfl,rfl,rfl⟩ (out:=[_,_]) ⟨0,[_],rfl,rfl,by simp[Value.cells],1,[_],rfl,rfl,by simp[Value.cells],rfl⟩ ?_)))));refine ed (A:=(RT.pair RT.str (RT.int .i64))) (hn:=by decide) (M:=M1) Tryz.underlying212 I2 (by decide) rfl rfl hM (eS rD (fV (x:=(i:Int)) (by omega)) rfl rfl rfl rfl) (.inl rfl) (fun Ym aeg LF An=>?_);replace hv:=hv.le An.le;replace rD:=rD.le An.le;replace ho:=ho.aP An;replace hM:=An.lt hM;have:=S.size;replace S:=S.aB An;refine cZ (M:=M1) (base:=w0.heap.size) Tryz.underlying212 I2 rfl rfl rfl rfl ho LF (aq _ _) (by simp;omega) (by simp;omega) (S.size) (fun aeC aeD YF YG qz=>?_);replace hv:=hv.le qz.le;replace rD:=rD.le qz.le;replace LF:=LF.le qz.le;replace hM:=qz.lt hM;have:=S.size;replace S:=S.dg qz ho (aT _);replace ho:=YG;refine ah rfl rfl (ab (ae (bF rfl rfl rfl (by omega) (ad rfl rfl (ab ?_)))));refine⟨rfl,(i+1,aeC),(.cons rfl (.cons rfl (.cons rfl (.cons rfl .nil)))),?_,?_⟩
     ·exact⟨⟨aeD,_,hM,S,ho,by simp[qV],hv⟩,by rw[IT,ht,if_neg (by omega),if_neg (by omega)],by dsimp only;omega,by dsimp only;omega⟩
     ·dsimp only;omega
  ·refine cG (aj (ae (ad rfl rfl (ah rfl rfl (ah rfl rfl (ab (aO ?_)))))));have e:mC 0 (words l)=0:=by rw[IT,gO (by omega)];rfl
   rw[e];obtain⟨a,cap,he,_⟩:=ho.isSlice;exact eY rfl rfl rfl ⟨⟨u,rfl,fun _=>⟨a,cap,by rw[he,qV];congr 1;omega⟩⟩,S.back⟩
theorem Ge {M:aD} {l:List UInt8} (w0:World) (hM:Lt M w0) (hl:l.length≤900000):
  Spec Tryz.prog 148 #[.string ⟨l.toArray⟩] w0 (fun v w=>(∃u,v= .tuple #[u,.int .i64 (mC 0 (words l))]∧(mC 0 (words l)=0→∃a cap,u= .slice a (words l).length cap))∧Step M w0 M w aC):=by
 have jM:=hM;refine bc (args:=[_]) (fn:=Tryz.f148) Tryz.func148 rfl (n:=33) Tryz.ntmps148 ?_;have S:Step M w0 M w0 aC:=(aw _ _).cA (fun _ h=>h.elim) (fun _ h=>h.elim);refine aj (ae (ah rfl rfl (ah rfl rfl (ab (aj (ae (ad rfl rfl ?_)))))));refine aX rfl rfl adL (DB _ hM hl) (fun v1 w1 hc=>?_);obtain⟨hv,s1⟩:=hc;replace hM:=s1.lt hM;have:=S.size;replace S:=S.aB s1;refine ah rfl rfl (ab (aj (ae (ah rfl rfl (ab (aj (aj (ae (ah rfl rfl (ab (aZ ?_)))))))))));refine de (σ:=Nat×Value) (fun q=>[(4,v1),(5,q.2),(6,.int .i64 (q.1:Int))]) (fun q w=>(∃M' xs,Lt M' w∧Step M w0 M' w aC∧Own (RT.pair RT.str (RT.int .i64)) 266 M' w w0.heap.size q.2 xs∧xs.length=q.1∧(RT.str.sl).V M' w (words l) v1)∧mC 0 (words l)=mC q.1 ((words l).drop q.1)∧q.1≤(words l).length∧q.1≤500) (fun q=>(words l).length-q.1) (0,.slice none 0 0) (.cons rfl (.cons rfl (.cons rfl .nil))) ?_ ?_
 ·exact⟨⟨M,[],hM,S,dF _ _ _ _ _,rfl,hv⟩,rfl,bE _,bE _⟩
 ·rintro⟨i,u⟩ w ⟨⟨M1,xs,hM,S,ho,qV,hv⟩,IT,hi,hi5⟩;dsimp only at ho qV IT hi hi5 ⊢;refine aj (aj (ae (ad rfl rfl (ad rfl rfl (bM aI rfl hv rfl (cj rfl rfl rfl (ab ?_)))))));refine bN rfl (fun c4=>?_) (fun c4=>?_)
  ·refine aU (aj (aZ (aj (aj (ae (ad rfl rfl (ad rfl rfl ?_)))))));refine cy (M:=M1) aI I9 rfl rfl rfl hv (aq _ _) (by omega) (fun Yw x wR Fx=>?_);refine bT (M:=M1) aJ rfl rfl rfl rfl rfl Fx (aq _ _) (fun vx rD=>?_);rw[ay]at wR;obtain rfl:=fS rD;have ht:=HP (i:=i) wR;refine Rg.nz aJ rfl rfl (aV (v':= .int .i64 (x.length:Int)) (by simp[ByteArray.size]) (jd rfl rfl rfl (ab ?_)));refine bN rfl (fun c6=>?_) (fun c6=>?_)
   ·refine aj (ae (ah rfl rfl (ah rfl rfl (ab (aO ?_)))));rw[IT,ht,if_pos (by omega)];exact eY rfl rfl rfl ⟨⟨_,rfl,fun h=>by cases h⟩,S.back⟩
   ·refine aU (aj (aj (ae (ad rfl rfl (dV rfl rfl rfl (ab ?_))))));refine bN rfl (fun c8=>?_) (fun c8=>?_)
    ·refine aj (ae (ah rfl rfl (ah rfl rfl (ab (aO ?_)))));rw[IT,ht,if_neg (by omega),if_pos (by omega)];exact eY rfl rfl rfl ⟨⟨_,rfl,fun h=>by cases h⟩,S.back⟩
    ·refine aU (ae (ad rfl rfl (ad rfl rfl (ad rfl rfl ?_))));refine cy (M:=M1) aI I9 rfl rfl rfl hv (aq _ _) (by omega) (fun Yz y uR huy=>?_);refine bT (M:=M1) aJ rfl rfl rfl rfl rfl huy (aq _ _) (fun vy RH=>?_);rw[ay]at uR;obtain rfl:=fS RH;obtain rfl:x=y:=by rw[wR]at uR;exact aH uR
     refine ad rfl rfl (iC (places:=[(0,1),(1,1)]) Tryz.underlying266 I2 X4 rfl ⟨_,_,rfl,rfl,_,_,rfl,rfl,rfl⟩ (out:=[_,_]) ⟨0,[_],rfl,rfl,by simp[Value.cells],1,[_],rfl,rfl,by simp[Value.cells],rfl⟩ ?_);refine ed (A:=(RT.pair RT.str (RT.int .i64))) (hn:=by decide) (M:=M1) Tryz.underlying212 I2 (by decide) rfl rfl hM (eS RH (fV (x:=(i:Int)) (by omega)) rfl rfl rfl rfl) (.inl rfl) (fun RG YB Gf pK=>?_);replace hv:=hv.le pK.le;replace rD:=rD.le pK.le;replace RH:=RH.le pK.le;replace ho:=ho.aP pK;replace hM:=pK.lt hM;have:=S.size;replace S:=S.aB pK;refine cZ (M:=M1) (base:=w0.heap.size) Tryz.underlying212 I2 rfl rfl rfl rfl ho Gf (aq _ _) (by simp;omega) (by simp;omega) (S.size) (fun YH YI HQ Um gM=>?_);replace hv:=hv.le gM.le;replace rD:=rD.le gM.le;replace RH:=RH.le gM.le;replace Gf:=Gf.le gM.le;replace hM:=gM.lt hM;have:=S.size;replace S:=S.dg gM ho (aT _);replace ho:=Um;refine ah rfl rfl (ab (ae (ad rfl rfl (bF rfl rfl rfl (by omega) (ah rfl rfl (ab ?_))))));refine⟨rfl,(i+1,YH),(.cons rfl (.cons rfl (.cons rfl .nil))),?_,?_⟩
     ·exact⟨⟨YI,_,hM,S,ho,by simp[qV],hv⟩,by rw[IT,ht,if_neg (by omega),if_neg (by omega)],by dsimp only;omega,by dsimp only;omega⟩
     ·dsimp only;omega
  ·refine cG (aj (ae (ad rfl rfl (ah rfl rfl (ah rfl rfl (ab (aO ?_)))))));have e:mC 0 (words l)=0:=by rw[IT,gO (by omega)];rfl
   rw[e];obtain⟨a,cap,he,_⟩:=ho.isSlice;exact eY rfl rfl rfl ⟨⟨u,rfl,fun _=>⟨a,cap,by rw[he,qV];congr 1;omega⟩⟩,S.back⟩
end Go.K
namespace Go.K
abbrev Fd:=List UInt8×List UInt8
abbrev Dc:=Int×List Fd
abbrev En:=Dc×Int
abbrev RT.fd:RT Fd:=RT.pair RT.str RT.str
abbrev RT.dc:RT Dc:=RT.pair (RT.int .i64) (RT.fd.sl)
abbrev RT.en:RT En:=RT.pair RT.dc (RT.int .i64)
theorem Xd:Part RT.fd RT.str (fun p=>p.1) 0:=mP _ _
theorem fd1:Part RT.fd RT.str (fun p=>p.2) 1:=iA _ _
theorem YJ:Part RT.dc (RT.int .i64) (fun p=>p.1) 0:=mP _ _
theorem Jd:Part RT.dc (RT.fd.sl) (fun p=>p.2) 1:=iA _ _
theorem YK:Part RT.en RT.dc (fun p=>p.1) 0:=mP _ _
theorem en1:Part RT.en (RT.int .i64) (fun p=>p.2) 2:=iA _ _
theorem LG {M:aD} {w:World} {p:Dc} {v:Value} (h:RT.dc.V M w p v):∃u,v= .agg #[.int .i64 p.1,u]:=by
 obtain⟨vs,⟨va,vb,rfl,⟨rfl,_⟩,hb⟩,rfl⟩:=h;have:=(RT.fd.sl (by decide)).len hb
 match vb,this with
 |[u],_=>exact⟨u,rfl⟩
theorem RI {M:aD} {w:World} {p:Dc} {u:Value} {s:Int} (h:RT.dc.V M w p (.agg #[.int .i64 p.1,u])) (hs: -9223372036854775808≤s∧s≤9223372036854775807):RT.en.V M w (p,s) (.agg [.int .i64 p.1,u,.int .i64 s].toArray):=by
 obtain⟨vs,h1,h2⟩:=h
 have h3:vs=[.int .i64 p.1,u]:=by
  have:Value.agg #[.int .i64 p.1,u]= .agg vs.toArray:=h2;injection this with this
  simpa using(congrArg Array.toList this).symm
 subst h3;exact⟨_,⟨[.int .i64 p.1,u],[.int .i64 s],rfl,h1,rfl,hs.1,hs.2⟩,rfl⟩
theorem Own.RJ {α:Type} (A:RT α) (e:TypeId) (base:Nat) {M:aD} {w:World} (h:Lt M w):Own A e M w base (.slice none 0 0) []:=dF _ _ _ _ _
section
variable {P:Program} {r:Option Nat} {n:Nat} {L:Sl} {ds:List Deferred} {w:World} {K:Kt} {ops:Array Oper} {rest:List Oper} {d:Nat} {x:Operand} {ty:TypeId} {pos:String} {af:Array Edge}
theorem Rg.pb {α:Type} {A:RT α} {e:TypeId} {v:Value} {a:α} {M:aD} (hx:ev L x=some v) (hd:Nat.blt d n=true) (hM:Lt M w) (hv:A.V M w a v) (hg:A.agg=true)
  (k:∀u w',cN A M w' u a→Step M w M w' aC→w.heap.size≤w'.heap.size→Rg P r n ops rest ((d,u)::L) ds w' K):
  Rg P r n ops ({dst:=some d,op:= .box e x,type:=ty,pos,after:=af,guard:=none}::rest) L ds w K:=by
 refine xj M hx hd (fun b w' h1 h2 hb s=>?_);obtain⟨vs,h3,h4⟩:=hv;have hc:v.cells=vs.toArray:=by subst h4;simp[RT.val,hg,Value.cells]
 rw[hc]at hb;refine k _ w' ⟨b,0,vs,rfl,fun hm=>?_,A.le s.back.le h3,fun j u hj=>?_⟩ s.back s.size
 ·have:=hM b hm;omega
 ·rw[fL];exact fG hb (by simpa using hj)
end
end Go.K
namespace Go.Proofs
open Go.Shelf
def Tryz.DD:Go.Shelf.Ren:=⟨fun|160=>184|232=>231|231=>230|227=>232|234=>234|233=>233|236=>236|235=>235|228=>268|271=>271|151=>270|197=>269|120=>293|152=>292|260=>291|137=>300|119=>290|224=>301|225=>302|217=>304|266=>305|n=>n,fun|9=>9|4=>4|3=>3|5=>5|117=>310|116=>309|0=>0|124=>313|21=>21|105=>344|46=>189|119=>365|139=>368|138=>367|n=>n,fun|3=>2|4=>3|n=>n⟩
theorem Tryz.PU:Go.Proofs.Lays.n160 Tryz.prog Tryz.DD:={
 mixed:=by kernel_rfl
 f119:=Tryz.func290.trans (congrArg some (by kernel_rfl))
 f120:=Tryz.func293.trans (congrArg some (by kernel_rfl))
 f137:=Tryz.func300.trans (congrArg some (by kernel_rfl))
 f151:=Tryz.func270.trans (congrArg some (by kernel_rfl))
 f152:=Tryz.func292.trans (congrArg some (by kernel_rfl))
 f160:=Tryz.func184.trans (congrArg some (by kernel_rfl))
 f197:=Tryz.func269.trans (congrArg some (by kernel_rfl))
 f217:=Tryz.func304.trans (congrArg some (by kernel_rfl))
 f224:=Tryz.func301.trans (congrArg some (by kernel_rfl))
 f225:=Tryz.func302.trans (congrArg some (by kernel_rfl))
 f227:=Tryz.func232.trans (congrArg some (by kernel_rfl))
 f228:=Tryz.func268.trans (congrArg some (by kernel_rfl))
 f231:=Tryz.func230.trans (congrArg some (by kernel_rfl))
 f232:=Tryz.func231.trans (congrArg some (by kernel_rfl))
 f233:=Tryz.func233.trans (congrArg some (by kernel_rfl))
 f234:=Tryz.func234.trans (congrArg some (by kernel_rfl))
 f235:=Tryz.func235.trans (congrArg some (by kernel_rfl))
 f236:=Tryz.func236.trans (congrArg some (by kernel_rfl))
 f260:=Tryz.func291.trans (congrArg some (by kernel_rfl))
 f266:=Tryz.func305.trans (congrArg some (by kernel_rfl))
 f271:=Tryz.func271.trans (congrArg some (by kernel_rfl))
 t0:=fD
 a0:=lB
 z0:=j6
 v0:=gG
 t3:=ax
 a3:=lC
 z3:=j7
 v3:=gH
 t4:=iO
 a4:=rO
 z4:=nW
 v4:=jv
 t5:=cx
 a5:=Tryz.isAgg5
 z5:=Tryz.sizeOf5
 v5:=tC
 t9:=aJ
 a9:=lD
 z9:=j8
 v9:=gI
 t21:=Tryz.underlying21
 a21:=Tryz.isAgg21
 z21:=Tryz.sizeOf21
 v21:=Tryz.zeroValue21
 t46:=jQ
 a46:=Tryz.isAgg189
 z46:=Tryz.sizeOf189
 v46:=Tryz.zeroValue189
 t105:=Tryz.underlying344
 a105:=Tryz.isAgg344
 z105:=Tryz.sizeOf344
 v105:=Tryz.zeroValue344
 t116:=Tryz.underlying309
 a116:=Tryz.isAgg309
 z116:=Tryz.sizeOf309
 t117:=Tryz.underlying310
 a117:=Tryz.isAgg310
 z117:=Tryz.sizeOf310
 v117:=Tryz.zeroValue310
 t119:=Tryz.underlying365
 a119:=Tryz.isAgg365
 z119:=Tryz.sizeOf365
 t124:=Tryz.underlying313
 a124:=Tryz.isAgg313
 z124:=Tryz.sizeOf313
 v124:=Tryz.zeroValue313
 t138:=Tryz.underlying367
 a138:=Tryz.isAgg367
 z138:=Tryz.sizeOf367
 v138:=Tryz.zeroValue367
 t139:=Tryz.underlying368
 a139:=Tryz.isAgg368
 z139:=Tryz.sizeOf368
 v139:=Tryz.zeroValue368
 g3:=by kernel_rfl
 g4:=by kernel_rfl}
end Go.Proofs
namespace Go.K
open Go.Proofs
set_option maxRecDepth 10000
open Go.RowKit Go.Shelf
def lN:List UInt8:=[97,98,99,100,101,102,103,104,105,106,107,108,109,110,111,112,113,114,115,116,117,118,119,120,121,122]
def iw (b:UInt8):Bool:=decide (97≤b.toNat∧b.toNat≤122)
def fX (s:List UInt8):Bool:=decide (1≤s.length∧s.length≤12)&&s.all iw
theorem DE (b:UInt8):lN.contains b=iw b:=by
 have key:∀n:Fin 256,lN.contains (UInt8.ofNat n)=iw (UInt8.ofNat n):=by decide
 have:=key ⟨b.toNat,UInt8.toNat_lt b⟩;simpa using this
theorem drop_nil {α:Type} (p:α→Bool):∀l:List α,l.dropWhile p=[]↔∀x∈l,p x=true
 |[]=>by simp
 |x::l=>by
  rw[List.dropWhile_cons];by_cases h:p x=true
  ·rw[if_pos h,drop_nil p l];simp[h]
  ·rw[if_neg h];simp[h]
theorem yN (s:List UInt8):Lib.trimS s lN=[]↔s.all iw=true:=by
 have e:(fun b=>lN.contains b)=iw:=funext DE;unfold Lib.trimS Lib.trimLeftS Lib.trimRightS;rw[e,drop_nil,fu];constructor
 ·intro h
  have h2:s.reverse.dropWhile iw=[]:=by
   cases hd:s.reverse.dropWhile iw with
   |nil=>rfl
   |cons x r=>
    have h3:=h x (by rw[hd];simp);have h4:=List.head?_dropWhile_not iw s.reverse;rw[hd]at h4;simp[h3]at h4
  intro x hx;exact(drop_nil _ _).1 h2 x (List.mem_reverse.2 hx)
 ·intro h x hx;rw[(drop_nil iw s.reverse).2 (fun y hy=>h y (List.mem_reverse.1 hy))]at hx
  cases hx
theorem Je (s:List UInt8) (hs:s.length≤140737488355328) (w:World):Spec Tryz.prog 184 #[.string ⟨s.toArray⟩,.string ⟨lN.toArray⟩] w (fun v w'=>v= .string ⟨(Lib.trimS s lN).toArray⟩∧∀M,Step M w M w' aC):=
 (Any.strings_Trim_ascii Tryz.PU Tryz.zeroValue309 (by kernel_rfl) ⟨s.toArray⟩ ⟨lN.toArray⟩ w (by simp[ByteArray.size];omega) (by decide) (fun j b hj=>by
  have hm:b∈lN:=aA hj;have:=DE b;rw[jG.2 hm]at this;have h2:97≤b.toNat∧b.toNat≤122:=by simpa[iw]using this.symm
  omega)).mono fun e w' ⟨h1,h2⟩=>⟨_,h1,rfl,fun M=> .yw h2 M⟩
theorem Jf (s:List UInt8) (hs:s.length≤140737488355328) (w0:World):
  Spec Tryz.prog 129 #[.string ⟨s.toArray⟩] w0 (fun v w=>v= .bool (fX s)∧∀M,Step M w0 M w aC):=by
 refine bc (args:=[_]) (fn:=Tryz.f129) Tryz.func129 rfl (n:=15) Tryz.ntmps129 (aj (ae (ah rfl rfl (ab (aj (ae (ad rfl rfl (Rg.Kx (p:=s) (q:=[]) rfl rfl rfl (ad rfl rfl ?_)))))))));refine aQ (g:=5) rfl (fun iL=>?_) (fun iL=>?_)
 ·refine al rfl rfl (ad rfl rfl (al rfl rfl (Rg.nz aJ rfl rfl (aV (v':= .int .i64 (s.length:Int)) (by simp[ByteArray.size]) (al rfl rfl (gK rfl rfl rfl (aY rfl rfl rfl (ad rfl rfl ?_))))))));refine aQ (g:=10) rfl (fun aeF=>?_) (fun aeF=>?_)
  ·refine al rfl rfl (ad rfl rfl (al rfl rfl ?_));refine aX rfl rfl adC (Je s hs _) (fun r w9 hc=>?_);obtain⟨rfl,s9⟩:=hc;refine al rfl rfl (Rg.HA (p:=Lib.trimS s lN) (q:=[]) rfl rfl rfl (aY rfl rfl rfl (ah rfl rfl (ab (aO ?_)))))
   first
   |exact aS rfl rfl ⟨by rw[fX,decide_eq_true (p:=1≤s.length∧s.length≤12) ⟨oN.2 iL,by omega⟩,eR];exact congrArg Value.bool (by rw[lI,decide_eq_true_eq];exact yN s),s9⟩
   |exact aS rfl rfl ⟨by rw[fX,decide_eq_false (p:=1≤s.length∧s.length≤12) (by omega),kL],fun M=>aw _ _⟩
   |(have Un:s=[]:=Classical.not_not.1 iL
     subst Un;exact aS rfl rfl ⟨rfl,fun M=>aw _ _⟩)
  ·refine au rfl rfl rfl rfl (au rfl rfl rfl rfl (au rfl rfl rfl rfl (aE rfl rfl rfl (ah rfl rfl (ab (aO ?_))))))
   first
   |exact aS rfl rfl ⟨by rw[fX,decide_eq_true (p:=1≤s.length∧s.length≤12) ⟨oN.2 iL,by omega⟩,eR];exact congrArg Value.bool (by rw[lI,decide_eq_true_eq];exact yN s),s9⟩
   |exact aS rfl rfl ⟨by rw[fX,decide_eq_false (p:=1≤s.length∧s.length≤12) (by omega),kL],fun M=>aw _ _⟩
   |(have Un:s=[]:=Classical.not_not.1 iL
     subst Un;exact aS rfl rfl ⟨rfl,fun M=>aw _ _⟩)
 ·refine au rfl rfl rfl rfl (au rfl rfl rfl rfl (au rfl rfl rfl rfl (aE rfl rfl rfl (ad rfl rfl (au rfl rfl rfl rfl (au rfl rfl rfl rfl (au rfl rfl rfl rfl (aE rfl rfl rfl (ah rfl rfl (ab (aO ?_)))))))))))
  first
  |exact aS rfl rfl ⟨by rw[fX,decide_eq_true (p:=1≤s.length∧s.length≤12) ⟨oN.2 iL,by omega⟩,eR];exact congrArg Value.bool (by rw[lI,decide_eq_true_eq];exact yN s),s9⟩
  |exact aS rfl rfl ⟨by rw[fX,decide_eq_false (p:=1≤s.length∧s.length≤12) (by omega),kL],fun M=>aw _ _⟩
  |(have Un:s=[]:=Classical.not_not.1 iL
    subst Un;exact aS rfl rfl ⟨rfl,fun M=>aw _ _⟩)
theorem LH {s:List UInt8} (h:∀(k:Nat) c,s[k]? =some c→iw c=true):s.all iw=true:=fu.2 fun c hc=>by
 obtain⟨k,hk⟩:=bB.1 hc;exact h k c hk
theorem tW {s:List UInt8} {i:Nat} (h:i<s.length):s[i]? =some (s.getD i 0):=by rw[az,ar h];rfl
theorem tf {M:aD} {w:World} {p:Fd} {v:Value} (h:RT.fd.V M w p v):v= .agg #[.string ⟨p.1.toArray⟩,.string ⟨p.2.toArray⟩]:=by
 obtain⟨vs,⟨va,vb,rfl,⟨rfl,_⟩,⟨rfl,_⟩⟩,rfl⟩:=h;rfl
theorem Uo {M:aD} {w:World} {p:Fd} {v:Value} (h:RT.fd.V M w p v):p.1.length≤140737488355328∧p.2.length≤140737488355328:=by
 obtain⟨vs,⟨va,vb,rfl,⟨rfl,h1⟩,⟨rfl,h2⟩⟩,_⟩:=h;exact⟨h1,h2⟩
def Ap:List Fd→List Fd→Nat→Int
 |_,[],n=>if 500<n then 7 else 0
 |seen,f::fs,n=>if fX f.1=false then 4 else if(seen.any fun g=>decide (g.1=f.1))=true then 5 else if mC 0 (words f.2)≠0 then mC 0 (words f.2)else Ap (seen++[f]) fs (n+(words f.2).length)
def lO (d:Dc):Int:=if 8<d.2.length then 7 else Ap [] d.2 0
theorem HR {fs:List Fd} {i n:Nat} {x:Fd} (h:fs[i]? =some x):Ap (fs.take i) (fs.drop i) n=if fX x.1=false then 4 else if((fs.take i).any fun g=>decide (g.1=x.1))=true then 5 else if mC 0 (words x.2)≠0 then mC 0 (words x.2)else Ap (fs.take (i+1)) (fs.drop (i+1)) (n+(words x.2).length):=by
 have dR:=(ao.1 h).1;rw[dB dR,(ao.1 h).2,bK,h];rfl
theorem tX {fs:List Fd} {i n:Nat} (h:fs.length≤i):Ap (fs.take i) (fs.drop i) n=if 500<n then 7 else 0:=by
 rw[gO h];rfl
theorem yO (s:List UInt8) (hs:s.length≤140737488355328) (w0:World):
  Spec Tryz.prog 93 #[.string ⟨s.toArray⟩] w0 (fun v w=>v= .bool (fX s)∧w=w0):=by
 refine bc (args:=[_]) (fn:=Tryz.f93) Tryz.func93 rfl (n:=28) Tryz.ntmps93 (aj (ae (ah rfl rfl (ab (aj (aj (ae (ah rfl rfl (ab (aZ ?_))))))))));refine de (σ:=Nat) (fun i=>[(0,.string ⟨s.toArray⟩),(3,.int .i64 (i:Int))]) (fun i w=>w=w0∧i≤s.length∧∀k c,k<i→s[k]? =some c→iw c=true) (fun i=>s.length-i) 0 (.cons rfl (.cons rfl .nil)) ?_ ?_
 ·exact⟨rfl,bE _,fun k c h=>absurd h (Nat.not_lt_zero k)⟩
 ·rintro i w ⟨rfl,hi,hok⟩;refine aj (aj (ae (ad rfl rfl (ad rfl rfl (Rg.nz aJ rfl rfl (aV (v':= .int .i64 (s.length:Int)) (by simp[ByteArray.size]) (cj rfl rfl rfl (ab ?_))))))));refine bN rfl (fun c2=>?_) (fun c2=>?_)
  ·refine aU (aj (aZ (aj (ae (ad rfl rfl (ad rfl rfl (Rg.HJ (c:=s.getD i 0) aJ rfl rfl rfl (by omega) (by rw[ay];exact tW (by omega)) (cj rfl rfl rfl (ad rfl rfl ?_)))))))));refine aQ (g:=14) rfl (fun aeG=>?_) (fun aeG=>?_)
   ·refine au rfl rfl rfl rfl (au rfl rfl rfl rfl (au rfl rfl rfl rfl (au rfl rfl rfl rfl (aY rfl rfl rfl (ab (nQ rfl (aj (ae (ah rfl rfl (ab (aO ?_)))))))))))
    have hx:s.all iw=false:=cV.2 fun h=>by
     have h2:=fu.1 h _ (aA (tW (s:=s) (i:=i) (by omega)));simp only[iw,decide_eq_true_eq]at h2;omega
    exact aS rfl rfl ⟨by rw[fX,hx,Bool.and_false],rfl⟩
   ·refine al rfl rfl (ad rfl rfl (al rfl rfl (ad rfl rfl (al rfl rfl (Rg.HJ (c:=s.getD i 0) aJ rfl rfl rfl (by omega) (by rw[ay];exact tW (by omega)) (al rfl rfl (jd rfl rfl rfl (aE rfl rfl rfl (ab ?_)))))))));refine bN rfl (fun c4=>?_) (fun c4=>?_)
    ·refine aj (ae (ah rfl rfl (ab (aO ?_))))
     have hx:s.all iw=false:=cV.2 fun h=>by
      have h2:=fu.1 h _ (aA (tW (s:=s) (i:=i) (by omega)));simp only[iw,decide_eq_true_eq]at h2;omega
     exact aS rfl rfl ⟨by rw[fX,hx,Bool.and_false],rfl⟩
    ·refine aU (ae (ad rfl rfl (bF rfl rfl rfl (by omega) (ah rfl rfl (ab ?_)))));refine⟨rfl,i+1,(.cons rfl (.cons rfl .nil)),?_,?_⟩
     ·exact⟨rfl,by omega,fun k c h hc=>by
       rcases cI k i with h2|h2
       ·exact hok k c h2 hc
       ·obtain rfl:k=i:=by omega
        rw[tW (by omega)]at hc;cases hc;simp only[iw,decide_eq_true_eq];omega⟩
     ·omega
  ·refine cG (aj (ae (ad rfl rfl (Rg.nz aJ rfl rfl (aV (v':= .int .i64 (s.length:Int)) (by simp[ByteArray.size]) (dV rfl rfl rfl (ad rfl rfl ?_)))))));refine aQ (g:=23) rfl (fun ot=>?_) (fun ot=>?_)
   ·refine al rfl rfl (ad rfl rfl (al rfl rfl (Rg.nz aJ rfl rfl (aV (v':= .int .i64 (s.length:Int)) (by simp[ByteArray.size]) (al rfl rfl (gK rfl rfl rfl (aY rfl rfl rfl (ah rfl rfl (ab (aO ?_))))))))));have ha:s.all iw=true:=LH fun k c hc=>hok k c (by have:=(ao.1 hc).1;omega) hc
    first
    |exact aS rfl rfl ⟨by rw[fX,ha,Bool.and_true];exact congrArg Value.bool (decide_eq_decide.2 (by omega)),rfl⟩
    |exact aS rfl rfl ⟨by rw[fX,ha,Bool.and_true];exact congrArg Value.bool (decide_eq_false (by omega)).symm,rfl⟩
   ·refine au rfl rfl rfl rfl (au rfl rfl rfl rfl (au rfl rfl rfl rfl (aE rfl rfl rfl (ah rfl rfl (ab (aO ?_))))));have ha:s.all iw=true:=LH fun k c hc=>hok k c (by have:=(ao.1 hc).1;omega) hc
    first
    |exact aS rfl rfl ⟨by rw[fX,ha,Bool.and_true];exact congrArg Value.bool (decide_eq_decide.2 (by omega)),rfl⟩
    |exact aS rfl rfl ⟨by rw[fX,ha,Bool.and_true];exact congrArg Value.bool (decide_eq_false (by omega)).symm,rfl⟩
theorem Jg {M:aD} {o:Fd} {v0:Value} (w0:World) (hM:Lt M w0) (hv:RT.fd.V M w0 o v0) {nm:List UInt8} {t:Value} {bf:Nat} (g:w0.heap[bf]? =some (.cells #[.string ⟨nm.toArray⟩,t] 166 (0,0))) (A1:M bf):
  Spec Tryz.prog 131 #[v0,.pointer (some ⟨bf,0,none⟩)] w0 (fun v w=>v= .bool (decide (o.1=nm))∧Step M w0 M w aC):=by
 refine bc (args:=[_,_]) (fn:=Tryz.f131) Tryz.func131 rfl (n:=9) Tryz.ntmps131 ?_;have S:Step M w0 M w0 aC:=(aw _ _).cA (fun _ h=>h.elim) (fun _ h=>h.elim);refine aj (ae ?_);refine Rg.pb (A:=RT.fd) rfl rfl hM hv rfl (fun u0 w1 dn s0 _=>?_);have:=ak g;replace A1:=(s0.mem _ this).2 A1;replace g:=s0.aK g;replace hM:=s0.lt hM;have:=S.size;replace S:=S.aB s0;refine ah rfl rfl (ab (aj (ae ?_)));refine aN (M:=M) (A:=RT.fd) (B:=RT.str) cv rfl rfl I9 (by decide) (Xd) rfl rfl (by decide) (by assumption) (by repeat (first|exact aq _ _|refine a8 (bD (by assumption)) ?_)) (fun B6 ni=>?_);refine bT (M:=M) aJ rfl rfl rfl rfl rfl ni (aq _ _) (fun v1 A2=>?_);obtain rfl:=fS A2;refine bG (o':=0) cv rfl rfl I9 (by decide) rfl rfl (aM aJ rfl rfl rfl (by assumption) rfl (Rg.HA (p:=o.1) (q:=nm) rfl rfl rfl (ah rfl rfl (ab (aO ?_)))));exact aS rfl rfl ⟨rfl,S⟩
theorem Gg {M:aD} {fs:List Fd} {v0:Value} (w0:World) (hM:Lt M w0) (hv:(RT.fd.sl).V M w0 fs v0) {nm:List UInt8} {t:Value} {bf:Nat} (g:w0.heap[bf]? =some (.cells #[.string ⟨nm.toArray⟩,t] 166 (0,0))) (A1:M bf):
  Spec Tryz.prog 185 #[v0,.func (.func 131) #[] #[.pointer (some ⟨bf,0,none⟩)]] w0 (fun v w=>(∃k:Int,v= .int .i64 k∧(0≤k↔(fs.any fun g=>decide (g.1=nm))=true)∧ -1≤k∧k≤9223372036854775807)∧Step M w0 M w aC):=by
 have Fq:=dy hv;refine bc (args:=[_,_]) (fn:=Tryz.f185) Tryz.func185 rfl (n:=19) Tryz.ntmps185 ?_;have S:Step M w0 M w0 aC:=(aw _ _).cA (fun _ h=>h.elim) (fun _ h=>h.elim);refine aj (ae (ah rfl rfl (ab (aj (aj (ae (ad rfl rfl (bM bu rfl hv rfl (ad rfl rfl (ab (aZ ?_)))))))))));refine de (σ:=Nat) (fun i=>[(0,v0),(1,.func (.func 131) #[] #[.pointer (some ⟨bf,0,none⟩)]),(6,v0),(7,.int .i64 (fs.length:Int)),(8,.int .i64 (i:Int))]) (fun i w=>Lt M w∧Step M w0 M w aC∧(w.heap[bf]? =some (.cells #[.string ⟨nm.toArray⟩,t] 166 (0,0)))∧(RT.fd.sl).V M w fs v0∧i≤fs.length∧∀k o,k<i→fs[k]? =some o→o.1≠nm) (fun i=>fs.length-i) 0 (.cons rfl (.cons rfl (.cons rfl (.cons rfl (.cons rfl .nil))))) ?_ ?_
 ·exact⟨hM,S,g,hv,bE _,fun k c h=>absurd h (Nat.not_lt_zero k)⟩
 ·rintro i w ⟨hM,S,g,hv,hi,hok⟩;refine aj (ae (cj rfl rfl rfl (ab (aj ?_))));refine bN rfl (fun c2=>?_) (fun c2=>?_)
  ·refine aU (aj (aZ (aj (ae (ad rfl rfl (ah rfl rfl (ab (aj (ae (ad rfl rfl (ad rfl rfl ?_)))))))))));refine ad rfl rfl ?_;refine cy (M:=M) bu kE rfl rfl rfl hv (aq _ _) (by omega) (fun u4 o wO Ft=>?_);refine cX (M:=M) (A:=RT.fd) cv rfl kE (by decide) rfl rfl rfl Ft (aq _ _) (fun v4 qf=>?_);rw[ay]at wO;refine rr (first:=[]) (captured:=[.pointer (some ⟨bf,0,none⟩)]) rfl rfl rfl adw (Jg _ hM qf g A1) (fun r5 w5 hc=>?_);obtain⟨rfl,s5⟩:=hc;have:=ak g;replace A1:=(s5.mem _ this).2 A1;replace g:=s5.aK g;replace hv:=hv.le s5.le;replace hM:=s5.lt hM;have:=S.size;replace S:=S.aB s5;refine ab ?_;refine bN rfl (fun c4=>?_) (fun c4=>?_)
   ·refine aj (ae (ad rfl rfl (ah rfl rfl (ab (aO ?_)))));exact aS rfl rfl ⟨⟨_,rfl,⟨fun _=>uU.2 ⟨o,aA wO,by simpa using(by assumption)⟩,fun _=>by omega⟩,by omega,by omega⟩,S.back⟩
   ·refine aU (ae (bF rfl rfl rfl (by omega) (ad rfl rfl (ab ?_))));refine⟨rfl,i+1,(.cons rfl (.cons rfl (.cons rfl (.cons rfl (.cons rfl .nil))))),?_,?_⟩
    ·exact⟨hM,S,g,hv,by omega,fun k o' h hc=>by
      rcases cI k i with h2|h2
      ·exact hok k o' h2 hc
      ·obtain rfl:k=i:=by omega
       rw[wO]at hc;cases hc;assumption⟩
    ·omega
  ·refine cG (aj (ae (ah rfl rfl (ab (aO ?_)))))
   exact aS rfl rfl ⟨⟨-1,rfl,⟨fun h=>by omega,fun h=>by
    obtain⟨o,ho,he⟩:=uU.1 h;obtain⟨k,hk⟩:=bB.1 ho;exact absurd (by simpa using he) (hok k o (by have:=(ao.1 hk).1;omega) hk)⟩,by omega,by omega⟩,S.back⟩
theorem DF {M:aD} {fs:List Fd} {v0:Value} (w0:World) (hM:Lt M w0) (hv:(RT.fd.sl).V M w0 fs v0) {nm:List UInt8} {t:Value} {bf:Nat} (g:w0.heap[bf]? =some (.cells #[.string ⟨nm.toArray⟩,t] 166 (0,0))) (A1:M bf):
  Spec Tryz.prog 130 #[v0,.func (.func 131) #[] #[.pointer (some ⟨bf,0,none⟩)]] w0 (fun v w=>v= .bool (fs.any fun g=>decide (g.1=nm))∧Step M w0 M w aC):=by
 refine bc (args:=[_,_]) (fn:=Tryz.f130) Tryz.func130 rfl (n:=9) Tryz.ntmps130 ?_;have S:Step M w0 M w0 aC:=(aw _ _).cA (fun _ h=>h.elim) (fun _ h=>h.elim);refine aj (ae (ah rfl rfl (ab (aj (ae (ad rfl rfl (ad rfl rfl ?_)))))));refine aX rfl rfl adD (Gg _ hM hv g A1) (fun r1 w1 hc=>?_);obtain⟨⟨k,rfl,hk,_⟩,s1⟩:=hc;have:=ak g;replace A1:=(s1.mem _ this).2 A1;replace g:=s1.aK g;replace hv:=hv.le s1.le;replace hM:=s1.lt hM;have:=S.size;replace S:=S.aB s1;refine dV rfl rfl rfl (ah rfl rfl (ab (aO ?_)));exact aS rfl rfl ⟨congrArg Value.bool (by rw[lI,decide_eq_true_eq];exact hk),S⟩
theorem LI {M:aD} {d:Dc} {v0:Value} (w0:World) (hM:Lt M w0) (hv:RT.dc.V M w0 d v0) (hl:∀f∈d.2,f.1.length≤900000∧f.2.length≤900000):
  Spec Tryz.prog 86 #[v0] w0 (fun v w=>v= .int .i64 (lO d)∧Step M w0 M w aC):=by
 have jM:=hM;refine bc (args:=[_]) (fn:=Tryz.f86) Tryz.func86 rfl (n:=49) Tryz.ntmps86 ?_;have S:Step M w0 M w0 aC:=(aw _ _).cA (fun _ h=>h.elim) (fun _ h=>h.elim);refine aj (ae ?_);refine Rg.pb (A:=RT.dc) rfl rfl hM hv rfl (fun u0 w1 dn s0 _=>?_);replace hM:=s0.lt hM;have:=S.size;replace S:=S.aB s0;refine ah rfl rfl (ab (aj (aj (ae ?_))));refine aN (M:=M) (A:=RT.dc) (B:=(RT.fd).sl) bg rfl rfl vE (by decide) (Jd) rfl rfl (by decide) (by assumption) (by repeat (first|exact aq _ _|refine a8 (bD (by assumption)) ?_)) (fun B6 ni=>?_);refine bT (M:=M) bu rfl rfl rfl rfl rfl (by assumption) (by repeat (first|exact aq _ _|refine a8 (bD (by assumption)) ?_)) (fun Ar nj=>?_);refine bM bu rfl nj rfl (jd rfl rfl rfl (ab ?_));refine bN rfl (fun c1=>?_) (fun c1=>?_)
 ·refine aj (ae (ah rfl rfl (ab (aO ?_))));exact aS rfl rfl ⟨by rw[lO,if_pos (by omega)],S.back⟩
 ·refine aU (aj (ae (ah rfl rfl (ab (aj (aj (ae ?_)))))));refine aN (M:=M) (A:=RT.dc) (B:=(RT.fd).sl) bg rfl rfl vE (by decide) (Jd) rfl rfl (by decide) (by assumption) (by repeat (first|exact aq _ _|refine a8 (bD (by assumption)) ?_)) (fun Uq HS=>?_);refine bT (M:=M) bu rfl rfl rfl rfl rfl (by assumption) (by repeat (first|exact aq _ _|refine a8 (bD (by assumption)) ?_)) (fun Ur LJ=>?_);refine bM bu rfl LJ rfl (ad rfl rfl (ab (aZ ?_)));refine de (σ:=Nat×Nat) (fun q=>[(1,u0),(3,.int .i64 (q.2:Int)),(13,Ur),(14,.int .i64 (d.2.length:Int)),(15,.int .i64 (q.1:Int))]) (fun q w=>∃M',Lt M' w∧Step M w0 M' w aC∧cN RT.dc M' w u0 d∧(RT.fd.sl).V M' w d.2 Ur∧lO d=Ap (d.2.take q.1) (d.2.drop q.1) q.2∧q.1≤d.2.length∧q.2≤900001*q.1) (fun q=>d.2.length-q.1) (0,0) (.cons rfl (.cons rfl (.cons rfl (.cons rfl (.cons rfl .nil))))) ?_ ?_
  ·exact⟨M,hM,S,dn,LJ,by rw[lO,if_neg (by omega)];rfl,bE _,aT _⟩
  ·rintro⟨i,n⟩ w ⟨M1,hM,S,dn,lp,Gh,hi,hn⟩;dsimp only at Gh hi hn ⊢;refine aj (ae (cj rfl rfl rfl (ab (aj ?_))));refine bN rfl (fun c5=>?_) (fun c5=>?_)
   ·refine aU (aj (aZ (aj (ae (ad rfl rfl ?_)))));refine cy (M:=M1) bu kE rfl rfl rfl lp (aq _ _) (by omega) (fun u6 x Kg Gc=>?_);refine cX (M:=M1) (A:=RT.fd) cv rfl kE (by decide) rfl rfl rfl Gc (aq _ _) (fun v6 wT=>?_);rw[ay]at Kg;obtain rfl:=tf wT;have kD:=HR (n:=n) Kg;have qV:=hl _ (aA Kg);refine dP M1 kE rfl (fun Us aeH aot aou ot LK=>?_);obtain⟨DG,LL⟩:∃M',M'=ins M1 Us:=⟨_,rfl⟩;rw[←LL]at LK;have mD:DG Us:=by rw[LL];exact .inl rfl
    change aeH.heap[Us]? =some (.cells #[.string ⟨#[]⟩,.string ⟨#[]⟩] _ _)at ot;replace dn:=dn.le (by decide) LK.le;replace lp:=lp.le LK.le;replace hM:=LK.lt hM;have:=S.size;replace S:=S.aB LK;refine ah rfl rfl ?_;refine dC (M:=DG) (vs:=[.string ⟨x.1.toArray⟩,.string ⟨x.2.toArray⟩]) kE rfl rfl (by intro u hu;simp at hu;rcases hu with rfl|rfl<;>rfl) rfl rfl ot mD (fun w6 g6 s6=>?_);have:=ak ot;replace mD:=(s6.mem _ this).2 mD;replace dn:=dn.le (by decide) s6.le;replace lp:=lp.le s6.le;replace hM:=s6.lt hM;have:=S.size;replace S:=S.trans s6 (fun k hk h=>by have h:_=_:=h;subst h;first|(exfalso;omega)|(show _≤_;omega)|exact⟨by first|omega|assumption,(S.mem _ hk).1 ((s6.mem _ (ak ot)).1 mD)⟩|exact .inl rfl|exact .inr rfl|exact .inr (.inl rfl)|exact .inr (.inr rfl)|exact .inr (.inr (.inl rfl))|exact rfl);have RL:=g6;clear ot;have ot:=RL;clear RL;refine ab (aj (ae (bG (o':=1) cv rfl rfl I9 (by decide) rfl rfl (aM aJ rfl rfl rfl (by assumption) rfl ?_))));refine aX rfl rfl adt (Jc _ hM qV.2) (fun r7 w7 hc=>?_);obtain⟨⟨u7,rfl,hu7⟩,s7⟩:=hc;have:=ak ot;replace mD:=(s7.mem _ this).2 mD;replace ot:=s7.aK ot;replace dn:=dn.le (by decide) s7.le;replace lp:=lp.le s7.le;replace hM:=s7.lt hM;have:=S.size;replace S:=S.aB s7;refine ad rfl rfl (bW rfl rfl rfl (bW rfl rfl rfl (ah rfl rfl (ah rfl rfl (ab (aj (aZ (aj (ae (bG (o':=0) cv rfl rfl I9 (by decide) rfl rfl (aM aJ rfl rfl rfl (by assumption) rfl ?_)))))))))));refine aX rfl rfl adu (Jf x.1 (by omega) _) (fun r8 w8 hc=>?_);obtain⟨rfl,s8_⟩:=hc;have s8:=s8_ DG;have:=ak ot;replace mD:=(s8.mem _ this).2 mD;replace ot:=s8.aK ot;replace dn:=dn.le (by decide) s8.le;replace lp:=lp.le s8.le;replace hM:=s8.lt hM
    have:=S.size;replace S:=S.aB s8;refine lH rfl rfl (aV (v':= .bool (decide (fX x.1=false))) (by cases fX x.1<;>rfl) (ah rfl rfl (ab ?_)));refine bN rfl (fun c8=>?_) (fun c8=>?_)
    ·refine aj (ae (ah rfl rfl (ab (aO ?_))));exact aS rfl rfl ⟨by rw[Gh,kD,if_pos (by assumption)],S.back⟩
    ·refine aj (ae ?_);refine aN (M:=DG) (A:=RT.dc) (B:=(RT.fd).sl) bg rfl rfl vE (by decide) (Jd) rfl rfl (by decide) (by assumption) (by repeat (first|exact aq _ _|refine a8 (bD (by assumption)) ?_)) (fun YL Ut=>?_);refine bT (M:=DG) bu rfl rfl rfl rfl rfl (by assumption) (by repeat (first|exact aq _ _|refine a8 (bD (by assumption)) ?_)) (fun YM LM=>?_);refine ad rfl rfl ?_;refine Rg.Pm bu kE rfl rfl rfl LM (by omega) (fun u10 PV=>?_);rw[ay]at PV;refine kb (xs:=[]) (ys:=[.tmp 5]) rfl rfl rfl ?_;refine aX rfl rfl adv (DF _ hM PV ot mD) (fun r10 w10 hc=>?_);obtain⟨rfl,yP⟩:=hc;have:=ak ot;replace mD:=(yP.mem _ this).2 mD;replace ot:=yP.aK ot;replace dn:=dn.le (by decide) yP.le;replace lp:=lp.le yP.le;replace hM:=yP.lt hM;have:=S.size;replace S:=S.aB yP;refine ah rfl rfl (aV (v':= .bool (decide (((d.2.take i).any fun g=>decide (g.1=x.1))=true))) (by cases((d.2.take i).any fun g=>decide (g.1=x.1))<;>rfl) (ab ?_));refine bN rfl (fun c10=>?_) (fun c10=>?_)
     ·refine aj (ae (ah rfl rfl (ab (aO ?_))));exact aS rfl rfl ⟨by rw[Gh,kD,if_neg (by assumption),if_pos (by assumption)],S.back⟩
     ·refine aj (ae (ad rfl rfl (eM rfl rfl rfl (ah rfl rfl (ab ?_)))));refine bN rfl (fun T4=>?_) (fun T4=>?_)
      ·refine aj (ae (ad rfl rfl (ah rfl rfl (ab (aO ?_)))));exact aS rfl rfl ⟨by rw[Gh,kD,if_neg (by assumption),if_neg (by assumption),if_pos (by assumption)];rfl,S.back⟩
      ·refine aU (ae (ad rfl rfl ?_));have RM:mC 0 (words x.2)=0:=Classical.not_not.1 T4;obtain⟨a,cap,rfl⟩:=hu7 RM;have hwl:=qY x.2;refine ad rfl rfl (Rg.mn Tryz.underlying212 rfl rfl (bF rfl rfl rfl (by omega) (ah rfl rfl (ab (ae (bF rfl rfl rfl (by omega) (ad rfl rfl (ab ?_))))))));refine⟨rfl,(i+1,n+(words x.2).length),(.cons rfl (.cons rfl (.cons rfl (.cons rfl (.cons rfl .nil))))),?_,?_⟩
       ·exact⟨_,hM,S,dn,lp,by rw[Gh,kD,if_neg (by assumption),if_neg (by assumption),if_neg T4],by dsimp only;omega,by dsimp only;omega⟩
       ·dsimp only;omega
   ·refine cG (aj (aj (ae (ad rfl rfl (jd rfl rfl rfl (ab ?_))))));refine bN rfl (fun Xe=>?_) (fun Xe=>?_)
    ·refine aj (ae (ah rfl rfl (ab (aO ?_))));exact aS rfl rfl ⟨by rw[Gh,tX (by omega),if_pos (by omega)],S.back⟩
    ·refine aU (aj (ae (ah rfl rfl (ab (aO ?_)))));exact aS rfl rfl ⟨by rw[Gh,tX (by omega),if_neg (by omega)],S.back⟩
end Go.K

/- What the law 'MergeMerges' needs of walks and plain Lean, part 2: nothing is assumed beyond the texts that it imports. -/
import Derived.ChangeKeysEq
import Derived.Ground.Names2Prog
import Derived.KernelRfl
import Derived.Laws.IdiomCopy
import Derived.Laws.MakeOwn
import Derived.Laws.StructEq
import Derived.Lib.RuneBytes
import Derived.Lib.SliceRun
import Derived.Maps.OwnSet
import Derived.Shelf.SlGeneric
import Derived.Shelf.Slices.SearchI
import Derived.Shelf.Small.Strs
import Derived.Shelf.Small.Utf8
import Derived.Shelf.Strings.Builder1
import Derived.Shelf.Strings.BuilderRune
import Derived.Shelf.Strings.SlTrimAscii
import Derived.Test.YtbobcaffmbaadaaGreatDoorProg
import Derived.Test.YtbobcaffmbaadaaGreatDoorZMergeMerges1
set_option linter.unusedVariables false
set_option linter.unusedSimpArgs false
theorem ab:type_of% @Go.K.Rg.move:=@Go.K.Rg.move
theorem ad:type_of% @Go.K.Rg.nil:=@Go.K.Rg.nil
theorem ah:type_of% @Go.Proofs.Tryz.underlying37:=@Go.Proofs.Tryz.underlying37
theorem aj:type_of% @List.getElem?_eq_some_iff:=@List.getElem?_eq_some_iff
theorem ak:type_of% @Go.K.Rg.aK:=@Go.K.Rg.aK
theorem al:type_of% @List.getElem?_eq_getElem:=@List.getElem?_eq_getElem
theorem an:type_of% @Int.toNat_natCast:=@Int.toNat_natCast
theorem ao:type_of% @Go.K.Rg.bS:=@Go.K.Rg.bS
theorem aq:type_of% @Go.Proofs.Tryz.underlying3:=@Go.Proofs.Tryz.underlying3
theorem ar:type_of% @Option.some.inj:=@Option.some.inj
theorem au:type_of% @List.mem_of_getElem?:=@List.mem_of_getElem?
theorem ax:type_of% @List.getD_eq_getElem?_getD:=@List.getD_eq_getElem?_getD
theorem ay:type_of% @List.length_map:=@List.length_map
theorem az:type_of% @Go.Proofs.Tryz.underlying57:=@Go.Proofs.Tryz.underlying57
theorem aB:type_of% @Go.K.Rg.assign:=@Go.K.Rg.assign
theorem aD:type_of% @Go.K.Rg.fieldAddr:=@Go.K.Rg.fieldAddr
theorem aF:type_of% @Go.K.cz.cons:=@Go.K.cz.cons
theorem aG:type_of% @Go.Proofs.Tryz.underlying9:=@Go.Proofs.Tryz.underlying9
theorem aH:type_of% @Go.K.T.region:=@Go.K.T.region
theorem aI:type_of% @Go.K.T.seq:=@Go.K.T.seq
theorem aL:type_of% @List.take_of_length_le:=@List.take_of_length_le
theorem aM:type_of% @Go.K.Rg.bP:=@Go.K.Rg.bP
theorem aN:type_of% @Nat.le_refl:=@Nat.le_refl
theorem aO:type_of% @Go.K.ca.cons:=@Go.K.ca.cons
theorem aR:type_of% @Go.K.T.skip:=@Go.K.T.skip
theorem aS:type_of% @Go.K.T.block:=@Go.K.T.block
theorem aT:type_of% @Go.K.T.ret:=@Go.K.T.ret
theorem aU:type_of% @List.length_take:=@List.length_take
theorem aV:type_of% @Go.K.Rg.cd:=@Go.K.Rg.cd
theorem aW:type_of% @Go.K.Rg.bN:=@Go.K.Rg.bN
theorem aY:type_of% @List.length_append:=@List.length_append
theorem aZ:type_of% @Go.K.Le.trans:=@Go.K.Le.trans
theorem a8:type_of% @Go.K.Rg.call:=@Go.K.Rg.call
theorem bc:type_of% @Go.K.Rg.eqv:=@Go.K.Rg.eqv
theorem bg:type_of% @Go.Proofs.Tryz.underlying69:=@Go.Proofs.Tryz.underlying69
theorem bj:type_of% @List.getElem?_map:=@List.getElem?_map
theorem bm:type_of% @Go.K.Rg.cy:=@Go.K.Rg.cy
theorem bu:type_of% @Go.Proofs.Tryz.underlying80:=@Go.Proofs.Tryz.underlying80
theorem bB:type_of% @List.take_add_one:=@List.take_add_one
theorem bC:type_of% @Nat.zero_le:=@Nat.zero_le
theorem bD:type_of% @Go.Proofs.Tryz.underlying67:=@Go.Proofs.Tryz.underlying67
theorem bE:type_of% @Go.K.Rg.load:=@Go.K.Rg.load
theorem bG:type_of% @Go.K.Rg.dm:=@Go.K.Rg.dm
theorem bH:type_of% @Go.K.Le.refl:=@Go.K.Le.refl
theorem bI:type_of% @Go.K.Step.le:=@Go.K.Step.le
theorem bJ:type_of% @Go.Proofs.Tryz.underlying60:=@Go.Proofs.Tryz.underlying60
theorem bK:type_of% @Go.K.Rg.cZ:=@Go.K.Rg.cZ
theorem bM:type_of% @Go.K.T.dY:=@Go.K.T.dY
theorem bQ:type_of% @List.mem_iff_getElem?:=@List.mem_iff_getElem?
theorem bR:type_of% @Go.K.Rg.cU:=@Go.K.Rg.cU
theorem bT:type_of% @Go.Proofs.Tryz.underlying72:=@Go.Proofs.Tryz.underlying72
theorem bU:type_of% @Option.toList_some:=@Option.toList_some
theorem bV:type_of% @Go.K.Rg.cK:=@Go.K.Rg.cK
theorem bW:type_of% @Go.Proofs.Tryz.underlying83:=@Go.Proofs.Tryz.underlying83
theorem bX:type_of% @Go.K.Rg.idx:=@Go.K.Rg.idx
theorem bZ:type_of% @List.mem_cons_self:=@List.mem_cons_self
theorem b9:type_of% @List.mem_singleton:=@List.mem_singleton
theorem cb:type_of% @List.length_singleton:=@List.length_singleton
theorem cf:type_of% @Go.Proofs.Tryz.underlying204:=@Go.Proofs.Tryz.underlying204
theorem cg:type_of% @Go.Proofs.Tryz.underlying155:=@Go.Proofs.Tryz.underlying155
theorem ch:type_of% @Go.K.Rg.fT:=@Go.K.Rg.fT
theorem cj:type_of% @Go.K.Rg.ef:=@Go.K.Rg.ef
theorem ck:type_of% @List.mem_map:=@List.mem_map
theorem cn:type_of% @Go.Proofs.Tryz.underlying119:=@Go.Proofs.Tryz.underlying119
theorem cq:type_of% @Go.K.Rg.extract:=@Go.K.Rg.extract
theorem cu:type_of% @Go.K.Rg.nilCheck:=@Go.K.Rg.nilCheck
theorem cv:type_of% @Bool.and_eq_true:=@Bool.and_eq_true
theorem cw:type_of% @Go.Proofs.Tryz.underlying78:=@Go.Proofs.Tryz.underlying78
theorem cx:type_of% @Go.Proofs.Tryz.underlying180:=@Go.Proofs.Tryz.underlying180
theorem cA:type_of% @Go.Sem.run_bind:=@Go.Sem.run_bind
theorem cB:type_of% @Go.Proofs.Tryz.underlying124:=@Go.Proofs.Tryz.underlying124
theorem cE:type_of% @List.getElem?_eq_none:=@List.getElem?_eq_none
theorem cF:type_of% @Go.K.Rg.dF:=@Go.K.Rg.dF
theorem cG:type_of% @List.map_append:=@List.map_append
theorem cH:type_of% @Go.Proofs.Tryz.underlying58:=@Go.Proofs.Tryz.underlying58
theorem cI:type_of% @List.mem_cons_of_mem:=@List.mem_cons_of_mem
theorem cJ:type_of% @List.pairwise_iff_getElem:=@List.pairwise_iff_getElem
theorem cN:type_of% @Go.K.Rg.append:=@Go.K.Rg.append
theorem cO:type_of% @Go.K.T.exit:=@Go.K.T.exit
theorem cP:type_of% @List.mem_append:=@List.mem_append
theorem cQ:type_of% @Nat.lt_or_ge:=@Nat.lt_or_ge
theorem cR:type_of% @List.mem_cons:=@List.mem_cons
theorem cT:type_of% @Go.Proofs.Tryz.underlying166:=@Go.Proofs.Tryz.underlying166
theorem cW:type_of% @Go.K.Rg.dC:=@Go.K.Rg.dC
theorem cY:type_of% @List.getElem?_take:=@List.getElem?_take
theorem db:type_of% @List.length_replicate:=@List.length_replicate
theorem dd:type_of% @Go.Result.andThen_ok:=@Go.Result.andThen_ok
theorem dg:type_of% @Go.K.T.loop:=@Go.K.T.loop
theorem dh:type_of% @Go.K.Own.nil:=@Go.K.Own.nil
theorem dj:type_of% @Decidable.not_not:=@Decidable.not_not
theorem dp:type_of% @Go.Proofs.Tryz.underlying29:=@Go.Proofs.Tryz.underlying29
theorem dq:type_of% @Go.Proofs.Tryz.underlying5:=@Go.Proofs.Tryz.underlying5
theorem dr:type_of% @List.pairwise_map:=@List.pairwise_map
theorem dw:type_of% @Eq.symm:=@Eq.symm
theorem dz:type_of% @Go.Proofs.Tryz.underlying121:=@Go.Proofs.Tryz.underlying121
theorem dA:type_of% @Option.map_some:=@Option.map_some
theorem dD:type_of% @Go.K.jW.nil:=@Go.K.jW.nil
theorem dE:type_of% @Go.K.Step.aP:=@Go.K.Step.aP
theorem dG:type_of% @List.length_cons:=@List.length_cons
theorem dH:type_of% @Go.Proofs.Tryz.underlying71:=@Go.Proofs.Tryz.underlying71
theorem dL:type_of% @List.length_eq_zero_iff:=@List.length_eq_zero_iff
theorem dN:type_of% @List.getElem?_set:=@List.getElem?_set
theorem dO:type_of% @Bool.eq_false_iff:=@Bool.eq_false_iff
theorem dP:type_of% @Go.K.Rg.kz:=@Go.K.Rg.kz
theorem dQ:type_of% @Go.K.bO.load:=@Go.K.bO.load
theorem dS:type_of% @List.length_drop:=@List.length_drop
theorem dV:type_of% @List.drop_eq_getElem_cons:=@List.drop_eq_getElem_cons
theorem dW:type_of% @Go.Proofs.Tryz.underlying178:=@Go.Proofs.Tryz.underlying178
theorem ec:type_of% @List.getElem?_toArray:=@List.getElem?_toArray
theorem ei:type_of% @Array.getElem?_setIfInBounds:=@Array.getElem?_setIfInBounds
theorem ej:type_of% @Go.K.Rg.ep:=@Go.K.Rg.ep
theorem ew:type_of% @List.nil_append:=@List.nil_append
theorem ey:type_of% @Go.K.bO.move:=@Go.K.bO.move
theorem ez:type_of% @Go.Proofs.Tryz.underlying183:=@Go.Proofs.Tryz.underlying183
theorem eA:type_of% @Go.K.Rg.alloc:=@Go.K.Rg.alloc
theorem eE:type_of% @Option.some.injEq:=@Option.some.injEq
theorem eF:type_of% @List.take_succ_eq_append_getElem:=@List.take_succ_eq_append_getElem
theorem eG:type_of% @Nat.le_trans:=@Nat.le_trans
theorem eJ:type_of% @List.append_nil:=@List.append_nil
theorem eM:type_of% @Go.Proofs.Tryz.underlying153:=@Go.Proofs.Tryz.underlying153
theorem eP:type_of% @Go.K.Rg.mQ:=@Go.K.Rg.mQ
theorem eQ:type_of% @Go.K.fU.all:=@Go.K.fU.all
theorem eR:type_of% @List.append_assoc:=@List.append_assoc
theorem eS:type_of% @List.ext_getElem?:=@List.ext_getElem?
theorem eV:type_of% @List.pairwise_cons:=@List.pairwise_cons
theorem eZ:type_of% @Go.Proofs.Tryz.underlying196:=@Go.Proofs.Tryz.underlying196
theorem fc:type_of% @Prod.mk.injEq:=@Prod.mk.injEq
theorem fe:type_of% @List.map_cons:=@List.map_cons
theorem fg:type_of% @List.map_toArray:=@List.map_toArray
theorem fh:type_of% @Nat.zero_add:=@Nat.zero_add
theorem fk:type_of% @Go.K.bO.field:=@Go.K.bO.field
theorem fm:type_of% @Go.Proofs.Tryz.underlying4:=@Go.Proofs.Tryz.underlying4
theorem fq:type_of% @Go.K.eB.refl:=@Go.K.eB.refl
theorem fu:type_of% @Go.Proofs.Tryz.underlying207:=@Go.Proofs.Tryz.underlying207
theorem fz:type_of% @List.length_filter_le:=@List.length_filter_le
theorem fC:type_of% @List.not_mem_nil:=@List.not_mem_nil
theorem fH:type_of% @Go.K.Rg.om:=@Go.K.Rg.om
theorem fI:type_of% @Go.K.Rg.fD:=@Go.K.Rg.fD
theorem fJ:type_of% @Nat.lt_trichotomy:=@Nat.lt_trichotomy
theorem fK:type_of% @Bool.true_and:=@Bool.true_and
theorem fM:type_of% @Nat.mul_le_mul_right:=@Nat.mul_le_mul_right
theorem fN:type_of% @Nat.mul_one:=@Nat.mul_one
theorem fP:type_of% @List.getElem?_append_left:=@List.getElem?_append_left
theorem fQ:type_of% @Go.K.Rg.ku:=@Go.K.Rg.ku
theorem fR:type_of% @List.drop_eq_nil_of_le:=@List.drop_eq_nil_of_le
theorem fS:type_of% @Go.Proofs.Tryz.underlying46:=@Go.Proofs.Tryz.underlying46
theorem fW:type_of% @Go.K.Rg.gY:=@Go.K.Rg.gY
theorem fX:type_of% @List.length_set:=@List.length_set
theorem fY:type_of% @Go.Proofs.Tryz.underlying142:=@Go.Proofs.Tryz.underlying142
theorem gG:type_of% @Go.Value.slice.injEq:=@Go.Value.slice.injEq
theorem gH:type_of% @Nat.eq_or_lt_of_le:=@Nat.eq_or_lt_of_le
theorem gI:type_of% @Option.map_none:=@Option.map_none
theorem gJ:type_of% @Go.K.Rg.gB:=@Go.K.Rg.gB
theorem gL:type_of% @List.drop_of_length_le:=@List.drop_of_length_le
theorem gM:type_of% @List.all_eq_true:=@List.all_eq_true
theorem gT:type_of% @Go.K.Own.close:=@Go.K.Own.close
theorem gU:type_of% @List.mem_map_of_mem:=@List.mem_map_of_mem
theorem gV:type_of% @List.getD_cons_zero:=@List.getD_cons_zero
theorem gX:type_of% @List.getD_cons_succ:=@List.getD_cons_succ
theorem ic:type_of% @Go.Proofs.Tryz.underlying0:=@Go.Proofs.Tryz.underlying0
theorem ie:type_of% @Go.K.Rg.build:=@Go.K.Rg.build
theorem iu:type_of% @Go.K.pY.nil:=@Go.K.pY.nil
theorem iF:type_of% @Go.IntWalk.u64_in:=@Go.IntWalk.u64_in
theorem iG:type_of% @Go.K.Rg.td:=@Go.K.Rg.td
theorem iH:type_of% @List.mem_append_left:=@List.mem_append_left
theorem iL:type_of% @Go.Proofs.Tryz.underlying139:=@Go.Proofs.Tryz.underlying139
theorem iM:type_of% @Go.Proofs.Tryz.underlying120:=@Go.Proofs.Tryz.underlying120
theorem iT:type_of% @Go.Proofs.Tryz.zeroValue0:=@Go.Proofs.Tryz.zeroValue0
theorem iU:type_of% @Go.Proofs.Tryz.zeroValue3:=@Go.Proofs.Tryz.zeroValue3
theorem iV:type_of% @Go.Proofs.Tryz.zeroValue9:=@Go.Proofs.Tryz.zeroValue9
theorem iX:type_of% @Go.K.Rg.tp:=@Go.K.Rg.tp
theorem jd:type_of% @List.getElem?_append_right:=@List.getElem?_append_right
theorem je:type_of% @List.map_nil:=@List.map_nil
theorem jB:type_of% @Nat.min_eq_left:=@Nat.min_eq_left
theorem jD:type_of% @Go.K.T.iff:=@Go.K.T.iff
theorem jH:type_of% @Go.Proofs.Tryz.underlying50:=@Go.Proofs.Tryz.underlying50
theorem jK:type_of% @List.filter_append:=@List.filter_append
theorem jS:type_of% @Go.K.Part.snd:=@Go.K.Part.snd
theorem jT:type_of% @List.eq_of_mem_replicate:=@List.eq_of_mem_replicate
theorem jU:type_of% @Go.K.T.jj:=@Go.K.T.jj
theorem jZ:type_of% @Go.Proofs.Tryz.underlying151:=@Go.Proofs.Tryz.underlying151
theorem j0:type_of% @Go.Proofs.Tryz.underlying205:=@Go.Proofs.Tryz.underlying205
theorem j3:type_of% @Go.Proofs.Tryz.underlying141:=@Go.Proofs.Tryz.underlying141
theorem kb:type_of% @Bool.not_eq_true':=@Bool.not_eq_true'
theorem kg:type_of% @List.mem_filter:=@List.mem_filter
theorem kr:type_of% @List.mergeSort_perm:=@List.mergeSort_perm
theorem kC:type_of% @Go.Proofs.Tryz.underlying25:=@Go.Proofs.Tryz.underlying25
theorem kQ:type_of% @Nat.lt_irrefl:=@Nat.lt_irrefl
theorem kT:type_of% @Go.K.T.rR:=@Go.K.T.rR
theorem kU:type_of% @Go.K.Rg.not:=@Go.K.Rg.not
theorem kV:type_of% @List.mem_flatMap:=@List.mem_flatMap
theorem kZ:type_of% @Go.Proofs.Tryz.zeroValue4:=@Go.Proofs.Tryz.zeroValue4
theorem k9:type_of% @Nat.lt_of_lt_of_le:=@Nat.lt_of_lt_of_le
theorem lj:type_of% @List.take_append_drop:=@List.take_append_drop
theorem ll:type_of% @List.contains_iff_mem:=@List.contains_iff_mem
theorem lp:type_of% @Array.getElem?_modify:=@Array.getElem?_modify
theorem lF:type_of% @Go.Proofs.Tryz.underlying189:=@Go.Proofs.Tryz.underlying189
theorem lG:type_of% @Go.Proofs.Tryz.underlying198:=@Go.Proofs.Tryz.underlying198
theorem lL:type_of% @Bool.or_eq_true:=@Bool.or_eq_true
theorem lM:type_of% @List.length_nil:=@List.length_nil
theorem lN:type_of% @List.idxOf_cons:=@List.idxOf_cons
theorem lU:type_of% @Go.IntWalk.i64_in:=@Go.IntWalk.i64_in
theorem lV:type_of% @List.mem_of_mem_take:=@List.mem_of_mem_take
theorem lW:type_of% @Go.Proofs.Tryz.sizeOf0:=@Go.Proofs.Tryz.sizeOf0
theorem lX:type_of% @Go.Proofs.Tryz.sizeOf3:=@Go.Proofs.Tryz.sizeOf3
theorem lY:type_of% @Go.Proofs.Tryz.sizeOf9:=@Go.Proofs.Tryz.sizeOf9
theorem lZ:type_of% @List.pairwise_append:=@List.pairwise_append
theorem l0:type_of% @List.mem_iff_getElem:=@List.mem_iff_getElem
theorem l2:type_of% @Go.K.Rg.makeFunc:=@Go.K.Rg.makeFunc
theorem mq:type_of% @Go.Proofs.Tryz.underlying53:=@Go.Proofs.Tryz.underlying53
theorem mz:type_of% @List.cons_append:=@List.cons_append
theorem mA:type_of% @Bool.false_and:=@Bool.false_and
theorem mB:type_of% @List.take_length:=@List.take_length
theorem mW:type_of% @Go.Addr.mk.injEq:=@Go.Addr.mk.injEq
theorem nq:type_of% @Go.K.T.lP:=@Go.K.T.lP
theorem nB:type_of% @Go.Proofs.Tryz.isAgg0:=@Go.Proofs.Tryz.isAgg0
theorem nC:type_of% @Go.Proofs.Tryz.isAgg3:=@Go.Proofs.Tryz.isAgg3
theorem nD:type_of% @Go.Proofs.Tryz.isAgg9:=@Go.Proofs.Tryz.isAgg9
theorem nI:type_of% @Bool.eq_iff_iff:=@Bool.eq_iff_iff
theorem og:type_of% @Go.Proofs.Tryz.underlying217:=@Go.Proofs.Tryz.underlying217
theorem oh:type_of% @Go.Proofs.Tryz.underlying131:=@Go.Proofs.Tryz.underlying131
theorem oZ:type_of% @List.flatMap_cons:=@List.flatMap_cons
theorem o0:type_of% @List.foldl_append:=@List.foldl_append
theorem o7:type_of% @Go.K.Part.fst:=@Go.K.Part.fst
theorem p8:type_of% @Go.Proofs.Tryz.sizeOf4:=@Go.Proofs.Tryz.sizeOf4
theorem p9:type_of% @List.map_map:=@List.map_map
theorem qa:type_of% @Go.Proofs.Tryz.underlying47:=@Go.Proofs.Tryz.underlying47
theorem qK:type_of% @List.getElem?_eq_none_iff:=@List.getElem?_eq_none_iff
theorem qO:type_of% @List.take_succ_cons:=@List.take_succ_cons
theorem qP:type_of% @List.length_pos_iff:=@List.length_pos_iff
theorem qQ:type_of% @Int.toNat_of_nonneg:=@Int.toNat_of_nonneg
theorem sJ:type_of% @Go.K.Rg.CF:=@Go.K.Rg.CF
theorem tc:type_of% @Nat.not_lt_zero:=@Nat.not_lt_zero
theorem ti:type_of% @List.getElem?_drop:=@List.getElem?_drop
theorem tj:type_of% @BitVec.toNat_ofInt:=@BitVec.toNat_ofInt
theorem uA:type_of% @List.getElem?_replicate:=@List.getElem?_replicate
theorem uB:type_of% @List.filter_cons_of_pos:=@List.filter_cons_of_pos
theorem uN:type_of% @Go.K.iI.nil:=@Go.K.iI.nil
theorem vg:type_of% @Go.Proofs.Tryz.isAgg4:=@Go.Proofs.Tryz.isAgg4
theorem vP:type_of% @Prod.ext:=@Prod.ext
theorem vQ:type_of% @List.take_zero:=@List.take_zero
theorem vR:type_of% @Go.K.Rg.conv:=@Go.K.Rg.conv
theorem vS:type_of% @Go.K.Rg.nu:=@Go.K.Rg.nu
theorem vT:type_of% @Go.Proofs.Tryz.underlying190:=@Go.Proofs.Tryz.underlying190
theorem vU:type_of% @Go.Proofs.Tryz.underlying209:=@Go.Proofs.Tryz.underlying209
theorem vV:type_of% @Go.K.ca.nil:=@Go.K.ca.nil
theorem vW:type_of% @Go.Proofs.Tryz.underlying133:=@Go.Proofs.Tryz.underlying133
theorem wY:type_of% @Go.Proofs.Tryz.zeroValue5:=@Go.Proofs.Tryz.zeroValue5
theorem ye:type_of% @Nat.mod_eq_of_lt:=@Nat.mod_eq_of_lt
theorem yf:type_of% @List.any_eq_true:=@List.any_eq_true
theorem yg:type_of% @List.getElem_mem:=@List.getElem_mem
theorem yh:type_of% @Go.K.cz.nil:=@Go.K.cz.nil
theorem zd:type_of% @Go.Proofs.Tryz.underlying26:=@Go.Proofs.Tryz.underlying26
theorem zK:type_of% @Nat.pow_le_pow_right:=@Nat.pow_le_pow_right
theorem zL:type_of% @Go.Addr.add_mid:=@Go.Addr.add_mid
theorem zM:type_of% @Int.le_refl:=@Int.le_refl
theorem zN:type_of% @Go.Sem.run_pure:=@Go.Sem.run_pure
theorem zO:type_of% @Go.K.Rg.box:=@Go.K.Rg.box
theorem zP:type_of% @Go.World.putObj_heap_same:=@Go.World.putObj_heap_same
theorem AD:type_of% @List.nodup_cons:=@List.nodup_cons
theorem Cs:type_of% @Nat.mul_le_mul_left:=@Nat.mul_le_mul_left
theorem Ct:type_of% @Array.length_toList:=@Array.length_toList
theorem Cu:type_of% @List.getElem?_range:=@List.getElem?_range
theorem CA:type_of% @Nat.sub_self:=@Nat.sub_self
theorem CB:type_of% @Go.K.Rg.rS:=@Go.K.Rg.rS
theorem CC:type_of% @Go.K.Le.close:=@Go.K.Le.close
theorem CD:type_of% @Go.World.size_alloc:=@Go.World.size_alloc
namespace Go.K
def put (n:Nat):List UInt8:=if n<128 then[UInt8.ofNat n]else UInt8.ofNat (128+n%128)::put (n/128)
termination_by n
decreasing_by omega
theorem AT {n:Nat} (h:n<128):put n=[UInt8.ofNat n]:=by rw[put,if_pos h]
theorem Jb {n:Nat} (h:128<=n):put n=UInt8.ofNat (128+n%128)::put (n/128):=by rw[put,if_neg k3]
theorem US (n:Nat):0<(put n).length:=by rw[put];split<;>simp
theorem UT {k:Nat}:∀{n:Nat},n<128^(k+1)->(put n).length<=k+1:=by
 induction k with
 |zero=>intro n h;rw[AT a69];simp
 |succ k ih=>
  intro n h;by_cases h1:n<128
  ·rw[AT h1];simp
  ·rw[Jb k3];have:=ih (n:=n/128) (by rw[Nat.pow_succ]at h;omega);simp;omega
theorem nf {n:Nat} (h:n<=9223372036854775807):(put n).length<=9:=UT (k:=8) k3
def qg:List UInt8->Nat->Nat->Option (Nat×Nat)
 |[],_,_=>none
 |c::cs,i,n=>if c.toNat<128 then(if c.toNat=0/\0<i then none else some (n+c.toNat%128*128^i,i+1))else qg cs (i+1) (n+c.toNat%128*128^i)
def get (b:List UInt8) (at_:Int):Int×Int×Int:=
 if at_<0\/(b.length:Int)<at_ then(0,0,1)
 else match qg ((b.drop at_.toNat).take 9) 0 0 with
  |some (n,k)=>(n,at_+k,0)
  |none=>(0,0,2)
theorem qh {bs:List UInt8} {k:Nat} {c:UInt8} (h:bs[k]? =some c) (n:Nat):qg (bs.drop k) k n=
  if c.toNat<128 then(if c.toNat=0/\0<k then none else some (n+c.toNat%128*128^k,k+1))else qg (bs.drop (k+1)) (k+1) (n+c.toNat%128*128^k):=by
 obtain⟨eK,he⟩:=aj.1 h;rw[dV eK,qg,he]
theorem Zx (b:List UInt8) (i:Nat):(b.take (min b.length (i+9))).drop i=(b.drop i).take 9:=by
 rw[List.drop_take,List.take_eq_take_iff];simp;omega
def val:List UInt8->Nat
 |[]=>0
 |c::cs=>c.toNat%128+128*val cs
def eT:Int->List Int->Bool
 |_,[]=>true
 |last,x::l=>decide (last<x)&&eT x l
def nK:Int->List Int->List UInt8
 |_,[]=>[]
 |last,x::l=>put (x-last-1).toNat++nK x l
def fF (l:List Int):List UInt8:=put l.length++nK (-1) l
def Xl:Int->List Int->List Int
 |_,[]=>[]
 |last,x::l=>let m:=if x<0 then-(x+1)else x;(last+1+m%1000)::Xl (last+1+m%1000) l
def good (l:List Int) (most:Nat):List Int:=Xl (-1) (l.take most)
theorem yt {b:List UInt8} {at_:Int} (h:(get b at_).2.2=0):0<=at_/\at_<(get b at_).2.1/\(get b at_).2.1<=b.length/\0<=(get b at_).1/\(get b at_).1<9223372036854775808:=by
 unfold get at h ⊢
 split at h
 ·simp at h
 rename_i hr
 rw[if_neg hr]at*
 have key:∀(bs:List UInt8) (i n m k:Nat),qg bs i n=some (m,k)->bs.length+i<=9->n<128^i->i<k/\k<=i+bs.length/\m<128^k:=by
  intro bs
  induction bs with
  |nil=>intro i n m k h;simp[qg]at h
  |cons c cs ih=>
   intro i n m k h hl hn
   have hd:n+c.toNat%128*128^i<128^(i+1):=by
    have:=fM (128^i) (show c.toNat%128<=127 from by omega);rw[Nat.pow_succ];omega
   simp only[qg]at h
   split at h
   ·split at h
    ·cases h
    ·cases h;exact⟨by omega,by simp,hd⟩
   ·obtain⟨h1,h2,h3⟩:=ih (i+1) _ m k h (by simp at hl;omega) hd;exact⟨by omega,by simp;omega,h3⟩
 cases hg:qg ((b.drop at_.toNat).take 9) 0 0 with
 |none=>simp[hg]at h
 |some p=>
  obtain⟨m,k⟩:=p;have hlen:((b.drop at_.toNat).take 9).length<=9/\((b.drop at_.toNat).take 9).length<=b.length-at_.toNat:=by rw[aU,dS];omega
  obtain⟨h1,h2,h3⟩:=key _ 0 0 m k hg k3 q0;have hp:128^k<=128^9:=zK q0 k3;simp only;omega
def jX (b:List UInt8):Nat->Int->Int->Int×List Int×Int
 |0,at_,_=>(0,[],at_)
 |k+1,at_,last=>
  if(get b at_).2.2≠0 then((get b at_).2.2,[],0)
  else if 4611686018427387904-last-1<(get b at_).1 then(2,[],0)
  else if(jX b k (get b at_).2.1 (last+1+(get b at_).1)).1≠0 then((jX b k (get b at_).2.1 (last+1+(get b at_).1)).1,[],0)
  else(0,(last+1+(get b at_).1)::(jX b k (get b at_).2.1 (last+1+(get b at_).1)).2.1,(jX b k (get b at_).2.1 (last+1+(get b at_).1)).2.2)
def jk (b:List UInt8) (at_:Int):Int×List Int×Int:=
 if(get b at_).2.2≠0 then((get b at_).2.2,[],0)else jX b (get b at_).1.toNat (get b at_).2.1 (-1)
theorem fZ {l:List Int} {k:Nat} {x:Int} (h:l[k]? =some x) (last:Int):eT last (l.drop k)=(decide (last<x)&&eT x (l.drop (k+1))):=by
 obtain⟨eK,he⟩:=aj.1 h;rw[dV eK,eT,he]
theorem Nt {l:List Int} {k:Nat} {x:Int} (h:l[k]? =some x) (last:Int):nK last (l.drop k)=put (x-last-1).toNat++nK x (l.drop (k+1)):=by
 obtain⟨eK,he⟩:=aj.1 h;rw[dV eK,nK,he]
theorem AU:∀(l:List Int) (last:Int),-1<=last->(∀x∈l,x<=9223372036854775807)->eT last l=true->(nK last l).length<=9*l.length
 |[],_,_,_,_=>by simp[nK]
 |x::l,last,h1,h2,h3=>by
  simp only[eT,cv,decide_eq_true_eq]at h3;have hx:=h2 x (bZ ..);have h4:=AU l x k3 (λy hy=>h2 y (cI _ hy)) h3.2;have h5:=nf (n:=(x-last-1).toNat) k3;simp only[nK,aY,dG];omega
theorem AV (b:List UInt8) (a last:Int):jX b 0 a last=(0,[],a):=rfl
theorem wi {b:List UInt8} {k:Nat} {a last:Int} (h:(get b a).2.2≠0):jX b (k+1) a last=((get b a).2.2,[],0):=by rw[jX,if_pos h]
theorem yu {b:List UInt8} {k:Nat} {a last:Int} (h:(get b a).2.2=0) (h2:4611686018427387904-last-1<(get b a).1):jX b (k+1) a last=(2,[],0):=by
 rw[jX,if_neg a69,if_pos h2]
theorem AW {b:List UInt8} {k:Nat} {a last:Int} (h:(get b a).2.2=0) (h2: ¬4611686018427387904-last-1<(get b a).1):jX b (k+1) a last=
  if(jX b k (get b a).2.1 (last+1+(get b a).1)).1≠0 then((jX b k (get b a).2.1 (last+1+(get b a).1)).1,[],0)
  else(0,(last+1+(get b a).1)::(jX b k (get b a).2.1 (last+1+(get b a).1)).2.1,(jX b k (get b a).2.1 (last+1+(get b a).1)).2.2):=by
 rw[jX,if_neg a69,if_neg h2]
def andThen (acc:List Int) (r:Int×List Int×Int):Int×List Int×Int:=if r.1≠0 then(r.1,[],0)else(0,acc++r.2.1,r.2.2)
theorem qZ {b:List UInt8} {k:Nat} {a last:Int} (acc:List Int) (h:(get b a).2.2=0) (h2: ¬4611686018427387904-last-1<(get b a).1):
  andThen acc (jX b (k+1) a last)=andThen (acc++[last+1+(get b a).1]) (jX b k (get b a).2.1 (last+1+(get b a).1)):=by
 rw[AW h h2];unfold andThen;by_cases h3:(jX b k (get b a).2.1 (last+1+(get b a).1)).1=0<;>simp[h3]
theorem Gg (r:Int×List Int×Int) (h:r.1≠0->r.2=([],0)):andThen [] r=r:=by
 unfold andThen;by_cases h3:r.1=0
 ·rw[if_neg (by simpa using h3)];ext<;>simp[h3]
 ·rw[if_pos h3,<-h h3]
theorem Nu (b:List UInt8):∀(k:Nat) (a last:Int),(jX b k a last).1≠0->(jX b k a last).2=([],0)
 |0,a,last,h=>by simp[jX]at h
 |k+1,a,last,h=>by
  rw[jX]at h ⊢
  split
  ·rfl
  ·rename_i h1;rw[if_neg h1]at h
   split
   ·rfl
   ·rename_i h2;rw[if_neg h2]at h
    split
    ·rfl
    ·rename_i h3;rw[if_neg h3]at h;simp at h
theorem re (b:List UInt8) (a:Int):0<=(get b a).1/\0<=(get b a).2.2/\(get b a).2.2<=2/\((get b a).2.2≠0->(get b a).1=0/\(get b a).2.1=0):=by
 unfold get
 split
 ·simp
 ·split<;>simp<;>omega
theorem Dx (b:List UInt8) (a:Int):(get b a).1<=9223372036854775807:=by
 by_cases h:(get b a).2.2=0
 ·have:=yt h;omega
 ·have:=(re b a).2.2.2 h;omega
theorem PD:∀(k m i acc:Nat) (post:List UInt8),m<128^(k+1)->(0<i->m≠0)->qg ((put m++post).take (k+1)) i acc=some (acc+m*128^i,i+(put m).length):=by
 intro k
 induction k with
 |zero=>
  intro m i acc post h h0;have hm:m<128:=by simpa using h
  have e:(UInt8.ofNat m).toNat=m:=by rw[UInt8.toNat_ofNat'];omega
  rw[AT hm];simp only[mz,ew,qO,qg,e];rw[if_pos hm,if_neg k3,ye hm];rfl
 |succ k ih=>
  intro m i acc post h h0;by_cases hm:m<128
  ·have e:(UInt8.ofNat m).toNat=m:=by rw[UInt8.toNat_ofNat'];omega
   rw[AT hm];simp only[mz,ew,qO,qg,e];rw[if_pos hm,if_neg k3,ye hm];rfl
  ·have e:(UInt8.ofNat (128+m%128)).toNat=128+m%128:=by rw[UInt8.toNat_ofNat'];omega
   rw[Jb k3];simp only[mz,qO,qg,e];rw[if_neg k3,ih (m/128) (i+1) _ post (by rw[Nat.pow_succ]at h;omega) k3];have h2:(128+m%128)%128=m%128:=by omega
   rw[h2,Nat.pow_succ];congr 2
   ·have h3:m=m%128+128*(m/128):=by omega
    have h4:m*128^i=(m%128)*128^i+(m/128)*(128^i*128):=by
     conv=>lhs;rw[h3]
     rw[Nat.add_mul,Nat.mul_comm 128 (m/128),Nat.mul_assoc,Nat.mul_comm 128 (128^i)]
    omega
   ·simp;omega
theorem Es (pre post:List UInt8) {n:Nat} (hn:n<=9223372036854775807):get (pre++put n++post) pre.length=((n:Int),((pre.length+(put n).length:Nat):Int),0):=by
 unfold get;rw[if_neg a03]
 have h1:((pre++put n++post).drop (pre.length:Int).toNat).take 9=(put n++post).take (8+1):=by
  rw[an,eR,List.drop_left]
 rw[h1,PD 8 n 0 0 post k3 k3];simp
theorem Dy:∀(l:List Int) (pre post:List UInt8) (last:Int),-1<=last->eT last l=true->(∀x∈l,x<=4611686018427387904)->
  jX (pre++nK last l++post) l.length pre.length last=(0,l,((pre.length+(nK last l).length:Nat):Int))
 |[],pre,post,last,_,_,_=>by simp[nK,jX]
 |x::l,pre,post,last,h1,h2,h3=>by
  simp only[eT,cv,decide_eq_true_eq]at h2;have hx:=h3 x (bZ ..);have e0:pre++nK last (x::l)++post=pre++put (x-last-1).toNat++(nK x l++post):=by simp[nK]
  have e1:=Es pre (nK x l++post) (n:=(x-last-1).toNat) k3;have e2:pre++put (x-last-1).toNat++(nK x l++post)=(pre++put (x-last-1).toNat)++nK x l++post:=by simp
  have ih:=Dy l (pre++put (x-last-1).toNat) post x k3 h2.2 (λy hy=>h3 y (cI _ hy));rw[e0,dG,AW (by rw[e1]) (by rw[e1];simp only;omega),e1];simp only;have e3:last+1+(((x-last-1).toNat:Nat):Int)=x:=by omega
  rw[e3,e2,show((pre.length+(put (x-last-1).toNat).length:Nat):Int)=((pre++put (x-last-1).toNat).length:Int)from by simp,ih];simp[nK];omega
theorem CL (pre post:List UInt8) {l:List Int} (hr:eT (-1) l=true) (h3:∀x∈l,x<=4611686018427387904) (hl:l.length<=9223372036854775807):
  jk (pre++fF l++post) pre.length=(0,l,((pre.length+(fF l).length:Nat):Int)):=by
 have e0:pre++fF l++post=pre++put l.length++(nK (-1) l++post):=by simp[fF]
 have e1:=Es pre (nK (-1) l++post) (n:=l.length) hl;have e2:pre++put l.length++(nK (-1) l++post)=(pre++put l.length)++nK (-1) l++post:=by simp
 unfold jk;rw[e0,e1,if_neg (by simp)];simp only;have:=Dy l (pre++put l.length) post (-1) k3 hr h3;rw[e2,show((pre.length+(put l.length).length:Nat):Int)=((pre++put l.length).length:Int)from by simp,an,this];simp[fF];omega
abbrev Po:=Int×List Int
abbrev Bl:=Int×Int×Int×Int
abbrev Li:=List UInt8×List Bl×Int
abbrev RT.po:RT Po:=RT.pair (RT.int .i64) ((RT.int .i64).sl)
abbrev RT.bl:RT Bl:=RT.pair (RT.int .i64) (RT.pair (RT.int .i64) (RT.pair (RT.int .i64) (RT.int .i64)))
abbrev RT.li:RT Li:=RT.pair (RT.u8.sl) (RT.pair ((RT.bl).sl) (RT.int .i64))
theorem Nv:Part RT.po (RT.int .i64) (λp=>p.1) 0:=o7 _ _
theorem Xm:Part RT.po ((RT.int .i64).sl) (λp=>p.2) 1:=jS _ _
theorem bl0:Part RT.bl (RT.int .i64) (λb=>b.1) 0:=o7 _ _
theorem bl1:Part RT.bl (RT.int .i64) (λb=>b.2.1) 1:=(jS _ _).trans (o7 _ _)
theorem bl3:Part RT.bl (RT.int .i64) (λb=>b.2.2.2) 3:=(jS _ _).trans ((jS _ _).trans (jS _ _))
theorem li0:Part RT.li (RT.u8.sl) (λx=>x.1) 0:=o7 _ _
theorem li1:Part RT.li ((RT.bl).sl) (λx=>x.2.1) 1:=(jS _ _).trans (o7 _ _)
def isB (n:Nat) (k:Int):Bool:=decide (0<=k/\k<n)
def eY:Int->List Po->List UInt8
 |_,[]=>[]
 |last,(d,ps)::l=>put (d-last-1).toNat++fF ps++eY d l
def eg:Int->List Po->Int
 |last,[]=>last
 |_,(d,_)::l=>eg d l
def kG (l:List Po):Int:=(l.map λp=>(p.2.length:Int)).sum
theorem xl (l l':List Po) (last:Int):eY last (l++l')=eY last l++eY (eg last l) l':=by
 induction l generalizing last with
 |nil=>rfl
 |cons p l ih=>obtain⟨d,ps⟩:=p;simp[eY,eg,ih]
theorem xm (l l':List Po):kG (l++l')=kG l+kG l':=by simp[kG]
def zp (l:List Po) (k:Nat):Bl:=((eY (-1) (l.take (8*k))).length,eg (-1) (l.take (8*k)),eg (-1) (l.take (8*k+8)),((l.drop (8*k)).take 8).length)
def uR (l:List Po) (m:Nat):List Bl:=(List.range m).map (zp l)
def pJ (l:List Po):Li:=(eY (-1) l,uR l ((l.length+7)/8),kG l)
def rf (l:List Int):Bool:=eT (-1) l&&l.all (λn=>decide (n<2147483648))
def ik:Int->List Po->Bool
 |_,[]=>true
 |last,(d,ps)::l=>decide (last<d)&&decide (d<2147483648)&& !ps.isEmpty&&rf ps&&ik d l
theorem Et:∀{l:List Po} {i:Nat} {last d:Int} {ps:List Int},ik last l=true->l[i]? =some (d,ps)->
  eg last (l.take i)<d/\d<2147483648/\ps≠[]/\rf ps=true/\eg last (l.take (i+1))=d/\last<=eg last (l.take i)
 |[],i,_,_,_,_,h=>by simp at h
 |(d0,p0)::l,0,last,d,ps,hm,h=>by
  simp only[List.getElem?_cons_zero,eE,fc]at h;obtain⟨rfl,rfl⟩:=h;simp only[ik,cv,decide_eq_true_eq]at hm;obtain⟨⟨⟨⟨h1,h2⟩,h3⟩,h4⟩,h5⟩:=hm;refine⟨h1,h2,?_,h4,by simp[eg],by simp[eg]⟩;rintro rfl;simp at h3
 |(d0,p0)::l,i+1,last,d,ps,hm,h=>by
  simp only[ik,cv,decide_eq_true_eq]at hm;obtain⟨⟨⟨⟨h1,h2⟩,h3⟩,h4⟩,h5⟩:=hm;obtain⟨a1,a2,a3,a4,a5,a6⟩:=Et (i:=i) h5 a69;refine ⟨by simpa[eg]using a1,a2,a3,a4,by simpa[eg]using a5,?_⟩;simp only[qO,eg];omega
theorem AX {l:List Po} {i:Nat} {d:Int} {ps:List Int} (last:Int) (h:l[i]? =some (d,ps)):
  eY last (l.take (i+1))=eY last (l.take i)++put (d-eg last (l.take i)-1).toNat++fF ps:=by
 obtain⟨h1,h2⟩:=aj.1 h;rw[eF h1,h2,xl];simp[eY]
theorem tz {l:List Po} {i:Nat} (last:Int):eY last l=eY last (l.take i)++eY (eg last (l.take i)) (l.drop i):=by
 conv=>lhs;rw[<-lj i l]
 exact xl _ _ _
theorem rh {l:List Int}:rf l=true↔eT (-1) l=true/\∀x∈l,x<2147483648:=by
 simp[rf]
def vw (b:List UInt8) (at_ ahead:Int):Po×Int×Int:=
 if(get b at_).2.2≠0 then((0,[]),0,(get b at_).2.2)
 else((IntKind.i64.wrap (IntKind.i64.wrap (ahead+1)+(get b at_).1),(jk b (get b at_).2.1).2.1),(jk b (get b at_).2.1).2.2,(jk b (get b at_).2.1).1)
theorem PE {l:List Po} {i:Nat} {d:Int} {ps:List Int} (hm:ik (-1) l=true) (h:l[i]? =some (d,ps)) (hl:ps.length<=1099511627776):
  vw (eY (-1) l) (((eY (-1) (l.take i)).length:Nat):Int) (eg (-1) (l.take i))=((d,ps),(((eY (-1) (l.take (i+1))).length:Nat):Int),0):=by
 obtain⟨h1,h2,h3,h4,h5,h6⟩:=Et hm h;obtain⟨h7,h8⟩:=rh.1 h4;have e1:=tz (l:=l) (i:=i+1) (-1);have e2:=AX (-1) h;generalize hla:eg (-1) (l.take i)=last at h1 h6 e2 ⊢;generalize uP:eY (-1) (l.take i)=pre at e2 ⊢;generalize eY (eg (-1) (l.take (i+1))) (l.drop (i+1))=post at e1;rw[e2]at e1 ⊢;have g1:=Es pre (fF ps++post) (n:=(d-last-1).toNat) k3;have g2:=CL (pre++put (d-last-1).toNat) post h7 (λx hx=>by have:=h8 x hx;omega) k3;rw[show pre++put (d-last-1).toNat++(fF ps++post)=eY (-1) l from by rw[e1];simp]at g1;rw[<-e1]at g2;unfold vw;rw[g1];simp only[ne_eq,not_true_eq_false,if_false];have uQ:((pre.length+(put (d-last-1).toNat).length:Nat):Int)=((pre++put (d-last-1).toNat).length:Int):=by simp
 rw[uQ,g2];refine vP (vP ?_ G) (vP ?_ G)
 ·simp only;rw[lU (last+1) k3,lU _ k3];omega
 ·simp;omega
theorem tA {l:List Int} {k:Nat} {x:Int} (p:Int->Bool) (h:l[k]? =some x):(l.drop k).all p=(p x&&(l.drop (k+1)).all p):=by
 obtain⟨h1,h2⟩:=aj.1 h;rw[dV h1,h2,List.all_cons]
theorem oD {l:List Po} {k:Nat} {d:Int} {ps:List Int} (h:l[k]? =some (d,ps)) (last:Int):
  ik last (l.drop k)=(decide (last<d)&&decide (d<2147483648)&& !ps.isEmpty&&rf ps&&ik d (l.drop (k+1))):=by
 obtain⟨h1,h2⟩:=aj.1 h;rw[dV h1,h2,ik]
theorem AY {l:List Po} {i:Nat} {d:Int} {ps:List Int} (h:l[i]? =some (d,ps)):kG (l.take (i+1))=kG (l.take i)+ps.length:=by
 obtain⟨h1,h2⟩:=aj.1 h;rw[eF h1,h2,xm];simp[kG]
theorem ri (l:List Po):0<=kG l:=by
 induction l with
 |nil=>simp[kG]
 |cons p l ih=>simp only[kG,fe,List.sum_cons]at ih ⊢;omega
theorem Gh (l:List Po) (i:Nat):0<=kG (l.take i)/\kG (l.take i)<=kG l:=by
 refine ⟨ri _,?_⟩
 conv=>rhs;rw[<-lj i l,xm]
 have:=ri (l.drop i);omega
theorem pK (l:List Po) (i:Nat):(eY (-1) (l.take i)).length<=(eY (-1) l).length:=by
 rw[tz (l:=l) (i:=i) (-1)];simp
theorem Nw (l:List Po) (k:Nat):uR l (k+1)=uR l k++[zp l k]:=by simp[uR,List.range_succ]
theorem wk:∀(l:List Po) (last:Int),ik last l=true->last<2147483648->∀n:Nat,last<=eg last (l.take n)/\eg last (l.take n)<2147483648
 |[],last,_,h,n=>by simp[eg];exact h
 |(d,ps)::l,last,hm,h,0=>by simp[eg];exact h
 |(d,ps)::l,last,hm,h,n+1=>by
  simp only[ik,cv,decide_eq_true_eq]at hm;obtain⟨⟨⟨⟨h1,h2⟩,h3⟩,h4⟩,h5⟩:=hm;have:=wk l d h5 h2 n;simp only[qO,eg];omega
theorem alv {M:aJ} {w:World} {a b c d:Int} (ha: -9223372036854775808<=a/\a<=9223372036854775807) (hb: -9223372036854775808<=b/\b<=9223372036854775807) (hc: -9223372036854775808<=c/\c<=9223372036854775807) (hd: -9223372036854775808<=d/\d<=9223372036854775807):
  RT.bl.V M w (a,b,c,d) (.agg [.int .i64 a,.int .i64 b,.int .i64 c,.int .i64 d].toArray):=
 ⟨_,⟨[.int .i64 a],[.int .i64 b,.int .i64 c,.int .i64 d],rfl,⟨rfl,ha⟩,[.int .i64 b],[.int .i64 c,.int .i64 d],rfl,⟨rfl,hb⟩,[.int .i64 c],[.int .i64 d],rfl,⟨rfl,hc⟩,⟨rfl,hd⟩⟩,rfl⟩
theorem aet {M:aJ} {w:World} {bx:Nat} {b:List UInt8} {ks:List Bl} {uT:Int} {vb vk:Value} {e:TypeId} {fr:Nat×Nat} (hx:w.heap[bx]? =some (.cells #[vb,vk,.int .i64 uT] e fr)) (hm: ¬M bx) (hb:(RT.u8.sl).V M w b vb) (hk:((RT.bl).sl).V M w ks vk) (ht: -9223372036854775808<=uT/\uT<=9223372036854775807):
  dv RT.li M w (.pointer (some ⟨bx,0,none⟩)) (b,ks,uT):=
 ⟨bx,0,[vb,vk,.int .i64 uT],rfl,hm,⟨[vb],[vk,.int .i64 uT],rfl,oC hb rfl rfl,[vk],[.int .i64 uT],rfl,oC hk rfl rfl,⟨rfl,ht⟩⟩,λj v hj=>gA hx a68⟩
theorem PF {l:List Po} {i:Nat} (h8:i%8=0) (hi:i<l.length):uR l ((i+7)/8)++[(((eY (-1) (l.take i)).length:Int),eg (-1) (l.take i),eg (-1) (l.take (min (i+8) l.length)),(((l.drop i).take 8).length:Int))]=uR l ((min (i+8) l.length+7)/8):=by
 rw[show(min (i+8) l.length+7)/8=(i+7)/8+1 from by omega,Nw];have e:8*((i+7)/8)=i:=by omega
 have e2:l.take (i+8)=l.take (min (i+8) l.length):=by rw[List.take_eq_take_iff];omega
 simp only[zp,e,e2]
section
variable {P:Program} {r:Option Nat} {n:Nat} {L:Sl} {ds:List Deferred} {w:World} {K:Kt} {ops:Array Oper} {rest:List Oper} {d:Nat} {x y:Operand} {ty:TypeId} {pos:String} {af:Array Edge}
theorem Rg.Xn {t t' e:TypeId} {p:Option Addr} (ht:P.underlying t=some (.pointer e)) (hx:ev L x=some (.pointer p)) (hy:ev L y=some (.pointer none)) (hd:Nat.blt d n=true)
  (k:Rg P r n ops rest ((d,.bool (decide (p=none)))::L) ds w K):
  Rg P r n ops ({dst:=some d,op:= .binOp .eql t x y t',type:=ty,pos,after:=af,guard:=none}::rest) L ds w K:=
 .op a04 rfl rfl hd _ w (λρ h=>by
  have hpe:P.underlying t=some (.pointer (P.pointee t)):=by simp[Program.pointee,ht]
  have he:=run_equal_pointer_nil (P:=P) w t p hpe;simp only[execOp];rw[h x _ hx,h y _ hy]
  cases p<;>simp[eqGuard,binOp,run_underlying ht,he]) k
theorem Rg.PG {t t' e:TypeId} {p:Option Addr} (ht:P.underlying t=some (.pointer e)) (hx:ev L x=some (.pointer p)) (hy:ev L y=some (.pointer none)) (hd:Nat.blt d n=true)
  (k:Rg P r n ops rest ((d,.bool (decide (p≠none)))::L) ds w K):
  Rg P r n ops ({dst:=some d,op:= .binOp .neq t x y t',type:=ty,pos,after:=af,guard:=none}::rest) L ds w K:=
 .op a04 rfl rfl hd _ w (λρ h=>by
  have hpe:P.underlying t=some (.pointer (P.pointee t)):=by simp[Program.pointee,ht]
  have he:=run_equal_pointer_nil (P:=P) w t p hpe;simp only[execOp];rw[h x _ hx,h y _ hy]
  cases p<;>simp[eqGuard,binOp,run_underlying ht,he]) k
end
section
variable {P:Program} {r:Option Nat} {n:Nat} {L:Sl} {ds:List Deferred} {w:World}
theorem yv {fn:Func} {Q:Value->World->Prop} {c t b:Nat} {vs:List Value} {fs:TypeDesc} {e:TypeId} {fr:Nat×Nat} {zv:Value} {size bytes:Nat} (hr:fn.results= #[.cell c t]) (hc:lk L c=some (.pointer (some ⟨b,0,none⟩))) (hu:P.underlying t=some fs) (hf:fs.isRow=true) (hi:TI P t zv size bytes) (hl:vs.length=size)
  (hb:w.heap[b]? =some (.cells vs.toArray e fr)) (h:Q (.agg vs.toArray) w):yj P fn Q .ret L [] w:=
 ⟨rfl,λa ha=>⟨_,by
  obtain⟨i,zf,_,Al,_⟩:=hi.get;have I8:w.rangeAt b 0 vs:=λj v hj=>gA hb a68
  have:=run_loadVar_mid (P:=P) w b 0 t vs fs I8 hu hf aj7;simp[results,hr,ha _ _ hc,asAddr,this,cA],h⟩⟩
end
section
variable {P:Program} {r:Option Nat} {n:Nat} {L:Sl} {ds:List Deferred} {w:World} {K:Kt} {ops:Array Oper} {rest:List Oper} {d:Nat} {ty:TypeId} {pos:String} {af:Array Edge} {x y i:Operand} {α:Type} {A:RT α}
theorem Rg.opv {o:Oper} (qL:∀c,o.op≠ .defer c) (hg:o.guard=none) (hd:o.dst=none) (v:Value) (w':World)
  (jf:∀ρ:Operand->Value,(∀x u,ev L x=some u->ρ x=u)->(execOp ρ o).run P w= .ok (.value v) w')
  (h:Rg P r n ops rest L ds w' K):Rg P r n ops (o::rest) L ds w K:=by
 refine ⟨λa ha=>wpListIn_plain hg λK' UC=>FV qL ?_⟩;rw[jf a.eval (λx u hx=>ha.eval hx),Oper.uponIn_value,hd];exact UC _ _ (h.run _ ha)
def tB (P:Program) (t:TypeId) (name:String) (f:FuncId) (ptr:Bool):Prop:=
 (P.info? t).bind (λi=>(i.methods.find? (λm=>m.name==name)).map λm=>(m.path.toList.length,m.func))=some (0,some (f,ptr))
theorem tB.get {t:TypeId} {name:String} {f:FuncId} {ptr:Bool} (h:tB P t name f ptr):∃inf m,P.info? t=some inf/\inf.methods.find? (λm=>m.name==name)=some m/\m.path= #[]/\m.func=some (f,ptr):=by
 unfold tB at h
 cases hi:P.info? t with
 |none=>rw[hi]at h;cases h
 |some inf=>
  rw[hi]at h
  cases hm:inf.methods.find? (λm=>m.name==name)with
  |none=>simp[hm]at h
  |some m=>
   simp[hm]at h;exact⟨inf,m,G,hm,h.1,h.2⟩
def Jc (P:Program) (w:World) (t:TypeId) (v:Value) (name:String) (f:FuncId) (u:Value):Prop:=∀fuel:Nat,(method (fuel+1) t v name).run P w= .ok (f,u) w
theorem tB.ptr {t e:TypeId} {name:String} {f:FuncId} (h:tB P t name f true) (ht:P.underlying t=some (.pointer e)) (v:Value):Jc P w t v name f v:=λfuel=>by
 obtain⟨inf,m,h1,h2,h3,h4⟩:=h.get;simp[method,typeInfo,h1,h2,h3,h4,follow,receiverAt,run_underlying ht,Place.get]
theorem Gi (FY:Array TypeId) (ty:TypeId) (a:Addr) (s m:String):(Builtin.ssaWrapNilChk_ FY ty #[.pointer (some a),strVal s,strVal m]).run P w= .ok (.pointer (some a)) w:=rfl
theorem tB.load {t e:TypeId} {u:TypeDesc} {name:String} {f:FuncId} {b:Nat} {cs:Array Value} {te:TypeId} {fr:Nat×Nat} {v:Value} (h:tB P t name f false) (ht:P.underlying t=some (.pointer e)) (hu:P.underlying e=some u) (hf:flat u=true)
  (hb:w.heap[b]? =some (.cells cs te fr)) (hv:cs[0]? =some v):Jc P w t (.pointer (some ⟨b,0,none⟩)) name f v:=λfuel=>by
 obtain⟨inf,m,h1,h2,h3,h4⟩:=h.get
 have Eh:(isAgg e).run P w= .ok false w:=by
  unfold isAgg;rw[cA,run_underlying hu w]
  cases u<;>simp_all [flat,Result.andThen]
 have hl:(loadVar e ⟨b,0,none⟩).run P w= .ok v w:=by simp[loadVar,Eh,Go.load,Sem.run,gA hb hv]
 simp[method,typeInfo,h1,h2,h3,h4,follow,receiverAt,run_underlying ht,Place.get,Gi,asAddr,hl]
theorem Rg.invoke {t:TypeId} {v u:Value} {name:String} {f:FuncId} {xs:List Operand} {vs:List Value} {FY:Array TypeId} {Q:Value->World->Prop} (hx:ev L x=some (.iface t v)) (kh:Ul L xs=some vs) (hd:Nat.blt d n=true) (hm:Jc P w t v name f u) (he:Enters P f)
  (hs:Spec P f (u::vs).toArray w Q) (k:∀v w',Q v w'→Rg P r n ops rest ((d,v)::L) ds w' K):
  Rg P r n ops ({dst:=some d,op:= .call {callee:= .invoke x name,args:=xs.toArray,argTypes:=FY},type:=ty,pos,after:=af,guard:=none}::rest) L ds w K:=
 .IQ (w1:=w) a04 rfl rfl hd (λρ h=>by
  have h1:=qR h kh;have h2:=hm (P.types.size+99);rw[show P.types.size+99+1=P.types.size+Made.depth from rfl]at h2;simp only[execOp,resolve,fg,h1,h x _ hx];have h3:=he (u::vs).toArray w;simp[Go.invoke,callMethod,h2]at h3 ⊢;exact h3) hs k
def isI:TypeDesc->Bool
 |.interface _=>true
 |_=>false
theorem Rg.Ap {t:TypeId} {u:TypeDesc} {v:Value} (hu:P.underlying t=some u) (hn:isI u=false) (hx:ev L x=some v) (hd:Nat.blt d n=true) (k:Rg P r n ops rest ((d,.iface t v)::L) ds w K):
  Rg P r n ops ({dst:=some d,op:= .makeInterface t x,type:=ty,pos,after:=af,guard:=none}::rest) L ds w K:=
 .op a04 rfl rfl hd _ w (λρ h=>by
  simp only[execOp,h x _ hx]
  cases u<;>simp_all [Instr.makeInterface,run_underlying hu,isI]) k
theorem Rg.LB {t xt:TypeId} {u:TypeDesc} {v:Value} (hu:P.underlying t=some u) (hn:isI u=false) (hx:ev L x=some (.iface t v)) (hd:Nat.blt d n=true) (k:Rg P r n ops rest ((d,v)::L) ds w K):
  Rg P r n ops ({dst:=some d,op:= .typeAssert x xt t false,type:=ty,pos,after:=af,guard:=none}::rest) L ds w K:=
 .op a04 rfl rfl hd _ w (λρ h=>by
  simp only[execOp,h x _ hx]
  cases u<;>simp_all [Instr.typeAssert,run_underlying hu,isI]) k
theorem eX.set {M:aJ} {x:α} {vs:List Value} (hx:A.R M w x vs):∀{xs:List α} {C:List Value},eX A M w xs C->∀{j:Nat},j<xs.length->eX A M w (xs.set j x) (C.take (j*A.n)++vs++C.drop (j*A.n+A.n))
 |[],_,_,j,hj=>by simp at hj
 |y::xs,_,⟨us,rest,h1,h2,h3⟩,0,_=>by
  subst h1;have hl:=A.len h2;refine⟨vs,rest,?_,hx,h3⟩;rw[Nat.zero_mul,vQ,ew,fh,<-hl,List.drop_left]
 |y::xs,_,⟨us,rest,h1,h2,h3⟩,j+1,hj=>by
  subst h1;have hl:=A.len h2;refine⟨us,_,?_,h2,eX.set hx h3 (j:=j) a68⟩;have e1:(j+1)*A.n=us.length+j*A.n:=by rw[Nat.add_mul,hl];omega
  rw[e1,List.take_length_add_append,show us.length+j*A.n+A.n=us.length+(j*A.n+A.n)from by omega,List.drop_length_add_append];simp
theorem eX.take {M:aJ}:∀{xs:List α} {C:List Value},eX A M w xs C->∀m,eX A M w (xs.take m) (C.take (m*A.n))
 |xs,C,h,0=>by simp;exact(G:([]:List Value)=[])
 |[],C,h,m+1=>by cases h;simp;exact(G:([]:List Value)=[])
 |y::xs,_,⟨us,rest,h1,h2,h3⟩,m+1=>by
  subst h1;have hl:=A.len h2;refine⟨us,rest.take (m*A.n),?_,h2,eX.take h3 m⟩;rw[show(m+1)*A.n=us.length+m*A.n from by rw[Nat.add_mul,hl];omega,List.take_length_add_append]
theorem LC {l vs:List Value} {o:Nat} (h:o+vs.length<=l.length) (t:Nat):(l.take o++vs++l.drop (o+vs.length))[t]? =if o<=t/\t<o+vs.length then vs[t-o]? else l[t]? :=by
 have h1:(l.take o).length=o:=by rw[aU];omega
 rcases cQ t o with h2|h2
 ·rw[if_neg k3,eR,fP k3,cY,if_pos h2]
 ·rcases cQ t (o+vs.length)with h3|h3
  ·rw[if_pos ⟨h2,h3⟩,fP (by rw[aY];omega),jd k3,h1]
  ·rw[if_neg k3,jd (by rw[aY];omega),ti,aY,h1];congr 1;omega
theorem Own.tC {e:TypeId} {M:aJ} {base:Nat} {v:Value} {xs:List α} (h:Own A e M w base v xs) (hv:v≠ .slice none 0 0):∃g cap cur,v= .slice (some ⟨g,0,none⟩) xs.length cap/\base<=g/\M g/\w.heap[g]? =some (.cells cur e (0,0)):=by
 obtain⟨⟨C,hr,_⟩,hm⟩:=h;rcases hr.2 with⟨h1,_⟩|⟨g,cap,cur,h1,h2,h3,_⟩
 ·exact absurd h1 hv
 ·exact⟨g,cap,cur,h1,h2,hm g (by rw[h1];rfl),h3⟩
theorem Own.setCells {e:TypeId} {M:aJ} {base g len cap j:Nat} {xs:List α} {x:α} {vs:List Value} (h:Own A e M w base (.slice (some ⟨g,0,none⟩) len cap) xs) (hj:j<xs.length) (hx:A.R M w x vs):
  ∃w',w'=w.setCells g (j*A.n) vs/\Own A e M w' base (.slice (some ⟨g,0,none⟩) len cap) (xs.set j x)/\Step M w M w' (λk=>k=g):=by
 obtain⟨⟨C,hr,ha⟩,hm⟩:=h;have zq:=hm g rfl;have hl:=A.len hx;rcases hr.2 with⟨h1,_⟩|⟨g',zV,cur,h1,h2,h3,h4,h5,h6,h7⟩
 ·cases h1
 ·simp only[gG,eE,mW]at h1;obtain⟨⟨rfl,_⟩,rfl,rfl⟩:=h1;obtain⟨IF,c1,c2,c3,c4⟩:=pw vs w g (j*A.n) cur e (0,0) h3;have hs:=c4 M zq;have OR:j*A.n+A.n<=xs.length*A.n:=by have:=fM A.n (show j+1<=xs.length from hj);rw[Nat.add_mul]at this;omega
  have nr:xs.length*A.n<=cap*A.n:=fM _ h4;have Ze:C.length=xs.length*A.n:=hr.1;refine⟨_,rfl,⟨⟨C.take (j*A.n)++vs++C.drop (j*A.n+A.n),⟨?_,.inr ⟨g,cap,IF,by rw[fX],h2,c1,by rw[fX];exact h4,h5,by rw[c2];exact h6,?_⟩⟩,eX.set (A.le hs.le hx) (ha.le hs.le) hj⟩,λb hb=>hm b hb⟩,hs⟩
  ·rw[aY,aY,aU,dS,Ze,fX];omega
  ·rw[fX];refine eS λt=>?_
   have PH:=LC (l:=C) (vs:=vs) (o:=j*A.n) (by rw[hl,Ze];exact OR) t;rw[hl]at PH;rw[PH,cY];have hct:∀t,t<xs.length*A.n->C[t]? =cur[t]? :=λt ht=>by rw[<-h7,cY,if_pos ht];simp
   split
   ·rename_i ht
    have e0:IF.toList[t]? =IF[t]? :=by simp
    rw[e0,c3 t,hl];by_cases h8:j*A.n<=t/\t<j*A.n+A.n
    ·rw[if_pos ⟨h8.1,h8.2,by omega⟩,if_pos h8]
    ·rw[if_neg (λh=>h8 ⟨h.1,h.2.1⟩),if_neg h8,hct t ht]
   ·rename_i ht
    rw[if_neg k3,cE (by rw[Ze];omega)]
theorem Rg.mE {t e:TypeId} {κ:IntKind} {j:Int} {b o len cap bytes size:Nat} {zv:Value} (ht:P.underlying t=some (.slice e)) (hi:TI P e zv size bytes) (hx:ev L x=some (.slice (some ⟨b,o,none⟩) len cap)) (IS:ev L i=some (.int κ j)) (hd:Nat.blt d n=true) (hj:0<=j/\j<len) {q:Nat} (hq:o+j.toNat*size=q)
  (k:Rg P r n ops rest ((d,.pointer (some ⟨b,q,none⟩))::L) ds w K):
  Rg P r n ops ({dst:=some d,op:= .indexAddr t x i,type:=ty,pos,after:=af,guard:=none}::rest) L ds w K:=
 .op a04 rfl rfl hd _ w (λρ h=>by
  simp only[execOp,h x _ hx,h i _ IS];simp[Instr.indexAt,run_underlying ht,asIntOf,hj,hi.sizeOf,zL,hq]) k
theorem Own.ptr {e:TypeId} {M:aJ} {base g len cap j:Nat} {xs:List α} {x:α} (h:Own A e M w base (.slice (some ⟨g,0,none⟩) len cap) xs) (hx:xs[j]? =some x):dv A (λk=>M k/\k≠g) w (.pointer (some ⟨g,j*A.n,none⟩)) x:=by
 obtain⟨⟨C,hr,ha⟩,hm⟩:=h;rcases hr.2 with⟨h1,_⟩|⟨g',zV,cur,h1,h2,h3,h4,h5,h6,h7⟩
 ·cases h1
 ·simp only[gG,eE,mW]at h1;obtain⟨⟨rfl,_⟩,rfl,rfl⟩:=h1;obtain⟨vs,hv,hj⟩:=ha.at_ j x hx;refine ⟨g,_,vs,G,λh=>h.2 G,A.le (λb _ hm=>⟨λh=>hm h.1,rfl⟩) hv,λt u hu=> ?_⟩;have h8:=hj t u hu;rw[<-h7,cY]at h8
  split at h8
  ·exact gA h3 (by simpa using h8)
  ·cases h8
theorem Own.cut {e:TypeId} {M:aJ} {base g len cap m:Nat} {xs:List α} (h:Own A e M w base (.slice (some ⟨g,0,none⟩) len cap) xs) (hm:m<=xs.length):Own A e M w base (.slice (some ⟨g,0,none⟩) m cap) (xs.take m):=by
 obtain⟨⟨C,hr,ha⟩,hmm⟩:=h;have hl:(xs.take m).length=m:=by rw[aU];omega
 rcases hr.2 with⟨h1,_⟩|⟨g',zV,cur,h1,h2,h3,h4,h5,h6,h7⟩
 ·cases h1
 ·simp only[gG,eE,mW]at h1;obtain⟨⟨rfl,_⟩,rfl,rfl⟩:=h1;have PI:=fM A.n hm;refine⟨⟨C.take (m*A.n),⟨by rw[aU,hr.1,hl];omega,.inr ⟨g,cap,cur,by rw[hl],h2,h3,by omega,h5,h6,?_⟩⟩,ha.take m⟩,λb hb=>hmm b hb⟩;rw[hl,<-h7,List.take_take,jB PI]
theorem Rg.Zy {t e:TypeId} {h:Operand} {κ:IntKind} {hi:Int} {g len cap bytes size:Nat} {zv:Value} (ht:P.underlying t=some (.slice e)) (CH:TI P e zv size bytes) (hx:ev L x=some (.slice (some ⟨g,0,none⟩) len cap)) (hh:ev L h=some (.int κ hi)) (hd:Nat.blt d n=true) (hb:0<=hi/\hi<=cap)
  (k:Rg P r n ops rest ((d,.slice (some ⟨g,0,none⟩) hi.toNat cap)::L) ds w K):
  Rg P r n ops ({dst:=some d,op:= .slice t x none (some h) none,type:=ty,pos,after:=af,guard:=none}::rest) L ds w K:=by
 refine .op a04 G G hd _ w (λρ hρ=>?_) k;simp only[execOp,hρ x _ hx,dA,gI,hρ h _ hh];rw[cA,run_sliceAt_slice _ _ _ _ _ _ (kq ht),run_slice_h _ _ _ _ _ (kq ht) _ _ hb.1 hb.2,qS ht,CH.sizeOf];simp[sliced,zL]
theorem Rg.PJ {t e:TypeId} {l:Operand} {κ:IntKind} {lo:Int} {g len cap bytes size:Nat} {zv:Value} (ht:P.underlying t=some (.slice e)) (CH:TI P e zv size bytes) (hx:ev L x=some (.slice (some ⟨g,0,none⟩) len cap)) (hl:ev L l=some (.int κ lo)) (hd:Nat.blt d n=true) (hb:0<=lo/\lo<=len/\lo<cap)
  (k:Rg P r n ops rest ((d,.slice (some ⟨g,lo.toNat*size,none⟩) (len-lo.toNat) (cap-lo.toNat))::L) ds w K):
  Rg P r n ops ({dst:=some d,op:= .slice t x (some l) none none,type:=ty,pos,after:=af,guard:=none}::rest) L ds w K:=by
 refine .op a04 G G hd _ w (λρ hρ=>?_) k;simp only[execOp,hρ x _ hx,dA,gI,hρ l _ hl];rw[cA,run_sliceAt_slice _ _ _ _ _ _ (kq ht),run_slice_l _ _ _ _ _ (kq ht) _ _ hb.1 hb.2.1,qS ht,CH.sizeOf];have fG: ¬cap=lo.toNat:=by omega
 simp[sliced,zL,fG]
theorem Rg.Jd {t e:TypeId} {zv:Value} {bytes:Nat} {M:aJ} {base g len cap j:Nat} {xs:List α} {a:α} {v:Value} (hi:TI P t zv A.n bytes) (hg:A.agg=true) (hx:ev L x=some (.pointer (some ⟨g,j*A.n,none⟩))) (hy:ev L y=some v) (h:Own A e M w base (.slice (some ⟨g,0,none⟩) len cap) xs) (hj:j<xs.length) (hv:A.V M w a v)
  (k:∀w',Own A e M w' base (.slice (some ⟨g,0,none⟩) len cap) (xs.set j a)->Step M w M w' (λk=>k=g)->Rg P r n ops rest L ds w' K):
  Rg P r n ops ({dst:=none,op:= .store t x y,type:=ty,pos,after:=af,guard:=none}::rest) L ds w K:=by
 obtain⟨vs,kh,rfl⟩:=hv;obtain⟨w',Zz,ho,hs⟩:=h.setCells hj kh;obtain⟨⟨C,hr,ha⟩,hm⟩:=h;have hl:=A.len kh;have h1:=A.one kh;rcases hr.2 with⟨h2,_⟩|⟨g',zV,cur,h2,_,h3,h4,h5,h6,h7⟩
 ·cases h2
 ·simp only[gG,eE,mW]at h2;obtain⟨⟨rfl,_⟩,rfl,rfl⟩:=h2;have OR:j*A.n+A.n<=xs.length*A.n:=by have:=fM A.n (show j+1<=xs.length from hj);rw[Nat.add_mul]at this;omega
  have nr:xs.length*A.n<=cap*A.n:=fM _ h4;refine .W5 a04 G G w' (λρ hρ=>?_) (k w' ho hs);subst Zz;simp only[execOp,hρ x _ hx,hρ y _ hy];obtain⟨inf,zf,_,Al,_⟩:=hi.get
  have:=run_storeAt_mid (P:=P) w g (j*A.n) t vs.toArray (λq hq=>by
   have hq':j*A.n+q<cur.size:=by simp at hq;omega
   exact⟨by rw[gA h3 (v:=cur[j*A.n+q]) (by simp[hq'])];rfl,by simp[World.frozen?,h3]⟩) aj7 (by simpa[Array.all_eq_true_iff_forall_mem]using h1)
  simp[RT.val,hg,this]
theorem Rg.Je {t e:TypeId} {zv:Value} {bytes:Nat} {M:aJ} {base g len cap j:Nat} {κ:IntKind} {xs:List Int} {a:Int} (hi:TI P t zv 1 bytes) (hx:ev L x=some (.pointer (some ⟨g,j,none⟩))) (hy:ev L y=some (.int κ a)) (h:Own (RT.int κ) e M w base (.slice (some ⟨g,0,none⟩) len cap) xs) (hj:j<xs.length) (ha:κ.min<=a/\a<=κ.max)
  (k:∀w',Own (RT.int κ) e M w' base (.slice (some ⟨g,0,none⟩) len cap) (xs.set j a)->Step M w M w' (λk=>k=g)->Rg P r n ops rest L ds w' K):
  Rg P r n ops ({dst:=none,op:= .store t x y,type:=ty,pos,after:=af,guard:=none}::rest) L ds w K:=by
 have hR:(RT.int κ).R M w a [.int κ a]:=⟨rfl,ha.1,ha.2⟩;obtain⟨w',Zz,ho,hs⟩:=h.setCells hj hR;obtain⟨⟨C,hr,_⟩,hm⟩:=h;rcases hr.2 with⟨h2,_⟩|⟨g',zV,cur,h2,_,h3,h4,h5,h6,h7⟩
 ·cases h2
 ·simp only[gG,eE,mW]at h2;obtain⟨⟨rfl,_⟩,rfl,rfl⟩:=h2;have e1:(RT.int κ).n=1:=rfl;rw[e1]at h6 Zz;refine .W5 a04 G G w' (λρ hρ=>?_) (k w' ho hs);subst Zz;simp only[execOp,hρ x _ hx,hρ y _ hy];have:=pG (P:=P) hi (w:=w) (b:=g) (o:=j) (v:= .int κ a) rfl (by rw[gA h3 (v:=cur[j]' k3) (by simp)];rfl) (by simp[World.frozen?,h3]);simp[this,World.setCells]
theorem Rg.aeu {t e:TypeId} {zv:Value} {bytes size:Nat} (ht:P.underlying t=some (.slice e)) (hi:TI P e zv size bytes) (M:aJ) (hd:Nat.blt d n=true)
  (k:∀g w',w.heap.size<=g->g<w'.heap.size->w'.heap[g]? =some (.cells #[] e (0,0))->Step M w (ins M g) w' aA->Rg P r n ops rest ((d,.slice (some ⟨g,0,none⟩) 0 0)::L) ds w' K):
  Rg P r n ops ({dst:=some d,op:= .buildSlice t 0 #[],type:=ty,pos,after:=af,guard:=none}::rest) L ds w K:=by
 refine .op a04 G G hd (.slice (some ⟨w.heap.size,0,none⟩) 0 0) (w.alloc (.cells #[] e)) (λρ hρ=>?_) (k w.heap.size _ (aN _) (by simp) (de w _) ((dK M w _).own (aN _) (by simp)));simp only[execOp,Instr.buildSlice,cA,run_underlying ht,dd,hi.sizeOf];simp[newRow,newObj,Sem.run,Instr.fill];have h0:Array.range 0= #[]:=by apply Array.ext<;>simp
 simp[h0]
end
theorem Own.empty {α:Type} {A:RT α} {e:TypeId} {M:aJ} {w:World} {base g:Nat} (h:w.heap[g]? =some (.cells #[] e (0,0))) (hb:base<=g) (hm:M g):Own A e M w base (.slice (some ⟨g,0,none⟩) 0 0) []:=
 ⟨⟨[],⟨by simp,.inr ⟨g,0,#[],rfl,hb,h,aN _,bC _,by simp,by simp⟩⟩,rfl⟩,λb hb=>by cases hb;exact hm⟩
theorem Own.AZ {e:TypeId} {M:aJ} {w:World} {base g len cap j:Nat} {κ:IntKind} {xs:List Int} {x:Int} (h:Own (RT.int κ) e M w base (.slice (some ⟨g,0,none⟩) len cap) xs) (hx:xs[j]? =some x):dv (RT.int κ) (λk=>M k/\k≠g) w (.pointer (some ⟨g,j,none⟩)) x:=by
 have:=h.ptr hx
 rwa [show j*(RT.int κ).n=j from fN j]at this
section
variable {P:Program} {r:Option Nat} {n:Nat} {L:Sl} {ds:List Deferred} {w:World} {K:Kt} {ops:Array Oper} {rest:List Oper} {d:Nat} {x y i:Operand} {ty:TypeId} {pos:String} {af:Array Edge}
theorem Rg.CM {t e:TypeId} {κ:IntKind} {j:Int} {b len cap bytes:Nat} {zv:Value} (ht:P.underlying t=some (.slice e)) (hi:TI P e zv 1 bytes) (hx:ev L x=some (.slice (some ⟨b,0,none⟩) len cap)) (IS:ev L i=some (.int κ j)) (hd:Nat.blt d n=true) (hj:0<=j/\j<len)
  (k:Rg P r n ops rest ((d,.pointer (some ⟨b,j.toNat,none⟩))::L) ds w K):
  Rg P r n ops ({dst:=some d,op:= .indexAddr t x i,type:=ty,pos,after:=af,guard:=none}::rest) L ds w K:=
 .op a04 rfl rfl hd _ w (λρ h=>by
  simp only[execOp,h x _ hx,h i _ IS];simp[Instr.indexAt,run_underlying ht,asIntOf,hj,hi.sizeOf,zL]) k
theorem Rg.oE {t e:TypeId} {κ:IntKind} {j:Int} {b len bytes:Nat} {zv:Value} (ht:P.underlying t=some (.array len e)) (hi:TI P e zv 1 bytes) (hx:ev L x=some (.pointer (some ⟨b,0,none⟩))) (IS:ev L i=some (.int κ j)) (hd:Nat.blt d n=true) (hj:0<=j/\j<len)
  (k:Rg P r n ops rest ((d,.pointer (some ⟨b,j.toNat,none⟩))::L) ds w K):
  Rg P r n ops ({dst:=some d,op:= .indexAddr t x i,type:=ty,pos,after:=af,guard:=none}::rest) L ds w K:=
 .op a04 rfl rfl hd _ w (λρ h=>by
  simp only[execOp,h x _ hx,h i _ IS];simp[Instr.indexAt,run_underlying ht,asIntOf,hj,hi.sizeOf,zL,Instr.sureAddr]) k
theorem Rg.mk0 {t e:TypeId} {len:Nat} {bytes:Nat} {zv:Value} (M:aJ) (ht:P.underlying t=some (.slice e)) (hi:TI P e zv 1 bytes) (hz:zv.cells= #[zv]) (hx:ev L x=some (.int .i64 len)) (hy:ev L y=some (.int .i64 len)) (hd:Nat.blt d n=true) (hb:bytes*len<=140737488355328) (hl:len<=9223372036854775807)
  (k:∀b w',w.heap.size<=b->b<w'.heap.size->w'.heap[b]? =some (.cells (List.replicate len zv).toArray e (0,0))->Step M w (ins M b) w' aA->Rg P r n ops rest ((d,.slice (some ⟨b,0,none⟩) len len)::L) ds w' K):
  Rg P r n ops ({dst:=some d,op:= .makeSlice t x y,type:=ty,pos,after:=af,guard:=none}::rest) L ds w K:=by
 obtain⟨inf,i1,i2,i3,i4⟩:=hi.get
 have hm:madeCells zv.cells (len*1)=(List.replicate len zv).toArray:=by
  apply Array.ext
  ·simp[madeCells]
  ·intro j h1 h2;simp[madeCells,hz,Nat.mod_one]
 refine .op a04 G G hd (.slice (some ⟨w.heap.size,0,none⟩) len len) (w.alloc (.cells (List.replicate len zv).toArray e)) (λρ hρ=>?_) (k w.heap.size _ (aN _) (by simp) (de w _) ((dK M w _).own (aN _) (by simp)))
 have hbc:(inf.bytes:Int)*(len:Int)<=281474976710656:=by
  rw[i4];have h1:((bytes*len:Nat):Int)<=281474976710656:=by omega
  rwa [Int.natCast_mul]at h1
 have hr:=run_make (P:=P) w t e inf zv ht i1 i2 .i64 .i64 (len:Int) (len:Int) k3 (zM _) hbc k3;simp only[an,i3,hm]at hr;simp only[execOp,hρ x _ hx,hρ y _ hy];simp[cA,hr]
theorem Rg.alx {xt:TypeId} {κ:IntKind} {p:Int} (hx:ev L x=some (.int κ p)) (hd:Nat.blt d n=true) (k:Rg P r n ops rest ((d,.int κ (κ.wrap (0-p)))::L) ds w K):
  Rg P r n ops ({dst:=some d,op:= .unOp .neg xt x,type:=ty,pos,after:=af,guard:=none}::rest) L ds w K:=by
 refine .op a04 G G hd _ w (λρ h=>?_) k;simp only[execOp,h x _ hx];simp[Op.unary,Op.intArith]
theorem PK (p q:Nat) (hp:p<2^64) (hq:q<2^64):IntKind.u64.wrap (BitVec.ofInt IntKind.u64.bits (p:Int)&&&BitVec.ofInt IntKind.u64.bits (q:Int)).toNat=((p&&&q:Nat):Int):=by
 have h:∀z:Nat,z<2^64->((z:Int)%((2^IntKind.u64.bits:Nat):Int)).toNat=z:=λz hz=>by
  change((z:Int)%((18446744073709551616:Nat):Int)).toNat=z;omega
 rw[BitVec.toNat_and,tj,tj,h p hp,h q hq];exact iF _ (by have:=Nat.and_le_left (n:=p) (m:=q);omega)
theorem aev (p q:Nat) (hp:p<2^64) (hq:q<2^64):IntKind.u64.wrap (BitVec.ofInt IntKind.u64.bits (p:Int)^^^BitVec.ofInt IntKind.u64.bits (q:Int)).toNat=((p^^^q:Nat):Int):=by
 have h:∀z:Nat,z<2^64->((z:Int)%((2^IntKind.u64.bits:Nat):Int)).toNat=z:=λz hz=>by
  change((z:Int)%((18446744073709551616:Nat):Int)).toNat=z;omega
 rw[BitVec.toNat_xor,tj,tj,h p hp,h q hq];exact iF _ (by have:=Nat.xor_lt_two_pow hp hq;omega)
end
def bit (ws:List Nat) (i:Nat):Bool:=(ws.getD (i/64) 0).testBit (i%64)
def Words (ws:List Nat):Prop:=∀x∈ws,x<2^64
theorem Words.get {ws:List Nat} (h:Words ws) (k:Nat):ws.getD k 0<2^64:=by
 rw[ax]
 cases hx:ws[k]? with
 |none=>simp
 |some x=>exact h x (au hx)
theorem PL (ws:List Nat) (k j x:Nat) (hk:k<ws.length):(ws.set k x).getD j 0=if j=k then x else ws.getD j 0:=by
 rw[ax,ax,dN];by_cases h:k=j
 ·subst h;simp[hk]
 ·rw[if_neg h,if_neg (λe=>h e.symm)]
theorem Words.set {ws:List Nat} (h:Words ws) {k x:Nat} (hx:x<2^64):Words (ws.set k x):=λy hy=>by
 rcases List.mem_or_eq_of_mem_set hy with h1|h1
 ·exact h y h1
 ·rw[h1];exact hx
theorem PM {ws:List Nat} (hw:Words ws) {i:Nat} (hi:i/64<ws.length) (j:Nat):bit (ws.set (i/64) (ws.getD (i/64) 0^^^2^(i%64))) j=(bit ws j ^^ decide (j=i)):=by
 unfold bit;rw[PL _ _ _ _ hi];by_cases h:j/64=i/64
 ·rw[if_pos h,Nat.testBit_xor,Nat.testBit_two_pow,h];congr 1;exact decide_eq_decide.2 k3
 ·rw[if_neg h,decide_eq_false (by intro e;rw[e]at h;exact h G),Bool.xor_false]
theorem Gj (x i t:Nat):(x/2^i).testBit t=x.testBit (t+i):=Nat.testBit_div_two_pow x t
theorem PN:∀x:Nat,0<x->∃k m,x=2^k*(2*m+1):=by
 intro x
 induction x using Nat.strongRecOn with
 |_ x ih=>
  intro h;by_cases h2:x%2=1
  ·exact⟨0,x/2,by omega⟩
  ·obtain⟨k,m,e⟩:=ih (x/2) k3 k3;refine ⟨k+1,m,?_⟩;rw[Nat.pow_succ,Nat.mul_right_comm,<-e];omega
theorem PO (m:Nat):(2*m+1).testBit 0=true:=by rw[Nat.testBit_zero];exact decide_eq_true k3
theorem UU (m:Nat):(2*m).testBit 0=false:=by rw[Nat.testBit_zero];exact decide_eq_false k3
theorem Eu {k m:Nat}:(2^k*(2*m+1)).testBit k=true/\∀t,t<k->(2^k*(2*m+1)).testBit t=false:=by
 have h:=λj=>Nat.testBit_two_pow_mul_add (2*m+1) (b:=0) (i:=k) (Nat.two_pow_pos k) j
 simp only[Nat.add_zero]at h;constructor
 ·rw[h k,if_neg k3,CA,PO]
 ·intro t ht;rw[h t,if_pos ht,Nat.zero_testBit]
theorem UW {k m:Nat} (hx:2^k*(2*m+1)<2^64):(2^k*(2*m+1))&&&(2^64-2^k*(2*m+1))=2^k:=by
 have hp:=Nat.two_pow_pos k;have wZ:0<2^k*(2*m+1):=Nat.mul_pos hp k3
 have e1:2^64-2^k*(2*m+1)=2^64-((2^k*(2*m)+(2^k-1))+1):=by
  have:2^k*(2*m+1)=2^k*(2*m)+2^k:=by rw[Nat.mul_add,fN]
  omega
 apply Nat.eq_of_testBit_eq;intro j
 have e2:2^k*(2*m)+(2^k-1)<2^64:=by
  have:2^k*(2*m+1)=2^k*(2*m)+2^k:=by rw[Nat.mul_add,fN]
  omega
 rw[Nat.testBit_and,e1,Nat.testBit_two_pow_sub_succ e2,Nat.testBit_two_pow_mul_add _ k3,Nat.testBit_two_pow_sub_one,Nat.testBit_two_pow];have h:=Nat.testBit_two_pow_mul_add (2*m+1) (b:=0) (i:=k) hp j;simp only[Nat.add_zero]at h;rw[h];rcases fJ j k with h1|h1|h1
 ·rw[if_pos h1,Nat.zero_testBit,mA,decide_eq_false k3]
 ·subst h1
  have hj:j<64:=by
   rcases cQ j 64 with h2|h2
   ·exact h2
   ·have:=zK (n:=2) q0 h2;have:2^j*1<=2^j*(2*m+1):=Cs _ k3;omega
  rw[if_neg (kQ _),if_neg (kQ _),CA,PO,UU,decide_eq_true hj,decide_eq_true rfl];rfl
 ·rw[if_neg k3,if_neg k3,decide_eq_false (show¬k=j by omega)];obtain⟨t,rfl⟩:∃t,j=k+(t+1):=⟨j-k-1,by omega⟩;rw[show k+(t+1)-k=t+1 from by omega,Nat.testBit_succ,Nat.testBit_succ,show(2*m+1)/2=m from by omega,show 2*m/2=m from by omega]
  cases m.testBit t<;>simp
def OS:List Nat:=[0,1,56,2,57,49,28,3,61,58,42,50,38,29,17,4,62,47,59,36,45,43,51,22,53,39,33,30,24,18,12,5,63,55,48,27,60,41,37,16,46,35,44,21,52,32,23,11,54,26,40,15,34,20,31,10,25,14,19,9,13,8,7,6]
theorem ZA:∀k,k<64->(2^k*285870213051353865)%2^64/2^58<64/\OS[(2^k*285870213051353865)%2^64/2^58]? =some k:=by decide+kernel
theorem LD (n:Nat):IntKind.u64.wrap (n:Int)=((n%2^64:Nat):Int):=by
 have:IntKind.u64.wrap (n:Int)=(n:Int)%18446744073709551616:=by simp[IntKind.wrap,IntKind.bits,IntKind.signed]
 rw[this];omega
theorem ZB (x t:Nat) (ht:t<64):((x:Int)).fdiv (2^min ((t:Int)).toNat IntKind.u64.bits)=((x/2^t:Nat):Int):=by
 rw[an,show min t IntKind.u64.bits=t from jB (show t<=64 by omega),show(2:Int)^t=((2^t:Nat):Int)from by simp,Int.fdiv_eq_ediv_of_nonneg _ (Int.natCast_nonneg _)];rfl
theorem aly (t:Nat) (ht:t<64):IntKind.u64.wrap (1*2^min ((t:Int)).toNat IntKind.u64.bits)=((2^t:Nat):Int):=by
 have h:(2:Nat)^t<2^64:=Nat.pow_lt_pow_right q0 ht;rw[an,show min t IntKind.u64.bits=t from jB (show t<=64 by omega),Int.one_mul,show(2:Int)^t=((2^t:Nat):Int)from by simp,LD,ye h]
def tD (ws:List Nat):Array Value:=(ws.map fun(x:Nat)=>Value.int .u64 (x:Int)).toArray
theorem rj {ws:List Nat} {k:Nat} (hk:k<ws.length):(tD ws)[k]? =some (.int .u64 (ws.getD k 0:Nat)):=by
 simp[tD,ax,al hk]
theorem Jf (ws:List Nat) (k x:Nat):(tD ws).setIfInBounds k (.int .u64 (x:Int))=tD (ws.set k x):=by
 simp[tD,List.map_set]
structure kH (Ts Tw:TypeId) (n:Nat) (ws:List Nat) (M:aJ) (w:World) (bs bw:Nat):Prop where
 ms:M bs
 mw:M bw
 ne:bs≠bw
 s:w.heap[bs]? =some (.cells #[.int .i64 n,.slice (some ⟨bw,0,none⟩) ws.length ws.length] Ts (0,0))
 w:w.heap[bw]? =some (.cells (tD ws) Tw (0,0))
 len:ws.length=(n+63)/64
 ok:Words ws
 nn:n<=1099511627776
theorem kH.step {Ts Tw:TypeId} {n:Nat} {ws:List Nat} {M M' N:aJ} {w w':World} {bs bw:Nat} (h:kH Ts Tw n ws M w bs bw) (s:Step M w M' w' N) (h1: ¬N bs) (h2: ¬N bw):kH Ts Tw n ws M' w' bs bw:=
 ⟨(s.mem bs (ae h.s)).2 h.ms,(s.mem bw (ae h.w)).2 h.mw,h.ne,s.keep h.s h1,s.keep h.w h2,h.len,h.ok,h.nn⟩
theorem kH.put {Ts Tw:TypeId} {n:Nat} {ws IG:List Nat} {M:aJ} {w w':World} {bs bw:Nat} (h:kH Ts Tw n ws M w bs bw) (s:Step M w M w' (λb=>b=bw)) (hl:IG.length=ws.length) (hw:w'.heap[bw]? =some (.cells (tD IG) Tw (0,0))) (ok:Words IG):kH Ts Tw n IG M w' bs bw:=
 ⟨h.ms,h.mw,h.ne,by rw[hl];exact s.keep h.s h.ne,hw,by rw[hl];exact h.len,ok,h.nn⟩
def UX (n:Nat) (ws:List Nat) (i:Int):Bool:=decide (0<=i/\i<n)&&bit ws i.toNat
section
variable {P:Program} {r:Option Nat} {n:Nat} {L:Sl} {ds:List Deferred} {w:World} {K:Kt} {ops:Array Oper} {rest:List Oper} {d:Nat} {x:Operand} {ty:TypeId} {pos:String} {af:Array Edge}
end
theorem ajZ {ws:List Nat} {j:Nat} (h:ws.length<=j/64):bit ws j=false:=by
 unfold bit;rw[ax,cE h];simp
theorem PQ (k j:Nat):bit (List.replicate k 0) j=false:=by
 unfold bit;rw[ax,uA]
 split<;>simp
def Xo (ws:List Nat) (p:Nat) (r:Int):Prop:=(∃j:Nat,r=j/\p<=j/\bit ws j=true/\∀t,p<=t->t<j->bit ws t=false)\/(r= -1/\∀t,p<=t->bit ws t=false)
theorem A0 {ws:List Nat} {i t:Nat} (h:i%64+t<64):bit ws (i+t)=(ws.getD (i/64) 0/2^(i%64)).testBit t:=by
 unfold bit;rw[Gj,show(i+t)/64=i/64 from by omega,show(i+t)%64=t+i%64 from by omega]
theorem Gk {x i:Nat} (hx:x<2^64) (hi:i<64) {k m:Nat} (h:x/2^i=2^k*(2*m+1)):i+k<64:=by
 rcases cQ (i+k) 64 with h1|h1
 ·exact h1
 ·exfalso;have h2:(x/2^i).testBit k=true:=by rw[h];exact Eu.1
  rw[Gj]at h2;have:=Nat.testBit_lt_two_pow (k9 hx (zK (n:=2) q0 (show 64<=k+i by omega)));rw[this]at h2;cases h2
abbrev Fo:=Int×Int
abbrev Tw:=Int×Int×Int
abbrev RT.fo:RT Fo:=RT.pair (RT.int .i64) (RT.int .i64)
def RT.Ur:RT Nat where
 n:=1
 agg:=false
 R:=λ_ _ b vs=>vs=[.pointer (some ⟨b,0,none⟩)]
 len:=by rintro _ _ x vs rfl;rfl
 one:=by rintro _ _ x vs rfl v hv;simp at hv;subst hv;rfl
 le:=λ_ h=>h
theorem LF {M:aJ} {w:World} {b:Nat} {v:Value}:RT.Ur.V M w b v↔v= .pointer (some ⟨b,0,none⟩):=⟨fun⟨_,h1,h2⟩=>by cases h1;exact h2,λh=>⟨_,G,h⟩⟩
def hit (l:List Fo) (x:Int):Bool:=match l with| []=>false|p::_=>decide (p.1=x)
theorem aew {M:aJ} {w:World} {a b:Int} (ha: -9223372036854775808<=a/\a<=9223372036854775807) (hb: -9223372036854775808<=b/\b<=9223372036854775807):RT.fo.V M w (a,b) (.agg [.int .i64 a,.int .i64 b].toArray):=
 fE (gw ha) (gw hb) rfl rfl rfl rfl
section
variable {P:Program} {r:Option Nat} {n:Nat} {L:Sl} {ds:List Deferred} {w:World} {K:Kt} {ops:Array Oper} {rest:List Oper} {d:Nat} {x y:Operand} {ty:TypeId} {pos:String} {af:Array Edge}
theorem nL {t:TypeId} {k:IntKind} (ht:P.underlying t=some (.int k)) {cs:Array Value} {off:Nat} {v:Value} (hv:cs[off]? =some v):(part t cs off).run P w= .ok v w:=by
 have Eh:(isAgg t).run P w= .ok false w:=by
  unfold isAgg;rw[cA,run_underlying ht w];simp
 unfold part;rw[cA,Eh];simp[hv]
end
section
variable {P:Program} {r:Option Nat} {n:Nat} {L:Sl} {ds:List Deferred} {w:World} {K:Kt} {ops:Array Oper} {rest:List Oper} {d:Nat} {ty:TypeId} {pos:String} {af:Array Edge} {x y i:Operand}
theorem CN {t e:TypeId} {inf:TypeInfo} (ht:P.underlying t=some (.array 2 e)) (he:P.underlying e=some (.int .i64)) (hi:P.info? e=some inf) (hc:P.cellsOf e=1) (a b c f:Int):
  (Op.equal t (.agg #[.int .i64 a,.int .i64 b]) (.agg #[.int .i64 c,.int .i64 f])).run P w= .ok (decide ((a,b)=(c,f))) w:=by
 have hI:∀(k:Nat) (p q:Int),(Op.equalIn (k+1) e (.int .i64 p) (.int .i64 q)).run P w= .ok (p==q) w:=λk p q=>by simp[Op.equalIn,run_underlying he]
 change(Op.equalIn (9999+1) t _ _).run P w=_;rw[run_equalIn_array w 9999 _ _ ht hi,hc,show List.range 2=[0,1]from rfl];simp only[Op.eqItems,cA];rw[nL he (v:= .int .i64 a) rfl];simp only[dd];rw[nL he (v:= .int .i64 c) rfl];simp only[dd];rw[hI 9998];simp only[dd];by_cases h1:a=c
 ·subst h1;simp only[beq_self_eq_true,Bool.not_true,Bool.false_eq_true,if_false,cA];rw[nL he (v:= .int .i64 b) rfl];simp only[dd];rw[nL he (v:= .int .i64 f) rfl];simp only[dd];rw[hI 9998];simp only[dd];by_cases h2:b=f
  ·subst h2;simp
  ·simp[h2]
 ·simp[h1]
theorem Rg.aex {t t' e:TypeId} {inf:TypeInfo} {a b c f:Int} (ht:P.underlying t=some (.array 2 e)) (he:P.underlying e=some (.int .i64)) (hi:P.info? e=some inf) (hc:P.cellsOf e=1) (hq:P.eqGuardType P.depth t=false)
  (hx:ev L x=some (.agg #[.int .i64 a,.int .i64 b])) (hy:ev L y=some (.agg #[.int .i64 c,.int .i64 f])) (hd:Nat.blt d n=true)
  (k:Rg P r n ops rest ((d,.bool (decide ((a,b)=(c,f))))::L) ds w K):
  Rg P r n ops ({dst:=some d,op:= .binOp .eql t x y t',type:=ty,pos,after:=af,guard:=none}::rest) L ds w K:=
 .op a04 rfl rfl hd _ w (λρ h=>by
  have he:=CN (P:=P) (w:=w) ht he hi hc a b c f;simp only[execOp];rw[h x _ hx,h y _ hy];rw[cA,cA,run_eqGuard_agg (P:=P) w .eql t x y _ _ hq];simp[binOp,he]) k
theorem Rg.Jg {t t' e:TypeId} {zv:Value} {size bytes:Nat} {a b c f:Int} (ht:P.underlying t=some (.array 2 e)) (he:P.underlying e=some (.int .i64)) (hi:TI P e zv size bytes) (hc:P.cellsOf e=1) (hq:P.eqGuardType P.depth t=false)
  (hx:ev L x=some (.agg #[.int .i64 a,.int .i64 b])) (hy:ev L y=some (.agg #[.int .i64 c,.int .i64 f])) (hd:Nat.blt d n=true)
  (k:Rg P r n ops rest ((d,.bool (decide ((a,b)=(c,f))))::L) ds w K):
  Rg P r n ops ({dst:=some d,op:= .binOp .eql t x y t',type:=ty,pos,after:=af,guard:=none}::rest) L ds w K:=by
 obtain⟨inf,h1,_⟩:=hi.get;exact .aex ht he h1 hc hq hx hy hd k
theorem Rg.PR {t e:TypeId} {zv:Value} {bytes:Nat} {a b:Int} (ht:P.underlying t=some (.array 2 e)) (hi:TI P t (.agg #[.int .i64 0,.int .i64 0]) 2 16) (he:TI P e zv 1 bytes) (hx:ev L x=some (.int .i64 a)) (hy:ev L y=some (.int .i64 b)) (hd:Nat.blt d n=true)
  (k:Rg P r n ops rest ((d,.agg #[.int .i64 a,.int .i64 b])::L) ds w K):
  Rg P r n ops ({dst:=some d,op:= .build t #[(0,x),(1,y)],type:=ty,pos,after:=af,guard:=none}::rest) L ds w K:=by
 obtain⟨inf,h1,h2,h3,h4⟩:=hi.get;refine .op a04 G G hd _ w (λρ h=>?_) k;simp only[execOp,fg,fe,je,h x _ hx,h y _ hy];simp[Instr.build,zeroValue,typeInfo,h1,h2,run_underlying ht,he.sizeOf,Instr.fill,Value.cells]
theorem eX.ints {M:aJ} {κ:IntKind}:∀{xs:List Int} {C:List Value},eX (RT.int κ) M w xs C->C=xs.map (Value.int κ)
 |[],_,h=>by cases h;rfl
 |x::xs,_,⟨us,rest,h1,h2,h3⟩=>by
  subst h1;rw[h2.1,eX.ints h3];rfl
theorem eX.Ev {M:aJ} {κ:IntKind}:∀{xs:List Int},(∀x∈xs,κ.min<=x/\x<=κ.max)->eX (RT.int κ) M w xs (xs.map (Value.int κ))
 |[],_=>rfl
 |x::xs,h=>⟨[.int κ x],_,rfl,⟨rfl,h x (bZ ..)⟩,eX.Ev λy hy=>h y (cI _ hy)⟩
theorem eX.rng {M:aJ} {κ:IntKind}:∀{xs:List Int} {C:List Value},eX (RT.int κ) M w xs C->∀x∈xs,κ.min<=x/\x<=κ.max
 |[],_,_,x,hx=>by cases hx
 |y::xs,_,⟨us,rest,h1,h2,h3⟩,x,hx=>by
  rcases cR.1 hx with rfl|hx
  ·exact h2.2
  ·exact eX.rng h3 x hx
theorem Own.over {e:TypeId} {M:aJ} {base g len cap o:Nat} {κ:IntKind} {xs ys:List Int} (h:Own (RT.int κ) e M w base (.slice (some ⟨g,0,none⟩) len cap) xs) (ho:o+ys.length<=xs.length) (hy:∀y∈ys,κ.min<=y/\y<=κ.max):
  Own (RT.int κ) e M (w.setCells g o (ys.map (Value.int κ))) base (.slice (some ⟨g,0,none⟩) len cap) (xs.take o++ys++xs.drop (o+ys.length))/\Step M w M (w.setCells g o (ys.map (Value.int κ))) (λk=>k=g)/\(∀j,j<ys.length->(w.cell? ⟨g,o+j,none⟩).isSome=true)/\(∀j,j<ys.length->w.frozen? ⟨g,o+j,none⟩=false):=by
 obtain⟨⟨C,hr,ha⟩,hm⟩:=h;have zq:=hm g rfl;rcases hr.2 with⟨h1,_⟩|⟨g',zV,cur,h1,h2,h3,h4,h5,h6,h7⟩
 ·cases h1
 ·simp only[gG,eE,mW]at h1;obtain⟨⟨rfl,_⟩,rfl,rfl⟩:=h1;have e1:(RT.int κ).n=1:=rfl;rw[e1,fN]at h6 h7;have hCx:=ha.ints;have UK:=ha.rng;obtain⟨IF,c1,c2,c3,c4⟩:=pw (ys.map (Value.int κ)) w g o cur e (0,0) h3;have hs:=c4 M zq;have hlen:(xs.take o++ys++xs.drop (o+ys.length)).length=xs.length:=by rw[aY,aY,aU,dS];omega
  refine⟨⟨⟨(xs.take o++ys++xs.drop (o+ys.length)).map (Value.int κ),⟨by rw[ay,e1,fN],.inr ⟨g,cap,IF,by rw[hlen],h2,c1,by rw[hlen];exact h4,h5,by rw[c2,e1,fN];exact h6,?_⟩⟩,eX.Ev λz hz=>?_⟩,λb hb=>hm b hb⟩,hs,λj hj=>?_,λj hj=>by simp[World.frozen?,h3]⟩
  ·rw[e1,fN,hlen];refine eS λt=>?_
   rw[cY];have PH:=LC (l:=xs.map (Value.int κ)) (vs:=ys.map (Value.int κ)) (o:=o) (by rw[ay,ay];exact ho) t;rw[ay,<-List.map_take,<-List.map_drop,<-cG,<-cG]at PH;rw[PH];have hct:∀t,t<xs.length->(xs.map (Value.int κ))[t]? =cur[t]? :=λt ht=>by rw[<-hCx,<-h7,cY,if_pos ht];simp
   split
   ·rename_i ht
    have e0:IF.toList[t]? =IF[t]? :=by simp
    rw[e0,c3 t,ay];by_cases h8:o<=t/\t<o+ys.length
    ·rw[if_pos ⟨h8.1,h8.2,by omega⟩,if_pos h8]
    ·rw[if_neg (λh=>h8 ⟨h.1,h.2.1⟩),if_neg h8,hct t ht]
   ·rename_i ht
    rw[if_neg k3,cE a86]
  ·rcases cP.1 hz with hz|hz
   ·rcases cP.1 hz with hz|hz
    ·exact UK z (lV hz)
    ·exact hy z hz
   ·exact UK z (List.mem_of_mem_drop hz)
  ·rw[gA h3 (v:=cur[o+j]' k3) (by simp)];rfl
theorem Own.cell {e:TypeId} {M:aJ} {base g len cap j:Nat} {κ:IntKind} {xs:List Int} {a:Int} (h:Own (RT.int κ) e M w base (.slice (some ⟨g,0,none⟩) len cap) xs) (hx:xs[j]? =some a):w.cell? ⟨g,j,none⟩=some (.int κ a):=by
 obtain⟨b,o,vs,h1,h2,h3,h4⟩:=h.ptr hx;simp only[Value.pointer.injEq,eE,mW]at h1;obtain⟨rfl,rfl,_⟩:=h1;have:=h4 0 (.int κ a) (by rw[h3.1];rfl);simpa[RT.int]using this
theorem Rg.Xp {tt st e:TypeId} {zv:Value} {bytes:Nat} {M:aJ} {base g len cap o dl dc sl sc:Nat} {κ:IntKind} {xs ys:List Int} {sa:Addr} (ht:P.underlying tt=some (.slice e)) (hi:TI P e zv 1 bytes) (hd:Nat.blt d n=true)
  (hx:ev L x=some (.slice (some ⟨g,o,none⟩) dl dc)) (hy:ev L y=some (.slice (some sa) sl sc)) (h:Own (RT.int κ) e M w base (.slice (some ⟨g,0,none⟩) len cap) xs) (hn:ys.length=min sl dl) (ho:o+ys.length<=xs.length)
  (alz:∀j a,ys[j]? =some a->w.cell? (sa.add j)=some (.int κ a)) (UK:∀a∈ys,κ.min<=a/\a<=κ.max)
  (k:∀w',Own (RT.int κ) e M w' base (.slice (some ⟨g,0,none⟩) len cap) (xs.take o++ys++xs.drop (o+ys.length))->Step M w M w' (λk=>k=g)->Rg P r n ops rest ((d,.int .i64 (ys.length:Int))::L) ds w' K):
  Rg P r n ops ({dst:=some d,op:= .call {callee:= .builtin .copy,args:= #[x,y],argTypes:= #[tt,st]},type:=ty,pos,after:=af,guard:=none}::rest) L ds w K:=by
 obtain⟨h1,h2,h3,h4⟩:=h.over ho UK;obtain⟨inf,i1,_,i2,_⟩:=hi.get
 have jf:=run_copy_cells (P:=P) w tt st ty e g o dl dc sa sl sc (ys.map (Value.int κ)) ht (by simp[i1,i2]) (by rw[ay];exact hn)
  (λj v hv=>by
   rw[bj]at hv
   cases hj:ys[j]? with
   |none=>rw[hj]at hv;cases hv
   |some a=>rw[hj]at hv;cases hv;exact alz j a hj) (by rw[ay];exact h3) (by rw[ay];exact h4) (λv hv=>by obtain⟨a,_,rfl⟩:=ck.1 hv;rfl)
 rw[ay]at jf;refine .op a04 G G hd _ _ (λρ hρ=>?_) (k _ h1 h2);simp only[execOp,resolve,fg,fe,je,hρ x _ hx,hρ y _ hy];simp[Go.invoke,builtin,jf,goInt]
theorem Rg.ZC {tt e:TypeId} {bytes:Nat} {M:aJ} {base g len cap o dl dc:Nat} {κ:IntKind} {xs:List Int} (ht:P.underlying tt=some (.slice e)) (hi:TI P e (.int κ 0) 1 bytes) (hx:ev L x=some (.slice (some ⟨g,o,none⟩) dl dc)) (h:Own (RT.int κ) e M w base (.slice (some ⟨g,0,none⟩) len cap) xs) (hdl:0<dl) (ho:o+dl<=xs.length) (hz:κ.min<=0/\0<=κ.max)
  (k:∀w',Own (RT.int κ) e M w' base (.slice (some ⟨g,0,none⟩) len cap) (xs.take o++List.replicate dl 0++xs.drop (o+dl))->Step M w M w' (λk=>k=g)->Rg P r n ops rest L ds w' K):
  Rg P r n ops ({dst:=none,op:= .call {callee:= .builtin .clear,args:= #[x],argTypes:= #[tt]},type:=ty,pos,after:=af,guard:=none}::rest) L ds w K:=by
 obtain⟨h1,h2,h3,h4⟩:=h.over (ys:=List.replicate dl 0) (o:=o) (by rw[db];exact ho) (λa ha=>by rw[jT ha];exact hz);rw[db]at h1 h3 h4;obtain⟨inf,i1,i2,i3,_⟩:=hi.get;have jf:=Go.Lib.run_clear_slice (P:=P) w tt e ty (.int κ 0) ht (λw=>by simp[zeroValue,typeInfo,i1,i2]) rfl rfl g o dl dc hdl h3 h4;rw[List.map_replicate]at h1 h2;refine .opv a04 G G (.tuple #[]) _ (λρ hρ=>?_) (k _ h1 h2);simp only[execOp,resolve,fg,fe,je,hρ x _ hx];simp[Go.invoke,builtin,jf]
end
end Go.K
namespace Go.K
open Go.RowKit (Below)
open Go.Maps (Keyed)
open Go.ChangeMaps (putKey delKey notKey)
abbrev DU:=DataW Unit
structure ZD (P:Program) (k:TypeId) (R:Value->Option (DU×List MemPlace)) (M:aJ) (w:World) (b:Nat) (m:List (Lit×DU)):Prop where
 mut_:M b
 own:w.ownsMap P k R b m.length (.map m)
section
variable {P:Program} {r:Option Nat} {n:Nat} {L:Sl} {ds:List Deferred} {w:World} {K:Kt} {ops:Array Oper} {rest:List Oper} {d:Nat} {x y z:Operand} {ty:TypeId} {pos:String} {af:Array Edge}
variable {kt:TypeId} {R:Value->Option (DU×List MemPlace)} {M:aJ} {b:Nat} {m:List (Lit×DU)}
theorem Step.A1 {w w':World} (h:Below w.heap.size w w') (M:aJ):Step M w M w' aA:=
 ⟨λh0 b hb=>k9 (h0 b hb) h.size,h.os,h.tape,h.output,h.size,λ_ _=>Iff.rfl,λb hb _=>h.block b hb,λ_ h=>h.elim⟩
end
end Go.K
namespace Go.K
def allM:aJ:=λ_=>True
theorem Step.all {M M' N:aJ} {w w':World} (s:Step M w M' w' N):Step allM w allM w' N:=⟨λh=>absurd (h w.heap.size trivial) (kQ _),s.os,s.tape,s.output,s.size,λ_ _=>Iff.rfl,s.same,λ_ _=>trivial⟩
theorem Step.toAny {M M':aJ} {w w':World} (s:Step M w M' w' aA) (M1:aJ):Step M1 w M1 w' aA:=s.any M1
theorem eX.int {κ:IntKind} {M M':aJ} {w w':World}:∀{xs:List Int} {C:List Value},eX (RT.int κ) M w xs C->eX (RT.int κ) M' w' xs C
 |[],_,h=>h
 |x::xs,C,h=>by
  obtain⟨vs,r,h1,h2,h3⟩:=h;exact⟨vs,r,h1,h2,eX.int h3⟩
theorem Own.UY {κ:IntKind} {e:TypeId} {M:aJ} {w:World} {base:Nat} {v:Value} {xs:List Int} (h:Own (RT.int κ) e M w base v xs) {M':aJ} (hm:∀b,v.ownBlock=some b->M' b):Own (RT.int κ) e M' w base v xs:=by
 obtain⟨⟨C,h1,h2⟩,_⟩:=h;exact⟨⟨C,h1,eX.int h2⟩,hm⟩
theorem Own.aey {κ:IntKind} {e:TypeId} {N:aJ} {w w':World} {base:Nat} {v:Value} {xs:List Int} (h:Own (RT.int κ) e allM w base v xs) (s:Step allM w allM w' N) (hn:∀b,v.ownBlock=some b->¬N b):Own (RT.int κ) e allM w' base v xs:=by
 obtain⟨⟨C,h1,h2⟩,_⟩:=h;refine⟨⟨C,⟨h1.1,?_⟩,eX.int h2⟩,λ_ _=>trivial⟩;rcases h1.2 with h3|⟨g,cap,cur,h3,h4,h5,h6,h7,h8⟩
 ·exact .inl h3
 ·exact .inr ⟨g,cap,cur,h3,h4,by rw[s.same g (ae h5) (hn g (by rw[h3];rfl))];exact h5,h6,h7,h8⟩
def o9 (v:Value):aJ:=λb=>v.ownBlock=some b
theorem Own.lone {κ:IntKind} {e:TypeId} {M:aJ} {w:World} {base:Nat} {v:Value} {xs:List Int} (h:Own (RT.int κ) e M w base v xs):Own (RT.int κ) e (o9 v) w base v xs:=h.UY λ_ h=>h
def Jh (at':Nat->Nat) (cont:Nat->Bool):Nat×Nat:=
 if at' 0<0x80 then(at' 0,1)
 else if at' 0/32==6&&cont 1 then
  if(at' 0%32)*64+at' 1%64>=0x80 then((at' 0%32)*64+at' 1%64,2)else(65533,1)
 else if at' 0/16==14&&cont 1&&cont 2 then
  if(at' 0%16)*4096+(at' 1%64)*64+at' 2%64>=0x800&&Utf8.valid ((at' 0%16)*4096+(at' 1%64)*64+at' 2%64:Nat)then((at' 0%16)*4096+(at' 1%64)*64+at' 2%64,3)else(65533,1)
 else if at' 0/8==30&&cont 1&&cont 2&&cont 3 then
  if(at' 0%8)*262144+(at' 1%64)*4096+(at' 2%64)*64+at' 3%64>=0x10000&&Utf8.valid ((at' 0%8)*262144+(at' 1%64)*4096+(at' 2%64)*64+at' 3%64:Nat)then((at' 0%8)*262144+(at' 1%64)*4096+(at' 2%64)*64+at' 3%64,4)else(65533,1)
 else(65533,1)
theorem Nx (s:ByteArray) (i:Nat):Utf8.decode s i=Jh (λk=>(s.get! (i+k)).toNat) (λk=>decide (i+k<s.size)&&(s.get! (i+k)).toNat/64==2):=rfl
def l3 (l:List UInt8) (k:Nat):Nat:=(l.getD k 0).toNat
def l9 (l:List UInt8) (k:Nat):Bool:=decide (k<l.length)&&l3 l k/64==2
def dec (l:List UInt8):Nat×Nat:=Jh (l3 l) (l9 l)
theorem Ny (l:List UInt8) (j:Nat):(⟨l.toArray⟩:ByteArray).get! j=l.getD j 0:=by
 show l.toArray[j]! =_;rw[ax,getElem!_def];simp only[ec]
 cases l[j]? <;>rfl
theorem Ji (l:List UInt8) (pos:Nat):Utf8.decode ⟨l.toArray⟩ pos=dec (l.drop pos):=by
 rw[Nx,dec]
 have h1:(λk=>((⟨l.toArray⟩:ByteArray).get! (pos+k)).toNat)=l3 (l.drop pos):=by
  funext k;rw[Ny,l3,ax,ax,ti]
 have h2:(λk=>decide (pos+k<(⟨l.toArray⟩:ByteArray).size)&&((⟨l.toArray⟩:ByteArray).get! (pos+k)).toNat/64==2)=l9 (l.drop pos):=by
  funext k;have:=congrFun h1 k;rw[this,l9,dS];congr 1;have hs:(⟨l.toArray⟩:ByteArray).size=l.length:=by simp[ByteArray.size]
  rw[hs];exact decide_eq_decide.2 k3
 rw[h1,h2]
theorem A2 {l:List UInt8} {k:Nat} (h:l9 l k=true):k<l.length:=by
 simp only[l9,cv,decide_eq_true_eq]at h;exact h.1
theorem nX {l:List UInt8} (hl:l≠[]):1<=(dec l).2/\(dec l).2<=l.length:=by
 have h0:0<l.length:=qP.2 hl;unfold dec Jh
 split
 ·exact⟨aN _,h0⟩
 ·split
  ·rename_i h
   simp only[cv]at h;have:=A2 h.2
   split<;>(simp only;omega)
  ·split
   ·rename_i h
    simp only[cv]at h;have:=A2 h.2
    split<;>(simp only;omega)
   ·split
    ·rename_i h
     simp only[cv]at h;have:=A2 h.2
     split<;>(simp only;omega)
    ·exact⟨aN _,h0⟩
theorem rr (l:List UInt8) (k:Nat):l3 l k<256:=by unfold l3;exact UInt8.toNat_lt _
theorem yw (l:List UInt8):(dec l).1<=1114111:=by
 unfold dec Jh
 split
 ·simp only;omega
 ·split
  ·have:=rr l 0
   split<;>(simp only;omega)
  ·split
   ·have:=rr l 0
    split<;>(simp only;omega)
   ·split
    ·split
     ·rename_i h
      simp only[cv,Utf8.valid,lL,decide_eq_true_eq]at h;simp only;omega
     ·simp only;omega
    ·simp only;omega
def gE (l:List UInt8):List Int:=match l with
 |[]=>[]
 |c::r=>((dec (c::r)).1:Int)::gE ((c::r).drop (dec (c::r)).2)
termination_by l.length
decreasing_by
 have:=(nX (l:=c::r) (by simp)).1;simp only[dS,dG];omega
theorem yx:gE []=[]:=by unfold gE;rfl
theorem wo {l:List UInt8} (h:l≠[]):gE l=((dec l).1:Int)::gE (l.drop (dec l).2):=by
 cases l with
 |nil=>exact absurd rfl h
 |cons c r=>rw[gE]
theorem kd (l:List UInt8):(gE l).length<=l.length:=by
 induction hn:l.length using Nat.strongRecOn generalizing l with
 |_ n ih=>
  by_cases h:l=[]
  ·subst h;rw[yx];simp
  ·rw[wo h,dG];have hw:=nX h;have:=ih _ (by rw[dS];omega) (l.drop (dec l).2) rfl;rw[dS]at this;omega
section
variable {P:Program} {r:Option Nat} {n:Nat} {L:Sl} {ds:List Deferred} {w:World} {K:Kt} {ops:Array Oper} {rest:List Oper} {d:Nat} {x:Operand} {ty:TypeId} {pos:String} {af:Array Edge}
theorem Rg.PS {t:TypeId} {l:List UInt8} (M:aJ) (ht:P.underlying t=some .string) (hx:ev L x=some (.string ⟨l.toArray⟩)) (hd:Nat.blt d n=true)
  (k:∀b w',w.heap.size<=b->b<w'.heap.size->w'.heap[b]? =some (.stringIter ⟨l.toArray⟩ 0)->Step M w (ins M b) w' aA->Rg P r n ops rest ((d,.pointer (some ⟨b,0,none⟩))::L) ds w' K):
  Rg P r n ops ({dst:=some d,op:= .range t x,type:=ty,pos,after:=af,guard:=none}::rest) L ds w K:=by
 refine .op a04 G G hd (.pointer (some ⟨w.heap.size,0,none⟩)) (w.alloc (.stringIter ⟨l.toArray⟩ 0)) (λρ hρ=>?_) (k w.heap.size _ (aN _) (by simp) (de w _) ((dK M w _).own (aN _) (by simp)));simp only[execOp,hρ x _ hx];simp[Instr.range,cA,run_underlying ht,newObj,Sem.run]
theorem kI (M:aJ) {b:Nat} {o:Obj} (hm:M b):Step M w M {w with heap:=w.heap.setIfInBounds b o} (λk=>k=b):=
 ⟨λh b hb=>by simpa using h b hb,rfl,rfl,rfl,by simp,λ_ _=>Iff.rfl,λk _ hn=>by simp[ei,Ne.symm hn],λk hk=>by subst hk;exact hm⟩
theorem tF {b p:Nat} {s:ByteArray} (hb:w.heap[b]? =some (.stringIter s p)):(getObj b).run P w= .ok (.stringIter s p) w:=by simp[getObj,Sem.run,hb]
theorem Rg.UZ {l:List UInt8} {b p:Nat} {M:aJ} (hx:ev L x=some (.pointer (some ⟨b,0,none⟩))) (hb:w.heap[b]? =some (.stringIter ⟨l.toArray⟩ p)) (hm:M b) (hd:Nat.blt d n=true)
  (k1:p<l.length->∀w',w'.heap[b]? =some (.stringIter ⟨l.toArray⟩ (p+(dec (l.drop p)).2))->Step M w M w' (λk=>k=b)->Rg P r n ops rest ((d,.tuple #[.bool true,.int .i64 p,.int .i32 ((dec (l.drop p)).1:Nat)])::L) ds w' K)
  (k2: ¬p<l.length->Rg P r n ops rest ((d,.tuple #[.bool false])::L) ds w K):
  Rg P r n ops ({dst:=some d,op:= .next x true,type:=ty,pos,after:=af,guard:=none}::rest) L ds w K:=by
 have hs:(⟨l.toArray⟩:ByteArray).size=l.length:=by simp[ByteArray.size]
 have eK:=ae hb;by_cases h:p<l.length
 ·have key:=k1 h {w with heap:=w.heap.setIfInBounds b (.stringIter ⟨l.toArray⟩ (p+(dec (l.drop p)).2))} (by simp[ei,eK]) (kI M hm);refine .op a04 G G hd _ _ (λρ hρ=>?_) key;simp only[execOp,hρ x _ hx,Instr.next,cA,tF hb,dd];rw[if_pos (by rw[hs];exact h)];simp[Ji,setObj,Sem.run,goInt,hb]
 ·refine .op a04 G G hd _ w (λρ hρ=>?_) (k2 h);simp only[execOp,hρ x _ hx,Instr.next,cA,tF hb,dd];rw[if_neg (by rw[hs];exact h)];simp
theorem Rg.LG {t:TypeId} {i:Operand} {l:List UInt8} {κ:IntKind} {j:Int} {c:UInt8} (ht:P.underlying t=some .string) (hx:ev L x=some (.string ⟨l.toArray⟩)) (hi:ev L i=some (.int κ j)) (hd:Nat.blt d n=true) (hj:0<=j) (hc:l[j.toNat]? =some c)
  (k:Rg P r n ops rest ((d,.int .u8 (c.toNat:Int))::L) ds w K):
  Rg P r n ops ({dst:=some d,op:= .index t x i,type:=ty,pos,after:=af,guard:=none}::rest) L ds w K:=by
 have eK:=(aj.1 hc).1;have hs:(⟨l.toArray⟩:ByteArray).size=l.length:=by simp[ByteArray.size]
 have hg:(⟨l.toArray⟩:ByteArray)[j.toNat]? =some c:=by
  rw[getElem?_pos _ _ (by rw[hs];exact eK)];congr 1;have:=(aj.1 hc).2;rw[<-this];rfl
 refine .op a04 G G hd _ w (λρ hρ=>?_) k;simp only[execOp,hρ x _ hx,hρ i _ hi,Instr.index,cA,asIntOf,zN,dd,run_underlying ht];simp[hj,hg]
theorem vz (l:List UInt8) (a b:Nat):(⟨l.toArray⟩:ByteArray).extract a b=⟨((l.take b).drop a).toArray⟩:=by
 have:((⟨l.toArray⟩:ByteArray).extract a b).data=((l.take b).drop a).toArray:=by
  rw[ByteArray.data_extract];apply Array.toList_inj.1;rw[Array.toList_extract,List.extract_eq_take_drop,List.drop_take]
 exact congrArg ByteArray.mk this
theorem Rg.U0 {t:TypeId} {i:Operand} {l:List UInt8} {κ:IntKind} {j:Int} (ht:P.underlying t=some .string) (hx:ev L x=some (.string ⟨l.toArray⟩)) (hi:ev L i=some (.int κ j)) (hd:Nat.blt d n=true) (hj:0<=j/\j<=l.length)
  (k:Rg P r n ops rest ((d,.string ⟨(l.drop j.toNat).toArray⟩)::L) ds w K):
  Rg P r n ops ({dst:=some d,op:= .slice t x (some i) none none,type:=ty,pos,after:=af,guard:=none}::rest) L ds w K:=by
 have hs:(⟨l.toArray⟩:ByteArray).size=l.length:=by simp[ByteArray.size]
 refine .op a04 G G hd _ w (λρ hρ=>?_) k;simp only[execOp,hρ x _ hx,dA,gI,hρ i _ hi];rw[cA,run_sliceAt_string _ _ _ _ _ _ ht,run_slice_string_l _ _ _ ht _ _ hj.1 (by rw[hs];exact hj.2),vz,hs,mB];simp
theorem Rg.Xq {t:TypeId} {i:Operand} {l:List UInt8} {κ:IntKind} {j:Int} (ht:P.underlying t=some .string) (hx:ev L x=some (.string ⟨l.toArray⟩)) (hi:ev L i=some (.int κ j)) (hd:Nat.blt d n=true) (hj:0<=j/\j<=l.length)
  (k:Rg P r n ops rest ((d,.string ⟨(l.take j.toNat).toArray⟩)::L) ds w K):
  Rg P r n ops ({dst:=some d,op:= .slice t x none (some i) none,type:=ty,pos,after:=af,guard:=none}::rest) L ds w K:=by
 have hs:(⟨l.toArray⟩:ByteArray).size=l.length:=by simp[ByteArray.size]
 refine .op a04 G G hd _ w (λρ hρ=>?_) k;simp only[execOp,hρ x _ hx,dA,gI,hρ i _ hi];rw[cA,run_sliceAt_string _ _ _ _ _ _ ht,run_slice_string_h _ _ _ ht _ _ hj.1 (by rw[hs];exact hj.2),vz,List.drop_zero];simp
end
theorem Own.eU {α:Type} {A:RT α} {e:TypeId} {M:aJ} {w:World} {base b p:Nat} {s:ByteArray} {v:Value} {xs:List α} (h:Own A e M w base v xs) (hb:w.heap[b]? =some (.stringIter s p)):v.ownBlock≠some b:=λhv=>by
 obtain⟨⟨C,h1,_⟩,_⟩:=h;rcases h1.2 with⟨h2,_⟩|⟨g,cap,cur,h2,_,h3,_⟩
 ·rw[h2]at hv;cases hv
 ·rw[h2]at hv;cases hv;rw[h3]at hb;cases hb
theorem Own.cr {α β:Type} {A:RT α} {B:RT β} {e e':TypeId} {M M':aJ} {w:World} {base Lx:Nat} {v u:Value} {xs:List α} {ys:List β} (h:Own A e M w base v xs) (h':Own B e' M' w Lx u ys) (ht:e≠e') {b:Nat} (hb:v.ownBlock=some b):u.ownBlock≠some b:=λhu=>by
 obtain⟨⟨C,h1,_⟩,_⟩:=h;obtain⟨⟨C',UR,_⟩,_⟩:=h';rcases h1.2 with⟨h2,_⟩|⟨g,cap,cur,h2,_,h3,_⟩
 ·rw[h2]at hb;cases hb
 ·rcases UR.2 with⟨An,_⟩|⟨g',zV,ad9,An,_,h3',_⟩
  ·rw[An]at hu;cases hu
  ·rw[h2]at hb;rw[An]at hu;cases hb;cases hu;rw[h3]at h3';cases h3';exact ht G
theorem Own.eu {α:Type} {A:RT α} {e t:TypeId} {M:aJ} {w:World} {base b:Nat} {v:Value} {xs:List α} {cs:Array Value} {fr:Nat×Nat} (h:Own A e M w base v xs) (hb:w.heap[b]? =some (.cells cs t fr)) (ht:t≠e):v.ownBlock≠some b:=λhv=>by
 obtain⟨⟨C,h1,_⟩,_⟩:=h;rcases h1.2 with⟨h2,_⟩|⟨g,cap,cur,h2,_,h3,_⟩
 ·rw[h2]at hv;cases hv
 ·rw[h2]at hv;cases hv;rw[h3]at hb;cases hb;exact ht G
open Go.Proofs
theorem I3:TI Tryz.prog 3 (.int .i64 0) 1 8:=by unfold TI;kernel_rfl
theorem I5:TI Tryz.prog 5 (.int .u8 0) 1 1:=by unfold TI;kernel_rfl
theorem I9:TI Tryz.prog 9 (.string ⟨#[]⟩) 1 16:=by unfold TI;kernel_rfl
theorem I26:TI Tryz.prog 26 (.int .i64 0) 1 8:=by unfold TI;kernel_rfl
theorem iJ:TI Tryz.prog 37 (.slice none 0 0) 1 24:=by unfold TI;kernel_rfl
theorem qM:TI Tryz.prog 57 (.slice none 0 0) 1 24:=by unfold TI;kernel_rfl
theorem uU:TI Tryz.prog 67 (.slice none 0 0) 1 24:=by unfold TI;kernel_rfl
theorem nY:TI Tryz.prog 69 (.agg #[(.int .i64 0),(.slice none 0 0)]) 2 32:=by unfold TI;kernel_rfl
theorem A3:TI Tryz.prog 71 (.agg #[(.int .i64 0),(.slice none 0 0),(.int .i64 0)]) 3 40:=by unfold TI;kernel_rfl
theorem mT:TI Tryz.prog 78 (.agg #[(.string ⟨#[]⟩),(.string ⟨#[]⟩)]) 2 32:=by unfold TI;kernel_rfl
theorem ng:TI Tryz.prog 83 (.agg #[(.int .i64 0),(.slice none 0 0)]) 2 32:=by unfold TI;kernel_rfl
theorem CO:TI Tryz.prog 142 (.pointer none) 1 8:=by unfold TI;kernel_rfl
theorem alA:TI Tryz.prog 155 (.slice none 0 0) 1 24:=by unfold TI;kernel_rfl
theorem ly:TI Tryz.prog 166 (.agg #[(.string ⟨#[]⟩),(.string ⟨#[]⟩)]) 2 32:=by unfold TI;kernel_rfl
theorem Gl:TI Tryz.prog 204 (.slice none 0 0) 1 24:=by unfold TI;kernel_rfl
theorem Nz:TI Tryz.prog 205 (.slice none 0 0) 1 24:=by unfold TI;kernel_rfl
theorem alB:TI Tryz.prog 207 (.agg #[(.slice none 0 0),(.slice none 0 0),(.int .i64 0)]) 3 56:=by unfold TI;kernel_rfl
theorem Ew:TI Tryz.prog 209 (.agg #[(.int .i64 0),(.int .i64 0),(.int .i64 0),(.int .i64 0)]) 4 32:=by unfold TI;kernel_rfl
theorem NA:TI Tryz.prog 266 (.agg #[(.string ⟨#[]⟩),(.int .i64 0)]) 2 24:=by unfold TI;kernel_rfl
theorem alC:TI Tryz.prog 336 (.agg #[(.pointer none),(.slice none 0 0)]) 2 32:=by unfold TI;kernel_rfl
theorem B69:placesOf Tryz.prog 69=[(0,1),(1,1)].map some:=by kernel_rfl
theorem B71:placesOf Tryz.prog 71=[(0,2),(2,1)].map some:=by kernel_rfl
theorem B78:placesOf Tryz.prog 78=[(0,1),(1,1)].map some:=by kernel_rfl
theorem ZE:placesOf Tryz.prog 83=[(0,1),(1,1)].map some:=by kernel_rfl
theorem alD:placesOf Tryz.prog 207=[(0,1),(1,1),(2,1)].map some:=by kernel_rfl
theorem alE:placesOf Tryz.prog 209=[(0,1),(1,1),(2,1),(3,1)].map some:=by kernel_rfl
theorem aez:placesOf Tryz.prog 266=[(0,1),(1,1)].map some:=by kernel_rfl
theorem mixed:Tryz.prog.follows .mixedOrders=true:=by kernel_rfl
theorem E44:Enters Tryz.prog 44:=enters Tryz.func44 rfl q0
theorem E80:Enters Tryz.prog 80:=enters Tryz.func80 rfl q0
theorem E93:Enters Tryz.prog 93:=enters Tryz.func93 rfl q0
theorem E94:Enters Tryz.prog 94:=enters Tryz.func94 rfl q0
theorem alG:Enters Tryz.prog 128:=enters Tryz.func128 rfl q0
theorem alH:Enters Tryz.prog 129:=enters Tryz.func129 rfl q0
theorem alI:Enters Tryz.prog 130:=enters Tryz.func130 rfl q0
theorem alJ:Enters Tryz.prog 131:=enters Tryz.func131 rfl q0
theorem aeA:Enters Tryz.prog 132:=enters Tryz.func132 rfl q0
theorem alK:Enters Tryz.prog 136:=enters Tryz.func136 rfl q0
theorem alL:Enters Tryz.prog 137:=enters Tryz.func137 rfl q0
theorem alM:Enters Tryz.prog 138:=enters Tryz.func138 rfl q0
theorem alN:Enters Tryz.prog 139:=enters Tryz.func139 rfl q0
theorem alO:Enters Tryz.prog 148:=enters Tryz.func148 rfl q0
theorem aeB:Enters Tryz.prog 183:=enters Tryz.func183 rfl q0
theorem alP:Enters Tryz.prog 184:=enters Tryz.func184 rfl q0
theorem alQ:Enters Tryz.prog 185:=enters Tryz.func185 rfl q0
theorem alR:Enters Tryz.prog 186:=enters Tryz.func186 rfl q0
theorem alS:Enters Tryz.prog 187:=enters Tryz.func187 rfl q0
theorem alT:Enters Tryz.prog 188:=enters Tryz.func188 rfl q0
theorem alU:Enters Tryz.prog 190:=enters Tryz.func190 rfl q0
theorem alV:Enters Tryz.prog 193:=enters Tryz.func193 rfl q0
theorem alW:Enters Tryz.prog 194:=enters Tryz.func194 rfl q0
theorem ZF:Enters Tryz.prog 195:=enters Tryz.func195 rfl q0
theorem alX:Enters Tryz.prog 196:=enters Tryz.func196 rfl q0
theorem aeC:Enters Tryz.prog 201:=enters Tryz.func201 rfl q0
theorem alY:Enters Tryz.prog 222:=enters Tryz.func222 rfl q0
theorem alZ:Enters Tryz.prog 223:=enters Tryz.func223 rfl q0
theorem aeD:Enters Tryz.prog 224:=enters Tryz.func224 rfl q0
theorem al0:Enters Tryz.prog 225:=enters Tryz.func225 rfl q0
theorem al1:Enters Tryz.prog 226:=enters Tryz.func226 rfl q0
theorem aeE:Enters Tryz.prog 227:=enters Tryz.func227 rfl q0
theorem al2:Enters Tryz.prog 228:=enters Tryz.func228 rfl q0
theorem al3:Enters Tryz.prog 229:=enters Tryz.func229 rfl q0
theorem al4:Enters Tryz.prog 237:=enters Tryz.func237 rfl q0
theorem al5:Enters Tryz.prog 249:=enters Tryz.func249 rfl q0
theorem al6:Enters Tryz.prog 250:=enters Tryz.func250 rfl q0
theorem al7:Enters Tryz.prog 251:=enters Tryz.func251 rfl q0
theorem aeF:Enters Tryz.prog 252:=enters Tryz.func252 rfl q0
theorem al8:Enters Tryz.prog 253:=enters Tryz.func253 rfl q0
theorem aeG:Enters Tryz.prog 254:=enters Tryz.func254 rfl q0
theorem aeH:Enters Tryz.prog 263:=enters Tryz.func263 rfl q0
theorem al9:Enters Tryz.prog 264:=enters Tryz.func264 rfl q0
theorem ama:Enters Tryz.prog 265:=enters Tryz.func265 rfl q0
theorem amb:Enters Tryz.prog 266:=enters Tryz.func266 rfl q0
theorem amc:Enters Tryz.prog 267:=enters Tryz.func267 rfl q0
theorem amd:Enters Tryz.prog 284:=enters Tryz.func284 rfl q0
theorem ame:Enters Tryz.prog 285:=enters Tryz.func285 rfl q0
theorem aeI:Enters Tryz.prog 287:=enters Tryz.func287 rfl q0
theorem amf:Enters Tryz.prog 290:=enters Tryz.func290 rfl q0
set_option maxRecDepth 10000
def ij (c:Int):Bool:=decide ((97<=c/\c<=122)\/(65<=c/\c<=90)\/(192<=c/\c<=591/\c≠215/\c≠247))
def ru (c:Int):Bool:=decide (48<=c/\c<=57)
def il (c:Int):Int:=if(65<=c/\c<=90)\/(192<=c/\c<=222/\c≠215)then c+32 else c
theorem Gm (c:Int) (w0:World):
  Spec Tryz.prog 225 #[.int .i64 c] w0 (λv w=>v= .bool (ij c)/\w=w0):=by
 refine bF (args:=[_]) (fn:=Tryz.f225) Tryz.func225 G (n:=33) Tryz.ntmps225 (T.aQ (Rg.bA G G (T.aQ (ab G G (eP G G G (ab G G ?_))))));refine aW (g:=5) G (λjM=>?_) (λjM=>?_)
 ·refine ak G G (ab G G (ak G G (iG G G G (bm G G G (ab G G ?_)))));refine aW (g:=9) G (λEx=>?_) (λEx=>?_)
  ·refine ao G G G G (ao G G G G (ao G G G G (cj G G G (cj G G G (ao G G G G (bm G G G (ab G G (ao G G G G (ao G G G G (ao G G G G (cj G G G ?_)))))))))));refine cj G G G (ao G G G G (ao G G G G (cj G G G (cj G G G (ao G G G G (ao G G G G (cj G G G (cj G G G (ao G G G G (bm G G G (aB G G ?_)))))))))));refine ad (aT ?_);exact aX rfl rfl ⟨by simp only[ij];first|rfl|(congr 1;first|(exact(decide_eq_true k3).symm)|(exact(decide_eq_false k3).symm)|(exact decide_eq_decide.2 k3)),rfl⟩
  ·refine ak G G (ab G G (ak G G (eP G G G (ak G G (ab G G ?_)))));refine aW (g:=12) G (λwu=>?_) (λwu=>?_)
   ·refine ak G G (ab G G (ak G G (iG G G G (ak G G (bm G G G (aM G G G (ab G G ?_)))))));refine aW (g:=17) G (λA4=>?_) (λA4=>?_)
    ·refine ao G G G G (ao G G G G (ao G G G G (cj G G G (cj G G G (ao G G G G (ao G G G G (cj G G G (cj G G G (ao G G G G (ao G G G G (cj G G G ?_)))))))))));refine cj G G G (ao G G G G (bm G G G (Rg.bA G G (aT ?_))));exact aX rfl rfl ⟨by simp only[ij];first|rfl|(congr 1;first|(exact(decide_eq_true k3).symm)|(exact(decide_eq_false k3).symm)|(exact decide_eq_decide.2 k3)),rfl⟩
    ·refine ak G G (ab G G (ak G G (eP G G G (ak G G (ab G G ?_)))));refine aW (g:=20) G (λoF=>?_) (λoF=>?_)
     ·refine ak G G (ab G G (ak G G (iG G G G (ak G G (bm G G G (ak G G (ab G G ?_)))))));refine aW (g:=24) G (λA5=>?_) (λA5=>?_)
      ·refine ak G G (ab G G (ak G G (fH G G G (ak G G (bm G G G (ak G G (ab G G ?_)))))));refine aW (g:=28) G (λA6=>?_) (λA6=>?_)
       ·refine ak G G (ab G G (ak G G (fH G G G (ak G G (bm G G G (aM G G G (Rg.bA G G (aT ?_))))))));exact aX rfl rfl ⟨by simp only[ij];first|rfl|(congr 1;first|(exact(decide_eq_true k3).symm)|(exact(decide_eq_false k3).symm)|(exact decide_eq_decide.2 k3)),rfl⟩
       ·refine ao G G G G (ao G G G G (ak G G (aM G G G (aM G G G (Rg.bA G G (aT ?_))))));exact aX rfl rfl ⟨by simp only[ij];first|rfl|(congr 1;first|(exact(decide_eq_true k3).symm)|(exact(decide_eq_false k3).symm)|(exact decide_eq_decide.2 k3)),rfl⟩
      ·refine ao G G G G (ao G G G G (ak G G (aM G G G (ak G G (ab G G (ao G G G G (ao G G G G (ak G G (aM G G G (aM G G G (aB G G ?_)))))))))));refine ad (aT ?_);exact aX rfl rfl ⟨by simp only[ij];first|rfl|(congr 1;first|(exact(decide_eq_true k3).symm)|(exact(decide_eq_false k3).symm)|(exact decide_eq_decide.2 k3)),rfl⟩
     ·refine ao G G G G (ao G G G G (ak G G (aM G G G (ak G G (ab G G (ao G G G G (ao G G G G (ak G G (aM G G G (ak G G (ab G G ?_)))))))))));refine ao G G G G (ao G G G G (ak G G (aM G G G (aM G G G (Rg.bA G G (aT ?_))))));exact aX rfl rfl ⟨by simp only[ij];first|rfl|(congr 1;first|(exact(decide_eq_true k3).symm)|(exact(decide_eq_false k3).symm)|(exact decide_eq_decide.2 k3)),rfl⟩
   ·refine ao G G G G (ao G G G G (ak G G (aM G G G (aM G G G (ab G G (ak G G (ab G G (ak G G (eP G G G (ak G G (ab G G ?_)))))))))));refine aW (g:=20) G (λoF=>?_) (λoF=>?_)
    ·refine ak G G (ab G G (ak G G (iG G G G (ak G G (bm G G G (ak G G (ab G G ?_)))))));refine aW (g:=24) G (λA5=>?_) (λA5=>?_)
     ·refine ak G G (ab G G (ak G G (fH G G G (ak G G (bm G G G (ak G G (ab G G ?_)))))));refine aW (g:=28) G (λA6=>?_) (λA6=>?_)
      ·refine ak G G (ab G G (ak G G (fH G G G (ak G G (bm G G G (aM G G G (Rg.bA G G (aT ?_))))))));exact aX rfl rfl ⟨by simp only[ij];first|rfl|(congr 1;first|(exact(decide_eq_true k3).symm)|(exact(decide_eq_false k3).symm)|(exact decide_eq_decide.2 k3)),rfl⟩
      ·refine ao G G G G (ao G G G G (ak G G (aM G G G (aM G G G (Rg.bA G G (aT ?_))))));exact aX rfl rfl ⟨by simp only[ij];first|rfl|(congr 1;first|(exact(decide_eq_true k3).symm)|(exact(decide_eq_false k3).symm)|(exact decide_eq_decide.2 k3)),rfl⟩
     ·refine ao G G G G (ao G G G G (ak G G (aM G G G (ak G G (ab G G (ao G G G G (ao G G G G (ak G G (aM G G G (aM G G G (aB G G ?_)))))))))));refine ad (aT ?_);exact aX rfl rfl ⟨by simp only[ij];first|rfl|(congr 1;first|(exact(decide_eq_true k3).symm)|(exact(decide_eq_false k3).symm)|(exact decide_eq_decide.2 k3)),rfl⟩
    ·refine ao G G G G (ao G G G G (ak G G (aM G G G (ak G G (ab G G (ao G G G G (ao G G G G (ak G G (aM G G G (ak G G (ab G G ?_)))))))))));refine ao G G G G (ao G G G G (ak G G (aM G G G (aM G G G (Rg.bA G G (aT ?_))))));exact aX rfl rfl ⟨by simp only[ij];first|rfl|(congr 1;first|(exact(decide_eq_true k3).symm)|(exact(decide_eq_false k3).symm)|(exact decide_eq_decide.2 k3)),rfl⟩
 ·refine ao G G G G (ao G G G G (aM G G G (ab G G (ak G G (ab G G (ak G G (eP G G G (ak G G (ab G G ?_)))))))));refine aW (g:=12) G (λwu=>?_) (λwu=>?_)
  ·refine ak G G (ab G G (ak G G (iG G G G (ak G G (bm G G G (aM G G G (ab G G ?_)))))));refine aW (g:=17) G (λA4=>?_) (λA4=>?_)
   ·refine ao G G G G (ao G G G G (ao G G G G (cj G G G (cj G G G (ao G G G G (ao G G G G (cj G G G (cj G G G (ao G G G G (ao G G G G (cj G G G ?_)))))))))));refine cj G G G (ao G G G G (bm G G G (Rg.bA G G (aT ?_))));exact aX rfl rfl ⟨by simp only[ij];first|rfl|(congr 1;first|(exact(decide_eq_true k3).symm)|(exact(decide_eq_false k3).symm)|(exact decide_eq_decide.2 k3)),rfl⟩
   ·refine ak G G (ab G G (ak G G (eP G G G (ak G G (ab G G ?_)))));refine aW (g:=20) G (λoF=>?_) (λoF=>?_)
    ·refine ak G G (ab G G (ak G G (iG G G G (ak G G (bm G G G (ak G G (ab G G ?_)))))));refine aW (g:=24) G (λA5=>?_) (λA5=>?_)
     ·refine ak G G (ab G G (ak G G (fH G G G (ak G G (bm G G G (ak G G (ab G G ?_)))))));refine aW (g:=28) G (λA6=>?_) (λA6=>?_)
      ·refine ak G G (ab G G (ak G G (fH G G G (ak G G (bm G G G (aM G G G (Rg.bA G G (aT ?_))))))));exact aX rfl rfl ⟨by simp only[ij];first|rfl|(congr 1;first|(exact(decide_eq_true k3).symm)|(exact(decide_eq_false k3).symm)|(exact decide_eq_decide.2 k3)),rfl⟩
      ·refine ao G G G G (ao G G G G (ak G G (aM G G G (aM G G G (Rg.bA G G (aT ?_))))));exact aX rfl rfl ⟨by simp only[ij];first|rfl|(congr 1;first|(exact(decide_eq_true k3).symm)|(exact(decide_eq_false k3).symm)|(exact decide_eq_decide.2 k3)),rfl⟩
     ·refine ao G G G G (ao G G G G (ak G G (aM G G G (ak G G (ab G G (ao G G G G (ao G G G G (ak G G (aM G G G (aM G G G (aB G G ?_)))))))))));refine ad (aT ?_);exact aX rfl rfl ⟨by simp only[ij];first|rfl|(congr 1;first|(exact(decide_eq_true k3).symm)|(exact(decide_eq_false k3).symm)|(exact decide_eq_decide.2 k3)),rfl⟩
    ·refine ao G G G G (ao G G G G (ak G G (aM G G G (ak G G (ab G G (ao G G G G (ao G G G G (ak G G (aM G G G (ak G G (ab G G ?_)))))))))));refine ao G G G G (ao G G G G (ak G G (aM G G G (aM G G G (Rg.bA G G (aT ?_))))));exact aX rfl rfl ⟨by simp only[ij];first|rfl|(congr 1;first|(exact(decide_eq_true k3).symm)|(exact(decide_eq_false k3).symm)|(exact decide_eq_decide.2 k3)),rfl⟩
  ·refine ao G G G G (ao G G G G (ak G G (aM G G G (aM G G G (ab G G (ak G G (ab G G (ak G G (eP G G G (ak G G (ab G G ?_)))))))))));refine aW (g:=20) G (λoF=>?_) (λoF=>?_)
   ·refine ak G G (ab G G (ak G G (iG G G G (ak G G (bm G G G (ak G G (ab G G ?_)))))));refine aW (g:=24) G (λA5=>?_) (λA5=>?_)
    ·refine ak G G (ab G G (ak G G (fH G G G (ak G G (bm G G G (ak G G (ab G G ?_)))))));refine aW (g:=28) G (λA6=>?_) (λA6=>?_)
     ·refine ak G G (ab G G (ak G G (fH G G G (ak G G (bm G G G (aM G G G (Rg.bA G G (aT ?_))))))));exact aX rfl rfl ⟨by simp only[ij];first|rfl|(congr 1;first|(exact(decide_eq_true k3).symm)|(exact(decide_eq_false k3).symm)|(exact decide_eq_decide.2 k3)),rfl⟩
     ·refine ao G G G G (ao G G G G (ak G G (aM G G G (aM G G G (Rg.bA G G (aT ?_))))));exact aX rfl rfl ⟨by simp only[ij];first|rfl|(congr 1;first|(exact(decide_eq_true k3).symm)|(exact(decide_eq_false k3).symm)|(exact decide_eq_decide.2 k3)),rfl⟩
    ·refine ao G G G G (ao G G G G (ak G G (aM G G G (ak G G (ab G G (ao G G G G (ao G G G G (ak G G (aM G G G (aM G G G (aB G G ?_)))))))))));refine ad (aT ?_);exact aX rfl rfl ⟨by simp only[ij];first|rfl|(congr 1;first|(exact(decide_eq_true k3).symm)|(exact(decide_eq_false k3).symm)|(exact decide_eq_decide.2 k3)),rfl⟩
   ·refine ao G G G G (ao G G G G (ak G G (aM G G G (ak G G (ab G G (ao G G G G (ao G G G G (ak G G (aM G G G (ak G G (ab G G ?_)))))))))));refine ao G G G G (ao G G G G (ak G G (aM G G G (aM G G G (Rg.bA G G (aT ?_))))));exact aX rfl rfl ⟨by simp only[ij];first|rfl|(congr 1;first|(exact(decide_eq_true k3).symm)|(exact(decide_eq_false k3).symm)|(exact decide_eq_decide.2 k3)),rfl⟩
theorem Jj (c:Int) (w0:World):
  Spec Tryz.prog 226 #[.int .i64 c] w0 (λv w=>v= .bool (ru c)/\w=w0):=by
 refine bF (args:=[_]) (fn:=Tryz.f226) Tryz.func226 G (n:=9) Tryz.ntmps226 (T.aQ (Rg.bA G G (T.aQ (ab G G (eP G G G (ab G G ?_))))));refine aW (g:=5) G (λjM=>?_) (λjM=>?_)
 ·refine ak G G (ab G G (ak G G (iG G G G (bm G G G (Rg.bA G G (aT ?_))))));exact aX rfl rfl ⟨by simp only[ru];first|rfl|(congr 1;first|(exact(decide_eq_true k3).symm)|(exact(decide_eq_false k3).symm)|(exact decide_eq_decide.2 k3)),rfl⟩
 ·refine ao G G G G (ao G G G G (aM G G G (Rg.bA G G (aT ?_))));exact aX rfl rfl ⟨by simp only[ru];first|rfl|(congr 1;first|(exact(decide_eq_true k3).symm)|(exact(decide_eq_false k3).symm)|(exact decide_eq_decide.2 k3)),rfl⟩
theorem Dz (c:Int) (w0:World) (hc:0<=c/\c<=1114111):
  Spec Tryz.prog 227 #[.int .i64 c] w0 (λv w=>v= .int .i64 (il c)/\w=w0):=by
 refine bF (args:=[_]) (fn:=Tryz.f227) Tryz.func227 G (n:=24) Tryz.ntmps227 (T.aQ (Rg.bA G G (aI (T.aQ (ab G G (eP G G G (ab G G ?_)))))));refine aW (g:=5) G (λjM=>?_) (λjM=>?_)
 ·refine ak G G (ab G G (ak G G (iG G G G (bm G G G (ab G G ?_)))));refine aW (g:=9) G (λEx=>?_) (λEx=>?_)
  ·refine ao G G G G (ao G G G G (ao G G G G (cj G G G (cj G G G (ao G G G G (ao G G G G (cj G G G (cj G G G (ao G G G G (bm G G G (ad ?_)))))))))));refine kT G (T.aQ (ab G G (bG G G G k3 (Rg.bA G G (aT ?_)))));exact a62
  ·refine ak G G (ab G G (ak G G (eP G G G (ak G G (ab G G ?_)))));refine aW (g:=12) G (λwu=>?_) (λwu=>?_)
   ·refine ak G G (ab G G (ak G G (iG G G G (ak G G (bm G G G (ak G G (ab G G ?_)))))));refine aW (g:=16) G (λPT=>?_) (λPT=>?_)
    ·refine ak G G (ab G G (ak G G (fH G G G (ak G G (bm G G G (aM G G G (ad ?_)))))));refine bM G (λc1=>?_) (λc1=>?_)
     ·refine T.aQ (ab G G (bG G G G k3 (Rg.bA G G (aT ?_))));exact a62
     ·refine aR (T.aQ (ab G G (Rg.bA G G (aT ?_))));exact a15
    ·refine ao G G G G (ao G G G G (ak G G (aM G G G (aM G G G (ad (jD G (aR (T.aQ (ab G G (aB G G ?_))))))))));refine ad (aT ?_);exact a15
   ·refine ao G G G G (ao G G G G (ak G G (aM G G G (ak G G (ab G G (ao G G G G (ao G G G G (ak G G (aM G G G (aM G G G (ad ?_)))))))))));refine jD G (aR (T.aQ (ab G G (Rg.bA G G (aT ?_)))));exact a15
 ·refine ao G G G G (ao G G G G (aM G G G (ab G G (ak G G (ab G G (ak G G (eP G G G (ak G G (ab G G ?_)))))))));refine aW (g:=12) G (λwu=>?_) (λwu=>?_)
  ·refine ak G G (ab G G (ak G G (iG G G G (ak G G (bm G G G (ak G G (ab G G ?_)))))));refine aW (g:=16) G (λPT=>?_) (λPT=>?_)
   ·refine ak G G (ab G G (ak G G (fH G G G (ak G G (bm G G G (aM G G G (ad ?_)))))));refine bM G (λc1=>?_) (λc1=>?_)
    ·refine T.aQ (ab G G (bG G G G k3 (Rg.bA G G (aT ?_))));exact a62
    ·refine aR (T.aQ (ab G G (Rg.bA G G (aT ?_))));exact a15
   ·refine ao G G G G (ao G G G G (ak G G (aM G G G (aM G G G (ad (jD G (aR (T.aQ (ab G G (aB G G ?_))))))))));refine ad (aT ?_);exact a15
  ·refine ao G G G G (ao G G G G (ak G G (aM G G G (ak G G (ab G G (ao G G G G (ao G G G G (ak G G (aM G G G (aM G G G (ad ?_)))))))))));refine jD G (aR (T.aQ (ab G G (Rg.bA G G (aT ?_)))));exact a15
end Go.K
namespace Go.Proofs
open Go.Shelf
def Tryz.zr:Go.Shelf.Ren:=⟨fun|169=>267|n=>n,fun|70=>334|9=>9|0=>0|72=>336|37=>204|127=>358|3=>3|5=>5|n=>n,fun|n=>n⟩
theorem Tryz.U1:Go.Proofs.Lays.n169 Tryz.prog Tryz.zr:={
 mixed:=by kernel_rfl
 f169:=Tryz.func267.trans a02
 t0:=ic
 a0:=nB
 z0:=lW
 v0:=iT
 t3:=aq
 a3:=nC
 z3:=lX
 v3:=iU
 t9:=aG
 a9:=nD
 z9:=lY
 v9:=iV
 t37:=cf
 a37:=Tryz.isAgg204
 z37:=Tryz.sizeOf204
 v37:=Tryz.zeroValue204
 t70:=Tryz.underlying334
 a70:=Tryz.isAgg334
 z70:=Tryz.sizeOf334
 v70:=Tryz.zeroValue334
 t72:=Tryz.underlying336
 a72:=Tryz.isAgg336
 z72:=Tryz.sizeOf336
 v72:=Tryz.zeroValue336
 t127:=Tryz.underlying358
 a127:=Tryz.isAgg358
 z127:=Tryz.sizeOf358
 v127:=Tryz.zeroValue358}
def Tryz.Gn:Go.Shelf.Ren:=⟨fun|119=>290|n=>n,fun|21=>21|4=>4|n=>n,fun|n=>n⟩
theorem Tryz.U2:Go.Proofs.Lays.n119 Tryz.prog Tryz.Gn:={
 mixed:=by kernel_rfl
 f119:=Tryz.func290.trans a02
 t4:=fm
 a4:=vg
 z4:=p8
 v4:=kZ
 t21:=Tryz.underlying21
 a21:=Tryz.isAgg21
 z21:=Tryz.sizeOf21
 v21:=Tryz.zeroValue21}
def Tryz.Gp:Go.Shelf.Ren:=⟨fun|106=>137|213=>189|265=>239|n=>n,fun|9=>9|3=>3|n=>n,fun|n=>n⟩
theorem Tryz.U3:Go.Proofs.Lays.n106 Tryz.prog Tryz.Gp:={
 mixed:=by kernel_rfl
 f106:=Tryz.func137.trans a02
 f213:=Tryz.func189.trans a02
 f265:=Tryz.func239.trans a02
 t3:=aq
 a3:=nC
 z3:=lX
 v3:=iU
 t9:=aG
 a9:=nD
 z9:=lY
 v9:=iV}
theorem Tryz.xn:Builder.Extra Tryz.prog Tryz.zr:={
 sizeBuilder:=by kernel_rfl
 liesBuilder:=by kernel_rfl
 t5:=dq
 a5:=Tryz.isAgg5
 z5:=Tryz.sizeOf5
 v5:=wY
 infoByte:=by kernel_rfl
 cellsByte:=by kernel_rfl
 sizeByte:=by kernel_rfl
 neB5:=by decide}
def Tryz.zt:Go.Shelf.Ren:=⟨fun|168=>265|240=>288|242=>289|276=>298|278=>299|n=>n,fun|0=>0|3=>3|4=>4|5=>5|9=>9|20=>20|21=>21|37=>204|46=>189|51=>257|70=>334|72=>336|75=>338|80=>342|164=>363|n=>n,fun|n=>n⟩
theorem Tryz.U4:Go.Proofs.Lays.n168 Tryz.prog Tryz.zt:={
 mixed:=by kernel_rfl
 f168:=Tryz.func265.trans a02
 f240:=Tryz.func288.trans a02
 f242:=Tryz.func289.trans a02
 f276:=Tryz.func298.trans a02
 f278:=Tryz.func299.trans a02
 t0:=ic
 a0:=nB
 z0:=lW
 v0:=iT
 t3:=aq
 a3:=nC
 z3:=lX
 v3:=iU
 t4:=fm
 a4:=vg
 z4:=p8
 v4:=kZ
 t5:=dq
 a5:=Tryz.isAgg5
 z5:=Tryz.sizeOf5
 v5:=wY
 t9:=aG
 a9:=nD
 z9:=lY
 v9:=iV
 t20:=Tryz.underlying20
 a20:=Tryz.isAgg20
 z20:=Tryz.sizeOf20
 v20:=Tryz.zeroValue20
 t21:=Tryz.underlying21
 a21:=Tryz.isAgg21
 z21:=Tryz.sizeOf21
 v21:=Tryz.zeroValue21
 t37:=cf
 a37:=Tryz.isAgg204
 z37:=Tryz.sizeOf204
 v37:=Tryz.zeroValue204
 t46:=lF
 a46:=Tryz.isAgg189
 z46:=Tryz.sizeOf189
 v46:=Tryz.zeroValue189
 t51:=Tryz.underlying257
 a51:=Tryz.isAgg257
 z51:=Tryz.sizeOf257
 v51:=Tryz.zeroValue257
 t70:=Tryz.underlying334
 a70:=Tryz.isAgg334
 z70:=Tryz.sizeOf334
 v70:=Tryz.zeroValue334
 t72:=Tryz.underlying336
 a72:=Tryz.isAgg336
 z72:=Tryz.sizeOf336
 v72:=Tryz.zeroValue336
 t75:=Tryz.underlying338
 a75:=Tryz.isAgg338
 z75:=Tryz.sizeOf338
 v75:=Tryz.zeroValue338
 t164:=Tryz.underlying363
 a164:=Tryz.isAgg363
 z164:=Tryz.sizeOf363
 v164:=Tryz.zeroValue363}
theorem Tryz.xo:Builder.Extra Tryz.prog Tryz.zt where
 sizeBuilder:=by kernel_rfl
 liesBuilder:=by kernel_rfl
 t5:=dq
 a5:=Tryz.isAgg5
 z5:=Tryz.sizeOf5
 v5:=wY
 infoByte:=by kernel_rfl
 cellsByte:=by kernel_rfl
 sizeByte:=by kernel_rfl
 neB5:=by decide
end Go.Proofs
namespace Go.K
open Go.Proofs
set_option maxRecDepth 10000
open Go.RowKit Go.Shelf
theorem Jk (r:Int) (w:World):Spec Tryz.prog 290 #[.int .i32 r] w (λv w'=>v= .bool (Lib.validRune r)/\w'=w):=(Any.utf8_ValidRune Tryz.U2 r w).mono λe w' ⟨h1,h2⟩=>⟨_,h1,rfl,h2⟩
theorem NC {B b:Nat} {bs:List Value} {r:Int} (w:World) (hr: -2147483648<=r/\r<=2147483647) (h:Lib.IsBuilderF 336 5 B b bs w) (hl:bs.length+4<=140737488355328) (hB:B<=w.heap.size):
  Spec Tryz.prog 265 #[.pointer (some ⟨b,0,none⟩),.int .i32 r] w (λv w'=>Lib.IsBuilderF 336 5 B b (bs++Lib.runeCells r) w'∧Below B w w'):=
 (Any.Builder_WriteRune_k Tryz.U4 Tryz.xo B b bs r hr.1 hr.2 w h hl hB).mono λe w' ⟨h1,h2,h3,_⟩=>⟨_,h1,.inr h2,h3⟩
theorem PU {B b:Nat} {l:List UInt8} (w:World) (h:Lib.IsBuilderF 336 5 B b (Lib.byteCells l) w) (hB:B<=w.heap.size):
  Spec Tryz.prog 267 #[.pointer (some ⟨b,0,none⟩)] w (λv w'=>v= .string ⟨l.toArray⟩/\Below B w w'):=
 (Any.Builder_String_any_k Tryz.U1 Tryz.xn B b l w h hB).mono λe w' ⟨h1,_,h3,_⟩=>⟨_,h1,rfl,h3⟩
theorem wrap32 {c:Int} (h:0<=c/\c<=1114111):IntKind.i32.wrap c=c:=by
 show(if(true&&decide (c%4294967296>=2147483648))=true then c%4294967296-4294967296 else c%4294967296)=c;rw[if_neg (by simp only[fK,decide_eq_true_eq];omega)];omega
def xp (c:Int):Int:=if c<0\/c>1114111\/Lib.validRune c=false then 65533 else c
theorem LH (c:Int):0<=xp c/\xp c<=1114111:=by unfold xp;split<;>omega
def my (l:List Int):List UInt8:=l.flatMap λc=>Lib.encodeRune (xp c)
theorem oG (l:List Int) (c:Int):my (l++[c])=my l++Lib.encodeRune (xp c):=by simp[my]
theorem U5 (r:Int):(Lib.encodeRune r).length<=4:=by have:=(Lib.encodeRuneZ_length r).2;simpa[Lib.encodeRune]using this
theorem iK (l:List Int):(my l).length<=4*l.length:=by
 induction l with
 |nil=>simp[my]
 |cons c l ih=>
  have:=U5 (xp c);simp only[my,oZ,aY,dG]at ih ⊢;omega
theorem A7 (l:List Int) (c:Int):Lib.byteCells (my l)++Lib.runeCells (xp c)=Lib.byteCells (my (l++[c])):=by
 rw[oG,<-Lib.byteCells_encodeRune];simp[Lib.byteCells]
theorem PV (c:Int) (w0:World):
  Spec Tryz.prog 266 #[.int .i64 c] w0 (λv w=>v= .int .i32 (xp c)/\w=w0):=by
 refine bF (args:=[_]) (fn:=Tryz.f266) Tryz.func266 G (n:=17) Tryz.ntmps266 (T.aQ (Rg.bA G G (aI (T.aQ (ab G G (ch G G G (ab G G ?_)))))));refine aW (g:=5) G (λjM=>?_) (λjM=>?_)
 ·refine ao G G G G (ao G G G G (bm G G G (ab G G (ao G G G G (ao G G G G (ao G G G G (ao G G G G (bm G G G (ad (kT G (aI ?_)))))))))));refine aH (Rg.bA G G (aT ?_));exact aX rfl rfl ⟨by rw[xp,if_pos af5],G⟩
 ·refine ak G G (ab G G (ak G G (iX G G G (aM G G G (ab G G ?_)))));refine aW (g:=9) G (λEx=>?_) (λEx=>?_)
  ·refine ao G G G G (ao G G G G (ao G G G G (ao G G G G (bm G G G (ad (kT G (T.aQ (Rg.bA G G (aT ?_)))))))));exact aX rfl rfl ⟨by rw[xp,if_pos af5],G⟩
  ·refine ak G G (ab G G (ak G G (vR aq Tryz.underlying21 G G (bc (v':= .int .i32 c) (congrArg (Value.int .i32) (wrap32 k3)) (ak G G ?_)))));refine a8 G G amf (Jk _ _) (λr wc hc=>?_);obtain⟨rfl,rfl⟩:=hc;refine ak rfl rfl (kU rfl rfl (bc (v':= .bool (decide (Lib.validRune c=false))) (by cases Lib.validRune c<;>rfl) (aM rfl rfl rfl (ad ?_))));refine bM G (λc1=>?_) (λc1=>?_)
   ·refine T.aQ (Rg.bA G G (aT ?_));exact aX rfl rfl ⟨by rw[xp,if_pos af5],G⟩
   ·refine aR (T.aQ (ab G G (vR aq Tryz.underlying21 G G (bc (v':= .int .i32 c) (congrArg (Value.int .i32) (wrap32 k3)) (Rg.bA G G (aT ?_))))));exact aX rfl rfl ⟨by rw[xp,if_neg (by rintro(h|h|h)<;>first|omega|exact absurd h W4)],rfl⟩
theorem ND {M:aJ} {xs:List Int} {v0:Value} (w0:World) (hM:Lt M w0) (hv:((RT.int .i64).sl).V M w0 xs v0) (hl:xs.length<=1000000):
  Spec Tryz.prog 228 #[v0] w0 (λv w=>v= .string ⟨(my xs).toArray⟩/\Step M w0 M w aA):=by
 refine bF (args:=[_]) (fn:=Tryz.f228) Tryz.func228 G (n:=17) Tryz.ntmps228 (T.aQ (Rg.bA G G (T.aQ ?_)));refine eA M alC G (λb w1 p1 q1 g1 s1=>?_);have Ey:Lib.IsBuilderF 336 5 w0.heap.size b (Lib.byteCells (my (xs.take 0))) w1:= .of (.inl ⟨p1,.slice none 0 0,g1,World.ownsRow_nil _ _ _ _,by simp[Value.ownBlock]⟩);have S1:Below w0.heap.size w0 w1:=s1.below;refine ad (aI (T.aQ (ab G G (bK ah G hv G (ab G G (ad (aS ?_)))))));refine dg (σ:=Nat) (λk=>[(3,.pointer (some ⟨b,0,none⟩)),(6,v0),(7,.int .i64 (xs.length:Int)),(8,.int .i64 (k:Int))]) (λk w=>Lib.IsBuilderF 336 5 w0.heap.size b (Lib.byteCells (my (xs.take k))) w/\Below w0.heap.size w0 w/\k<=xs.length) (λk=>xs.length-k) 0 Y7 ?_ ?_
 ·exact⟨Ey,S1,bC _⟩
 ·rintro k w ⟨hb,S,hk⟩;refine T.aQ (ch G G G (ad (aI ?_)));refine bM G (λc3=>?_) (λc3=>?_)
  ·refine aR (aI (aS (T.aQ ?_)));refine bX (M:=M) ah I3 G G G hv (Step.A1 S M).le k3 (λu4 c zu IH=>?_);refine bV aq G G IH bY (λin4=>?_);refine Rg.bA G G (aH (ab G G ?_));refine a8 G G amb (PV c _) (λr wc hc=>?_);obtain⟨rfl,rfl⟩:=hc;refine a8 G G ama (NC _ (by have:=LH c;omega) hb (by rw[Lib.byteCells_length];have:=iK (xs.take k);rw[aU]at this;omega) S.size) (λr5 w5 hc=>?_);obtain⟨Xr,S5⟩:=hc;have tk:xs.take (k+1)=xs.take k++[c]:=by rw[bB];simp only[an]at zu;rw[zu];rfl
   rw[A7,<-tk]at Xr;have S6:=S.trans S5;refine ad (aH (bG G G G k3 (ab G G (ad ?_))));refine⟨G,k+1,Y7,?_,?_⟩
   ·exact⟨Xr,S6,by omega⟩
   ·omega
  ·refine cO (T.aQ ?_);refine a8 G G amc (PU _ hb S.size) (λr7 w7 hc=>?_);obtain⟨rfl,S7⟩:=hc;refine Rg.bA G G (aT ?_);have e:xs.take k=xs:=aL k3;rw[e];exact aX G G ⟨G,Step.A1 (S.trans S7) M⟩
end Go.K
namespace Go.K
def nO (c:Int):Int:=if 194<=c/\c<224 then 2 else if 224<=c/\c<240 then 3 else if 240<=c/\c<245 then 4 else 0
def jE (c:Int):Int:=if 194<=c/\c<224 then 128 else if 224<=c/\c<240 then 2048 else if 240<=c/\c<245 then 65536 else 0
def yy (c:Int):Int:=if 194<=c/\c<224 then c-192 else if 224<=c/\c<240 then c-224 else if 240<=c/\c<245 then c-240 else 0
def vO (l:List UInt8):Nat->Int
 |0=>yy (l3 l 0)
 |k+1=>64*vO l k+l3 l (k+1)-128
theorem jl {l:List UInt8} {k:Nat}:l9 l k=true↔k<l.length/\128<=l3 l k/\l3 l k<192:=by
 unfold l9;simp only[cv,decide_eq_true_eq,beq_iff_eq];omega
theorem DA {n:Nat}:Utf8.valid (n:Int)=true↔(n<55296\/(57344<=n/\n<=1114111)):=by
 simp only[Utf8.valid,lL,cv,decide_eq_true_eq];omega
theorem aeJ {l:List UInt8} (h:(l3 l 0:Int)<128):dec l=(l3 l 0,1):=by
 unfold dec Jh;rw[if_pos k3]
theorem LI {l:List UInt8} (h0:128<=(l3 l 0:Int)) (h:nO (l3 l 0)=0\/∃k:Nat,1<=k/\(k:Int)<nO (l3 l 0)/\l9 l k=false):dec l=(65533,1):=by
 have hb:=rr l 0;unfold dec Jh;rw[if_neg k3]
 have hk:nO (l3 l 0)=0\/(2<=nO (l3 l 0)/\l9 l 1=false)\/(3<=nO (l3 l 0)/\l9 l 2=false)\/(4<=nO (l3 l 0)/\l9 l 3=false):=by
  rcases h with h|⟨k,h1,h2,h3⟩
  ·exact .inl h
  ·have:nO (l3 l 0)<=4:=by
    unfold nO
    split
    ·omega
    ·split
     ·omega
     ·split<;>omega
   have hk:k=1\/k=2\/k=3:=by omega
   rcases hk with rfl|rfl|rfl
   ·exact .inr (.inl ⟨by omega,h3⟩)
   ·exact .inr (.inr (.inl ⟨by omega,h3⟩))
   ·exact .inr (.inr (.inr ⟨by omega,h3⟩))
 simp only[beq_iff_eq,cv,decide_eq_true_eq,ge_iff_le,DA];have hn:nO (l3 l 0)=if 194<=(l3 l 0:Int)/\(l3 l 0:Int)<224 then 2 else if 224<=(l3 l 0:Int)/\(l3 l 0:Int)<240 then 3 else if 240<=(l3 l 0:Int)/\(l3 l 0:Int)<245 then 4 else 0:=rfl
 rw[hn]at hk
 split
 ·rename_i hc
  obtain⟨PW,PX⟩:=hc
  split
  ·rename_i hv
   exfalso;by_cases ayS:194<=(l3 l 0:Int)
   ·rw[if_pos k3]at hk;rcases hk with hk|⟨_,hk⟩|⟨hk,_⟩|⟨hk,_⟩
    ·omega
    ·rw[hk]at PX;cases PX
    ·omega
    ·omega
   ·omega
  ·rfl
 ·split
  ·rename_i hc
   obtain⟨⟨PW,PX⟩,hc3⟩:=hc
   split
   ·exfalso;rw[if_neg k3,if_pos k3]at hk;rcases hk with hk|⟨_,hk⟩|⟨_,hk⟩|⟨hk,_⟩
    ·omega
    ·rw[hk]at PX;cases PX
    ·rw[hk]at hc3;cases hc3
    ·omega
   ·rfl
  ·split
   ·rename_i hc
    obtain⟨⟨⟨PW,PX⟩,hc3⟩,hc4⟩:=hc
    split
    ·rename_i hv
     exfalso;by_cases ayT:(l3 l 0:Int)<245
     ·rw[if_neg k3,if_neg k3,if_pos k3]at hk;rcases hk with hk|⟨_,hk⟩|⟨_,hk⟩|⟨_,hk⟩
      ·omega
      ·rw[hk]at PX;cases PX
      ·rw[hk]at hc3;cases hc3
      ·rw[hk]at hc4;cases hc4
     ·omega
    ·rfl
   ·rfl
theorem qi {c:Int} (h:nO c≠0):(nO c=2/\jE c=128/\yy c=c-192/\194<=c/\c<224)\/(nO c=3/\jE c=2048/\yy c=c-224/\224<=c/\c<240)\/(nO c=4/\jE c=65536/\yy c=c-240/\240<=c/\c<245):=by
 by_cases h1:194<=c/\c<224
 ·exact .inl ⟨if_pos h1,if_pos h1,if_pos h1,h1.1,h1.2⟩
 ·by_cases h2:224<=c/\c<240
  ·exact .inr (.inl ⟨(if_neg h1).trans (if_pos h2),(if_neg h1).trans (if_pos h2),(if_neg h1).trans (if_pos h2),h2.1,h2.2⟩)
  ·by_cases h3:240<=c/\c<245
   ·exact .inr (.inr ⟨(if_neg h1).trans ((if_neg h2).trans (if_pos h3)),(if_neg h1).trans ((if_neg h2).trans (if_pos h3)),(if_neg h1).trans ((if_neg h2).trans (if_pos h3)),h3.1,h3.2⟩)
   ·exact absurd ((if_neg h1).trans ((if_neg h2).trans (if_neg h3))) h
theorem Gq {l:List UInt8} (hn:nO (l3 l 0)≠0) (hc:∀k:Nat,1<=k->(k:Int)<nO (l3 l 0)->l9 l k=true) (v:Int) (hv:v=vO l (nO (l3 l 0)-1).toNat):
  dec l=if v<jE (l3 l 0)\/v>1114111\/(55296<=v/\v<=57343)then(65533,1)else(v.toNat,(nO (l3 l 0)).toNat):=by
 have hb:=rr l 0;have b1:=rr l 1;have b2:=rr l 2;have b3:=rr l 3;unfold dec Jh;simp only[beq_iff_eq,cv,decide_eq_true_eq,ge_iff_le,DA];rcases qi hn with⟨e1,e2,e3,e4,e5⟩|⟨e1,e2,e3,e4,e5⟩|⟨e1,e2,e3,e4,e5⟩
 ·have c1:=hc 1 k3 k3;have d1:=jl.1 c1;rw[e1]at hv;have yz:v=64*((l3 l 0:Int)-192)+l3 l 1-128:=by rw[hv];show 64*yy (l3 l 0)+_-_=_;rw[e3]
  rw[if_neg k3,if_pos ⟨by omega,c1⟩,e2,e1];by_cases hx:v<128\/v>1114111\/(55296<=v/\v<=57343)
  ·rw[if_pos hx,if_neg k3]
  ·rw[if_neg hx,if_pos k3];simp only[fc];omega
 ·have c1:=hc 1 k3 k3;have c2:=hc 2 k3 k3;have d1:=jl.1 c1;have d2:=jl.1 c2;rw[e1]at hv;have yz:v=64*(64*((l3 l 0:Int)-224)+l3 l 1-128)+l3 l 2-128:=by rw[hv];show 64*(64*yy (l3 l 0)+_-_)+_-_=_;rw[e3]
  rw[if_neg k3,if_neg k3,if_pos ⟨⟨by omega,c1⟩,c2⟩,e2,e1];by_cases hx:v<2048\/v>1114111\/(55296<=v/\v<=57343)
  ·rw[if_pos hx,if_neg k3]
  ·rw[if_neg hx,if_pos k3];simp only[fc];omega
 ·have c1:=hc 1 k3 k3;have c2:=hc 2 k3 k3;have c3:=hc 3 k3 k3;have d1:=jl.1 c1;have d2:=jl.1 c2;have d3:=jl.1 c3;rw[e1]at hv;have yz:v=64*(64*(64*((l3 l 0:Int)-240)+l3 l 1-128)+l3 l 2-128)+l3 l 3-128:=by rw[hv];show 64*(64*(64*yy (l3 l 0)+_-_)+_-_)+_-_=_;rw[e3]
  rw[if_neg k3,if_neg k3,if_neg k3,if_pos ⟨⟨⟨by omega,c1⟩,c2⟩,c3⟩,e2,e1];by_cases hx:v<65536\/v>1114111\/(55296<=v/\v<=57343)
  ·rw[if_pos hx,if_neg k3]
  ·rw[if_neg hx,if_pos k3];simp only[fc];omega
open Go.Proofs
set_option maxRecDepth 10000
theorem Ez (c:Int) (w0:World):
  Spec Tryz.prog 285 #[.int .i64 c] w0 (λv w=>v= .bool (ij c)/\w=w0):=by
 refine bF (args:=[_]) (fn:=Tryz.f285) Tryz.func285 G (n:=31) Tryz.ntmps285 (T.aQ (Rg.bA G G (aI (T.aQ (ab G G (eP G G G (ab G G ?_)))))));refine aW (g:=5) G (λjM=>?_) (λjM=>?_)
 ·refine ak G G (ab G G (ak G G (iG G G G (bm G G G (ab G G ?_)))));refine aW (g:=9) G (λEx=>?_) (λEx=>?_)
  ·refine ao G G G G (ao G G G G (ao G G G G (cj G G G (cj G G G (ao G G G G (bm G G G (ad (kT G (T.aQ (aB G G ?_))))))))));refine ad (aT ?_);exact aX rfl rfl ⟨by simp only[ij];first|rfl|(congr 1;first|(exact(decide_eq_true k3).symm)|(exact(decide_eq_false k3).symm)|(exact decide_eq_decide.2 k3)),rfl⟩
  ·refine ak G G (ab G G (ak G G (eP G G G (ak G G (ab G G ?_)))));refine aW (g:=12) G (λwu=>?_) (λwu=>?_)
   ·refine ak G G (ab G G (ak G G (iG G G G (ak G G (bm G G G (aM G G G (ad ?_)))))));refine bM G (λc1=>?_) (λc1=>?_)
    ·refine T.aQ (Rg.bA G G (aT ?_));exact aX rfl rfl ⟨by simp only[ij];first|rfl|(congr 1;first|(exact(decide_eq_true k3).symm)|(exact(decide_eq_false k3).symm)|(exact decide_eq_decide.2 k3)),rfl⟩
    ·refine aR (T.aQ (ab G G (eP G G G (ab G G ?_))));refine aW (g:=19) G (λJl=>?_) (λJl=>?_)
     ·refine ak G G (ab G G (ak G G (iG G G G (bm G G G (ab G G ?_)))));refine aW (g:=23) G (λJm=>?_) (λJm=>?_)
      ·refine ak G G (ab G G (ak G G (fH G G G (bm G G G (ab G G ?_)))));refine aW (g:=27) G (λA8=>?_) (λA8=>?_)
       ·refine ak G G (ab G G (ak G G (fH G G G (bm G G G (Rg.bA G G (aT ?_))))));exact aX rfl rfl ⟨by simp only[ij];first|rfl|(congr 1;first|(exact(decide_eq_true k3).symm)|(exact(decide_eq_false k3).symm)|(exact decide_eq_decide.2 k3)),rfl⟩
       ·refine ao G G G G (ao G G G G (aM G G G (Rg.bA G G (aT ?_))));exact aX rfl rfl ⟨by simp only[ij];first|rfl|(congr 1;first|(exact(decide_eq_true k3).symm)|(exact(decide_eq_false k3).symm)|(exact decide_eq_decide.2 k3)),rfl⟩
      ·refine ao G G G G (ao G G G G (aM G G G (ab G G (ao G G G G (ao G G G G (aM G G G (Rg.bA G G (aT ?_))))))));exact aX rfl rfl ⟨by simp only[ij];first|rfl|(congr 1;first|(exact(decide_eq_true k3).symm)|(exact(decide_eq_false k3).symm)|(exact decide_eq_decide.2 k3)),rfl⟩
     ·refine ao G G G G (ao G G G G (aM G G G (ab G G (ao G G G G (ao G G G G (aM G G G (ab G G (ao G G G G (ao G G G G (aM G G G (aB G G ?_)))))))))));refine ad (aT ?_);exact aX rfl rfl ⟨by simp only[ij];first|rfl|(congr 1;first|(exact(decide_eq_true k3).symm)|(exact(decide_eq_false k3).symm)|(exact decide_eq_decide.2 k3)),rfl⟩
   ·refine ao G G G G (ao G G G G (ak G G (aM G G G (aM G G G (ad (jD G (aR (T.aQ (ab G G (eP G G G ?_))))))))));refine ab G G ?_;refine aW (g:=19) G (λJl=>?_) (λJl=>?_)
    ·refine ak G G (ab G G (ak G G (iG G G G (bm G G G (ab G G ?_)))));refine aW (g:=23) G (λJm=>?_) (λJm=>?_)
     ·refine ak G G (ab G G (ak G G (fH G G G (bm G G G (ab G G ?_)))));refine aW (g:=27) G (λA8=>?_) (λA8=>?_)
      ·refine ak G G (ab G G (ak G G (fH G G G (bm G G G (Rg.bA G G (aT ?_))))));exact aX rfl rfl ⟨by simp only[ij];first|rfl|(congr 1;first|(exact(decide_eq_true k3).symm)|(exact(decide_eq_false k3).symm)|(exact decide_eq_decide.2 k3)),rfl⟩
      ·refine ao G G G G (ao G G G G (aM G G G (Rg.bA G G (aT ?_))));exact aX rfl rfl ⟨by simp only[ij];first|rfl|(congr 1;first|(exact(decide_eq_true k3).symm)|(exact(decide_eq_false k3).symm)|(exact decide_eq_decide.2 k3)),rfl⟩
     ·refine ao G G G G (ao G G G G (aM G G G (ab G G (ao G G G G (ao G G G G (aM G G G (Rg.bA G G (aT ?_))))))));exact aX rfl rfl ⟨by simp only[ij];first|rfl|(congr 1;first|(exact(decide_eq_true k3).symm)|(exact(decide_eq_false k3).symm)|(exact decide_eq_decide.2 k3)),rfl⟩
    ·refine ao G G G G (ao G G G G (aM G G G (ab G G (ao G G G G (ao G G G G (aM G G G (ab G G (ao G G G G (ao G G G G (aM G G G (aB G G ?_)))))))))));refine ad (aT ?_);exact aX rfl rfl ⟨by simp only[ij];first|rfl|(congr 1;first|(exact(decide_eq_true k3).symm)|(exact(decide_eq_false k3).symm)|(exact decide_eq_decide.2 k3)),rfl⟩
 ·refine ao G G G G (ao G G G G (aM G G G (ab G G (ak G G (ab G G (ak G G (eP G G G (ak G G (ab G G ?_)))))))));refine aW (g:=12) G (λwu=>?_) (λwu=>?_)
  ·refine ak G G (ab G G (ak G G (iG G G G (ak G G (bm G G G (aM G G G (ad ?_)))))));refine bM G (λc1=>?_) (λc1=>?_)
   ·refine T.aQ (Rg.bA G G (aT ?_));exact aX rfl rfl ⟨by simp only[ij];first|rfl|(congr 1;first|(exact(decide_eq_true k3).symm)|(exact(decide_eq_false k3).symm)|(exact decide_eq_decide.2 k3)),rfl⟩
   ·refine aR (T.aQ (ab G G (eP G G G (ab G G ?_))));refine aW (g:=19) G (λJl=>?_) (λJl=>?_)
    ·refine ak G G (ab G G (ak G G (iG G G G (bm G G G (ab G G ?_)))));refine aW (g:=23) G (λJm=>?_) (λJm=>?_)
     ·refine ak G G (ab G G (ak G G (fH G G G (bm G G G (ab G G ?_)))));refine aW (g:=27) G (λA8=>?_) (λA8=>?_)
      ·refine ak G G (ab G G (ak G G (fH G G G (bm G G G (Rg.bA G G (aT ?_))))));exact aX rfl rfl ⟨by simp only[ij];first|rfl|(congr 1;first|(exact(decide_eq_true k3).symm)|(exact(decide_eq_false k3).symm)|(exact decide_eq_decide.2 k3)),rfl⟩
      ·refine ao G G G G (ao G G G G (aM G G G (Rg.bA G G (aT ?_))));exact aX rfl rfl ⟨by simp only[ij];first|rfl|(congr 1;first|(exact(decide_eq_true k3).symm)|(exact(decide_eq_false k3).symm)|(exact decide_eq_decide.2 k3)),rfl⟩
     ·refine ao G G G G (ao G G G G (aM G G G (ab G G (ao G G G G (ao G G G G (aM G G G (Rg.bA G G (aT ?_))))))));exact aX rfl rfl ⟨by simp only[ij];first|rfl|(congr 1;first|(exact(decide_eq_true k3).symm)|(exact(decide_eq_false k3).symm)|(exact decide_eq_decide.2 k3)),rfl⟩
    ·refine ao G G G G (ao G G G G (aM G G G (ab G G (ao G G G G (ao G G G G (aM G G G (ab G G (ao G G G G (ao G G G G (aM G G G (aB G G ?_)))))))))));refine ad (aT ?_);exact aX rfl rfl ⟨by simp only[ij];first|rfl|(congr 1;first|(exact(decide_eq_true k3).symm)|(exact(decide_eq_false k3).symm)|(exact decide_eq_decide.2 k3)),rfl⟩
  ·refine ao G G G G (ao G G G G (ak G G (aM G G G (aM G G G (ad (jD G (aR (T.aQ (ab G G (eP G G G ?_))))))))));refine ab G G ?_;refine aW (g:=19) G (λJl=>?_) (λJl=>?_)
   ·refine ak G G (ab G G (ak G G (iG G G G (bm G G G (ab G G ?_)))));refine aW (g:=23) G (λJm=>?_) (λJm=>?_)
    ·refine ak G G (ab G G (ak G G (fH G G G (bm G G G (ab G G ?_)))));refine aW (g:=27) G (λA8=>?_) (λA8=>?_)
     ·refine ak G G (ab G G (ak G G (fH G G G (bm G G G (Rg.bA G G (aT ?_))))));exact aX rfl rfl ⟨by simp only[ij];first|rfl|(congr 1;first|(exact(decide_eq_true k3).symm)|(exact(decide_eq_false k3).symm)|(exact decide_eq_decide.2 k3)),rfl⟩
     ·refine ao G G G G (ao G G G G (aM G G G (Rg.bA G G (aT ?_))));exact aX rfl rfl ⟨by simp only[ij];first|rfl|(congr 1;first|(exact(decide_eq_true k3).symm)|(exact(decide_eq_false k3).symm)|(exact decide_eq_decide.2 k3)),rfl⟩
    ·refine ao G G G G (ao G G G G (aM G G G (ab G G (ao G G G G (ao G G G G (aM G G G (Rg.bA G G (aT ?_))))))));exact aX rfl rfl ⟨by simp only[ij];first|rfl|(congr 1;first|(exact(decide_eq_true k3).symm)|(exact(decide_eq_false k3).symm)|(exact decide_eq_decide.2 k3)),rfl⟩
   ·refine ao G G G G (ao G G G G (aM G G G (ab G G (ao G G G G (ao G G G G (aM G G G (ab G G (ao G G G G (ao G G G G (aM G G G (aB G G ?_)))))))))));refine ad (aT ?_);exact aX rfl rfl ⟨by simp only[ij];first|rfl|(congr 1;first|(exact(decide_eq_true k3).symm)|(exact(decide_eq_false k3).symm)|(exact decide_eq_decide.2 k3)),rfl⟩
theorem Jn (c:Int) (w0:World) (hc:0<=c/\c<=1114111):
  Spec Tryz.prog 253 #[.int .i64 c] w0 (λv w=>v= .int .i64 (il c)/\w=w0):=by
 refine bF (args:=[_]) (fn:=Tryz.f253) Tryz.func253 G (n:=28) Tryz.ntmps253 (T.aQ (Rg.bA G G (aI (T.aQ (ab G G (eP G G G (ab G G ?_)))))));refine aW (g:=5) G (λjM=>?_) (λjM=>?_)
 ·refine ak G G (ab G G (ak G G (iG G G G (bm G G G (ab G G ?_)))));refine aW (g:=9) G (λEx=>?_) (λEx=>?_)
  ·refine ao G G G G (ao G G G G (ao G G G G (cj G G G (cj G G G (ao G G G G (bm G G G (ab G G (ao G G G G (ao G G G G (ao G G G G (cj G G G ?_)))))))))));refine cj G G G (ao G G G G (bm G G G (ad (kT G (T.aQ (ab G G (bG G G G k3 (Rg.bA G G (aT ?_)))))))));exact a62
  ·refine ak G G (ab G G (ak G G (eP G G G (ak G G (ab G G ?_)))));refine aW (g:=12) G (λwu=>?_) (λwu=>?_)
   ·refine ak G G (ab G G (ak G G (iG G G G (ak G G (bm G G G (aM G G G (ab G G ?_)))))));refine aW (g:=17) G (λA4=>?_) (λA4=>?_)
    ·refine ao G G G G (ao G G G G (ao G G G G (cj G G G (cj G G G (ao G G G G (bm G G G (ad (kT G (T.aQ (ab G G ?_))))))))));refine bG G G G k3 (Rg.bA G G (aT ?_));exact a62
    ·refine ak G G (ab G G (ak G G (eP G G G (ak G G (ab G G ?_)))));refine aW (g:=20) G (λoF=>?_) (λoF=>?_)
     ·refine ak G G (ab G G (ak G G (iG G G G (ak G G (bm G G G (aM G G G (ad ?_)))))));refine bM G (λc1=>?_) (λc1=>?_)
      ·refine T.aQ (ab G G (bG G G G k3 (Rg.bA G G (aT ?_))));exact a62
      ·refine aR (T.aQ (ab G G (Rg.bA G G (aT ?_))));exact a15
     ·refine ao G G G G (ao G G G G (ak G G (aM G G G (aM G G G (ad (jD G (aR (T.aQ (ab G G (aB G G ?_))))))))));refine ad (aT ?_);exact a15
   ·refine ao G G G G (ao G G G G (ak G G (aM G G G (aM G G G (ab G G (ak G G (ab G G (ak G G (eP G G G (ak G G (ab G G ?_)))))))))));refine aW (g:=20) G (λoF=>?_) (λoF=>?_)
    ·refine ak G G (ab G G (ak G G (iG G G G (ak G G (bm G G G (aM G G G (ad ?_)))))));refine bM G (λc1=>?_) (λc1=>?_)
     ·refine T.aQ (ab G G (bG G G G k3 (Rg.bA G G (aT ?_))));exact a62
     ·refine aR (T.aQ (ab G G (Rg.bA G G (aT ?_))));exact a15
    ·refine ao G G G G (ao G G G G (ak G G (aM G G G (aM G G G (ad (jD G (aR (T.aQ (ab G G (aB G G ?_))))))))));refine ad (aT ?_);exact a15
 ·refine ao G G G G (ao G G G G (aM G G G (ab G G (ak G G (ab G G (ak G G (eP G G G (ak G G (ab G G ?_)))))))));refine aW (g:=12) G (λwu=>?_) (λwu=>?_)
  ·refine ak G G (ab G G (ak G G (iG G G G (ak G G (bm G G G (aM G G G (ab G G ?_)))))));refine aW (g:=17) G (λA4=>?_) (λA4=>?_)
   ·refine ao G G G G (ao G G G G (ao G G G G (cj G G G (cj G G G (ao G G G G (bm G G G (ad (kT G (T.aQ (ab G G ?_))))))))));refine bG G G G k3 (Rg.bA G G (aT ?_));exact a62
   ·refine ak G G (ab G G (ak G G (eP G G G (ak G G (ab G G ?_)))));refine aW (g:=20) G (λoF=>?_) (λoF=>?_)
    ·refine ak G G (ab G G (ak G G (iG G G G (ak G G (bm G G G (aM G G G (ad ?_)))))));refine bM G (λc1=>?_) (λc1=>?_)
     ·refine T.aQ (ab G G (bG G G G k3 (Rg.bA G G (aT ?_))));exact a62
     ·refine aR (T.aQ (ab G G (Rg.bA G G (aT ?_))));exact a15
    ·refine ao G G G G (ao G G G G (ak G G (aM G G G (aM G G G (ad (jD G (aR (T.aQ (ab G G (aB G G ?_))))))))));refine ad (aT ?_);exact a15
  ·refine ao G G G G (ao G G G G (ak G G (aM G G G (aM G G G (ab G G (ak G G (ab G G (ak G G (eP G G G (ak G G (ab G G ?_)))))))))));refine aW (g:=20) G (λoF=>?_) (λoF=>?_)
   ·refine ak G G (ab G G (ak G G (iG G G G (ak G G (bm G G G (aM G G G (ad ?_)))))));refine bM G (λc1=>?_) (λc1=>?_)
    ·refine T.aQ (ab G G (bG G G G k3 (Rg.bA G G (aT ?_))));exact a62
    ·refine aR (T.aQ (ab G G (Rg.bA G G (aT ?_))));exact a15
   ·refine ao G G G G (ao G G G G (ak G G (aM G G G (aM G G G (ad (jD G (aR (T.aQ (ab G G (aB G G ?_))))))))));refine ad (aT ?_);exact a15
def Ar (c:Int):Bool:=decide (ij c=true\/ru c=true)
theorem Gr (c:Int) (w0:World):
  Spec Tryz.prog 252 #[.int .i64 c] w0 (λv w=>v= .bool (Ar c)/\w=w0):=by
 refine bF (args:=[_]) (fn:=Tryz.f252) Tryz.func252 G (n:=13) Tryz.ntmps252 (T.aQ (Rg.bA G G (T.aQ (ab G G ?_))));refine a8 G G ame (Ez _ _) (λr wc hc=>?_);obtain⟨rfl,rfl⟩:=hc;refine bc (v':= .bool (decide (ij c=true))) (by cases ij c<;>rfl) (ab rfl rfl ?_);refine aW (g:=5) G (λjM=>?_) (λjM=>?_)
 ·refine ao G G G G (ao G G G G (ao G G G G (cj G G G (cj G G G (ao G G G G (bm G G G (Rg.bA G G (aT ?_))))))));have e:(ru c=true)=(48<=c/\c<=57):=by simp[ru]
  exact aX rfl rfl ⟨by simp only[Ar,e];first|(congr 1;first|(exact(decide_eq_true (.inl W4)).symm)|(exact(decide_eq_true (.inr k3)).symm)|(exact(decide_eq_false ak1).symm)|(exact decide_eq_decide.2 ⟨λh=> .inr k3,λh=>h.elim (λh=>absurd h W4) (λh=>by omega)⟩)),rfl⟩
 ·refine ak G G (ab G G (ak G G (eP G G G (ak G G (ab G G ?_)))));refine aW (g:=8) G (λyA=>?_) (λyA=>?_)
  ·refine ak G G (ab G G (ak G G (iG G G G (ak G G (bm G G G (aM G G G (Rg.bA G G (aT ?_))))))));have e:(ru c=true)=(48<=c/\c<=57):=by simp[ru]
   exact aX rfl rfl ⟨by simp only[Ar,e];first|(congr 1;first|(exact(decide_eq_true (.inl W4)).symm)|(exact(decide_eq_true (.inr k3)).symm)|(exact(decide_eq_false ak1).symm)|(exact decide_eq_decide.2 ⟨λh=> .inr k3,λh=>h.elim (λh=>absurd h W4) (λh=>by omega)⟩)),rfl⟩
  ·refine ao G G G G (ao G G G G (ak G G (aM G G G (aM G G G (Rg.bA G G (aT ?_))))));have e:(ru c=true)=(48<=c/\c<=57):=by simp[ru]
   exact aX rfl rfl ⟨by simp only[Ar,e];first|(congr 1;first|(exact(decide_eq_true (.inl W4)).symm)|(exact(decide_eq_true (.inr k3)).symm)|(exact(decide_eq_false ak1).symm)|(exact decide_eq_decide.2 ⟨λh=> .inr k3,λh=>h.elim (λh=>absurd h W4) (λh=>by omega)⟩)),rfl⟩
theorem ZG {l:List UInt8} {c:Int} (hc:c=(l3 l 0:Int)) (hn:nO c≠0):∀{k:Nat},(∀j:Nat,1<=j->j<k+1->l9 l j=true)->k<=3->0<=vO l k/\vO l k<=100000000:=by
 have key:∀k:Nat,(∀j:Nat,1<=j->j<k+1->l9 l j=true)->0<=vO l k/\vO l k<=33*64^k-1:=by
  intro k
  induction k with
  |zero=>
   intro _;have:=qi hn;show 0<=yy (l3 l 0:Int)/\yy (l3 l 0:Int)<=33*64^0-1;rw[<-hc];simp only[Int.pow_zero];omega
  |succ k ih=>
   intro h;have h1:=ih λj h2 h3=>h j h2 k3
   have h2:=jl.1 (h (k+1) k3 k3);show 0<=64*vO l k+_-128/\64*vO l k+_-128<=_;rw[Int.pow_succ];omega
 intro k h hk;have:=key k h
 have h3:(64:Int)^k<=262144:=by
  rcases(show k=0\/k=1\/k=2\/k=3 by omega)with rfl|rfl|rfl|rfl<;>decide
 omega
theorem PY {l:List UInt8} (w0:World) (hl:l≠[]) (hlen:l.length<=1000000):
  Spec Tryz.prog 284 #[.string ⟨l.toArray⟩] w0 (λv w=>v= .tuple #[.int .i64 ((dec l).1:Int),.int .i64 ((dec l).2:Int)]/\w=w0):=by
 have wZ:0<l.length:=qP.2 hl;have hb0:=rr l 0;obtain⟨c,hc⟩:∃c:Int,c=(l3 l 0:Int):=⟨_,rfl⟩;have hcr:0<=c/\c<256:=by omega
 refine bF (args:=[_]) (fn:=Tryz.f284) Tryz.func284 G (n:=85) Tryz.ntmps284 (T.aQ (aB G G (Rg.bA G G (T.aQ (ab G G ?_)))));refine Rg.LG (c:=l.getD 0 0) aG G G G q0 (by rw[ax];show l[0]? =_;rw[al wZ];rfl) ?_;refine bc (v':= .int .u8 c) (by rw[hc];rfl) (Rg.ym dq aq rfl rfl k3 (Rg.bA rfl rfl (aI (T.aQ (ab rfl rfl (ch rfl rfl rfl (ad ?_)))))));refine bM G (λc2=>?_) (λc2=>?_)
 ·refine T.aQ (ab G G (aB G G (Rg.bA G G (aT ?_))));exact fA rfl rfl rfl ⟨by rw[aeJ k3,hc];rfl,rfl⟩
 ·refine aR (T.aQ (Rg.bA G G (T.aQ (Rg.bA G G (T.aQ (aB G G ?_))))));refine ad ?_;refine T.xi [(0,.string ⟨l.toArray⟩),(4,.int .i64 c),(5,.int .i64 (nO c)),(6,.int .i64 (jE c)),(7,.int .i64 (yy c))] ?_ ?_
  ·refine T.aQ (ab G G (eP G G G (ab G G ?_)));refine aW (g:=18) G (λamh=>?_) (λamh=>?_)
   ·refine ak G G (ab G G (ak G G (ch G G G (bm G G G (ad ?_)))));refine bM G (λc7=>?_) (λc7=>?_)
    ·refine T.aQ (Rg.bA G G (T.aQ (Rg.bA G G (aH (ab G G (fQ G G G k3 (aB G G ?_)))))));refine ad ?_;exact⟨G,G,G,.cons G (.cons G (.cons (congrArg (λz=>some (Value.int .i64 z)) a07) (.cons (congrArg (λz=>some (Value.int .i64 z)) a08) (.cons (congrArg (λz=>some (Value.int .i64 z)) a09) (.nil)))))⟩
    ·refine T.aQ (ab G G (eP G G G (ab G G ?_)));refine aW (g:=26) G (λPZ=>?_) (λPZ=>?_)
     ·refine ak G G (ab G G (ak G G (ch G G G (bm G G G (ad ?_)))));refine bM G (λGt=>?_) (λGt=>?_)
      ·refine T.aQ (Rg.bA G G (T.aQ (Rg.bA G G (aH (ab G G (fQ G G G k3 (aB G G ?_)))))));refine ad ?_;exact⟨G,G,G,.cons G (.cons G (.cons (congrArg (λz=>some (Value.int .i64 z)) a07) (.cons (congrArg (λz=>some (Value.int .i64 z)) a08) (.cons (congrArg (λz=>some (Value.int .i64 z)) a09) (.nil)))))⟩
      ·refine T.aQ (ab G G (eP G G G (ab G G ?_)));refine aW (g:=34) G (λA9=>?_) (λA9=>?_)
       ·refine ak G G (ab G G (ak G G (ch G G G (bm G G G (ad ?_)))));refine bM G (λZH=>?_) (λZH=>?_)
        ·refine T.aQ (Rg.bA G G (T.aQ (Rg.bA G G (aH (ab G G (fQ G G G k3 (aB G G ?_)))))));refine ad ?_;exact⟨G,G,G,.cons G (.cons G (.cons (congrArg (λz=>some (Value.int .i64 z)) a07) (.cons (congrArg (λz=>some (Value.int .i64 z)) a08) (.cons (congrArg (λz=>some (Value.int .i64 z)) a09) (.nil)))))⟩
        ·refine aR ?_;exact⟨G,G,G,.cons G (.cons G (.cons (congrArg (λz=>some (Value.int .i64 z)) a07) (.cons (congrArg (λz=>some (Value.int .i64 z)) a08) (.cons (congrArg (λz=>some (Value.int .i64 z)) a09) (.nil)))))⟩
       ·refine ao G G G G (ao G G G G (aM G G G (ad (jD G (aR ?_)))));exact⟨G,G,G,.cons G (.cons G (.cons (congrArg (λz=>some (Value.int .i64 z)) a07) (.cons (congrArg (λz=>some (Value.int .i64 z)) a08) (.cons (congrArg (λz=>some (Value.int .i64 z)) a09) (.nil)))))⟩
     ·refine ao G G G G (ao G G G G (aM G G G (ad (jD G (T.aQ (ab G G (eP G G G (ab G G ?_))))))));refine aW (g:=34) G (λA9=>?_) (λA9=>?_)
      ·refine ak G G (ab G G (ak G G (ch G G G (bm G G G (ad ?_)))));refine bM G (λZH=>?_) (λZH=>?_)
       ·refine T.aQ (Rg.bA G G (T.aQ (Rg.bA G G (aH (ab G G (fQ G G G k3 (aB G G ?_)))))));refine ad ?_;exact⟨G,G,G,.cons G (.cons G (.cons (congrArg (λz=>some (Value.int .i64 z)) a07) (.cons (congrArg (λz=>some (Value.int .i64 z)) a08) (.cons (congrArg (λz=>some (Value.int .i64 z)) a09) (.nil)))))⟩
       ·refine aR ?_;exact⟨G,G,G,.cons G (.cons G (.cons (congrArg (λz=>some (Value.int .i64 z)) a07) (.cons (congrArg (λz=>some (Value.int .i64 z)) a08) (.cons (congrArg (λz=>some (Value.int .i64 z)) a09) (.nil)))))⟩
      ·refine ao G G G G (ao G G G G (aM G G G (ad (jD G (aR ?_)))));exact⟨G,G,G,.cons G (.cons G (.cons (congrArg (λz=>some (Value.int .i64 z)) a07) (.cons (congrArg (λz=>some (Value.int .i64 z)) a08) (.cons (congrArg (λz=>some (Value.int .i64 z)) a09) (.nil)))))⟩
   ·refine ao G G G G (ao G G G G (aM G G G (ad (jD G (T.aQ (ab G G (eP G G G (ab G G ?_))))))));refine aW (g:=26) G (λPZ=>?_) (λPZ=>?_)
    ·refine ak G G (ab G G (ak G G (ch G G G (bm G G G (ad ?_)))));refine bM G (λGt=>?_) (λGt=>?_)
     ·refine T.aQ (Rg.bA G G (T.aQ (Rg.bA G G (aH (ab G G (fQ G G G k3 (aB G G ?_)))))));refine ad ?_;exact⟨G,G,G,.cons G (.cons G (.cons (congrArg (λz=>some (Value.int .i64 z)) a07) (.cons (congrArg (λz=>some (Value.int .i64 z)) a08) (.cons (congrArg (λz=>some (Value.int .i64 z)) a09) (.nil)))))⟩
     ·refine T.aQ (ab G G (eP G G G (ab G G ?_)));refine aW (g:=34) G (λA9=>?_) (λA9=>?_)
      ·refine ak G G (ab G G (ak G G (ch G G G (bm G G G (ad ?_)))));refine bM G (λZH=>?_) (λZH=>?_)
       ·refine T.aQ (Rg.bA G G (T.aQ (Rg.bA G G (aH (ab G G (fQ G G G k3 (aB G G ?_)))))));refine ad ?_;exact⟨G,G,G,.cons G (.cons G (.cons (congrArg (λz=>some (Value.int .i64 z)) a07) (.cons (congrArg (λz=>some (Value.int .i64 z)) a08) (.cons (congrArg (λz=>some (Value.int .i64 z)) a09) (.nil)))))⟩
       ·refine aR ?_;exact⟨G,G,G,.cons G (.cons G (.cons (congrArg (λz=>some (Value.int .i64 z)) a07) (.cons (congrArg (λz=>some (Value.int .i64 z)) a08) (.cons (congrArg (λz=>some (Value.int .i64 z)) a09) (.nil)))))⟩
      ·refine ao G G G G (ao G G G G (aM G G G (ad (jD G (aR ?_)))));exact⟨G,G,G,.cons G (.cons G (.cons (congrArg (λz=>some (Value.int .i64 z)) a07) (.cons (congrArg (λz=>some (Value.int .i64 z)) a08) (.cons (congrArg (λz=>some (Value.int .i64 z)) a09) (.nil)))))⟩
    ·refine ao G G G G (ao G G G G (aM G G G (ad (jD G (T.aQ (ab G G (eP G G G (ab G G ?_))))))));refine aW (g:=34) G (λA9=>?_) (λA9=>?_)
     ·refine ak G G (ab G G (ak G G (ch G G G (bm G G G (ad ?_)))));refine bM G (λZH=>?_) (λZH=>?_)
      ·refine T.aQ (Rg.bA G G (T.aQ (Rg.bA G G (aH (ab G G (fQ G G G k3 (aB G G ?_)))))));refine ad ?_;exact⟨G,G,G,.cons G (.cons G (.cons (congrArg (λz=>some (Value.int .i64 z)) a07) (.cons (congrArg (λz=>some (Value.int .i64 z)) a08) (.cons (congrArg (λz=>some (Value.int .i64 z)) a09) (.nil)))))⟩
      ·refine aR ?_;exact⟨G,G,G,.cons G (.cons G (.cons (congrArg (λz=>some (Value.int .i64 z)) a07) (.cons (congrArg (λz=>some (Value.int .i64 z)) a08) (.cons (congrArg (λz=>some (Value.int .i64 z)) a09) (.nil)))))⟩
     ·refine ao G G G G (ao G G G G (aM G G G (ad (jD G (aR ?_)))));exact⟨G,G,G,.cons G (.cons G (.cons (congrArg (λz=>some (Value.int .i64 z)) a07) (.cons (congrArg (λz=>some (Value.int .i64 z)) a08) (.cons (congrArg (λz=>some (Value.int .i64 z)) a09) (.nil)))))⟩
  ·refine aI (T.aQ (ab G G (sJ G G G (ab G G ?_))));refine aW (g:=42) G (λaeL=>?_) (λaeL=>?_)
   ·refine ao G G G G (ao G G G G (ao G G G G (ao G G G G (bm G G G (ad (kT G (T.aQ (aB G G (Rg.bA G G ?_)))))))));refine aT ?_
    have hx:nO (l3 l 0:Int)=0\/∃k:Nat,1<=k/\(k:Int)<nO (l3 l 0:Int)/\l9 l k=false:=by
     rw[<-hc];by_cases h0:nO c=0
     ·exact .inl h0
     ·have hnc:=qi h0;exact .inr ⟨(nO c).toNat-1,by omega,by omega,dO.2 λh=>by have:=(jl.1 h).1;omega⟩
    have e:dec l=(65533,1):=LI k3 hx;exact fA rfl rfl rfl ⟨by rw[e];rfl,rfl⟩
   ·refine ak G G (ab G G (ak G G (Rg.pF aG G G (bc (v':= .int .i64 (l.length:Int)) a84 (ak G G (ab G G (ak G G (ch G G G (aM G G G (ad ?_))))))))));refine bM G (λXs=>?_) (λXs=>?_)
    ·refine T.aQ (aB G G (Rg.bA G G (aT ?_)))
     have hx:nO (l3 l 0:Int)=0\/∃k:Nat,1<=k/\(k:Int)<nO (l3 l 0:Int)/\l9 l k=false:=by
      rw[<-hc];by_cases h0:nO c=0
      ·exact .inl h0
      ·have hnc:=qi h0;exact .inr ⟨(nO c).toNat-1,by omega,by omega,dO.2 λh=>by have:=(jl.1 h).1;omega⟩
     have e:dec l=(65533,1):=LI k3 hx;exact fA rfl rfl rfl ⟨by rw[e];rfl,rfl⟩
    ·refine aR (aI (T.aQ (Rg.bA G G (aS ?_))));refine dg (σ:=Nat) (λi=>[(0,.string ⟨l.toArray⟩),(5,.int .i64 (nO c)),(6,.int .i64 (jE c)),(7,.int .i64 (vO l (i-1))),(8,.int .i64 (i:Int))]) (λi w=>w=w0/\1<=i/\(i:Int)<=nO c/\∀k:Nat,1<=k->k<i->l9 l k=true) (λi=>(nO c).toNat-i) 1 (.cons G (.cons G (.cons G (.cons (congrArg (λz=>some (Value.int .i64 z)) (by show yy c=yy (l3 l 0:Int);rw[hc])) (.cons rfl .nil))))) ?_ ?_
     ·exact⟨G,aN _,by have:=qi (c:=c) k3;omega,λk h1 h2=>by omega⟩
     ·rintro i w ⟨rfl,zf,Al,hok⟩;have hnc:=qi (c:=c) k3
      have hvr:0<=vO l (i-1)/\vO l (i-1)<=100000000:=by
       exact ZG (l:=l) (c:=c) (k:=i-1) hc k3 (λj h1 h2=>hok j h1 k3) k3
      refine aI (T.aQ (ab G G (ab G G (ch G G G (ad ?_)))));refine bM G (λc22=>?_) (λc22=>?_)
      ·refine aR (aI (aS (T.aQ (ab G G (ab G G ?_)))));have k4:i<l.length:=by omega
       refine Rg.LG (c:=l.getD i 0) aG G G G k3 (by rw[ax,an,al k4];rfl) ?_;refine bc (v':= .int .u8 (l3 l i:Int)) G ?_;have P0:=rr l i;refine Rg.ym dq aq G G k3 (Rg.bA G G (aI (T.aQ (ab G G (ch G G G (ab G G ?_))))));refine aW (g:=59) G (λaeM=>?_) (λaeM=>?_)
       ·refine ao G G G G (ao G G G G (bm G G G (ad (kT G (T.aQ (aB G G (Rg.bA G G (aT ?_))))))))
        have hx:nO (l3 l 0:Int)=0\/∃k:Nat,1<=k/\(k:Int)<nO (l3 l 0:Int)/\l9 l k=false:=by
         rw[<-hc];exact .inr ⟨i,zf,by omega,dO.2 λh=>by have:=jl.1 h;omega⟩
        have e:dec l=(65533,1):=LI k3 hx;exact fA rfl rfl rfl ⟨by rw[e];rfl,rfl⟩
       ·refine ak G G (ab G G (ak G G (eP G G G (aM G G G (ad ?_)))));refine bM G (λc25=>?_) (λc25=>?_)
        ·refine T.aQ (aB G G (Rg.bA G G (aT ?_)))
         have hx:nO (l3 l 0:Int)=0\/∃k:Nat,1<=k/\(k:Int)<nO (l3 l 0:Int)/\l9 l k=false:=by
          rw[<-hc];exact .inr ⟨i,zf,by omega,dO.2 λh=>by have:=jl.1 h;omega⟩
         have e:dec l=(65533,1):=LI k3 hx;exact fA rfl rfl rfl ⟨by rw[e];rfl,rfl⟩
        ·refine aR (aH (ab G G (Rg.Pg G G G k3 (ab G G (bG G G G k3 (fQ G G G k3 (Rg.bA G G (aH (ab G G (bG G G G k3 ?_))))))))));refine Rg.bA G G ?_;refine⟨G,i+1,(.cons G (.cons G (.cons G (.cons (congrArg (λz=>some (Value.int .i64 z)) (by obtain⟨q,rfl⟩:∃q,i=q+1:=⟨i-1,by omega⟩;rfl)) (.cons rfl .nil))))),?_,?_⟩
         ·exact⟨G,by omega,by omega,λk h1 h2=>by
           rcases cQ k i with h|h
           ·exact hok k h1 h
           ·obtain rfl:k=i:=by omega
            exact jl.2 k3⟩
         ·omega
      ·refine cO (aI (T.aQ (ab G G (ab G G (ch G G G (ab G G ?_))))));refine aW (g:=71) G (λaeN=>?_) (λaeN=>?_)
       ·refine ao G G G G (ao G G G G (bm G G G (ab G G (ao G G G G (ao G G G G (ao G G G G (cj G G G (cj G G G (ao G G G G (bm G G G (ad ?_)))))))))));refine kT G (T.aQ (aB G G (Rg.bA G G (aT ?_))));have e:=Gq (l:=l) (by rw[<-hc];omega) a96 (vO l (i-1)) aj8;rw[<-hc,if_pos k3]at e;exact fA rfl rfl rfl ⟨by rw[e];rfl,rfl⟩
       ·refine ak G G (ab G G (ak G G (iX G G G (aM G G G (ab G G ?_)))));refine aW (g:=75) G (λaeO=>?_) (λaeO=>?_)
        ·refine ao G G G G (ao G G G G (ao G G G G (cj G G G (cj G G G (ao G G G G (bm G G G (ad (kT G (T.aQ (aB G G ?_))))))))));refine Rg.bA G G (aT ?_);have e:=Gq (l:=l) (by rw[<-hc];omega) a96 (vO l (i-1)) aj8;rw[<-hc,if_pos k3]at e;exact fA rfl rfl rfl ⟨by rw[e];rfl,rfl⟩
        ·refine ak G G (ab G G (ak G G (eP G G G (ak G G (ab G G ?_)))));refine aW (g:=78) G (λZI=>?_) (λZI=>?_)
         ·refine ak G G (ab G G (ak G G (iG G G G (ak G G (bm G G G (aM G G G (ad ?_)))))));refine bM G (λc28=>?_) (λc28=>?_)
          ·refine T.aQ (aB G G (Rg.bA G G (aT ?_)));have e:=Gq (l:=l) (by rw[<-hc];omega) a96 (vO l (i-1)) aj8;rw[<-hc,if_pos k3]at e;exact fA rfl rfl rfl ⟨by rw[e];rfl,rfl⟩
          ·refine aR (T.aQ (ab G G (ab G G (aB G G (Rg.bA G G (aT ?_))))));have e:=Gq (l:=l) (by rw[<-hc];omega) a96 (vO l (i-1)) aj8;rw[<-hc,if_neg k3]at e;exact fA rfl rfl rfl ⟨by rw[e];simp only[];rw[qQ hvr.1,qQ k3],rfl⟩
         ·refine ao G G G G (ao G G G G (ak G G (aM G G G (aM G G G (ad (jD G (aR (T.aQ (ab G G (ab G G ?_))))))))));refine aB G G (Rg.bA G G (aT ?_));have e:=Gq (l:=l) (by rw[<-hc];omega) a96 (vO l (i-1)) aj8;rw[<-hc,if_neg k3]at e;exact fA rfl rfl rfl ⟨by rw[e];simp only[];rw[qQ hvr.1,qQ k3],rfl⟩
theorem Gu {M:aJ} {l:List UInt8} (w0:World) (hM:Lt M w0) (hl:l.length<=1000000):
  Spec Tryz.prog 251 #[.string ⟨l.toArray⟩] w0 (λv w=>((RT.int .i64).sl).V M w (gE l) v/\Step M w0 M w aA):=by
 have ir:=hM;refine bF (args:=[_]) (fn:=Tryz.f251) Tryz.func251 G (n:=22) Tryz.ntmps251 ?_;have S:Step M w0 M w0 aA:=bz;refine T.aQ (Rg.bA G G (T.aQ (Rg.bA G G (aI (aS ?_)))));refine dg (σ:=Nat×List Int×Value) (λq=>[(0,.string ⟨(l.drop q.1).toArray⟩),(3,q.2.2)]) (λq w=>∃M',Lt M' w/\Step M w0 M' w aA/\Own (RT.int .i64) 3 M' w w0.heap.size q.2.2 q.2.1/\gE l=q.2.1++gE (l.drop q.1)/\q.1<=l.length) (λq=>l.length-q.1) (0,[],.slice none 0 0) a38 ?_ ?_
 ·exact⟨M,hM,S,dh _ _ _ _ _,by simp,by simp⟩
 ·rintro⟨p,xs,u⟩ w ⟨M1,hM,S,ho,CP,hp⟩;dsimp only at ho CP hp ⊢;refine aI (T.aQ (ab G G (Rg.pF aG G G (bc (v':= .int .i64 ((l.drop p).length:Int)) a84 (iX G G G (ad ?_))))));refine bM G (λc2=>?_) (λc2=>?_)
  ·refine aR (aS (T.aQ (ab G G ?_)));have fG:l.drop p≠[]:=by intro h;rw[h]at c2;simp at c2
   have uQ:p<l.length:=by have:=qP.2 fG;rw[dS]at this;omega
   have hwd:=nX fG;refine a8 rfl rfl amd (PY (l:=l.drop p) _ fG (by rw[dS];omega)) (λr3 w3 hc=>?_);obtain⟨rfl,rfl⟩:=hc;refine ab G G (cq G G G (cq G G G (aB G G (Rg.bA G G (T.aQ (ab G G (ab G G ?_)))))));refine dP (A:=RT.int .i64) (hn:=by decide) (M:=M1) ah I3 q0 G G hM (gw (by have:=yw (l.drop p);omega)) (.inr ⟨rfl,rfl⟩) (λJo U6 k5 oH=>?_);replace ho:=ho.aE oH;replace hM:=oH.lt hM;have:=S.size;replace S:=S.aw oH;refine cN (M:=M1) (base:=w0.heap.size) ah I3 rfl rfl rfl rfl ho k5 bY a99 a99 (S.size) (λZJ amj ayX aeP ZK=>?_);replace k5:=k5.le ZK.le;replace hM:=ZK.lt hM;have:=S.size;replace S:=S.cC ZK ho (aN _);replace ho:=aeP;refine Rg.bA G G (aH (ab G G (ab G G (Rg.U0 aG G G G k3 (bc (v':= .string ⟨(l.drop (p+(dec (l.drop p)).2)).toArray⟩) (by rw[List.drop_drop];simp) (Rg.bA rfl rfl ?_))))));refine⟨G,(p+(dec (l.drop p)).2,xs++[((dec (l.drop p)).1:Int)],ZJ),a38,?_,?_⟩
   ·refine⟨amj,hM,S,ho,?_,?_⟩
    ·rw[CP,wo fG,List.drop_drop];simp
    ·have:=hwd.2;rw[dS]at this;dsimp only;omega
   ·have:=hwd.1;have:=hwd.2;rw[dS]at this;dsimp only;omega
  ·refine cO (T.aQ (ab G G (Rg.bA G G (aT ?_))));have e:gE l=xs:=by rw[CP,gL (by simp at c2;omega),yx];simp
   rw[e];have:=kd l;rw[e]at this;exact aX G G ⟨ho.close ir S k3,S.back⟩
theorem vB {M:aJ} {w:World} {x:Int} (h:0<=x/\x<256):RT.u8.V M w x.toNat.toUInt8 (.int .u8 (IntKind.u8.wrap x)):=by
 have e1:IntKind.u8.wrap x=x:=by
  show(if(false&&decide (x%256>=128))=true then x%256-256 else x%256)=x;rw[if_neg (by simp)];omega
 have e2:((x.toNat.toUInt8).toNat:Int)=x:=by
  have:x.toNat.toUInt8.toNat=x.toNat%256:=UInt8.toNat_ofNat' ..;omega
 rw[e1];exact⟨[.int .u8 x],by show _=_;rw[e2],rfl⟩
theorem amk {r:Int} (h:0<=r/\r<128):Lib.encodeRune r=[r.toNat.toUInt8]:=by rw[Lib.encodeRune,Lib.encodeRuneZ_one h.1 k3];rfl
theorem aml {r:Int} (h:128<=r/\r<2048):Lib.encodeRune r=[(192+r/64).toNat.toUInt8,(128+r%64).toNat.toUInt8]:=by rw[Lib.encodeRune,Lib.encodeRuneZ_two h.1 k3];rfl
theorem NF (c:Int):xp c<55296\/57343<xp c:=by
 unfold xp
 split
 ·omega
 ·rename_i h
  have h2:Lib.validRune c=true:=by
   cases hv:Lib.validRune c with
   |true=>rfl
   |false=>exact absurd (.inr (.inr hv)) h
  simp only[Lib.validRune,decide_eq_true_eq]at h2;omega
theorem amm {r:Int} (h:2048<=r/\r<65536) (h2:r<55296\/57343<r):Lib.encodeRune r=[(224+r/4096).toNat.toUInt8,(128+r/64%64).toNat.toUInt8,(128+r%64).toNat.toUInt8]:=by rw[Lib.encodeRune,Lib.encodeRuneZ_three k3];rfl
theorem amn {r:Int} (h:65536<=r/\r<=1114111):Lib.encodeRune r=[(240+r/262144).toNat.toUInt8,(128+r/4096%64).toNat.toUInt8,(128+r/64%64).toNat.toUInt8,(128+r%64).toNat.toUInt8]:=by rw[Lib.encodeRune,Lib.encodeRuneZ_four h.1 h.2];rfl
theorem xq {c:Int} (h:c<0\/c>1114111\/(55296<=c/\c<=57343)):xp c=65533:=by
 rw[xp,if_pos];rcases h with h|h|h
 ·exact .inl h
 ·exact .inr (.inl h)
 ·refine .inr (.inr ?_);simp only[Lib.validRune,decide_eq_false_iff_not];omega
theorem tG {c:Int} (h: ¬(c<0\/c>1114111\/(55296<=c/\c<=57343))):xp c=c:=by
 rw[xp,if_neg];rintro(h1|h1|h1)
 ·omega
 ·omega
 ·simp only[Lib.validRune,decide_eq_false_iff_not]at h1;omega
theorem Ba {M:aJ} {xs:List Int} {v0:Value} (w0:World) (hM:Lt M w0) (hv:((RT.int .i64).sl).V M w0 xs v0) (hl:xs.length<=1000000):
  Spec Tryz.prog 254 #[v0] w0 (λv w=>v= .string ⟨(my xs).toArray⟩/\Step M w0 M w aA):=by
 have ir:=hM;refine bF (args:=[_]) (fn:=Tryz.f254) Tryz.func254 G (n:=91) Tryz.ntmps254 ?_;have S:Step M w0 M w0 aA:=bz;refine T.aQ (Rg.bA G G (T.aQ (Rg.bA G G (aI (T.aQ (aB G G ?_))))));refine ad (aS ?_);refine dg (σ:=Nat×Value) (λq=>[(0,v0),(3,q.2),(4,.int .i64 (q.1:Int))]) (λq w=>∃M',Lt M' w/\Step M w0 M' w aA/\Own RT.u8 5 M' w w0.heap.size q.2 (my (xs.take q.1))/\((RT.int .i64).sl).V M' w xs v0/\q.1<=xs.length) (λq=>xs.length-q.1) (0,.slice none 0 0) a06 ?_ ?_
 ·exact⟨M,hM,S,dh _ _ _ _ _,hv,bC _⟩
 ·rintro⟨k,u⟩ w ⟨M1,hM,S,ho,hv,hk⟩;dsimp only at ho hk ⊢;refine aI (T.aQ (ab G G (ab G G (bK ah G hv G (ch G G G (ad ?_))))));refine bM G (λc3=>?_) (λc3=>?_)
  ·refine aR (aI (aS (T.aQ (ab G G (ab G G ?_)))));refine bX ah I3 G G G hv bY k3 (λu5 c NG Gv=>?_);refine bV aq G G Gv bY (λin5=>?_);have tk:xs.take (k+1)=xs.take k++[c]:=by rw[bB];simp only[an]at NG;rw[NG];rfl
   have hsr:=LH c;have hsc:=NF c;refine Rg.bA G G ?_;refine T.xi [(0,v0),(3,u),(4,.int .i64 (k:Int)),(5,.int .i64 (xp c))] ?_ ?_
   ·refine T.aQ (ab G G (ch G G G (ab G G ?_)));refine aW (g:=18) G (λZL=>?_) (λZL=>?_)
    ·refine ao G G G G (ao G G G G (bm G G G (ab G G (ao G G G G (ao G G G G (ao G G G G (cj G G G (cj G G G (ao G G G G (bm G G G (ad ?_)))))))))));refine kT G (aH (Rg.bA G G ?_));exact⟨G,G,G,.cons G (.cons G (.cons G (.cons (congrArg (λz=>some (Value.int .i64 z)) a90) (.nil))))⟩
    ·refine ak G G (ab G G (ak G G (iX G G G (aM G G G (ab G G ?_)))));refine aW (g:=22) G (λZM=>?_) (λZM=>?_)
     ·refine ao G G G G (ao G G G G (ao G G G G (cj G G G (cj G G G (ao G G G G (bm G G G (ad (kT G (aH (Rg.bA G G ?_))))))))));exact⟨G,G,G,.cons G (.cons G (.cons G (.cons (congrArg (λz=>some (Value.int .i64 z)) a90) (.nil))))⟩
     ·refine ak G G (ab G G (ak G G (eP G G G (ak G G (ab G G ?_)))));refine aW (g:=25) G (λamo=>?_) (λamo=>?_)
      ·refine ak G G (ab G G (ak G G (iG G G G (ak G G (bm G G G (aM G G G (ad ?_)))))));refine bM G (λc6=>?_) (λc6=>?_)
       ·refine aH (Rg.bA G G ?_);exact⟨G,G,G,.cons G (.cons G (.cons G (.cons (congrArg (λz=>some (Value.int .i64 z)) a90) (.nil))))⟩
       ·refine aR ?_;exact⟨G,G,G,.cons G (.cons G (.cons G (.cons (congrArg (λz=>some (Value.int .i64 z)) a90) (.nil))))⟩
      ·refine ao G G G G (ao G G G G (ak G G (aM G G G (aM G G G (ad (jD G (aR ?_)))))));exact⟨G,G,G,.cons G (.cons G (.cons G (.cons (congrArg (λz=>some (Value.int .i64 z)) a90) (.nil))))⟩
   ·refine T.aQ (ab G G (ch G G G (ad ?_)));refine bM G (λc8=>?_) (λc8=>?_)
    ·refine aH (ab G G (ab G G (vR aq dq G G ?_)));refine dP (A:=RT.u8) (hn:=by decide) (M:=M1) cf I5 q0 G G hM (vB k3) (.inr ⟨G,G⟩) (λayZ aeQ P1 tH=>?_);replace hv:=hv.le tH.le;replace ho:=ho.aE tH;replace hM:=tH.lt hM;have:=S.size;replace S:=S.aw tH;refine cN (M:=M1) (base:=w0.heap.size) cf I5 G G G G ho P1 bY a52 a52 (S.size) (λP2 U7 U8 Bb mj=>?_);replace hv:=hv.le mj.le;replace P1:=P1.le mj.le;replace hM:=mj.lt hM;have:=S.size;replace S:=S.cC mj ho (aN _);replace ho:=Bb;refine Rg.bA G G (aH (ab G G (bG G G G k3 (Rg.bA G G ?_))));refine⟨G,(k+1,P2),a06,?_,?_⟩
     ·exact⟨U7,hM,S,by rw[tk,oG,amk k3];exact ho,hv,by dsimp only;omega⟩
     ·dsimp only;omega
    ·refine T.aQ (ab G G (ch G G G (ad ?_)));refine bM G (λU9=>?_) (λU9=>?_)
     ·refine aH (ab G G (ab G G (Rg.zT G G G k3 (bG G G G k3 (vR aq dq G G (ab G G (Rg.zU G G G k3 (bG G G G k3 (vR aq dq G G ?_)))))))));refine Rg.sln (A:=RT.u8) (hn:=by decide) (M:=M1) (xs:=[(192+xp c/64).toNat.toUInt8,(128+xp c%64).toNat.toUInt8]) cf I5 G q0 G ⟨_,_,_,G,G,G,vB k3,_,_,_,G,G,G,vB k3,G⟩ G hM (.inr ⟨G,G⟩) q0 (λaeR aeS ry oI=>?_);replace hv:=hv.le oI.le;replace ho:=ho.aE oI;replace hM:=oI.lt hM;have:=S.size;replace S:=S.aw oI;refine cN (M:=M1) (base:=w0.heap.size) cf I5 G G G G ho ry bY a52 a52 (S.size) (λBc Jp P3 EA iO=>?_);replace hv:=hv.le iO.le;replace ry:=ry.le iO.le;replace hM:=iO.lt hM;have:=S.size;replace S:=S.cC iO ho (aN _);replace ho:=EA;refine Rg.bA G G (aH (ab G G (bG G G G k3 (Rg.bA G G ?_))));refine⟨G,(k+1,Bc),a06,?_,?_⟩
      ·exact⟨Jp,hM,S,by rw[tk,oG,aml k3];exact ho,hv,by dsimp only;omega⟩
      ·dsimp only;omega
     ·refine T.aQ (ab G G (ch G G G (ad ?_)));refine bM G (λVa=>?_) (λVa=>?_)
      ·refine aH (ab G G (ab G G (Rg.zT G G G k3 (bG G G G k3 (vR aq dq G G (ab G G (Rg.zT G G G k3 (Rg.zU G G G k3 (bG G G G k3 (vR aq dq G G (ab G G ?_)))))))))));refine Rg.zU G G G k3 (bG G G G k3 (vR aq dq G G ?_));refine Rg.sln (A:=RT.u8) (hn:=by decide) (M:=M1) (xs:=[(224+xp c/4096).toNat.toUInt8,(128+xp c/64%64).toNat.toUInt8,(128+xp c%64).toNat.toUInt8]) cf I5 G q0 G ⟨_,_,_,G,G,G,vB k3,_,_,_,G,G,G,vB k3,_,_,_,G,G,G,vB k3,G⟩ G hM (.inr ⟨G,G⟩) q0 (λamp amq EB EC=>?_);replace hv:=hv.le EC.le;replace ho:=ho.aE EC;replace hM:=EC.lt hM;have:=S.size;replace S:=S.aw EC;refine cN (M:=M1) (base:=w0.heap.size) cf I5 G G G G ho EB bY a52 a52 (S.size) (λZN ZO amr Vb ED=>?_);replace hv:=hv.le ED.le;replace EB:=EB.le ED.le;replace hM:=ED.lt hM;have:=S.size;replace S:=S.cC ED ho (aN _);replace ho:=Vb;refine Rg.bA G G (aH (ab G G (bG G G G k3 (Rg.bA G G ?_))));refine⟨G,(k+1,ZN),a06,?_,?_⟩
       ·exact⟨ZO,hM,S,by rw[tk,oG,amm k3 hsc];exact ho,hv,by dsimp only;omega⟩
       ·dsimp only;omega
      ·refine aH (ab G G (ab G G (Rg.zT G G G k3 (bG G G G k3 (vR aq dq G G (ab G G (Rg.zT G G G k3 (Rg.zU G G G k3 (bG G G G k3 (vR aq dq G G (ab G G ?_)))))))))));refine Rg.zT G G G k3 (Rg.zU G G G k3 (bG G G G k3 (vR aq dq G G (ab G G (Rg.zU G G G k3 (bG G G G k3 (vR aq dq G G ?_)))))));refine Rg.sln (A:=RT.u8) (hn:=by decide) (M:=M1) (xs:=[(240+xp c/262144).toNat.toUInt8,(128+xp c/4096%64).toNat.toUInt8,(128+xp c/64%64).toNat.toUInt8,(128+xp c%64).toNat.toUInt8]) cf I5 G q0 G ⟨_,_,_,G,G,G,vB k3,_,_,_,G,G,G,vB k3,_,_,_,G,G,G,vB k3,_,_,_,G,G,G,vB k3,G⟩ G hM (.inr ⟨G,G⟩) q0 (λams amt EE EF=>?_);replace hv:=hv.le EF.le;replace ho:=ho.aE EF;replace hM:=EF.lt hM;have:=S.size;replace S:=S.aw EF;refine cN (M:=M1) (base:=w0.heap.size) cf I5 G G G G ho EE bY a52 a52 (S.size) (λZQ ZR amu Vc EG=>?_);replace hv:=hv.le EG.le;replace EE:=EE.le EG.le;replace hM:=EG.lt hM;have:=S.size;replace S:=S.cC EG ho (aN _);replace ho:=Vc;refine Rg.bA G G (aH (ab G G (bG G G G k3 (Rg.bA G G ?_))));refine⟨G,(k+1,ZQ),a06,?_,?_⟩
       ·exact⟨ZR,hM,S,by rw[tk,oG,amn k3];exact ho,hv,by dsimp only;omega⟩
       ·dsimp only;omega
  ·refine cO (T.aQ (ab G G (Rg.b2s (hn:=by decide) (M:=M) cf dq aG G G (ho.close ir S (by have:=iK (xs.take k);rw[aU]at this;omega)) bY (Rg.bA rfl rfl (aT ?_)))));have e:xs.take k=xs:=aL k3;rw[e];exact aX G G ⟨G,S.back⟩
theorem Jq {M:aJ} {l:List UInt8} (w0:World) (hM:Lt M w0) (hl:l.length<=1000000):
  Spec Tryz.prog 229 #[.string ⟨l.toArray⟩] w0 (λv w=>((RT.int .i64).sl).V M w (gE l) v/\Step M w0 M w aA):=by
 have ir:=hM;refine bF (args:=[_]) (fn:=Tryz.f229) Tryz.func229 G (n:=17) Tryz.ntmps229 ?_;have S:Step M w0 M w0 aA:=bz;refine T.aQ (Rg.bA G G (T.aQ (Rg.bA G G (aI (T.aQ (ab G G ?_))))));refine Rg.PS M aG G G (λP5 ay0 ay1 ay2 amv ZS=>?_);obtain⟨Xt,P7⟩:∃M',M'=ins M P5:=⟨_,rfl⟩;rw[<-P7]at ZS;have ZT:Xt P5:=by rw[P7];exact .inl G
 replace hM:=ZS.lt hM;have:=S.size;replace S:=S.aw ZS;refine ad (aS ?_);refine dg (σ:=Nat×List Int×Value) (λq=>[(3,q.2.2),(7,.pointer (some ⟨P5,0,none⟩))]) (λq w=>∃M',Lt M' w/\Step M w0 M' w aA/\w.heap[P5]? =some (.stringIter ⟨l.toArray⟩ q.1)/\M' P5/\Own (RT.int .i64) 3 M' w w0.heap.size q.2.2 q.2.1/\gE l=q.2.1++gE (l.drop q.1)/\q.1<=l.length) (λq=>l.length-q.1) (0,[],.slice none 0 0) a38 ?_ ?_
 ·exact⟨Xt,hM,S,amv,ZT,dh _ _ _ _ _,by simp,by simp⟩
 ·rintro⟨p,xs,u⟩ w ⟨M1,hM,S,g,DB,ho,CP,hp⟩;dsimp only at g ho CP hp ⊢;refine T.aQ ?_;refine Rg.UZ (M:=M1) G g DB G (λamw ay3 amx P9=>?_) (λamw=>?_)
  ·have:=ae g;replace DB:=(P9.mem _ this).2 DB;replace ho:=ho.step P9 (λb hb hk=>ho.eU g (hk▸hb));replace hM:=P9.lt hM;have:=S.size;replace S:=S.trans P9 (λk hk h=>by have h:_=_:=h;subst h;first|(exfalso;omega)|(show _<=_;omega)|exact⟨by first|omega|assumption,(S.mem _ hk).1 ((P9.mem _ (ae g)).1 DB)⟩|exact .inl rfl|exact .inr rfl|exact .inr (.inl rfl)|exact .inr (.inr rfl)|exact .inr (.inr (.inl rfl))|exact rfl);have g_:=amx;clear g;have g:=g_;clear g_;refine cq G G G (ad (aI (kT G (aR (aS (T.aQ (cq G G G (Rg.bA G G (aH ?_)))))))));refine ab G G (ab G G (Rg.ym Tryz.underlying21 aq G G (by have:=yw (l.drop p);omega) ?_));refine dP (A:=RT.int .i64) (hn:=by decide) (M:=M1) ah I3 q0 G G hM (gw (by have:=yw (l.drop p);omega)) (.inr ⟨rfl,rfl⟩) (λamy ay4 LJ Qa=>?_);have:=ae g;replace DB:=(Qa.mem _ this).2 DB;replace g:=Qa.aP g;replace ho:=ho.aE Qa;replace hM:=Qa.lt hM;have:=S.size;replace S:=S.aw Qa;refine cN (M:=M1) (base:=w0.heap.size) ah I3 rfl rfl rfl rfl ho LJ bY a99 a99 (S.size) (λamz amA ay5 aeT Qb=>?_);have:=ae g;replace DB:=(Qb.mem _ this).2 DB;replace g:=Qb.keep g (λh=>by first|exact ho.eU g h|exact ho.eu g q0 h|(have:=(ho.base _ h).1;omega));replace LJ:=LJ.le Qb.le;replace hM:=Qb.lt hM;have:=S.size;replace S:=S.cC Qb ho (aN _);replace ho:=aeT;refine Rg.bA G G ?_;have fG:l.drop p≠[]:=by intro h;have:=congrArg List.length h;simp at this;omega
   refine⟨G,(p+(dec (l.drop p)).2,xs++[((dec (l.drop p)).1:Int)],amz),a38,?_,?_⟩
   ·refine⟨amA,hM,S,g,DB,ho,?_,?_⟩
    ·rw[CP,wo fG,List.drop_drop];simp
    ·have:=(nX fG).2;rw[dS]at this;dsimp only;omega
   ·have:=(nX fG).1;have:=(nX fG).2;rw[dS]at this;dsimp only;omega
  ·refine cq G G G (ad (aI (jD G (cO (T.aQ (ab G G (Rg.bA G G (aT ?_))))))));have e:gE l=xs:=by rw[CP,gL k3,yx];simp
   rw[e];have:=kd l;rw[e]at this;exact aX G G ⟨ho.close ir S k3,S.back⟩
def iB (p:List Int×List (List UInt8)) (c:Int):List Int×List (List UInt8):=
 if ij c=true\/ru c=true then(p.1++[il c],p.2)else if 0<p.1.length then([],p.2++[my p.1])else([],p.2)
structure Qd (M:aJ) (w:World) (B bo bs:Nat) (p:List Int×List (List UInt8)):Prop where
 a:∃u,w.heap[bo]? =some (.cells #[u] 37 (0,0))/\Own (RT.int .i64) 3 M w B u p.1
 b:∃u,w.heap[bs]? =some (.cells #[u] 57 (0,0))/\Own RT.str 9 M w B u p.2
 m:M bo/\M bs/\B<=bo/\B<=bs
theorem tI {c:Int} (h:ij c=true\/ru c=true):0<=c/\c<=1114111:=by
 simp only[ij,ru,decide_eq_true_eq]at h;omega
theorem Bd {M:aJ} {B bo bs:Nat} {p:List Int×List (List UInt8)} (w0:World) (hM:Lt M w0) (c:Int) (ht:Qd M w0 B bo bs p) (hl:p.1.length<=1000000/\p.2.length<=1000000):
  Spec Tryz.prog 224 #[.int .i64 c,.pointer (some ⟨bo,0,none⟩),.pointer (some ⟨bs,0,none⟩)] w0 (λv w=>∃M',Lt M' w/\Qd M' w B bo bs (iB p c)/\Step M w0 M' w (nJ M B)):=by
 obtain⟨⟨uo,go,ho⟩,⟨us,gs,hs⟩,ju,j9,hBo,hBs⟩:=ht;obtain⟨own,out⟩:=p;dsimp only at ho hs hl ⊢;have fG:bo≠bs:=λe=>by subst e;rw[go]at gs;cases gs
 refine bF (args:=[_,_,_]) (fn:=Tryz.f224) Tryz.func224 G (n:=23) Tryz.ntmps224 ?_;have S:Step M w0 M w0 (nJ M B):=(bz).eL a42 (λ_ h=>h.2);refine aI (T.aQ (ab G G ?_));refine a8 G G al0 (Gm _ _) (λr wc hc=>?_);obtain⟨rfl,rfl⟩:=hc;refine bc (v':= .bool (decide (ij c=true))) (by cases ij c<;>rfl) (ab rfl rfl ?_);refine aW (g:=6) G (λamB=>?_) (λamB=>?_)
 ·refine ao G G G G (ao G G G G (bm G G G (ad (kT G (aI ?_)))));apply nq 2 [0] 2 aA mixed rfl rfl rfl rfl;intro II Qe;have nZ:=Qe M;have:=ae go;replace ju:=(nZ.mem _ this).2 ju;replace go:=nZ.aP go;have:=ae gs;replace j9:=(nZ.mem _ this).2 j9;replace gs:=nZ.aP gs;replace ho:=ho.aE nZ;replace hs:=hs.aE nZ;replace hM:=nZ.lt hM;have:=S.size;replace S:=S.aw nZ;refine aV ah G G G (by first|assumption|exact dE nZ W4) G (Rg.bL (ab G G (Rg.bL (dD (⟨eQ ⟨dQ G W4 a73,trivial⟩,?_⟩)))));have kp:=fq aA II;have Jr:ij c=true\/ru c=true:=by first|exact .inl W4|exact .inr W4
  refine a8 G G aeE (Dz c _ (tI Jr)) (λr wc hc=>?_);obtain⟨rfl,rfl⟩:=hc;refine(fun(kp:eB _ _ _)=>ad ⟨G,G,λ_=>kp,?_⟩) a00;refine dP (A:=RT.int .i64) (hn:=by decide) (M:=M) ah I3 q0 G G hM (gw (by have:=tI Jr;unfold il;split<;>omega)) (.inr ⟨rfl,rfl⟩) (λQf NH lQ s1_3=>?_);have:=ae go;replace ju:=(s1_3.mem _ this).2 ju;replace go:=s1_3.aP go;have:=ae gs;replace j9:=(s1_3.mem _ this).2 j9;replace gs:=s1_3.aP gs;replace ho:=ho.aE s1_3;replace hs:=hs.aE s1_3;replace hM:=s1_3.lt hM;have:=S.size;replace S:=S.aw s1_3;refine(fun(kp:eB _ _ _)=>ad ⟨G,G,λ_=>kp,?_⟩) a00;refine cN (M:=M) (base:=B) ah I3 rfl rfl rfl rfl ho lQ bY a03 a03 (by have:=ae go;omega) (λZU Qg ZV Qh oJ=>?_);have:=ae go;replace ju:=(oJ.mem _ this).2 ju;replace go:=oJ.keep go (λh=>by first|exact ho.eU go h|exact ho.eu go q0 h|(have:=(ho.base _ h).1;omega));have:=ae gs;replace j9:=(oJ.mem _ this).2 j9;replace gs:=oJ.keep gs (λh=>by first|exact ho.eU gs h|exact ho.eu gs q0 h|(have:=(ho.base _ h).1;omega));replace lQ:=lQ.le oJ.le;replace hs:=hs.step oJ (λb h1 h2=>hs.cr ho q0 h1 h2);replace hM:=oJ.lt hM;have:=S.size;replace S:=S.trans oJ (λb hb h=>⟨(ho.base b h).1,(S.mem b hb).1 (ho.mut_ b h)⟩);replace ho:=Qh;refine ad ⟨G,G,λh=>absurd G h,?_⟩;refine cF (M:=Qg) iJ rfl rfl go rfl (a88) ju (λZW yA rz=>?_);change ZW.heap[_]? =some (Obj.cells #[ZU] _ _)at yA
  have:=ae go;replace ju:=(rz.mem _ this).2 ju;have:=ae gs;replace j9:=(rz.mem _ this).2 j9;replace gs:=rz.keep gs a05;replace lQ:=lQ.le rz.le;replace ho:=ho.step rz (λb hb hk=>by have hk:b=_:=hk;subst hk;first|exact absurd hb (ho.eu go q0)|exact absurd hb (ho.eu gs q0));replace hs:=hs.step rz (λb hb hk=>by have hk:b=_:=hk;subst hk;first|exact absurd hb (hs.eu go q0)|exact absurd hb (hs.eu gs q0));replace hM:=rz.lt hM;have:=S.size;replace S:=S.trans rz (λk hk h=>by have h:_=_:=h;subst h;first|(exfalso;omega)|(show _<=_;omega)|exact⟨by first|omega|assumption,(S.mem _ hk).1 ((rz.mem _ (ae go)).1 ju)⟩|exact .inl rfl|exact .inr rfl|exact .inr (.inl rfl)|exact .inr (.inr rfl)|exact .inr (.inr (.inl rfl))|exact rfl);have Qi:=yA;clear go;have go:=Qi;clear Qi;refine ad ⟨G,G,λh=>absurd G h,iu (aT ?_)⟩;rw[show iB (own,out) c=(own++[il c],out)from if_pos Jr];exact FX G ⟨Qg,hM,⟨⟨_,go,ho⟩,⟨_,gs,hs⟩,ju,j9,hBo,hBs⟩,S⟩
 ·refine ak G G (ab G G (ak G G ?_));refine a8 G G al1 (Jj _ _) (λr wc hc=>?_);obtain⟨rfl,rfl⟩:=hc;refine bc (v':= .bool (decide (ru c=true))) (by cases ru c<;>rfl) (aM rfl rfl rfl (ad ?_));refine bM G (λc0=>?_) (λc0=>?_)
  ·refine aI ?_;apply nq 2 [0] 2 aA mixed rfl rfl rfl rfl;intro II Qe;have nZ:=Qe M;have:=ae go;replace ju:=(nZ.mem _ this).2 ju;replace go:=nZ.aP go;have:=ae gs;replace j9:=(nZ.mem _ this).2 j9;replace gs:=nZ.aP gs;replace ho:=ho.aE nZ;replace hs:=hs.aE nZ;replace hM:=nZ.lt hM;have:=S.size;replace S:=S.aw nZ;refine aV ah G G G (by first|assumption|exact dE nZ W4) G (Rg.bL (ab G G (Rg.bL (dD (⟨eQ ⟨dQ G W4 a73,trivial⟩,?_⟩)))));have kp:=fq aA II;have Jr:ij c=true\/ru c=true:=by first|exact .inl W4|exact .inr W4
   refine a8 G G aeE (Dz c _ (tI Jr)) (λr wc hc=>?_);obtain⟨rfl,rfl⟩:=hc;refine(fun(kp:eB _ _ _)=>ad ⟨G,G,λ_=>kp,?_⟩) a00;refine dP (A:=RT.int .i64) (hn:=by decide) (M:=M) ah I3 q0 G G hM (gw (by have:=tI Jr;unfold il;split<;>omega)) (.inr ⟨rfl,rfl⟩) (λQf NH lQ s1_3=>?_);have:=ae go;replace ju:=(s1_3.mem _ this).2 ju;replace go:=s1_3.aP go;have:=ae gs;replace j9:=(s1_3.mem _ this).2 j9;replace gs:=s1_3.aP gs;replace ho:=ho.aE s1_3;replace hs:=hs.aE s1_3;replace hM:=s1_3.lt hM;have:=S.size;replace S:=S.aw s1_3;refine(fun(kp:eB _ _ _)=>ad ⟨G,G,λ_=>kp,?_⟩) a00;refine cN (M:=M) (base:=B) ah I3 rfl rfl rfl rfl ho lQ bY a03 a03 (by have:=ae go;omega) (λZU Qg ZV Qh oJ=>?_);have:=ae go;replace ju:=(oJ.mem _ this).2 ju;replace go:=oJ.keep go (λh=>by first|exact ho.eU go h|exact ho.eu go q0 h|(have:=(ho.base _ h).1;omega));have:=ae gs;replace j9:=(oJ.mem _ this).2 j9;replace gs:=oJ.keep gs (λh=>by first|exact ho.eU gs h|exact ho.eu gs q0 h|(have:=(ho.base _ h).1;omega));replace lQ:=lQ.le oJ.le;replace hs:=hs.step oJ (λb h1 h2=>hs.cr ho q0 h1 h2);replace hM:=oJ.lt hM;have:=S.size;replace S:=S.trans oJ (λb hb h=>⟨(ho.base b h).1,(S.mem b hb).1 (ho.mut_ b h)⟩);replace ho:=Qh;refine ad ⟨G,G,λh=>absurd G h,?_⟩;refine cF (M:=Qg) iJ rfl rfl go rfl (a88) ju (λZW yA rz=>?_);change ZW.heap[_]? =some (Obj.cells #[ZU] _ _)at yA
   have:=ae go;replace ju:=(rz.mem _ this).2 ju;have:=ae gs;replace j9:=(rz.mem _ this).2 j9;replace gs:=rz.keep gs a05;replace lQ:=lQ.le rz.le;replace ho:=ho.step rz (λb hb hk=>by have hk:b=_:=hk;subst hk;first|exact absurd hb (ho.eu go q0)|exact absurd hb (ho.eu gs q0));replace hs:=hs.step rz (λb hb hk=>by have hk:b=_:=hk;subst hk;first|exact absurd hb (hs.eu go q0)|exact absurd hb (hs.eu gs q0));replace hM:=rz.lt hM;have:=S.size;replace S:=S.trans rz (λk hk h=>by have h:_=_:=h;subst h;first|(exfalso;omega)|(show _<=_;omega)|exact⟨by first|omega|assumption,(S.mem _ hk).1 ((rz.mem _ (ae go)).1 ju)⟩|exact .inl rfl|exact .inr rfl|exact .inr (.inl rfl)|exact .inr (.inr rfl)|exact .inr (.inr (.inl rfl))|exact rfl);have Qi:=yA;clear go;have go:=Qi;clear Qi;refine ad ⟨G,G,λh=>absurd G h,iu (aT ?_)⟩;rw[show iB (own,out) c=(own++[il c],out)from if_pos Jr];exact FX G ⟨Qg,hM,⟨⟨_,go,ho⟩,⟨_,gs,hs⟩,ju,j9,hBo,hBs⟩,S⟩
  ·refine aR (aI (T.aQ (aV ah G G G W4 G (fW ah G ho G (iX G G G (ad ?_))))));refine bM G (λc2=>?_) (λc2=>?_)
   ·apply nq 2 [0] 2 aA mixed rfl rfl rfl rfl;intro wD3 Xu;have rX:=Xu M;have:=ae go;replace ju:=(rX.mem _ this).2 ju;replace go:=rX.aP go;have:=ae gs;replace j9:=(rX.mem _ this).2 j9;replace gs:=rX.aP gs;replace ho:=ho.aE rX;replace hs:=hs.aE rX;replace hM:=rX.lt hM;have:=S.size;replace S:=S.aw rX;refine aV az G G G (by first|assumption|exact dE rX W4) G (Rg.bL (aV ah G G G (by first|assumption|exact dE rX W4) G (Rg.bL (dD (⟨eQ ⟨dQ G W4 a73,trivial⟩,?_⟩)))));have kp:=fq aA wD3;refine a8 G G al2 (ND (M:=rm M uo) _ (λb hb=>hM b hb.1) (ho.view k3) k3) (λr3 w3 hc=>?_);obtain⟨rfl,s3⟩:=hc;replace s3:=s3.any M;have:=ae go;replace ju:=(s3.mem _ this).2 ju;replace go:=s3.aP go;have:=ae gs;replace j9:=(s3.mem _ this).2 j9;replace gs:=s3.aP gs;replace ho:=ho.aE s3;replace hs:=hs.aE s3;replace hM:=s3.lt hM;have:=S.size;replace S:=S.aw s3;refine(fun(kp:eB _ _ _)=>ad ⟨G,G,λ_=>kp,?_⟩) a00;refine dP (A:=RT.str) (hn:=by decide) (M:=M) az I9 q0 G G hM (j8.2 ⟨G,by have:=iK own;omega⟩) (.inr ⟨rfl,rfl⟩) (λay6 ay7 Be Gw=>?_);have:=ae go;replace ju:=(Gw.mem _ this).2 ju;replace go:=Gw.aP go;have:=ae gs;replace j9:=(Gw.mem _ this).2 j9;replace gs:=Gw.aP gs;replace ho:=ho.aE Gw;replace hs:=hs.aE Gw;replace hM:=Gw.lt hM;have:=S.size;replace S:=S.aw Gw;refine(fun(kp:eB _ _ _)=>ad ⟨G,G,λ_=>kp,?_⟩) a00
    refine cN (M:=M) (base:=B) az I9 rfl rfl rfl rfl hs Be bY a03 a03 (by have:=ae go;omega) (λamC aeU ay8 aeV Gx=>?_);have:=ae go;replace ju:=(Gx.mem _ this).2 ju;replace go:=Gx.keep go (λh=>by first|exact hs.eU go h|exact hs.eu go q0 h|(have:=(hs.base _ h).1;omega));have:=ae gs;replace j9:=(Gx.mem _ this).2 j9;replace gs:=Gx.keep gs (λh=>by first|exact hs.eU gs h|exact hs.eu gs q0 h|(have:=(hs.base _ h).1;omega));replace Be:=Be.le Gx.le;replace ho:=ho.step Gx (λb h1 h2=>ho.cr hs q0 h1 h2);replace hM:=Gx.lt hM;have:=S.size;replace S:=S.trans Gx (λb hb h=>⟨(hs.base b h).1,(S.mem b hb).1 (hs.mut_ b h)⟩);replace hs:=aeV;refine ad ⟨G,G,λh=>absurd G h,?_⟩;refine cF (M:=aeU) qM rfl rfl gs rfl ((by obtain⟨_,_,he,_⟩:=hs.isSlice;rw[he];rfl)) j9 (λamD aeW EH=>?_);change amD.heap[_]? =some (Obj.cells #[amC] _ _)at aeW;have:=ae go;replace ju:=(EH.mem _ this).2 ju;replace go:=EH.keep go a05;have:=ae gs;replace j9:=(EH.mem _ this).2 j9;replace Be:=Be.le EH.le;replace ho:=ho.step EH (λb hb hk=>by have hk:b=_:=hk;subst hk;first|exact absurd hb (ho.eu go q0)|exact absurd hb (ho.eu gs q0));replace hs:=hs.step EH (λb hb hk=>by have hk:b=_:=hk;subst hk;first|exact absurd hb (hs.eu go q0)|exact absurd hb (hs.eu gs q0));replace hM:=EH.lt hM;have:=S.size;replace S:=S.trans EH (λk hk h=>by have h:_=_:=h;subst h;first|(exfalso;omega)|(show _<=_;omega)|exact⟨by first|omega|assumption,(S.mem _ hk).1 ((EH.mem _ (ae gs)).1 j9)⟩|exact .inl rfl|exact .inr rfl|exact .inr (.inl rfl)|exact .inr (.inr rfl)|exact .inr (.inr (.inl rfl))|exact rfl);have gs_:=aeW;clear gs;have gs:=gs_;clear gs_;refine ad ⟨G,G,λh=>absurd G h,iu (aH ?_)⟩;refine cF (M:=aeU) iJ G G go G (G) ju (λQj Gy nv=>?_)
    change Qj.heap[_]? =some (Obj.cells #[.slice none 0 0] _ _)at Gy;have:=ae go;replace ju:=(nv.mem _ this).2 ju;have:=ae gs;replace j9:=(nv.mem _ this).2 j9;replace gs:=nv.keep gs a05;replace Be:=Be.le nv.le;replace ho:=ho.step nv (λb hb hk=>by have hk:b=_:=hk;subst hk;first|exact absurd hb (ho.eu go q0)|exact absurd hb (ho.eu gs q0));replace hs:=hs.step nv (λb hb hk=>by have hk:b=_:=hk;subst hk;first|exact absurd hb (hs.eu go q0)|exact absurd hb (hs.eu gs q0));replace hM:=nv.lt hM;have:=S.size;replace S:=S.trans nv (λk hk h=>by have h:_=_:=h;subst h;first|(exfalso;omega)|(show _<=_;omega)|exact⟨by first|omega|assumption,(S.mem _ hk).1 ((nv.mem _ (ae go)).1 ju)⟩|exact .inl rfl|exact .inr rfl|exact .inr (.inl rfl)|exact .inr (.inr rfl)|exact .inr (.inr (.inl rfl))|exact rfl);have Qi:=Gy;clear go;have go:=Qi;clear Qi;refine ad ?_
    first|refine uN ?_|simp+decide only[tn,lf,if_true,if_false]|skip
    have hnl: ¬(ij c=true\/ru c=true):=by rintro(h|h)<;>exact absurd h W4
    first
    |rw[show iB (own,out) c=([],out++[my own])from(if_neg hnl).trans (if_pos (by show 0<own.length;omega))]
     exact a81
    |rw[show iB (own,out) c=([],out)from(if_neg hnl).trans (if_neg (by show¬0<own.length;omega))]
     exact a81
   ·refine aR (aH ?_);refine cF (M:=M) iJ G G go G (G) ju (λQj Gy nv=>?_);change Qj.heap[_]? =some (Obj.cells #[.slice none 0 0] _ _)at Gy;have:=ae go;replace ju:=(nv.mem _ this).2 ju;have:=ae gs;replace j9:=(nv.mem _ this).2 j9;replace gs:=nv.keep gs a05;replace ho:=ho.step nv (λb hb hk=>by have hk:b=_:=hk;subst hk;first|exact absurd hb (ho.eu go q0)|exact absurd hb (ho.eu gs q0));replace hs:=hs.step nv (λb hb hk=>by have hk:b=_:=hk;subst hk;first|exact absurd hb (hs.eu go q0)|exact absurd hb (hs.eu gs q0));replace hM:=nv.lt hM;have:=S.size;replace S:=S.trans nv (λk hk h=>by have h:_=_:=h;subst h;first|(exfalso;omega)|(show _<=_;omega)|exact⟨by first|omega|assumption,(S.mem _ hk).1 ((nv.mem _ (ae go)).1 ju)⟩|exact .inl rfl|exact .inr rfl|exact .inr (.inl rfl)|exact .inr (.inr rfl)|exact .inr (.inr (.inl rfl))|exact rfl);have Qi:=Gy;clear go;have go:=Qi;clear Qi;refine ad ?_
    first|refine uN ?_|simp+decide only[tn,lf,if_true,if_false]|skip
    have hnl: ¬(ij c=true\/ru c=true):=by rintro(h|h)<;>exact absurd h W4
    first
    |rw[show iB (own,out) c=([],out++[my own])from(if_neg hnl).trans (if_pos (by show 0<own.length;omega))]
     exact a81
    |rw[show iB (own,out) c=([],out)from(if_neg hnl).trans (if_neg (by show¬0<own.length;omega))]
     exact a81
theorem qj (l:List Int):∀p,(l.foldl iB p).1.length<=p.1.length+l.length/\(l.foldl iB p).2.length<=p.2.length+l.length:=by
 induction l with
 |nil=>intro p;simp
 |cons c l ih=>
  intro p;have:=ih (iB p c)
  have h1:(iB p c).1.length<=p.1.length+1/\(iB p c).2.length<=p.2.length+1:=by
   unfold iB
   split
   ·simp
   ·split<;>simp
  simp only[List.foldl_cons,dG];omega
def words (l:List UInt8):List (List UInt8):=((gE l++[32]).foldl iB ([],[])).2
theorem n0 (l:List UInt8):(words l).length<=l.length+1:=by
 have h:=(qj (gE l++[32]) ([],[])).2;have h2:=kd l;rw[aY]at h;have h3:([]:List (List UInt8)).length=0:=rfl;have h4: [(32:Int)].length=1:=rfl;unfold words;simp only[h3,h4]at h;omega
theorem Bf {M:aJ} {l:List UInt8} (w0:World) (hM:Lt M w0) (hl:l.length<=900000):
  Spec Tryz.prog 183 #[.string ⟨l.toArray⟩] w0 (λv w=>(RT.str.sl).V M w (words l) v/\Step M w0 M w aA):=by
 have ir:=hM;refine bF (args:=[_]) (fn:=Tryz.f183) Tryz.func183 G (n:=23) Tryz.ntmps183 ?_;have S:Step M w0 M w0 aA:=bz;refine T.aQ (Rg.bA G G (T.aQ ?_));refine eA M qM G (λeW zZ Qk Ql kn lz=>?_);obtain⟨lR,kJ⟩:∃M',M'=ins M eW:=⟨_,rfl⟩;rw[<-kJ]at lz;have iP:lR eW:=by rw[kJ];exact .inl G
 change zZ.heap[eW]? =some (.cells #[.slice none 0 0] _ _)at kn;replace hM:=lz.lt hM;have:=S.size;replace S:=S.aw lz;refine ad (T.aQ ?_);refine eA lR iJ G (λiY ZX amE amF Gz Bg=>?_);obtain⟨Qm,Bh⟩:∃M',M'=ins lR iY:=⟨_,rfl⟩;rw[<-Bh]at Bg;have Bi:Qm iY:=by rw[Bh];exact .inl G
 change ZX.heap[iY]? =some (.cells #[.slice none 0 0] _ _)at Gz;have:=ae kn;replace iP:=(Bg.mem _ this).2 iP;replace kn:=Bg.aP kn;replace hM:=Bg.lt hM;have:=S.size;replace S:=S.aw Bg;refine ad (T.aQ (l2 (xs:=[]) (ys:=[.tmp 4,.tmp 3]) G G G (Rg.bA G G (aI (T.aQ (ab G G ?_))))));refine a8 G G al3 (Jq _ hM k3) (λv4 w4 hc=>?_);obtain⟨CP,s4⟩:=hc;have:=ae kn;replace iP:=(s4.mem _ this).2 iP;replace kn:=s4.aP kn;have:=ae Gz;replace Bi:=(s4.mem _ this).2 Bi;replace Gz:=s4.aP Gz;replace hM:=s4.lt hM;have:=S.size;replace S:=S.aw s4;refine bK ah G CP G (ab G G (ad (aS ?_)));refine dg (σ:=Nat) (λk=>[(3,.pointer (some ⟨eW,0,none⟩)),(5,.func (.func 224) #[] #[.pointer (some ⟨iY,0,none⟩),.pointer (some ⟨eW,0,none⟩)]),(10,v4),(11,.int .i64 ((gE l).length:Int)),(12,.int .i64 (k:Int))]) (λk w=>∃M',Lt M' w/\Step M w0 M' w aA/\Qd M' w w0.heap.size iY eW (((gE l).take k).foldl iB ([],[]))/\((RT.int .i64).sl).V M' w (gE l) v4/\k<=(gE l).length) (λk=>(gE l).length-k) 0 a19 ?_ ?_
 ·exact⟨_,hM,S,⟨⟨_,Gz,dh _ _ _ _ _⟩,⟨_,kn,dh _ _ _ _ _⟩,Bi,iP,by omega,by omega⟩,CP,bC _⟩
 ·rintro k w ⟨M1,hM,S,ht,CP,hk⟩;refine T.aQ (ch G G G (ad (aI ?_)));refine bM G (λc5=>?_) (λc5=>?_)
  ·refine aR (aI (aS (T.aQ ?_)));refine bX ah I3 G G G CP bY k3 (λu6 c OT GA=>?_);refine bV aq G G GA bY (λin6=>?_);refine Rg.bA G G (aH (ab G G (ab G G ?_)));have pH:=kd l;have Uo:=qj ((gE l).take k) ([],[]);rw[aU]at Uo;refine CB (first:=[]) (captured:=[.pointer (some ⟨iY,0,none⟩),.pointer (some ⟨eW,0,none⟩)]) rfl rfl rfl aeD (Bd (B:=w0.heap.size) _ hM c ht (by simp at Uo;omega)) (λr7 w7 hc=>?_);obtain⟨M2,IK,Bj,s7⟩:=hc;have tk:(gE l).take (k+1)=(gE l).take k++[c]:=by rw[bB];simp only[an]at OT;rw[OT];rfl
   refine ad (aH (bG G G G k3 (ab G G (ad ?_))));refine⟨G,k+1,a19,?_,?_⟩
   ·exact⟨M2,IK,S.ot s7 (aN _),by rw[tk,o0];exact Bj,CP.le s7.le,by omega⟩
   ·omega
  ·refine cO (T.aQ (ab G G ?_));have pH:=kd l;have Uo:=qj ((gE l).take k) ([],[]);rw[aU]at Uo;refine CB (first:=[]) (captured:=[.pointer (some ⟨iY,0,none⟩),.pointer (some ⟨eW,0,none⟩)]) rfl rfl rfl aeD (Bd (B:=w0.heap.size) _ hM 32 ht (by simp at Uo;omega)) (λr9 w9 hc=>?_);obtain⟨M2,IK,Bj,s9⟩:=hc;have e9:iB (((gE l).take k).foldl iB ([],[])) 32=(gE l++[32]).foldl iB ([],[]):=by rw[o0,aL k3];rfl
   rw[e9]at Bj;obtain⟨_,⟨us,gs,hs⟩,_⟩:=Bj;replace S:=S.ot s9 (aN _);refine ad (T.aQ (aV az G G G gs G (Rg.bA G G (aT ?_))));exact aX G G ⟨gT ir S hs (by have:=n0 l;omega),S.back⟩
theorem Qn {p:List Int×List (List UInt8)} {c:Int} (h:Ar c=true):iB p c=(p.1++[il c],p.2):=if_pos (by simpa[Ar]using h)
theorem uE {p:List Int×List (List UInt8)} {c:Int} (h:Ar c=false):iB p c=if 0<p.1.length then([],p.2++[my p.1])else([],p.2):=if_neg (by simpa[Ar]using h)
def OU (sg:List Int) (i:Nat) (ws:List (List UInt8)):Prop:=(i<=sg.length/\(sg.take i).foldl iB ([],[])=([],ws))\/(i=sg.length+1/\((sg++[32]).foldl iB ([],[])).2=ws)
theorem Qo {c:Int} (h:Ar c=true):0<=c/\c<=1114111:=tI (by simpa[Ar]using h)
theorem aeX:Ar 32=false:=by decide
theorem yB {sg:List Int} {i:Nat} {c:Int} (h:sg[i]? =some c) (p:List Int×List (List UInt8)):(sg.take (i+1)).foldl iB p=iB ((sg.take i).foldl iB p) c:=by
 rw[bB,h,bU,o0];rfl
theorem OU.skip {sg:List Int} {i:Nat} {ws:List (List UInt8)} {c:Int} (h:OU sg i ws) (hc:sg[i]? =some c) (hi:Ar c=false):OU sg (i+1) ws:=by
 have eK:=(aj.1 hc).1;rcases h with⟨_,h⟩|⟨h,_⟩
 ·exact .inl ⟨eK,by rw[yB hc,h,uE hi];rfl⟩
 ·omega
theorem OU.word {sg:List Int} {j:Nat} {own:List Int} {ws:List (List UInt8)} (h:(sg.take j).foldl iB ([],[])=(own,ws)) (ho:0<own.length) (hj:j<=sg.length) (hn:∀c,sg[j]? =some c->Ar c=false):OU sg (j+1) (ws++[my own]):=by
 rcases gH hj with e|eK
 ·refine .inr ⟨by omega,?_⟩;rw[e,mB]at h;rw[o0,h];show(iB (own,ws) 32).2=_;rw[uE aeX,if_pos ho]
 ·have hc:sg[j]? =some sg[j]:=al eK;exact .inl ⟨eK,by rw[yB hc,h,uE (hn _ hc),if_pos ho]⟩
theorem OU.done {sg:List Int} {i:Nat} {ws:List (List UInt8)} (h:OU sg i ws) (hi:sg.length<=i):((sg++[32]).foldl iB ([],[])).2=ws:=by
 rcases h with⟨h1,h⟩|⟨_,h⟩
 ·rw[aL k3]at h;rw[o0,h];show(iB ([],ws) 32).2=_;rw[uE aeX];rfl
 ·exact h
theorem OU.len {sg:List Int} {i:Nat} {ws:List (List UInt8)} (h:OU sg i ws):ws.length<=sg.length+1:=by
 rcases h with⟨_,h⟩|⟨_,h⟩
 ·have:=(qj (sg.take i) ([],[])).2;rw[h,aU]at this;simp only[lM]at this;have e:(([]:List Int),([]:List (List UInt8))).2.length=0:=rfl;omega
 ·have:=(qj (sg++[32]) ([],[])).2;rw[h,aY]at this;have e:(([]:List Int),([]:List (List UInt8))).2.length=0:=rfl;have e2: [(32:Int)].length=1:=rfl;omega
theorem jm {sg:List Int} {j:Nat} {own:List Int} {ws:List (List UInt8)} (h:(sg.take j).foldl iB ([],[])=(own,ws)):own.length<=sg.length/\ws.length<=sg.length:=by
 have:=qj (sg.take j) ([],[]);rw[h,aU]at this;simp only[lM]at this;have e:(([]:List Int),([]:List (List UInt8))).1.length=0:=rfl;have e2:(([]:List Int),([]:List (List UInt8))).2.length=0:=rfl;omega
theorem zw {M:aJ} {l:List UInt8} (w0:World) (hM:Lt M w0) (hl:l.length<=900000):
  Spec Tryz.prog 201 #[.string ⟨l.toArray⟩] w0 (λv w=>(RT.str.sl).V M w (words l) v/\Step M w0 M w aA):=by
 have ir:=hM;have pH:=kd l;refine bF (args:=[_]) (fn:=Tryz.f201) Tryz.func201 G (n:=50) Tryz.ntmps201 ?_;have S:Step M w0 M w0 aA:=bz;refine T.aQ (Rg.bA G G (T.aQ (ab G G ?_)));refine a8 G G al7 (Gu _ hM k3) (λv1 w1 hc=>?_);obtain⟨hv,s1⟩:=hc;replace hM:=s1.lt hM;have:=S.size;replace S:=S.aw s1;refine Rg.bA G G (T.aQ (Rg.bA G G (aI (T.aQ (Rg.bA G G (aS ?_))))));refine dg (σ:=Nat×Value) (λq=>[(3,v1),(4,q.2),(5,.int .i64 (q.1:Int))]) (λq w=>∃M' ws,Lt M' w/\Step M w0 M' w aA/\Own RT.str 9 M' w w0.heap.size q.2 ws/\((RT.int .i64).sl).V M' w (gE l) v1/\OU (gE l) q.1 ws) (λq=>(gE l).length+1-q.1) (0,.slice none 0 0) a06 ?_ ?_
 ·exact⟨M,[],hM,S,dh _ _ _ _ _,hv,.inl ⟨bC _,G⟩⟩
 ·rintro⟨i,u4⟩ w ⟨M1,ws,hM,S,tf,hv,hwa⟩;dsimp only at tf hwa ⊢;refine aI (T.aQ (ab G G (ab G G (bK ah G hv G (ch G G G (ad ?_))))));refine bM G (λc4=>?_) (λc4=>?_)
  ·refine aR (aI (aS (T.aQ (ab G G (ab G G ?_)))));refine bX ah I3 G G G hv bY k3 (λVd c Xv huc=>?_);refine bV aq G G huc bY (λinc=>?_);rw[an]at Xv;refine a8 G G aeF (Gr c _) (λr wc hc=>?_);obtain⟨rfl,rfl⟩:=hc;refine bc (v':= .bool (decide (Ar c=true))) (by cases Ar c<;>rfl) (Rg.bA rfl rfl (aI (T.aQ (ab rfl rfl (kU rfl rfl (bc (v':= .bool (decide (Ar c=false))) (by cases Ar c<;>rfl) (ad ?_)))))));refine bM G (λc7=>?_) (λc7=>?_)
   ·refine cO (aH (ab G G (bG G G G k3 (Rg.bA G G ?_))));refine⟨G,(i+1,u4),a06,?_,?_⟩
    ·exact⟨M1,ws,hM,S,tf,hv,hwa.skip Xv W4⟩
    ·dsimp only;omega
   ·refine aR (T.aQ (Rg.bA G G (aI (aS ?_))));refine dg (σ:=Nat×List Int×Value) (λq=>[(3,v1),(4,u4),(5,.int .i64 (q.1:Int)),(7,q.2.2)]) (λq w=>∃M',Lt M' w/\Step M w0 M' w aA/\Own RT.str 9 M' w w0.heap.size u4 ws/\Own (RT.int .i64) 3 M' w w0.heap.size q.2.2 q.2.1/\((RT.int .i64).sl).V M' w (gE l) v1/\((gE l).take q.1).foldl iB ([],[])=(q.2.1,ws)/\i<=q.1/\q.1<=(gE l).length/\(i<q.1->0<q.2.1.length)) (λq=>(gE l).length-q.1) (i,[],.slice none 0 0) Y7 ?_ ?_
    ·have amG:((gE l).take i).foldl iB ([],[])=([],ws):=by
      rcases hwa with⟨_,h⟩|⟨h,_⟩
      ·exact h
      ·omega
     exact⟨M1,hM,S,tf,dh _ _ _ _ _,hv,amG,aN _,by dsimp only;omega,λh=>absurd h (kQ _)⟩
    ·rintro⟨j,own,u7⟩ w ⟨M2,hM,S,tf,oK,hv,hf,hj1,AP,yp⟩;dsimp only at oK hf hj1 AP yp ⊢;refine aI (T.aQ (ab G G (ab G G (bK ah G hv G (ch G G G (ab G G ?_))))));refine aW (g:=27) G (λamH=>?_) (λamH=>?_)
     ·refine ak G G (ab G G (ak G G (ab G G (ak G G ?_))));refine bX ah I3 G G G hv bY k3 (λaza d px hud=>?_);refine ak G G ?_;refine bV aq G G hud bY (λind=>?_);rw[an]at px;refine ak G G ?_;refine a8 G G aeF (Gr d _) (λr wc hc=>?_);obtain⟨rfl,rfl⟩:=hc;refine bc (v':= .bool (decide (Ar d=true))) (by cases Ar d<;>rfl) (bm rfl rfl rfl (ad ?_));refine bM G (λc9=>?_) (λc9=>?_)
      ·refine aR (aS (T.aQ (ab G G (ab G G (ab G G ?_)))));refine bX ah I3 G G G hv bY k3 (λae0 e kR hue=>?_);refine bV aq G G hue bY (λom=>?_);rw[an]at kR;have ZY:Ar e=true:=by rw[px]at kR;cases kR;assumption
       refine a8 G G al8 (Jn e _ (Qo ZY)) (λr wc hc=>?_);obtain⟨rfl,rfl⟩:=hc;refine dP (A:=RT.int .i64) (hn:=by decide) (M:=M2) ah I3 q0 G G hM (gw (by have:=Qo ZY;unfold il;split<;>omega)) (.inr ⟨rfl,rfl⟩) (λaud aue Js GB=>?_);replace hv:=hv.le GB.le;replace tf:=tf.aE GB;replace oK:=oK.aE GB;replace hM:=GB.lt hM;have:=S.size;replace S:=S.aw GB;refine cN (M:=M2) (base:=w0.heap.size) ah I3 G G G G oK Js bY ah6 ah6 (S.size) (λXw ae1 ae2 ZZ rY=>?_);replace hv:=hv.le rY.le;replace Js:=Js.le rY.le;replace tf:=tf.step rY (λb h1 h2=>tf.cr oK q0 h1 h2);replace hM:=rY.lt hM;have:=S.size;replace S:=S.cC rY oK (aN _);replace oK:=ZZ;refine Rg.bA G G (aH (ab G G (bG G G G k3 (Rg.bA G G ?_))));refine⟨G,(j+1,own++[il e],Xw),Y7,?_,?_⟩
       ·exact⟨ae1,hM,S,tf,oK,hv,by rw[yB kR,hf,Qn ZY],by dsimp only;omega,by dsimp only;omega,λ_=>by simp⟩
       ·dsimp only;omega
      ·refine cO (aH (ab G G (ab G G ?_)));refine a8 G G aeG (Ba (M:=rm M2 u7) _ (λb hb=>hM b hb.1) (oK.view (by have:=jm hf;omega)) (by have:=jm hf;omega)) (λr12 w12 Z0=>?_);obtain⟨rfl,CQ⟩:=Z0;replace CQ:=CQ.any M2;replace hv:=hv.le CQ.le;replace tf:=tf.aE CQ;replace oK:=oK.aE CQ;replace hM:=CQ.lt hM;have:=S.size;replace S:=S.aw CQ;refine dP (A:=RT.str) (hn:=by decide) (M:=M2) az I9 q0 G G hM (j8.2 ⟨G,by have:=iK own;have:=jm hf;omega⟩) (.inr ⟨rfl,rfl⟩) (λae3 ae4 wx tJ=>?_);replace hv:=hv.le tJ.le;replace tf:=tf.aE tJ;replace oK:=oK.aE tJ;replace hM:=tJ.lt hM;have:=S.size;replace S:=S.aw tJ;refine cN (M:=M2) (base:=w0.heap.size) az I9 G G G G tf wx bY ah6 ah6 (S.size) (λBk tK Qp wy gj=>?_);replace hv:=hv.le gj.le;replace wx:=wx.le gj.le;replace oK:=oK.step gj (λb h1 h2=>oK.cr tf q0 h1 h2);replace hM:=gj.lt hM;have:=S.size;replace S:=S.cC gj tf (aN _);replace tf:=wy;refine Rg.bA G G (aH (ab G G (bG G G G k3 (Rg.bA G G ?_))))
       have yp:0<own.length:=by
        rcases gH hj1 with e|h
        ·exfalso;subst e
         first|omega|(rw[Xv]at px;cases px;exact c9 (by cases hq:Ar c with|true=>rfl|false=>exact absurd hq W4))
        ·exact yp h
       have Z1:∀c,(gE l)[j]? =some c->Ar c=false:=λc hc=>by
        first|(rw[cE k3]at hc;cases hc)|(rw[px]at hc;cases hc;exact dO.2 c9)
       refine⟨G,(j+1,Bk),a06,?_,?_⟩
       ·exact⟨tK,_,hM,S,tf,hv,OU.word hf yp AP Z1⟩
       ·dsimp only;omega
     ·refine ao G G G G (ao G G G G (ao G G G G (ao G G G G (ao G G G G (aM G G G (ad (jD G (cO (aH (ab G G (ab G G ?_)))))))))));refine a8 G G aeG (Ba (M:=rm M2 u7) _ (λb hb=>hM b hb.1) (oK.view (by have:=jm hf;omega)) (by have:=jm hf;omega)) (λr12 w12 Z0=>?_);obtain⟨rfl,CQ⟩:=Z0;replace CQ:=CQ.any M2;replace hv:=hv.le CQ.le;replace tf:=tf.aE CQ;replace oK:=oK.aE CQ;replace hM:=CQ.lt hM;have:=S.size;replace S:=S.aw CQ;refine dP (A:=RT.str) (hn:=by decide) (M:=M2) az I9 q0 G G hM (j8.2 ⟨G,by have:=iK own;have:=jm hf;omega⟩) (.inr ⟨rfl,rfl⟩) (λae3 ae4 wx tJ=>?_);replace hv:=hv.le tJ.le;replace tf:=tf.aE tJ;replace oK:=oK.aE tJ;replace hM:=tJ.lt hM;have:=S.size;replace S:=S.aw tJ;refine cN (M:=M2) (base:=w0.heap.size) az I9 G G G G tf wx bY ah6 ah6 (S.size) (λBk tK Qp wy gj=>?_);replace hv:=hv.le gj.le;replace wx:=wx.le gj.le;replace oK:=oK.step gj (λb h1 h2=>oK.cr tf q0 h1 h2);replace hM:=gj.lt hM;have:=S.size;replace S:=S.cC gj tf (aN _);replace tf:=wy;refine Rg.bA G G (aH (ab G G (bG G G G k3 (Rg.bA G G ?_))))
      have yp:0<own.length:=by
       rcases gH hj1 with e|h
       ·exfalso;subst e
        first|omega|(rw[Xv]at px;cases px;exact c9 (by cases hq:Ar c with|true=>rfl|false=>exact absurd hq W4))
       ·exact yp h
      have Z1:∀c,(gE l)[j]? =some c->Ar c=false:=λc hc=>by
       first|(rw[cE k3]at hc;cases hc)|(rw[px]at hc;cases hc;exact dO.2 c9)
      refine⟨G,(j+1,Bk),a06,?_,?_⟩
      ·exact⟨tK,_,hM,S,tf,hv,OU.word hf yp AP Z1⟩
      ·dsimp only;omega
  ·refine cO (T.aQ (ab G G (Rg.bA G G (aT ?_))));have e:=hwa.done k3;have e2:words l=ws:=e;rw[e2];exact aX G G ⟨tf.close ir S (by have:=hwa.len;omega),S.back⟩
def oL:Nat->List (List UInt8)->Int
 |_,[]=>0
 |i,w::ws=>if 30<w.length then 3 else if 500<=i then 7 else oL (i+1) ws
theorem LK {i k:Nat} {ws:List (List UInt8)} {x:List UInt8} (h:ws[k]? =some x):oL i (ws.drop k)=if 30<x.length then 3 else if 500<=i then 7 else oL (i+1) (ws.drop (k+1)):=by
 have eK:=(aj.1 h).1;rw[dV eK,(aj.1 h).2];rfl
theorem fp {M:aJ} {w:World} {x:List UInt8} {v:Value} (h:RT.str.V M w x v):v= .string ⟨x.toArray⟩:=(j8.1 h).1
theorem NI {M:aJ} {l:List UInt8} (w0:World) (hM:Lt M w0) (hl:l.length<=900000):
  Spec Tryz.prog 128 #[.string ⟨l.toArray⟩] w0 (λv w=>(∃u,v= .tuple #[u,.int .i64 (oL 0 (words l))]/\(oL 0 (words l)=0->∃a cap,u= .slice a (words l).length cap))/\Step M w0 M w aA):=by
 have ir:=hM;refine bF (args:=[_]) (fn:=Tryz.f128) Tryz.func128 G (n:=30) Tryz.ntmps128 ?_;have S:Step M w0 M w0 aA:=bz;refine T.aQ (aB G G (Rg.bA G G (T.aQ (Rg.bA G G (aI (T.aQ ?_))))));refine ab G G ?_;refine a8 G G aeB (Bf _ hM hl) (λv1 w1 hc=>?_);obtain⟨hv,s1⟩:=hc;replace hM:=s1.lt hM;have:=S.size;replace S:=S.aw s1;refine bK az G hv G (ab G G (ad (aS ?_)));refine dg (σ:=Nat×Value) (λq=>[(8,v1),(4,q.2),(9,.int .i64 ((words l).length:Int)),(10,.int .i64 (q.1:Int))]) (λq w=>(∃M' xs,Lt M' w/\Step M w0 M' w aA/\Own (RT.pair RT.str (RT.int .i64)) 266 M' w w0.heap.size q.2 xs/\xs.length=q.1/\(RT.str.sl).V M' w (words l) v1)/\oL 0 (words l)=oL q.1 ((words l).drop q.1)/\q.1<=(words l).length/\q.1<=500) (λq=>(words l).length-q.1) (0,.slice none 0 0) Y7 ?_ ?_
 ·exact⟨⟨M,[],hM,S,dh _ _ _ _ _,G,hv⟩,G,bC _,bC _⟩
 ·rintro⟨i,u⟩ w ⟨⟨M1,xs,hM,S,ho,qb,hv⟩,Np,hi,hi5⟩;dsimp only at ho qb Np hi hi5 ⊢;refine T.aQ (ch G G G (ad (aI ?_)));refine bM G (λc3=>?_) (λc3=>?_)
  ·refine aR (aI (aS (T.aQ (ab G G ?_))));refine bX az I9 G G G hv bY k3 (λae5 x LL IL=>?_);refine bE aG G G G G G IL bY (λvx uV=>?_);rw[an]at LL;obtain rfl:=fp uV;have ht:=LK (i:=i) LL;refine aB G G (Rg.bA G G (aI (aS (T.aQ (ab G G (Rg.pF aG G G (bc (v':= .int .i64 (x.length:Int)) a84 (iX G G G (aB G G ?_)))))))));refine ad ?_;refine bM G (λc5=>?_) (λc5=>?_)
   ·refine T.aQ (aB G G (Rg.bA G G (aT ?_)));rw[Np,ht,if_pos k3];exact aa7
   ·refine T.aQ (ab G G (sJ G G G (Rg.bA G G ?_)));refine bM G (λc7=>?_) (λc7=>?_)
    ·refine T.aQ (aB G G (Rg.bA G G (aT ?_)));rw[Np,ht,if_neg k3,if_pos k3];exact aa7
    ·refine aR (aH (ab rfl rfl (ab rfl rfl (ab rfl rfl (ie (places:=[(0,1),(1,1)]) Tryz.underlying266 NA aez rfl ⟨_,_,rfl,rfl,_,_,rfl,rfl,rfl⟩ (out:=[_,_]) ⟨0,[_],rfl,rfl,by simp[Value.cells],1,[_],rfl,rfl,by simp[Value.cells],rfl⟩ ?_)))));refine dP (A:=(RT.pair RT.str (RT.int .i64))) (hn:=by decide) (M:=M1) Tryz.underlying212 NA q0 G G hM (fE uV (gw (x:=(i:Int)) k3) G G G G) (.inl G) (λP2 U8 Qq mj=>?_);replace hv:=hv.le mj.le;replace uV:=uV.le mj.le;replace ho:=ho.aE mj;replace hM:=mj.lt hM;have:=S.size;replace S:=S.aw mj;refine cN (M:=M1) (base:=w0.heap.size) Tryz.underlying212 NA rfl rfl rfl rfl ho Qq bY a03 a03 (S.size) (λamJ amK ae6 ae7 tL=>?_);replace hv:=hv.le tL.le;replace uV:=uV.le tL.le;replace Qq:=Qq.le tL.le;replace hM:=tL.lt hM;have:=S.size;replace S:=S.cC tL ho (aN _);replace ho:=ae7;refine Rg.bA G G (aH (bG G G G k3 (ab G G (ad ?_))));refine⟨G,(i+1,amJ),Y7,?_,?_⟩
     ·exact⟨⟨amK,_,hM,S,ho,by simp[qb],hv⟩,by rw[Np,ht,if_neg k3,if_neg k3],by dsimp only;omega,by dsimp only;omega⟩
     ·dsimp only;omega
  ·refine cO (T.aQ (ab G G (aB G G (Rg.bA G G (aT ?_)))));have e:oL 0 (words l)=0:=by rw[Np,gL k3];rfl
   rw[e];obtain⟨a,cap,he,_⟩:=ho.isSlice;exact fA rfl rfl rfl ⟨⟨u,rfl,λ_=>⟨a,cap,by rw[he,qb];congr 1;omega⟩⟩,S.back⟩
theorem Jt {M:aJ} {l:List UInt8} (w0:World) (hM:Lt M w0) (hl:l.length<=900000):
  Spec Tryz.prog 148 #[.string ⟨l.toArray⟩] w0 (λv w=>(∃u,v= .tuple #[u,.int .i64 (oL 0 (words l))]/\(oL 0 (words l)=0->∃a cap,u= .slice a (words l).length cap))/\Step M w0 M w aA):=by
 have ir:=hM;refine bF (args:=[_]) (fn:=Tryz.f148) Tryz.func148 G (n:=33) Tryz.ntmps148 ?_;have S:Step M w0 M w0 aA:=bz;refine T.aQ (aB G G (Rg.bA G G (T.aQ (ab G G ?_))));refine a8 G G aeC (zw _ hM hl) (λv1 w1 hc=>?_);obtain⟨hv,s1⟩:=hc;replace hM:=s1.lt hM;have:=S.size;replace S:=S.aw s1;refine Rg.bA G G (T.aQ (Rg.bA G G (aI (T.aQ (Rg.bA G G (aS ?_))))));refine dg (σ:=Nat×Value) (λq=>[(4,v1),(5,q.2),(6,.int .i64 (q.1:Int))]) (λq w=>(∃M' xs,Lt M' w/\Step M w0 M' w aA/\Own (RT.pair RT.str (RT.int .i64)) 266 M' w w0.heap.size q.2 xs/\xs.length=q.1/\(RT.str.sl).V M' w (words l) v1)/\oL 0 (words l)=oL q.1 ((words l).drop q.1)/\q.1<=(words l).length/\q.1<=500) (λq=>(words l).length-q.1) (0,.slice none 0 0) a06 ?_ ?_
 ·exact⟨⟨M,[],hM,S,dh _ _ _ _ _,G,hv⟩,G,bC _,bC _⟩
 ·rintro⟨i,u⟩ w ⟨⟨M1,xs,hM,S,ho,qb,hv⟩,Np,hi,hi5⟩;dsimp only at ho qb Np hi hi5 ⊢;refine aI (T.aQ (ab G G (ab G G (bK az G hv G (ch G G G (ad ?_))))));refine bM G (λc4=>?_) (λc4=>?_)
  ·refine aR (aI (aS (aI (T.aQ (ab G G (ab G G ?_))))));refine bX az I9 G G G hv bY k3 (λVd x LL IL=>?_);refine bE aG G G G G G IL bY (λvx uV=>?_);rw[an]at LL;obtain rfl:=fp uV;have ht:=LK (i:=i) LL;refine Rg.pF aG G G (bc (v':= .int .i64 (x.length:Int)) a84 (iX G G G (ad ?_)));refine bM G (λc6=>?_) (λc6=>?_)
   ·refine T.aQ (aB G G (Rg.bA G G (aT ?_)));rw[Np,ht,if_pos k3];exact aa7
   ·refine aR (aI (T.aQ (ab G G (eP G G G (ad ?_)))));refine bM G (λc8=>?_) (λc8=>?_)
    ·refine T.aQ (aB G G (Rg.bA G G (aT ?_)));rw[Np,ht,if_neg k3,if_pos k3];exact aa7
    ·refine aR (aH (ab G G (ab G G (ab G G ?_))));refine bX az I9 G G G hv bY k3 (λae0 y GC huy=>?_);refine bE aG G G G G G huy bY (λvy Xx=>?_);rw[an]at GC;obtain rfl:=fp Xx;obtain rfl:x=y:=by rw[LL]at GC;exact ar GC
     refine ab rfl rfl (ie (places:=[(0,1),(1,1)]) Tryz.underlying266 NA aez rfl ⟨_,_,rfl,rfl,_,_,rfl,rfl,rfl⟩ (out:=[_,_]) ⟨0,[_],rfl,rfl,by simp[Value.cells],1,[_],rfl,rfl,by simp[Value.cells],rfl⟩ ?_);refine dP (A:=(RT.pair RT.str (RT.int .i64))) (hn:=by decide) (M:=M1) Tryz.underlying212 NA q0 G G hM (fE Xx (gw (x:=(i:Int)) k3) G G G G) (.inl G) (λXw ae2 Ju rY=>?_);replace hv:=hv.le rY.le;replace uV:=uV.le rY.le;replace Xx:=Xx.le rY.le;replace ho:=ho.aE rY;replace hM:=rY.lt hM;have:=S.size;replace S:=S.aw rY;refine cN (M:=M1) (base:=w0.heap.size) Tryz.underlying212 NA rfl rfl rfl rfl ho Ju bY a03 a03 (S.size) (λae8 ae9 LM Z2 ja=>?_);replace hv:=hv.le ja.le;replace uV:=uV.le ja.le;replace Xx:=Xx.le ja.le;replace Ju:=Ju.le ja.le;replace hM:=ja.lt hM;have:=S.size;replace S:=S.cC ja ho (aN _);replace ho:=Z2;refine Rg.bA G G (aH (ab G G (bG G G G k3 (Rg.bA G G ?_))));refine⟨G,(i+1,ae8),a06,?_,?_⟩
     ·exact⟨⟨ae9,_,hM,S,ho,by simp[qb],hv⟩,by rw[Np,ht,if_neg k3,if_neg k3],by dsimp only;omega,by dsimp only;omega⟩
     ·dsimp only;omega
  ·refine cO (T.aQ (ab G G (aB G G (Rg.bA G G (aT ?_)))));have e:oL 0 (words l)=0:=by rw[Np,gL k3];rfl
   rw[e];obtain⟨a,cap,he,_⟩:=ho.isSlice;exact fA rfl rfl rfl ⟨⟨u,rfl,λ_=>⟨a,cap,by rw[he,qb];congr 1;omega⟩⟩,S.back⟩
abbrev Fd:=List UInt8×List UInt8
abbrev Dc:=Int×List Fd
abbrev En:=Dc×Int
abbrev RT.fd:RT Fd:=RT.pair RT.str RT.str
abbrev RT.dc:RT Dc:=RT.pair (RT.int .i64) (RT.fd.sl)
abbrev RT.en:RT En:=RT.pair RT.dc (RT.int .i64)
theorem Qr:Part RT.fd RT.str (λp=>p.1) 0:=o7 _ _
theorem fd1:Part RT.fd RT.str (λp=>p.2) 1:=jS _ _
theorem dc0:Part RT.dc (RT.int .i64) (λp=>p.1) 0:=o7 _ _
theorem EI:Part RT.dc (RT.fd.sl) (λp=>p.2) 1:=jS _ _
theorem Ve:Part RT.en RT.dc (λp=>p.1) 0:=o7 _ _
theorem en1:Part RT.en (RT.int .i64) (λp=>p.2) 2:=jS _ _
theorem Qs {M:aJ} {w:World} {p:Dc} {v:Value} (h:RT.dc.V M w p v):∃u,v= .agg #[.int .i64 p.1,u]:=by
 obtain⟨vs,⟨va,vb,rfl,⟨rfl,_⟩,hb⟩,rfl⟩:=h;have:=(RT.fd.sl q0).len hb
 match vb,this with
 |[u],_=>exact⟨u,rfl⟩
theorem Xy {M:aJ} {w:World} {p:Dc} {u:Value} {s:Int} (h:RT.dc.V M w p (.agg #[.int .i64 p.1,u])) (hs: -9223372036854775808<=s/\s<=9223372036854775807):RT.en.V M w (p,s) (.agg [.int .i64 p.1,u,.int .i64 s].toArray):=by
 obtain⟨vs,h1,h2⟩:=h
 have h3:vs=[.int .i64 p.1,u]:=by
  have:Value.agg #[.int .i64 p.1,u]= .agg vs.toArray:=h2;injection this with this
  simpa using(congrArg Array.toList this).symm
 subst h3;exact⟨_,⟨[.int .i64 p.1,u],[.int .i64 s],G,h1,G,hs.1,hs.2⟩,G⟩
theorem Own.Xz {α:Type} (A:RT α) (e:TypeId) (base:Nat) {M:aJ} {w:World} (h:Lt M w):Own A e M w base (.slice none 0 0) []:=dh _ _ _ _ _
section
variable {P:Program} {r:Option Nat} {n:Nat} {L:Sl} {ds:List Deferred} {w:World} {K:Kt} {ops:Array Oper} {rest:List Oper} {d:Nat} {x:Operand} {ty:TypeId} {pos:String} {af:Array Edge}
theorem Rg.nh {α:Type} {A:RT α} {e:TypeId} {v:Value} {a:α} {M:aJ} (hx:ev L x=some v) (hd:Nat.blt d n=true) (hM:Lt M w) (hv:A.V M w a v) (hg:A.agg=true)
  (k:∀u w',dv A M w' u a->Step M w M w' aA->w.heap.size<=w'.heap.size->Rg P r n ops rest ((d,u)::L) ds w' K):
  Rg P r n ops ({dst:=some d,op:= .box e x,type:=ty,pos,after:=af,guard:=none}::rest) L ds w K:=by
 refine zO M hx hd (λb w' h1 h2 hb s=>?_);obtain⟨vs,h3,h4⟩:=hv;have hc:v.cells=vs.toArray:=by subst h4;simp[RT.val,hg,Value.cells]
 rw[hc]at hb;refine k _ w' ⟨b,0,vs,G,λhm=>?_,A.le s.back.le h3,λj u hj=>?_⟩ s.back s.size
 ·have:=hM b hm;omega
 ·rw[fh];exact gA hb a68
end
end Go.K
namespace Go.Proofs
open Go.Shelf
def Tryz.GD:Go.Shelf.Ren:=⟨fun|160=>184|232=>231|231=>230|227=>232|234=>234|233=>233|236=>236|235=>235|228=>268|271=>271|151=>270|197=>269|120=>293|152=>292|260=>291|137=>300|119=>290|224=>301|225=>302|217=>304|266=>305|n=>n,fun|9=>9|4=>4|3=>3|5=>5|117=>310|116=>309|0=>0|124=>313|21=>21|105=>344|46=>189|119=>365|139=>368|138=>367|n=>n,fun|3=>2|4=>3|n=>n⟩
theorem Tryz.Vf:Go.Proofs.Lays.n160 Tryz.prog Tryz.GD:={
 mixed:=by kernel_rfl
 f119:=Tryz.func290.trans a02
 f120:=Tryz.func293.trans a02
 f137:=Tryz.func300.trans a02
 f151:=Tryz.func270.trans a02
 f152:=Tryz.func292.trans a02
 f160:=Tryz.func184.trans a02
 f197:=Tryz.func269.trans a02
 f217:=Tryz.func304.trans a02
 f224:=Tryz.func301.trans a02
 f225:=Tryz.func302.trans a02
 f227:=Tryz.func232.trans a02
 f228:=Tryz.func268.trans a02
 f231:=Tryz.func230.trans a02
 f232:=Tryz.func231.trans a02
 f233:=Tryz.func233.trans a02
 f234:=Tryz.func234.trans a02
 f235:=Tryz.func235.trans a02
 f236:=Tryz.func236.trans a02
 f260:=Tryz.func291.trans a02
 f266:=Tryz.func305.trans a02
 f271:=Tryz.func271.trans a02
 t0:=ic
 a0:=nB
 z0:=lW
 v0:=iT
 t3:=aq
 a3:=nC
 z3:=lX
 v3:=iU
 t4:=fm
 a4:=vg
 z4:=p8
 v4:=kZ
 t5:=dq
 a5:=Tryz.isAgg5
 z5:=Tryz.sizeOf5
 v5:=wY
 t9:=aG
 a9:=nD
 z9:=lY
 v9:=iV
 t21:=Tryz.underlying21
 a21:=Tryz.isAgg21
 z21:=Tryz.sizeOf21
 v21:=Tryz.zeroValue21
 t46:=lF
 a46:=Tryz.isAgg189
 z46:=Tryz.sizeOf189
 v46:=Tryz.zeroValue189
 t105:=Tryz.underlying344
 a105:=Tryz.isAgg344
 z105:=Tryz.sizeOf344
 v105:=Tryz.zeroValue344
 t116:=Tryz.underlying309
 a116:=Tryz.isAgg309
 z116:=Tryz.sizeOf309
 t117:=Tryz.underlying310
 a117:=Tryz.isAgg310
 z117:=Tryz.sizeOf310
 v117:=Tryz.zeroValue310
 t119:=Tryz.underlying365
 a119:=Tryz.isAgg365
 z119:=Tryz.sizeOf365
 t124:=Tryz.underlying313
 a124:=Tryz.isAgg313
 z124:=Tryz.sizeOf313
 v124:=Tryz.zeroValue313
 t138:=Tryz.underlying367
 a138:=Tryz.isAgg367
 z138:=Tryz.sizeOf367
 v138:=Tryz.zeroValue367
 t139:=Tryz.underlying368
 a139:=Tryz.isAgg368
 z139:=Tryz.sizeOf368
 v139:=Tryz.zeroValue368
 g3:=by kernel_rfl
 g4:=by kernel_rfl}
end Go.Proofs
namespace Go.K
open Go.Proofs
set_option maxRecDepth 10000
open Go.RowKit Go.Shelf
def nN:List UInt8:=[97,98,99,100,101,102,103,104,105,106,107,108,109,110,111,112,113,114,115,116,117,118,119,120,121,122]
def jN (b:UInt8):Bool:=decide (97<=b.toNat/\b.toNat<=122)
def iC (s:List UInt8):Bool:=decide (1<=s.length/\s.length<=12)&&s.all jN
theorem GF (b:UInt8):nN.contains b=jN b:=by
 have key:∀n:Fin 256,nN.contains (UInt8.ofNat n)=jN (UInt8.ofNat n):=by decide
 have:=key ⟨b.toNat,UInt8.toNat_lt b⟩;simpa using this
theorem drop_nil {α:Type} (p:α->Bool):∀l:List α,l.dropWhile p=[]↔∀x∈l,p x=true
 |[]=>by simp
 |x::l=>by
  rw[List.dropWhile_cons];by_cases h:p x=true
  ·rw[if_pos h,drop_nil p l];simp[h]
  ·rw[if_neg h];simp[h]
theorem Bm (s:List UInt8):Lib.trimS s nN=[]↔s.all jN=true:=by
 have e:(λb=>nN.contains b)=jN:=funext GF;unfold Lib.trimS Lib.trimLeftS Lib.trimRightS;rw[e,drop_nil,gM];constructor
 ·intro h
  have h2:s.reverse.dropWhile jN=[]:=by
   cases hd:s.reverse.dropWhile jN with
   |nil=>rfl
   |cons x r=>
    have h3:=h x (by rw[hd];simp);have h4:=List.head?_dropWhile_not jN s.reverse;rw[hd]at h4;simp[h3]at h4
  intro x hx;exact(drop_nil _ _).1 h2 x (List.mem_reverse.2 hx)
 ·intro h x hx;rw[(drop_nil jN s.reverse).2 (λy hy=>h y (List.mem_reverse.1 hy))]at hx
  cases hx
theorem NJ (s:List UInt8) (hs:s.length<=140737488355328) (w:World):Spec Tryz.prog 184 #[.string ⟨s.toArray⟩,.string ⟨nN.toArray⟩] w (λv w'=>v= .string ⟨(Lib.trimS s nN).toArray⟩/\∀M,Step M w M w' aA):=
 (Any.strings_Trim_ascii Tryz.Vf Tryz.zeroValue309 a92 ⟨s.toArray⟩ ⟨nN.toArray⟩ w (by simp[ByteArray.size];omega) q0 (λj b hj=>by
  have hm:b∈nN:=au hj;have:=GF b;rw[ll.2 hm]at this;have h2:97<=b.toNat/\b.toNat<=122:=by simpa[jN]using this.symm
  omega)).mono λe w' ⟨h1,h2⟩=>⟨_,h1,rfl,λM=> .A1 h2 M⟩
theorem NK (s:List UInt8) (hs:s.length<=140737488355328) (w0:World):
  Spec Tryz.prog 129 #[.string ⟨s.toArray⟩] w0 (λv w=>v= .bool (iC s)/\∀M,Step M w0 M w aA):=by
 refine bF (args:=[_]) (fn:=Tryz.f129) Tryz.func129 G (n:=15) Tryz.ntmps129 (T.aQ (Rg.bA G G (T.aQ (ab G G (Rg.W6 (p:=s) (q:=[]) G G G (ab G G ?_))))));refine aW (g:=5) G (λjM=>?_) (λjM=>?_)
 ·refine ak G G (ab G G (ak G G (Rg.pF aG G G (bc (v':= .int .i64 (s.length:Int)) a84 (ak G G (iG G G G (bm G G G (ab G G ?_))))))));refine aW (g:=10) G (λamL=>?_) (λamL=>?_)
  ·refine ak G G (ab G G (ak G G ?_));refine a8 G G alP (NJ s hs _) (λr w9 hc=>?_);obtain⟨rfl,s9⟩:=hc;refine ak G G (Rg.xa (p:=Lib.trimS s nN) (q:=[]) G G G (bm G G G (Rg.bA G G (aT ?_))))
   first
   |exact aX rfl rfl ⟨by rw[iC,decide_eq_true (p:=1<=s.length/\s.length<=12) ⟨qP.2 jM,by omega⟩,fK];exact congrArg Value.bool (by rw[nI,decide_eq_true_eq];exact Bm s),s9⟩
   |exact a95
   |(have Z3:s=[]:=Classical.not_not.1 jM
     subst Z3;exact aX G G ⟨G,λM=>bz⟩)
  ·refine ao G G G G (ao G G G G (ao G G G G (aM G G G (Rg.bA G G (aT ?_)))))
   first
   |exact aX rfl rfl ⟨by rw[iC,decide_eq_true (p:=1<=s.length/\s.length<=12) ⟨qP.2 jM,by omega⟩,fK];exact congrArg Value.bool (by rw[nI,decide_eq_true_eq];exact Bm s),s9⟩
   |exact a95
   |(have Z3:s=[]:=Classical.not_not.1 jM
     subst Z3;exact aX G G ⟨G,λM=>bz⟩)
 ·refine ao G G G G (ao G G G G (ao G G G G (aM G G G (ab G G (ao G G G G (ao G G G G (ao G G G G (aM G G G (Rg.bA G G (aT ?_))))))))))
  first
  |exact aX rfl rfl ⟨by rw[iC,decide_eq_true (p:=1<=s.length/\s.length<=12) ⟨qP.2 jM,by omega⟩,fK];exact congrArg Value.bool (by rw[nI,decide_eq_true_eq];exact Bm s),s9⟩
  |exact a95
  |(have Z3:s=[]:=Classical.not_not.1 jM
    subst Z3;exact aX G G ⟨G,λM=>bz⟩)
theorem Qt {s:List UInt8} (h:∀(k:Nat) c,s[k]? =some c->jN c=true):s.all jN=true:=gM.2 λc hc=>by
 obtain⟨k,hk⟩:=bQ.1 hc;exact h k c hk
theorem xr {s:List UInt8} {i:Nat} (h:i<s.length):s[i]? =some (s.getD i 0):=by rw[ax,al h];rfl
theorem mF {M:aJ} {w:World} {p:Fd} {v:Value} (h:RT.fd.V M w p v):v= .agg #[.string ⟨p.1.toArray⟩,.string ⟨p.2.toArray⟩]:=by
 obtain⟨vs,⟨va,vb,rfl,⟨rfl,_⟩,⟨rfl,_⟩⟩,rfl⟩:=h;rfl
theorem Qu {M:aJ} {w:World} {p:Fd} {v:Value} (h:RT.fd.V M w p v):p.1.length<=140737488355328/\p.2.length<=140737488355328:=by
 obtain⟨vs,⟨va,vb,rfl,⟨rfl,h1⟩,⟨rfl,h2⟩⟩,_⟩:=h;exact⟨h1,h2⟩
def CR:List Fd->List Fd->Nat->Int
 |_,[],n=>if 500<n then 7 else 0
 |seen,f::fs,n=>if iC f.1=false then 4 else if(seen.any λg=>decide (g.1=f.1))=true then 5 else if oL 0 (words f.2)≠0 then oL 0 (words f.2)else CR (seen++[f]) fs (n+(words f.2).length)
def nP (d:Dc):Int:=if 8<d.2.length then 7 else CR [] d.2 0
theorem LN {fs:List Fd} {i n:Nat} {x:Fd} (h:fs[i]? =some x):CR (fs.take i) (fs.drop i) n=if iC x.1=false then 4 else if((fs.take i).any λg=>decide (g.1=x.1))=true then 5 else if oL 0 (words x.2)≠0 then oL 0 (words x.2)else CR (fs.take (i+1)) (fs.drop (i+1)) (n+(words x.2).length):=by
 have eK:=(aj.1 h).1;rw[dV eK,(aj.1 h).2,bB,h];rfl
theorem xu {fs:List Fd} {i n:Nat} (h:fs.length<=i):CR (fs.take i) (fs.drop i) n=if 500<n then 7 else 0:=by
 rw[gL h];rfl
theorem Bn (s:List UInt8) (hs:s.length<=140737488355328) (w0:World):
  Spec Tryz.prog 93 #[.string ⟨s.toArray⟩] w0 (λv w=>v= .bool (iC s)/\w=w0):=by
 refine bF (args:=[_]) (fn:=Tryz.f93) Tryz.func93 G (n:=28) Tryz.ntmps93 (T.aQ (Rg.bA G G (aI (T.aQ (Rg.bA G G (aS ?_))))));refine dg (σ:=Nat) (λi=>[(0,.string ⟨s.toArray⟩),(3,.int .i64 (i:Int))]) (λi w=>w=w0/\i<=s.length/\∀k c,k<i->s[k]? =some c->jN c=true) (λi=>s.length-i) 0 a38 ?_ ?_
 ·exact⟨G,bC _,λk c h=>absurd h (tc k)⟩
 ·rintro i w ⟨rfl,hi,hok⟩;refine aI (T.aQ (ab G G (ab G G (Rg.pF aG G G (bc (v':= .int .i64 (s.length:Int)) a84 (ch G G G (ad ?_)))))));refine bM G (λc2=>?_) (λc2=>?_)
  ·refine aR (aI (aS (T.aQ (ab G G (ab G G (Rg.LG (c:=s.getD i 0) aG G G G k3 (by rw[an];exact xr k3) (ch G G G (ab G G ?_))))))));refine aW (g:=14) G (λamM=>?_) (λamM=>?_)
   ·refine ao G G G G (ao G G G G (ao G G G G (ao G G G G (bm G G G (ad (kT G (T.aQ (Rg.bA G G (aT ?_)))))))))
    have hx:s.all jN=false:=dO.2 λh=>by
     have h2:=gM.1 h _ (au (xr (s:=s) (i:=i) k3));simp only[jN,decide_eq_true_eq]at h2;omega
    exact aX rfl rfl ⟨by rw[iC,hx,Bool.and_false],rfl⟩
   ·refine ak G G (ab G G (ak G G (ab G G (ak G G (Rg.LG (c:=s.getD i 0) aG G G G k3 (by rw[an];exact xr k3) (ak G G (iX G G G (aM G G G (ad ?_)))))))));refine bM G (λc4=>?_) (λc4=>?_)
    ·refine T.aQ (Rg.bA G G (aT ?_))
     have hx:s.all jN=false:=dO.2 λh=>by
      have h2:=gM.1 h _ (au (xr (s:=s) (i:=i) k3));simp only[jN,decide_eq_true_eq]at h2;omega
     exact aX rfl rfl ⟨by rw[iC,hx,Bool.and_false],rfl⟩
    ·refine aR (aH (ab G G (bG G G G k3 (Rg.bA G G ?_))));refine⟨G,i+1,a38,?_,?_⟩
     ·exact⟨G,by omega,λk c h hc=>by
       rcases cQ k i with h2|h2
       ·exact hok k c h2 hc
       ·obtain rfl:k=i:=by omega
        rw[xr k3]at hc;cases hc;simp only[jN,decide_eq_true_eq];omega⟩
     ·omega
  ·refine cO (T.aQ (ab G G (Rg.pF aG G G (bc (v':= .int .i64 (s.length:Int)) a84 (eP G G G (ab G G ?_))))));refine aW (g:=23) G (λql=>?_) (λql=>?_)
   ·refine ak G G (ab G G (ak G G (Rg.pF aG G G (bc (v':= .int .i64 (s.length:Int)) a84 (ak G G (iG G G G (bm G G G (Rg.bA G G (aT ?_)))))))));have ha:s.all jN=true:=Qt λk c hc=>hok k c (by have:=(aj.1 hc).1;omega) hc
    first
    |exact aX rfl rfl ⟨by rw[iC,ha,Bool.and_true];exact congrArg Value.bool (decide_eq_decide.2 k3),G⟩
    |exact aX rfl rfl ⟨by rw[iC,ha,Bool.and_true];exact congrArg Value.bool (decide_eq_false k3).symm,G⟩
   ·refine ao G G G G (ao G G G G (ao G G G G (aM G G G (Rg.bA G G (aT ?_)))));have ha:s.all jN=true:=Qt λk c hc=>hok k c (by have:=(aj.1 hc).1;omega) hc
    first
    |exact aX rfl rfl ⟨by rw[iC,ha,Bool.and_true];exact congrArg Value.bool (decide_eq_decide.2 k3),G⟩
    |exact aX rfl rfl ⟨by rw[iC,ha,Bool.and_true];exact congrArg Value.bool (decide_eq_false k3).symm,G⟩
theorem NL {M:aJ} {o:Fd} {v0:Value} (w0:World) (hM:Lt M w0) (hv:RT.fd.V M w0 o v0) {nm:List UInt8} {t:Value} {bf:Nat} (g:w0.heap[bf]? =some (.cells #[.string ⟨nm.toArray⟩,t] 166 (0,0))) (DB:M bf):
  Spec Tryz.prog 131 #[v0,.pointer (some ⟨bf,0,none⟩)] w0 (λv w=>v= .bool (decide (o.1=nm))/\Step M w0 M w aA):=by
 refine bF (args:=[_,_]) (fn:=Tryz.f131) Tryz.func131 G (n:=9) Tryz.ntmps131 ?_;have S:Step M w0 M w0 aA:=bz;refine T.aQ ?_;refine Rg.nh (A:=RT.fd) G G hM hv G (λu0 w1 dT s0 _=>?_);have:=ae g;replace DB:=(s0.mem _ this).2 DB;replace g:=s0.aP g;replace hM:=s0.lt hM;have:=S.size;replace S:=S.aw s0;refine Rg.bA G G (T.aQ ?_);refine aD (M:=M) (A:=RT.fd) (B:=RT.str) cT G G I9 q0 (Qr) G G q0 W4 (by repeat (first|exact bH _ _|refine aZ (bI W4) ?_)) (λCS nE=>?_);refine bE aG G G G G G nE bY (λv1 Cv=>?_);obtain rfl:=fp Cv;refine bR (o':=0) cT G G I9 q0 G G (aV aG G G G W4 G (Rg.xa (p:=o.1) (q:=nm) G G G (Rg.bA G G (aT ?_))));exact aX G G ⟨G,S⟩
theorem Jv {M:aJ} {fs:List Fd} {v0:Value} (w0:World) (hM:Lt M w0) (hv:(RT.fd.sl).V M w0 fs v0) {nm:List UInt8} {t:Value} {bf:Nat} (g:w0.heap[bf]? =some (.cells #[.string ⟨nm.toArray⟩,t] 166 (0,0))) (DB:M bf):
  Spec Tryz.prog 185 #[v0,.func (.func 131) #[] #[.pointer (some ⟨bf,0,none⟩)]] w0 (λv w=>(∃k:Int,v= .int .i64 k/\(0<=k↔(fs.any λg=>decide (g.1=nm))=true)/\ -1<=k/\k<=9223372036854775807)/\Step M w0 M w aA):=by
 have Dq:=dZ hv;refine bF (args:=[_,_]) (fn:=Tryz.f185) Tryz.func185 G (n:=19) Tryz.ntmps185 ?_;have S:Step M w0 M w0 aA:=bz;refine T.aQ (Rg.bA G G (aI (T.aQ (ab G G (bK bD G hv G (ab G G (ad (aS ?_))))))));refine dg (σ:=Nat) (λi=>[(0,v0),(1,.func (.func 131) #[] #[.pointer (some ⟨bf,0,none⟩)]),(6,v0),(7,.int .i64 (fs.length:Int)),(8,.int .i64 (i:Int))]) (λi w=>Lt M w/\Step M w0 M w aA/\(w.heap[bf]? =some (.cells #[.string ⟨nm.toArray⟩,t] 166 (0,0)))/\(RT.fd.sl).V M w fs v0/\i<=fs.length/\∀k o,k<i->fs[k]? =some o->o.1≠nm) (λi=>fs.length-i) 0 a19 ?_ ?_
 ·exact⟨hM,S,g,hv,bC _,λk c h=>absurd h (tc k)⟩
 ·rintro i w ⟨hM,S,g,hv,hi,hok⟩;refine T.aQ (ch G G G (ad (aI ?_)));refine bM G (λc2=>?_) (λc2=>?_)
  ·refine aR (aI (aS (T.aQ (ab G G (Rg.bA G G (T.aQ (ab G G (ab G G ?_))))))));refine ab G G ?_;refine bX bD ly G G G hv bY k3 (λu4 o zu IH=>?_);refine cW (A:=RT.fd) cT G ly q0 G G G IH bY (λv4 qm=>?_);rw[an]at zu;refine CB (first:=[]) (captured:=[.pointer (some ⟨bf,0,none⟩)]) G G G alJ (NL _ hM qm g DB) (λr5 w5 hc=>?_);obtain⟨rfl,s5⟩:=hc;have:=ae g;replace DB:=(s5.mem _ this).2 DB;replace g:=s5.aP g;replace hv:=hv.le s5.le;replace hM:=s5.lt hM;have:=S.size;replace S:=S.aw s5;refine ad ?_;refine bM G (λc4=>?_) (λc4=>?_)
   ·refine T.aQ (ab G G (Rg.bA G G (aT ?_)));exact aX rfl rfl ⟨⟨_,rfl,⟨λ_=>yf.2 ⟨o,au zu,by simpa using W4⟩,λ_=>by omega⟩,by omega,by omega⟩,S.back⟩
   ·refine aR (aH (bG G G G k3 (ab G G (ad ?_))));refine⟨G,i+1,a19,?_,?_⟩
    ·exact⟨hM,S,g,hv,by omega,λk o' h hc=>by
      rcases cQ k i with h2|h2
      ·exact hok k o' h2 hc
      ·obtain rfl:k=i:=by omega
       rw[zu]at hc;cases hc;assumption⟩
    ·omega
  ·refine cO (T.aQ (Rg.bA G G (aT ?_)))
   exact aX G G ⟨⟨-1,G,⟨λh=>by omega,λh=>by
    obtain⟨o,ho,he⟩:=yf.1 h;obtain⟨k,hk⟩:=bQ.1 ho;exact absurd (by simpa using he) (hok k o (by have:=(aj.1 hk).1;omega) hk)⟩,by omega,by omega⟩,S.back⟩
theorem GG {M:aJ} {fs:List Fd} {v0:Value} (w0:World) (hM:Lt M w0) (hv:(RT.fd.sl).V M w0 fs v0) {nm:List UInt8} {t:Value} {bf:Nat} (g:w0.heap[bf]? =some (.cells #[.string ⟨nm.toArray⟩,t] 166 (0,0))) (DB:M bf):
  Spec Tryz.prog 130 #[v0,.func (.func 131) #[] #[.pointer (some ⟨bf,0,none⟩)]] w0 (λv w=>v= .bool (fs.any λg=>decide (g.1=nm))/\Step M w0 M w aA):=by
 refine bF (args:=[_,_]) (fn:=Tryz.f130) Tryz.func130 G (n:=9) Tryz.ntmps130 ?_;have S:Step M w0 M w0 aA:=bz;refine T.aQ (Rg.bA G G (T.aQ (ab G G (ab G G ?_))));refine a8 G G alQ (Jv _ hM hv g DB) (λr1 w1 hc=>?_);obtain⟨⟨k,rfl,hk,_⟩,s1⟩:=hc;have:=ae g;replace DB:=(s1.mem _ this).2 DB;replace g:=s1.aP g;replace hv:=hv.le s1.le;replace hM:=s1.lt hM;have:=S.size;replace S:=S.aw s1;refine eP G G G (Rg.bA G G (aT ?_));exact aX rfl rfl ⟨congrArg Value.bool (by rw[nI,decide_eq_true_eq];exact hk),S⟩
theorem Qv {M:aJ} {d:Dc} {v0:Value} (w0:World) (hM:Lt M w0) (hv:RT.dc.V M w0 d v0) (hl:∀f∈d.2,f.1.length<=900000/\f.2.length<=900000):
  Spec Tryz.prog 86 #[v0] w0 (λv w=>v= .int .i64 (nP d)/\Step M w0 M w aA):=by
 have ir:=hM;refine bF (args:=[_]) (fn:=Tryz.f86) Tryz.func86 G (n:=49) Tryz.ntmps86 ?_;have S:Step M w0 M w0 aA:=bz;refine T.aQ ?_;refine Rg.nh (A:=RT.dc) G G hM hv G (λu0 w1 dT s0 _=>?_);replace hM:=s0.lt hM;have:=S.size;replace S:=S.aw s0;refine Rg.bA G G (aI (T.aQ ?_));refine aD (M:=M) (A:=RT.dc) (B:=(RT.fd).sl) bg G G uU q0 (EI) G G q0 W4 (by repeat (first|exact bH _ _|refine aZ (bI W4) ?_)) (λCS nE=>?_);refine bE (M:=M) bD G G G G G W4 (by repeat (first|exact bH _ _|refine aZ (bI W4) ?_)) (λCT py=>?_);refine bK bD G py G (iX G G G (ad ?_));refine bM G (λc1=>?_) (λc1=>?_)
 ·refine T.aQ (Rg.bA G G (aT ?_));exact aX rfl rfl ⟨by rw[nP,if_pos k3],S.back⟩
 ·refine aR (T.aQ (Rg.bA G G (aI (T.aQ ?_))));refine aD (M:=M) (A:=RT.dc) (B:=(RT.fd).sl) bg G G uU q0 (EI) G G q0 W4 (by repeat (first|exact bH _ _|refine aZ (bI W4) ?_)) (λVg DC=>?_);refine bE (M:=M) bD G G G G G W4 (by repeat (first|exact bH _ _|refine aZ (bI W4) ?_)) (λZ4 Qw=>?_);refine bK bD G Qw G (ab G G (ad (aS ?_)));refine dg (σ:=Nat×Nat) (λq=>[(1,u0),(3,.int .i64 (q.2:Int)),(13,Z4),(14,.int .i64 (d.2.length:Int)),(15,.int .i64 (q.1:Int))]) (λq w=>∃M',Lt M' w/\Step M w0 M' w aA/\dv RT.dc M' w u0 d/\(RT.fd.sl).V M' w d.2 Z4/\nP d=CR (d.2.take q.1) (d.2.drop q.1) q.2/\q.1<=d.2.length/\q.2<=900001*q.1) (λq=>d.2.length-q.1) (0,0) a19 ?_ ?_
  ·exact⟨M,hM,S,dT,Qw,by rw[nP,if_neg k3];rfl,bC _,aN _⟩
  ·rintro⟨i,n⟩ w ⟨M1,hM,S,dT,kh,Jw,hi,hn⟩;dsimp only at Jw hi hn ⊢;refine T.aQ (ch G G G (ad (aI ?_)));refine bM G (λc5=>?_) (λc5=>?_)
   ·refine aR (aI (aS (T.aQ (ab G G ?_))));refine bX bD ly G G G kh bY k3 (λu6 x OT GA=>?_);refine cW (A:=RT.fd) cT G ly q0 G G G GA bY (λv6 wz=>?_);rw[an]at OT;obtain rfl:=mF wz;have mi:=LN (n:=n) OT;have qb:=hl _ (au OT);refine eA M1 ly G (λZ5 afb azf azg ql CU=>?_);obtain⟨GH,Qx⟩:∃M',M'=ins M1 Z5:=⟨_,rfl⟩;rw[<-Qx]at CU;have oM:GH Z5:=by rw[Qx];exact .inl G
    change afb.heap[Z5]? =some (.cells #[.string ⟨#[]⟩,.string ⟨#[]⟩] _ _)at ql;replace dT:=dT.le q0 CU.le;replace kh:=kh.le CU.le;replace hM:=CU.lt hM;have:=S.size;replace S:=S.aw CU;refine aB G G ?_;refine ej (M:=GH) (vs:=[.string ⟨x.1.toArray⟩,.string ⟨x.2.toArray⟩]) ly G G (by intro u hu;simp at hu;rcases hu with rfl|rfl<;>rfl) rfl rfl ql oM (λw6 g6 s6=>?_);have:=ae ql;replace oM:=(s6.mem _ this).2 oM;replace dT:=dT.le q0 s6.le;replace kh:=kh.le s6.le;replace hM:=s6.lt hM;have:=S.size;replace S:=S.trans s6 (λk hk h=>by have h:_=_:=h;subst h;first|(exfalso;omega)|(show _<=_;omega)|exact⟨by first|omega|assumption,(S.mem _ hk).1 ((s6.mem _ (ae ql)).1 oM)⟩|exact .inl rfl|exact .inr rfl|exact .inr (.inl rfl)|exact .inr (.inr rfl)|exact .inr (.inr (.inl rfl))|exact rfl);have XA:=g6;clear ql;have ql:=XA;clear XA;refine ad (T.aQ (bR (o':=1) cT G G I9 q0 G G (aV aG G G G W4 G ?_)));refine a8 G G alG (NI _ hM qb.2) (λr7 w7 hc=>?_);obtain⟨⟨u7,rfl,hu7⟩,s7⟩:=hc;have:=ae ql;replace oM:=(s7.mem _ this).2 oM;replace ql:=s7.aP ql;replace dT:=dT.le q0 s7.le;replace kh:=kh.le s7.le;replace hM:=s7.lt hM;have:=S.size;replace S:=S.aw s7;refine ab G G (cq G G G (cq G G G (aB G G (Rg.bA G G (aI (aS (T.aQ (bR (o':=0) cT G G I9 q0 G G (aV aG G G G W4 G ?_)))))))));refine a8 G G alH (NK x.1 k3 _) (λr8 w8 hc=>?_);obtain⟨rfl,s8_⟩:=hc;have s8:=s8_ GH;have:=ae ql;replace oM:=(s8.mem _ this).2 oM;replace ql:=s8.aP ql;replace dT:=dT.le q0 s8.le;replace kh:=kh.le s8.le;replace hM:=s8.lt hM;have:=S.size;replace S:=S.aw s8
    refine kU rfl rfl (bc (v':= .bool (decide (iC x.1=false))) (by cases iC x.1<;>rfl) (Rg.bA rfl rfl ?_));refine bM G (λc8=>?_) (λc8=>?_)
    ·refine T.aQ (Rg.bA G G (aT ?_));exact aX rfl rfl ⟨by rw[Jw,mi,if_pos W4],S.back⟩
    ·refine T.aQ ?_;refine aD (M:=GH) (A:=RT.dc) (B:=(RT.fd).sl) bg G G uU q0 (EI) G G q0 W4 (by repeat (first|exact bH _ _|refine aZ (bI W4) ?_)) (λafc Z6=>?_);refine bE (M:=GH) bD G G G G G W4 (by repeat (first|exact bH _ _|refine aZ (bI W4) ?_)) (λafd Qy=>?_);refine ab G G ?_;refine Rg.xc bD ly G G G Qy k3 (λu10 Vh=>?_);rw[an]at Vh;refine l2 (xs:=[]) (ys:=[.tmp 5]) G G G ?_;refine a8 G G alI (GG _ hM Vh ql oM) (λr10 w10 hc=>?_);obtain⟨rfl,As⟩:=hc;have:=ae ql;replace oM:=(As.mem _ this).2 oM;replace ql:=As.aP ql;replace dT:=dT.le q0 As.le;replace kh:=kh.le As.le;replace hM:=As.lt hM;have:=S.size;replace S:=S.aw As;refine aB rfl rfl (bc (v':= .bool (decide (((d.2.take i).any λg=>decide (g.1=x.1))=true))) (by cases((d.2.take i).any λg=>decide (g.1=x.1))<;>rfl) (ad ?_));refine bM G (λU9=>?_) (λU9=>?_)
     ·refine T.aQ (Rg.bA G G (aT ?_));exact aX rfl rfl ⟨by rw[Jw,mi,if_neg W4,if_pos W4],S.back⟩
     ·refine T.aQ (ab G G (fH G G G (Rg.bA G G ?_)));refine bM G (λVa=>?_) (λVa=>?_)
      ·refine T.aQ (ab G G (Rg.bA G G (aT ?_)));exact aX rfl rfl ⟨by rw[Jw,mi,if_neg W4,if_neg W4,if_pos W4];rfl,S.back⟩
      ·refine aR (aH (ab G G ?_));have NM:oL 0 (words x.2)=0:=Classical.not_not.1 Va;obtain⟨a,cap,rfl⟩:=hu7 NM;have hwl:=n0 x.2;refine ab G G (Rg.rq Tryz.underlying212 G G (bG G G G k3 (Rg.bA G G (aH (bG G G G k3 (ab G G (ad ?_)))))));refine⟨G,(i+1,n+(words x.2).length),a19,?_,?_⟩
       ·exact⟨_,hM,S,dT,kh,by rw[Jw,mi,if_neg W4,if_neg W4,if_neg Va],by dsimp only;omega,by dsimp only;omega⟩
       ·dsimp only;omega
   ·refine cO (aI (T.aQ (ab G G (iX G G G (ad ?_)))));refine bM G (λXB=>?_) (λXB=>?_)
    ·refine T.aQ (Rg.bA G G (aT ?_));exact aX rfl rfl ⟨by rw[Jw,xu k3,if_pos k3],S.back⟩
    ·refine aR (T.aQ (Rg.bA G G (aT ?_)));exact aX rfl rfl ⟨by rw[Jw,xu k3,if_neg k3],S.back⟩
end Go.K

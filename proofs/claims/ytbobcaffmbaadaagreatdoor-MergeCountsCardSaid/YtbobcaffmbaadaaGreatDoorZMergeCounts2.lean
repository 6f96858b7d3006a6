/- What the law 'MergeCounts' needs of walks and plain Lean, part 2: nothing is assumed beyond the texts that it imports. -/
import Derived.ChangeKeysEq
import Derived.Ground.Names2Prog
import Derived.KernelRfl
import Derived.Laws.IdiomCopy
import Derived.Laws.MakeOwn
import Derived.Laws.StructEq
import Derived.Lib.RuneBytes
import Derived.Lib.SliceRun
import Derived.Maps.OwnSet
import Derived.Shelf.SlGeneric
import Derived.Shelf.Slices.SearchI
import Derived.Shelf.Small.Strs
import Derived.Shelf.Small.Utf8
import Derived.Shelf.Strings.Builder1
import Derived.Shelf.Strings.BuilderRune
import Derived.Shelf.Strings.SlTrimAscii
import Derived.Test.YtbobcaffmbaadaaGreatDoorProg
import Derived.Test.YtbobcaffmbaadaaGreatDoorZMergeCounts1
set_option linter.unusedVariables false
set_option linter.unusedSimpArgs false
theorem ab:type_of% @Go.K.Rg.nil:=@Go.K.Rg.nil
theorem ad:type_of% @Go.K.Rg.move:=@Go.K.Rg.move
theorem ae:type_of% @Go.K.T.region:=@Go.K.T.region
theorem ah:type_of% @Go.K.Rg.assign:=@Go.K.Rg.assign
theorem aj:type_of% @Go.K.T.seq:=@Go.K.T.seq
theorem al:type_of% @Go.K.Rg.aI:=@Go.K.Rg.aI
theorem an:type_of% @List.getElem?_eq_some_iff:=@List.getElem?_eq_some_iff
theorem ao:type_of% @Go.K.Le.refl:=@Go.K.Le.refl
theorem aq:type_of% @Go.Proofs.Tryz.underlying37:=@Go.Proofs.Tryz.underlying37
theorem ar:type_of% @List.getElem?_eq_getElem:=@List.getElem?_eq_getElem
theorem au:type_of% @Go.K.Rg.bM:=@Go.K.Rg.bM
theorem aw:type_of% @Go.Proofs.Tryz.underlying3:=@Go.Proofs.Tryz.underlying3
theorem ax:type_of% @Go.K.Step.refl:=@Go.K.Step.refl
theorem ay:type_of% @Int.toNat_natCast:=@Int.toNat_natCast
theorem az:type_of% @List.mem_of_getElem?:=@List.mem_of_getElem?
theorem aA:type_of% @List.getD_eq_getElem?_getD:=@List.getD_eq_getElem?_getD
theorem aE:type_of% @Go.K.Rg.bE:=@Go.K.Rg.bE
theorem aF:type_of% @Go.Proofs.Tryz.underlying9:=@Go.Proofs.Tryz.underlying9
theorem aG:type_of% @List.length_map:=@List.length_map
theorem aH:type_of% @Option.some.inj:=@Option.some.inj
theorem aJ:type_of% @Go.K.bL.cons:=@Go.K.bL.cons
theorem aK:type_of% @Go.K.Rg.fieldAddr:=@Go.K.Rg.fieldAddr
theorem aN:type_of% @Nat.le_refl:=@Nat.le_refl
theorem aP:type_of% @Go.K.Rg.bO:=@Go.K.Rg.bO
theorem aQ:type_of% @Go.K.T.ret:=@Go.K.T.ret
theorem aR:type_of% @Go.K.Rg.bF:=@Go.K.Rg.bF
theorem aS:type_of% @Go.Proofs.Tryz.underlying57:=@Go.Proofs.Tryz.underlying57
theorem aT:type_of% @Go.K.T.skip:=@Go.K.T.skip
theorem aU:type_of% @Go.K.Rg.eqv:=@Go.K.Rg.eqv
theorem aW:type_of% @List.take_of_length_le:=@List.take_of_length_le
theorem aX:type_of% @Go.K.Le.trans:=@Go.K.Le.trans
theorem aY:type_of% @Go.K.Rg.call:=@Go.K.Rg.call
theorem aZ:type_of% @Go.K.T.block:=@Go.K.T.block
theorem a8:type_of% @Go.K.Rg.b9:=@Go.K.Rg.b9
theorem bc:type_of% @List.length_append:=@List.length_append
theorem bg:type_of% @List.length_take:=@List.length_take
theorem bj:type_of% @Go.Proofs.Tryz.underlying69:=@Go.Proofs.Tryz.underlying69
theorem br:type_of% @List.getElem?_map:=@List.getElem?_map
theorem bu:type_of% @Go.K.Step.le:=@Go.K.Step.le
theorem bz:type_of% @Go.Proofs.Tryz.underlying67:=@Go.Proofs.Tryz.underlying67
theorem bA:type_of% @Go.Proofs.Tryz.underlying80:=@Go.Proofs.Tryz.underlying80
theorem bB:type_of% @List.mem_iff_getElem?:=@List.mem_iff_getElem?
theorem bC:type_of% @Go.K.Rg.cZ:=@Go.K.Rg.cZ
theorem bD:type_of% @Nat.zero_le:=@Nat.zero_le
theorem bG:type_of% @List.mem_cons_self:=@List.mem_cons_self
theorem bH:type_of% @Go.Proofs.Tryz.underlying204:=@Go.Proofs.Tryz.underlying204
theorem bI:type_of% @Go.K.T.dU:=@Go.K.T.dU
theorem bJ:type_of% @List.mem_singleton:=@List.mem_singleton
theorem bK:type_of% @Go.K.Rg.cB:=@Go.K.Rg.cB
theorem bN:type_of% @Go.K.Rg.nilCheck:=@Go.K.Rg.nilCheck
theorem bP:type_of% @List.mem_map:=@List.mem_map
theorem bQ:type_of% @Go.K.Rg.cV:=@Go.K.Rg.cV
theorem bR:type_of% @Go.K.Rg.load:=@Go.K.Rg.load
theorem bS:type_of% @Go.Proofs.Tryz.underlying83:=@Go.Proofs.Tryz.underlying83
theorem bT:type_of% @Go.Proofs.Tryz.underlying180:=@Go.Proofs.Tryz.underlying180
theorem bU:type_of% @List.mem_cons_of_mem:=@List.mem_cons_of_mem
theorem bV:type_of% @List.take_add_one:=@List.take_add_one
theorem bW:type_of% @Bool.and_eq_true:=@Bool.and_eq_true
theorem bY:type_of% @Go.Proofs.Tryz.underlying72:=@Go.Proofs.Tryz.underlying72
theorem bZ:type_of% @Go.K.Rg.extract:=@Go.K.Rg.extract
theorem ca:type_of% @Go.K.dR.cons:=@Go.K.dR.cons
theorem cb:type_of% @List.mem_cons:=@List.mem_cons
theorem cd:type_of% @Go.K.Rg.cO:=@Go.K.Rg.cO
theorem cf:type_of% @List.length_replicate:=@List.length_replicate
theorem cg:type_of% @Go.K.Rg.fX:=@Go.K.Rg.fX
theorem ch:type_of% @List.mem_append:=@List.mem_append
theorem ck:type_of% @Go.Proofs.Tryz.underlying78:=@Go.Proofs.Tryz.underlying78
theorem cn:type_of% @Go.Sem.run_bind:=@Go.Sem.run_bind
theorem cp:type_of% @List.getElem?_take:=@List.getElem?_take
theorem cq:type_of% @Go.K.Rg.eu:=@Go.K.Rg.eu
theorem cu:type_of% @List.pairwise_iff_getElem:=@List.pairwise_iff_getElem
theorem cw:type_of% @Go.K.Rg.dA:=@Go.K.Rg.dA
theorem cx:type_of% @Go.Proofs.Tryz.underlying166:=@Go.Proofs.Tryz.underlying166
theorem cy:type_of% @Go.Proofs.Tryz.underlying124:=@Go.Proofs.Tryz.underlying124
theorem cz:type_of% @Go.Proofs.Tryz.underlying5:=@Go.Proofs.Tryz.underlying5
theorem cA:type_of% @List.pairwise_map:=@List.pairwise_map
theorem cC:type_of% @Go.Result.andThen_ok:=@Go.Result.andThen_ok
theorem cD:type_of% @List.length_cons:=@List.length_cons
theorem cE:type_of% @Option.toList_some:=@Option.toList_some
theorem cF:type_of% @Go.K.Rg.idx:=@Go.K.Rg.idx
theorem cG:type_of% @Nat.lt_or_ge:=@Nat.lt_or_ge
theorem cI:type_of% @List.length_singleton:=@List.length_singleton
theorem cK:type_of% @Go.K.T.exit:=@Go.K.T.exit
theorem cN:type_of% @Go.K.Rg.dF:=@Go.K.Rg.dF
theorem cP:type_of% @Go.Proofs.Tryz.underlying119:=@Go.Proofs.Tryz.underlying119
theorem cW:type_of% @Option.map_some:=@Option.map_some
theorem cX:type_of% @List.map_append:=@List.map_append
theorem cY:type_of% @List.length_eq_zero_iff:=@List.length_eq_zero_iff
theorem dd:type_of% @Go.K.Rg.append:=@Go.K.Rg.append
theorem de:type_of% @Go.K.Step.aM:=@Go.K.Step.aM
theorem dh:type_of% @List.length_drop:=@List.length_drop
theorem dn:type_of% @Go.K.T.loop:=@Go.K.T.loop
theorem dq:type_of% @List.getElem?_set:=@List.getElem?_set
theorem dr:type_of% @Bool.eq_false_iff:=@Bool.eq_false_iff
theorem du:type_of% @Go.Proofs.Tryz.underlying178:=@Go.Proofs.Tryz.underlying178
theorem dx:type_of% @List.getElem?_eq_none:=@List.getElem?_eq_none
theorem dD:type_of% @Go.K.Own.nil:=@Go.K.Own.nil
theorem dE:type_of% @Array.getElem?_setIfInBounds:=@Array.getElem?_setIfInBounds
theorem dG:type_of% @List.drop_eq_getElem_cons:=@List.drop_eq_getElem_cons
theorem dH:type_of% @Eq.symm:=@Eq.symm
theorem dJ:type_of% @Decidable.not_not:=@Decidable.not_not
theorem dK:type_of% @Go.Proofs.Tryz.underlying183:=@Go.Proofs.Tryz.underlying183
theorem dN:type_of% @Option.some.injEq:=@Option.some.injEq
theorem dQ:type_of% @List.map_cons:=@List.map_cons
theorem dS:type_of% @Go.Proofs.Tryz.underlying71:=@Go.Proofs.Tryz.underlying71
theorem dT:type_of% @Go.Proofs.Tryz.underlying153:=@Go.Proofs.Tryz.underlying153
theorem dW:type_of% @Nat.le_trans:=@Nat.le_trans
theorem dY:type_of% @Go.K.Rg.lx:=@Go.K.Rg.lx
theorem ec:type_of% @Go.Proofs.Tryz.underlying196:=@Go.Proofs.Tryz.underlying196
theorem ed:type_of% @Go.Proofs.Tryz.underlying207:=@Go.Proofs.Tryz.underlying207
theorem ef:type_of% @Prod.mk.injEq:=@Prod.mk.injEq
theorem ep:type_of% @Go.K.Rg.lO:=@Go.K.Rg.lO
theorem ey:type_of% @List.pairwise_cons:=@List.pairwise_cons
theorem ez:type_of% @Go.Proofs.Tryz.underlying29:=@Go.Proofs.Tryz.underlying29
theorem eB:type_of% @Go.Proofs.Tryz.underlying205:=@Go.Proofs.Tryz.underlying205
theorem eD:type_of% @List.getElem?_toArray:=@List.getElem?_toArray
theorem eE:type_of% @Go.K.Rg.alloc:=@Go.K.Rg.alloc
theorem eF:type_of% @Go.K.bX.load:=@Go.K.bX.load
theorem eG:type_of% @Go.K.Rg.eo:=@Go.K.Rg.eo
theorem eI:type_of% @List.not_mem_nil:=@List.not_mem_nil
theorem eM:type_of% @Nat.lt_trichotomy:=@Nat.lt_trichotomy
theorem eP:type_of% @Nat.mul_one:=@Nat.mul_one
theorem eS:type_of% @Go.K.bX.move:=@Go.K.bX.move
theorem eT:type_of% @Go.Proofs.Tryz.underlying46:=@Go.Proofs.Tryz.underlying46
theorem eV:type_of% @List.length_set:=@List.length_set
theorem eW:type_of% @Go.Proofs.Tryz.underlying142:=@Go.Proofs.Tryz.underlying142
theorem eX:type_of% @Go.Proofs.Tryz.underlying121:=@Go.Proofs.Tryz.underlying121
theorem eY:type_of% @Go.Proofs.Tryz.underlying131:=@Go.Proofs.Tryz.underlying131
theorem eZ:type_of% @Go.K.lh.nil:=@Go.K.lh.nil
theorem fa:type_of% @List.map_toArray:=@List.map_toArray
theorem fc:type_of% @Bool.true_and:=@Bool.true_and
theorem fp:type_of% @List.ext_getElem?:=@List.ext_getElem?
theorem fq:type_of% @Go.K.Rg.ju:=@Go.K.Rg.ju
theorem fy:type_of% @List.all_eq_true:=@List.all_eq_true
theorem fz:type_of% @List.drop_eq_nil_of_le:=@List.drop_eq_nil_of_le
theorem fC:type_of% @List.getElem?_append_left:=@List.getElem?_append_left
theorem fD:type_of% @Go.K.Rg.oE:=@Go.K.Rg.oE
theorem fE:type_of% @Go.K.Rg.gz:=@Go.K.Rg.gz
theorem fJ:type_of% @Go.Proofs.Tryz.underlying0:=@Go.Proofs.Tryz.underlying0
theorem fQ:type_of% @List.nil_append:=@List.nil_append
theorem fR:type_of% @Nat.zero_add:=@Nat.zero_add
theorem fT:type_of% @Go.Value.slice.injEq:=@Go.Value.slice.injEq
theorem gr:type_of% @Nat.mul_le_mul_right:=@Nat.mul_le_mul_right
theorem gu:type_of% @Go.IntWalk.u64_in:=@Go.IntWalk.u64_in
theorem gv:type_of% @List.mem_append_left:=@List.mem_append_left
theorem gF:type_of% @Go.Proofs.Tryz.zeroValue0:=@Go.Proofs.Tryz.zeroValue0
theorem gG:type_of% @Go.Proofs.Tryz.zeroValue3:=@Go.Proofs.Tryz.zeroValue3
theorem gH:type_of% @Go.Proofs.Tryz.zeroValue9:=@Go.Proofs.Tryz.zeroValue9
theorem gJ:type_of% @Go.K.Rg.qi:=@Go.K.Rg.qi
theorem gM:type_of% @List.drop_of_length_le:=@List.drop_of_length_le
theorem gQ:type_of% @List.mem_map_of_mem:=@List.mem_map_of_mem
theorem hY:type_of% @Option.map_none:=@Option.map_none
theorem ia:type_of% @List.append_nil:=@List.append_nil
theorem iu:type_of% @Nat.lt_of_lt_of_le:=@Nat.lt_of_lt_of_le
theorem iy:type_of% @Go.K.Part.snd:=@Go.K.Part.snd
theorem iz:type_of% @List.eq_of_mem_replicate:=@List.eq_of_mem_replicate
theorem iA:type_of% @Go.K.ib.all:=@Go.K.ib.all
theorem iE:type_of% @Go.Proofs.Tryz.underlying151:=@Go.Proofs.Tryz.underlying151
theorem iF:type_of% @Go.Proofs.Tryz.underlying139:=@Go.Proofs.Tryz.underlying139
theorem iG:type_of% @Go.Proofs.Tryz.underlying133:=@Go.Proofs.Tryz.underlying133
theorem iK:type_of% @Go.K.Rg.gA:=@Go.K.Rg.gA
theorem iL:type_of% @Go.Proofs.Tryz.underlying4:=@Go.Proofs.Tryz.underlying4
theorem iQ:type_of% @Bool.not_eq_true':=@Bool.not_eq_true'
theorem iS:type_of% @Go.K.Rg.build:=@Go.K.Rg.build
theorem iT:type_of% @List.mem_filter:=@List.mem_filter
theorem iY:type_of% @Go.K.Rg.ti:=@Go.K.Rg.ti
theorem iZ:type_of% @List.getD_cons_zero:=@List.getD_cons_zero
theorem ja:type_of% @List.getD_cons_succ:=@List.getD_cons_succ
theorem jb:type_of% @List.mergeSort_perm:=@List.mergeSort_perm
theorem jd:type_of% @List.map_nil:=@List.map_nil
theorem je:type_of% @Go.K.bX.field:=@Go.K.bX.field
theorem jf:type_of% @Go.Proofs.Tryz.underlying25:=@Go.Proofs.Tryz.underlying25
theorem jq:type_of% @Nat.lt_irrefl:=@Nat.lt_irrefl
theorem jt:type_of% @Go.K.T.iff:=@Go.K.T.iff
theorem jx:type_of% @Go.Proofs.Tryz.zeroValue4:=@Go.Proofs.Tryz.zeroValue4
theorem jB:type_of% @List.getElem?_append_right:=@List.getElem?_append_right
theorem jG:type_of% @Go.K.eN.refl:=@Go.K.eN.refl
theorem jH:type_of% @List.contains_iff_mem:=@List.contains_iff_mem
theorem jI:type_of% @Array.getElem?_modify:=@Array.getElem?_modify
theorem jO:type_of% @Go.Proofs.Tryz.underlying189:=@Go.Proofs.Tryz.underlying189
theorem jP:type_of% @Go.Proofs.Tryz.underlying155:=@Go.Proofs.Tryz.underlying155
theorem jQ:type_of% @Go.Proofs.Tryz.underlying198:=@Go.Proofs.Tryz.underlying198
theorem jR:type_of% @Go.Proofs.Tryz.underlying209:=@Go.Proofs.Tryz.underlying209
theorem j3:type_of% @List.length_nil:=@List.length_nil
theorem j8:type_of% @List.take_succ_eq_append_getElem:=@List.take_succ_eq_append_getElem
theorem j9:type_of% @Go.IntWalk.i64_in:=@Go.IntWalk.i64_in
theorem ka:type_of% @Go.Proofs.Tryz.sizeOf0:=@Go.Proofs.Tryz.sizeOf0
theorem kb:type_of% @Go.Proofs.Tryz.sizeOf3:=@Go.Proofs.Tryz.sizeOf3
theorem kd:type_of% @Go.Proofs.Tryz.sizeOf9:=@Go.Proofs.Tryz.sizeOf9
theorem ke:type_of% @List.pairwise_append:=@List.pairwise_append
theorem kg:type_of% @Go.K.Rg.makeFunc:=@Go.K.Rg.makeFunc
theorem kH:type_of% @Go.Proofs.Tryz.underlying58:=@Go.Proofs.Tryz.underlying58
theorem kL:type_of% @List.cons_append:=@List.cons_append
theorem kM:type_of% @Bool.false_and:=@Bool.false_and
theorem kN:type_of% @List.getElem?_replicate:=@List.getElem?_replicate
theorem ly:type_of% @Nat.eq_or_lt_of_le:=@Nat.eq_or_lt_of_le
theorem lH:type_of% @Go.Proofs.Tryz.isAgg0:=@Go.Proofs.Tryz.isAgg0
theorem lI:type_of% @Go.Proofs.Tryz.isAgg3:=@Go.Proofs.Tryz.isAgg3
theorem lJ:type_of% @Go.Proofs.Tryz.isAgg9:=@Go.Proofs.Tryz.isAgg9
theorem lM:type_of% @Bool.eq_iff_iff:=@Bool.eq_iff_iff
theorem lN:type_of% @Go.K.Rg.iq:=@Go.K.Rg.iq
theorem l4:type_of% @List.take_append_drop:=@List.take_append_drop
theorem l5:type_of% @Go.Proofs.Tryz.underlying217:=@Go.Proofs.Tryz.underlying217
theorem l6:type_of% @List.length_filter_le:=@List.length_filter_le
theorem mM:type_of% @Go.K.sx.nil:=@Go.K.sx.nil
theorem mN:type_of% @Go.K.Part.fst:=@Go.K.Part.fst
theorem mO:type_of% @Go.K.Rg.not:=@Go.K.Rg.not
theorem np:type_of% @Nat.pow_le_pow_right:=@Nat.pow_le_pow_right
theorem nF:type_of% @Go.Addr.mk.injEq:=@Go.Addr.mk.injEq
theorem nG:type_of% @Go.K.T.tn:=@Go.K.T.tn
theorem nL:type_of% @Nat.mod_eq_of_lt:=@Nat.mod_eq_of_lt
theorem nN:type_of% @Go.Proofs.Tryz.sizeOf4:=@Go.Proofs.Tryz.sizeOf4
theorem oF:type_of% @List.take_succ_cons:=@List.take_succ_cons
theorem oG:type_of% @List.length_pos_iff:=@List.length_pos_iff
theorem oH:type_of% @Int.toNat_of_nonneg:=@Int.toNat_of_nonneg
theorem oI:type_of% @List.sum_append_nat:=@List.sum_append_nat
theorem qa:type_of% @Nat.min_eq_left:=@Nat.min_eq_left
theorem qb:type_of% @Bool.or_eq_true:=@Bool.or_eq_true
theorem qc:type_of% @List.idxOf_cons:=@List.idxOf_cons
theorem qg:type_of% @BitVec.toNat_ofInt:=@BitVec.toNat_ofInt
theorem qZ:type_of% @Go.K.Rg.Ab:=@Go.K.Rg.Ab
theorem re:type_of% @Go.K.gw.nil:=@Go.K.gw.nil
theorem rB:type_of% @Go.Proofs.Tryz.isAgg4:=@Go.Proofs.Tryz.isAgg4
theorem rY:type_of% @List.flatMap_cons:=@List.flatMap_cons
theorem rZ:type_of% @Go.K.Rg.conv:=@Go.K.Rg.conv
theorem sd:type_of% @List.foldl_append:=@List.foldl_append
theorem sf:type_of% @Go.K.Rg.lB:=@Go.K.Rg.lB
theorem si:type_of% @Go.Proofs.Tryz.underlying190:=@Go.Proofs.Tryz.underlying190
theorem sk:type_of% @List.map_map:=@List.map_map
theorem sm:type_of% @Go.Proofs.Tryz.underlying141:=@Go.Proofs.Tryz.underlying141
theorem so:type_of% @List.mem_range:=@List.mem_range
theorem tj:type_of% @Go.Proofs.Tryz.zeroValue5:=@Go.Proofs.Tryz.zeroValue5
theorem uF:type_of% @List.any_eq_true:=@List.any_eq_true
theorem uG:type_of% @Go.K.T.kQ:=@Go.K.T.kQ
theorem uH:type_of% @List.getElem_mem:=@List.getElem_mem
theorem uI:type_of% @List.mem_flatMap:=@List.mem_flatMap
theorem vP:type_of% @Go.Proofs.Tryz.underlying26:=@Go.Proofs.Tryz.underlying26
theorem wK:type_of% @Go.Addr.add_mid:=@Go.Addr.add_mid
theorem wL:type_of% @List.mem_of_mem_take:=@List.mem_of_mem_take
theorem wM:type_of% @Go.K.Rg.box:=@Go.K.Rg.box
theorem wN:type_of% @List.mem_iff_getElem:=@List.mem_iff_getElem
theorem xg:type_of% @Go.K.bL.nil:=@Go.K.bL.nil
theorem zi:type_of% @Nat.mul_le_mul_left:=@Nat.mul_le_mul_left
theorem zj:type_of% @Array.length_toList:=@Array.length_toList
theorem zr:type_of% @Go.K.Rg.pC:=@Go.K.Rg.pC
namespace Go.K
def put (n:Nat):List UInt8:=if n<128 then[UInt8.ofNat n]else UInt8.ofNat (128+n%128)::put (n/128)
termination_by n
decreasing_by omega
theorem xM {n:Nat} (h:n<128):put n=[UInt8.ofNat n]:=by rw[put,if_pos h]
theorem Fi {n:Nat} (h:128≤n):put n=UInt8.ofNat (128+n%128)::put (n/128):=by rw[put,if_neg (by omega)]
theorem O2 (n:Nat):0<(put n).length:=by rw[put];split<;>simp
theorem O3 {k:Nat}:∀{n:Nat},n<128^(k+1)→(put n).length≤k+1:=by
 induction k with
 |zero=>intro n h;rw[xM (by simpa using h)];simp
 |succ k ih=>
  intro n h;by_cases h1:n<128
  ·rw[xM h1];simp
  ·rw[Fi (by omega)];have:=ih (n:=n/128) (by rw[Nat.pow_succ]at h;omega);simp;omega
theorem lr {n:Nat} (h:n≤9223372036854775807):(put n).length≤9:=O3 (k:=8) (by omega)
def nU:List UInt8→Nat→Nat→Option (Nat×Nat)
 |[],_,_=>none
 |c::cs,i,n=>if c.toNat<128 then(if c.toNat=0∧0<i then none else some (n+c.toNat%128*128^i,i+1))else nU cs (i+1) (n+c.toNat%128*128^i)
def get (b:List UInt8) (at_:Int):Int×Int×Int:=
 if at_<0∨(b.length:Int)<at_ then(0,0,1)
 else match nU ((b.drop at_.toNat).take 9) 0 0 with
  |some (n,k)=>(n,at_+k,0)
  |none=>(0,0,2)
theorem nV {bs:List UInt8} {k:Nat} {c:UInt8} (h:bs[k]? =some c) (n:Nat):nU (bs.drop k) k n=
  if c.toNat<128 then(if c.toNat=0∧0<k then none else some (n+c.toNat%128*128^k,k+1))else nU (bs.drop (k+1)) (k+1) (n+c.toNat%128*128^k):=by
 obtain⟨dV,he⟩:=an.1 h;rw[dG dV,nU,he]
theorem To (b:List UInt8) (i:Nat):(b.take (min b.length (i+9))).drop i=(b.drop i).take 9:=by
 rw[List.drop_take,List.take_eq_take_iff];simp;omega
def val:List UInt8→Nat
 |[]=>0
 |c::cs=>c.toNat%128+128*val cs
def eA:Int→List Int→Bool
 |_,[]=>true
 |last,x::l=>decide (last<x)&&eA x l
def lQ:Int→List Int→List UInt8
 |_,[]=>[]
 |last,x::l=>put (x-last-1).toNat++lQ x l
def eJ (l:List Int):List UInt8:=put l.length++lQ (-1) l
def Q8:Int→List Int→List Int
 |_,[]=>[]
 |last,x::l=>let m:=if x<0 then-(x+1)else x;(last+1+m%1000)::Q8 (last+1+m%1000) l
def good (l:List Int) (most:Nat):List Int:=Q8 (-1) (l.take most)
theorem uP {b:List UInt8} {at_:Int} (h:(get b at_).2.2=0):0≤at_∧at_<(get b at_).2.1∧(get b at_).2.1≤b.length∧0≤(get b at_).1∧(get b at_).1<9223372036854775808:=by
 unfold get at h ⊢
 split at h
 ·simp at h
 rename_i hr
 rw[if_neg hr]at*
 have key:∀(bs:List UInt8) (i n m k:Nat),nU bs i n=some (m,k)→bs.length+i≤9→n<128^i→i<k∧k≤i+bs.length∧m<128^k:=by
  intro bs
  induction bs with
  |nil=>intro i n m k h;simp[nU]at h
  |cons c cs ih=>
   intro i n m k h hl hn
   have hd:n+c.toNat%128*128^i<128^(i+1):=by
    have:=gr (128^i) (show c.toNat%128≤127 from by omega);rw[Nat.pow_succ];omega
   simp only[nU]at h
   split at h
   ·split at h
    ·cases h
    ·cases h;exact⟨by omega,by simp,hd⟩
   ·obtain⟨h1,h2,h3⟩:=ih (i+1) _ m k h (by simp at hl;omega) hd;exact⟨by omega,by simp;omega,h3⟩
 cases hg:nU ((b.drop at_.toNat).take 9) 0 0 with
 |none=>simp[hg]at h
 |some p=>
  obtain⟨m,k⟩:=p;have hlen:((b.drop at_.toNat).take 9).length≤9∧((b.drop at_.toNat).take 9).length≤b.length-at_.toNat:=by rw[bg,dh];omega
  obtain⟨h1,h2,h3⟩:=key _ 0 0 m k hg (by omega) (by decide);have hp:128^k≤128^9:=np (by decide) (by omega);simp only;omega
def iC (b:List UInt8):Nat→Int→Int→Int×List Int×Int
 |0,at_,_=>(0,[],at_)
 |k+1,at_,last=>
  if(get b at_).2.2≠0 then((get b at_).2.2,[],0)
  else if 4611686018427387904-last-1<(get b at_).1 then(2,[],0)
  else if(iC b k (get b at_).2.1 (last+1+(get b at_).1)).1≠0 then((iC b k (get b at_).2.1 (last+1+(get b at_).1)).1,[],0)
  else(0,(last+1+(get b at_).1)::(iC b k (get b at_).2.1 (last+1+(get b at_).1)).2.1,(iC b k (get b at_).2.1 (last+1+(get b at_).1)).2.2)
def gR (b:List UInt8) (at_:Int):Int×List Int×Int:=
 if(get b at_).2.2≠0 then((get b at_).2.2,[],0)else iC b (get b at_).1.toNat (get b at_).2.1 (-1)
theorem gB {l:List Int} {k:Nat} {x:Int} (h:l[k]? =some x) (last:Int):eA last (l.drop k)=(decide (last<x)&&eA x (l.drop (k+1))):=by
 obtain⟨dV,he⟩:=an.1 h;rw[dG dV,eA,he]
theorem Iy {l:List Int} {k:Nat} {x:Int} (h:l[k]? =some x) (last:Int):lQ last (l.drop k)=put (x-last-1).toNat++lQ x (l.drop (k+1)):=by
 obtain⟨dV,he⟩:=an.1 h;rw[dG dV,lQ,he]
theorem xN:∀(l:List Int) (last:Int),-1≤last→(∀x∈l,x≤9223372036854775807)→eA last l=true→(lQ last l).length≤9*l.length
 |[],_,_,_,_=>by simp[lQ]
 |x::l,last,h1,h2,h3=>by
  simp only[eA,bW,decide_eq_true_eq]at h3;have hx:=h2 x (bG ..);have h4:=xN l x (by omega) (fun y hy=>h2 y (bU _ hy)) h3.2;have h5:=lr (n:=(x-last-1).toNat) (by omega);simp only[lQ,bc,cD];omega
theorem xO (b:List UInt8) (a last:Int):iC b 0 a last=(0,[],a):=rfl
theorem sF {b:List UInt8} {k:Nat} {a last:Int} (h:(get b a).2.2≠0):iC b (k+1) a last=((get b a).2.2,[],0):=by rw[iC,if_pos h]
theorem uQ {b:List UInt8} {k:Nat} {a last:Int} (h:(get b a).2.2=0) (h2:4611686018427387904-last-1<(get b a).1):iC b (k+1) a last=(2,[],0):=by
 rw[iC,if_neg (by simpa using h),if_pos h2]
theorem xQ {b:List UInt8} {k:Nat} {a last:Int} (h:(get b a).2.2=0) (h2: ¬4611686018427387904-last-1<(get b a).1):iC b (k+1) a last=
  if(iC b k (get b a).2.1 (last+1+(get b a).1)).1≠0 then((iC b k (get b a).2.1 (last+1+(get b a).1)).1,[],0)
  else(0,(last+1+(get b a).1)::(iC b k (get b a).2.1 (last+1+(get b a).1)).2.1,(iC b k (get b a).2.1 (last+1+(get b a).1)).2.2):=by
 rw[iC,if_neg (by simpa using h),if_neg h2]
def andThen (acc:List Int) (r:Int×List Int×Int):Int×List Int×Int:=if r.1≠0 then(r.1,[],0)else(0,acc++r.2.1,r.2.2)
theorem oS {b:List UInt8} {k:Nat} {a last:Int} (acc:List Int) (h:(get b a).2.2=0) (h2: ¬4611686018427387904-last-1<(get b a).1):
  andThen acc (iC b (k+1) a last)=andThen (acc++[last+1+(get b a).1]) (iC b k (get b a).2.1 (last+1+(get b a).1)):=by
 rw[xQ h h2];unfold andThen;by_cases h3:(iC b k (get b a).2.1 (last+1+(get b a).1)).1=0<;>simp[h3]
theorem CM (r:Int×List Int×Int) (h:r.1≠0→r.2=([],0)):andThen [] r=r:=by
 unfold andThen;by_cases h3:r.1=0
 ·rw[if_neg (by simpa using h3)];ext<;>simp[h3]
 ·rw[if_pos h3,←h h3]
theorem Iz (b:List UInt8):∀(k:Nat) (a last:Int),(iC b k a last).1≠0→(iC b k a last).2=([],0)
 |0,a,last,h=>by simp[iC]at h
 |k+1,a,last,h=>by
  rw[iC]at h ⊢
  split
  ·rfl
  ·rename_i h1;rw[if_neg h1]at h
   split
   ·rfl
   ·rename_i h2;rw[if_neg h2]at h
    split
    ·rfl
    ·rename_i h3;rw[if_neg h3]at h;simp at h
theorem oT (b:List UInt8) (a:Int):0≤(get b a).1∧0≤(get b a).2.2∧(get b a).2.2≤2∧((get b a).2.2≠0→(get b a).1=0∧(get b a).2.1=0):=by
 unfold get
 split
 ·simp
 ·split<;>simp<;>omega
theorem Am (b:List UInt8) (a:Int):(get b a).1≤9223372036854775807:=by
 by_cases h:(get b a).2.2=0
 ·have:=uP h;omega
 ·have:=(oT b a).2.2.2 h;omega
theorem KC:∀(k m i acc:Nat) (post:List UInt8),m<128^(k+1)→(0<i→m≠0)→nU ((put m++post).take (k+1)) i acc=some (acc+m*128^i,i+(put m).length):=by
 intro k
 induction k with
 |zero=>
  intro m i acc post h h0;have hm:m<128:=by simpa using h
  have e:(UInt8.ofNat m).toNat=m:=by rw[UInt8.toNat_ofNat'];omega
  rw[xM hm];simp only[kL,fQ,oF,nU,e];rw[if_pos hm,if_neg (by omega),nL hm];rfl
 |succ k ih=>
  intro m i acc post h h0;by_cases hm:m<128
  ·have e:(UInt8.ofNat m).toNat=m:=by rw[UInt8.toNat_ofNat'];omega
   rw[xM hm];simp only[kL,fQ,oF,nU,e];rw[if_pos hm,if_neg (by omega),nL hm];rfl
  ·have e:(UInt8.ofNat (128+m%128)).toNat=128+m%128:=by rw[UInt8.toNat_ofNat'];omega
   rw[Fi (by omega)];simp only[kL,oF,nU,e];rw[if_neg (by omega),ih (m/128) (i+1) _ post (by rw[Nat.pow_succ]at h;omega) (by omega)];have h2:(128+m%128)%128=m%128:=by omega
   rw[h2,Nat.pow_succ];congr 2
   ·have h3:m=m%128+128*(m/128):=by omega
    have h4:m*128^i=(m%128)*128^i+(m/128)*(128^i*128):=by
     conv=>lhs;rw[h3]
     rw[Nat.add_mul,Nat.mul_comm 128 (m/128),Nat.mul_assoc,Nat.mul_comm 128 (128^i)]
    omega
   ·simp;omega
theorem Bg (pre post:List UInt8) {n:Nat} (hn:n≤9223372036854775807):get (pre++put n++post) pre.length=((n:Int),((pre.length+(put n).length:Nat):Int),0):=by
 unfold get;rw[if_neg (by simp;omega)]
 have h1:((pre++put n++post).drop (pre.length:Int).toNat).take 9=(put n++post).take (8+1):=by
  rw[ay,List.append_assoc,List.drop_left]
 rw[h1,KC 8 n 0 0 post (by omega) (by omega)];simp
theorem An:∀(l:List Int) (pre post:List UInt8) (last:Int),-1≤last→eA last l=true→(∀x∈l,x≤4611686018427387904)→
  iC (pre++lQ last l++post) l.length pre.length last=(0,l,((pre.length+(lQ last l).length:Nat):Int))
 |[],pre,post,last,_,_,_=>by simp[lQ,iC]
 |x::l,pre,post,last,h1,h2,h3=>by
  simp only[eA,bW,decide_eq_true_eq]at h2;have hx:=h3 x (bG ..);have e0:pre++lQ last (x::l)++post=pre++put (x-last-1).toNat++(lQ x l++post):=by simp[lQ]
  have e1:=Bg pre (lQ x l++post) (n:=(x-last-1).toNat) (by omega);have e2:pre++put (x-last-1).toNat++(lQ x l++post)=(pre++put (x-last-1).toNat)++lQ x l++post:=by simp
  have ih:=An l (pre++put (x-last-1).toNat) post x (by omega) h2.2 (fun y hy=>h3 y (bU _ hy));rw[e0,cD,xQ (by rw[e1]) (by rw[e1];simp only;omega),e1];simp only;have e3:last+1+(((x-last-1).toNat:Nat):Int)=x:=by omega
  rw[e3,e2,show((pre.length+(put (x-last-1).toNat).length:Nat):Int)=((pre++put (x-last-1).toNat).length:Int)from by simp,ih];simp[lQ];omega
theorem zz (pre post:List UInt8) {l:List Int} (hr:eA (-1) l=true) (h3:∀x∈l,x≤4611686018427387904) (hl:l.length≤9223372036854775807):
  gR (pre++eJ l++post) pre.length=(0,l,((pre.length+(eJ l).length:Nat):Int)):=by
 have e0:pre++eJ l++post=pre++put l.length++(lQ (-1) l++post):=by simp[eJ]
 have e1:=Bg pre (lQ (-1) l++post) (n:=l.length) hl;have e2:pre++put l.length++(lQ (-1) l++post)=(pre++put l.length)++lQ (-1) l++post:=by simp
 unfold gR;rw[e0,e1,if_neg (by simp)];simp only;have:=An l (pre++put l.length) post (-1) (by omega) hr h3;rw[e2,show((pre.length+(put l.length).length:Nat):Int)=((pre++put l.length).length:Int)from by simp,ay,this];simp[eJ];omega
end Go.K
namespace Go.K
abbrev Po:=Int×List Int
abbrev Bl:=Int×Int×Int×Int
abbrev Li:=List UInt8×List Bl×Int
abbrev RT.po:RT Po:=RT.pair (RT.int .i64) ((RT.int .i64).sl)
abbrev RT.bl:RT Bl:=RT.pair (RT.int .i64) (RT.pair (RT.int .i64) (RT.pair (RT.int .i64) (RT.int .i64)))
abbrev RT.li:RT Li:=RT.pair (RT.u8.sl) (RT.pair ((RT.bl).sl) (RT.int .i64))
theorem Q9:Part RT.po (RT.int .i64) (fun p=>p.1) 0:=mN _ _
theorem Tp:Part RT.po ((RT.int .i64).sl) (fun p=>p.2) 1:=iy _ _
theorem bl0:Part RT.bl (RT.int .i64) (fun b=>b.1) 0:=mN _ _
theorem bl1:Part RT.bl (RT.int .i64) (fun b=>b.2.1) 1:=(iy _ _).trans (mN _ _)
theorem bl3:Part RT.bl (RT.int .i64) (fun b=>b.2.2.2) 3:=(iy _ _).trans ((iy _ _).trans (iy _ _))
theorem li0:Part RT.li (RT.u8.sl) (fun x=>x.1) 0:=mN _ _
theorem li1:Part RT.li ((RT.bl).sl) (fun x=>x.2.1) 1:=(iy _ _).trans (mN _ _)
def Wx (n:Nat) (k:Int):Bool:=decide (0≤k∧k<n)
def sG (bs:List Bl):Int:=(bs.map fun b=>b.2.2.2).sum
theorem Ao (bs:List Bl) (b:Bl):sG (bs++[b])=sG bs+b.2.2.2:=by simp[sG]
theorem IA {bs:List Bl} {k:Nat} {b:Bl} (h:bs[k]? =some b):sG (bs.take (k+1))=sG (bs.take k)+b.2.2.2:=by
 obtain⟨h1,h2⟩:=an.1 h;rw[j8 h1,h2,Ao]
theorem O4 (bs:List Bl) (h:∀b∈bs,0≤b.2.2.2∧b.2.2.2≤8):0≤sG bs∧sG bs≤8*bs.length:=by
 induction bs with
 |nil=>simp[sG]
 |cons b bs ih=>
  have:=ih fun c hc=>h c (bU _ hc)
  have h0:=h b (bG ..);simp only[sG,dQ,List.sum_cons,cD]at this ⊢;omega
def eg:Int→List Po→List UInt8
 |_,[]=>[]
 |last,(d,ps)::l=>put (d-last-1).toNat++eJ ps++eg d l
def dB:Int→List Po→Int
 |last,[]=>last
 |_,(d,_)::l=>dB d l
def ji (l:List Po):Int:=(l.map fun p=>(p.2.length:Int)).sum
theorem tC (l l':List Po) (last:Int):eg last (l++l')=eg last l++eg (dB last l) l':=by
 induction l generalizing last with
 |nil=>rfl
 |cons p l ih=>obtain⟨d,ps⟩:=p;simp[eg,dB,ih]
theorem tD (l l':List Po):ji (l++l')=ji l+ji l':=by simp[ji]
def rK (l:List Po) (k:Nat):Bl:=((eg (-1) (l.take (8*k))).length,dB (-1) (l.take (8*k)),dB (-1) (l.take (8*k+8)),((l.drop (8*k)).take 8).length)
def nt (l:List Po) (m:Nat):List Bl:=(List.range m).map (rK l)
def mR (l:List Po):Li:=(eg (-1) l,nt l ((l.length+7)/8),ji l)
def oU (l:List Int):Bool:=eA (-1) l&&l.all (fun n=>decide (n<2147483648))
def fS:Int→List Po→Bool
 |_,[]=>true
 |last,(d,ps)::l=>decide (last<d)&&decide (d<2147483648)&& !ps.isEmpty&&oU ps&&fS d l
theorem Bh:∀{l:List Po} {i:Nat} {last d:Int} {ps:List Int},fS last l=true→l[i]? =some (d,ps)→
  dB last (l.take i)<d∧d<2147483648∧ps≠[]∧oU ps=true∧dB last (l.take (i+1))=d∧last≤dB last (l.take i)
 |[],i,_,_,_,_,h=>by simp at h
 |(d0,p0)::l,0,last,d,ps,hm,h=>by
  simp only[List.getElem?_cons_zero,dN,ef]at h;obtain⟨rfl,rfl⟩:=h;simp only[fS,bW,decide_eq_true_eq]at hm;obtain⟨⟨⟨⟨h1,h2⟩,h3⟩,h4⟩,h5⟩:=hm;refine⟨h1,h2,?_,h4,by simp[dB],by simp[dB]⟩;rintro rfl;simp at h3
 |(d0,p0)::l,i+1,last,d,ps,hm,h=>by
  simp only[fS,bW,decide_eq_true_eq]at hm;obtain⟨⟨⟨⟨h1,h2⟩,h3⟩,h4⟩,h5⟩:=hm;obtain⟨a1,a2,a3,a4,a5,a6⟩:=Bh (i:=i) h5 (by simpa using h);refine⟨by simpa[dB]using a1,a2,a3,a4,by simpa[dB]using a5,?_⟩;simp only[oF,dB];omega
theorem xR {l:List Po} {i:Nat} {d:Int} {ps:List Int} (last:Int) (h:l[i]? =some (d,ps)):
  eg last (l.take (i+1))=eg last (l.take i)++put (d-dB last (l.take i)-1).toNat++eJ ps:=by
 obtain⟨h1,h2⟩:=an.1 h;rw[j8 h1,h2,tC];simp[eg]
theorem qo {l:List Po} {i:Nat} (last:Int):eg last l=eg last (l.take i)++eg (dB last (l.take i)) (l.drop i):=by
 conv=>lhs;rw[←l4 i l]
 exact tC _ _ _
theorem oV {l:List Int}:oU l=true↔eA (-1) l=true∧∀x∈l,x<2147483648:=by
 simp[oU]
def rL (b:List UInt8) (at_ ahead:Int):Po×Int×Int:=
 if(get b at_).2.2≠0 then((0,[]),0,(get b at_).2.2)
 else((IntKind.i64.wrap (IntKind.i64.wrap (ahead+1)+(get b at_).1),(gR b (get b at_).2.1).2.1),(gR b (get b at_).2.1).2.2,(gR b (get b at_).2.1).1)
theorem KD {l:List Po} {i:Nat} {d:Int} {ps:List Int} (hm:fS (-1) l=true) (h:l[i]? =some (d,ps)) (hl:ps.length≤1099511627776):
  rL (eg (-1) l) (((eg (-1) (l.take i)).length:Nat):Int) (dB (-1) (l.take i))=((d,ps),(((eg (-1) (l.take (i+1))).length:Nat):Int),0):=by
 obtain⟨h1,h2,h3,h4,h5,h6⟩:=Bh hm h;obtain⟨h7,h8⟩:=oV.1 h4;have e1:=qo (l:=l) (i:=i+1) (-1);have e2:=xR (-1) h;generalize hla:dB (-1) (l.take i)=last at h1 h6 e2 ⊢;generalize ri:eg (-1) (l.take i)=pre at e2 ⊢;generalize eg (dB (-1) (l.take (i+1))) (l.drop (i+1))=post at e1;rw[e2]at e1 ⊢;have g1:=Bg pre (eJ ps++post) (n:=(d-last-1).toNat) (by omega);have g2:=zz (pre++put (d-last-1).toNat) post h7 (fun x hx=>by have:=h8 x hx;omega) (by omega);rw[show pre++put (d-last-1).toNat++(eJ ps++post)=eg (-1) l from by rw[e1];simp]at g1;rw[←e1]at g2;unfold rL;rw[g1];simp only[ne_eq,not_true_eq_false,if_false];have rH:((pre.length+(put (d-last-1).toNat).length:Nat):Int)=((pre++put (d-last-1).toNat).length:Int):=by simp
 rw[rH,g2];refine Prod.ext (Prod.ext ?_ rfl) (Prod.ext ?_ rfl)
 ·simp only;rw[j9 (last+1) (by omega),j9 _ (by omega)];omega
 ·simp;omega
theorem qp {l:List Int} {k:Nat} {x:Int} (p:Int→Bool) (h:l[k]? =some x):(l.drop k).all p=(p x&&(l.drop (k+1)).all p):=by
 obtain⟨h1,h2⟩:=an.1 h;rw[dG h1,h2,List.all_cons]
theorem mi {l:List Po} {k:Nat} {d:Int} {ps:List Int} (h:l[k]? =some (d,ps)) (last:Int):
  fS last (l.drop k)=(decide (last<d)&&decide (d<2147483648)&& !ps.isEmpty&&oU ps&&fS d (l.drop (k+1))):=by
 obtain⟨h1,h2⟩:=an.1 h;rw[dG h1,h2,fS]
theorem xS {l:List Po} {i:Nat} {d:Int} {ps:List Int} (h:l[i]? =some (d,ps)):ji (l.take (i+1))=ji (l.take i)+ps.length:=by
 obtain⟨h1,h2⟩:=an.1 h;rw[j8 h1,h2,tD];simp[ji]
theorem oW (l:List Po):0≤ji l:=by
 induction l with
 |nil=>simp[ji]
 |cons p l ih=>simp only[ji,dQ,List.sum_cons]at ih ⊢;omega
theorem CN (l:List Po) (i:Nat):0≤ji (l.take i)∧ji (l.take i)≤ji l:=by
 refine⟨oW _,?_⟩
 conv=>rhs;rw[←l4 i l,tD]
 have:=oW (l.drop i);omega
theorem nu (l:List Po) (i:Nat):(eg (-1) (l.take i)).length≤(eg (-1) l).length:=by
 rw[qo (l:=l) (i:=i) (-1)];simp
theorem Ap (l:List Po) (k:Nat):nt l (k+1)=nt l k++[rK l k]:=by simp[nt,List.range_succ]
theorem sH:∀(l:List Po) (last:Int),fS last l=true→last<2147483648→∀n:Nat,last≤dB last (l.take n)∧dB last (l.take n)<2147483648
 |[],last,_,h,n=>by simp[dB];exact h
 |(d,ps)::l,last,hm,h,0=>by simp[dB];exact h
 |(d,ps)::l,last,hm,h,n+1=>by
  simp only[fS,bW,decide_eq_true_eq]at hm;obtain⟨⟨⟨⟨h1,h2⟩,h3⟩,h4⟩,h5⟩:=hm;have:=sH l d h5 h2 n;simp only[oF,dB];omega
theorem acM {M:aD} {w:World} {a b c d:Int} (ha: -9223372036854775808≤a∧a≤9223372036854775807) (hb: -9223372036854775808≤b∧b≤9223372036854775807) (hc: -9223372036854775808≤c∧c≤9223372036854775807) (hd: -9223372036854775808≤d∧d≤9223372036854775807):
  RT.bl.V M w (a,b,c,d) (.agg [.int .i64 a,.int .i64 b,.int .i64 c,.int .i64 d].toArray):=
 ⟨_,⟨[.int .i64 a],[.int .i64 b,.int .i64 c,.int .i64 d],rfl,⟨rfl,ha⟩,[.int .i64 b],[.int .i64 c,.int .i64 d],rfl,⟨rfl,hb⟩,[.int .i64 c],[.int .i64 d],rfl,⟨rfl,hc⟩,⟨rfl,hd⟩⟩,rfl⟩
theorem Xo {M:aD} {w:World} {bx:Nat} {b:List UInt8} {ks:List Bl} {rM:Int} {vb vk:Value} {e:TypeId} {fr:Nat×Nat} (hx:w.heap[bx]? =some (.cells #[vb,vk,.int .i64 rM] e fr)) (hm: ¬M bx) (hb:(RT.u8.sl).V M w b vb) (hk:((RT.bl).sl).V M w ks vk) (ht: -9223372036854775808≤rM∧rM≤9223372036854775807):
  cQ RT.li M w (.pointer (some ⟨bx,0,none⟩)) (b,ks,rM):=
 ⟨bx,0,[vb,vk,.int .i64 rM],rfl,hm,⟨[vb],[vk,.int .i64 rM],rfl,mg hb rfl rfl,[vk],[.int .i64 rM],rfl,mg hk rfl rfl,⟨rfl,ht⟩⟩,fun j v hj=>fM hx (by simpa using hj)⟩
theorem KE {l:List Po} {i:Nat} (h8:i%8=0) (hi:i<l.length):nt l ((i+7)/8)++[(((eg (-1) (l.take i)).length:Int),dB (-1) (l.take i),dB (-1) (l.take (min (i+8) l.length)),(((l.drop i).take 8).length:Int))]=nt l ((min (i+8) l.length+7)/8):=by
 rw[show(min (i+8) l.length+7)/8=(i+7)/8+1 from by omega,Ap];have e:8*((i+7)/8)=i:=by omega
 have e2:l.take (i+8)=l.take (min (i+8) l.length):=by rw[List.take_eq_take_iff];omega
 simp only[rK,e,e2]
theorem Ar (l:List Po):∀m:Nat,sG (nt l m)=((min (8*m) l.length:Nat):Int)
 |0=>by simp[sG,nt]
 |m+1=>by
  rw[Ap,Ao,Ar l m];simp only[rK,bg,dh];omega
theorem IB (l:List Po) (m:Nat):∀b∈nt l m,0≤b.2.2.2∧b.2.2.2≤8:=fun b hb=>by
 simp only[nt,bP]at hb;obtain⟨k,_,rfl⟩:=hb;simp only[rK,bg,dh];omega
end Go.K
namespace Go.K
section
variable {P:Program} {r:Option Nat} {n:Nat} {L:Sl} {ds:List Deferred} {w:World} {K:Kt} {ops:Array Oper} {rest:List Oper} {d:Nat} {x y:Operand} {ty:TypeId} {pos:String} {af:Array Edge}
theorem Rg.KF {t t' e:TypeId} {p:Option Addr} (ht:P.underlying t=some (.pointer e)) (hx:ev L x=some (.pointer p)) (hy:ev L y=some (.pointer none)) (hd:Nat.blt d n=true)
  (k:Rg P r n ops rest ((d,.bool (decide (p=none)))::L) ds w K):
  Rg P r n ops ({dst:=some d,op:= .binOp .eql t x y t',type:=ty,pos,after:=af,guard:=none}::rest) L ds w K:=
 .op (fun _ h=>by cases h) rfl rfl hd _ w (fun ρ h=>by
  have hpe:P.underlying t=some (.pointer (P.pointee t)):=by simp[Program.pointee,ht]
  have he:=run_equal_pointer_nil (P:=P) w t p hpe;simp only[execOp];rw[h x _ hx,h y _ hy]
  cases p<;>simp[eqGuard,binOp,run_underlying ht,he]) k
end
end Go.K
namespace Go.K
section
variable {P:Program} {r:Option Nat} {n:Nat} {L:Sl} {ds:List Deferred} {w:World}
theorem Bi {fn:Func} {Q:Value→World→Prop} {c t b:Nat} {vs:List Value} {fs:TypeDesc} {e:TypeId} {fr:Nat×Nat} {zv:Value} {size bytes:Nat} (hr:fn.results= #[.cell c t]) (hc:lk L c=some (.pointer (some ⟨b,0,none⟩))) (hu:P.underlying t=some fs) (hf:fs.isRow=true) (hi:TI P t zv size bytes) (hl:vs.length=size)
  (hb:w.heap[b]? =some (.cells vs.toArray e fr)) (h:Q (.agg vs.toArray) w):wR P fn Q .ret L [] w:=
 ⟨rfl,fun a ha=>⟨_,by
  obtain⟨i,zm,_,Ac,_⟩:=hi.get;have Tn:w.rangeAt b 0 vs:=fun j v hj=>fM hb (by simpa using hj)
  have:=run_loadVar_mid (P:=P) w b 0 t vs fs Tn hu hf (by simp[zm,Ac,hl]);simp[results,hr,ha _ _ hc,asAddr,this,cn],h⟩⟩
end
end Go.K
namespace Go.K
section
variable {P:Program} {r:Option Nat} {n:Nat} {L:Sl} {ds:List Deferred} {w:World} {K:Kt} {ops:Array Oper} {rest:List Oper} {d:Nat} {ty:TypeId} {pos:String} {af:Array Edge} {x y i:Operand} {α:Type} {A:RT α}
theorem Rg.opv {o:Oper} (oD:∀c,o.op≠ .defer c) (hg:o.guard=none) (hd:o.dst=none) (v:Value) (w':World)
  (gN:∀ρ:Operand→Value,(∀x u,ev L x=some u→ρ x=u)→(execOp ρ o).run P w= .ok (.value v) w')
  (h:Rg P r n ops rest L ds w' K):Rg P r n ops (o::rest) L ds w K:=by
 refine⟨fun a ha=>wpListIn_plain hg fun K' OL=>Cu oD ?_⟩;rw[gN a.eval (fun x u hx=>ha.eval hx),Oper.uponIn_value,hd];exact OL _ _ (h.run _ ha)
def qq (P:Program) (t:TypeId) (name:String) (f:FuncId) (ptr:Bool):Prop:=
 (P.info? t).bind (fun i=>(i.methods.find? (fun m=>m.name==name)).map fun m=>(m.path.toList.length,m.func))=some (0,some (f,ptr))
theorem qq.get {t:TypeId} {name:String} {f:FuncId} {ptr:Bool} (h:qq P t name f ptr):∃inf m,P.info? t=some inf∧inf.methods.find? (fun m=>m.name==name)=some m∧m.path= #[]∧m.func=some (f,ptr):=by
 unfold qq at h
 cases hi:P.info? t with
 |none=>rw[hi]at h;cases h
 |some inf=>
  rw[hi]at h
  cases hm:inf.methods.find? (fun m=>m.name==name)with
  |none=>simp[hm]at h
  |some m=>
   simp[hm]at h;exact⟨inf,m,rfl,hm,h.1,h.2⟩
def Fj (P:Program) (w:World) (t:TypeId) (v:Value) (name:String) (f:FuncId) (u:Value):Prop:=∀fuel:Nat,(method (fuel+1) t v name).run P w= .ok (f,u) w
theorem qq.ptr {t e:TypeId} {name:String} {f:FuncId} (h:qq P t name f true) (ht:P.underlying t=some (.pointer e)) (v:Value):Fj P w t v name f v:=fun fuel=>by
 obtain⟨inf,m,h1,h2,h3,h4⟩:=h.get;simp[method,typeInfo,h1,h2,h3,h4,follow,receiverAt,run_underlying ht,Place.get]
theorem CO (Cw:Array TypeId) (ty:TypeId) (a:Addr) (s m:String):(Builtin.ssaWrapNilChk_ Cw ty #[.pointer (some a),strVal s,strVal m]).run P w= .ok (.pointer (some a)) w:=rfl
theorem qq.load {t e:TypeId} {u:TypeDesc} {name:String} {f:FuncId} {b:Nat} {cs:Array Value} {te:TypeId} {fr:Nat×Nat} {v:Value} (h:qq P t name f false) (ht:P.underlying t=some (.pointer e)) (hu:P.underlying e=some u) (hf:flat u=true)
  (hb:w.heap[b]? =some (.cells cs te fr)) (hv:cs[0]? =some v):Fj P w t (.pointer (some ⟨b,0,none⟩)) name f v:=fun fuel=>by
 obtain⟨inf,m,h1,h2,h3,h4⟩:=h.get
 have E2:(isAgg e).run P w= .ok false w:=by
  unfold isAgg;rw[cn,run_underlying hu w]
  cases u<;>simp_all [flat,Result.andThen]
 have hl:(loadVar e ⟨b,0,none⟩).run P w= .ok v w:=by simp[loadVar,E2,Go.load,Sem.run,fM hb hv]
 simp[method,typeInfo,h1,h2,h3,h4,follow,receiverAt,run_underlying ht,Place.get,CO,asAddr,hl]
theorem Rg.invoke {t:TypeId} {v u:Value} {name:String} {f:FuncId} {xs:List Operand} {vs:List Value} {Cw:Array TypeId} {Q:Value→World→Prop} (hx:ev L x=some (.iface t v)) (jS:Ov L xs=some vs) (hd:Nat.blt d n=true) (hm:Fj P w t v name f u) (he:Enters P f)
  (hs:Spec P f (u::vs).toArray w Q) (k:∀v w',Q v w'→Rg P r n ops rest ((d,v)::L) ds w' K):
  Rg P r n ops ({dst:=some d,op:= .call {callee:= .invoke x name,args:=xs.toArray,argTypes:=Cw},type:=ty,pos,after:=af,guard:=none}::rest) L ds w K:=
 .E0 (w1:=w) (fun _ h=>by cases h) rfl rfl hd (fun ρ h=>by
  have h1:=oJ h jS;have h2:=hm (P.types.size+99);rw[show P.types.size+99+1=P.types.size+Made.depth from rfl]at h2;simp only[execOp,resolve,fa,h1,h x _ hx];have h3:=he (u::vs).toArray w;simp[Go.invoke,callMethod,h2]at h3 ⊢;exact h3) hs k
def isI:TypeDesc→Bool
 |.interface _=>true
 |_=>false
theorem Rg.xm {t:TypeId} {u:TypeDesc} {v:Value} (hu:P.underlying t=some u) (hn:isI u=false) (hx:ev L x=some v) (hd:Nat.blt d n=true) (k:Rg P r n ops rest ((d,.iface t v)::L) ds w K):
  Rg P r n ops ({dst:=some d,op:= .makeInterface t x,type:=ty,pos,after:=af,guard:=none}::rest) L ds w K:=
 .op (fun _ h=>by cases h) rfl rfl hd _ w (fun ρ h=>by
  simp only[execOp,h x _ hx]
  cases u<;>simp_all [Instr.makeInterface,run_underlying hu,isI]) k
theorem Rg.Hl {t xt:TypeId} {u:TypeDesc} {v:Value} (hu:P.underlying t=some u) (hn:isI u=false) (hx:ev L x=some (.iface t v)) (hd:Nat.blt d n=true) (k:Rg P r n ops rest ((d,v)::L) ds w K):
  Rg P r n ops ({dst:=some d,op:= .typeAssert x xt t false,type:=ty,pos,after:=af,guard:=none}::rest) L ds w K:=
 .op (fun _ h=>by cases h) rfl rfl hd _ w (fun ρ h=>by
  simp only[execOp,h x _ hx]
  cases u<;>simp_all [Instr.typeAssert,run_underlying hu,isI]) k
theorem dZ.set {M:aD} {x:α} {vs:List Value} (hx:A.R M w x vs):∀{xs:List α} {C:List Value},dZ A M w xs C→∀{j:Nat},j<xs.length→dZ A M w (xs.set j x) (C.take (j*A.n)++vs++C.drop (j*A.n+A.n))
 |[],_,_,j,hj=>by simp at hj
 |y::xs,_,⟨us,rest,h1,h2,h3⟩,0,_=>by
  subst h1;have hl:=A.len h2;refine⟨vs,rest,?_,hx,h3⟩;rw[Nat.zero_mul,List.take_zero,fQ,fR,←hl,List.drop_left]
 |y::xs,_,⟨us,rest,h1,h2,h3⟩,j+1,hj=>by
  subst h1;have hl:=A.len h2;refine⟨us,_,?_,h2,dZ.set hx h3 (j:=j) (by simpa using hj)⟩;have e1:(j+1)*A.n=us.length+j*A.n:=by rw[Nat.add_mul,hl];omega
  rw[e1,List.take_length_add_append,show us.length+j*A.n+A.n=us.length+(j*A.n+A.n)from by omega,List.drop_length_add_append];simp
theorem dZ.take {M:aD}:∀{xs:List α} {C:List Value},dZ A M w xs C→∀m,dZ A M w (xs.take m) (C.take (m*A.n))
 |xs,C,h,0=>by simp;exact(rfl:([]:List Value)=[])
 |[],C,h,m+1=>by cases h;simp;exact(rfl:([]:List Value)=[])
 |y::xs,_,⟨us,rest,h1,h2,h3⟩,m+1=>by
  subst h1;have hl:=A.len h2;refine⟨us,rest.take (m*A.n),?_,h2,dZ.take h3 m⟩;rw[show(m+1)*A.n=us.length+m*A.n from by rw[Nat.add_mul,hl];omega,List.take_length_add_append]
theorem Hm {l vs:List Value} {o:Nat} (h:o+vs.length≤l.length) (t:Nat):(l.take o++vs++l.drop (o+vs.length))[t]? =if o≤t∧t<o+vs.length then vs[t-o]? else l[t]? :=by
 have h1:(l.take o).length=o:=by rw[bg];omega
 rcases cG t o with h2|h2
 ·rw[if_neg (by omega),List.append_assoc,fC (by omega),cp,if_pos h2]
 ·rcases cG t (o+vs.length)with h3|h3
  ·rw[if_pos ⟨h2,h3⟩,fC (by rw[bc];omega),jB (by omega),h1]
  ·rw[if_neg (by omega),jB (by rw[bc];omega),List.getElem?_drop,bc,h1];congr 1;omega
theorem Own.uR {e:TypeId} {M:aD} {base:Nat} {v:Value} {xs:List α} (h:Own A e M w base v xs) (hv:v≠ .slice none 0 0):∃g cap cur,v= .slice (some ⟨g,0,none⟩) xs.length cap∧base≤g∧M g∧w.heap[g]? =some (.cells cur e (0,0)):=by
 obtain⟨⟨C,hr,_⟩,hm⟩:=h;rcases hr.2 with⟨h1,_⟩|⟨g,cap,cur,h1,h2,h3,_⟩
 ·exact absurd h1 hv
 ·exact⟨g,cap,cur,h1,h2,hm g (by rw[h1];rfl),h3⟩
theorem Own.setCells {e:TypeId} {M:aD} {base g len cap j:Nat} {xs:List α} {x:α} {vs:List Value} (h:Own A e M w base (.slice (some ⟨g,0,none⟩) len cap) xs) (hj:j<xs.length) (hx:A.R M w x vs):
  ∃w',w'=w.setCells g (j*A.n) vs∧Own A e M w' base (.slice (some ⟨g,0,none⟩) len cap) (xs.set j x)∧Step M w M w' (fun k=>k=g):=by
 obtain⟨⟨C,hr,ha⟩,hm⟩:=h;have EV:=hm g rfl;have hl:=A.len hx;rcases hr.2 with⟨h1,_⟩|⟨g',xD,cur,h1,h2,h3,h4,h5,h6,h7⟩
 ·cases h1
 ·simp only[fT,dN,nF]at h1;obtain⟨⟨rfl,_⟩,rfl,rfl⟩:=h1;obtain⟨EU,c1,c2,c3,c4⟩:=mX vs w g (j*A.n) cur e (0,0) h3;have hs:=c4 M EV;have JS:j*A.n+A.n≤xs.length*A.n:=by have:=gr A.n (show j+1≤xs.length from hj);rw[Nat.add_mul]at this;omega
  have lz:xs.length*A.n≤cap*A.n:=gr _ h4;have SN:C.length=xs.length*A.n:=hr.1;refine⟨_,rfl,⟨⟨C.take (j*A.n)++vs++C.drop (j*A.n+A.n),⟨?_,.inr ⟨g,cap,EU,by rw[eV],h2,c1,by rw[eV];exact h4,h5,by rw[c2];exact h6,?_⟩⟩,dZ.set (A.le hs.le hx) (ha.le hs.le) hj⟩,fun b hb=>hm b hb⟩,hs⟩
  ·rw[bc,bc,bg,dh,SN,eV];omega
  ·rw[eV];refine fp fun t=>?_
   have KG:=Hm (l:=C) (vs:=vs) (o:=j*A.n) (by rw[hl,SN];exact JS) t;rw[hl]at KG;rw[KG,cp];have W9:∀t,t<xs.length*A.n→C[t]? =cur[t]? :=fun t ht=>by rw[←h7,cp,if_pos ht];simp
   split
   ·rename_i ht
    have e0:EU.toList[t]? =EU[t]? :=by simp
    rw[e0,c3 t,hl];by_cases h8:j*A.n≤t∧t<j*A.n+A.n
    ·rw[if_pos ⟨h8.1,h8.2,by omega⟩,if_pos h8]
    ·rw[if_neg (fun h=>h8 ⟨h.1,h.2.1⟩),if_neg h8,W9 t ht]
   ·rename_i ht
    rw[if_neg (by omega),dx (by rw[SN];omega)]
theorem Rg.sI {t e:TypeId} {κ:IntKind} {j:Int} {b o len cap bytes size:Nat} {zv:Value} (ht:P.underlying t=some (.slice e)) (hi:TI P e zv size bytes) (hx:ev L x=some (.slice (some ⟨b,o,none⟩) len cap)) (E3:ev L i=some (.int κ j)) (hd:Nat.blt d n=true) (hj:0≤j∧j<len) {q:Nat} (hq:o+j.toNat*size=q)
  (k:Rg P r n ops rest ((d,.pointer (some ⟨b,q,none⟩))::L) ds w K):
  Rg P r n ops ({dst:=some d,op:= .indexAddr t x i,type:=ty,pos,after:=af,guard:=none}::rest) L ds w K:=
 .op (fun _ h=>by cases h) rfl rfl hd _ w (fun ρ h=>by
  simp only[execOp,h x _ hx,h i _ E3];simp[Instr.indexAt,run_underlying ht,asIntOf,hj,hi.sizeOf,wK,hq]) k
theorem Own.ptr {e:TypeId} {M:aD} {base g len cap j:Nat} {xs:List α} {x:α} (h:Own A e M w base (.slice (some ⟨g,0,none⟩) len cap) xs) (hx:xs[j]? =some x):cQ A (fun k=>M k∧k≠g) w (.pointer (some ⟨g,j*A.n,none⟩)) x:=by
 obtain⟨⟨C,hr,ha⟩,hm⟩:=h;rcases hr.2 with⟨h1,_⟩|⟨g',xD,cur,h1,h2,h3,h4,h5,h6,h7⟩
 ·cases h1
 ·simp only[fT,dN,nF]at h1;obtain⟨⟨rfl,_⟩,rfl,rfl⟩:=h1;obtain⟨vs,hv,hj⟩:=ha.at_ j x hx;refine⟨g,_,vs,rfl,fun h=>h.2 rfl,A.le (fun b _ hm=>⟨fun h=>hm h.1,rfl⟩) hv,fun t u hu=>?_⟩;have h8:=hj t u hu;rw[←h7,cp]at h8
  split at h8
  ·exact fM h3 (by simpa using h8)
  ·cases h8
theorem Own.cut {e:TypeId} {M:aD} {base g len cap m:Nat} {xs:List α} (h:Own A e M w base (.slice (some ⟨g,0,none⟩) len cap) xs) (hm:m≤xs.length):Own A e M w base (.slice (some ⟨g,0,none⟩) m cap) (xs.take m):=by
 obtain⟨⟨C,hr,ha⟩,hmm⟩:=h;have hl:(xs.take m).length=m:=by rw[bg];omega
 rcases hr.2 with⟨h1,_⟩|⟨g',xD,cur,h1,h2,h3,h4,h5,h6,h7⟩
 ·cases h1
 ·simp only[fT,dN,nF]at h1;obtain⟨⟨rfl,_⟩,rfl,rfl⟩:=h1;have KH:=gr A.n hm;refine⟨⟨C.take (m*A.n),⟨by rw[bg,hr.1,hl];omega,.inr ⟨g,cap,cur,by rw[hl],h2,h3,by omega,h5,h6,?_⟩⟩,ha.take m⟩,fun b hb=>hmm b hb⟩;rw[hl,←h7,List.take_take,qa KH]
theorem Rg.Tq {t e:TypeId} {h:Operand} {κ:IntKind} {hi:Int} {g len cap bytes size:Nat} {zv:Value} (ht:P.underlying t=some (.slice e)) (A6:TI P e zv size bytes) (hx:ev L x=some (.slice (some ⟨g,0,none⟩) len cap)) (hh:ev L h=some (.int κ hi)) (hd:Nat.blt d n=true) (hb:0≤hi∧hi≤cap)
  (k:Rg P r n ops rest ((d,.slice (some ⟨g,0,none⟩) hi.toNat cap)::L) ds w K):
  Rg P r n ops ({dst:=some d,op:= .slice t x none (some h) none,type:=ty,pos,after:=af,guard:=none}::rest) L ds w K:=by
 refine .op (fun _ h=>by cases h) rfl rfl hd _ w (fun ρ hρ=>?_) k;simp only[execOp,hρ x _ hx,cW,hY,hρ h _ hh];rw[cn,run_sliceAt_slice _ _ _ _ _ _ (iV ht),run_slice_h _ _ _ _ _ (iV ht) _ _ hb.1 hb.2,oK ht,A6.sizeOf];simp[sliced,wK]
theorem Rg.KI {t e:TypeId} {l:Operand} {κ:IntKind} {lo:Int} {g len cap bytes size:Nat} {zv:Value} (ht:P.underlying t=some (.slice e)) (A6:TI P e zv size bytes) (hx:ev L x=some (.slice (some ⟨g,0,none⟩) len cap)) (hl:ev L l=some (.int κ lo)) (hd:Nat.blt d n=true) (hb:0≤lo∧lo≤len∧lo<cap)
  (k:Rg P r n ops rest ((d,.slice (some ⟨g,lo.toNat*size,none⟩) (len-lo.toNat) (cap-lo.toNat))::L) ds w K):
  Rg P r n ops ({dst:=some d,op:= .slice t x (some l) none none,type:=ty,pos,after:=af,guard:=none}::rest) L ds w K:=by
 refine .op (fun _ h=>by cases h) rfl rfl hd _ w (fun ρ hρ=>?_) k;simp only[execOp,hρ x _ hx,cW,hY,hρ l _ hl];rw[cn,run_sliceAt_slice _ _ _ _ _ _ (iV ht),run_slice_l _ _ _ _ _ (iV ht) _ _ hb.1 hb.2.1,oK ht,A6.sizeOf];have eQ: ¬cap=lo.toNat:=by omega
 simp[sliced,wK,eQ]
theorem Rg.Fk {t e:TypeId} {zv:Value} {bytes:Nat} {M:aD} {base g len cap j:Nat} {xs:List α} {a:α} {v:Value} (hi:TI P t zv A.n bytes) (hg:A.agg=true) (hx:ev L x=some (.pointer (some ⟨g,j*A.n,none⟩))) (hy:ev L y=some v) (h:Own A e M w base (.slice (some ⟨g,0,none⟩) len cap) xs) (hj:j<xs.length) (hv:A.V M w a v)
  (k:∀w',Own A e M w' base (.slice (some ⟨g,0,none⟩) len cap) (xs.set j a)→Step M w M w' (fun k=>k=g)→Rg P r n ops rest L ds w' K):
  Rg P r n ops ({dst:=none,op:= .store t x y,type:=ty,pos,after:=af,guard:=none}::rest) L ds w K:=by
 obtain⟨vs,jS,rfl⟩:=hv;obtain⟨w',Tt,ho,hs⟩:=h.setCells hj jS;obtain⟨⟨C,hr,ha⟩,hm⟩:=h;have hl:=A.len jS;have h1:=A.one jS;rcases hr.2 with⟨h2,_⟩|⟨g',xD,cur,h2,_,h3,h4,h5,h6,h7⟩
 ·cases h2
 ·simp only[fT,dN,nF]at h2;obtain⟨⟨rfl,_⟩,rfl,rfl⟩:=h2;have JS:j*A.n+A.n≤xs.length*A.n:=by have:=gr A.n (show j+1≤xs.length from hj);rw[Nat.add_mul]at this;omega
  have lz:xs.length*A.n≤cap*A.n:=gr _ h4;refine .QU (fun _ h=>by cases h) rfl rfl w' (fun ρ hρ=>?_) (k w' ho hs);subst Tt;simp only[execOp,hρ x _ hx,hρ y _ hy];obtain⟨inf,zm,_,Ac,_⟩:=hi.get
  have:=run_storeAt_mid (P:=P) w g (j*A.n) t vs.toArray (fun q hq=>by
   have hq':j*A.n+q<cur.size:=by simp at hq;omega
   exact⟨by rw[fM h3 (v:=cur[j*A.n+q]) (by simp[hq'])];rfl,by simp[World.frozen?,h3]⟩) (by simp[zm,Ac,hl]) (by simpa[Array.all_eq_true_iff_forall_mem]using h1)
  simp[RT.val,hg,this]
theorem Rg.KJ {t e:TypeId} {zv:Value} {bytes:Nat} {M:aD} {base g len cap j:Nat} {κ:IntKind} {xs:List Int} {a:Int} (hi:TI P t zv 1 bytes) (hx:ev L x=some (.pointer (some ⟨g,j,none⟩))) (hy:ev L y=some (.int κ a)) (h:Own (RT.int κ) e M w base (.slice (some ⟨g,0,none⟩) len cap) xs) (hj:j<xs.length) (ha:κ.min≤a∧a≤κ.max)
  (k:∀w',Own (RT.int κ) e M w' base (.slice (some ⟨g,0,none⟩) len cap) (xs.set j a)→Step M w M w' (fun k=>k=g)→Rg P r n ops rest L ds w' K):
  Rg P r n ops ({dst:=none,op:= .store t x y,type:=ty,pos,after:=af,guard:=none}::rest) L ds w K:=by
 have hR:(RT.int κ).R M w a [.int κ a]:=⟨rfl,ha.1,ha.2⟩;obtain⟨w',Tt,ho,hs⟩:=h.setCells hj hR;obtain⟨⟨C,hr,_⟩,hm⟩:=h;rcases hr.2 with⟨h2,_⟩|⟨g',xD,cur,h2,_,h3,h4,h5,h6,h7⟩
 ·cases h2
 ·simp only[fT,dN,nF]at h2;obtain⟨⟨rfl,_⟩,rfl,rfl⟩:=h2;have e1:(RT.int κ).n=1:=rfl;rw[e1]at h6 Tt;refine .QU (fun _ h=>by cases h) rfl rfl w' (fun ρ hρ=>?_) (k w' ho hs);subst Tt;simp only[execOp,hρ x _ hx,hρ y _ hy];have:=nr (P:=P) hi (w:=w) (b:=g) (o:=j) (v:= .int κ a) rfl (by rw[fM h3 (v:=cur[j]'(by omega)) (by simp)];rfl) (by simp[World.frozen?,h3]);simp[this,World.setCells]
theorem Rg.Xp {t e:TypeId} {zv:Value} {bytes size:Nat} (ht:P.underlying t=some (.slice e)) (hi:TI P e zv size bytes) (M:aD) (hd:Nat.blt d n=true)
  (k:∀g w',w.heap.size≤g→g<w'.heap.size→w'.heap[g]? =some (.cells #[] e (0,0))→Step M w (ins M g) w' aC→Rg P r n ops rest ((d,.slice (some ⟨g,0,none⟩) 0 0)::L) ds w' K):
  Rg P r n ops ({dst:=some d,op:= .buildSlice t 0 #[],type:=ty,pos,after:=af,guard:=none}::rest) L ds w K:=by
 refine .op (fun _ h=>by cases h) rfl rfl hd (.slice (some ⟨w.heap.size,0,none⟩) 0 0) (w.alloc (.cells #[] e)) (fun ρ hρ=>?_) (k w.heap.size _ (aN _) (by simp) (cr w _) ((dm M w _).own (aN _) (by simp)));simp only[execOp,Instr.buildSlice,cn,run_underlying ht,cC,hi.sizeOf];simp[newRow,newObj,Sem.run,Instr.fill];have h0:Array.range 0= #[]:=by apply Array.ext<;>simp
 simp[h0]
end
theorem Own.empty {α:Type} {A:RT α} {e:TypeId} {M:aD} {w:World} {base g:Nat} (h:w.heap[g]? =some (.cells #[] e (0,0))) (hb:base≤g) (hm:M g):Own A e M w base (.slice (some ⟨g,0,none⟩) 0 0) []:=
 ⟨⟨[],⟨by simp,.inr ⟨g,0,#[],rfl,hb,h,aN _,bD _,by simp,by simp⟩⟩,rfl⟩,fun b hb=>by cases hb;exact hm⟩
theorem Own.KK {e:TypeId} {M:aD} {w:World} {base g len cap j:Nat} {κ:IntKind} {xs:List Int} {x:Int} (h:Own (RT.int κ) e M w base (.slice (some ⟨g,0,none⟩) len cap) xs) (hx:xs[j]? =some x):cQ (RT.int κ) (fun k=>M k∧k≠g) w (.pointer (some ⟨g,j,none⟩)) x:=by
 have:=h.ptr hx
 rwa [show j*(RT.int κ).n=j from eP j]at this
end Go.K
namespace Go.K
section
variable {P:Program} {r:Option Nat} {n:Nat} {L:Sl} {ds:List Deferred} {w:World} {K:Kt} {ops:Array Oper} {rest:List Oper} {d:Nat} {x y i:Operand} {ty:TypeId} {pos:String} {af:Array Edge}
theorem Rg.Fl {t e:TypeId} {κ:IntKind} {j:Int} {b len cap bytes:Nat} {zv:Value} (ht:P.underlying t=some (.slice e)) (hi:TI P e zv 1 bytes) (hx:ev L x=some (.slice (some ⟨b,0,none⟩) len cap)) (E3:ev L i=some (.int κ j)) (hd:Nat.blt d n=true) (hj:0≤j∧j<len)
  (k:Rg P r n ops rest ((d,.pointer (some ⟨b,j.toNat,none⟩))::L) ds w K):
  Rg P r n ops ({dst:=some d,op:= .indexAddr t x i,type:=ty,pos,after:=af,guard:=none}::rest) L ds w K:=
 .op (fun _ h=>by cases h) rfl rfl hd _ w (fun ρ h=>by
  simp only[execOp,h x _ hx,h i _ E3];simp[Instr.indexAt,run_underlying ht,asIntOf,hj,hi.sizeOf,wK]) k
theorem Rg.mj {t e:TypeId} {κ:IntKind} {j:Int} {b len bytes:Nat} {zv:Value} (ht:P.underlying t=some (.array len e)) (hi:TI P e zv 1 bytes) (hx:ev L x=some (.pointer (some ⟨b,0,none⟩))) (E3:ev L i=some (.int κ j)) (hd:Nat.blt d n=true) (hj:0≤j∧j<len)
  (k:Rg P r n ops rest ((d,.pointer (some ⟨b,j.toNat,none⟩))::L) ds w K):
  Rg P r n ops ({dst:=some d,op:= .indexAddr t x i,type:=ty,pos,after:=af,guard:=none}::rest) L ds w K:=
 .op (fun _ h=>by cases h) rfl rfl hd _ w (fun ρ h=>by
  simp only[execOp,h x _ hx,h i _ E3];simp[Instr.indexAt,run_underlying ht,asIntOf,hj,hi.sizeOf,wK,Instr.sureAddr]) k
theorem Rg.mk0 {t e:TypeId} {len:Nat} {bytes:Nat} {zv:Value} (M:aD) (ht:P.underlying t=some (.slice e)) (hi:TI P e zv 1 bytes) (hz:zv.cells= #[zv]) (hx:ev L x=some (.int .i64 len)) (hy:ev L y=some (.int .i64 len)) (hd:Nat.blt d n=true) (hb:bytes*len≤140737488355328) (hl:len≤9223372036854775807)
  (k:∀b w',w.heap.size≤b→b<w'.heap.size→w'.heap[b]? =some (.cells (List.replicate len zv).toArray e (0,0))→Step M w (ins M b) w' aC→Rg P r n ops rest ((d,.slice (some ⟨b,0,none⟩) len len)::L) ds w' K):
  Rg P r n ops ({dst:=some d,op:= .makeSlice t x y,type:=ty,pos,after:=af,guard:=none}::rest) L ds w K:=by
 obtain⟨inf,i1,i2,i3,i4⟩:=hi.get
 have hm:madeCells zv.cells (len*1)=(List.replicate len zv).toArray:=by
  apply Array.ext
  ·simp[madeCells]
  ·intro j h1 h2;simp[madeCells,hz,Nat.mod_one]
 refine .op (fun _ h=>by cases h) rfl rfl hd (.slice (some ⟨w.heap.size,0,none⟩) len len) (w.alloc (.cells (List.replicate len zv).toArray e)) (fun ρ hρ=>?_) (k w.heap.size _ (aN _) (by simp) (cr w _) ((dm M w _).own (aN _) (by simp)))
 have hbc:(inf.bytes:Int)*(len:Int)≤281474976710656:=by
  rw[i4];have h1:((bytes*len:Nat):Int)≤281474976710656:=by omega
  rwa [Int.natCast_mul]at h1
 have hr:=run_make (P:=P) w t e inf zv ht i1 i2 .i64 .i64 (len:Int) (len:Int) (by omega) (Int.le_refl _) hbc (by omega);simp only[ay,i3,hm]at hr;simp only[execOp,hρ x _ hx,hρ y _ hy];simp[cn,hr]
theorem Rg.Xq {xt:TypeId} {p:Nat} (hx:ev L x=some (.int .u64 p)) (hd:Nat.blt d n=true) (hp:p<2^64) (k:Rg P r n ops rest ((d,.int .u64 ((2^64-1-p:Nat):Int))::L) ds w K):
  Rg P r n ops ({dst:=some d,op:= .unOp .xor xt x,type:=ty,pos,after:=af,guard:=none}::rest) L ds w K:=by
 refine .op (fun _ h=>by cases h) rfl rfl hd _ w (fun ρ h=>?_) k
 have e:(2^64-1:Nat)^^^p=2^64-1-p:=by
  apply Nat.eq_of_testBit_eq;intro j;have h1:=Nat.testBit_two_pow_sub_succ (x:=p) (n:=64) hp j;rw[show 2^64-1-p=2^64-(p+1)from by omega,h1,Nat.testBit_xor,Nat.testBit_two_pow_sub_one];by_cases hj:j<64
  ·simp[hj]
  ·have:p.testBit j=false:=Nat.testBit_lt_two_pow (iu hp (np (by decide) (by omega)));simp[hj,this]
 simp only[execOp,h x _ hx]
 have hb:(BitVec.ofInt IntKind.u64.bits IntKind.u64.max^^^BitVec.ofInt IntKind.u64.bits (p:Int)).toNat=2^64-1-p:=by
  rw[BitVec.toNat_xor,qg,qg];have h1:(IntKind.u64.max%((2^IntKind.u64.bits:Nat):Int)).toNat=2^64-1:=by decide
  have h2:((p:Int)%((2^IntKind.u64.bits:Nat):Int)).toNat=p:=by
   change((p:Int)%((18446744073709551616:Nat):Int)).toNat=p;omega
  rw[h1,h2,e]
 have hw:IntKind.u64.wrap ((2^64-1-p:Nat):Int)=((2^64-1-p:Nat):Int):=gu _ (by omega)
 have hu:(Op.unary .xor (.int .u64 (p:Int))).run P w= .ok (.int .u64 ((2^64-1-p:Nat):Int)) w:=by
  change(Op.intBits .xor .u64 IntKind.u64.max (p:Int)).run P w=_;unfold Op.intBits;simp only[];rw[hb,hw];simp
 simp[hu]
theorem Rg.acO {xt:TypeId} {κ:IntKind} {p:Int} (hx:ev L x=some (.int κ p)) (hd:Nat.blt d n=true) (k:Rg P r n ops rest ((d,.int κ (κ.wrap (0-p)))::L) ds w K):
  Rg P r n ops ({dst:=some d,op:= .unOp .neg xt x,type:=ty,pos,after:=af,guard:=none}::rest) L ds w K:=by
 refine .op (fun _ h=>by cases h) rfl rfl hd _ w (fun ρ h=>?_) k;simp only[execOp,h x _ hx];simp[Op.unary,Op.intArith]
theorem KL (p q:Nat) (hp:p<2^64) (hq:q<2^64):IntKind.u64.wrap (BitVec.ofInt IntKind.u64.bits (p:Int)&&&BitVec.ofInt IntKind.u64.bits (q:Int)).toNat=((p&&&q:Nat):Int):=by
 have h:∀z:Nat,z<2^64→((z:Int)%((2^IntKind.u64.bits:Nat):Int)).toNat=z:=fun z hz=>by
  change((z:Int)%((18446744073709551616:Nat):Int)).toNat=z;omega
 rw[BitVec.toNat_and,qg,qg,h p hp,h q hq];exact gu _ (by have:=Nat.and_le_left (n:=p) (m:=q);omega)
end
def bit (ws:List Nat) (i:Nat):Bool:=(ws.getD (i/64) 0).testBit (i%64)
def Words (ws:List Nat):Prop:=∀x∈ws,x<2^64
theorem Words.get {ws:List Nat} (h:Words ws) (k:Nat):ws.getD k 0<2^64:=by
 rw[aA]
 cases hx:ws[k]? with
 |none=>simp
 |some x=>exact h x (az hx)
theorem KM (ws:List Nat) (k j x:Nat) (hk:k<ws.length):(ws.set k x).getD j 0=if j=k then x else ws.getD j 0:=by
 rw[aA,aA,dq];by_cases h:k=j
 ·subst h;simp[hk]
 ·rw[if_neg h,if_neg (fun e=>h e.symm)]
theorem Words.set {ws:List Nat} (h:Words ws) {k x:Nat} (hx:x<2^64):Words (ws.set k x):=fun y hy=>by
 rcases List.mem_or_eq_of_mem_set hy with h1|h1
 ·exact h y h1
 ·rw[h1];exact hx
theorem CP (x i t:Nat):(x/2^i).testBit t=x.testBit (t+i):=Nat.testBit_div_two_pow x t
theorem KN:∀x:Nat,0<x→∃k m,x=2^k*(2*m+1):=by
 intro x
 induction x using Nat.strongRecOn with
 |_ x ih=>
  intro h;by_cases h2:x%2=1
  ·exact⟨0,x/2,by omega⟩
  ·obtain⟨k,m,e⟩:=ih (x/2) (by omega) (by omega);refine⟨k+1,m,?_⟩;rw[Nat.pow_succ,Nat.mul_right_comm,←e];omega
theorem KO (m:Nat):(2*m+1).testBit 0=true:=by rw[Nat.testBit_zero];exact decide_eq_true (by omega)
theorem O5 (m:Nat):(2*m).testBit 0=false:=by rw[Nat.testBit_zero];exact decide_eq_false (by omega)
theorem Bj {k m:Nat}:(2^k*(2*m+1)).testBit k=true∧∀t,t<k→(2^k*(2*m+1)).testBit t=false:=by
 have h:=fun j=>Nat.testBit_two_pow_mul_add (2*m+1) (b:=0) (i:=k) (Nat.two_pow_pos k) j
 simp only[Nat.add_zero]at h;constructor
 ·rw[h k,if_neg (by omega),Nat.sub_self,KO]
 ·intro t ht;rw[h t,if_pos ht,Nat.zero_testBit]
theorem O6 {k m:Nat} (hx:2^k*(2*m+1)<2^64):(2^k*(2*m+1))&&&(2^64-2^k*(2*m+1))=2^k:=by
 have hp:=Nat.two_pow_pos k;have tp:0<2^k*(2*m+1):=Nat.mul_pos hp (by omega)
 have e1:2^64-2^k*(2*m+1)=2^64-((2^k*(2*m)+(2^k-1))+1):=by
  have:2^k*(2*m+1)=2^k*(2*m)+2^k:=by rw[Nat.mul_add,eP]
  omega
 apply Nat.eq_of_testBit_eq;intro j
 have e2:2^k*(2*m)+(2^k-1)<2^64:=by
  have:2^k*(2*m+1)=2^k*(2*m)+2^k:=by rw[Nat.mul_add,eP]
  omega
 rw[Nat.testBit_and,e1,Nat.testBit_two_pow_sub_succ e2,Nat.testBit_two_pow_mul_add _ (by omega),Nat.testBit_two_pow_sub_one,Nat.testBit_two_pow];have h:=Nat.testBit_two_pow_mul_add (2*m+1) (b:=0) (i:=k) hp j;simp only[Nat.add_zero]at h;rw[h];rcases eM j k with h1|h1|h1
 ·rw[if_pos h1,Nat.zero_testBit,kM,decide_eq_false (by omega)]
 ·subst h1
  have hj:j<64:=by
   rcases cG j 64 with h2|h2
   ·exact h2
   ·have:=np (n:=2) (by decide) h2;have:2^j*1≤2^j*(2*m+1):=zi _ (by omega);omega
  rw[if_neg (jq _),if_neg (jq _),Nat.sub_self,KO,O5,decide_eq_true hj,decide_eq_true rfl];rfl
 ·rw[if_neg (by omega),if_neg (by omega),decide_eq_false (show¬k=j by omega)];obtain⟨t,rfl⟩:∃t,j=k+(t+1):=⟨j-k-1,by omega⟩;rw[show k+(t+1)-k=t+1 from by omega,Nat.testBit_succ,Nat.testBit_succ,show(2*m+1)/2=m from by omega,show 2*m/2=m from by omega]
  cases m.testBit t<;>simp
def IC:List Nat:=[0,1,56,2,57,49,28,3,61,58,42,50,38,29,17,4,62,47,59,36,45,43,51,22,53,39,33,30,24,18,12,5,63,55,48,27,60,41,37,16,46,35,44,21,52,32,23,11,54,26,40,15,34,20,31,10,25,14,19,9,13,8,7,6]
theorem Tu:∀k,k<64→(2^k*285870213051353865)%2^64/2^58<64∧IC[(2^k*285870213051353865)%2^64/2^58]? =some k:=by decide+kernel
theorem Bk (n:Nat):IntKind.u64.wrap (n:Int)=((n%2^64:Nat):Int):=by
 have:IntKind.u64.wrap (n:Int)=(n:Int)%18446744073709551616:=by simp[IntKind.wrap,IntKind.bits,IntKind.signed]
 rw[this];omega
theorem Xr (x t:Nat) (ht:t<64):((x:Int)).fdiv (2^min ((t:Int)).toNat IntKind.u64.bits)=((x/2^t:Nat):Int):=by
 rw[ay,show min t IntKind.u64.bits=t from qa (show t≤64 by omega),show(2:Int)^t=((2^t:Nat):Int)from by simp,Int.fdiv_eq_ediv_of_nonneg _ (Int.natCast_nonneg _)];rfl
theorem acP (t:Nat) (ht:t<64):IntKind.u64.wrap (1*2^min ((t:Int)).toNat IntKind.u64.bits)=((2^t:Nat):Int):=by
 have h:(2:Nat)^t<2^64:=Nat.pow_lt_pow_right (by decide) ht;rw[ay,show min t IntKind.u64.bits=t from qa (show t≤64 by omega),Int.one_mul,show(2:Int)^t=((2^t:Nat):Int)from by simp,Bk,nL h]
def qs (ws:List Nat):Array Value:=(ws.map fun(x:Nat)=>Value.int .u64 (x:Int)).toArray
theorem mn {ws:List Nat} {k:Nat} (hk:k<ws.length):(qs ws)[k]? =some (.int .u64 (ws.getD k 0:Nat)):=by
 simp[qs,aA,ar hk]
theorem xT (ws:List Nat) (k x:Nat):(qs ws).setIfInBounds k (.int .u64 (x:Int))=qs (ws.set k x):=by
 simp[qs,List.map_set]
structure jK (Ts Tw:TypeId) (n:Nat) (ws:List Nat) (M:aD) (w:World) (bs bw:Nat):Prop where
 ms:M bs
 mw:M bw
 ne:bs≠bw
 s:w.heap[bs]? =some (.cells #[.int .i64 n,.slice (some ⟨bw,0,none⟩) ws.length ws.length] Ts (0,0))
 w:w.heap[bw]? =some (.cells (qs ws) Tw (0,0))
 len:ws.length=(n+63)/64
 ok:Words ws
 nn:n≤1099511627776
theorem jK.step {Ts Tw:TypeId} {n:Nat} {ws:List Nat} {M M' N:aD} {w w':World} {bs bw:Nat} (h:jK Ts Tw n ws M w bs bw) (s:Step M w M' w' N) (h1: ¬N bs) (h2: ¬N bw):jK Ts Tw n ws M' w' bs bw:=
 ⟨(s.mem bs (ak h.s)).2 h.ms,(s.mem bw (ak h.w)).2 h.mw,h.ne,s.keep h.s h1,s.keep h.w h2,h.len,h.ok,h.nn⟩
theorem jK.put {Ts Tw:TypeId} {n:Nat} {ws JT:List Nat} {M:aD} {w w':World} {bs bw:Nat} (h:jK Ts Tw n ws M w bs bw) (s:Step M w M w' (fun b=>b=bw)) (hl:JT.length=ws.length) (hw:w'.heap[bw]? =some (.cells (qs JT) Tw (0,0))) (ok:Words JT):jK Ts Tw n JT M w' bs bw:=
 ⟨h.ms,h.mw,h.ne,by rw[hl];exact s.keep h.s h.ne,hw,by rw[hl];exact h.len,ok,h.nn⟩
section
variable {P:Program} {r:Option Nat} {n:Nat} {L:Sl} {ds:List Deferred} {w:World} {K:Kt} {ops:Array Oper} {rest:List Oper} {d:Nat} {x:Operand} {ty:TypeId} {pos:String} {af:Array Edge}
end
theorem Bm (ws:List Nat) {k x:Nat} (hk:k<ws.length) (j:Nat):bit (ws.set k x) j=if j/64=k then x.testBit (j%64)else bit ws j:=by
 unfold bit;rw[KM _ _ _ _ hk]
 split<;>rfl
theorem KP {x t:Nat} (hx:x<2^64) (ht:t<64):(2^64-1-x).testBit t= !x.testBit t:=by
 rw[show 2^64-1-x=2^64-(x+1)from by omega,Nat.testBit_two_pow_sub_succ hx,decide_eq_true ht,fc]
theorem O7 {ws:List Nat} {j:Nat} (h:ws.length≤j/64):bit ws j=false:=by
 unfold bit;rw[aA,dx h];simp
theorem CQ (k j:Nat):bit (List.replicate k 0) j=false:=by
 unfold bit;rw[aA,kN]
 split<;>simp
def Ra (ws:List Nat) (p:Nat) (r:Int):Prop:=(∃j:Nat,r=j∧p≤j∧bit ws j=true∧∀t,p≤t→t<j→bit ws t=false)∨(r= -1∧∀t,p≤t→bit ws t=false)
theorem xU {ws:List Nat} {i t:Nat} (h:i%64+t<64):bit ws (i+t)=(ws.getD (i/64) 0/2^(i%64)).testBit t:=by
 unfold bit;rw[CP,show(i+t)/64=i/64 from by omega,show(i+t)%64=t+i%64 from by omega]
theorem CR {x i:Nat} (hx:x<2^64) (hi:i<64) {k m:Nat} (h:x/2^i=2^k*(2*m+1)):i+k<64:=by
 rcases cG (i+k) 64 with h1|h1
 ·exact h1
 ·exfalso;have h2:(x/2^i).testBit k=true:=by rw[h];exact Bj.1
  rw[CP]at h2;have:=Nat.testBit_lt_two_pow (iu hx (np (n:=2) (by decide) (show 64≤k+i by omega)));rw[this]at h2;cases h2
end Go.K
namespace Go.K
abbrev Fo:=Int×Int
abbrev Tw:=Int×Int×Int
abbrev RT.fo:RT Fo:=RT.pair (RT.int .i64) (RT.int .i64)
def RT.JU:RT Nat where
 n:=1
 agg:=false
 R:=fun _ _ b vs=>vs=[.pointer (some ⟨b,0,none⟩)]
 len:=by rintro _ _ x vs rfl;rfl
 one:=by rintro _ _ x vs rfl v hv;simp at hv;subst hv;rfl
 le:=fun _ h=>h
theorem Hn {M:aD} {w:World} {b:Nat} {v:Value}:RT.JU.V M w b v↔v= .pointer (some ⟨b,0,none⟩):=⟨fun⟨_,h1,h2⟩=>by cases h1;exact h2,fun h=>⟨_,rfl,h⟩⟩
def hit (l:List Fo) (x:Int):Bool:=match l with| []=>false|p::_=>decide (p.1=x)
theorem acQ {M:aD} {w:World} {a b:Int} (ha: -9223372036854775808≤a∧a≤9223372036854775807) (hb: -9223372036854775808≤b∧b≤9223372036854775807):RT.fo.V M w (a,b) (.agg [.int .i64 a,.int .i64 b].toArray):=
 fe (fY ha) (fY hb) rfl rfl rfl rfl
end Go.K
namespace Go.K
section
variable {P:Program} {r:Option Nat} {n:Nat} {L:Sl} {ds:List Deferred} {w:World} {K:Kt} {ops:Array Oper} {rest:List Oper} {d:Nat} {x y:Operand} {ty:TypeId} {pos:String} {af:Array Edge}
theorem lR {t:TypeId} {k:IntKind} (ht:P.underlying t=some (.int k)) {cs:Array Value} {off:Nat} {v:Value} (hv:cs[off]? =some v):(part t cs off).run P w= .ok v w:=by
 have E2:(isAgg t).run P w= .ok false w:=by
  unfold isAgg;rw[cn,run_underlying ht w];simp
 unfold part;rw[cn,E2];simp[hv]
end
end Go.K
namespace Go.K
section
variable {P:Program} {r:Option Nat} {n:Nat} {L:Sl} {ds:List Deferred} {w:World} {K:Kt} {ops:Array Oper} {rest:List Oper} {d:Nat} {ty:TypeId} {pos:String} {af:Array Edge} {x y i:Operand}
theorem zA {t e:TypeId} {inf:TypeInfo} (ht:P.underlying t=some (.array 2 e)) (he:P.underlying e=some (.int .i64)) (hi:P.info? e=some inf) (hc:P.cellsOf e=1) (a b c f:Int):
  (Op.equal t (.agg #[.int .i64 a,.int .i64 b]) (.agg #[.int .i64 c,.int .i64 f])).run P w= .ok (decide ((a,b)=(c,f))) w:=by
 have hI:∀(k:Nat) (p q:Int),(Op.equalIn (k+1) e (.int .i64 p) (.int .i64 q)).run P w= .ok (p==q) w:=fun k p q=>by simp[Op.equalIn,run_underlying he]
 change(Op.equalIn (9999+1) t _ _).run P w=_;rw[run_equalIn_array w 9999 _ _ ht hi,hc,show List.range 2=[0,1]from rfl];simp only[Op.eqItems,cn];rw[lR he (v:= .int .i64 a) rfl];simp only[cC];rw[lR he (v:= .int .i64 c) rfl];simp only[cC];rw[hI 9998];simp only[cC];by_cases h1:a=c
 ·subst h1;simp only[beq_self_eq_true,Bool.not_true,Bool.false_eq_true,if_false,cn];rw[lR he (v:= .int .i64 b) rfl];simp only[cC];rw[lR he (v:= .int .i64 f) rfl];simp only[cC];rw[hI 9998];simp only[cC];by_cases h2:b=f
  ·subst h2;simp
  ·simp[h2]
 ·simp[h1]
theorem Rg.Xs {t t' e:TypeId} {inf:TypeInfo} {a b c f:Int} (ht:P.underlying t=some (.array 2 e)) (he:P.underlying e=some (.int .i64)) (hi:P.info? e=some inf) (hc:P.cellsOf e=1) (hq:P.eqGuardType P.depth t=false)
  (hx:ev L x=some (.agg #[.int .i64 a,.int .i64 b])) (hy:ev L y=some (.agg #[.int .i64 c,.int .i64 f])) (hd:Nat.blt d n=true)
  (k:Rg P r n ops rest ((d,.bool (decide ((a,b)=(c,f))))::L) ds w K):
  Rg P r n ops ({dst:=some d,op:= .binOp .eql t x y t',type:=ty,pos,after:=af,guard:=none}::rest) L ds w K:=
 .op (fun _ h=>by cases h) rfl rfl hd _ w (fun ρ h=>by
  have he:=zA (P:=P) (w:=w) ht he hi hc a b c f;simp only[execOp];rw[h x _ hx,h y _ hy];rw[cn,cn,run_eqGuard_agg (P:=P) w .eql t x y _ _ hq];simp[binOp,he]) k
theorem Rg.Fm {t t' e:TypeId} {zv:Value} {size bytes:Nat} {a b c f:Int} (ht:P.underlying t=some (.array 2 e)) (he:P.underlying e=some (.int .i64)) (hi:TI P e zv size bytes) (hc:P.cellsOf e=1) (hq:P.eqGuardType P.depth t=false)
  (hx:ev L x=some (.agg #[.int .i64 a,.int .i64 b])) (hy:ev L y=some (.agg #[.int .i64 c,.int .i64 f])) (hd:Nat.blt d n=true)
  (k:Rg P r n ops rest ((d,.bool (decide ((a,b)=(c,f))))::L) ds w K):
  Rg P r n ops ({dst:=some d,op:= .binOp .eql t x y t',type:=ty,pos,after:=af,guard:=none}::rest) L ds w K:=by
 obtain⟨inf,h1,_⟩:=hi.get;exact .Xs ht he h1 hc hq hx hy hd k
theorem Rg.O8 {t e:TypeId} {zv:Value} {bytes:Nat} {a b:Int} (ht:P.underlying t=some (.array 2 e)) (hi:TI P t (.agg #[.int .i64 0,.int .i64 0]) 2 16) (he:TI P e zv 1 bytes) (hx:ev L x=some (.int .i64 a)) (hy:ev L y=some (.int .i64 b)) (hd:Nat.blt d n=true)
  (k:Rg P r n ops rest ((d,.agg #[.int .i64 a,.int .i64 b])::L) ds w K):
  Rg P r n ops ({dst:=some d,op:= .build t #[(0,x),(1,y)],type:=ty,pos,after:=af,guard:=none}::rest) L ds w K:=by
 obtain⟨inf,h1,h2,h3,h4⟩:=hi.get;refine .op (fun _ h=>by cases h) rfl rfl hd _ w (fun ρ h=>?_) k;simp only[execOp,fa,dQ,jd,h x _ hx,h y _ hy];simp[Instr.build,zeroValue,typeInfo,h1,h2,run_underlying ht,he.sizeOf,Instr.fill,Value.cells]
theorem dZ.ints {M:aD} {κ:IntKind}:∀{xs:List Int} {C:List Value},dZ (RT.int κ) M w xs C→C=xs.map (Value.int κ)
 |[],_,h=>by cases h;rfl
 |x::xs,_,⟨us,rest,h1,h2,h3⟩=>by
  subst h1;rw[h2.1,dZ.ints h3];rfl
theorem dZ.Bn {M:aD} {κ:IntKind}:∀{xs:List Int},(∀x∈xs,κ.min≤x∧x≤κ.max)→dZ (RT.int κ) M w xs (xs.map (Value.int κ))
 |[],_=>rfl
 |x::xs,h=>⟨[.int κ x],_,rfl,⟨rfl,h x (bG ..)⟩,dZ.Bn fun y hy=>h y (bU _ hy)⟩
theorem dZ.rng {M:aD} {κ:IntKind}:∀{xs:List Int} {C:List Value},dZ (RT.int κ) M w xs C→∀x∈xs,κ.min≤x∧x≤κ.max
 |[],_,_,x,hx=>by cases hx
 |y::xs,_,⟨us,rest,h1,h2,h3⟩,x,hx=>by
  rcases cb.1 hx with rfl|hx
  ·exact h2.2
  ·exact dZ.rng h3 x hx
theorem Own.over {e:TypeId} {M:aD} {base g len cap o:Nat} {κ:IntKind} {xs ys:List Int} (h:Own (RT.int κ) e M w base (.slice (some ⟨g,0,none⟩) len cap) xs) (ho:o+ys.length≤xs.length) (hy:∀y∈ys,κ.min≤y∧y≤κ.max):
  Own (RT.int κ) e M (w.setCells g o (ys.map (Value.int κ))) base (.slice (some ⟨g,0,none⟩) len cap) (xs.take o++ys++xs.drop (o+ys.length))∧Step M w M (w.setCells g o (ys.map (Value.int κ))) (fun k=>k=g)∧(∀j,j<ys.length→(w.cell? ⟨g,o+j,none⟩).isSome=true)∧(∀j,j<ys.length→w.frozen? ⟨g,o+j,none⟩=false):=by
 obtain⟨⟨C,hr,ha⟩,hm⟩:=h;have EV:=hm g rfl;rcases hr.2 with⟨h1,_⟩|⟨g',xD,cur,h1,h2,h3,h4,h5,h6,h7⟩
 ·cases h1
 ·simp only[fT,dN,nF]at h1;obtain⟨⟨rfl,_⟩,rfl,rfl⟩:=h1;have e1:(RT.int κ).n=1:=rfl;rw[e1,eP]at h6 h7;have hCx:=ha.ints;have OW:=ha.rng;obtain⟨EU,c1,c2,c3,c4⟩:=mX (ys.map (Value.int κ)) w g o cur e (0,0) h3;have hs:=c4 M EV;have hlen:(xs.take o++ys++xs.drop (o+ys.length)).length=xs.length:=by rw[bc,bc,bg,dh];omega
  refine⟨⟨⟨(xs.take o++ys++xs.drop (o+ys.length)).map (Value.int κ),⟨by rw[aG,e1,eP],.inr ⟨g,cap,EU,by rw[hlen],h2,c1,by rw[hlen];exact h4,h5,by rw[c2,e1,eP];exact h6,?_⟩⟩,dZ.Bn fun z hz=>?_⟩,fun b hb=>hm b hb⟩,hs,fun j hj=>?_,fun j hj=>by simp[World.frozen?,h3]⟩
  ·rw[e1,eP,hlen];refine fp fun t=>?_
   rw[cp];have KG:=Hm (l:=xs.map (Value.int κ)) (vs:=ys.map (Value.int κ)) (o:=o) (by rw[aG,aG];exact ho) t;rw[aG,←List.map_take,←List.map_drop,←cX,←cX]at KG;rw[KG];have W9:∀t,t<xs.length→(xs.map (Value.int κ))[t]? =cur[t]? :=fun t ht=>by rw[←hCx,←h7,cp,if_pos ht];simp
   split
   ·rename_i ht
    have e0:EU.toList[t]? =EU[t]? :=by simp
    rw[e0,c3 t,aG];by_cases h8:o≤t∧t<o+ys.length
    ·rw[if_pos ⟨h8.1,h8.2,by omega⟩,if_pos h8]
    ·rw[if_neg (fun h=>h8 ⟨h.1,h.2.1⟩),if_neg h8,W9 t ht]
   ·rename_i ht
    rw[if_neg (by omega),dx (by rw[aG];omega)]
  ·rcases ch.1 hz with hz|hz
   ·rcases ch.1 hz with hz|hz
    ·exact OW z (wL hz)
    ·exact hy z hz
   ·exact OW z (List.mem_of_mem_drop hz)
  ·rw[fM h3 (v:=cur[o+j]'(by omega)) (by simp)];rfl
theorem Own.cell {e:TypeId} {M:aD} {base g len cap j:Nat} {κ:IntKind} {xs:List Int} {a:Int} (h:Own (RT.int κ) e M w base (.slice (some ⟨g,0,none⟩) len cap) xs) (hx:xs[j]? =some a):w.cell? ⟨g,j,none⟩=some (.int κ a):=by
 obtain⟨b,o,vs,h1,h2,h3,h4⟩:=h.ptr hx;simp only[Value.pointer.injEq,dN,nF]at h1;obtain⟨rfl,rfl,_⟩:=h1;have:=h4 0 (.int κ a) (by rw[h3.1];rfl);simpa[RT.int]using this
theorem Rg.Rb {tt st e:TypeId} {zv:Value} {bytes:Nat} {M:aD} {base g len cap o dl dc sl sc:Nat} {κ:IntKind} {xs ys:List Int} {sa:Addr} (ht:P.underlying tt=some (.slice e)) (hi:TI P e zv 1 bytes) (hd:Nat.blt d n=true)
  (hx:ev L x=some (.slice (some ⟨g,o,none⟩) dl dc)) (hy:ev L y=some (.slice (some sa) sl sc)) (h:Own (RT.int κ) e M w base (.slice (some ⟨g,0,none⟩) len cap) xs) (hn:ys.length=min sl dl) (ho:o+ys.length≤xs.length)
  (acR:∀j a,ys[j]? =some a→w.cell? (sa.add j)=some (.int κ a)) (OW:∀a∈ys,κ.min≤a∧a≤κ.max)
  (k:∀w',Own (RT.int κ) e M w' base (.slice (some ⟨g,0,none⟩) len cap) (xs.take o++ys++xs.drop (o+ys.length))→Step M w M w' (fun k=>k=g)→Rg P r n ops rest ((d,.int .i64 (ys.length:Int))::L) ds w' K):
  Rg P r n ops ({dst:=some d,op:= .call {callee:= .builtin .copy,args:= #[x,y],argTypes:= #[tt,st]},type:=ty,pos,after:=af,guard:=none}::rest) L ds w K:=by
 obtain⟨h1,h2,h3,h4⟩:=h.over ho OW;obtain⟨inf,i1,_,i2,_⟩:=hi.get
 have gN:=run_copy_cells (P:=P) w tt st ty e g o dl dc sa sl sc (ys.map (Value.int κ)) ht (by simp[i1,i2]) (by rw[aG];exact hn)
  (fun j v hv=>by
   rw[br]at hv
   cases hj:ys[j]? with
   |none=>rw[hj]at hv;cases hv
   |some a=>rw[hj]at hv;cases hv;exact acR j a hj) (by rw[aG];exact h3) (by rw[aG];exact h4) (fun v hv=>by obtain⟨a,_,rfl⟩:=bP.1 hv;rfl)
 rw[aG]at gN;refine .op (fun _ h=>by cases h) rfl rfl hd _ _ (fun ρ hρ=>?_) (k _ h1 h2);simp only[execOp,resolve,fa,dQ,jd,hρ x _ hx,hρ y _ hy];simp[Go.invoke,builtin,gN,goInt]
theorem Rg.Tv {tt e:TypeId} {bytes:Nat} {M:aD} {base g len cap o dl dc:Nat} {κ:IntKind} {xs:List Int} (ht:P.underlying tt=some (.slice e)) (hi:TI P e (.int κ 0) 1 bytes) (hx:ev L x=some (.slice (some ⟨g,o,none⟩) dl dc)) (h:Own (RT.int κ) e M w base (.slice (some ⟨g,0,none⟩) len cap) xs) (hdl:0<dl) (ho:o+dl≤xs.length) (hz:κ.min≤0∧0≤κ.max)
  (k:∀w',Own (RT.int κ) e M w' base (.slice (some ⟨g,0,none⟩) len cap) (xs.take o++List.replicate dl 0++xs.drop (o+dl))→Step M w M w' (fun k=>k=g)→Rg P r n ops rest L ds w' K):
  Rg P r n ops ({dst:=none,op:= .call {callee:= .builtin .clear,args:= #[x],argTypes:= #[tt]},type:=ty,pos,after:=af,guard:=none}::rest) L ds w K:=by
 obtain⟨h1,h2,h3,h4⟩:=h.over (ys:=List.replicate dl 0) (o:=o) (by rw[cf];exact ho) (fun a ha=>by rw[iz ha];exact hz);rw[cf]at h1 h3 h4;obtain⟨inf,i1,i2,i3,_⟩:=hi.get;have gN:=Go.Lib.run_clear_slice (P:=P) w tt e ty (.int κ 0) ht (fun w=>by simp[zeroValue,typeInfo,i1,i2]) rfl rfl g o dl dc hdl h3 h4;rw[List.map_replicate]at h1 h2;refine .opv (fun _ h=>by cases h) rfl rfl (.tuple #[]) _ (fun ρ hρ=>?_) (k _ h1 h2);simp only[execOp,resolve,fa,dQ,jd,hρ x _ hx];simp[Go.invoke,builtin,gN]
end
end Go.K
namespace Go.K
open Go.RowKit (Below)
open Go.Maps (Keyed)
open Go.ChangeMaps (putKey delKey notKey)
abbrev DU:=DataW Unit
structure Tx (P:Program) (k:TypeId) (R:Value→Option (DU×List MemPlace)) (M:aD) (w:World) (b:Nat) (m:List (Lit×DU)):Prop where
 mut_:M b
 own:w.ownsMap P k R b m.length (.map m)
section
variable {P:Program} {r:Option Nat} {n:Nat} {L:Sl} {ds:List Deferred} {w:World} {K:Kt} {ops:Array Oper} {rest:List Oper} {d:Nat} {x y z:Operand} {ty:TypeId} {pos:String} {af:Array Edge}
variable {kt:TypeId} {R:Value→Option (DU×List MemPlace)} {M:aD} {b:Nat} {m:List (Lit×DU)}
theorem Step.xV {w w':World} (h:Below w.heap.size w w') (M:aD):Step M w M w' aC:=
 ⟨fun h0 b hb=>iu (h0 b hb) h.size,h.os,h.tape,h.output,h.size,fun _ _=>Iff.rfl,fun b hb _=>h.block b hb,fun _ h=>h.elim⟩
end
end Go.K
namespace Go.K
def allM:aD:=fun _=>True
theorem Step.all {M M' N:aD} {w w':World} (s:Step M w M' w' N):Step allM w allM w' N:=⟨fun h=>absurd (h w.heap.size trivial) (jq _),s.os,s.tape,s.output,s.size,fun _ _=>Iff.rfl,s.same,fun _ _=>trivial⟩
theorem Step.toAny {M M':aD} {w w':World} (s:Step M w M' w' aC) (M1:aD):Step M1 w M1 w' aC:=s.any M1
theorem dZ.int {κ:IntKind} {M M':aD} {w w':World}:∀{xs:List Int} {C:List Value},dZ (RT.int κ) M w xs C→dZ (RT.int κ) M' w' xs C
 |[],_,h=>h
 |x::xs,C,h=>by
  obtain⟨vs,r,h1,h2,h3⟩:=h;exact⟨vs,r,h1,h2,dZ.int h3⟩
theorem Own.O9 {κ:IntKind} {e:TypeId} {M:aD} {w:World} {base:Nat} {v:Value} {xs:List Int} (h:Own (RT.int κ) e M w base v xs) {M':aD} (hm:∀b,v.ownBlock=some b→M' b):Own (RT.int κ) e M' w base v xs:=by
 obtain⟨⟨C,h1,h2⟩,_⟩:=h;exact⟨⟨C,h1,dZ.int h2⟩,hm⟩
theorem Own.Xt {κ:IntKind} {e:TypeId} {N:aD} {w w':World} {base:Nat} {v:Value} {xs:List Int} (h:Own (RT.int κ) e allM w base v xs) (s:Step allM w allM w' N) (hn:∀b,v.ownBlock=some b→¬N b):Own (RT.int κ) e allM w' base v xs:=by
 obtain⟨⟨C,h1,h2⟩,_⟩:=h;refine⟨⟨C,⟨h1.1,?_⟩,dZ.int h2⟩,fun _ _=>trivial⟩;rcases h1.2 with h3|⟨g,cap,cur,h3,h4,h5,h6,h7,h8⟩
 ·exact .inl h3
 ·exact .inr ⟨g,cap,cur,h3,h4,by rw[s.same g (ak h5) (hn g (by rw[h3];rfl))];exact h5,h6,h7,h8⟩
def mS (v:Value):aD:=fun b=>v.ownBlock=some b
theorem Own.lone {κ:IntKind} {e:TypeId} {M:aD} {w:World} {base:Nat} {v:Value} {xs:List Int} (h:Own (RT.int κ) e M w base v xs):Own (RT.int κ) e (mS v) w base v xs:=h.O9 fun _ h=>h
end Go.K
namespace Go.K
def Fp (at':Nat→Nat) (cont:Nat→Bool):Nat×Nat:=
 if at' 0<0x80 then(at' 0,1)
 else if at' 0/32==6&&cont 1 then
  if(at' 0%32)*64+at' 1%64≥0x80 then((at' 0%32)*64+at' 1%64,2)else(65533,1)
 else if at' 0/16==14&&cont 1&&cont 2 then
  if(at' 0%16)*4096+(at' 1%64)*64+at' 2%64≥0x800&&Utf8.valid ((at' 0%16)*4096+(at' 1%64)*64+at' 2%64:Nat)then((at' 0%16)*4096+(at' 1%64)*64+at' 2%64,3)else(65533,1)
 else if at' 0/8==30&&cont 1&&cont 2&&cont 3 then
  if(at' 0%8)*262144+(at' 1%64)*4096+(at' 2%64)*64+at' 3%64≥0x10000&&Utf8.valid ((at' 0%8)*262144+(at' 1%64)*4096+(at' 2%64)*64+at' 3%64:Nat)then((at' 0%8)*262144+(at' 1%64)*4096+(at' 2%64)*64+at' 3%64,4)else(65533,1)
 else(65533,1)
theorem ID (s:ByteArray) (i:Nat):Utf8.decode s i=Fp (fun k=>(s.get! (i+k)).toNat) (fun k=>decide (i+k<s.size)&&(s.get! (i+k)).toNat/64==2):=rfl
def kh (l:List UInt8) (k:Nat):Nat:=(l.getD k 0).toNat
def kr (l:List UInt8) (k:Nat):Bool:=decide (k<l.length)&&kh l k/64==2
def dec (l:List UInt8):Nat×Nat:=Fp (kh l) (kr l)
theorem IE (l:List UInt8) (j:Nat):(⟨l.toArray⟩:ByteArray).get! j=l.getD j 0:=by
 show l.toArray[j]! =_;rw[aA,getElem!_def];simp only[eD]
 cases l[j]? <;>rfl
theorem Fq (l:List UInt8) (pos:Nat):Utf8.decode ⟨l.toArray⟩ pos=dec (l.drop pos):=by
 rw[ID,dec]
 have h1:(fun k=>((⟨l.toArray⟩:ByteArray).get! (pos+k)).toNat)=kh (l.drop pos):=by
  funext k;rw[IE,kh,aA,aA,List.getElem?_drop]
 have h2:(fun k=>decide (pos+k<(⟨l.toArray⟩:ByteArray).size)&&((⟨l.toArray⟩:ByteArray).get! (pos+k)).toNat/64==2)=kr (l.drop pos):=by
  funext k;have:=congrFun h1 k;rw[this,kr,dh];congr 1;have hs:(⟨l.toArray⟩:ByteArray).size=l.length:=by simp[ByteArray.size]
  rw[hs];exact decide_eq_decide.2 (by omega)
 rw[h1,h2]
theorem xW {l:List UInt8} {k:Nat} (h:kr l k=true):k<l.length:=by
 simp only[kr,bW,decide_eq_true_eq]at h;exact h.1
theorem l0 {l:List UInt8} (hl:l≠[]):1≤(dec l).2∧(dec l).2≤l.length:=by
 have h0:0<l.length:=oG.2 hl;unfold dec Fp
 split
 ·exact⟨aN _,h0⟩
 ·split
  ·rename_i h
   simp only[bW]at h;have:=xW h.2
   split<;>(simp only;omega)
  ·split
   ·rename_i h
    simp only[bW]at h;have:=xW h.2
    split<;>(simp only;omega)
   ·split
    ·rename_i h
     simp only[bW]at h;have:=xW h.2
     split<;>(simp only;omega)
    ·exact⟨aN _,h0⟩
theorem oX (l:List UInt8) (k:Nat):kh l k<256:=by unfold kh;exact UInt8.toNat_lt _
theorem uT (l:List UInt8):(dec l).1≤1114111:=by
 unfold dec Fp
 split
 ·simp only;omega
 ·split
  ·have:=oX l 0
   split<;>(simp only;omega)
  ·split
   ·have:=oX l 0
    split<;>(simp only;omega)
   ·split
    ·split
     ·rename_i h
      simp only[bW,Utf8.valid,qb,decide_eq_true_eq]at h;simp only;omega
     ·simp only;omega
    ·simp only;omega
def fv (l:List UInt8):List Int:=match l with
 |[]=>[]
 |c::r=>((dec (c::r)).1:Int)::fv ((c::r).drop (dec (c::r)).2)
termination_by l.length
decreasing_by
 have:=(l0 (l:=c::r) (by simp)).1;simp only[dh,cD];omega
theorem uU:fv []=[]:=by unfold fv;rfl
theorem sJ {l:List UInt8} (h:l≠[]):fv l=((dec l).1:Int)::fv (l.drop (dec l).2):=by
 cases l with
 |nil=>exact absurd rfl h
 |cons c r=>rw[fv]
theorem iR (l:List UInt8):(fv l).length≤l.length:=by
 induction hn:l.length using Nat.strongRecOn generalizing l with
 |_ n ih=>
  by_cases h:l=[]
  ·subst h;rw[uU];simp
  ·rw[sJ h,cD];have hw:=l0 h;have:=ih _ (by rw[dh];omega) (l.drop (dec l).2) rfl;rw[dh]at this;omega
section
variable {P:Program} {r:Option Nat} {n:Nat} {L:Sl} {ds:List Deferred} {w:World} {K:Kt} {ops:Array Oper} {rest:List Oper} {d:Nat} {x:Operand} {ty:TypeId} {pos:String} {af:Array Edge}
theorem Rg.KQ {t:TypeId} {l:List UInt8} (M:aD) (ht:P.underlying t=some .string) (hx:ev L x=some (.string ⟨l.toArray⟩)) (hd:Nat.blt d n=true)
  (k:∀b w',w.heap.size≤b→b<w'.heap.size→w'.heap[b]? =some (.stringIter ⟨l.toArray⟩ 0)→Step M w (ins M b) w' aC→Rg P r n ops rest ((d,.pointer (some ⟨b,0,none⟩))::L) ds w' K):
  Rg P r n ops ({dst:=some d,op:= .range t x,type:=ty,pos,after:=af,guard:=none}::rest) L ds w K:=by
 refine .op (fun _ h=>by cases h) rfl rfl hd (.pointer (some ⟨w.heap.size,0,none⟩)) (w.alloc (.stringIter ⟨l.toArray⟩ 0)) (fun ρ hρ=>?_) (k w.heap.size _ (aN _) (by simp) (cr w _) ((dm M w _).own (aN _) (by simp)));simp only[execOp,hρ x _ hx];simp[Instr.range,cn,run_underlying ht,newObj,Sem.run]
theorem jj (M:aD) {b:Nat} {o:Obj} (hm:M b):Step M w M {w with heap:=w.heap.setIfInBounds b o} (fun k=>k=b):=
 ⟨fun h b hb=>by simpa using h b hb,rfl,rfl,rfl,by simp,fun _ _=>Iff.rfl,fun k _ hn=>by simp[dE,Ne.symm hn],fun k hk=>by subst hk;exact hm⟩
theorem qt {b p:Nat} {s:ByteArray} (hb:w.heap[b]? =some (.stringIter s p)):(getObj b).run P w= .ok (.stringIter s p) w:=by simp[getObj,Sem.run,hb]
theorem Rg.Pb {l:List UInt8} {b p:Nat} {M:aD} (hx:ev L x=some (.pointer (some ⟨b,0,none⟩))) (hb:w.heap[b]? =some (.stringIter ⟨l.toArray⟩ p)) (hm:M b) (hd:Nat.blt d n=true)
  (k1:p<l.length→∀w',w'.heap[b]? =some (.stringIter ⟨l.toArray⟩ (p+(dec (l.drop p)).2))→Step M w M w' (fun k=>k=b)→Rg P r n ops rest ((d,.tuple #[.bool true,.int .i64 p,.int .i32 ((dec (l.drop p)).1:Nat)])::L) ds w' K)
  (k2: ¬p<l.length→Rg P r n ops rest ((d,.tuple #[.bool false])::L) ds w K):
  Rg P r n ops ({dst:=some d,op:= .next x true,type:=ty,pos,after:=af,guard:=none}::rest) L ds w K:=by
 have hs:(⟨l.toArray⟩:ByteArray).size=l.length:=by simp[ByteArray.size]
 have dV:=ak hb;by_cases h:p<l.length
 ·have key:=k1 h {w with heap:=w.heap.setIfInBounds b (.stringIter ⟨l.toArray⟩ (p+(dec (l.drop p)).2))} (by simp[dE,dV]) (jj M hm);refine .op (fun _ h=>by cases h) rfl rfl hd _ _ (fun ρ hρ=>?_) key;simp only[execOp,hρ x _ hx,Instr.next,cn,qt hb,cC];rw[if_pos (by rw[hs];exact h)];simp[Fq,setObj,Sem.run,goInt,hb]
 ·refine .op (fun _ h=>by cases h) rfl rfl hd _ w (fun ρ hρ=>?_) (k2 h);simp only[execOp,hρ x _ hx,Instr.next,cn,qt hb,cC];rw[if_neg (by rw[hs];exact h)];simp
theorem Rg.Ho {t:TypeId} {i:Operand} {l:List UInt8} {κ:IntKind} {j:Int} {c:UInt8} (ht:P.underlying t=some .string) (hx:ev L x=some (.string ⟨l.toArray⟩)) (hi:ev L i=some (.int κ j)) (hd:Nat.blt d n=true) (hj:0≤j) (hc:l[j.toNat]? =some c)
  (k:Rg P r n ops rest ((d,.int .u8 (c.toNat:Int))::L) ds w K):
  Rg P r n ops ({dst:=some d,op:= .index t x i,type:=ty,pos,after:=af,guard:=none}::rest) L ds w K:=by
 have dV:=(an.1 hc).1;have hs:(⟨l.toArray⟩:ByteArray).size=l.length:=by simp[ByteArray.size]
 have hg:(⟨l.toArray⟩:ByteArray)[j.toNat]? =some c:=by
  rw[getElem?_pos _ _ (by rw[hs];exact dV)];congr 1;have:=(an.1 hc).2;rw[←this];rfl
 refine .op (fun _ h=>by cases h) rfl rfl hd _ w (fun ρ hρ=>?_) k;simp only[execOp,hρ x _ hx,hρ i _ hi,Instr.index,cn,asIntOf,Sem.run_pure,cC,run_underlying ht];simp[hj,hg]
theorem rN (l:List UInt8) (a b:Nat):(⟨l.toArray⟩:ByteArray).extract a b=⟨((l.take b).drop a).toArray⟩:=by
 have:((⟨l.toArray⟩:ByteArray).extract a b).data=((l.take b).drop a).toArray:=by
  rw[ByteArray.data_extract];apply Array.toList_inj.1;rw[Array.toList_extract,List.extract_eq_take_drop,List.drop_take]
 exact congrArg ByteArray.mk this
theorem Rg.Pc {t:TypeId} {i:Operand} {l:List UInt8} {κ:IntKind} {j:Int} (ht:P.underlying t=some .string) (hx:ev L x=some (.string ⟨l.toArray⟩)) (hi:ev L i=some (.int κ j)) (hd:Nat.blt d n=true) (hj:0≤j∧j≤l.length)
  (k:Rg P r n ops rest ((d,.string ⟨(l.drop j.toNat).toArray⟩)::L) ds w K):
  Rg P r n ops ({dst:=some d,op:= .slice t x (some i) none none,type:=ty,pos,after:=af,guard:=none}::rest) L ds w K:=by
 have hs:(⟨l.toArray⟩:ByteArray).size=l.length:=by simp[ByteArray.size]
 refine .op (fun _ h=>by cases h) rfl rfl hd _ w (fun ρ hρ=>?_) k;simp only[execOp,hρ x _ hx,cW,hY,hρ i _ hi];rw[cn,run_sliceAt_string _ _ _ _ _ _ ht,run_slice_string_l _ _ _ ht _ _ hj.1 (by rw[hs];exact hj.2),rN,hs,List.take_length];simp
theorem Rg.Rc {t:TypeId} {i:Operand} {l:List UInt8} {κ:IntKind} {j:Int} (ht:P.underlying t=some .string) (hx:ev L x=some (.string ⟨l.toArray⟩)) (hi:ev L i=some (.int κ j)) (hd:Nat.blt d n=true) (hj:0≤j∧j≤l.length)
  (k:Rg P r n ops rest ((d,.string ⟨(l.take j.toNat).toArray⟩)::L) ds w K):
  Rg P r n ops ({dst:=some d,op:= .slice t x none (some i) none,type:=ty,pos,after:=af,guard:=none}::rest) L ds w K:=by
 have hs:(⟨l.toArray⟩:ByteArray).size=l.length:=by simp[ByteArray.size]
 refine .op (fun _ h=>by cases h) rfl rfl hd _ w (fun ρ hρ=>?_) k;simp only[execOp,hρ x _ hx,cW,hY,hρ i _ hi];rw[cn,run_sliceAt_string _ _ _ _ _ _ ht,run_slice_string_h _ _ _ ht _ _ hj.1 (by rw[hs];exact hj.2),rN,List.drop_zero];simp
end
theorem Own.ek {α:Type} {A:RT α} {e:TypeId} {M:aD} {w:World} {base b p:Nat} {s:ByteArray} {v:Value} {xs:List α} (h:Own A e M w base v xs) (hb:w.heap[b]? =some (.stringIter s p)):v.ownBlock≠some b:=fun hv=>by
 obtain⟨⟨C,h1,_⟩,_⟩:=h;rcases h1.2 with⟨h2,_⟩|⟨g,cap,cur,h2,_,h3,_⟩
 ·rw[h2]at hv;cases hv
 ·rw[h2]at hv;cases hv;rw[h3]at hb;cases hb
theorem Own.dz {α β:Type} {A:RT α} {B:RT β} {e e':TypeId} {M M':aD} {w:World} {base Hf:Nat} {v u:Value} {xs:List α} {ys:List β} (h:Own A e M w base v xs) (h':Own B e' M' w Hf u ys) (ht:e≠e') {b:Nat} (hb:v.ownBlock=some b):u.ownBlock≠some b:=fun hu=>by
 obtain⟨⟨C,h1,_⟩,_⟩:=h;obtain⟨⟨C',Ww,_⟩,_⟩:=h';rcases h1.2 with⟨h2,_⟩|⟨g,cap,cur,h2,_,h3,_⟩
 ·rw[h2]at hb;cases hb
 ·rcases Ww.2 with⟨xj,_⟩|⟨g',xD,W4,xj,_,h3',_⟩
  ·rw[xj]at hu;cases hu
  ·rw[h2]at hb;rw[xj]at hu;cases hb;cases hu;rw[h3]at h3';cases h3';exact ht rfl
theorem Own.eO {α:Type} {A:RT α} {e t:TypeId} {M:aD} {w:World} {base b:Nat} {v:Value} {xs:List α} {cs:Array Value} {fr:Nat×Nat} (h:Own A e M w base v xs) (hb:w.heap[b]? =some (.cells cs t fr)) (ht:t≠e):v.ownBlock≠some b:=fun hv=>by
 obtain⟨⟨C,h1,_⟩,_⟩:=h;rcases h1.2 with⟨h2,_⟩|⟨g,cap,cur,h2,_,h3,_⟩
 ·rw[h2]at hv;cases hv
 ·rw[h2]at hv;cases hv;rw[h3]at hb;cases hb;exact ht rfl
end Go.K
namespace Go.K
open Go.Proofs
theorem I3:TI Tryz.prog 3 (.int .i64 0) 1 8:=by unfold TI;kernel_rfl
theorem I5:TI Tryz.prog 5 (.int .u8 0) 1 1:=by unfold TI;kernel_rfl
theorem I9:TI Tryz.prog 9 (.string ⟨#[]⟩) 1 16:=by unfold TI;kernel_rfl
theorem I26:TI Tryz.prog 26 (.int .i64 0) 1 8:=by unfold TI;kernel_rfl
theorem kD:TI Tryz.prog 37 (.slice none 0 0) 1 24:=by unfold TI;kernel_rfl
theorem zn:TI Tryz.prog 57 (.slice none 0 0) 1 24:=by unfold TI;kernel_rfl
theorem uV:TI Tryz.prog 67 (.slice none 0 0) 1 24:=by unfold TI;kernel_rfl
theorem oY:TI Tryz.prog 69 (.agg #[(.int .i64 0),(.slice none 0 0)]) 2 32:=by unfold TI;kernel_rfl
theorem Cm:TI Tryz.prog 71 (.agg #[(.int .i64 0),(.slice none 0 0),(.int .i64 0)]) 3 40:=by unfold TI;kernel_rfl
theorem xX:TI Tryz.prog 78 (.agg #[(.string ⟨#[]⟩),(.string ⟨#[]⟩)]) 2 32:=by unfold TI;kernel_rfl
theorem nW:TI Tryz.prog 83 (.agg #[(.int .i64 0),(.slice none 0 0)]) 2 32:=by unfold TI;kernel_rfl
theorem zB:TI Tryz.prog 142 (.pointer none) 1 8:=by unfold TI;kernel_rfl
theorem acS:TI Tryz.prog 155 (.slice none 0 0) 1 24:=by unfold TI;kernel_rfl
theorem kG:TI Tryz.prog 166 (.agg #[(.string ⟨#[]⟩),(.string ⟨#[]⟩)]) 2 32:=by unfold TI;kernel_rfl
theorem CS:TI Tryz.prog 204 (.slice none 0 0) 1 24:=by unfold TI;kernel_rfl
theorem Fs:TI Tryz.prog 205 (.slice none 0 0) 1 24:=by unfold TI;kernel_rfl
theorem acT:TI Tryz.prog 207 (.agg #[(.slice none 0 0),(.slice none 0 0),(.int .i64 0)]) 3 56:=by unfold TI;kernel_rfl
theorem wY:TI Tryz.prog 209 (.agg #[(.int .i64 0),(.int .i64 0),(.int .i64 0),(.int .i64 0)]) 4 32:=by unfold TI;kernel_rfl
theorem IF:TI Tryz.prog 266 (.agg #[(.string ⟨#[]⟩),(.int .i64 0)]) 2 24:=by unfold TI;kernel_rfl
theorem acU:TI Tryz.prog 336 (.agg #[(.pointer none),(.slice none 0 0)]) 2 32:=by unfold TI;kernel_rfl
theorem B69:placesOf Tryz.prog 69=[(0,1),(1,1)].map some:=by kernel_rfl
theorem B71:placesOf Tryz.prog 71=[(0,2),(2,1)].map some:=by kernel_rfl
theorem B78:placesOf Tryz.prog 78=[(0,1),(1,1)].map some:=by kernel_rfl
theorem Xu:placesOf Tryz.prog 83=[(0,1),(1,1)].map some:=by kernel_rfl
theorem acV:placesOf Tryz.prog 207=[(0,1),(1,1),(2,1)].map some:=by kernel_rfl
theorem acW:placesOf Tryz.prog 209=[(0,1),(1,1),(2,1),(3,1)].map some:=by kernel_rfl
theorem Xv:placesOf Tryz.prog 266=[(0,1),(1,1)].map some:=by kernel_rfl
theorem mixed:Tryz.prog.follows .mixedOrders=true:=by kernel_rfl
theorem E44:Enters Tryz.prog 44:=enters Tryz.func44 rfl (by decide)
theorem E80:Enters Tryz.prog 80:=enters Tryz.func80 rfl (by decide)
theorem E93:Enters Tryz.prog 93:=enters Tryz.func93 rfl (by decide)
theorem E94:Enters Tryz.prog 94:=enters Tryz.func94 rfl (by decide)
theorem acX:Enters Tryz.prog 128:=enters Tryz.func128 rfl (by decide)
theorem acY:Enters Tryz.prog 129:=enters Tryz.func129 rfl (by decide)
theorem acZ:Enters Tryz.prog 130:=enters Tryz.func130 rfl (by decide)
theorem ac0:Enters Tryz.prog 131:=enters Tryz.func131 rfl (by decide)
theorem Xw:Enters Tryz.prog 132:=enters Tryz.func132 rfl (by decide)
theorem ac1:Enters Tryz.prog 136:=enters Tryz.func136 rfl (by decide)
theorem ac2:Enters Tryz.prog 137:=enters Tryz.func137 rfl (by decide)
theorem ac3:Enters Tryz.prog 138:=enters Tryz.func138 rfl (by decide)
theorem ac4:Enters Tryz.prog 139:=enters Tryz.func139 rfl (by decide)
theorem ac5:Enters Tryz.prog 148:=enters Tryz.func148 rfl (by decide)
theorem Xx:Enters Tryz.prog 183:=enters Tryz.func183 rfl (by decide)
theorem ac6:Enters Tryz.prog 184:=enters Tryz.func184 rfl (by decide)
theorem ac7:Enters Tryz.prog 185:=enters Tryz.func185 rfl (by decide)
theorem ac8:Enters Tryz.prog 186:=enters Tryz.func186 rfl (by decide)
theorem ac9:Enters Tryz.prog 187:=enters Tryz.func187 rfl (by decide)
theorem ada:Enters Tryz.prog 188:=enters Tryz.func188 rfl (by decide)
theorem adb:Enters Tryz.prog 190:=enters Tryz.func190 rfl (by decide)
theorem ade:Enters Tryz.prog 193:=enters Tryz.func193 rfl (by decide)
theorem adf:Enters Tryz.prog 194:=enters Tryz.func194 rfl (by decide)
theorem Ty:Enters Tryz.prog 195:=enters Tryz.func195 rfl (by decide)
theorem adg:Enters Tryz.prog 196:=enters Tryz.func196 rfl (by decide)
theorem adh:Enters Tryz.prog 201:=enters Tryz.func201 rfl (by decide)
theorem adi:Enters Tryz.prog 222:=enters Tryz.func222 rfl (by decide)
theorem adj:Enters Tryz.prog 223:=enters Tryz.func223 rfl (by decide)
theorem Xy:Enters Tryz.prog 224:=enters Tryz.func224 rfl (by decide)
theorem adk:Enters Tryz.prog 225:=enters Tryz.func225 rfl (by decide)
theorem adl:Enters Tryz.prog 226:=enters Tryz.func226 rfl (by decide)
theorem Xz:Enters Tryz.prog 227:=enters Tryz.func227 rfl (by decide)
theorem adm:Enters Tryz.prog 228:=enters Tryz.func228 rfl (by decide)
theorem adn:Enters Tryz.prog 229:=enters Tryz.func229 rfl (by decide)
theorem ado:Enters Tryz.prog 237:=enters Tryz.func237 rfl (by decide)
theorem adp:Enters Tryz.prog 249:=enters Tryz.func249 rfl (by decide)
theorem adq:Enters Tryz.prog 250:=enters Tryz.func250 rfl (by decide)
theorem ads:Enters Tryz.prog 251:=enters Tryz.func251 rfl (by decide)
theorem XA:Enters Tryz.prog 252:=enters Tryz.func252 rfl (by decide)
theorem adt:Enters Tryz.prog 253:=enters Tryz.func253 rfl (by decide)
theorem XB:Enters Tryz.prog 254:=enters Tryz.func254 rfl (by decide)
theorem XC:Enters Tryz.prog 263:=enters Tryz.func263 rfl (by decide)
theorem adu:Enters Tryz.prog 264:=enters Tryz.func264 rfl (by decide)
theorem adv:Enters Tryz.prog 265:=enters Tryz.func265 rfl (by decide)
theorem adw:Enters Tryz.prog 266:=enters Tryz.func266 rfl (by decide)
theorem adx:Enters Tryz.prog 267:=enters Tryz.func267 rfl (by decide)
theorem ady:Enters Tryz.prog 284:=enters Tryz.func284 rfl (by decide)
theorem adz:Enters Tryz.prog 285:=enters Tryz.func285 rfl (by decide)
theorem XD:Enters Tryz.prog 287:=enters Tryz.func287 rfl (by decide)
theorem adA:Enters Tryz.prog 290:=enters Tryz.func290 rfl (by decide)
end Go.K
namespace Go.K
open Go.Proofs
set_option maxRecDepth 10000
def fL (c:Int):Bool:=decide ((97≤c∧c≤122)∨(65≤c∧c≤90)∨(192≤c∧c≤591∧c≠215∧c≠247))
def oZ (c:Int):Bool:=decide (48≤c∧c≤57)
def fN (c:Int):Int:=if(65≤c∧c≤90)∨(192≤c∧c≤222∧c≠215)then c+32 else c
theorem CT (c:Int) (w0:World):
  Spec Tryz.prog 225 #[.int .i64 c] w0 (fun v w=>v= .bool (fL c)∧w=w0):=by
 refine bm (args:=[_]) (fn:=Tryz.f225) Tryz.func225 rfl (n:=33) Tryz.ntmps225 (aj (ae (ah rfl rfl (ab (aj (ae (ad rfl rfl (dY rfl rfl rfl (ad rfl rfl ?_)))))))));refine aR (g:=5) rfl (fun iH=>?_) (fun iH=>?_)
 ·refine al rfl rfl (ad rfl rfl (al rfl rfl (gJ rfl rfl rfl (a8 rfl rfl rfl (ad rfl rfl ?_)))));refine aR (g:=9) rfl (fun Bo=>?_) (fun Bo=>?_)
  ·refine au rfl rfl rfl rfl (au rfl rfl rfl rfl (au rfl rfl rfl rfl (cq rfl rfl rfl (cq rfl rfl rfl (au rfl rfl rfl rfl (a8 rfl rfl rfl (ad rfl rfl (au rfl rfl rfl rfl (au rfl rfl rfl rfl (au rfl rfl rfl rfl (cq rfl rfl rfl ?_)))))))))));refine cq rfl rfl rfl (au rfl rfl rfl rfl (au rfl rfl rfl rfl (cq rfl rfl rfl (cq rfl rfl rfl (au rfl rfl rfl rfl (au rfl rfl rfl rfl (cq rfl rfl rfl (cq rfl rfl rfl (au rfl rfl rfl rfl (a8 rfl rfl rfl (ah rfl rfl ?_)))))))))));refine ab (aQ ?_);exact aV rfl rfl ⟨by simp only[fL];first|rfl|(congr 1;first|(exact(decide_eq_true (by omega)).symm)|(exact(decide_eq_false (by omega)).symm)|(exact decide_eq_decide.2 (by omega))),rfl⟩
  ·refine al rfl rfl (ad rfl rfl (al rfl rfl (dY rfl rfl rfl (al rfl rfl (ad rfl rfl ?_)))));refine aR (g:=12) rfl (fun sK=>?_) (fun sK=>?_)
   ·refine al rfl rfl (ad rfl rfl (al rfl rfl (gJ rfl rfl rfl (al rfl rfl (a8 rfl rfl rfl (aE rfl rfl rfl (ad rfl rfl ?_)))))));refine aR (g:=17) rfl (fun xY=>?_) (fun xY=>?_)
    ·refine au rfl rfl rfl rfl (au rfl rfl rfl rfl (au rfl rfl rfl rfl (cq rfl rfl rfl (cq rfl rfl rfl (au rfl rfl rfl rfl (au rfl rfl rfl rfl (cq rfl rfl rfl (cq rfl rfl rfl (au rfl rfl rfl rfl (au rfl rfl rfl rfl (cq rfl rfl rfl ?_)))))))))));refine cq rfl rfl rfl (au rfl rfl rfl rfl (a8 rfl rfl rfl (ah rfl rfl (ab (aQ ?_)))));exact aV rfl rfl ⟨by simp only[fL];first|rfl|(congr 1;first|(exact(decide_eq_true (by omega)).symm)|(exact(decide_eq_false (by omega)).symm)|(exact decide_eq_decide.2 (by omega))),rfl⟩
    ·refine al rfl rfl (ad rfl rfl (al rfl rfl (dY rfl rfl rfl (al rfl rfl (ad rfl rfl ?_)))));refine aR (g:=20) rfl (fun mu=>?_) (fun mu=>?_)
     ·refine al rfl rfl (ad rfl rfl (al rfl rfl (gJ rfl rfl rfl (al rfl rfl (a8 rfl rfl rfl (al rfl rfl (ad rfl rfl ?_)))))));refine aR (g:=24) rfl (fun xZ=>?_) (fun xZ=>?_)
      ·refine al rfl rfl (ad rfl rfl (al rfl rfl (fD rfl rfl rfl (al rfl rfl (a8 rfl rfl rfl (al rfl rfl (ad rfl rfl ?_)))))));refine aR (g:=28) rfl (fun x4=>?_) (fun x4=>?_)
       ·refine al rfl rfl (ad rfl rfl (al rfl rfl (fD rfl rfl rfl (al rfl rfl (a8 rfl rfl rfl (aE rfl rfl rfl (ah rfl rfl (ab (aQ ?_)))))))));exact aV rfl rfl ⟨by simp only[fL];first|rfl|(congr 1;first|(exact(decide_eq_true (by omega)).symm)|(exact(decide_eq_false (by omega)).symm)|(exact decide_eq_decide.2 (by omega))),rfl⟩
       ·refine au rfl rfl rfl rfl (au rfl rfl rfl rfl (al rfl rfl (aE rfl rfl rfl (aE rfl rfl rfl (ah rfl rfl (ab (aQ ?_)))))));exact aV rfl rfl ⟨by simp only[fL];first|rfl|(congr 1;first|(exact(decide_eq_true (by omega)).symm)|(exact(decide_eq_false (by omega)).symm)|(exact decide_eq_decide.2 (by omega))),rfl⟩
      ·refine au rfl rfl rfl rfl (au rfl rfl rfl rfl (al rfl rfl (aE rfl rfl rfl (al rfl rfl (ad rfl rfl (au rfl rfl rfl rfl (au rfl rfl rfl rfl (al rfl rfl (aE rfl rfl rfl (aE rfl rfl rfl (ah rfl rfl ?_)))))))))));refine ab (aQ ?_);exact aV rfl rfl ⟨by simp only[fL];first|rfl|(congr 1;first|(exact(decide_eq_true (by omega)).symm)|(exact(decide_eq_false (by omega)).symm)|(exact decide_eq_decide.2 (by omega))),rfl⟩
     ·refine au rfl rfl rfl rfl (au rfl rfl rfl rfl (al rfl rfl (aE rfl rfl rfl (al rfl rfl (ad rfl rfl (au rfl rfl rfl rfl (au rfl rfl rfl rfl (al rfl rfl (aE rfl rfl rfl (al rfl rfl (ad rfl rfl ?_)))))))))));refine au rfl rfl rfl rfl (au rfl rfl rfl rfl (al rfl rfl (aE rfl rfl rfl (aE rfl rfl rfl (ah rfl rfl (ab (aQ ?_)))))));exact aV rfl rfl ⟨by simp only[fL];first|rfl|(congr 1;first|(exact(decide_eq_true (by omega)).symm)|(exact(decide_eq_false (by omega)).symm)|(exact decide_eq_decide.2 (by omega))),rfl⟩
   ·refine au rfl rfl rfl rfl (au rfl rfl rfl rfl (al rfl rfl (aE rfl rfl rfl (aE rfl rfl rfl (ad rfl rfl (al rfl rfl (ad rfl rfl (al rfl rfl (dY rfl rfl rfl (al rfl rfl (ad rfl rfl ?_)))))))))));refine aR (g:=20) rfl (fun mu=>?_) (fun mu=>?_)
    ·refine al rfl rfl (ad rfl rfl (al rfl rfl (gJ rfl rfl rfl (al rfl rfl (a8 rfl rfl rfl (al rfl rfl (ad rfl rfl ?_)))))));refine aR (g:=24) rfl (fun xZ=>?_) (fun xZ=>?_)
     ·refine al rfl rfl (ad rfl rfl (al rfl rfl (fD rfl rfl rfl (al rfl rfl (a8 rfl rfl rfl (al rfl rfl (ad rfl rfl ?_)))))));refine aR (g:=28) rfl (fun x4=>?_) (fun x4=>?_)
      ·refine al rfl rfl (ad rfl rfl (al rfl rfl (fD rfl rfl rfl (al rfl rfl (a8 rfl rfl rfl (aE rfl rfl rfl (ah rfl rfl (ab (aQ ?_)))))))));exact aV rfl rfl ⟨by simp only[fL];first|rfl|(congr 1;first|(exact(decide_eq_true (by omega)).symm)|(exact(decide_eq_false (by omega)).symm)|(exact decide_eq_decide.2 (by omega))),rfl⟩
      ·refine au rfl rfl rfl rfl (au rfl rfl rfl rfl (al rfl rfl (aE rfl rfl rfl (aE rfl rfl rfl (ah rfl rfl (ab (aQ ?_)))))));exact aV rfl rfl ⟨by simp only[fL];first|rfl|(congr 1;first|(exact(decide_eq_true (by omega)).symm)|(exact(decide_eq_false (by omega)).symm)|(exact decide_eq_decide.2 (by omega))),rfl⟩
     ·refine au rfl rfl rfl rfl (au rfl rfl rfl rfl (al rfl rfl (aE rfl rfl rfl (al rfl rfl (ad rfl rfl (au rfl rfl rfl rfl (au rfl rfl rfl rfl (al rfl rfl (aE rfl rfl rfl (aE rfl rfl rfl (ah rfl rfl ?_)))))))))));refine ab (aQ ?_);exact aV rfl rfl ⟨by simp only[fL];first|rfl|(congr 1;first|(exact(decide_eq_true (by omega)).symm)|(exact(decide_eq_false (by omega)).symm)|(exact decide_eq_decide.2 (by omega))),rfl⟩
    ·refine au rfl rfl rfl rfl (au rfl rfl rfl rfl (al rfl rfl (aE rfl rfl rfl (al rfl rfl (ad rfl rfl (au rfl rfl rfl rfl (au rfl rfl rfl rfl (al rfl rfl (aE rfl rfl rfl (al rfl rfl (ad rfl rfl ?_)))))))))));refine au rfl rfl rfl rfl (au rfl rfl rfl rfl (al rfl rfl (aE rfl rfl rfl (aE rfl rfl rfl (ah rfl rfl (ab (aQ ?_)))))));exact aV rfl rfl ⟨by simp only[fL];first|rfl|(congr 1;first|(exact(decide_eq_true (by omega)).symm)|(exact(decide_eq_false (by omega)).symm)|(exact decide_eq_decide.2 (by omega))),rfl⟩
 ·refine au rfl rfl rfl rfl (au rfl rfl rfl rfl (aE rfl rfl rfl (ad rfl rfl (al rfl rfl (ad rfl rfl (al rfl rfl (dY rfl rfl rfl (al rfl rfl (ad rfl rfl ?_)))))))));refine aR (g:=12) rfl (fun sK=>?_) (fun sK=>?_)
  ·refine al rfl rfl (ad rfl rfl (al rfl rfl (gJ rfl rfl rfl (al rfl rfl (a8 rfl rfl rfl (aE rfl rfl rfl (ad rfl rfl ?_)))))));refine aR (g:=17) rfl (fun xY=>?_) (fun xY=>?_)
   ·refine au rfl rfl rfl rfl (au rfl rfl rfl rfl (au rfl rfl rfl rfl (cq rfl rfl rfl (cq rfl rfl rfl (au rfl rfl rfl rfl (au rfl rfl rfl rfl (cq rfl rfl rfl (cq rfl rfl rfl (au rfl rfl rfl rfl (au rfl rfl rfl rfl (cq rfl rfl rfl ?_)))))))))));refine cq rfl rfl rfl (au rfl rfl rfl rfl (a8 rfl rfl rfl (ah rfl rfl (ab (aQ ?_)))));exact aV rfl rfl ⟨by simp only[fL];first|rfl|(congr 1;first|(exact(decide_eq_true (by omega)).symm)|(exact(decide_eq_false (by omega)).symm)|(exact decide_eq_decide.2 (by omega))),rfl⟩
   ·refine al rfl rfl (ad rfl rfl (al rfl rfl (dY rfl rfl rfl (al rfl rfl (ad rfl rfl ?_)))));refine aR (g:=20) rfl (fun mu=>?_) (fun mu=>?_)
    ·refine al rfl rfl (ad rfl rfl (al rfl rfl (gJ rfl rfl rfl (al rfl rfl (a8 rfl rfl rfl (al rfl rfl (ad rfl rfl ?_)))))));refine aR (g:=24) rfl (fun xZ=>?_) (fun xZ=>?_)
     ·refine al rfl rfl (ad rfl rfl (al rfl rfl (fD rfl rfl rfl (al rfl rfl (a8 rfl rfl rfl (al rfl rfl (ad rfl rfl ?_)))))));refine aR (g:=28) rfl (fun x4=>?_) (fun x4=>?_)
      ·refine al rfl rfl (ad rfl rfl (al rfl rfl (fD rfl rfl rfl (al rfl rfl (a8 rfl rfl rfl (aE rfl rfl rfl (ah rfl rfl (ab (aQ ?_)))))))));exact aV rfl rfl ⟨by simp only[fL];first|rfl|(congr 1;first|(exact(decide_eq_true (by omega)).symm)|(exact(decide_eq_false (by omega)).symm)|(exact decide_eq_decide.2 (by omega))),rfl⟩
      ·refine au rfl rfl rfl rfl (au rfl rfl rfl rfl (al rfl rfl (aE rfl rfl rfl (aE rfl rfl rfl (ah rfl rfl (ab (aQ ?_)))))));exact aV rfl rfl ⟨by simp only[fL];first|rfl|(congr 1;first|(exact(decide_eq_true (by omega)).symm)|(exact(decide_eq_false (by omega)).symm)|(exact decide_eq_decide.2 (by omega))),rfl⟩
     ·refine au rfl rfl rfl rfl (au rfl rfl rfl rfl (al rfl rfl (aE rfl rfl rfl (al rfl rfl (ad rfl rfl (au rfl rfl rfl rfl (au rfl rfl rfl rfl (al rfl rfl (aE rfl rfl rfl (aE rfl rfl rfl (ah rfl rfl ?_)))))))))));refine ab (aQ ?_);exact aV rfl rfl ⟨by simp only[fL];first|rfl|(congr 1;first|(exact(decide_eq_true (by omega)).symm)|(exact(decide_eq_false (by omega)).symm)|(exact decide_eq_decide.2 (by omega))),rfl⟩
    ·refine au rfl rfl rfl rfl (au rfl rfl rfl rfl (al rfl rfl (aE rfl rfl rfl (al rfl rfl (ad rfl rfl (au rfl rfl rfl rfl (au rfl rfl rfl rfl (al rfl rfl (aE rfl rfl rfl (al rfl rfl (ad rfl rfl ?_)))))))))));refine au rfl rfl rfl rfl (au rfl rfl rfl rfl (al rfl rfl (aE rfl rfl rfl (aE rfl rfl rfl (ah rfl rfl (ab (aQ ?_)))))));exact aV rfl rfl ⟨by simp only[fL];first|rfl|(congr 1;first|(exact(decide_eq_true (by omega)).symm)|(exact(decide_eq_false (by omega)).symm)|(exact decide_eq_decide.2 (by omega))),rfl⟩
  ·refine au rfl rfl rfl rfl (au rfl rfl rfl rfl (al rfl rfl (aE rfl rfl rfl (aE rfl rfl rfl (ad rfl rfl (al rfl rfl (ad rfl rfl (al rfl rfl (dY rfl rfl rfl (al rfl rfl (ad rfl rfl ?_)))))))))));refine aR (g:=20) rfl (fun mu=>?_) (fun mu=>?_)
   ·refine al rfl rfl (ad rfl rfl (al rfl rfl (gJ rfl rfl rfl (al rfl rfl (a8 rfl rfl rfl (al rfl rfl (ad rfl rfl ?_)))))));refine aR (g:=24) rfl (fun xZ=>?_) (fun xZ=>?_)
    ·refine al rfl rfl (ad rfl rfl (al rfl rfl (fD rfl rfl rfl (al rfl rfl (a8 rfl rfl rfl (al rfl rfl (ad rfl rfl ?_)))))));refine aR (g:=28) rfl (fun x4=>?_) (fun x4=>?_)
     ·refine al rfl rfl (ad rfl rfl (al rfl rfl (fD rfl rfl rfl (al rfl rfl (a8 rfl rfl rfl (aE rfl rfl rfl (ah rfl rfl (ab (aQ ?_)))))))));exact aV rfl rfl ⟨by simp only[fL];first|rfl|(congr 1;first|(exact(decide_eq_true (by omega)).symm)|(exact(decide_eq_false (by omega)).symm)|(exact decide_eq_decide.2 (by omega))),rfl⟩
     ·refine au rfl rfl rfl rfl (au rfl rfl rfl rfl (al rfl rfl (aE rfl rfl rfl (aE rfl rfl rfl (ah rfl rfl (ab (aQ ?_)))))));exact aV rfl rfl ⟨by simp only[fL];first|rfl|(congr 1;first|(exact(decide_eq_true (by omega)).symm)|(exact(decide_eq_false (by omega)).symm)|(exact decide_eq_decide.2 (by omega))),rfl⟩
    ·refine au rfl rfl rfl rfl (au rfl rfl rfl rfl (al rfl rfl (aE rfl rfl rfl (al rfl rfl (ad rfl rfl (au rfl rfl rfl rfl (au rfl rfl rfl rfl (al rfl rfl (aE rfl rfl rfl (aE rfl rfl rfl (ah rfl rfl ?_)))))))))));refine ab (aQ ?_);exact aV rfl rfl ⟨by simp only[fL];first|rfl|(congr 1;first|(exact(decide_eq_true (by omega)).symm)|(exact(decide_eq_false (by omega)).symm)|(exact decide_eq_decide.2 (by omega))),rfl⟩
   ·refine au rfl rfl rfl rfl (au rfl rfl rfl rfl (al rfl rfl (aE rfl rfl rfl (al rfl rfl (ad rfl rfl (au rfl rfl rfl rfl (au rfl rfl rfl rfl (al rfl rfl (aE rfl rfl rfl (al rfl rfl (ad rfl rfl ?_)))))))))));refine au rfl rfl rfl rfl (au rfl rfl rfl rfl (al rfl rfl (aE rfl rfl rfl (aE rfl rfl rfl (ah rfl rfl (ab (aQ ?_)))))));exact aV rfl rfl ⟨by simp only[fL];first|rfl|(congr 1;first|(exact(decide_eq_true (by omega)).symm)|(exact(decide_eq_false (by omega)).symm)|(exact decide_eq_decide.2 (by omega))),rfl⟩
theorem Ft (c:Int) (w0:World):
  Spec Tryz.prog 226 #[.int .i64 c] w0 (fun v w=>v= .bool (oZ c)∧w=w0):=by
 refine bm (args:=[_]) (fn:=Tryz.f226) Tryz.func226 rfl (n:=9) Tryz.ntmps226 (aj (ae (ah rfl rfl (ab (aj (ae (ad rfl rfl (dY rfl rfl rfl (ad rfl rfl ?_)))))))));refine aR (g:=5) rfl (fun iH=>?_) (fun iH=>?_)
 ·refine al rfl rfl (ad rfl rfl (al rfl rfl (gJ rfl rfl rfl (a8 rfl rfl rfl (ah rfl rfl (ab (aQ ?_)))))));exact aV rfl rfl ⟨by simp only[oZ];first|rfl|(congr 1;first|(exact(decide_eq_true (by omega)).symm)|(exact(decide_eq_false (by omega)).symm)|(exact decide_eq_decide.2 (by omega))),rfl⟩
 ·refine au rfl rfl rfl rfl (au rfl rfl rfl rfl (aE rfl rfl rfl (ah rfl rfl (ab (aQ ?_)))));exact aV rfl rfl ⟨by simp only[oZ];first|rfl|(congr 1;first|(exact(decide_eq_true (by omega)).symm)|(exact(decide_eq_false (by omega)).symm)|(exact decide_eq_decide.2 (by omega))),rfl⟩
theorem As (c:Int) (w0:World) (hc:0≤c∧c≤1114111):
  Spec Tryz.prog 227 #[.int .i64 c] w0 (fun v w=>v= .int .i64 (fN c)∧w=w0):=by
 refine bm (args:=[_]) (fn:=Tryz.f227) Tryz.func227 rfl (n:=24) Tryz.ntmps227 (aj (ae (ah rfl rfl (ab (aj (aj (ae (ad rfl rfl (dY rfl rfl rfl (ad rfl rfl ?_))))))))));refine aR (g:=5) rfl (fun iH=>?_) (fun iH=>?_)
 ·refine al rfl rfl (ad rfl rfl (al rfl rfl (gJ rfl rfl rfl (a8 rfl rfl rfl (ad rfl rfl ?_)))));refine aR (g:=9) rfl (fun Bo=>?_) (fun Bo=>?_)
  ·refine au rfl rfl rfl rfl (au rfl rfl rfl rfl (au rfl rfl rfl rfl (cq rfl rfl rfl (cq rfl rfl rfl (au rfl rfl rfl rfl (au rfl rfl rfl rfl (cq rfl rfl rfl (cq rfl rfl rfl (au rfl rfl rfl rfl (a8 rfl rfl rfl (ab ?_)))))))))));refine nG rfl (aj (ae (ad rfl rfl (bC rfl rfl rfl (by omega) (ah rfl rfl (ab (aQ ?_)))))));exact aV rfl rfl ⟨by rw[fN,if_pos (by omega)],rfl⟩
  ·refine al rfl rfl (ad rfl rfl (al rfl rfl (dY rfl rfl rfl (al rfl rfl (ad rfl rfl ?_)))));refine aR (g:=12) rfl (fun sK=>?_) (fun sK=>?_)
   ·refine al rfl rfl (ad rfl rfl (al rfl rfl (gJ rfl rfl rfl (al rfl rfl (a8 rfl rfl rfl (al rfl rfl (ad rfl rfl ?_)))))));refine aR (g:=16) rfl (fun KR=>?_) (fun KR=>?_)
    ·refine al rfl rfl (ad rfl rfl (al rfl rfl (fD rfl rfl rfl (al rfl rfl (a8 rfl rfl rfl (aE rfl rfl rfl (ab ?_)))))));refine bI rfl (fun c1=>?_) (fun c1=>?_)
     ·refine aj (ae (ad rfl rfl (bC rfl rfl rfl (by omega) (ah rfl rfl (ab (aQ ?_))))));exact aV rfl rfl ⟨by rw[fN,if_pos (by omega)],rfl⟩
     ·refine aT (aj (ae (ad rfl rfl (ah rfl rfl (ab (aQ ?_))))));exact aV rfl rfl ⟨by rw[fN,if_neg (by omega)],rfl⟩
    ·refine au rfl rfl rfl rfl (au rfl rfl rfl rfl (al rfl rfl (aE rfl rfl rfl (aE rfl rfl rfl (ab (jt rfl (aT (aj (ae (ad rfl rfl (ah rfl rfl ?_)))))))))));refine ab (aQ ?_);exact aV rfl rfl ⟨by rw[fN,if_neg (by omega)],rfl⟩
   ·refine au rfl rfl rfl rfl (au rfl rfl rfl rfl (al rfl rfl (aE rfl rfl rfl (al rfl rfl (ad rfl rfl (au rfl rfl rfl rfl (au rfl rfl rfl rfl (al rfl rfl (aE rfl rfl rfl (aE rfl rfl rfl (ab ?_)))))))))));refine jt rfl (aT (aj (ae (ad rfl rfl (ah rfl rfl (ab (aQ ?_)))))));exact aV rfl rfl ⟨by rw[fN,if_neg (by omega)],rfl⟩
 ·refine au rfl rfl rfl rfl (au rfl rfl rfl rfl (aE rfl rfl rfl (ad rfl rfl (al rfl rfl (ad rfl rfl (al rfl rfl (dY rfl rfl rfl (al rfl rfl (ad rfl rfl ?_)))))))));refine aR (g:=12) rfl (fun sK=>?_) (fun sK=>?_)
  ·refine al rfl rfl (ad rfl rfl (al rfl rfl (gJ rfl rfl rfl (al rfl rfl (a8 rfl rfl rfl (al rfl rfl (ad rfl rfl ?_)))))));refine aR (g:=16) rfl (fun KR=>?_) (fun KR=>?_)
   ·refine al rfl rfl (ad rfl rfl (al rfl rfl (fD rfl rfl rfl (al rfl rfl (a8 rfl rfl rfl (aE rfl rfl rfl (ab ?_)))))));refine bI rfl (fun c1=>?_) (fun c1=>?_)
    ·refine aj (ae (ad rfl rfl (bC rfl rfl rfl (by omega) (ah rfl rfl (ab (aQ ?_))))));exact aV rfl rfl ⟨by rw[fN,if_pos (by omega)],rfl⟩
    ·refine aT (aj (ae (ad rfl rfl (ah rfl rfl (ab (aQ ?_))))));exact aV rfl rfl ⟨by rw[fN,if_neg (by omega)],rfl⟩
   ·refine au rfl rfl rfl rfl (au rfl rfl rfl rfl (al rfl rfl (aE rfl rfl rfl (aE rfl rfl rfl (ab (jt rfl (aT (aj (ae (ad rfl rfl (ah rfl rfl ?_)))))))))));refine ab (aQ ?_);exact aV rfl rfl ⟨by rw[fN,if_neg (by omega)],rfl⟩
  ·refine au rfl rfl rfl rfl (au rfl rfl rfl rfl (al rfl rfl (aE rfl rfl rfl (al rfl rfl (ad rfl rfl (au rfl rfl rfl rfl (au rfl rfl rfl rfl (al rfl rfl (aE rfl rfl rfl (aE rfl rfl rfl (ab ?_)))))))))));refine jt rfl (aT (aj (ae (ad rfl rfl (ah rfl rfl (ab (aQ ?_)))))));exact aV rfl rfl ⟨by rw[fN,if_neg (by omega)],rfl⟩
end Go.K
namespace Go.Proofs
open Go.Shelf
def Tryz.vY:Go.Shelf.Ren:=⟨fun|169=>267|n=>n,fun|70=>334|9=>9|0=>0|72=>336|37=>204|127=>358|3=>3|5=>5|n=>n,fun|n=>n⟩
theorem Tryz.Pd:Go.Proofs.Lays.n169 Tryz.prog Tryz.vY:={
 mixed:=by kernel_rfl
 f169:=Tryz.func267.trans (congrArg some (by kernel_rfl))
 t0:=fJ
 a0:=lH
 z0:=ka
 v0:=gF
 t3:=aw
 a3:=lI
 z3:=kb
 v3:=gG
 t9:=aF
 a9:=lJ
 z9:=kd
 v9:=gH
 t37:=bH
 a37:=Tryz.isAgg204
 z37:=Tryz.sizeOf204
 v37:=Tryz.zeroValue204
 t70:=Tryz.underlying334
 a70:=Tryz.isAgg334
 z70:=Tryz.sizeOf334
 v70:=Tryz.zeroValue334
 t72:=Tryz.underlying336
 a72:=Tryz.isAgg336
 z72:=Tryz.sizeOf336
 v72:=Tryz.zeroValue336
 t127:=Tryz.underlying358
 a127:=Tryz.isAgg358
 z127:=Tryz.sizeOf358
 v127:=Tryz.zeroValue358}
def Tryz.CU:Go.Shelf.Ren:=⟨fun|119=>290|n=>n,fun|21=>21|4=>4|n=>n,fun|n=>n⟩
theorem Tryz.Pe:Go.Proofs.Lays.n119 Tryz.prog Tryz.CU:={
 mixed:=by kernel_rfl
 f119:=Tryz.func290.trans (congrArg some (by kernel_rfl))
 t4:=iL
 a4:=rB
 z4:=nN
 v4:=jx
 t21:=Tryz.underlying21
 a21:=Tryz.isAgg21
 z21:=Tryz.sizeOf21
 v21:=Tryz.zeroValue21}
def Tryz.CV:Go.Shelf.Ren:=⟨fun|106=>137|213=>189|265=>239|n=>n,fun|9=>9|3=>3|n=>n,fun|n=>n⟩
theorem Tryz.Pf:Go.Proofs.Lays.n106 Tryz.prog Tryz.CV:={
 mixed:=by kernel_rfl
 f106:=Tryz.func137.trans (congrArg some (by kernel_rfl))
 f213:=Tryz.func189.trans (congrArg some (by kernel_rfl))
 f265:=Tryz.func239.trans (congrArg some (by kernel_rfl))
 t3:=aw
 a3:=lI
 z3:=kb
 v3:=gG
 t9:=aF
 a9:=lJ
 z9:=kd
 v9:=gH}
theorem Tryz.tF:Builder.Extra Tryz.prog Tryz.vY:={
 sizeBuilder:=by kernel_rfl
 liesBuilder:=by kernel_rfl
 t5:=cz
 a5:=Tryz.isAgg5
 z5:=Tryz.sizeOf5
 v5:=tj
 infoByte:=by kernel_rfl
 cellsByte:=by kernel_rfl
 sizeByte:=by kernel_rfl
 neB5:=by decide}
def Tryz.vZ:Go.Shelf.Ren:=⟨fun|168=>265|240=>288|242=>289|276=>298|278=>299|n=>n,fun|0=>0|3=>3|4=>4|5=>5|9=>9|20=>20|21=>21|37=>204|46=>189|51=>257|70=>334|72=>336|75=>338|80=>342|164=>363|n=>n,fun|n=>n⟩
theorem Tryz.Pg:Go.Proofs.Lays.n168 Tryz.prog Tryz.vZ:={
 mixed:=by kernel_rfl
 f168:=Tryz.func265.trans (congrArg some (by kernel_rfl))
 f240:=Tryz.func288.trans (congrArg some (by kernel_rfl))
 f242:=Tryz.func289.trans (congrArg some (by kernel_rfl))
 f276:=Tryz.func298.trans (congrArg some (by kernel_rfl))
 f278:=Tryz.func299.trans (congrArg some (by kernel_rfl))
 t0:=fJ
 a0:=lH
 z0:=ka
 v0:=gF
 t3:=aw
 a3:=lI
 z3:=kb
 v3:=gG
 t4:=iL
 a4:=rB
 z4:=nN
 v4:=jx
 t5:=cz
 a5:=Tryz.isAgg5
 z5:=Tryz.sizeOf5
 v5:=tj
 t9:=aF
 a9:=lJ
 z9:=kd
 v9:=gH
 t20:=Tryz.underlying20
 a20:=Tryz.isAgg20
 z20:=Tryz.sizeOf20
 v20:=Tryz.zeroValue20
 t21:=Tryz.underlying21
 a21:=Tryz.isAgg21
 z21:=Tryz.sizeOf21
 v21:=Tryz.zeroValue21
 t37:=bH
 a37:=Tryz.isAgg204
 z37:=Tryz.sizeOf204
 v37:=Tryz.zeroValue204
 t46:=jO
 a46:=Tryz.isAgg189
 z46:=Tryz.sizeOf189
 v46:=Tryz.zeroValue189
 t51:=Tryz.underlying257
 a51:=Tryz.isAgg257
 z51:=Tryz.sizeOf257
 v51:=Tryz.zeroValue257
 t70:=Tryz.underlying334
 a70:=Tryz.isAgg334
 z70:=Tryz.sizeOf334
 v70:=Tryz.zeroValue334
 t72:=Tryz.underlying336
 a72:=Tryz.isAgg336
 z72:=Tryz.sizeOf336
 v72:=Tryz.zeroValue336
 t75:=Tryz.underlying338
 a75:=Tryz.isAgg338
 z75:=Tryz.sizeOf338
 v75:=Tryz.zeroValue338
 t164:=Tryz.underlying363
 a164:=Tryz.isAgg363
 z164:=Tryz.sizeOf363
 v164:=Tryz.zeroValue363}
theorem Tryz.tG:Builder.Extra Tryz.prog Tryz.vZ where
 sizeBuilder:=by kernel_rfl
 liesBuilder:=by kernel_rfl
 t5:=cz
 a5:=Tryz.isAgg5
 z5:=Tryz.sizeOf5
 v5:=tj
 infoByte:=by kernel_rfl
 cellsByte:=by kernel_rfl
 sizeByte:=by kernel_rfl
 neB5:=by decide
end Go.Proofs
namespace Go.K
open Go.Proofs
set_option maxRecDepth 10000
open Go.RowKit Go.Shelf
theorem Fu (r:Int) (w:World):Spec Tryz.prog 290 #[.int .i32 r] w (fun v w'=>v= .bool (Lib.validRune r)∧w'=w):=(Any.utf8_ValidRune Tryz.Pe r w).mono fun e w' ⟨h1,h2⟩=>⟨_,h1,rfl,h2⟩
theorem IG {B b:Nat} {bs:List Value} {r:Int} (w:World) (hr: -2147483648≤r∧r≤2147483647) (h:Lib.IsBuilderF 336 5 B b bs w) (hl:bs.length+4≤140737488355328) (hB:B≤w.heap.size):
  Spec Tryz.prog 265 #[.pointer (some ⟨b,0,none⟩),.int .i32 r] w (fun v w'=>Lib.IsBuilderF 336 5 B b (bs++Lib.runeCells r) w'∧Below B w w'):=
 (Any.Builder_WriteRune_k Tryz.Pg Tryz.tG B b bs r hr.1 hr.2 w h hl hB).mono fun e w' ⟨h1,h2,h3,_⟩=>⟨_,h1,.inr h2,h3⟩
theorem KS {B b:Nat} {l:List UInt8} (w:World) (h:Lib.IsBuilderF 336 5 B b (Lib.byteCells l) w) (hB:B≤w.heap.size):
  Spec Tryz.prog 267 #[.pointer (some ⟨b,0,none⟩)] w (fun v w'=>v= .string ⟨l.toArray⟩∧Below B w w'):=
 (Any.Builder_String_any_k Tryz.Pd Tryz.tF B b l w h hB).mono fun e w' ⟨h1,_,h3,_⟩=>⟨_,h1,rfl,h3⟩
theorem wrap32 {c:Int} (h:0≤c∧c≤1114111):IntKind.i32.wrap c=c:=by
 show(if(true&&decide (c%4294967296≥2147483648))=true then c%4294967296-4294967296 else c%4294967296)=c;rw[if_neg (by simp only[fc,decide_eq_true_eq];omega)];omega
def tH (c:Int):Int:=if c<0∨c>1114111∨Lib.validRune c=false then 65533 else c
theorem Hp (c:Int):0≤tH c∧tH c≤1114111:=by unfold tH;split<;>omega
def kJ (l:List Int):List UInt8:=l.flatMap fun c=>Lib.encodeRune (tH c)
theorem mv (l:List Int) (c:Int):kJ (l++[c])=kJ l++Lib.encodeRune (tH c):=by simp[kJ]
theorem Ph (r:Int):(Lib.encodeRune r).length≤4:=by have:=(Lib.encodeRuneZ_length r).2;simpa[Lib.encodeRune]using this
theorem gx (l:List Int):(kJ l).length≤4*l.length:=by
 induction l with
 |nil=>simp[kJ]
 |cons c l ih=>
  have:=Ph (tH c);simp only[kJ,rY,bc,cD]at ih ⊢;omega
theorem x5 (l:List Int) (c:Int):Lib.byteCells (kJ l)++Lib.runeCells (tH c)=Lib.byteCells (kJ (l++[c])):=by
 rw[mv,←Lib.byteCells_encodeRune];simp[Lib.byteCells]
theorem KT (c:Int) (w0:World):
  Spec Tryz.prog 266 #[.int .i64 c] w0 (fun v w=>v= .int .i32 (tH c)∧w=w0):=by
 refine bm (args:=[_]) (fn:=Tryz.f266) Tryz.func266 rfl (n:=17) Tryz.ntmps266 (aj (ae (ah rfl rfl (ab (aj (aj (ae (ad rfl rfl (cg rfl rfl rfl (ad rfl rfl ?_))))))))));refine aR (g:=5) rfl (fun iH=>?_) (fun iH=>?_)
 ·refine au rfl rfl rfl rfl (au rfl rfl rfl rfl (a8 rfl rfl rfl (ad rfl rfl (au rfl rfl rfl rfl (au rfl rfl rfl rfl (au rfl rfl rfl rfl (au rfl rfl rfl rfl (a8 rfl rfl rfl (ab (nG rfl (aj ?_)))))))))));refine ae (ah rfl rfl (ab (aQ ?_)));exact aV rfl rfl ⟨by rw[tH,if_pos (by first|exact .inl (by omega)|exact .inr (.inl (by omega))|exact .inr (.inr (by assumption)))],rfl⟩
 ·refine al rfl rfl (ad rfl rfl (al rfl rfl (iY rfl rfl rfl (aE rfl rfl rfl (ad rfl rfl ?_)))));refine aR (g:=9) rfl (fun Bo=>?_) (fun Bo=>?_)
  ·refine au rfl rfl rfl rfl (au rfl rfl rfl rfl (au rfl rfl rfl rfl (au rfl rfl rfl rfl (a8 rfl rfl rfl (ab (nG rfl (aj (ae (ah rfl rfl (ab (aQ ?_)))))))))));exact aV rfl rfl ⟨by rw[tH,if_pos (by first|exact .inl (by omega)|exact .inr (.inl (by omega))|exact .inr (.inr (by assumption)))],rfl⟩
  ·refine al rfl rfl (ad rfl rfl (al rfl rfl (rZ aw Tryz.underlying21 rfl rfl (aU (v':= .int .i32 c) (congrArg (Value.int .i32) (wrap32 (by omega))) (al rfl rfl ?_)))));refine aY rfl rfl adA (Fu _ _) (fun r wc hc=>?_);obtain⟨rfl,rfl⟩:=hc;refine al rfl rfl (mO rfl rfl (aU (v':= .bool (decide (Lib.validRune c=false))) (by cases Lib.validRune c<;>rfl) (aE rfl rfl rfl (ab ?_))));refine bI rfl (fun c1=>?_) (fun c1=>?_)
   ·refine aj (ae (ah rfl rfl (ab (aQ ?_))));exact aV rfl rfl ⟨by rw[tH,if_pos (by first|exact .inl (by omega)|exact .inr (.inl (by omega))|exact .inr (.inr (by assumption)))],rfl⟩
   ·refine aT (aj (ae (ad rfl rfl (rZ aw Tryz.underlying21 rfl rfl (aU (v':= .int .i32 c) (congrArg (Value.int .i32) (wrap32 (by omega))) (ah rfl rfl (ab (aQ ?_))))))));exact aV rfl rfl ⟨by rw[tH,if_neg (by rintro(h|h|h)<;>first|omega|exact absurd h (by assumption))],rfl⟩
theorem IH {M:aD} {xs:List Int} {v0:Value} (w0:World) (hM:Lt M w0) (hv:((RT.int .i64).sl).V M w0 xs v0) (hl:xs.length≤1000000):
  Spec Tryz.prog 228 #[v0] w0 (fun v w=>v= .string ⟨(kJ xs).toArray⟩∧Step M w0 M w aC):=by
 refine bm (args:=[_]) (fn:=Tryz.f228) Tryz.func228 rfl (n:=17) Tryz.ntmps228 (aj (ae (ah rfl rfl (ab (aj (ae ?_))))));refine eE M acU rfl (fun b w1 p1 q1 g1 s1=>?_);have uW:Lib.IsBuilderF 336 5 w0.heap.size b (Lib.byteCells (kJ (xs.take 0))) w1:= .of (.inl ⟨p1,.slice none 0 0,g1,World.ownsRow_nil _ _ _ _,by simp[Value.ownBlock]⟩);have S1:Below w0.heap.size w0 w1:=s1.below;refine ab (aj (aj (ae (ad rfl rfl (bQ aq rfl hv rfl (ad rfl rfl (ab (aZ ?_))))))));refine dn (σ:=Nat) (fun k=>[(3,.pointer (some ⟨b,0,none⟩)),(6,v0),(7,.int .i64 (xs.length:Int)),(8,.int .i64 (k:Int))]) (fun k w=>Lib.IsBuilderF 336 5 w0.heap.size b (Lib.byteCells (kJ (xs.take k))) w∧Below w0.heap.size w0 w∧k≤xs.length) (fun k=>xs.length-k) 0 (.cons rfl (.cons rfl (.cons rfl (.cons rfl .nil)))) ?_ ?_
 ·exact⟨uW,S1,bD _⟩
 ·rintro k w ⟨hb,S,hk⟩;refine aj (ae (cg rfl rfl rfl (ab (aj ?_))));refine bI rfl (fun c3=>?_) (fun c3=>?_)
  ·refine aT (aj (aZ (aj (ae ?_))));refine cF (M:=M) aq I3 rfl rfl rfl hv (Step.xV S M).le (by omega) (fun u4 c we EW=>?_);refine cd (M:=M) aw rfl rfl EW (ao _ _) (fun in4=>?_);refine ah rfl rfl (ab (ae (ad rfl rfl ?_)));refine aY rfl rfl adw (KT c _) (fun r wc hc=>?_);obtain⟨rfl,rfl⟩:=hc;refine aY rfl rfl adv (IG _ (by have:=Hp c;omega) hb (by rw[Lib.byteCells_length];have:=gx (xs.take k);rw[bg]at this;omega) S.size) (fun r5 w5 hc=>?_);obtain⟨Re,S5⟩:=hc;have tk:xs.take (k+1)=xs.take k++[c]:=by rw[bV];simp only[ay]at we;rw[we];rfl
   rw[x5,←tk]at Re;have S6:=S.trans S5;refine ab (ae (bC rfl rfl rfl (by omega) (ad rfl rfl (ab ?_))));refine⟨rfl,k+1,(.cons rfl (.cons rfl (.cons rfl (.cons rfl .nil)))),?_,?_⟩
   ·exact⟨Re,S6,by omega⟩
   ·omega
  ·refine cK (aj (ae ?_));refine aY rfl rfl adx (KS _ hb S.size) (fun r7 w7 hc=>?_);obtain⟨rfl,S7⟩:=hc;refine ah rfl rfl (ab (aQ ?_));have e:xs.take k=xs:=aW (by omega);rw[e];exact aV rfl rfl ⟨rfl,Step.xV (S.trans S7) M⟩
end Go.K
namespace Go.K
def nO (c:Int):Int:=if 194≤c∧c<224 then 2 else if 224≤c∧c<240 then 3 else if 240≤c∧c<245 then 4 else 0
def ic (c:Int):Int:=if 194≤c∧c<224 then 128 else if 224≤c∧c<240 then 2048 else if 240≤c∧c<245 then 65536 else 0
def uX (c:Int):Int:=if 194≤c∧c<224 then c-192 else if 224≤c∧c<240 then c-224 else if 240≤c∧c<245 then c-240 else 0
def vO (l:List UInt8):Nat→Int
 |0=>uX (kh l 0)
 |k+1=>64*vO l k+kh l (k+1)-128
theorem gT {l:List UInt8} {k:Nat}:kr l k=true↔k<l.length∧128≤kh l k∧kh l k<192:=by
 unfold kr;simp only[bW,decide_eq_true_eq,beq_iff_eq];omega
theorem Au {n:Nat}:Utf8.valid (n:Int)=true↔(n<55296∨(57344≤n∧n≤1114111)):=by
 simp only[Utf8.valid,qb,bW,decide_eq_true_eq];omega
theorem XE {l:List UInt8} (h:(kh l 0:Int)<128):dec l=(kh l 0,1):=by
 unfold dec Fp;rw[if_pos (by omega)]
theorem Hq {l:List UInt8} (h0:128≤(kh l 0:Int)) (h:nO (kh l 0)=0∨∃k:Nat,1≤k∧(k:Int)<nO (kh l 0)∧kr l k=false):dec l=(65533,1):=by
 have hb:=oX l 0;unfold dec Fp;rw[if_neg (by omega)]
 have hk:nO (kh l 0)=0∨(2≤nO (kh l 0)∧kr l 1=false)∨(3≤nO (kh l 0)∧kr l 2=false)∨(4≤nO (kh l 0)∧kr l 3=false):=by
  rcases h with h|⟨k,h1,h2,h3⟩
  ·exact .inl h
  ·have:nO (kh l 0)≤4:=by
    unfold nO
    split
    ·omega
    ·split
     ·omega
     ·split<;>omega
   have hk:k=1∨k=2∨k=3:=by omega
   rcases hk with rfl|rfl|rfl
   ·exact .inr (.inl ⟨by omega,h3⟩)
   ·exact .inr (.inr (.inl ⟨by omega,h3⟩))
   ·exact .inr (.inr (.inr ⟨by omega,h3⟩))
 simp only[beq_iff_eq,bW,decide_eq_true_eq,ge_iff_le,Au];have hn:nO (kh l 0)=if 194≤(kh l 0:Int)∧(kh l 0:Int)<224 then 2 else if 224≤(kh l 0:Int)∧(kh l 0:Int)<240 then 3 else if 240≤(kh l 0:Int)∧(kh l 0:Int)<245 then 4 else 0:=rfl
 rw[hn]at hk
 split
 ·rename_i hc
  obtain⟨Pj,Hr⟩:=hc
  split
  ·rename_i hv
   exfalso;by_cases anD:194≤(kh l 0:Int)
   ·rw[if_pos (by omega)]at hk;rcases hk with hk|⟨_,hk⟩|⟨hk,_⟩|⟨hk,_⟩
    ·omega
    ·rw[hk]at Hr;cases Hr
    ·omega
    ·omega
   ·omega
  ·rfl
 ·split
  ·rename_i hc
   obtain⟨⟨Pj,Hr⟩,XF⟩:=hc
   split
   ·exfalso;rw[if_neg (by omega),if_pos (by omega)]at hk;rcases hk with hk|⟨_,hk⟩|⟨_,hk⟩|⟨hk,_⟩
    ·omega
    ·rw[hk]at Hr;cases Hr
    ·rw[hk]at XF;cases XF
    ·omega
   ·rfl
  ·split
   ·rename_i hc
    obtain⟨⟨⟨Pj,Hr⟩,XF⟩,hc4⟩:=hc
    split
    ·rename_i hv
     exfalso;by_cases anE:(kh l 0:Int)<245
     ·rw[if_neg (by omega),if_neg (by omega),if_pos (by omega)]at hk;rcases hk with hk|⟨_,hk⟩|⟨_,hk⟩|⟨_,hk⟩
      ·omega
      ·rw[hk]at Hr;cases Hr
      ·rw[hk]at XF;cases XF
      ·rw[hk]at hc4;cases hc4
     ·omega
    ·rfl
   ·rfl
theorem nX {c:Int} (h:nO c≠0):(nO c=2∧ic c=128∧uX c=c-192∧194≤c∧c<224)∨(nO c=3∧ic c=2048∧uX c=c-224∧224≤c∧c<240)∨(nO c=4∧ic c=65536∧uX c=c-240∧240≤c∧c<245):=by
 by_cases h1:194≤c∧c<224
 ·exact .inl ⟨if_pos h1,if_pos h1,if_pos h1,h1.1,h1.2⟩
 ·by_cases h2:224≤c∧c<240
  ·exact .inr (.inl ⟨(if_neg h1).trans (if_pos h2),(if_neg h1).trans (if_pos h2),(if_neg h1).trans (if_pos h2),h2.1,h2.2⟩)
  ·by_cases h3:240≤c∧c<245
   ·exact .inr (.inr ⟨(if_neg h1).trans ((if_neg h2).trans (if_pos h3)),(if_neg h1).trans ((if_neg h2).trans (if_pos h3)),(if_neg h1).trans ((if_neg h2).trans (if_pos h3)),h3.1,h3.2⟩)
   ·exact absurd ((if_neg h1).trans ((if_neg h2).trans (if_neg h3))) h
theorem CW {l:List UInt8} (hn:nO (kh l 0)≠0) (hc:∀k:Nat,1≤k→(k:Int)<nO (kh l 0)→kr l k=true) (v:Int) (hv:v=vO l (nO (kh l 0)-1).toNat):
  dec l=if v<ic (kh l 0)∨v>1114111∨(55296≤v∧v≤57343)then(65533,1)else(v.toNat,(nO (kh l 0)).toNat):=by
 have hb:=oX l 0;have b1:=oX l 1;have b2:=oX l 2;have b3:=oX l 3;unfold dec Fp;simp only[beq_iff_eq,bW,decide_eq_true_eq,ge_iff_le,Au];rcases nX hn with⟨e1,e2,e3,e4,e5⟩|⟨e1,e2,e3,e4,e5⟩|⟨e1,e2,e3,e4,e5⟩
 ·have c1:=hc 1 (by omega) (by omega);have d1:=gT.1 c1;rw[e1]at hv;have Cn:v=64*((kh l 0:Int)-192)+kh l 1-128:=by rw[hv];show 64*uX (kh l 0)+_-_=_;rw[e3]
  rw[if_neg (by omega),if_pos ⟨by omega,c1⟩,e2,e1];by_cases hx:v<128∨v>1114111∨(55296≤v∧v≤57343)
  ·rw[if_pos hx,if_neg (by omega)]
  ·rw[if_neg hx,if_pos (by omega)];simp only[ef];omega
 ·have c1:=hc 1 (by omega) (by omega);have c2:=hc 2 (by omega) (by omega);have d1:=gT.1 c1;have d2:=gT.1 c2;rw[e1]at hv;have Cn:v=64*(64*((kh l 0:Int)-224)+kh l 1-128)+kh l 2-128:=by rw[hv];show 64*(64*uX (kh l 0)+_-_)+_-_=_;rw[e3]
  rw[if_neg (by omega),if_neg (by omega),if_pos ⟨⟨by omega,c1⟩,c2⟩,e2,e1];by_cases hx:v<2048∨v>1114111∨(55296≤v∧v≤57343)
  ·rw[if_pos hx,if_neg (by omega)]
  ·rw[if_neg hx,if_pos (by omega)];simp only[ef];omega
 ·have c1:=hc 1 (by omega) (by omega);have c2:=hc 2 (by omega) (by omega);have c3:=hc 3 (by omega) (by omega);have d1:=gT.1 c1;have d2:=gT.1 c2;have d3:=gT.1 c3;rw[e1]at hv;have Cn:v=64*(64*(64*((kh l 0:Int)-240)+kh l 1-128)+kh l 2-128)+kh l 3-128:=by rw[hv];show 64*(64*(64*uX (kh l 0)+_-_)+_-_)+_-_=_;rw[e3]
  rw[if_neg (by omega),if_neg (by omega),if_neg (by omega),if_pos ⟨⟨⟨by omega,c1⟩,c2⟩,c3⟩,e2,e1];by_cases hx:v<65536∨v>1114111∨(55296≤v∧v≤57343)
  ·rw[if_pos hx,if_neg (by omega)]
  ·rw[if_neg hx,if_pos (by omega)];simp only[ef];omega
end Go.K
namespace Go.K
open Go.Proofs
set_option maxRecDepth 10000
theorem Bp (c:Int) (w0:World):
  Spec Tryz.prog 285 #[.int .i64 c] w0 (fun v w=>v= .bool (fL c)∧w=w0):=by
 refine bm (args:=[_]) (fn:=Tryz.f285) Tryz.func285 rfl (n:=31) Tryz.ntmps285 (aj (ae (ah rfl rfl (ab (aj (aj (ae (ad rfl rfl (dY rfl rfl rfl (ad rfl rfl ?_))))))))));refine aR (g:=5) rfl (fun iH=>?_) (fun iH=>?_)
 ·refine al rfl rfl (ad rfl rfl (al rfl rfl (gJ rfl rfl rfl (a8 rfl rfl rfl (ad rfl rfl ?_)))));refine aR (g:=9) rfl (fun Bo=>?_) (fun Bo=>?_)
  ·refine au rfl rfl rfl rfl (au rfl rfl rfl rfl (au rfl rfl rfl rfl (cq rfl rfl rfl (cq rfl rfl rfl (au rfl rfl rfl rfl (a8 rfl rfl rfl (ab (nG rfl (aj (ae (ah rfl rfl ?_)))))))))));refine ab (aQ ?_);exact aV rfl rfl ⟨by simp only[fL];first|rfl|(congr 1;first|(exact(decide_eq_true (by omega)).symm)|(exact(decide_eq_false (by omega)).symm)|(exact decide_eq_decide.2 (by omega))),rfl⟩
  ·refine al rfl rfl (ad rfl rfl (al rfl rfl (dY rfl rfl rfl (al rfl rfl (ad rfl rfl ?_)))));refine aR (g:=12) rfl (fun sK=>?_) (fun sK=>?_)
   ·refine al rfl rfl (ad rfl rfl (al rfl rfl (gJ rfl rfl rfl (al rfl rfl (a8 rfl rfl rfl (aE rfl rfl rfl (ab ?_)))))));refine bI rfl (fun c1=>?_) (fun c1=>?_)
    ·refine aj (ae (ah rfl rfl (ab (aQ ?_))));exact aV rfl rfl ⟨by simp only[fL];first|rfl|(congr 1;first|(exact(decide_eq_true (by omega)).symm)|(exact(decide_eq_false (by omega)).symm)|(exact decide_eq_decide.2 (by omega))),rfl⟩
    ·refine aT (aj (ae (ad rfl rfl (dY rfl rfl rfl (ad rfl rfl ?_)))));refine aR (g:=19) rfl (fun Fv=>?_) (fun Fv=>?_)
     ·refine al rfl rfl (ad rfl rfl (al rfl rfl (gJ rfl rfl rfl (a8 rfl rfl rfl (ad rfl rfl ?_)))));refine aR (g:=23) rfl (fun Fw=>?_) (fun Fw=>?_)
      ·refine al rfl rfl (ad rfl rfl (al rfl rfl (fD rfl rfl rfl (a8 rfl rfl rfl (ad rfl rfl ?_)))));refine aR (g:=27) rfl (fun x7=>?_) (fun x7=>?_)
       ·refine al rfl rfl (ad rfl rfl (al rfl rfl (fD rfl rfl rfl (a8 rfl rfl rfl (ah rfl rfl (ab (aQ ?_)))))));exact aV rfl rfl ⟨by simp only[fL];first|rfl|(congr 1;first|(exact(decide_eq_true (by omega)).symm)|(exact(decide_eq_false (by omega)).symm)|(exact decide_eq_decide.2 (by omega))),rfl⟩
       ·refine au rfl rfl rfl rfl (au rfl rfl rfl rfl (aE rfl rfl rfl (ah rfl rfl (ab (aQ ?_)))));exact aV rfl rfl ⟨by simp only[fL];first|rfl|(congr 1;first|(exact(decide_eq_true (by omega)).symm)|(exact(decide_eq_false (by omega)).symm)|(exact decide_eq_decide.2 (by omega))),rfl⟩
      ·refine au rfl rfl rfl rfl (au rfl rfl rfl rfl (aE rfl rfl rfl (ad rfl rfl (au rfl rfl rfl rfl (au rfl rfl rfl rfl (aE rfl rfl rfl (ah rfl rfl (ab (aQ ?_)))))))));exact aV rfl rfl ⟨by simp only[fL];first|rfl|(congr 1;first|(exact(decide_eq_true (by omega)).symm)|(exact(decide_eq_false (by omega)).symm)|(exact decide_eq_decide.2 (by omega))),rfl⟩
     ·refine au rfl rfl rfl rfl (au rfl rfl rfl rfl (aE rfl rfl rfl (ad rfl rfl (au rfl rfl rfl rfl (au rfl rfl rfl rfl (aE rfl rfl rfl (ad rfl rfl (au rfl rfl rfl rfl (au rfl rfl rfl rfl (aE rfl rfl rfl (ah rfl rfl ?_)))))))))));refine ab (aQ ?_);exact aV rfl rfl ⟨by simp only[fL];first|rfl|(congr 1;first|(exact(decide_eq_true (by omega)).symm)|(exact(decide_eq_false (by omega)).symm)|(exact decide_eq_decide.2 (by omega))),rfl⟩
   ·refine au rfl rfl rfl rfl (au rfl rfl rfl rfl (al rfl rfl (aE rfl rfl rfl (aE rfl rfl rfl (ab (jt rfl (aT (aj (ae (ad rfl rfl (dY rfl rfl rfl ?_)))))))))));refine ad rfl rfl ?_;refine aR (g:=19) rfl (fun Fv=>?_) (fun Fv=>?_)
    ·refine al rfl rfl (ad rfl rfl (al rfl rfl (gJ rfl rfl rfl (a8 rfl rfl rfl (ad rfl rfl ?_)))));refine aR (g:=23) rfl (fun Fw=>?_) (fun Fw=>?_)
     ·refine al rfl rfl (ad rfl rfl (al rfl rfl (fD rfl rfl rfl (a8 rfl rfl rfl (ad rfl rfl ?_)))));refine aR (g:=27) rfl (fun x7=>?_) (fun x7=>?_)
      ·refine al rfl rfl (ad rfl rfl (al rfl rfl (fD rfl rfl rfl (a8 rfl rfl rfl (ah rfl rfl (ab (aQ ?_)))))));exact aV rfl rfl ⟨by simp only[fL];first|rfl|(congr 1;first|(exact(decide_eq_true (by omega)).symm)|(exact(decide_eq_false (by omega)).symm)|(exact decide_eq_decide.2 (by omega))),rfl⟩
      ·refine au rfl rfl rfl rfl (au rfl rfl rfl rfl (aE rfl rfl rfl (ah rfl rfl (ab (aQ ?_)))));exact aV rfl rfl ⟨by simp only[fL];first|rfl|(congr 1;first|(exact(decide_eq_true (by omega)).symm)|(exact(decide_eq_false (by omega)).symm)|(exact decide_eq_decide.2 (by omega))),rfl⟩
     ·refine au rfl rfl rfl rfl (au rfl rfl rfl rfl (aE rfl rfl rfl (ad rfl rfl (au rfl rfl rfl rfl (au rfl rfl rfl rfl (aE rfl rfl rfl (ah rfl rfl (ab (aQ ?_)))))))));exact aV rfl rfl ⟨by simp only[fL];first|rfl|(congr 1;first|(exact(decide_eq_true (by omega)).symm)|(exact(decide_eq_false (by omega)).symm)|(exact decide_eq_decide.2 (by omega))),rfl⟩
    ·refine au rfl rfl rfl rfl (au rfl rfl rfl rfl (aE rfl rfl rfl (ad rfl rfl (au rfl rfl rfl rfl (au rfl rfl rfl rfl (aE rfl rfl rfl (ad rfl rfl (au rfl rfl rfl rfl (au rfl rfl rfl rfl (aE rfl rfl rfl (ah rfl rfl ?_)))))))))));refine ab (aQ ?_);exact aV rfl rfl ⟨by simp only[fL];first|rfl|(congr 1;first|(exact(decide_eq_true (by omega)).symm)|(exact(decide_eq_false (by omega)).symm)|(exact decide_eq_decide.2 (by omega))),rfl⟩
 ·refine au rfl rfl rfl rfl (au rfl rfl rfl rfl (aE rfl rfl rfl (ad rfl rfl (al rfl rfl (ad rfl rfl (al rfl rfl (dY rfl rfl rfl (al rfl rfl (ad rfl rfl ?_)))))))));refine aR (g:=12) rfl (fun sK=>?_) (fun sK=>?_)
  ·refine al rfl rfl (ad rfl rfl (al rfl rfl (gJ rfl rfl rfl (al rfl rfl (a8 rfl rfl rfl (aE rfl rfl rfl (ab ?_)))))));refine bI rfl (fun c1=>?_) (fun c1=>?_)
   ·refine aj (ae (ah rfl rfl (ab (aQ ?_))));exact aV rfl rfl ⟨by simp only[fL];first|rfl|(congr 1;first|(exact(decide_eq_true (by omega)).symm)|(exact(decide_eq_false (by omega)).symm)|(exact decide_eq_decide.2 (by omega))),rfl⟩
   ·refine aT (aj (ae (ad rfl rfl (dY rfl rfl rfl (ad rfl rfl ?_)))));refine aR (g:=19) rfl (fun Fv=>?_) (fun Fv=>?_)
    ·refine al rfl rfl (ad rfl rfl (al rfl rfl (gJ rfl rfl rfl (a8 rfl rfl rfl (ad rfl rfl ?_)))));refine aR (g:=23) rfl (fun Fw=>?_) (fun Fw=>?_)
     ·refine al rfl rfl (ad rfl rfl (al rfl rfl (fD rfl rfl rfl (a8 rfl rfl rfl (ad rfl rfl ?_)))));refine aR (g:=27) rfl (fun x7=>?_) (fun x7=>?_)
      ·refine al rfl rfl (ad rfl rfl (al rfl rfl (fD rfl rfl rfl (a8 rfl rfl rfl (ah rfl rfl (ab (aQ ?_)))))));exact aV rfl rfl ⟨by simp only[fL];first|rfl|(congr 1;first|(exact(decide_eq_true (by omega)).symm)|(exact(decide_eq_false (by omega)).symm)|(exact decide_eq_decide.2 (by omega))),rfl⟩
      ·refine au rfl rfl rfl rfl (au rfl rfl rfl rfl (aE rfl rfl rfl (ah rfl rfl (ab (aQ ?_)))));exact aV rfl rfl ⟨by simp only[fL];first|rfl|(congr 1;first|(exact(decide_eq_true (by omega)).symm)|(exact(decide_eq_false (by omega)).symm)|(exact decide_eq_decide.2 (by omega))),rfl⟩
     ·refine au rfl rfl rfl rfl (au rfl rfl rfl rfl (aE rfl rfl rfl (ad rfl rfl (au rfl rfl rfl rfl (au rfl rfl rfl rfl (aE rfl rfl rfl (ah rfl rfl (ab (aQ ?_)))))))));exact aV rfl rfl ⟨by simp only[fL];first|rfl|(congr 1;first|(exact(decide_eq_true (by omega)).symm)|(exact(decide_eq_false (by omega)).symm)|(exact decide_eq_decide.2 (by omega))),rfl⟩
    ·refine au rfl rfl rfl rfl (au rfl rfl rfl rfl (aE rfl rfl rfl (ad rfl rfl (au rfl rfl rfl rfl (au rfl rfl rfl rfl (aE rfl rfl rfl (ad rfl rfl (au rfl rfl rfl rfl (au rfl rfl rfl rfl (aE rfl rfl rfl (ah rfl rfl ?_)))))))))));refine ab (aQ ?_);exact aV rfl rfl ⟨by simp only[fL];first|rfl|(congr 1;first|(exact(decide_eq_true (by omega)).symm)|(exact(decide_eq_false (by omega)).symm)|(exact decide_eq_decide.2 (by omega))),rfl⟩
  ·refine au rfl rfl rfl rfl (au rfl rfl rfl rfl (al rfl rfl (aE rfl rfl rfl (aE rfl rfl rfl (ab (jt rfl (aT (aj (ae (ad rfl rfl (dY rfl rfl rfl ?_)))))))))));refine ad rfl rfl ?_;refine aR (g:=19) rfl (fun Fv=>?_) (fun Fv=>?_)
   ·refine al rfl rfl (ad rfl rfl (al rfl rfl (gJ rfl rfl rfl (a8 rfl rfl rfl (ad rfl rfl ?_)))));refine aR (g:=23) rfl (fun Fw=>?_) (fun Fw=>?_)
    ·refine al rfl rfl (ad rfl rfl (al rfl rfl (fD rfl rfl rfl (a8 rfl rfl rfl (ad rfl rfl ?_)))));refine aR (g:=27) rfl (fun x7=>?_) (fun x7=>?_)
     ·refine al rfl rfl (ad rfl rfl (al rfl rfl (fD rfl rfl rfl (a8 rfl rfl rfl (ah rfl rfl (ab (aQ ?_)))))));exact aV rfl rfl ⟨by simp only[fL];first|rfl|(congr 1;first|(exact(decide_eq_true (by omega)).symm)|(exact(decide_eq_false (by omega)).symm)|(exact decide_eq_decide.2 (by omega))),rfl⟩
     ·refine au rfl rfl rfl rfl (au rfl rfl rfl rfl (aE rfl rfl rfl (ah rfl rfl (ab (aQ ?_)))));exact aV rfl rfl ⟨by simp only[fL];first|rfl|(congr 1;first|(exact(decide_eq_true (by omega)).symm)|(exact(decide_eq_false (by omega)).symm)|(exact decide_eq_decide.2 (by omega))),rfl⟩
    ·refine au rfl rfl rfl rfl (au rfl rfl rfl rfl (aE rfl rfl rfl (ad rfl rfl (au rfl rfl rfl rfl (au rfl rfl rfl rfl (aE rfl rfl rfl (ah rfl rfl (ab (aQ ?_)))))))));exact aV rfl rfl ⟨by simp only[fL];first|rfl|(congr 1;first|(exact(decide_eq_true (by omega)).symm)|(exact(decide_eq_false (by omega)).symm)|(exact decide_eq_decide.2 (by omega))),rfl⟩
   ·refine au rfl rfl rfl rfl (au rfl rfl rfl rfl (aE rfl rfl rfl (ad rfl rfl (au rfl rfl rfl rfl (au rfl rfl rfl rfl (aE rfl rfl rfl (ad rfl rfl (au rfl rfl rfl rfl (au rfl rfl rfl rfl (aE rfl rfl rfl (ah rfl rfl ?_)))))))))));refine ab (aQ ?_);exact aV rfl rfl ⟨by simp only[fL];first|rfl|(congr 1;first|(exact(decide_eq_true (by omega)).symm)|(exact(decide_eq_false (by omega)).symm)|(exact decide_eq_decide.2 (by omega))),rfl⟩
theorem Fx (c:Int) (w0:World) (hc:0≤c∧c≤1114111):
  Spec Tryz.prog 253 #[.int .i64 c] w0 (fun v w=>v= .int .i64 (fN c)∧w=w0):=by
 refine bm (args:=[_]) (fn:=Tryz.f253) Tryz.func253 rfl (n:=28) Tryz.ntmps253 (aj (ae (ah rfl rfl (ab (aj (aj (ae (ad rfl rfl (dY rfl rfl rfl (ad rfl rfl ?_))))))))));refine aR (g:=5) rfl (fun iH=>?_) (fun iH=>?_)
 ·refine al rfl rfl (ad rfl rfl (al rfl rfl (gJ rfl rfl rfl (a8 rfl rfl rfl (ad rfl rfl ?_)))));refine aR (g:=9) rfl (fun Bo=>?_) (fun Bo=>?_)
  ·refine au rfl rfl rfl rfl (au rfl rfl rfl rfl (au rfl rfl rfl rfl (cq rfl rfl rfl (cq rfl rfl rfl (au rfl rfl rfl rfl (a8 rfl rfl rfl (ad rfl rfl (au rfl rfl rfl rfl (au rfl rfl rfl rfl (au rfl rfl rfl rfl (cq rfl rfl rfl ?_)))))))))));refine cq rfl rfl rfl (au rfl rfl rfl rfl (a8 rfl rfl rfl (ab (nG rfl (aj (ae (ad rfl rfl (bC rfl rfl rfl (by omega) (ah rfl rfl (ab (aQ ?_)))))))))));exact aV rfl rfl ⟨by rw[fN,if_pos (by omega)],rfl⟩
  ·refine al rfl rfl (ad rfl rfl (al rfl rfl (dY rfl rfl rfl (al rfl rfl (ad rfl rfl ?_)))));refine aR (g:=12) rfl (fun sK=>?_) (fun sK=>?_)
   ·refine al rfl rfl (ad rfl rfl (al rfl rfl (gJ rfl rfl rfl (al rfl rfl (a8 rfl rfl rfl (aE rfl rfl rfl (ad rfl rfl ?_)))))));refine aR (g:=17) rfl (fun xY=>?_) (fun xY=>?_)
    ·refine au rfl rfl rfl rfl (au rfl rfl rfl rfl (au rfl rfl rfl rfl (cq rfl rfl rfl (cq rfl rfl rfl (au rfl rfl rfl rfl (a8 rfl rfl rfl (ab (nG rfl (aj (ae (ad rfl rfl ?_)))))))))));refine bC rfl rfl rfl (by omega) (ah rfl rfl (ab (aQ ?_)));exact aV rfl rfl ⟨by rw[fN,if_pos (by omega)],rfl⟩
    ·refine al rfl rfl (ad rfl rfl (al rfl rfl (dY rfl rfl rfl (al rfl rfl (ad rfl rfl ?_)))));refine aR (g:=20) rfl (fun mu=>?_) (fun mu=>?_)
     ·refine al rfl rfl (ad rfl rfl (al rfl rfl (gJ rfl rfl rfl (al rfl rfl (a8 rfl rfl rfl (aE rfl rfl rfl (ab ?_)))))));refine bI rfl (fun c1=>?_) (fun c1=>?_)
      ·refine aj (ae (ad rfl rfl (bC rfl rfl rfl (by omega) (ah rfl rfl (ab (aQ ?_))))));exact aV rfl rfl ⟨by rw[fN,if_pos (by omega)],rfl⟩
      ·refine aT (aj (ae (ad rfl rfl (ah rfl rfl (ab (aQ ?_))))));exact aV rfl rfl ⟨by rw[fN,if_neg (by omega)],rfl⟩
     ·refine au rfl rfl rfl rfl (au rfl rfl rfl rfl (al rfl rfl (aE rfl rfl rfl (aE rfl rfl rfl (ab (jt rfl (aT (aj (ae (ad rfl rfl (ah rfl rfl ?_)))))))))));refine ab (aQ ?_);exact aV rfl rfl ⟨by rw[fN,if_neg (by omega)],rfl⟩
   ·refine au rfl rfl rfl rfl (au rfl rfl rfl rfl (al rfl rfl (aE rfl rfl rfl (aE rfl rfl rfl (ad rfl rfl (al rfl rfl (ad rfl rfl (al rfl rfl (dY rfl rfl rfl (al rfl rfl (ad rfl rfl ?_)))))))))));refine aR (g:=20) rfl (fun mu=>?_) (fun mu=>?_)
    ·refine al rfl rfl (ad rfl rfl (al rfl rfl (gJ rfl rfl rfl (al rfl rfl (a8 rfl rfl rfl (aE rfl rfl rfl (ab ?_)))))));refine bI rfl (fun c1=>?_) (fun c1=>?_)
     ·refine aj (ae (ad rfl rfl (bC rfl rfl rfl (by omega) (ah rfl rfl (ab (aQ ?_))))));exact aV rfl rfl ⟨by rw[fN,if_pos (by omega)],rfl⟩
     ·refine aT (aj (ae (ad rfl rfl (ah rfl rfl (ab (aQ ?_))))));exact aV rfl rfl ⟨by rw[fN,if_neg (by omega)],rfl⟩
    ·refine au rfl rfl rfl rfl (au rfl rfl rfl rfl (al rfl rfl (aE rfl rfl rfl (aE rfl rfl rfl (ab (jt rfl (aT (aj (ae (ad rfl rfl (ah rfl rfl ?_)))))))))));refine ab (aQ ?_);exact aV rfl rfl ⟨by rw[fN,if_neg (by omega)],rfl⟩
 ·refine au rfl rfl rfl rfl (au rfl rfl rfl rfl (aE rfl rfl rfl (ad rfl rfl (al rfl rfl (ad rfl rfl (al rfl rfl (dY rfl rfl rfl (al rfl rfl (ad rfl rfl ?_)))))))));refine aR (g:=12) rfl (fun sK=>?_) (fun sK=>?_)
  ·refine al rfl rfl (ad rfl rfl (al rfl rfl (gJ rfl rfl rfl (al rfl rfl (a8 rfl rfl rfl (aE rfl rfl rfl (ad rfl rfl ?_)))))));refine aR (g:=17) rfl (fun xY=>?_) (fun xY=>?_)
   ·refine au rfl rfl rfl rfl (au rfl rfl rfl rfl (au rfl rfl rfl rfl (cq rfl rfl rfl (cq rfl rfl rfl (au rfl rfl rfl rfl (a8 rfl rfl rfl (ab (nG rfl (aj (ae (ad rfl rfl ?_)))))))))));refine bC rfl rfl rfl (by omega) (ah rfl rfl (ab (aQ ?_)));exact aV rfl rfl ⟨by rw[fN,if_pos (by omega)],rfl⟩
   ·refine al rfl rfl (ad rfl rfl (al rfl rfl (dY rfl rfl rfl (al rfl rfl (ad rfl rfl ?_)))));refine aR (g:=20) rfl (fun mu=>?_) (fun mu=>?_)
    ·refine al rfl rfl (ad rfl rfl (al rfl rfl (gJ rfl rfl rfl (al rfl rfl (a8 rfl rfl rfl (aE rfl rfl rfl (ab ?_)))))));refine bI rfl (fun c1=>?_) (fun c1=>?_)
     ·refine aj (ae (ad rfl rfl (bC rfl rfl rfl (by omega) (ah rfl rfl (ab (aQ ?_))))));exact aV rfl rfl ⟨by rw[fN,if_pos (by omega)],rfl⟩
     ·refine aT (aj (ae (ad rfl rfl (ah rfl rfl (ab (aQ ?_))))));exact aV rfl rfl ⟨by rw[fN,if_neg (by omega)],rfl⟩
    ·refine au rfl rfl rfl rfl (au rfl rfl rfl rfl (al rfl rfl (aE rfl rfl rfl (aE rfl rfl rfl (ab (jt rfl (aT (aj (ae (ad rfl rfl (ah rfl rfl ?_)))))))))));refine ab (aQ ?_);exact aV rfl rfl ⟨by rw[fN,if_neg (by omega)],rfl⟩
  ·refine au rfl rfl rfl rfl (au rfl rfl rfl rfl (al rfl rfl (aE rfl rfl rfl (aE rfl rfl rfl (ad rfl rfl (al rfl rfl (ad rfl rfl (al rfl rfl (dY rfl rfl rfl (al rfl rfl (ad rfl rfl ?_)))))))))));refine aR (g:=20) rfl (fun mu=>?_) (fun mu=>?_)
   ·refine al rfl rfl (ad rfl rfl (al rfl rfl (gJ rfl rfl rfl (al rfl rfl (a8 rfl rfl rfl (aE rfl rfl rfl (ab ?_)))))));refine bI rfl (fun c1=>?_) (fun c1=>?_)
    ·refine aj (ae (ad rfl rfl (bC rfl rfl rfl (by omega) (ah rfl rfl (ab (aQ ?_))))));exact aV rfl rfl ⟨by rw[fN,if_pos (by omega)],rfl⟩
    ·refine aT (aj (ae (ad rfl rfl (ah rfl rfl (ab (aQ ?_))))));exact aV rfl rfl ⟨by rw[fN,if_neg (by omega)],rfl⟩
   ·refine au rfl rfl rfl rfl (au rfl rfl rfl rfl (al rfl rfl (aE rfl rfl rfl (aE rfl rfl rfl (ab (jt rfl (aT (aj (ae (ad rfl rfl (ah rfl rfl ?_)))))))))));refine ab (aQ ?_);exact aV rfl rfl ⟨by rw[fN,if_neg (by omega)],rfl⟩
def xn (c:Int):Bool:=decide (fL c=true∨oZ c=true)
theorem CX (c:Int) (w0:World):
  Spec Tryz.prog 252 #[.int .i64 c] w0 (fun v w=>v= .bool (xn c)∧w=w0):=by
 refine bm (args:=[_]) (fn:=Tryz.f252) Tryz.func252 rfl (n:=13) Tryz.ntmps252 (aj (ae (ah rfl rfl (ab (aj (ae (ad rfl rfl ?_)))))));refine aY rfl rfl adz (Bp _ _) (fun r wc hc=>?_);obtain⟨rfl,rfl⟩:=hc;refine aU (v':= .bool (decide (fL c=true))) (by cases fL c<;>rfl) (ad rfl rfl ?_);refine aR (g:=5) rfl (fun iH=>?_) (fun iH=>?_)
 ·refine au rfl rfl rfl rfl (au rfl rfl rfl rfl (au rfl rfl rfl rfl (cq rfl rfl rfl (cq rfl rfl rfl (au rfl rfl rfl rfl (a8 rfl rfl rfl (ah rfl rfl (ab (aQ ?_)))))))));have e:(oZ c=true)=(48≤c∧c≤57):=by simp[oZ]
  exact aV rfl rfl ⟨by simp only[xn,e];first|(congr 1;first|(exact(decide_eq_true (.inl (by assumption))).symm)|(exact(decide_eq_true (.inr (by omega))).symm)|(exact(decide_eq_false (by rintro(h|h)<;>first|exact absurd h (by assumption)|omega)).symm)|(exact decide_eq_decide.2 ⟨fun h=> .inr (by omega),fun h=>h.elim (fun h=>absurd h (by assumption)) (fun h=>by omega)⟩)),rfl⟩
 ·refine al rfl rfl (ad rfl rfl (al rfl rfl (dY rfl rfl rfl (al rfl rfl (ad rfl rfl ?_)))));refine aR (g:=8) rfl (fun uY=>?_) (fun uY=>?_)
  ·refine al rfl rfl (ad rfl rfl (al rfl rfl (gJ rfl rfl rfl (al rfl rfl (a8 rfl rfl rfl (aE rfl rfl rfl (ah rfl rfl (ab (aQ ?_)))))))));have e:(oZ c=true)=(48≤c∧c≤57):=by simp[oZ]
   exact aV rfl rfl ⟨by simp only[xn,e];first|(congr 1;first|(exact(decide_eq_true (.inl (by assumption))).symm)|(exact(decide_eq_true (.inr (by omega))).symm)|(exact(decide_eq_false (by rintro(h|h)<;>first|exact absurd h (by assumption)|omega)).symm)|(exact decide_eq_decide.2 ⟨fun h=> .inr (by omega),fun h=>h.elim (fun h=>absurd h (by assumption)) (fun h=>by omega)⟩)),rfl⟩
  ·refine au rfl rfl rfl rfl (au rfl rfl rfl rfl (al rfl rfl (aE rfl rfl rfl (aE rfl rfl rfl (ah rfl rfl (ab (aQ ?_)))))));have e:(oZ c=true)=(48≤c∧c≤57):=by simp[oZ]
   exact aV rfl rfl ⟨by simp only[xn,e];first|(congr 1;first|(exact(decide_eq_true (.inl (by assumption))).symm)|(exact(decide_eq_true (.inr (by omega))).symm)|(exact(decide_eq_false (by rintro(h|h)<;>first|exact absurd h (by assumption)|omega)).symm)|(exact decide_eq_decide.2 ⟨fun h=> .inr (by omega),fun h=>h.elim (fun h=>absurd h (by assumption)) (fun h=>by omega)⟩)),rfl⟩
theorem Tz {l:List UInt8} {c:Int} (hc:c=(kh l 0:Int)) (hn:nO c≠0):∀{k:Nat},(∀j:Nat,1≤j→j<k+1→kr l j=true)→k≤3→0≤vO l k∧vO l k≤100000000:=by
 have key:∀k:Nat,(∀j:Nat,1≤j→j<k+1→kr l j=true)→0≤vO l k∧vO l k≤33*64^k-1:=by
  intro k
  induction k with
  |zero=>
   intro _;have:=nX hn;show 0≤uX (kh l 0:Int)∧uX (kh l 0:Int)≤33*64^0-1;rw[←hc];simp only[Int.pow_zero];omega
  |succ k ih=>
   intro h;have h1:=ih fun j h2 h3=>h j h2 (by omega)
   have h2:=gT.1 (h (k+1) (by omega) (by omega));show 0≤64*vO l k+_-128∧64*vO l k+_-128≤_;rw[Int.pow_succ];omega
 intro k h hk;have:=key k h
 have h3:(64:Int)^k≤262144:=by
  rcases(show k=0∨k=1∨k=2∨k=3 by omega)with rfl|rfl|rfl|rfl<;>decide
 omega
theorem KU {l:List UInt8} (w0:World) (hl:l≠[]) (hlen:l.length≤1000000):
  Spec Tryz.prog 284 #[.string ⟨l.toArray⟩] w0 (fun v w=>v= .tuple #[.int .i64 ((dec l).1:Int),.int .i64 ((dec l).2:Int)]∧w=w0):=by
 have tp:0<l.length:=oG.2 hl;have hb0:=oX l 0;obtain⟨c,hc⟩:∃c:Int,c=(kh l 0:Int):=⟨_,rfl⟩;have hcr:0≤c∧c<256:=by omega
 refine bm (args:=[_]) (fn:=Tryz.f284) Tryz.func284 rfl (n:=85) Tryz.ntmps284 (aj (ae (ah rfl rfl (ah rfl rfl (ab (aj (ae (ad rfl rfl ?_))))))));refine Rg.Ho (c:=l.getD 0 0) aF rfl rfl rfl (by decide) (by rw[aA];show l[0]? =_;rw[ar tp];rfl) ?_;refine aU (v':= .int .u8 c) (by rw[hc];rfl) (Rg.uL cz aw rfl rfl (by omega) (ah rfl rfl (ab (aj (aj (ae (ad rfl rfl (cg rfl rfl rfl (ab ?_)))))))));refine bI rfl (fun c2=>?_) (fun c2=>?_)
 ·refine aj (ae (ad rfl rfl (ah rfl rfl (ah rfl rfl (ab (aQ ?_))))));exact fm rfl rfl rfl ⟨by rw[XE (by omega),hc];rfl,rfl⟩
 ·refine aT (aj (ae (ah rfl rfl (ab (aj (ae (ah rfl rfl (ab (aj (ae (ah rfl rfl ?_)))))))))));refine ab ?_;refine T.xl [(0,.string ⟨l.toArray⟩),(4,.int .i64 c),(5,.int .i64 (nO c)),(6,.int .i64 (ic c)),(7,.int .i64 (uX c))] ?_ ?_
  ·refine aj (ae (ad rfl rfl (dY rfl rfl rfl (ad rfl rfl ?_))));refine aR (g:=18) rfl (fun adC=>?_) (fun adC=>?_)
   ·refine al rfl rfl (ad rfl rfl (al rfl rfl (cg rfl rfl rfl (a8 rfl rfl rfl (ab ?_)))));refine bI rfl (fun c7=>?_) (fun c7=>?_)
    ·refine aj (ae (ah rfl rfl (ab (aj (ae (ah rfl rfl (ab (ae (ad rfl rfl (fq rfl rfl rfl (by omega) (ah rfl rfl ?_)))))))))));refine ab ?_;exact⟨rfl,rfl,rfl,.cons rfl (.cons rfl (.cons (congrArg (fun z=>some (Value.int .i64 z)) (by first|(exfalso;omega)|(unfold nO;repeat (first|rw[if_pos (by omega)]|rw[if_neg (by omega)])))) (.cons (congrArg (fun z=>some (Value.int .i64 z)) (by first|(exfalso;omega)|(unfold ic;repeat (first|rw[if_pos (by omega)]|rw[if_neg (by omega)])))) (.cons (congrArg (fun z=>some (Value.int .i64 z)) (by first|(exfalso;omega)|(unfold uX;repeat (first|rw[if_pos (by omega)]|rw[if_neg (by omega)])))) (.nil)))))⟩
    ·refine aj (ae (ad rfl rfl (dY rfl rfl rfl (ad rfl rfl ?_))));refine aR (g:=26) rfl (fun KV=>?_) (fun KV=>?_)
     ·refine al rfl rfl (ad rfl rfl (al rfl rfl (cg rfl rfl rfl (a8 rfl rfl rfl (ab ?_)))));refine bI rfl (fun Fy=>?_) (fun Fy=>?_)
      ·refine aj (ae (ah rfl rfl (ab (aj (ae (ah rfl rfl (ab (ae (ad rfl rfl (fq rfl rfl rfl (by omega) (ah rfl rfl ?_)))))))))));refine ab ?_;exact⟨rfl,rfl,rfl,.cons rfl (.cons rfl (.cons (congrArg (fun z=>some (Value.int .i64 z)) (by first|(exfalso;omega)|(unfold nO;repeat (first|rw[if_pos (by omega)]|rw[if_neg (by omega)])))) (.cons (congrArg (fun z=>some (Value.int .i64 z)) (by first|(exfalso;omega)|(unfold ic;repeat (first|rw[if_pos (by omega)]|rw[if_neg (by omega)])))) (.cons (congrArg (fun z=>some (Value.int .i64 z)) (by first|(exfalso;omega)|(unfold uX;repeat (first|rw[if_pos (by omega)]|rw[if_neg (by omega)])))) (.nil)))))⟩
      ·refine aj (ae (ad rfl rfl (dY rfl rfl rfl (ad rfl rfl ?_))));refine aR (g:=34) rfl (fun x8=>?_) (fun x8=>?_)
       ·refine al rfl rfl (ad rfl rfl (al rfl rfl (cg rfl rfl rfl (a8 rfl rfl rfl (ab ?_)))));refine bI rfl (fun TA=>?_) (fun TA=>?_)
        ·refine aj (ae (ah rfl rfl (ab (aj (ae (ah rfl rfl (ab (ae (ad rfl rfl (fq rfl rfl rfl (by omega) (ah rfl rfl ?_)))))))))));refine ab ?_;exact⟨rfl,rfl,rfl,.cons rfl (.cons rfl (.cons (congrArg (fun z=>some (Value.int .i64 z)) (by first|(exfalso;omega)|(unfold nO;repeat (first|rw[if_pos (by omega)]|rw[if_neg (by omega)])))) (.cons (congrArg (fun z=>some (Value.int .i64 z)) (by first|(exfalso;omega)|(unfold ic;repeat (first|rw[if_pos (by omega)]|rw[if_neg (by omega)])))) (.cons (congrArg (fun z=>some (Value.int .i64 z)) (by first|(exfalso;omega)|(unfold uX;repeat (first|rw[if_pos (by omega)]|rw[if_neg (by omega)])))) (.nil)))))⟩
        ·refine aT ?_;exact⟨rfl,rfl,rfl,.cons rfl (.cons rfl (.cons (congrArg (fun z=>some (Value.int .i64 z)) (by first|(exfalso;omega)|(unfold nO;repeat (first|rw[if_pos (by omega)]|rw[if_neg (by omega)])))) (.cons (congrArg (fun z=>some (Value.int .i64 z)) (by first|(exfalso;omega)|(unfold ic;repeat (first|rw[if_pos (by omega)]|rw[if_neg (by omega)])))) (.cons (congrArg (fun z=>some (Value.int .i64 z)) (by first|(exfalso;omega)|(unfold uX;repeat (first|rw[if_pos (by omega)]|rw[if_neg (by omega)])))) (.nil)))))⟩
       ·refine au rfl rfl rfl rfl (au rfl rfl rfl rfl (aE rfl rfl rfl (ab (jt rfl (aT ?_)))));exact⟨rfl,rfl,rfl,.cons rfl (.cons rfl (.cons (congrArg (fun z=>some (Value.int .i64 z)) (by first|(exfalso;omega)|(unfold nO;repeat (first|rw[if_pos (by omega)]|rw[if_neg (by omega)])))) (.cons (congrArg (fun z=>some (Value.int .i64 z)) (by first|(exfalso;omega)|(unfold ic;repeat (first|rw[if_pos (by omega)]|rw[if_neg (by omega)])))) (.cons (congrArg (fun z=>some (Value.int .i64 z)) (by first|(exfalso;omega)|(unfold uX;repeat (first|rw[if_pos (by omega)]|rw[if_neg (by omega)])))) (.nil)))))⟩
     ·refine au rfl rfl rfl rfl (au rfl rfl rfl rfl (aE rfl rfl rfl (ab (jt rfl (aj (ae (ad rfl rfl (dY rfl rfl rfl (ad rfl rfl ?_)))))))));refine aR (g:=34) rfl (fun x8=>?_) (fun x8=>?_)
      ·refine al rfl rfl (ad rfl rfl (al rfl rfl (cg rfl rfl rfl (a8 rfl rfl rfl (ab ?_)))));refine bI rfl (fun TA=>?_) (fun TA=>?_)
       ·refine aj (ae (ah rfl rfl (ab (aj (ae (ah rfl rfl (ab (ae (ad rfl rfl (fq rfl rfl rfl (by omega) (ah rfl rfl ?_)))))))))));refine ab ?_;exact⟨rfl,rfl,rfl,.cons rfl (.cons rfl (.cons (congrArg (fun z=>some (Value.int .i64 z)) (by first|(exfalso;omega)|(unfold nO;repeat (first|rw[if_pos (by omega)]|rw[if_neg (by omega)])))) (.cons (congrArg (fun z=>some (Value.int .i64 z)) (by first|(exfalso;omega)|(unfold ic;repeat (first|rw[if_pos (by omega)]|rw[if_neg (by omega)])))) (.cons (congrArg (fun z=>some (Value.int .i64 z)) (by first|(exfalso;omega)|(unfold uX;repeat (first|rw[if_pos (by omega)]|rw[if_neg (by omega)])))) (.nil)))))⟩
       ·refine aT ?_;exact⟨rfl,rfl,rfl,.cons rfl (.cons rfl (.cons (congrArg (fun z=>some (Value.int .i64 z)) (by first|(exfalso;omega)|(unfold nO;repeat (first|rw[if_pos (by omega)]|rw[if_neg (by omega)])))) (.cons (congrArg (fun z=>some (Value.int .i64 z)) (by first|(exfalso;omega)|(unfold ic;repeat (first|rw[if_pos (by omega)]|rw[if_neg (by omega)])))) (.cons (congrArg (fun z=>some (Value.int .i64 z)) (by first|(exfalso;omega)|(unfold uX;repeat (first|rw[if_pos (by omega)]|rw[if_neg (by omega)])))) (.nil)))))⟩
      ·refine au rfl rfl rfl rfl (au rfl rfl rfl rfl (aE rfl rfl rfl (ab (jt rfl (aT ?_)))));exact⟨rfl,rfl,rfl,.cons rfl (.cons rfl (.cons (congrArg (fun z=>some (Value.int .i64 z)) (by first|(exfalso;omega)|(unfold nO;repeat (first|rw[if_pos (by omega)]|rw[if_neg (by omega)])))) (.cons (congrArg (fun z=>some (Value.int .i64 z)) (by first|(exfalso;omega)|(unfold ic;repeat (first|rw[if_pos (by omega)]|rw[if_neg (by omega)])))) (.cons (congrArg (fun z=>some (Value.int .i64 z)) (by first|(exfalso;omega)|(unfold uX;repeat (first|rw[if_pos (by omega)]|rw[if_neg (by omega)])))) (.nil)))))⟩
   ·refine au rfl rfl rfl rfl (au rfl rfl rfl rfl (aE rfl rfl rfl (ab (jt rfl (aj (ae (ad rfl rfl (dY rfl rfl rfl (ad rfl rfl ?_)))))))));refine aR (g:=26) rfl (fun KV=>?_) (fun KV=>?_)
    ·refine al rfl rfl (ad rfl rfl (al rfl rfl (cg rfl rfl rfl (a8 rfl rfl rfl (ab ?_)))));refine bI rfl (fun Fy=>?_) (fun Fy=>?_)
     ·refine aj (ae (ah rfl rfl (ab (aj (ae (ah rfl rfl (ab (ae (ad rfl rfl (fq rfl rfl rfl (by omega) (ah rfl rfl ?_)))))))))));refine ab ?_;exact⟨rfl,rfl,rfl,.cons rfl (.cons rfl (.cons (congrArg (fun z=>some (Value.int .i64 z)) (by first|(exfalso;omega)|(unfold nO;repeat (first|rw[if_pos (by omega)]|rw[if_neg (by omega)])))) (.cons (congrArg (fun z=>some (Value.int .i64 z)) (by first|(exfalso;omega)|(unfold ic;repeat (first|rw[if_pos (by omega)]|rw[if_neg (by omega)])))) (.cons (congrArg (fun z=>some (Value.int .i64 z)) (by first|(exfalso;omega)|(unfold uX;repeat (first|rw[if_pos (by omega)]|rw[if_neg (by omega)])))) (.nil)))))⟩
     ·refine aj (ae (ad rfl rfl (dY rfl rfl rfl (ad rfl rfl ?_))));refine aR (g:=34) rfl (fun x8=>?_) (fun x8=>?_)
      ·refine al rfl rfl (ad rfl rfl (al rfl rfl (cg rfl rfl rfl (a8 rfl rfl rfl (ab ?_)))));refine bI rfl (fun TA=>?_) (fun TA=>?_)
       ·refine aj (ae (ah rfl rfl (ab (aj (ae (ah rfl rfl (ab (ae (ad rfl rfl (fq rfl rfl rfl (by omega) (ah rfl rfl ?_)))))))))));refine ab ?_;exact⟨rfl,rfl,rfl,.cons rfl (.cons rfl (.cons (congrArg (fun z=>some (Value.int .i64 z)) (by first|(exfalso;omega)|(unfold nO;repeat (first|rw[if_pos (by omega)]|rw[if_neg (by omega)])))) (.cons (congrArg (fun z=>some (Value.int .i64 z)) (by first|(exfalso;omega)|(unfold ic;repeat (first|rw[if_pos (by omega)]|rw[if_neg (by omega)])))) (.cons (congrArg (fun z=>some (Value.int .i64 z)) (by first|(exfalso;omega)|(unfold uX;repeat (first|rw[if_pos (by omega)]|rw[if_neg (by omega)])))) (.nil)))))⟩
       ·refine aT ?_;exact⟨rfl,rfl,rfl,.cons rfl (.cons rfl (.cons (congrArg (fun z=>some (Value.int .i64 z)) (by first|(exfalso;omega)|(unfold nO;repeat (first|rw[if_pos (by omega)]|rw[if_neg (by omega)])))) (.cons (congrArg (fun z=>some (Value.int .i64 z)) (by first|(exfalso;omega)|(unfold ic;repeat (first|rw[if_pos (by omega)]|rw[if_neg (by omega)])))) (.cons (congrArg (fun z=>some (Value.int .i64 z)) (by first|(exfalso;omega)|(unfold uX;repeat (first|rw[if_pos (by omega)]|rw[if_neg (by omega)])))) (.nil)))))⟩
      ·refine au rfl rfl rfl rfl (au rfl rfl rfl rfl (aE rfl rfl rfl (ab (jt rfl (aT ?_)))));exact⟨rfl,rfl,rfl,.cons rfl (.cons rfl (.cons (congrArg (fun z=>some (Value.int .i64 z)) (by first|(exfalso;omega)|(unfold nO;repeat (first|rw[if_pos (by omega)]|rw[if_neg (by omega)])))) (.cons (congrArg (fun z=>some (Value.int .i64 z)) (by first|(exfalso;omega)|(unfold ic;repeat (first|rw[if_pos (by omega)]|rw[if_neg (by omega)])))) (.cons (congrArg (fun z=>some (Value.int .i64 z)) (by first|(exfalso;omega)|(unfold uX;repeat (first|rw[if_pos (by omega)]|rw[if_neg (by omega)])))) (.nil)))))⟩
    ·refine au rfl rfl rfl rfl (au rfl rfl rfl rfl (aE rfl rfl rfl (ab (jt rfl (aj (ae (ad rfl rfl (dY rfl rfl rfl (ad rfl rfl ?_)))))))));refine aR (g:=34) rfl (fun x8=>?_) (fun x8=>?_)
     ·refine al rfl rfl (ad rfl rfl (al rfl rfl (cg rfl rfl rfl (a8 rfl rfl rfl (ab ?_)))));refine bI rfl (fun TA=>?_) (fun TA=>?_)
      ·refine aj (ae (ah rfl rfl (ab (aj (ae (ah rfl rfl (ab (ae (ad rfl rfl (fq rfl rfl rfl (by omega) (ah rfl rfl ?_)))))))))));refine ab ?_;exact⟨rfl,rfl,rfl,.cons rfl (.cons rfl (.cons (congrArg (fun z=>some (Value.int .i64 z)) (by first|(exfalso;omega)|(unfold nO;repeat (first|rw[if_pos (by omega)]|rw[if_neg (by omega)])))) (.cons (congrArg (fun z=>some (Value.int .i64 z)) (by first|(exfalso;omega)|(unfold ic;repeat (first|rw[if_pos (by omega)]|rw[if_neg (by omega)])))) (.cons (congrArg (fun z=>some (Value.int .i64 z)) (by first|(exfalso;omega)|(unfold uX;repeat (first|rw[if_pos (by omega)]|rw[if_neg (by omega)])))) (.nil)))))⟩
      ·refine aT ?_;exact⟨rfl,rfl,rfl,.cons rfl (.cons rfl (.cons (congrArg (fun z=>some (Value.int .i64 z)) (by first|(exfalso;omega)|(unfold nO;repeat (first|rw[if_pos (by omega)]|rw[if_neg (by omega)])))) (.cons (congrArg (fun z=>some (Value.int .i64 z)) (by first|(exfalso;omega)|(unfold ic;repeat (first|rw[if_pos (by omega)]|rw[if_neg (by omega)])))) (.cons (congrArg (fun z=>some (Value.int .i64 z)) (by first|(exfalso;omega)|(unfold uX;repeat (first|rw[if_pos (by omega)]|rw[if_neg (by omega)])))) (.nil)))))⟩
     ·refine au rfl rfl rfl rfl (au rfl rfl rfl rfl (aE rfl rfl rfl (ab (jt rfl (aT ?_)))));exact⟨rfl,rfl,rfl,.cons rfl (.cons rfl (.cons (congrArg (fun z=>some (Value.int .i64 z)) (by first|(exfalso;omega)|(unfold nO;repeat (first|rw[if_pos (by omega)]|rw[if_neg (by omega)])))) (.cons (congrArg (fun z=>some (Value.int .i64 z)) (by first|(exfalso;omega)|(unfold ic;repeat (first|rw[if_pos (by omega)]|rw[if_neg (by omega)])))) (.cons (congrArg (fun z=>some (Value.int .i64 z)) (by first|(exfalso;omega)|(unfold uX;repeat (first|rw[if_pos (by omega)]|rw[if_neg (by omega)])))) (.nil)))))⟩
  ·refine aj (aj (ae (ad rfl rfl (qZ rfl rfl rfl (ad rfl rfl ?_)))));refine aR (g:=42) rfl (fun XG=>?_) (fun XG=>?_)
   ·refine au rfl rfl rfl rfl (au rfl rfl rfl rfl (au rfl rfl rfl rfl (au rfl rfl rfl rfl (a8 rfl rfl rfl (ab (nG rfl (aj (ae (ah rfl rfl (ah rfl rfl (ab ?_)))))))))));refine aQ ?_
    have hx:nO (kh l 0:Int)=0∨∃k:Nat,1≤k∧(k:Int)<nO (kh l 0:Int)∧kr l k=false:=by
     rw[←hc];by_cases h0:nO c=0
     ·exact .inl h0
     ·have hnc:=nX h0;exact .inr ⟨(nO c).toNat-1,by omega,by omega,dr.2 fun h=>by have:=(gT.1 h).1;omega⟩
    have e:dec l=(65533,1):=Hq (by omega) hx;exact fm rfl rfl rfl ⟨by rw[e];rfl,rfl⟩
   ·refine al rfl rfl (ad rfl rfl (al rfl rfl (Rg.nq aF rfl rfl (aU (v':= .int .i64 (l.length:Int)) (by simp[ByteArray.size]) (al rfl rfl (ad rfl rfl (al rfl rfl (cg rfl rfl rfl (aE rfl rfl rfl (ab ?_))))))))));refine bI rfl (fun c19=>?_) (fun c19=>?_)
    ·refine aj (ae (ah rfl rfl (ah rfl rfl (ab (aQ ?_)))))
     have hx:nO (kh l 0:Int)=0∨∃k:Nat,1≤k∧(k:Int)<nO (kh l 0:Int)∧kr l k=false:=by
      rw[←hc];by_cases h0:nO c=0
      ·exact .inl h0
      ·have hnc:=nX h0;exact .inr ⟨(nO c).toNat-1,by omega,by omega,dr.2 fun h=>by have:=(gT.1 h).1;omega⟩
     have e:dec l=(65533,1):=Hq (by omega) hx;exact fm rfl rfl rfl ⟨by rw[e];rfl,rfl⟩
    ·refine aT (aj (aj (ae (ah rfl rfl (ab (aZ ?_))))));refine dn (σ:=Nat) (fun i=>[(0,.string ⟨l.toArray⟩),(5,.int .i64 (nO c)),(6,.int .i64 (ic c)),(7,.int .i64 (vO l (i-1))),(8,.int .i64 (i:Int))]) (fun i w=>w=w0∧1≤i∧(i:Int)≤nO c∧∀k:Nat,1≤k→k<i→kr l k=true) (fun i=>(nO c).toNat-i) 1 (.cons rfl (.cons rfl (.cons rfl (.cons (congrArg (fun z=>some (Value.int .i64 z)) (by show uX c=uX (kh l 0:Int);rw[hc])) (.cons rfl .nil))))) ?_ ?_
     ·exact⟨rfl,aN _,by have:=nX (c:=c) (by omega);omega,fun k h1 h2=>by omega⟩
     ·rintro i w ⟨rfl,zm,Ac,hok⟩;have hnc:=nX (c:=c) (by omega)
      have hvr:0≤vO l (i-1)∧vO l (i-1)≤100000000:=by
       exact Tz (l:=l) (c:=c) (k:=i-1) hc (by omega) (fun j h1 h2=>hok j h1 (by omega)) (by omega)
      refine aj (aj (ae (ad rfl rfl (ad rfl rfl (cg rfl rfl rfl (ab ?_))))));refine bI rfl (fun c22=>?_) (fun c22=>?_)
      ·refine aT (aj (aZ (aj (ae (ad rfl rfl (ad rfl rfl ?_))))));have ku:i<l.length:=by omega
       refine Rg.Ho (c:=l.getD i 0) aF rfl rfl rfl (by omega) (by rw[aA,ay,ar ku];rfl) ?_;refine aU (v':= .int .u8 (kh l i:Int)) rfl ?_;have Rf:=oX l i;refine Rg.uL cz aw rfl rfl (by omega) (ah rfl rfl (ab (aj (aj (ae (ad rfl rfl (cg rfl rfl rfl (ad rfl rfl ?_))))))));refine aR (g:=59) rfl (fun XH=>?_) (fun XH=>?_)
       ·refine au rfl rfl rfl rfl (au rfl rfl rfl rfl (a8 rfl rfl rfl (ab (nG rfl (aj (ae (ah rfl rfl (ah rfl rfl (ab (aQ ?_))))))))))
        have hx:nO (kh l 0:Int)=0∨∃k:Nat,1≤k∧(k:Int)<nO (kh l 0:Int)∧kr l k=false:=by
         rw[←hc];exact .inr ⟨i,zm,by omega,dr.2 fun h=>by have:=gT.1 h;omega⟩
        have e:dec l=(65533,1):=Hq (by omega) hx;exact fm rfl rfl rfl ⟨by rw[e];rfl,rfl⟩
       ·refine al rfl rfl (ad rfl rfl (al rfl rfl (dY rfl rfl rfl (aE rfl rfl rfl (ab ?_)))));refine bI rfl (fun c25=>?_) (fun c25=>?_)
        ·refine aj (ae (ah rfl rfl (ah rfl rfl (ab (aQ ?_)))))
         have hx:nO (kh l 0:Int)=0∨∃k:Nat,1≤k∧(k:Int)<nO (kh l 0:Int)∧kr l k=false:=by
          rw[←hc];exact .inr ⟨i,zm,by omega,dr.2 fun h=>by have:=gT.1 h;omega⟩
         have e:dec l=(65533,1):=Hq (by omega) hx;exact fm rfl rfl rfl ⟨by rw[e];rfl,rfl⟩
        ·refine aT (ae (ad rfl rfl (Rg.OO rfl rfl rfl (by omega) (ad rfl rfl (bC rfl rfl rfl (by omega) (fq rfl rfl rfl (by omega) (ah rfl rfl (ab (ae (ad rfl rfl (bC rfl rfl rfl (by omega) ?_)))))))))));refine ah rfl rfl (ab ?_);refine⟨rfl,i+1,(.cons rfl (.cons rfl (.cons rfl (.cons (congrArg (fun z=>some (Value.int .i64 z)) (by obtain⟨q,rfl⟩:∃q,i=q+1:=⟨i-1,by omega⟩;rfl)) (.cons rfl .nil))))),?_,?_⟩
         ·exact⟨rfl,by omega,by omega,fun k h1 h2=>by
           rcases cG k i with h|h
           ·exact hok k h1 h
           ·obtain rfl:k=i:=by omega
            exact gT.2 (by omega)⟩
         ·omega
      ·refine cK (aj (aj (ae (ad rfl rfl (ad rfl rfl (cg rfl rfl rfl (ad rfl rfl ?_)))))));refine aR (g:=71) rfl (fun XI=>?_) (fun XI=>?_)
       ·refine au rfl rfl rfl rfl (au rfl rfl rfl rfl (a8 rfl rfl rfl (ad rfl rfl (au rfl rfl rfl rfl (au rfl rfl rfl rfl (au rfl rfl rfl rfl (cq rfl rfl rfl (cq rfl rfl rfl (au rfl rfl rfl rfl (a8 rfl rfl rfl (ab ?_)))))))))));refine nG rfl (aj (ae (ah rfl rfl (ah rfl rfl (ab (aQ ?_))))));have e:=CW (l:=l) (by rw[←hc];omega) (by rw[←hc];exact fun k h1 h2=>hok k h1 (by omega)) (vO l (i-1)) (by rw[←hc];congr 1;omega);rw[←hc,if_pos (by omega)]at e;exact fm rfl rfl rfl ⟨by rw[e];rfl,rfl⟩
       ·refine al rfl rfl (ad rfl rfl (al rfl rfl (iY rfl rfl rfl (aE rfl rfl rfl (ad rfl rfl ?_)))));refine aR (g:=75) rfl (fun XJ=>?_) (fun XJ=>?_)
        ·refine au rfl rfl rfl rfl (au rfl rfl rfl rfl (au rfl rfl rfl rfl (cq rfl rfl rfl (cq rfl rfl rfl (au rfl rfl rfl rfl (a8 rfl rfl rfl (ab (nG rfl (aj (ae (ah rfl rfl ?_)))))))))));refine ah rfl rfl (ab (aQ ?_));have e:=CW (l:=l) (by rw[←hc];omega) (by rw[←hc];exact fun k h1 h2=>hok k h1 (by omega)) (vO l (i-1)) (by rw[←hc];congr 1;omega);rw[←hc,if_pos (by omega)]at e;exact fm rfl rfl rfl ⟨by rw[e];rfl,rfl⟩
        ·refine al rfl rfl (ad rfl rfl (al rfl rfl (dY rfl rfl rfl (al rfl rfl (ad rfl rfl ?_)))));refine aR (g:=78) rfl (fun TB=>?_) (fun TB=>?_)
         ·refine al rfl rfl (ad rfl rfl (al rfl rfl (gJ rfl rfl rfl (al rfl rfl (a8 rfl rfl rfl (aE rfl rfl rfl (ab ?_)))))));refine bI rfl (fun c28=>?_) (fun c28=>?_)
          ·refine aj (ae (ah rfl rfl (ah rfl rfl (ab (aQ ?_)))));have e:=CW (l:=l) (by rw[←hc];omega) (by rw[←hc];exact fun k h1 h2=>hok k h1 (by omega)) (vO l (i-1)) (by rw[←hc];congr 1;omega);rw[←hc,if_pos (by omega)]at e;exact fm rfl rfl rfl ⟨by rw[e];rfl,rfl⟩
          ·refine aT (aj (ae (ad rfl rfl (ad rfl rfl (ah rfl rfl (ah rfl rfl (ab (aQ ?_))))))));have e:=CW (l:=l) (by rw[←hc];omega) (by rw[←hc];exact fun k h1 h2=>hok k h1 (by omega)) (vO l (i-1)) (by rw[←hc];congr 1;omega);rw[←hc,if_neg (by omega)]at e;exact fm rfl rfl rfl ⟨by rw[e];simp only[];rw[oH hvr.1,oH (by omega)],rfl⟩
         ·refine au rfl rfl rfl rfl (au rfl rfl rfl rfl (al rfl rfl (aE rfl rfl rfl (aE rfl rfl rfl (ab (jt rfl (aT (aj (ae (ad rfl rfl (ad rfl rfl ?_)))))))))));refine ah rfl rfl (ah rfl rfl (ab (aQ ?_)));have e:=CW (l:=l) (by rw[←hc];omega) (by rw[←hc];exact fun k h1 h2=>hok k h1 (by omega)) (vO l (i-1)) (by rw[←hc];congr 1;omega);rw[←hc,if_neg (by omega)]at e;exact fm rfl rfl rfl ⟨by rw[e];simp only[];rw[oH hvr.1,oH (by omega)],rfl⟩
theorem CY {M:aD} {l:List UInt8} (w0:World) (hM:Lt M w0) (hl:l.length≤1000000):
  Spec Tryz.prog 251 #[.string ⟨l.toArray⟩] w0 (fun v w=>((RT.int .i64).sl).V M w (fv l) v∧Step M w0 M w aC):=by
 have kR:=hM;refine bm (args:=[_]) (fn:=Tryz.f251) Tryz.func251 rfl (n:=22) Tryz.ntmps251 ?_;have S:Step M w0 M w0 aC:=(ax _ _).cH (fun _ h=>h.elim) (fun _ h=>h.elim);refine aj (ae (ah rfl rfl (ab (aj (ae (ah rfl rfl (ab (aj (aZ ?_)))))))));refine dn (σ:=Nat×List Int×Value) (fun q=>[(0,.string ⟨(l.drop q.1).toArray⟩),(3,q.2.2)]) (fun q w=>∃M',Lt M' w∧Step M w0 M' w aC∧Own (RT.int .i64) 3 M' w w0.heap.size q.2.2 q.2.1∧fv l=q.2.1++fv (l.drop q.1)∧q.1≤l.length) (fun q=>l.length-q.1) (0,[],.slice none 0 0) (.cons rfl (.cons rfl .nil)) ?_ ?_
 ·exact⟨M,hM,S,dD _ _ _ _ _,by simp,by simp⟩
 ·rintro⟨p,xs,u⟩ w ⟨M1,hM,S,ho,x9,hp⟩;dsimp only at ho x9 hp ⊢;refine aj (aj (ae (ad rfl rfl (Rg.nq aF rfl rfl (aU (v':= .int .i64 ((l.drop p).length:Int)) (by simp[ByteArray.size]) (iY rfl rfl rfl (ab ?_)))))));refine bI rfl (fun c2=>?_) (fun c2=>?_)
  ·refine aT (aZ (aj (ae (ad rfl rfl ?_))));have eQ:l.drop p≠[]:=by intro h;rw[h]at c2;simp at c2
   have rH:p<l.length:=by have:=oG.2 eQ;rw[dh]at this;omega
   have hwd:=l0 eQ;refine aY rfl rfl ady (KU (l:=l.drop p) _ eQ (by rw[dh];omega)) (fun r3 w3 hc=>?_);obtain⟨rfl,rfl⟩:=hc;refine ad rfl rfl (bZ rfl rfl rfl (bZ rfl rfl rfl (ah rfl rfl (ah rfl rfl (ab (aj (ae (ad rfl rfl (ad rfl rfl ?_)))))))));refine ep (A:=RT.int .i64) (hn:=by decide) (M:=M1) aq I3 (by decide) rfl rfl hM (fY (by have:=uT (l.drop p);omega)) (.inr ⟨rfl,rfl⟩) (fun TC KW mY lC=>?_);replace ho:=ho.aL lC;replace hM:=lC.lt hM;have:=S.size;replace S:=S.aB lC;refine dd (M:=M1) (base:=w0.heap.size) aq I3 rfl rfl rfl rfl ho mY (ao _ _) (by simp;have:=iR l;rw[x9]at this;simp at this;omega) (by simp;have:=iR l;rw[x9]at this;simp at this;omega) (S.size) (fun TD adG anH XK TE=>?_);replace mY:=mY.le TE.le;replace hM:=TE.lt hM;have:=S.size;replace S:=S.dg TE ho (aN _);replace ho:=XK;refine ah rfl rfl (ab (ae (ad rfl rfl (ad rfl rfl (Rg.Pc aF rfl rfl rfl (by omega) (aU (v':= .string ⟨(l.drop (p+(dec (l.drop p)).2)).toArray⟩) (by rw[List.drop_drop];simp) (ah rfl rfl (ab ?_))))))));refine⟨rfl,(p+(dec (l.drop p)).2,xs++[((dec (l.drop p)).1:Int)],TD),(.cons rfl (.cons rfl .nil)),?_,?_⟩
   ·refine⟨adG,hM,S,ho,?_,?_⟩
    ·rw[x9,sJ eQ,List.drop_drop];simp
    ·have:=hwd.2;rw[dh]at this;dsimp only;omega
   ·have:=hwd.1;have:=hwd.2;rw[dh]at this;dsimp only;omega
  ·refine cK (aj (ae (ad rfl rfl (ah rfl rfl (ab (aQ ?_))))));have e:fv l=xs:=by rw[x9,gM (by simp at c2;omega),uU];simp
   rw[e];have:=iR l;rw[e]at this;exact aV rfl rfl ⟨ho.close kR S (by omega),S.back⟩
theorem rO {M:aD} {w:World} {x:Int} (h:0≤x∧x<256):RT.u8.V M w x.toNat.toUInt8 (.int .u8 (IntKind.u8.wrap x)):=by
 have e1:IntKind.u8.wrap x=x:=by
  show(if(false&&decide (x%256≥128))=true then x%256-256 else x%256)=x;rw[if_neg (by simp)];omega
 have e2:((x.toNat.toUInt8).toNat:Int)=x:=by
  have:x.toNat.toUInt8.toNat=x.toNat%256:=UInt8.toNat_ofNat' ..;omega
 rw[e1];exact⟨[.int .u8 x],by show _=_;rw[e2],rfl⟩
theorem adH {r:Int} (h:0≤r∧r<128):Lib.encodeRune r=[r.toNat.toUInt8]:=by rw[Lib.encodeRune,Lib.encodeRuneZ_one h.1 (by omega)];rfl
theorem adI {r:Int} (h:128≤r∧r<2048):Lib.encodeRune r=[(192+r/64).toNat.toUInt8,(128+r%64).toNat.toUInt8]:=by rw[Lib.encodeRune,Lib.encodeRuneZ_two h.1 (by omega)];rfl
theorem II (c:Int):tH c<55296∨57343<tH c:=by
 unfold tH
 split
 ·omega
 ·rename_i h
  have h2:Lib.validRune c=true:=by
   cases hv:Lib.validRune c with
   |true=>rfl
   |false=>exact absurd (.inr (.inr hv)) h
  simp only[Lib.validRune,decide_eq_true_eq]at h2;omega
theorem adJ {r:Int} (h:2048≤r∧r<65536) (h2:r<55296∨57343<r):Lib.encodeRune r=[(224+r/4096).toNat.toUInt8,(128+r/64%64).toNat.toUInt8,(128+r%64).toNat.toUInt8]:=by rw[Lib.encodeRune,Lib.encodeRuneZ_three (by omega)];rfl
theorem adK {r:Int} (h:65536≤r∧r≤1114111):Lib.encodeRune r=[(240+r/262144).toNat.toUInt8,(128+r/4096%64).toNat.toUInt8,(128+r/64%64).toNat.toUInt8,(128+r%64).toNat.toUInt8]:=by rw[Lib.encodeRune,Lib.encodeRuneZ_four h.1 h.2];rfl
theorem tI {c:Int} (h:c<0∨c>1114111∨(55296≤c∧c≤57343)):tH c=65533:=by
 rw[tH,if_pos];rcases h with h|h|h
 ·exact .inl h
 ·exact .inr (.inl h)
 ·refine .inr (.inr ?_);simp only[Lib.validRune,decide_eq_false_iff_not];omega
theorem qu {c:Int} (h: ¬(c<0∨c>1114111∨(55296≤c∧c≤57343))):tH c=c:=by
 rw[tH,if_neg];rintro(h1|h1|h1)
 ·omega
 ·omega
 ·simp only[Lib.validRune,decide_eq_false_iff_not]at h1;omega
theorem ya {M:aD} {xs:List Int} {v0:Value} (w0:World) (hM:Lt M w0) (hv:((RT.int .i64).sl).V M w0 xs v0) (hl:xs.length≤1000000):
  Spec Tryz.prog 254 #[v0] w0 (fun v w=>v= .string ⟨(kJ xs).toArray⟩∧Step M w0 M w aC):=by
 have kR:=hM;refine bm (args:=[_]) (fn:=Tryz.f254) Tryz.func254 rfl (n:=91) Tryz.ntmps254 ?_;have S:Step M w0 M w0 aC:=(ax _ _).cH (fun _ h=>h.elim) (fun _ h=>h.elim);refine aj (ae (ah rfl rfl (ab (aj (ae (ah rfl rfl (ab (aj (aj (ae (ah rfl rfl ?_)))))))))));refine ab (aZ ?_);refine dn (σ:=Nat×Value) (fun q=>[(0,v0),(3,q.2),(4,.int .i64 (q.1:Int))]) (fun q w=>∃M',Lt M' w∧Step M w0 M' w aC∧Own RT.u8 5 M' w w0.heap.size q.2 (kJ (xs.take q.1))∧((RT.int .i64).sl).V M' w xs v0∧q.1≤xs.length) (fun q=>xs.length-q.1) (0,.slice none 0 0) (.cons rfl (.cons rfl (.cons rfl .nil))) ?_ ?_
 ·exact⟨M,hM,S,dD _ _ _ _ _,hv,bD _⟩
 ·rintro⟨k,u⟩ w ⟨M1,hM,S,ho,hv,hk⟩;dsimp only at ho hk ⊢;refine aj (aj (ae (ad rfl rfl (ad rfl rfl (bQ aq rfl hv rfl (cg rfl rfl rfl (ab ?_)))))));refine bI rfl (fun c3=>?_) (fun c3=>?_)
  ·refine aT (aj (aZ (aj (ae (ad rfl rfl (ad rfl rfl ?_))))));refine cF (M:=M1) aq I3 rfl rfl rfl hv (ao _ _) (by omega) (fun u5 c IK jy=>?_);refine cd (M:=M1) aw rfl rfl jy (ao _ _) (fun in5=>?_);have tk:xs.take (k+1)=xs.take k++[c]:=by rw[bV];simp only[ay]at IK;rw[IK];rfl
   have hsr:=Hp c;have hsc:=II c;refine ah rfl rfl (ab ?_);refine T.xl [(0,v0),(3,u),(4,.int .i64 (k:Int)),(5,.int .i64 (tH c))] ?_ ?_
   ·refine aj (ae (ad rfl rfl (cg rfl rfl rfl (ad rfl rfl ?_))));refine aR (g:=18) rfl (fun TF=>?_) (fun TF=>?_)
    ·refine au rfl rfl rfl rfl (au rfl rfl rfl rfl (a8 rfl rfl rfl (ad rfl rfl (au rfl rfl rfl rfl (au rfl rfl rfl rfl (au rfl rfl rfl rfl (cq rfl rfl rfl (cq rfl rfl rfl (au rfl rfl rfl rfl (a8 rfl rfl rfl (ab ?_)))))))))));refine nG rfl (ae (ah rfl rfl (ab ?_)));exact⟨rfl,rfl,rfl,.cons rfl (.cons rfl (.cons rfl (.cons (congrArg (fun z=>some (Value.int .i64 z)) (by first|exact(tI (by omega)).symm|exact(qu (by omega)).symm)) (.nil))))⟩
    ·refine al rfl rfl (ad rfl rfl (al rfl rfl (iY rfl rfl rfl (aE rfl rfl rfl (ad rfl rfl ?_)))));refine aR (g:=22) rfl (fun adL=>?_) (fun adL=>?_)
     ·refine au rfl rfl rfl rfl (au rfl rfl rfl rfl (au rfl rfl rfl rfl (cq rfl rfl rfl (cq rfl rfl rfl (au rfl rfl rfl rfl (a8 rfl rfl rfl (ab (nG rfl (ae (ah rfl rfl (ab ?_)))))))))));exact⟨rfl,rfl,rfl,.cons rfl (.cons rfl (.cons rfl (.cons (congrArg (fun z=>some (Value.int .i64 z)) (by first|exact(tI (by omega)).symm|exact(qu (by omega)).symm)) (.nil))))⟩
     ·refine al rfl rfl (ad rfl rfl (al rfl rfl (dY rfl rfl rfl (al rfl rfl (ad rfl rfl ?_)))));refine aR (g:=25) rfl (fun adM=>?_) (fun adM=>?_)
      ·refine al rfl rfl (ad rfl rfl (al rfl rfl (gJ rfl rfl rfl (al rfl rfl (a8 rfl rfl rfl (aE rfl rfl rfl (ab ?_)))))));refine bI rfl (fun c6=>?_) (fun c6=>?_)
       ·refine ae (ah rfl rfl (ab ?_));exact⟨rfl,rfl,rfl,.cons rfl (.cons rfl (.cons rfl (.cons (congrArg (fun z=>some (Value.int .i64 z)) (by first|exact(tI (by omega)).symm|exact(qu (by omega)).symm)) (.nil))))⟩
       ·refine aT ?_;exact⟨rfl,rfl,rfl,.cons rfl (.cons rfl (.cons rfl (.cons (congrArg (fun z=>some (Value.int .i64 z)) (by first|exact(tI (by omega)).symm|exact(qu (by omega)).symm)) (.nil))))⟩
      ·refine au rfl rfl rfl rfl (au rfl rfl rfl rfl (al rfl rfl (aE rfl rfl rfl (aE rfl rfl rfl (ab (jt rfl (aT ?_)))))));exact⟨rfl,rfl,rfl,.cons rfl (.cons rfl (.cons rfl (.cons (congrArg (fun z=>some (Value.int .i64 z)) (by first|exact(tI (by omega)).symm|exact(qu (by omega)).symm)) (.nil))))⟩
   ·refine aj (ae (ad rfl rfl (cg rfl rfl rfl (ab ?_))));refine bI rfl (fun c8=>?_) (fun c8=>?_)
    ·refine ae (ad rfl rfl (ad rfl rfl (rZ aw cz rfl rfl ?_)));refine ep (A:=RT.u8) (hn:=by decide) (M:=M1) bH I5 (by decide) rfl rfl hM (rO (by omega)) (.inr ⟨rfl,rfl⟩) (fun anJ XL KX qv=>?_);replace hv:=hv.le qv.le;replace ho:=ho.aL qv;replace hM:=qv.lt hM;have:=S.size;replace S:=S.aB qv;refine dd (M:=M1) (base:=w0.heap.size) bH I5 rfl rfl rfl rfl ho KX (ao _ _) (by have:=gx (xs.take k);rw[bg]at this;simp;omega) (by have:=gx (xs.take k);rw[bg]at this;simp;omega) (S.size) (fun XM adN adO XN zC=>?_);replace hv:=hv.le zC.le;replace KX:=KX.le zC.le;replace hM:=zC.lt hM;have:=S.size;replace S:=S.dg zC ho (aN _);replace ho:=XN;refine ah rfl rfl (ab (ae (ad rfl rfl (bC rfl rfl rfl (by omega) (ah rfl rfl (ab ?_))))));refine⟨rfl,(k+1,XM),(.cons rfl (.cons rfl (.cons rfl .nil))),?_,?_⟩
     ·exact⟨adN,hM,S,by rw[tk,mv,adH (by omega)];exact ho,hv,by dsimp only;omega⟩
     ·dsimp only;omega
    ·refine aj (ae (ad rfl rfl (cg rfl rfl rfl (ab ?_))));refine bI rfl (fun c10=>?_) (fun c10=>?_)
     ·refine ae (ad rfl rfl (ad rfl rfl (Rg.zu rfl rfl rfl (by omega) (bC rfl rfl rfl (by omega) (rZ aw cz rfl rfl (ad rfl rfl (Rg.zw rfl rfl rfl (by omega) (bC rfl rfl rfl (by omega) (rZ aw cz rfl rfl ?_)))))))));refine Rg.Wr (A:=RT.u8) (hn:=by decide) (M:=M1) (xs:=[(192+tH c/64).toNat.toUInt8,(128+tH c%64).toNat.toUInt8]) bH I5 rfl (by decide) rfl ⟨_,_,_,rfl,rfl,rfl,rO (by omega),_,_,_,rfl,rfl,rfl,rO (by omega),rfl⟩ rfl hM (.inr ⟨rfl,rfl⟩) (by decide) (fun ajN ajO Fz Hs=>?_);replace hv:=hv.le Hs.le;replace ho:=ho.aL Hs;replace hM:=Hs.lt hM;have:=S.size;replace S:=S.aB Hs;refine dd (M:=M1) (base:=w0.heap.size) bH I5 rfl rfl rfl rfl ho Fz (ao _ _) (by have:=gx (xs.take k);rw[bg]at this;simp;omega) (by have:=gx (xs.take k);rw[bg]at this;simp;omega) (S.size) (fun KY TG TH Pk lD=>?_);replace hv:=hv.le lD.le;replace Fz:=Fz.le lD.le;replace hM:=lD.lt hM;have:=S.size;replace S:=S.dg lD ho (aN _);replace ho:=Pk;refine ah rfl rfl (ab (ae (ad rfl rfl (bC rfl rfl rfl (by omega) (ah rfl rfl (ab ?_))))));refine⟨rfl,(k+1,KY),(.cons rfl (.cons rfl (.cons rfl .nil))),?_,?_⟩
      ·exact⟨TG,hM,S,by rw[tk,mv,adI (by omega)];exact ho,hv,by dsimp only;omega⟩
      ·dsimp only;omega
     ·refine aj (ae (ad rfl rfl (cg rfl rfl rfl (ab ?_))));refine bI rfl (fun TL=>?_) (fun TL=>?_)
      ·refine ae (ad rfl rfl (ad rfl rfl (Rg.zu rfl rfl rfl (by omega) (bC rfl rfl rfl (by omega) (rZ aw cz rfl rfl (ad rfl rfl (Rg.zu rfl rfl rfl (by omega) (Rg.zw rfl rfl rfl (by omega) (bC rfl rfl rfl (by omega) (rZ aw cz rfl rfl (ad rfl rfl ?_)))))))))));refine Rg.zw rfl rfl rfl (by omega) (bC rfl rfl rfl (by omega) (rZ aw cz rfl rfl ?_));refine Rg.Wr (A:=RT.u8) (hn:=by decide) (M:=M1) (xs:=[(224+tH c/4096).toNat.toUInt8,(128+tH c/64%64).toNat.toUInt8,(128+tH c%64).toNat.toUInt8]) bH I5 rfl (by decide) rfl ⟨_,_,_,rfl,rfl,rfl,rO (by omega),_,_,_,rfl,rfl,rfl,rO (by omega),_,_,_,rfl,rfl,rfl,rO (by omega),rfl⟩ rfl hM (.inr ⟨rfl,rfl⟩) (by decide) (fun adQ adR Bq Br=>?_);replace hv:=hv.le Br.le;replace ho:=ho.aL Br;replace hM:=Br.lt hM;have:=S.size;replace S:=S.aB Br;refine dd (M:=M1) (base:=w0.heap.size) bH I5 rfl rfl rfl rfl ho Bq (ao _ _) (by have:=gx (xs.take k);rw[bg]at this;simp;omega) (by have:=gx (xs.take k);rw[bg]at this;simp;omega) (S.size) (fun TM TN adS Pl Bs=>?_);replace hv:=hv.le Bs.le;replace Bq:=Bq.le Bs.le;replace hM:=Bs.lt hM;have:=S.size;replace S:=S.dg Bs ho (aN _);replace ho:=Pl;refine ah rfl rfl (ab (ae (ad rfl rfl (bC rfl rfl rfl (by omega) (ah rfl rfl (ab ?_))))));refine⟨rfl,(k+1,TM),(.cons rfl (.cons rfl (.cons rfl .nil))),?_,?_⟩
       ·exact⟨TN,hM,S,by rw[tk,mv,adJ (by omega) hsc];exact ho,hv,by dsimp only;omega⟩
       ·dsimp only;omega
      ·refine ae (ad rfl rfl (ad rfl rfl (Rg.zu rfl rfl rfl (by omega) (bC rfl rfl rfl (by omega) (rZ aw cz rfl rfl (ad rfl rfl (Rg.zu rfl rfl rfl (by omega) (Rg.zw rfl rfl rfl (by omega) (bC rfl rfl rfl (by omega) (rZ aw cz rfl rfl (ad rfl rfl ?_)))))))))));refine Rg.zu rfl rfl rfl (by omega) (Rg.zw rfl rfl rfl (by omega) (bC rfl rfl rfl (by omega) (rZ aw cz rfl rfl (ad rfl rfl (Rg.zw rfl rfl rfl (by omega) (bC rfl rfl rfl (by omega) (rZ aw cz rfl rfl ?_)))))));refine Rg.Wr (A:=RT.u8) (hn:=by decide) (M:=M1) (xs:=[(240+tH c/262144).toNat.toUInt8,(128+tH c/4096%64).toNat.toUInt8,(128+tH c/64%64).toNat.toUInt8,(128+tH c%64).toNat.toUInt8]) bH I5 rfl (by decide) rfl ⟨_,_,_,rfl,rfl,rfl,rO (by omega),_,_,_,rfl,rfl,rfl,rO (by omega),_,_,_,rfl,rfl,rfl,rO (by omega),_,_,_,rfl,rfl,rfl,rO (by omega),rfl⟩ rfl hM (.inr ⟨rfl,rfl⟩) (by decide) (fun adT adU Bt Bu=>?_);replace hv:=hv.le Bu.le;replace ho:=ho.aL Bu;replace hM:=Bu.lt hM;have:=S.size;replace S:=S.aB Bu;refine dd (M:=M1) (base:=w0.heap.size) bH I5 rfl rfl rfl rfl ho Bt (ao _ _) (by have:=gx (xs.take k);rw[bg]at this;simp;omega) (by have:=gx (xs.take k);rw[bg]at this;simp;omega) (S.size) (fun TO TQ adV Pm Bv=>?_);replace hv:=hv.le Bv.le;replace Bt:=Bt.le Bv.le;replace hM:=Bv.lt hM;have:=S.size;replace S:=S.dg Bv ho (aN _);replace ho:=Pm;refine ah rfl rfl (ab (ae (ad rfl rfl (bC rfl rfl rfl (by omega) (ah rfl rfl (ab ?_))))));refine⟨rfl,(k+1,TO),(.cons rfl (.cons rfl (.cons rfl .nil))),?_,?_⟩
       ·exact⟨TQ,hM,S,by rw[tk,mv,adK (by omega)];exact ho,hv,by dsimp only;omega⟩
       ·dsimp only;omega
  ·refine cK (aj (ae (ad rfl rfl (Rg.b2s (hn:=by decide) (M:=M) bH cz aF rfl rfl (ho.close kR S (by have:=gx (xs.take k);rw[bg]at this;omega)) (ao _ _) (ah rfl rfl (ab (aQ ?_)))))));have e:xs.take k=xs:=aW (by omega);rw[e];exact aV rfl rfl ⟨rfl,S.back⟩
end Go.K
namespace Go.K
open Go.Proofs
set_option maxRecDepth 10000
theorem FA {M:aD} {l:List UInt8} (w0:World) (hM:Lt M w0) (hl:l.length≤1000000):
  Spec Tryz.prog 229 #[.string ⟨l.toArray⟩] w0 (fun v w=>((RT.int .i64).sl).V M w (fv l) v∧Step M w0 M w aC):=by
 have kR:=hM;refine bm (args:=[_]) (fn:=Tryz.f229) Tryz.func229 rfl (n:=17) Tryz.ntmps229 ?_;have S:Step M w0 M w0 aC:=(ax _ _).cH (fun _ h=>h.elim) (fun _ h=>h.elim);refine aj (ae (ah rfl rfl (ab (aj (ae (ah rfl rfl (ab (aj (aj (ae (ad rfl rfl ?_)))))))))));refine Rg.KQ M aF rfl rfl (fun KZ anK anL anM adW TR=>?_);obtain⟨Rh,K0⟩:∃M',M'=ins M KZ:=⟨_,rfl⟩;rw[←K0]at TR;have TS:Rh KZ:=by rw[K0];exact .inl rfl
 replace hM:=TR.lt hM;have:=S.size;replace S:=S.aB TR;refine ab (aZ ?_);refine dn (σ:=Nat×List Int×Value) (fun q=>[(3,q.2.2),(7,.pointer (some ⟨KZ,0,none⟩))]) (fun q w=>∃M',Lt M' w∧Step M w0 M' w aC∧w.heap[KZ]? =some (.stringIter ⟨l.toArray⟩ q.1)∧M' KZ∧Own (RT.int .i64) 3 M' w w0.heap.size q.2.2 q.2.1∧fv l=q.2.1++fv (l.drop q.1)∧q.1≤l.length) (fun q=>l.length-q.1) (0,[],.slice none 0 0) (.cons rfl (.cons rfl .nil)) ?_ ?_
 ·exact⟨Rh,hM,S,adW,TS,dD _ _ _ _ _,by simp,by simp⟩
 ·rintro⟨p,xs,u⟩ w ⟨M1,hM,S,g,Av,ho,x9,hp⟩;dsimp only at g ho x9 hp ⊢;refine aj (ae ?_);refine Rg.Pb (M:=M1) rfl g Av rfl (fun adX anN adY K1=>?_) (fun adX=>?_)
  ·have:=ak g;replace Av:=(K1.mem _ this).2 Av;replace ho:=ho.step K1 (fun b hb hk=>ho.ek g (hk▸hb));replace hM:=K1.lt hM;have:=S.size;replace S:=S.trans K1 (fun k hk h=>by have h:_=_:=h;subst h;first|(exfalso;omega)|(show _≤_;omega)|exact⟨by first|omega|assumption,(S.mem _ hk).1 ((K1.mem _ (ak g)).1 Av)⟩|exact .inl rfl|exact .inr rfl|exact .inr (.inl rfl)|exact .inr (.inr rfl)|exact .inr (.inr (.inl rfl))|exact rfl);have g_:=adY;clear g;have g:=g_;clear g_;refine bZ rfl rfl rfl (ab (aj (nG rfl (aT (aZ (aj (ae (bZ rfl rfl rfl (ah rfl rfl (ab (ae ?_)))))))))));refine ad rfl rfl (ad rfl rfl (Rg.uL Tryz.underlying21 aw rfl rfl (by have:=uT (l.drop p);omega) ?_));refine ep (A:=RT.int .i64) (hn:=by decide) (M:=M1) aq I3 (by decide) rfl rfl hM (fY (by have:=uT (l.drop p);omega)) (.inr ⟨rfl,rfl⟩) (fun adZ anO Ht K2=>?_);have:=ak g;replace Av:=(K2.mem _ this).2 Av;replace g:=K2.aM g;replace ho:=ho.aL K2;replace hM:=K2.lt hM;have:=S.size;replace S:=S.aB K2;refine dd (M:=M1) (base:=w0.heap.size) aq I3 rfl rfl rfl rfl ho Ht (ao _ _) (by simp;have:=iR l;rw[x9]at this;simp at this;omega) (by simp;have:=iR l;rw[x9]at this;simp at this;omega) (S.size) (fun ad0 ad1 anP XO K3=>?_);have:=ak g;replace Av:=(K3.mem _ this).2 Av;replace g:=K3.keep g (fun h=>by first|exact ho.ek g h|exact ho.eO g (by decide) h|(have:=(ho.base _ h).1;omega));replace Ht:=Ht.le K3.le;replace hM:=K3.lt hM;have:=S.size;replace S:=S.dg K3 ho (aN _);replace ho:=XO;refine ah rfl rfl (ab ?_);have eQ:l.drop p≠[]:=by intro h;have:=congrArg List.length h;simp at this;omega
   refine⟨rfl,(p+(dec (l.drop p)).2,xs++[((dec (l.drop p)).1:Int)],ad0),(.cons rfl (.cons rfl .nil)),?_,?_⟩
   ·refine⟨ad1,hM,S,g,Av,ho,?_,?_⟩
    ·rw[x9,sJ eQ,List.drop_drop];simp
    ·have:=(l0 eQ).2;rw[dh]at this;dsimp only;omega
   ·have:=(l0 eQ).1;have:=(l0 eQ).2;rw[dh]at this;dsimp only;omega
  ·refine bZ rfl rfl rfl (ab (aj (jt rfl (cK (aj (ae (ad rfl rfl (ah rfl rfl (ab (aQ ?_))))))))));have e:fv l=xs:=by rw[x9,gM (by omega),uU];simp
   rw[e];have:=iR l;rw[e]at this;exact aV rfl rfl ⟨ho.close kR S (by omega),S.back⟩
def fZ (p:List Int×List (List UInt8)) (c:Int):List Int×List (List UInt8):=
 if fL c=true∨oZ c=true then(p.1++[fN c],p.2)else if 0<p.1.length then([],p.2++[kJ p.1])else([],p.2)
structure K4 (M:aD) (w:World) (B bo bs:Nat) (p:List Int×List (List UInt8)):Prop where
 a:∃u,w.heap[bo]? =some (.cells #[u] 37 (0,0))∧Own (RT.int .i64) 3 M w B u p.1
 b:∃u,w.heap[bs]? =some (.cells #[u] 57 (0,0))∧Own RT.str 9 M w B u p.2
 m:M bo∧M bs∧B≤bo∧B≤bs
theorem qw {c:Int} (h:fL c=true∨oZ c=true):0≤c∧c≤1114111:=by
 simp only[fL,oZ,decide_eq_true_eq]at h;omega
theorem yb {M:aD} {B bo bs:Nat} {p:List Int×List (List UInt8)} (w0:World) (hM:Lt M w0) (c:Int) (ht:K4 M w0 B bo bs p) (hl:p.1.length≤1000000∧p.2.length≤1000000):
  Spec Tryz.prog 224 #[.int .i64 c,.pointer (some ⟨bo,0,none⟩),.pointer (some ⟨bs,0,none⟩)] w0 (fun v w=>∃M',Lt M' w∧K4 M' w B bo bs (fZ p c)∧Step M w0 M' w (lP M B)):=by
 obtain⟨⟨uo,go,ho⟩,⟨us,gs,hs⟩,gY,iN,Wy,Wz⟩:=ht;obtain⟨own,out⟩:=p;dsimp only at ho hs hl ⊢;have eQ:bo≠bs:=fun e=>by subst e;rw[go]at gs;cases gs
 refine bm (args:=[_,_,_]) (fn:=Tryz.f224) Tryz.func224 rfl (n:=23) Tryz.ntmps224 ?_;have S:Step M w0 M w0 (lP M B):=(ax _ _).cH (fun _ h=>h.elim) (fun _ h=>h.2);refine aj (aj (ae (ad rfl rfl ?_)));refine aY rfl rfl adk (CT _ _) (fun r wc hc=>?_);obtain⟨rfl,rfl⟩:=hc;refine aU (v':= .bool (decide (fL c=true))) (by cases fL c<;>rfl) (ad rfl rfl ?_);refine aR (g:=6) rfl (fun ad2=>?_) (fun ad2=>?_)
 ·refine au rfl rfl rfl rfl (au rfl rfl rfl rfl (a8 rfl rfl rfl (ab (nG rfl (aj ?_)))));apply T.pH 2 [0] 2 aC mixed rfl rfl rfl rfl;intro IL K5;have lE:=K5 M;have:=ak go;replace gY:=(lE.mem _ this).2 gY;replace go:=lE.aM go;have:=ak gs;replace iN:=(lE.mem _ this).2 iN;replace gs:=lE.aM gs;replace ho:=ho.aL lE;replace hs:=hs.aL lE;replace hM:=lE.lt hM;have:=S.size;replace S:=S.aB lE;refine aP aq rfl rfl rfl (by first|assumption|exact de lE (by assumption)) rfl ?_;refine ab ⟨rfl,rfl,rfl,?_⟩;refine ad rfl rfl ?_;refine ab ⟨rfl,rfl,rfl,?_⟩;refine eZ ?_;refine⟨iA ⟨eF rfl (by assumption) (by first|assumption|exact fun h=>h|(intro h;have h:_=_:=h;omega)),trivial⟩,?_⟩;have kp:=jG aC IL;have FB:fL c=true∨oZ c=true:=by first|exact .inl (by assumption)|exact .inr (by assumption)
  refine aY rfl rfl Xz (As c _ (qw FB)) (fun r wc hc=>?_);obtain⟨rfl,rfl⟩:=hc;refine(fun(kp:eN _ _ _)=>ab ⟨rfl,rfl,fun _=>kp,?_⟩) (by first|exact kp|exact kp.rF (by assumption)|exact kp.goN (by assumption)|exact kp.go (by assumption) (fun _ _ h=>by first|exact h|exact h.elim));refine ep (A:=RT.int .i64) (hn:=by decide) (M:=M) aq I3 (by decide) rfl rfl hM (fY (by have:=qw FB;unfold fN;split<;>omega)) (.inr ⟨rfl,rfl⟩) (fun K6 IM j5 s1_3=>?_);have:=ak go;replace gY:=(s1_3.mem _ this).2 gY;replace go:=s1_3.aM go;have:=ak gs;replace iN:=(s1_3.mem _ this).2 iN;replace gs:=s1_3.aM gs;replace ho:=ho.aL s1_3;replace hs:=hs.aL s1_3;replace hM:=s1_3.lt hM;have:=S.size;replace S:=S.aB s1_3;refine(fun(kp:eN _ _ _)=>ab ⟨rfl,rfl,fun _=>kp,?_⟩) (by first|exact kp|exact kp.rF (by assumption)|exact kp.goN (by assumption)|exact kp.go (by assumption) (fun _ _ h=>by first|exact h|exact h.elim));refine dd (M:=M) (base:=B) aq I3 rfl rfl rfl rfl ho j5 (ao _ _) (by simp;omega) (by simp;omega) (by have:=ak go;omega) (fun TT K7 TU K8 my=>?_);have:=ak go;replace gY:=(my.mem _ this).2 gY;replace go:=my.keep go (fun h=>by first|exact ho.ek go h|exact ho.eO go (by decide) h|(have:=(ho.base _ h).1;omega));have:=ak gs;replace iN:=(my.mem _ this).2 iN;replace gs:=my.keep gs (fun h=>by first|exact ho.ek gs h|exact ho.eO gs (by decide) h|(have:=(ho.base _ h).1;omega));replace j5:=j5.le my.le;replace hs:=hs.step my (fun b h1 h2=>hs.dz ho (by decide) h1 h2);replace hM:=my.lt hM;have:=S.size;replace S:=S.trans my (fun b hb h=>⟨(ho.base b h).1,(S.mem b hb).1 (ho.mut_ b h)⟩);replace ho:=K8;refine ab ⟨rfl,rfl,fun h=>absurd rfl h,?_⟩;refine cw (M:=K7) kD rfl rfl go rfl ((by obtain⟨_,_,he,_⟩:=ho.isSlice;rw[he];rfl)) gY (fun TV uY o0=>?_);change TV.heap[_]? =some (Obj.cells #[TT] _ _)at uY
  have:=ak go;replace gY:=(o0.mem _ this).2 gY;have:=ak gs;replace iN:=(o0.mem _ this).2 iN;replace gs:=o0.keep gs (fun hk=>by have hk:_=_:=hk;omega);replace j5:=j5.le o0.le;replace ho:=ho.step o0 (fun b hb hk=>by have hk:b=_:=hk;subst hk;first|exact absurd hb (ho.eO go (by decide))|exact absurd hb (ho.eO gs (by decide)));replace hs:=hs.step o0 (fun b hb hk=>by have hk:b=_:=hk;subst hk;first|exact absurd hb (hs.eO go (by decide))|exact absurd hb (hs.eO gs (by decide)));replace hM:=o0.lt hM;have:=S.size;replace S:=S.trans o0 (fun k hk h=>by have h:_=_:=h;subst h;first|(exfalso;omega)|(show _≤_;omega)|exact⟨by first|omega|assumption,(S.mem _ hk).1 ((o0.mem _ (ak go)).1 gY)⟩|exact .inl rfl|exact .inr rfl|exact .inr (.inl rfl)|exact .inr (.inr rfl)|exact .inr (.inr (.inl rfl))|exact rfl);have K9:=uY;clear go;have go:=K9;clear K9;refine ab ⟨rfl,rfl,fun h=>absurd rfl h,?_⟩;refine mM (aQ ?_);rw[show fZ (own,out) c=(own++[fN c],out)from if_pos FB];exact Cv rfl ⟨K7,hM,⟨⟨_,go,ho⟩,⟨_,gs,hs⟩,gY,iN,Wy,Wz⟩,S⟩
 ·refine al rfl rfl (ad rfl rfl (al rfl rfl ?_));refine aY rfl rfl adl (Ft _ _) (fun r wc hc=>?_);obtain⟨rfl,rfl⟩:=hc;refine aU (v':= .bool (decide (oZ c=true))) (by cases oZ c<;>rfl) (aE rfl rfl rfl (ab ?_));refine bI rfl (fun c0=>?_) (fun c0=>?_)
  ·refine aj ?_;apply T.pH 2 [0] 2 aC mixed rfl rfl rfl rfl;intro IL K5;have lE:=K5 M;have:=ak go;replace gY:=(lE.mem _ this).2 gY;replace go:=lE.aM go;have:=ak gs;replace iN:=(lE.mem _ this).2 iN;replace gs:=lE.aM gs;replace ho:=ho.aL lE;replace hs:=hs.aL lE;replace hM:=lE.lt hM;have:=S.size;replace S:=S.aB lE;refine aP aq rfl rfl rfl (by first|assumption|exact de lE (by assumption)) rfl ?_;refine ab ⟨rfl,rfl,rfl,?_⟩;refine ad rfl rfl ?_;refine ab ⟨rfl,rfl,rfl,?_⟩;refine eZ ?_;refine⟨iA ⟨eF rfl (by assumption) (by first|assumption|exact fun h=>h|(intro h;have h:_=_:=h;omega)),trivial⟩,?_⟩;have kp:=jG aC IL;have FB:fL c=true∨oZ c=true:=by first|exact .inl (by assumption)|exact .inr (by assumption)
   refine aY rfl rfl Xz (As c _ (qw FB)) (fun r wc hc=>?_);obtain⟨rfl,rfl⟩:=hc;refine(fun(kp:eN _ _ _)=>ab ⟨rfl,rfl,fun _=>kp,?_⟩) (by first|exact kp|exact kp.rF (by assumption)|exact kp.goN (by assumption)|exact kp.go (by assumption) (fun _ _ h=>by first|exact h|exact h.elim));refine ep (A:=RT.int .i64) (hn:=by decide) (M:=M) aq I3 (by decide) rfl rfl hM (fY (by have:=qw FB;unfold fN;split<;>omega)) (.inr ⟨rfl,rfl⟩) (fun K6 IM j5 s1_3=>?_);have:=ak go;replace gY:=(s1_3.mem _ this).2 gY;replace go:=s1_3.aM go;have:=ak gs;replace iN:=(s1_3.mem _ this).2 iN;replace gs:=s1_3.aM gs;replace ho:=ho.aL s1_3;replace hs:=hs.aL s1_3;replace hM:=s1_3.lt hM;have:=S.size;replace S:=S.aB s1_3;refine(fun(kp:eN _ _ _)=>ab ⟨rfl,rfl,fun _=>kp,?_⟩) (by first|exact kp|exact kp.rF (by assumption)|exact kp.goN (by assumption)|exact kp.go (by assumption) (fun _ _ h=>by first|exact h|exact h.elim));refine dd (M:=M) (base:=B) aq I3 rfl rfl rfl rfl ho j5 (ao _ _) (by simp;omega) (by simp;omega) (by have:=ak go;omega) (fun TT K7 TU K8 my=>?_);have:=ak go;replace gY:=(my.mem _ this).2 gY;replace go:=my.keep go (fun h=>by first|exact ho.ek go h|exact ho.eO go (by decide) h|(have:=(ho.base _ h).1;omega));have:=ak gs;replace iN:=(my.mem _ this).2 iN;replace gs:=my.keep gs (fun h=>by first|exact ho.ek gs h|exact ho.eO gs (by decide) h|(have:=(ho.base _ h).1;omega));replace j5:=j5.le my.le;replace hs:=hs.step my (fun b h1 h2=>hs.dz ho (by decide) h1 h2);replace hM:=my.lt hM;have:=S.size;replace S:=S.trans my (fun b hb h=>⟨(ho.base b h).1,(S.mem b hb).1 (ho.mut_ b h)⟩);replace ho:=K8;refine ab ⟨rfl,rfl,fun h=>absurd rfl h,?_⟩;refine cw (M:=K7) kD rfl rfl go rfl ((by obtain⟨_,_,he,_⟩:=ho.isSlice;rw[he];rfl)) gY (fun TV uY o0=>?_);change TV.heap[_]? =some (Obj.cells #[TT] _ _)at uY
   have:=ak go;replace gY:=(o0.mem _ this).2 gY;have:=ak gs;replace iN:=(o0.mem _ this).2 iN;replace gs:=o0.keep gs (fun hk=>by have hk:_=_:=hk;omega);replace j5:=j5.le o0.le;replace ho:=ho.step o0 (fun b hb hk=>by have hk:b=_:=hk;subst hk;first|exact absurd hb (ho.eO go (by decide))|exact absurd hb (ho.eO gs (by decide)));replace hs:=hs.step o0 (fun b hb hk=>by have hk:b=_:=hk;subst hk;first|exact absurd hb (hs.eO go (by decide))|exact absurd hb (hs.eO gs (by decide)));replace hM:=o0.lt hM;have:=S.size;replace S:=S.trans o0 (fun k hk h=>by have h:_=_:=h;subst h;first|(exfalso;omega)|(show _≤_;omega)|exact⟨by first|omega|assumption,(S.mem _ hk).1 ((o0.mem _ (ak go)).1 gY)⟩|exact .inl rfl|exact .inr rfl|exact .inr (.inl rfl)|exact .inr (.inr rfl)|exact .inr (.inr (.inl rfl))|exact rfl);have K9:=uY;clear go;have go:=K9;clear K9;refine ab ⟨rfl,rfl,fun h=>absurd rfl h,?_⟩;refine mM (aQ ?_);rw[show fZ (own,out) c=(own++[fN c],out)from if_pos FB];exact Cv rfl ⟨K7,hM,⟨⟨_,go,ho⟩,⟨_,gs,hs⟩,gY,iN,Wy,Wz⟩,S⟩
  ·refine aT (aj (aj (ae (aP aq rfl rfl rfl (by assumption) rfl (fE aq rfl ho rfl (iY rfl rfl rfl (ab ?_)))))));refine bI rfl (fun c2=>?_) (fun c2=>?_)
   ·apply T.pH 2 [0] 2 aC mixed rfl rfl rfl rfl;intro XP Ri;have qO:=Ri M;have:=ak go;replace gY:=(qO.mem _ this).2 gY;replace go:=qO.aM go;have:=ak gs;replace iN:=(qO.mem _ this).2 iN;replace gs:=qO.aM gs;replace ho:=ho.aL qO;replace hs:=hs.aL qO;replace hM:=qO.lt hM;have:=S.size;replace S:=S.aB qO;refine aP aS rfl rfl rfl (by first|assumption|exact de qO (by assumption)) rfl ?_;refine ab ⟨rfl,rfl,rfl,?_⟩;refine aP aq rfl rfl rfl (by first|assumption|exact de qO (by assumption)) rfl ?_;refine ab ⟨rfl,rfl,rfl,?_⟩;refine eZ ?_;refine⟨iA ⟨eF rfl (by assumption) (by first|assumption|exact fun h=>h|(intro h;have h:_=_:=h;omega)),trivial⟩,?_⟩;have kp:=jG aC XP;refine aY rfl rfl adm (IH (M:=rm M uo) _ (fun b hb=>hM b hb.1) (ho.view (by omega)) (by omega)) (fun r3 w3 hc=>?_);obtain⟨rfl,s3⟩:=hc;replace s3:=s3.any M;have:=ak go;replace gY:=(s3.mem _ this).2 gY;replace go:=s3.aM go;have:=ak gs;replace iN:=(s3.mem _ this).2 iN;replace gs:=s3.aM gs;replace ho:=ho.aL s3;replace hs:=hs.aL s3;replace hM:=s3.lt hM;have:=S.size;replace S:=S.aB s3;refine(fun(kp:eN _ _ _)=>ab ⟨rfl,rfl,fun _=>kp,?_⟩) (by first|exact kp|exact kp.rF (by assumption)|exact kp.goN (by assumption)|exact kp.go (by assumption) (fun _ _ h=>by first|exact h|exact h.elim));refine ep (A:=RT.str) (hn:=by decide) (M:=M) aS I9 (by decide) rfl rfl hM (kI.2 ⟨rfl,by have:=gx own;omega⟩) (.inr ⟨rfl,rfl⟩) (fun anQ anR yc CZ=>?_);have:=ak go;replace gY:=(CZ.mem _ this).2 gY;replace go:=CZ.aM go;have:=ak gs;replace iN:=(CZ.mem _ this).2 iN;replace gs:=CZ.aM gs;replace ho:=ho.aL CZ;replace hs:=hs.aL CZ;replace hM:=CZ.lt hM;have:=S.size;replace S:=S.aB CZ;refine(fun(kp:eN _ _ _)=>ab ⟨rfl,rfl,fun _=>kp,?_⟩) (by first|exact kp|exact kp.rF (by assumption)|exact kp.goN (by assumption)|exact kp.go (by assumption) (fun _ _ h=>by first|exact h|exact h.elim))
    refine dd (M:=M) (base:=B) aS I9 rfl rfl rfl rfl hs yc (ao _ _) (by simp;omega) (by simp;omega) (by have:=ak go;omega) (fun ad3 XQ anS XR C0=>?_);have:=ak go;replace gY:=(C0.mem _ this).2 gY;replace go:=C0.keep go (fun h=>by first|exact hs.ek go h|exact hs.eO go (by decide) h|(have:=(hs.base _ h).1;omega));have:=ak gs;replace iN:=(C0.mem _ this).2 iN;replace gs:=C0.keep gs (fun h=>by first|exact hs.ek gs h|exact hs.eO gs (by decide) h|(have:=(hs.base _ h).1;omega));replace yc:=yc.le C0.le;replace ho:=ho.step C0 (fun b h1 h2=>ho.dz hs (by decide) h1 h2);replace hM:=C0.lt hM;have:=S.size;replace S:=S.trans C0 (fun b hb h=>⟨(hs.base b h).1,(S.mem b hb).1 (hs.mut_ b h)⟩);replace hs:=XR;refine ab ⟨rfl,rfl,fun h=>absurd rfl h,?_⟩;refine cw (M:=XQ) zn rfl rfl gs rfl ((by obtain⟨_,_,he,_⟩:=hs.isSlice;rw[he];rfl)) iN (fun ad4 XS Bw=>?_);change ad4.heap[_]? =some (Obj.cells #[ad3] _ _)at XS;have:=ak go;replace gY:=(Bw.mem _ this).2 gY;replace go:=Bw.keep go (fun hk=>by have hk:_=_:=hk;omega);have:=ak gs;replace iN:=(Bw.mem _ this).2 iN;replace yc:=yc.le Bw.le;replace ho:=ho.step Bw (fun b hb hk=>by have hk:b=_:=hk;subst hk;first|exact absurd hb (ho.eO go (by decide))|exact absurd hb (ho.eO gs (by decide)));replace hs:=hs.step Bw (fun b hb hk=>by have hk:b=_:=hk;subst hk;first|exact absurd hb (hs.eO go (by decide))|exact absurd hb (hs.eO gs (by decide)));replace hM:=Bw.lt hM;have:=S.size;replace S:=S.trans Bw (fun k hk h=>by have h:_=_:=h;subst h;first|(exfalso;omega)|(show _≤_;omega)|exact⟨by first|omega|assumption,(S.mem _ hk).1 ((Bw.mem _ (ak gs)).1 iN)⟩|exact .inl rfl|exact .inr rfl|exact .inr (.inl rfl)|exact .inr (.inr rfl)|exact .inr (.inr (.inl rfl))|exact rfl);have gs_:=XS;clear gs;have gs:=gs_;clear gs_;refine ab ⟨rfl,rfl,fun h=>absurd rfl h,?_⟩;refine mM (ae ?_)
    refine cw (M:=XQ) kD rfl rfl go rfl (rfl) gY (fun La C1 lF=>?_);change La.heap[_]? =some (Obj.cells #[.slice none 0 0] _ _)at C1;have:=ak go;replace gY:=(lF.mem _ this).2 gY;have:=ak gs;replace iN:=(lF.mem _ this).2 iN;replace gs:=lF.keep gs (fun hk=>by have hk:_=_:=hk;omega);replace yc:=yc.le lF.le;replace ho:=ho.step lF (fun b hb hk=>by have hk:b=_:=hk;subst hk;first|exact absurd hb (ho.eO go (by decide))|exact absurd hb (ho.eO gs (by decide)));replace hs:=hs.step lF (fun b hb hk=>by have hk:b=_:=hk;subst hk;first|exact absurd hb (hs.eO go (by decide))|exact absurd hb (hs.eO gs (by decide)));replace hM:=lF.lt hM;have:=S.size;replace S:=S.trans lF (fun k hk h=>by have h:_=_:=h;subst h;first|(exfalso;omega)|(show _≤_;omega)|exact⟨by first|omega|assumption,(S.mem _ hk).1 ((lF.mem _ (ak go)).1 gY)⟩|exact .inl rfl|exact .inr rfl|exact .inr (.inl rfl)|exact .inr (.inr rfl)|exact .inr (.inr (.inl rfl))|exact rfl);have K9:=C1;clear go;have go:=K9;clear K9;refine ab ?_
    first|refine re ?_|simp+decide only[rf,jC,if_true,if_false]|skip
    have WA: ¬(fL c=true∨oZ c=true):=by rintro(h|h)<;>exact absurd h (by assumption)
    first
    |rw[show fZ (own,out) c=([],out++[kJ own])from(if_neg WA).trans (if_pos (by show 0<own.length;omega))]
     exact fU rfl ⟨_,hM,⟨⟨_,go,dD _ _ _ _ _⟩,⟨_,gs,hs⟩,gY,iN,Wy,Wz⟩,S⟩
    |rw[show fZ (own,out) c=([],out)from(if_neg WA).trans (if_neg (by show¬0<own.length;omega))]
     exact fU rfl ⟨_,hM,⟨⟨_,go,dD _ _ _ _ _⟩,⟨_,gs,hs⟩,gY,iN,Wy,Wz⟩,S⟩
   ·refine aT (ae ?_);refine cw (M:=M) kD rfl rfl go rfl (rfl) gY (fun La C1 lF=>?_);change La.heap[_]? =some (Obj.cells #[.slice none 0 0] _ _)at C1;have:=ak go;replace gY:=(lF.mem _ this).2 gY;have:=ak gs;replace iN:=(lF.mem _ this).2 iN;replace gs:=lF.keep gs (fun hk=>by have hk:_=_:=hk;omega);replace ho:=ho.step lF (fun b hb hk=>by have hk:b=_:=hk;subst hk;first|exact absurd hb (ho.eO go (by decide))|exact absurd hb (ho.eO gs (by decide)));replace hs:=hs.step lF (fun b hb hk=>by have hk:b=_:=hk;subst hk;first|exact absurd hb (hs.eO go (by decide))|exact absurd hb (hs.eO gs (by decide)));replace hM:=lF.lt hM;have:=S.size;replace S:=S.trans lF (fun k hk h=>by have h:_=_:=h;subst h;first|(exfalso;omega)|(show _≤_;omega)|exact⟨by first|omega|assumption,(S.mem _ hk).1 ((lF.mem _ (ak go)).1 gY)⟩|exact .inl rfl|exact .inr rfl|exact .inr (.inl rfl)|exact .inr (.inr rfl)|exact .inr (.inr (.inl rfl))|exact rfl);have K9:=C1;clear go;have go:=K9;clear K9;refine ab ?_
    first|refine re ?_|simp+decide only[rf,jC,if_true,if_false]|skip
    have WA: ¬(fL c=true∨oZ c=true):=by rintro(h|h)<;>exact absurd h (by assumption)
    first
    |rw[show fZ (own,out) c=([],out++[kJ own])from(if_neg WA).trans (if_pos (by show 0<own.length;omega))]
     exact fU rfl ⟨_,hM,⟨⟨_,go,dD _ _ _ _ _⟩,⟨_,gs,hs⟩,gY,iN,Wy,Wz⟩,S⟩
    |rw[show fZ (own,out) c=([],out)from(if_neg WA).trans (if_neg (by show¬0<own.length;omega))]
     exact fU rfl ⟨_,hM,⟨⟨_,go,dD _ _ _ _ _⟩,⟨_,gs,hs⟩,gY,iN,Wy,Wz⟩,S⟩
theorem nY (l:List Int):∀p,(l.foldl fZ p).1.length≤p.1.length+l.length∧(l.foldl fZ p).2.length≤p.2.length+l.length:=by
 induction l with
 |nil=>intro p;simp
 |cons c l ih=>
  intro p;have:=ih (fZ p c)
  have h1:(fZ p c).1.length≤p.1.length+1∧(fZ p c).2.length≤p.2.length+1:=by
   unfold fZ
   split
   ·simp
   ·split<;>simp
  simp only[List.foldl_cons,cD];omega
def words (l:List UInt8):List (List UInt8):=((fv l++[32]).foldl fZ ([],[])).2
theorem qP (l:List UInt8):(words l).length≤l.length+1:=by
 have h:=(nY (fv l++[32]) ([],[])).2;have h2:=iR l;rw[bc]at h;have h3:([]:List (List UInt8)).length=0:=rfl;have h4: [(32:Int)].length=1:=rfl;unfold words;simp only[h3,h4]at h;omega
theorem yd {M:aD} {l:List UInt8} (w0:World) (hM:Lt M w0) (hl:l.length≤900000):
  Spec Tryz.prog 183 #[.string ⟨l.toArray⟩] w0 (fun v w=>(RT.str.sl).V M w (words l) v∧Step M w0 M w aC):=by
 have kR:=hM;refine bm (args:=[_]) (fn:=Tryz.f183) Tryz.func183 rfl (n:=23) Tryz.ntmps183 ?_;have S:Step M w0 M w0 aC:=(ax _ _).cH (fun _ h=>h.elim) (fun _ h=>h.elim);refine aj (ae (ah rfl rfl (ab (aj (ae ?_)))));refine eE M zn rfl (fun mz C2 TW TX jW nv=>?_);obtain⟨lu,mA⟩:∃M',M'=ins M mz:=⟨_,rfl⟩;rw[←mA]at nv;have iI:lu mz:=by rw[mA];exact .inl rfl
 change C2.heap[mz]? =some (.cells #[.slice none 0 0] _ _)at jW;replace hM:=nv.lt hM;have:=S.size;replace S:=S.aB nv;refine ab (aj (ae ?_));refine eE lu kD rfl (fun gK TY ad5 ad6 C3 ye=>?_);obtain⟨Lb,yf⟩:∃M',M'=ins lu gK:=⟨_,rfl⟩;rw[←yf]at ye;have yg:Lb gK:=by rw[yf];exact .inl rfl
 change TY.heap[gK]? =some (.cells #[.slice none 0 0] _ _)at C3;have:=ak jW;replace iI:=(ye.mem _ this).2 iI;replace jW:=ye.aM jW;replace hM:=ye.lt hM;have:=S.size;replace S:=S.aB ye;refine ab (aj (ae (kg (xs:=[]) (ys:=[.tmp 4,.tmp 3]) rfl rfl rfl (ah rfl rfl (ab (aj (aj (ae (ad rfl rfl ?_)))))))));refine aY rfl rfl adn (FA _ hM (by omega)) (fun v4 w4 hc=>?_);obtain⟨x9,s4⟩:=hc;have:=ak jW;replace iI:=(s4.mem _ this).2 iI;replace jW:=s4.aM jW;have:=ak C3;replace yg:=(s4.mem _ this).2 yg;replace C3:=s4.aM C3;replace hM:=s4.lt hM;have:=S.size;replace S:=S.aB s4;refine bQ aq rfl x9 rfl (ad rfl rfl (ab (aZ ?_)));refine dn (σ:=Nat) (fun k=>[(3,.pointer (some ⟨mz,0,none⟩)),(5,.func (.func 224) #[] #[.pointer (some ⟨gK,0,none⟩),.pointer (some ⟨mz,0,none⟩)]),(10,v4),(11,.int .i64 ((fv l).length:Int)),(12,.int .i64 (k:Int))]) (fun k w=>∃M',Lt M' w∧Step M w0 M' w aC∧K4 M' w w0.heap.size gK mz (((fv l).take k).foldl fZ ([],[]))∧((RT.int .i64).sl).V M' w (fv l) v4∧k≤(fv l).length) (fun k=>(fv l).length-k) 0 (.cons rfl (.cons rfl (.cons rfl (.cons rfl (.cons rfl .nil))))) ?_ ?_
 ·exact⟨_,hM,S,⟨⟨_,C3,dD _ _ _ _ _⟩,⟨_,jW,dD _ _ _ _ _⟩,yg,iI,by omega,by omega⟩,x9,bD _⟩
 ·rintro k w ⟨M1,hM,S,ht,x9,hk⟩;refine aj (ae (cg rfl rfl rfl (ab (aj ?_))));refine bI rfl (fun c5=>?_) (fun c5=>?_)
  ·refine aT (aj (aZ (aj (ae ?_))));refine cF (M:=M1) aq I3 rfl rfl rfl x9 (ao _ _) (by omega) (fun u6 c JV IN=>?_);refine cd (M:=M1) aw rfl rfl IN (ao _ _) (fun in6=>?_);refine ah rfl rfl (ab (ae (ad rfl rfl (ad rfl rfl ?_))));have mQ:=iR l;have Ox:=nY ((fv l).take k) ([],[]);rw[bg]at Ox;refine zr (first:=[]) (captured:=[.pointer (some ⟨gK,0,none⟩),.pointer (some ⟨mz,0,none⟩)]) rfl rfl rfl Xy (yb (B:=w0.heap.size) _ hM c ht (by simp at Ox;omega)) (fun r7 w7 hc=>?_);obtain⟨M2,EX,IP,s7⟩:=hc;have tk:(fv l).take (k+1)=(fv l).take k++[c]:=by rw[bV];simp only[ay]at JV;rw[JV];rfl
   refine ab (ae (bC rfl rfl rfl (by omega) (ad rfl rfl (ab ?_))));refine⟨rfl,k+1,(.cons rfl (.cons rfl (.cons rfl (.cons rfl (.cons rfl .nil))))),?_,?_⟩
   ·exact⟨M2,EX,S.l7 s7 (aN _),by rw[tk,sd];exact IP,x9.le s7.le,by omega⟩
   ·omega
  ·refine cK (aj (ae (ad rfl rfl ?_)));have mQ:=iR l;have Ox:=nY ((fv l).take k) ([],[]);rw[bg]at Ox;refine zr (first:=[]) (captured:=[.pointer (some ⟨gK,0,none⟩),.pointer (some ⟨mz,0,none⟩)]) rfl rfl rfl Xy (yb (B:=w0.heap.size) _ hM 32 ht (by simp at Ox;omega)) (fun r9 w9 hc=>?_);obtain⟨M2,EX,IP,s9⟩:=hc;have e9:fZ (((fv l).take k).foldl fZ ([],[])) 32=(fv l++[32]).foldl fZ ([],[]):=by rw[sd,aW (by omega)];rfl
   rw[e9]at IP;obtain⟨_,⟨us,gs,hs⟩,_⟩:=IP;replace S:=S.l7 s9 (aN _);refine ab (aj (ae (aP aS rfl rfl rfl gs rfl (ah rfl rfl (ab (aQ ?_))))));exact aV rfl rfl ⟨Own.close kR S hs (by have:=qP l;omega),S.back⟩
end Go.K
namespace Go.K
open Go.Proofs
set_option maxRecDepth 10000
theorem Lc {p:List Int×List (List UInt8)} {c:Int} (h:xn c=true):fZ p c=(p.1++[fN c],p.2):=if_pos (by simpa[xn]using h)
theorem qQ {p:List Int×List (List UInt8)} {c:Int} (h:xn c=false):fZ p c=if 0<p.1.length then([],p.2++[kJ p.1])else([],p.2):=if_neg (by simpa[xn]using h)
def JW (sg:List Int) (i:Nat) (ws:List (List UInt8)):Prop:=(i≤sg.length∧(sg.take i).foldl fZ ([],[])=([],ws))∨(i=sg.length+1∧((sg++[32]).foldl fZ ([],[])).2=ws)
theorem Ld {c:Int} (h:xn c=true):0≤c∧c≤1114111:=qw (by simpa[xn]using h)
theorem XT:xn 32=false:=by decide
theorem uZ {sg:List Int} {i:Nat} {c:Int} (h:sg[i]? =some c) (p:List Int×List (List UInt8)):(sg.take (i+1)).foldl fZ p=fZ ((sg.take i).foldl fZ p) c:=by
 rw[bV,h,cE,sd];rfl
theorem JW.skip {sg:List Int} {i:Nat} {ws:List (List UInt8)} {c:Int} (h:JW sg i ws) (hc:sg[i]? =some c) (hi:xn c=false):JW sg (i+1) ws:=by
 have dV:=(an.1 hc).1;rcases h with⟨_,h⟩|⟨h,_⟩
 ·exact .inl ⟨dV,by rw[uZ hc,h,qQ hi];rfl⟩
 ·omega
theorem JW.word {sg:List Int} {j:Nat} {own:List Int} {ws:List (List UInt8)} (h:(sg.take j).foldl fZ ([],[])=(own,ws)) (ho:0<own.length) (hj:j≤sg.length) (hn:∀c,sg[j]? =some c→xn c=false):JW sg (j+1) (ws++[kJ own]):=by
 rcases ly hj with e|dV
 ·refine .inr ⟨by omega,?_⟩;rw[e,List.take_length]at h;rw[sd,h];show(fZ (own,ws) 32).2=_;rw[qQ XT,if_pos ho]
 ·have hc:sg[j]? =some sg[j]:=ar dV;exact .inl ⟨dV,by rw[uZ hc,h,qQ (hn _ hc),if_pos ho]⟩
theorem JW.done {sg:List Int} {i:Nat} {ws:List (List UInt8)} (h:JW sg i ws) (hi:sg.length≤i):((sg++[32]).foldl fZ ([],[])).2=ws:=by
 rcases h with⟨h1,h⟩|⟨_,h⟩
 ·rw[aW (by omega)]at h;rw[sd,h];show(fZ ([],ws) 32).2=_;rw[qQ XT];rfl
 ·exact h
theorem JW.len {sg:List Int} {i:Nat} {ws:List (List UInt8)} (h:JW sg i ws):ws.length≤sg.length+1:=by
 rcases h with⟨_,h⟩|⟨_,h⟩
 ·have:=(nY (sg.take i) ([],[])).2;rw[h,bg]at this;simp only[j3]at this;have e:(([]:List Int),([]:List (List UInt8))).2.length=0:=rfl;omega
 ·have:=(nY (sg++[32]) ([],[])).2;rw[h,bc]at this;have e:(([]:List Int),([]:List (List UInt8))).2.length=0:=rfl;have e2: [(32:Int)].length=1:=rfl;omega
theorem gU {sg:List Int} {j:Nat} {own:List Int} {ws:List (List UInt8)} (h:(sg.take j).foldl fZ ([],[])=(own,ws)):own.length≤sg.length∧ws.length≤sg.length:=by
 have:=nY (sg.take j) ([],[]);rw[h,bg]at this;simp only[j3]at this;have e:(([]:List Int),([]:List (List UInt8))).1.length=0:=rfl;have e2:(([]:List Int),([]:List (List UInt8))).2.length=0:=rfl;omega
theorem C4 {M:aD} {l:List UInt8} (w0:World) (hM:Lt M w0) (hl:l.length≤900000):
  Spec Tryz.prog 201 #[.string ⟨l.toArray⟩] w0 (fun v w=>(RT.str.sl).V M w (words l) v∧Step M w0 M w aC):=by
 have kR:=hM;have mQ:=iR l;refine bm (args:=[_]) (fn:=Tryz.f201) Tryz.func201 rfl (n:=50) Tryz.ntmps201 ?_;have S:Step M w0 M w0 aC:=(ax _ _).cH (fun _ h=>h.elim) (fun _ h=>h.elim);refine aj (ae (ah rfl rfl (ab (aj (ae (ad rfl rfl ?_))))));refine aY rfl rfl ads (CY _ hM (by omega)) (fun v1 w1 hc=>?_);obtain⟨hv,s1⟩:=hc;replace hM:=s1.lt hM;have:=S.size;replace S:=S.aB s1;refine ah rfl rfl (ab (aj (ae (ah rfl rfl (ab (aj (aj (ae (ah rfl rfl (ab (aZ ?_)))))))))));refine dn (σ:=Nat×Value) (fun q=>[(3,v1),(4,q.2),(5,.int .i64 (q.1:Int))]) (fun q w=>∃M' ws,Lt M' w∧Step M w0 M' w aC∧Own RT.str 9 M' w w0.heap.size q.2 ws∧((RT.int .i64).sl).V M' w (fv l) v1∧JW (fv l) q.1 ws) (fun q=>(fv l).length+1-q.1) (0,.slice none 0 0) (.cons rfl (.cons rfl (.cons rfl .nil))) ?_ ?_
 ·exact⟨M,[],hM,S,dD _ _ _ _ _,hv,.inl ⟨bD _,rfl⟩⟩
 ·rintro⟨i,u4⟩ w ⟨M1,ws,hM,S,qe,hv,XU⟩;dsimp only at qe XU ⊢;refine aj (aj (ae (ad rfl rfl (ad rfl rfl (bQ aq rfl hv rfl (cg rfl rfl rfl (ab ?_)))))));refine bI rfl (fun c4=>?_) (fun c4=>?_)
  ·refine aT (aj (aZ (aj (ae (ad rfl rfl (ad rfl rfl ?_))))));refine cF (M:=M1) aq I3 rfl rfl rfl hv (ao _ _) (by omega) (fun XV c XW huc=>?_);refine cd (M:=M1) aw rfl rfl huc (ao _ _) (fun inc=>?_);rw[ay]at XW;refine aY rfl rfl XA (CX c _) (fun r wc hc=>?_);obtain⟨rfl,rfl⟩:=hc;refine aU (v':= .bool (decide (xn c=true))) (by cases xn c<;>rfl) (ah rfl rfl (ab (aj (aj (ae (ad rfl rfl (mO rfl rfl (aU (v':= .bool (decide (xn c=false))) (by cases xn c<;>rfl) (ab ?_)))))))));refine bI rfl (fun c7=>?_) (fun c7=>?_)
   ·refine cK (ae (ad rfl rfl (bC rfl rfl rfl (by omega) (ah rfl rfl (ab ?_)))));refine⟨rfl,(i+1,u4),(.cons rfl (.cons rfl (.cons rfl .nil))),?_,?_⟩
    ·exact⟨M1,ws,hM,S,qe,hv,XU.skip XW (by assumption)⟩
    ·dsimp only;omega
   ·refine aT (aj (ae (ah rfl rfl (ab (aj (aZ ?_))))));refine dn (σ:=Nat×List Int×Value) (fun q=>[(3,v1),(4,u4),(5,.int .i64 (q.1:Int)),(7,q.2.2)]) (fun q w=>∃M',Lt M' w∧Step M w0 M' w aC∧Own RT.str 9 M' w w0.heap.size u4 ws∧Own (RT.int .i64) 3 M' w w0.heap.size q.2.2 q.2.1∧((RT.int .i64).sl).V M' w (fv l) v1∧((fv l).take q.1).foldl fZ ([],[])=(q.2.1,ws)∧i≤q.1∧q.1≤(fv l).length∧(i<q.1→0<q.2.1.length)) (fun q=>(fv l).length-q.1) (i,[],.slice none 0 0) (.cons rfl (.cons rfl (.cons rfl (.cons rfl .nil)))) ?_ ?_
    ·have ad7:((fv l).take i).foldl fZ ([],[])=([],ws):=by
      rcases XU with⟨_,h⟩|⟨h,_⟩
      ·exact h
      ·omega
     exact⟨M1,hM,S,qe,dD _ _ _ _ _,hv,ad7,aN _,by dsimp only;omega,fun h=>absurd h (jq _)⟩
    ·rintro⟨j,own,u7⟩ w ⟨M2,hM,S,qe,nZ,hv,hf,TZ,rG,uN⟩;dsimp only at nZ hf TZ rG uN ⊢;refine aj (aj (ae (ad rfl rfl (ad rfl rfl (bQ aq rfl hv rfl (cg rfl rfl rfl (ad rfl rfl ?_)))))));refine aR (g:=27) rfl (fun ad8=>?_) (fun ad8=>?_)
     ·refine al rfl rfl (ad rfl rfl (al rfl rfl (ad rfl rfl (al rfl rfl ?_))));refine cF (M:=M2) aq I3 rfl rfl rfl hv (ao _ _) (by omega) (fun anU d pT hud=>?_);refine al rfl rfl ?_;refine cd (M:=M2) aw rfl rfl hud (ao _ _) (fun ind=>?_);rw[ay]at pT;refine al rfl rfl ?_;refine aY rfl rfl XA (CX d _) (fun r wc hc=>?_);obtain⟨rfl,rfl⟩:=hc;refine aU (v':= .bool (decide (xn d=true))) (by cases xn d<;>rfl) (a8 rfl rfl rfl (ab ?_));refine bI rfl (fun c9=>?_) (fun c9=>?_)
      ·refine aT (aZ (aj (ae (ad rfl rfl (ad rfl rfl (ad rfl rfl ?_))))));refine cF (M:=M2) aq I3 rfl rfl rfl hv (ao _ _) (by omega) (fun XX e Kc hue=>?_);refine cd (M:=M2) aw rfl rfl hue (ao _ _) (fun oE=>?_);rw[ay]at Kc;have T0:xn e=true:=by rw[pT]at Kc;cases Kc;assumption
       refine aY rfl rfl adt (Fx e _ (Ld T0)) (fun r wc hc=>?_);obtain⟨rfl,rfl⟩:=hc;refine ep (A:=RT.int .i64) (hn:=by decide) (M:=M2) aq I3 (by decide) rfl rfl hM (fY (by have:=Ld T0;unfold fN;split<;>omega)) (.inr ⟨rfl,rfl⟩) (fun ajQ ajR FC C5=>?_);replace hv:=hv.le C5.le;replace qe:=qe.aL C5;replace nZ:=nZ.aL C5;replace hM:=C5.lt hM;have:=S.size;replace S:=S.aB C5;refine dd (M:=M2) (base:=w0.heap.size) aq I3 rfl rfl rfl rfl nZ FC (ao _ _) (by have:=gU hf;simp;omega) (by have:=gU hf;simp;omega) (S.size) (fun Rj XY XZ T1 pJ=>?_);replace hv:=hv.le pJ.le;replace FC:=FC.le pJ.le;replace qe:=qe.step pJ (fun b h1 h2=>qe.dz nZ (by decide) h1 h2);replace hM:=pJ.lt hM;have:=S.size;replace S:=S.dg pJ nZ (aN _);replace nZ:=T1;refine ah rfl rfl (ab (ae (ad rfl rfl (bC rfl rfl rfl (by omega) (ah rfl rfl (ab ?_))))));refine⟨rfl,(j+1,own++[fN e],Rj),(.cons rfl (.cons rfl (.cons rfl (.cons rfl .nil)))),?_,?_⟩
       ·exact⟨XY,hM,S,qe,nZ,hv,by rw[uZ Kc,hf,Lc T0],by dsimp only;omega,by dsimp only;omega,fun _=>by simp⟩
       ·dsimp only;omega
      ·refine cK (ae (ad rfl rfl (ad rfl rfl ?_)));refine aY rfl rfl XB (ya (M:=rm M2 u7) _ (fun b hb=>hM b hb.1) (nZ.view (by have:=gU hf;omega)) (by have:=gU hf;omega)) (fun r12 WB T2=>?_);obtain⟨rfl,zD⟩:=T2;replace zD:=zD.any M2;replace hv:=hv.le zD.le;replace qe:=qe.aL zD;replace nZ:=nZ.aL zD;replace hM:=zD.lt hM;have:=S.size;replace S:=S.aB zD;refine ep (A:=RT.str) (hn:=by decide) (M:=M2) aS I9 (by decide) rfl rfl hM (kI.2 ⟨rfl,by have:=gx own;have:=gU hf;omega⟩) (.inr ⟨rfl,rfl⟩) (fun C6 Rk sL j6=>?_);replace hv:=hv.le j6.le;replace qe:=qe.aL j6;replace nZ:=nZ.aL j6;replace hM:=j6.lt hM;have:=S.size;replace S:=S.aB j6;refine dd (M:=M2) (base:=w0.heap.size) aS I9 rfl rfl rfl rfl qe sL (ao _ _) (by have:=gU hf;simp;omega) (by have:=gU hf;simp;omega) (S.size) (fun yh qx Lg sM ff=>?_);replace hv:=hv.le ff.le;replace sL:=sL.le ff.le;replace nZ:=nZ.step ff (fun b h1 h2=>nZ.dz qe (by decide) h1 h2);replace hM:=ff.lt hM;have:=S.size;replace S:=S.dg ff qe (aN _);replace qe:=sM;refine ah rfl rfl (ab (ae (ad rfl rfl (bC rfl rfl rfl (by omega) (ah rfl rfl (ab ?_))))))
       have uN:0<own.length:=by
        rcases ly TZ with e|h
        ·exfalso;subst e
         first|omega|(rw[XW]at pT;cases pT;exact c9 (by cases hq:xn c with|true=>rfl|false=>exact absurd hq (by assumption)))
        ·exact uN h
       have T3:∀c,(fv l)[j]? =some c→xn c=false:=fun c hc=>by
        first|(rw[dx (by omega)]at hc;cases hc)|(rw[pT]at hc;cases hc;exact dr.2 c9)
       refine⟨rfl,(j+1,yh),(.cons rfl (.cons rfl (.cons rfl .nil))),?_,?_⟩
       ·exact⟨qx,_,hM,S,qe,hv,JW.word hf uN rG T3⟩
       ·dsimp only;omega
     ·refine au rfl rfl rfl rfl (au rfl rfl rfl rfl (au rfl rfl rfl rfl (au rfl rfl rfl rfl (au rfl rfl rfl rfl (aE rfl rfl rfl (ab (jt rfl (cK (ae (ad rfl rfl (ad rfl rfl ?_)))))))))));refine aY rfl rfl XB (ya (M:=rm M2 u7) _ (fun b hb=>hM b hb.1) (nZ.view (by have:=gU hf;omega)) (by have:=gU hf;omega)) (fun r12 WB T2=>?_);obtain⟨rfl,zD⟩:=T2;replace zD:=zD.any M2;replace hv:=hv.le zD.le;replace qe:=qe.aL zD;replace nZ:=nZ.aL zD;replace hM:=zD.lt hM;have:=S.size;replace S:=S.aB zD;refine ep (A:=RT.str) (hn:=by decide) (M:=M2) aS I9 (by decide) rfl rfl hM (kI.2 ⟨rfl,by have:=gx own;have:=gU hf;omega⟩) (.inr ⟨rfl,rfl⟩) (fun C6 Rk sL j6=>?_);replace hv:=hv.le j6.le;replace qe:=qe.aL j6;replace nZ:=nZ.aL j6;replace hM:=j6.lt hM;have:=S.size;replace S:=S.aB j6;refine dd (M:=M2) (base:=w0.heap.size) aS I9 rfl rfl rfl rfl qe sL (ao _ _) (by have:=gU hf;simp;omega) (by have:=gU hf;simp;omega) (S.size) (fun yh qx Lg sM ff=>?_);replace hv:=hv.le ff.le;replace sL:=sL.le ff.le;replace nZ:=nZ.step ff (fun b h1 h2=>nZ.dz qe (by decide) h1 h2);replace hM:=ff.lt hM;have:=S.size;replace S:=S.dg ff qe (aN _);replace qe:=sM;refine ah rfl rfl (ab (ae (ad rfl rfl (bC rfl rfl rfl (by omega) (ah rfl rfl (ab ?_))))))
      have uN:0<own.length:=by
       rcases ly TZ with e|h
       ·exfalso;subst e
        first|omega|(rw[XW]at pT;cases pT;exact c9 (by cases hq:xn c with|true=>rfl|false=>exact absurd hq (by assumption)))
       ·exact uN h
      have T3:∀c,(fv l)[j]? =some c→xn c=false:=fun c hc=>by
       first|(rw[dx (by omega)]at hc;cases hc)|(rw[pT]at hc;cases hc;exact dr.2 c9)
      refine⟨rfl,(j+1,yh),(.cons rfl (.cons rfl (.cons rfl .nil))),?_,?_⟩
      ·exact⟨qx,_,hM,S,qe,hv,JW.word hf uN rG T3⟩
      ·dsimp only;omega
  ·refine cK (aj (ae (ad rfl rfl (ah rfl rfl (ab (aQ ?_))))));have e:=XU.done (by omega);have e2:words l=ws:=e;rw[e2];exact aV rfl rfl ⟨qe.close kR S (by have:=XU.len;omega),S.back⟩
end Go.K
namespace Go.K
open Go.Proofs
set_option maxRecDepth 10000
def mB:Nat→List (List UInt8)→Int
 |_,[]=>0
 |i,w::ws=>if 30<w.length then 3 else if 500≤i then 7 else mB (i+1) ws
theorem Hu {i k:Nat} {ws:List (List UInt8)} {x:List UInt8} (h:ws[k]? =some x):mB i (ws.drop k)=if 30<x.length then 3 else if 500≤i then 7 else mB (i+1) (ws.drop (k+1)):=by
 have dV:=(an.1 h).1;rw[dG dV,(an.1 h).2];rfl
theorem fF {M:aD} {w:World} {x:List UInt8} {v:Value} (h:RT.str.V M w x v):v= .string ⟨x.toArray⟩:=(kI.1 h).1
theorem IQ {M:aD} {l:List UInt8} (w0:World) (hM:Lt M w0) (hl:l.length≤900000):
  Spec Tryz.prog 128 #[.string ⟨l.toArray⟩] w0 (fun v w=>(∃u,v= .tuple #[u,.int .i64 (mB 0 (words l))]∧(mB 0 (words l)=0→∃a cap,u= .slice a (words l).length cap))∧Step M w0 M w aC):=by
 have kR:=hM;refine bm (args:=[_]) (fn:=Tryz.f128) Tryz.func128 rfl (n:=30) Tryz.ntmps128 ?_;have S:Step M w0 M w0 aC:=(ax _ _).cH (fun _ h=>h.elim) (fun _ h=>h.elim);refine aj (ae (ah rfl rfl (ah rfl rfl (ab (aj (ae (ah rfl rfl (ab (aj (aj (ae ?_)))))))))));refine ad rfl rfl ?_;refine aY rfl rfl Xx (yd _ hM hl) (fun v1 w1 hc=>?_);obtain⟨hv,s1⟩:=hc;replace hM:=s1.lt hM;have:=S.size;replace S:=S.aB s1;refine bQ aS rfl hv rfl (ad rfl rfl (ab (aZ ?_)));refine dn (σ:=Nat×Value) (fun q=>[(8,v1),(4,q.2),(9,.int .i64 ((words l).length:Int)),(10,.int .i64 (q.1:Int))]) (fun q w=>(∃M' xs,Lt M' w∧Step M w0 M' w aC∧Own (RT.pair RT.str (RT.int .i64)) 266 M' w w0.heap.size q.2 xs∧xs.length=q.1∧(RT.str.sl).V M' w (words l) v1)∧mB 0 (words l)=mB q.1 ((words l).drop q.1)∧q.1≤(words l).length∧q.1≤500) (fun q=>(words l).length-q.1) (0,.slice none 0 0) (.cons rfl (.cons rfl (.cons rfl (.cons rfl .nil)))) ?_ ?_
 ·exact⟨⟨M,[],hM,S,dD _ _ _ _ _,rfl,hv⟩,rfl,bD _,bD _⟩
 ·rintro⟨i,u⟩ w ⟨⟨M1,xs,hM,S,ho,qd,hv⟩,Iw,hi,hi5⟩;dsimp only at ho qd Iw hi hi5 ⊢;refine aj (ae (cg rfl rfl rfl (ab (aj ?_))));refine bI rfl (fun c3=>?_) (fun c3=>?_)
  ·refine aT (aj (aZ (aj (ae (ad rfl rfl ?_)))));refine cF (M:=M1) aS I9 rfl rfl rfl hv (ao _ _) (by omega) (fun X0 x Hv EY=>?_);refine bR (M:=M1) aF rfl rfl rfl rfl rfl EY (ao _ _) (fun vx rq=>?_);rw[ay]at Hv;obtain rfl:=fF rq;have ht:=Hu (i:=i) Hv;refine ah rfl rfl (ah rfl rfl (ab (aj (aZ (aj (ae (ad rfl rfl (Rg.nq aF rfl rfl (aU (v':= .int .i64 (x.length:Int)) (by simp[ByteArray.size]) (iY rfl rfl rfl (ah rfl rfl ?_)))))))))));refine ab ?_;refine bI rfl (fun c5=>?_) (fun c5=>?_)
   ·refine aj (ae (ah rfl rfl (ah rfl rfl (ab (aQ ?_)))));rw[Iw,ht,if_pos (by omega)];exact fm rfl rfl rfl ⟨⟨_,rfl,fun h=>by cases h⟩,S.back⟩
   ·refine aj (ae (ad rfl rfl (qZ rfl rfl rfl (ah rfl rfl (ab ?_)))));refine bI rfl (fun c7=>?_) (fun c7=>?_)
    ·refine aj (ae (ah rfl rfl (ah rfl rfl (ab (aQ ?_)))));rw[Iw,ht,if_neg (by omega),if_pos (by omega)];exact fm rfl rfl rfl ⟨⟨_,rfl,fun h=>by cases h⟩,S.back⟩
    ·refine aT (ae (ad rfl rfl (ad rfl rfl (ad rfl rfl (iS (places:=[(0,1),(1,1)]) Tryz.underlying266 IF Xv rfl ⟨_,_,rfl,rfl,_,_,rfl,rfl,rfl⟩ (out:=[_,_]) ⟨0,[_],rfl,rfl,by simp[Value.cells],1,[_],rfl,rfl,by simp[Value.cells],rfl⟩ ?_)))));refine ep (A:=(RT.pair RT.str (RT.int .i64))) (hn:=by decide) (M:=M1) Tryz.underlying212 IF (by decide) rfl rfl hM (fe rq (fY (x:=(i:Int)) (by omega)) rfl rfl rfl rfl) (.inl rfl) (fun XM adO Lh zC=>?_);replace hv:=hv.le zC.le;replace rq:=rq.le zC.le;replace ho:=ho.aL zC;replace hM:=zC.lt hM;have:=S.size;replace S:=S.aB zC;refine dd (M:=M1) (base:=w0.heap.size) Tryz.underlying212 IF rfl rfl rfl rfl ho Lh (ao _ _) (by simp;omega) (by simp;omega) (S.size) (fun aea aeb X1 X2 qy=>?_);replace hv:=hv.le qy.le;replace rq:=rq.le qy.le;replace Lh:=Lh.le qy.le;replace hM:=qy.lt hM;have:=S.size;replace S:=S.dg qy ho (aN _);replace ho:=X2;refine ah rfl rfl (ab (ae (bC rfl rfl rfl (by omega) (ad rfl rfl (ab ?_)))));refine⟨rfl,(i+1,aea),(.cons rfl (.cons rfl (.cons rfl (.cons rfl .nil)))),?_,?_⟩
     ·exact⟨⟨aeb,_,hM,S,ho,by simp[qd],hv⟩,by rw[Iw,ht,if_neg (by omega),if_neg (by omega)],by dsimp only;omega,by dsimp only;omega⟩
     ·dsimp only;omega
  ·refine cK (aj (ae (ad rfl rfl (ah rfl rfl (ah rfl rfl (ab (aQ ?_)))))));have e:mB 0 (words l)=0:=by rw[Iw,gM (by omega)];rfl
   rw[e];obtain⟨a,cap,he,_⟩:=ho.isSlice;exact fm rfl rfl rfl ⟨⟨u,rfl,fun _=>⟨a,cap,by rw[he,qd];congr 1;omega⟩⟩,S.back⟩
theorem FD {M:aD} {l:List UInt8} (w0:World) (hM:Lt M w0) (hl:l.length≤900000):
  Spec Tryz.prog 148 #[.string ⟨l.toArray⟩] w0 (fun v w=>(∃u,v= .tuple #[u,.int .i64 (mB 0 (words l))]∧(mB 0 (words l)=0→∃a cap,u= .slice a (words l).length cap))∧Step M w0 M w aC):=by
 have kR:=hM;refine bm (args:=[_]) (fn:=Tryz.f148) Tryz.func148 rfl (n:=33) Tryz.ntmps148 ?_;have S:Step M w0 M w0 aC:=(ax _ _).cH (fun _ h=>h.elim) (fun _ h=>h.elim);refine aj (ae (ah rfl rfl (ah rfl rfl (ab (aj (ae (ad rfl rfl ?_)))))));refine aY rfl rfl adh (C4 _ hM hl) (fun v1 w1 hc=>?_);obtain⟨hv,s1⟩:=hc;replace hM:=s1.lt hM;have:=S.size;replace S:=S.aB s1;refine ah rfl rfl (ab (aj (ae (ah rfl rfl (ab (aj (aj (ae (ah rfl rfl (ab (aZ ?_)))))))))));refine dn (σ:=Nat×Value) (fun q=>[(4,v1),(5,q.2),(6,.int .i64 (q.1:Int))]) (fun q w=>(∃M' xs,Lt M' w∧Step M w0 M' w aC∧Own (RT.pair RT.str (RT.int .i64)) 266 M' w w0.heap.size q.2 xs∧xs.length=q.1∧(RT.str.sl).V M' w (words l) v1)∧mB 0 (words l)=mB q.1 ((words l).drop q.1)∧q.1≤(words l).length∧q.1≤500) (fun q=>(words l).length-q.1) (0,.slice none 0 0) (.cons rfl (.cons rfl (.cons rfl .nil))) ?_ ?_
 ·exact⟨⟨M,[],hM,S,dD _ _ _ _ _,rfl,hv⟩,rfl,bD _,bD _⟩
 ·rintro⟨i,u⟩ w ⟨⟨M1,xs,hM,S,ho,qd,hv⟩,Iw,hi,hi5⟩;dsimp only at ho qd Iw hi hi5 ⊢;refine aj (aj (ae (ad rfl rfl (ad rfl rfl (bQ aS rfl hv rfl (cg rfl rfl rfl (ab ?_)))))));refine bI rfl (fun c4=>?_) (fun c4=>?_)
  ·refine aT (aj (aZ (aj (aj (ae (ad rfl rfl (ad rfl rfl ?_)))))));refine cF (M:=M1) aS I9 rfl rfl rfl hv (ao _ _) (by omega) (fun XV x Hv EY=>?_);refine bR (M:=M1) aF rfl rfl rfl rfl rfl EY (ao _ _) (fun vx rq=>?_);rw[ay]at Hv;obtain rfl:=fF rq;have ht:=Hu (i:=i) Hv;refine Rg.nq aF rfl rfl (aU (v':= .int .i64 (x.length:Int)) (by simp[ByteArray.size]) (iY rfl rfl rfl (ab ?_)));refine bI rfl (fun c6=>?_) (fun c6=>?_)
   ·refine aj (ae (ah rfl rfl (ah rfl rfl (ab (aQ ?_)))));rw[Iw,ht,if_pos (by omega)];exact fm rfl rfl rfl ⟨⟨_,rfl,fun h=>by cases h⟩,S.back⟩
   ·refine aT (aj (aj (ae (ad rfl rfl (dY rfl rfl rfl (ab ?_))))));refine bI rfl (fun c8=>?_) (fun c8=>?_)
    ·refine aj (ae (ah rfl rfl (ah rfl rfl (ab (aQ ?_)))));rw[Iw,ht,if_neg (by omega),if_pos (by omega)];exact fm rfl rfl rfl ⟨⟨_,rfl,fun h=>by cases h⟩,S.back⟩
    ·refine aT (ae (ad rfl rfl (ad rfl rfl (ad rfl rfl ?_))));refine cF (M:=M1) aS I9 rfl rfl rfl hv (ao _ _) (by omega) (fun XX y hgy huy=>?_);refine bR (M:=M1) aF rfl rfl rfl rfl rfl huy (ao _ _) (fun vy Rl=>?_);rw[ay]at hgy;obtain rfl:=fF Rl;obtain rfl:x=y:=by rw[Hv]at hgy;exact aH hgy
     refine ad rfl rfl (iS (places:=[(0,1),(1,1)]) Tryz.underlying266 IF Xv rfl ⟨_,_,rfl,rfl,_,_,rfl,rfl,rfl⟩ (out:=[_,_]) ⟨0,[_],rfl,rfl,by simp[Value.cells],1,[_],rfl,rfl,by simp[Value.cells],rfl⟩ ?_);refine ep (A:=(RT.pair RT.str (RT.int .i64))) (hn:=by decide) (M:=M1) Tryz.underlying212 IF (by decide) rfl rfl hM (fe Rl (fY (x:=(i:Int)) (by omega)) rfl rfl rfl rfl) (.inl rfl) (fun Rj XZ FE pJ=>?_);replace hv:=hv.le pJ.le;replace rq:=rq.le pJ.le;replace Rl:=Rl.le pJ.le;replace ho:=ho.aL pJ;replace hM:=pJ.lt hM;have:=S.size;replace S:=S.aB pJ;refine dd (M:=M1) (base:=w0.heap.size) Tryz.underlying212 IF rfl rfl rfl rfl ho FE (ao _ _) (by simp;omega) (by simp;omega) (S.size) (fun X3 X4 Hw T4 gL=>?_);replace hv:=hv.le gL.le;replace rq:=rq.le gL.le;replace Rl:=Rl.le gL.le;replace FE:=FE.le gL.le;replace hM:=gL.lt hM;have:=S.size;replace S:=S.dg gL ho (aN _);replace ho:=T4;refine ah rfl rfl (ab (ae (ad rfl rfl (bC rfl rfl rfl (by omega) (ah rfl rfl (ab ?_))))));refine⟨rfl,(i+1,X3),(.cons rfl (.cons rfl (.cons rfl .nil))),?_,?_⟩
     ·exact⟨⟨X4,_,hM,S,ho,by simp[qd],hv⟩,by rw[Iw,ht,if_neg (by omega),if_neg (by omega)],by dsimp only;omega,by dsimp only;omega⟩
     ·dsimp only;omega
  ·refine cK (aj (ae (ad rfl rfl (ah rfl rfl (ah rfl rfl (ab (aQ ?_)))))));have e:mB 0 (words l)=0:=by rw[Iw,gM (by omega)];rfl
   rw[e];obtain⟨a,cap,he,_⟩:=ho.isSlice;exact fm rfl rfl rfl ⟨⟨u,rfl,fun _=>⟨a,cap,by rw[he,qd];congr 1;omega⟩⟩,S.back⟩
end Go.K
namespace Go.K
abbrev Fd:=List UInt8×List UInt8
abbrev Dc:=Int×List Fd
abbrev En:=Dc×Int
abbrev RT.fd:RT Fd:=RT.pair RT.str RT.str
abbrev RT.dc:RT Dc:=RT.pair (RT.int .i64) (RT.fd.sl)
abbrev RT.en:RT En:=RT.pair RT.dc (RT.int .i64)
theorem Pn:Part RT.fd RT.str (fun p=>p.1) 0:=mN _ _
theorem WC:Part RT.fd RT.str (fun p=>p.2) 1:=iy _ _
theorem X5:Part RT.dc (RT.int .i64) (fun p=>p.1) 0:=mN _ _
theorem IS:Part RT.dc (RT.fd.sl) (fun p=>p.2) 1:=iy _ _
theorem X6:Part RT.en RT.dc (fun p=>p.1) 0:=mN _ _
theorem en1:Part RT.en (RT.int .i64) (fun p=>p.2) 2:=iy _ _
theorem Lj {M:aD} {w:World} {p:Dc} {v:Value} (h:RT.dc.V M w p v):∃u,v= .agg #[.int .i64 p.1,u]:=by
 obtain⟨vs,⟨va,vb,rfl,⟨rfl,_⟩,hb⟩,rfl⟩:=h;have:=(RT.fd.sl (by decide)).len hb
 match vb,this with
 |[u],_=>exact⟨u,rfl⟩
theorem Rm {M:aD} {w:World} {p:Dc} {u:Value} {s:Int} (h:RT.dc.V M w p (.agg #[.int .i64 p.1,u])) (hs: -9223372036854775808≤s∧s≤9223372036854775807):RT.en.V M w (p,s) (.agg [.int .i64 p.1,u,.int .i64 s].toArray):=by
 obtain⟨vs,h1,h2⟩:=h
 have h3:vs=[.int .i64 p.1,u]:=by
  have:Value.agg #[.int .i64 p.1,u]= .agg vs.toArray:=h2;injection this with this
  simpa using(congrArg Array.toList this).symm
 subst h3;exact⟨_,⟨[.int .i64 p.1,u],[.int .i64 s],rfl,h1,rfl,hs.1,hs.2⟩,rfl⟩
theorem Own.Rn {α:Type} (A:RT α) (e:TypeId) (base:Nat) {M:aD} {w:World} (h:Lt M w):Own A e M w base (.slice none 0 0) []:=dD _ _ _ _ _
section
variable {P:Program} {r:Option Nat} {n:Nat} {L:Sl} {ds:List Deferred} {w:World} {K:Kt} {ops:Array Oper} {rest:List Oper} {d:Nat} {x:Operand} {ty:TypeId} {pos:String} {af:Array Edge}
theorem Rg.n0 {α:Type} {A:RT α} {e:TypeId} {v:Value} {a:α} {M:aD} (hx:ev L x=some v) (hd:Nat.blt d n=true) (hM:Lt M w) (hv:A.V M w a v) (hg:A.agg=true)
  (k:∀u w',cQ A M w' u a→Step M w M w' aC→w.heap.size≤w'.heap.size→Rg P r n ops rest ((d,u)::L) ds w' K):
  Rg P r n ops ({dst:=some d,op:= .box e x,type:=ty,pos,after:=af,guard:=none}::rest) L ds w K:=by
 refine wM M hx hd (fun b w' h1 h2 hb s=>?_);obtain⟨vs,h3,h4⟩:=hv;have hc:v.cells=vs.toArray:=by subst h4;simp[RT.val,hg,Value.cells]
 rw[hc]at hb;refine k _ w' ⟨b,0,vs,rfl,fun hm=>?_,A.le s.back.le h3,fun j u hj=>?_⟩ s.back s.size
 ·have:=hM b hm;omega
 ·rw[fR];exact fM hb (by simpa using hj)
end
end Go.K
namespace Go.Proofs
open Go.Shelf
def Tryz.C7:Go.Shelf.Ren:=⟨fun|160=>184|232=>231|231=>230|227=>232|234=>234|233=>233|236=>236|235=>235|228=>268|271=>271|151=>270|197=>269|120=>293|152=>292|260=>291|137=>300|119=>290|224=>301|225=>302|217=>304|266=>305|n=>n,fun|9=>9|4=>4|3=>3|5=>5|117=>310|116=>309|0=>0|124=>313|21=>21|105=>344|46=>189|119=>365|139=>368|138=>367|n=>n,fun|3=>2|4=>3|n=>n⟩
theorem Tryz.Pp:Go.Proofs.Lays.n160 Tryz.prog Tryz.C7:={
 mixed:=by kernel_rfl
 f119:=Tryz.func290.trans (congrArg some (by kernel_rfl))
 f120:=Tryz.func293.trans (congrArg some (by kernel_rfl))
 f137:=Tryz.func300.trans (congrArg some (by kernel_rfl))
 f151:=Tryz.func270.trans (congrArg some (by kernel_rfl))
 f152:=Tryz.func292.trans (congrArg some (by kernel_rfl))
 f160:=Tryz.func184.trans (congrArg some (by kernel_rfl))
 f197:=Tryz.func269.trans (congrArg some (by kernel_rfl))
 f217:=Tryz.func304.trans (congrArg some (by kernel_rfl))
 f224:=Tryz.func301.trans (congrArg some (by kernel_rfl))
 f225:=Tryz.func302.trans (congrArg some (by kernel_rfl))
 f227:=Tryz.func232.trans (congrArg some (by kernel_rfl))
 f228:=Tryz.func268.trans (congrArg some (by kernel_rfl))
 f231:=Tryz.func230.trans (congrArg some (by kernel_rfl))
 f232:=Tryz.func231.trans (congrArg some (by kernel_rfl))
 f233:=Tryz.func233.trans (congrArg some (by kernel_rfl))
 f234:=Tryz.func234.trans (congrArg some (by kernel_rfl))
 f235:=Tryz.func235.trans (congrArg some (by kernel_rfl))
 f236:=Tryz.func236.trans (congrArg some (by kernel_rfl))
 f260:=Tryz.func291.trans (congrArg some (by kernel_rfl))
 f266:=Tryz.func305.trans (congrArg some (by kernel_rfl))
 f271:=Tryz.func271.trans (congrArg some (by kernel_rfl))
 t0:=fJ
 a0:=lH
 z0:=ka
 v0:=gF
 t3:=aw
 a3:=lI
 z3:=kb
 v3:=gG
 t4:=iL
 a4:=rB
 z4:=nN
 v4:=jx
 t5:=cz
 a5:=Tryz.isAgg5
 z5:=Tryz.sizeOf5
 v5:=tj
 t9:=aF
 a9:=lJ
 z9:=kd
 v9:=gH
 t21:=Tryz.underlying21
 a21:=Tryz.isAgg21
 z21:=Tryz.sizeOf21
 v21:=Tryz.zeroValue21
 t46:=jO
 a46:=Tryz.isAgg189
 z46:=Tryz.sizeOf189
 v46:=Tryz.zeroValue189
 t105:=Tryz.underlying344
 a105:=Tryz.isAgg344
 z105:=Tryz.sizeOf344
 v105:=Tryz.zeroValue344
 t116:=Tryz.underlying309
 a116:=Tryz.isAgg309
 z116:=Tryz.sizeOf309
 t117:=Tryz.underlying310
 a117:=Tryz.isAgg310
 z117:=Tryz.sizeOf310
 v117:=Tryz.zeroValue310
 t119:=Tryz.underlying365
 a119:=Tryz.isAgg365
 z119:=Tryz.sizeOf365
 t124:=Tryz.underlying313
 a124:=Tryz.isAgg313
 z124:=Tryz.sizeOf313
 v124:=Tryz.zeroValue313
 t138:=Tryz.underlying367
 a138:=Tryz.isAgg367
 z138:=Tryz.sizeOf367
 v138:=Tryz.zeroValue367
 t139:=Tryz.underlying368
 a139:=Tryz.isAgg368
 z139:=Tryz.sizeOf368
 v139:=Tryz.zeroValue368
 g3:=by kernel_rfl
 g4:=by kernel_rfl}
end Go.Proofs
namespace Go.K
open Go.Proofs
set_option maxRecDepth 10000
open Go.RowKit Go.Shelf
def lS:List UInt8:=[97,98,99,100,101,102,103,104,105,106,107,108,109,110,111,112,113,114,115,116,117,118,119,120,121,122]
def iw (b:UInt8):Bool:=decide (97≤b.toNat∧b.toNat≤122)
def gj (s:List UInt8):Bool:=decide (1≤s.length∧s.length≤12)&&s.all iw
theorem C8 (b:UInt8):lS.contains b=iw b:=by
 have key:∀n:Fin 256,lS.contains (UInt8.ofNat n)=iw (UInt8.ofNat n):=by decide
 have:=key ⟨b.toNat,UInt8.toNat_lt b⟩;simpa using this
theorem drop_nil {α:Type} (p:α→Bool):∀l:List α,l.dropWhile p=[]↔∀x∈l,p x=true
 |[]=>by simp
 |x::l=>by
  rw[List.dropWhile_cons];by_cases h:p x=true
  ·rw[if_pos h,drop_nil p l];simp[h]
  ·rw[if_neg h];simp[h]
theorem yi (s:List UInt8):Lib.trimS s lS=[]↔s.all iw=true:=by
 have e:(fun b=>lS.contains b)=iw:=funext C8;unfold Lib.trimS Lib.trimLeftS Lib.trimRightS;rw[e,drop_nil,fy];constructor
 ·intro h
  have h2:s.reverse.dropWhile iw=[]:=by
   cases hd:s.reverse.dropWhile iw with
   |nil=>rfl
   |cons x r=>
    have h3:=h x (by rw[hd];simp);have h4:=List.head?_dropWhile_not iw s.reverse;rw[hd]at h4;simp[h3]at h4
  intro x hx;exact(drop_nil _ _).1 h2 x (List.mem_reverse.2 hx)
 ·intro h x hx;rw[(drop_nil iw s.reverse).2 (fun y hy=>h y (List.mem_reverse.1 hy))]at hx
  cases hx
theorem IT (s:List UInt8) (hs:s.length≤140737488355328) (w:World):Spec Tryz.prog 184 #[.string ⟨s.toArray⟩,.string ⟨lS.toArray⟩] w (fun v w'=>v= .string ⟨(Lib.trimS s lS).toArray⟩∧∀M,Step M w M w' aC):=
 (Any.strings_Trim_ascii Tryz.Pp Tryz.zeroValue309 (by kernel_rfl) ⟨s.toArray⟩ ⟨lS.toArray⟩ w (by simp[ByteArray.size];omega) (by decide) (fun j b hj=>by
  have hm:b∈lS:=az hj;have:=C8 b;rw[jH.2 hm]at this;have h2:97≤b.toNat∧b.toNat≤122:=by simpa[iw]using this.symm
  omega)).mono fun e w' ⟨h1,h2⟩=>⟨_,h1,rfl,fun M=> .xV h2 M⟩
theorem IU (s:List UInt8) (hs:s.length≤140737488355328) (w0:World):
  Spec Tryz.prog 129 #[.string ⟨s.toArray⟩] w0 (fun v w=>v= .bool (gj s)∧∀M,Step M w0 M w aC):=by
 refine bm (args:=[_]) (fn:=Tryz.f129) Tryz.func129 rfl (n:=15) Tryz.ntmps129 (aj (ae (ah rfl rfl (ab (aj (ae (ad rfl rfl (Rg.WZ (p:=s) (q:=[]) rfl rfl rfl (ad rfl rfl ?_)))))))));refine aR (g:=5) rfl (fun iH=>?_) (fun iH=>?_)
 ·refine al rfl rfl (ad rfl rfl (al rfl rfl (Rg.nq aF rfl rfl (aU (v':= .int .i64 (s.length:Int)) (by simp[ByteArray.size]) (al rfl rfl (gJ rfl rfl rfl (a8 rfl rfl rfl (ad rfl rfl ?_))))))));refine aR (g:=10) rfl (fun aed=>?_) (fun aed=>?_)
  ·refine al rfl rfl (ad rfl rfl (al rfl rfl ?_));refine aY rfl rfl ac6 (IT s hs _) (fun r w9 hc=>?_);obtain⟨rfl,s9⟩:=hc;refine al rfl rfl (Rg.Hc (p:=Lib.trimS s lS) (q:=[]) rfl rfl rfl (a8 rfl rfl rfl (ah rfl rfl (ab (aQ ?_)))))
   first
   |exact aV rfl rfl ⟨by rw[gj,decide_eq_true (p:=1≤s.length∧s.length≤12) ⟨oG.2 iH,by omega⟩,fc];exact congrArg Value.bool (by rw[lM,decide_eq_true_eq];exact yi s),s9⟩
   |exact aV rfl rfl ⟨by rw[gj,decide_eq_false (p:=1≤s.length∧s.length≤12) (by omega),kM],fun M=>ax _ _⟩
   |(have T5:s=[]:=Classical.not_not.1 iH
     subst T5;exact aV rfl rfl ⟨rfl,fun M=>ax _ _⟩)
  ·refine au rfl rfl rfl rfl (au rfl rfl rfl rfl (au rfl rfl rfl rfl (aE rfl rfl rfl (ah rfl rfl (ab (aQ ?_))))))
   first
   |exact aV rfl rfl ⟨by rw[gj,decide_eq_true (p:=1≤s.length∧s.length≤12) ⟨oG.2 iH,by omega⟩,fc];exact congrArg Value.bool (by rw[lM,decide_eq_true_eq];exact yi s),s9⟩
   |exact aV rfl rfl ⟨by rw[gj,decide_eq_false (p:=1≤s.length∧s.length≤12) (by omega),kM],fun M=>ax _ _⟩
   |(have T5:s=[]:=Classical.not_not.1 iH
     subst T5;exact aV rfl rfl ⟨rfl,fun M=>ax _ _⟩)
 ·refine au rfl rfl rfl rfl (au rfl rfl rfl rfl (au rfl rfl rfl rfl (aE rfl rfl rfl (ad rfl rfl (au rfl rfl rfl rfl (au rfl rfl rfl rfl (au rfl rfl rfl rfl (aE rfl rfl rfl (ah rfl rfl (ab (aQ ?_)))))))))))
  first
  |exact aV rfl rfl ⟨by rw[gj,decide_eq_true (p:=1≤s.length∧s.length≤12) ⟨oG.2 iH,by omega⟩,fc];exact congrArg Value.bool (by rw[lM,decide_eq_true_eq];exact yi s),s9⟩
  |exact aV rfl rfl ⟨by rw[gj,decide_eq_false (p:=1≤s.length∧s.length≤12) (by omega),kM],fun M=>ax _ _⟩
  |(have T5:s=[]:=Classical.not_not.1 iH
    subst T5;exact aV rfl rfl ⟨rfl,fun M=>ax _ _⟩)
theorem Lk {s:List UInt8} (h:∀(k:Nat) c,s[k]? =some c→iw c=true):s.all iw=true:=fy.2 fun c hc=>by
 obtain⟨k,hk⟩:=bB.1 hc;exact h k c hk
theorem tJ {s:List UInt8} {i:Nat} (h:i<s.length):s[i]? =some (s.getD i 0):=by rw[aA,ar h];rfl
theorem nw {M:aD} {w:World} {p:Fd} {v:Value} (h:RT.fd.V M w p v):v= .agg #[.string ⟨p.1.toArray⟩,.string ⟨p.2.toArray⟩]:=by
 obtain⟨vs,⟨va,vb,rfl,⟨rfl,_⟩,⟨rfl,_⟩⟩,rfl⟩:=h;rfl
theorem Ll {M:aD} {w:World} {p:Fd} {v:Value} (h:RT.fd.V M w p v):p.1.length≤140737488355328∧p.2.length≤140737488355328:=by
 obtain⟨vs,⟨va,vb,rfl,⟨rfl,h1⟩,⟨rfl,h2⟩⟩,_⟩:=h;exact⟨h1,h2⟩
def zE:List Fd→List Fd→Nat→Int
 |_,[],n=>if 500<n then 7 else 0
 |seen,f::fs,n=>if gj f.1=false then 4 else if(seen.any fun g=>decide (g.1=f.1))=true then 5 else if mB 0 (words f.2)≠0 then mB 0 (words f.2)else zE (seen++[f]) fs (n+(words f.2).length)
def lT (d:Dc):Int:=if 8<d.2.length then 7 else zE [] d.2 0
theorem Hx {fs:List Fd} {i n:Nat} {x:Fd} (h:fs[i]? =some x):zE (fs.take i) (fs.drop i) n=if gj x.1=false then 4 else if((fs.take i).any fun g=>decide (g.1=x.1))=true then 5 else if mB 0 (words x.2)≠0 then mB 0 (words x.2)else zE (fs.take (i+1)) (fs.drop (i+1)) (n+(words x.2).length):=by
 have dV:=(an.1 h).1;rw[dG dV,(an.1 h).2,bV,h];rfl
theorem tK {fs:List Fd} {i n:Nat} (h:fs.length≤i):zE (fs.take i) (fs.drop i) n=if 500<n then 7 else 0:=by
 rw[gM h];rfl
theorem yj (s:List UInt8) (hs:s.length≤140737488355328) (w0:World):
  Spec Tryz.prog 93 #[.string ⟨s.toArray⟩] w0 (fun v w=>v= .bool (gj s)∧w=w0):=by
 refine bm (args:=[_]) (fn:=Tryz.f93) Tryz.func93 rfl (n:=28) Tryz.ntmps93 (aj (ae (ah rfl rfl (ab (aj (aj (ae (ah rfl rfl (ab (aZ ?_))))))))));refine dn (σ:=Nat) (fun i=>[(0,.string ⟨s.toArray⟩),(3,.int .i64 (i:Int))]) (fun i w=>w=w0∧i≤s.length∧∀k c,k<i→s[k]? =some c→iw c=true) (fun i=>s.length-i) 0 (.cons rfl (.cons rfl .nil)) ?_ ?_
 ·exact⟨rfl,bD _,fun k c h=>absurd h (Nat.not_lt_zero k)⟩
 ·rintro i w ⟨rfl,hi,hok⟩;refine aj (aj (ae (ad rfl rfl (ad rfl rfl (Rg.nq aF rfl rfl (aU (v':= .int .i64 (s.length:Int)) (by simp[ByteArray.size]) (cg rfl rfl rfl (ab ?_))))))));refine bI rfl (fun c2=>?_) (fun c2=>?_)
  ·refine aT (aj (aZ (aj (ae (ad rfl rfl (ad rfl rfl (Rg.Ho (c:=s.getD i 0) aF rfl rfl rfl (by omega) (by rw[ay];exact tJ (by omega)) (cg rfl rfl rfl (ad rfl rfl ?_)))))))));refine aR (g:=14) rfl (fun aee=>?_) (fun aee=>?_)
   ·refine au rfl rfl rfl rfl (au rfl rfl rfl rfl (au rfl rfl rfl rfl (au rfl rfl rfl rfl (a8 rfl rfl rfl (ab (nG rfl (aj (ae (ah rfl rfl (ab (aQ ?_)))))))))))
    have hx:s.all iw=false:=dr.2 fun h=>by
     have h2:=fy.1 h _ (az (tJ (s:=s) (i:=i) (by omega)));simp only[iw,decide_eq_true_eq]at h2;omega
    exact aV rfl rfl ⟨by rw[gj,hx,Bool.and_false],rfl⟩
   ·refine al rfl rfl (ad rfl rfl (al rfl rfl (ad rfl rfl (al rfl rfl (Rg.Ho (c:=s.getD i 0) aF rfl rfl rfl (by omega) (by rw[ay];exact tJ (by omega)) (al rfl rfl (iY rfl rfl rfl (aE rfl rfl rfl (ab ?_)))))))));refine bI rfl (fun c4=>?_) (fun c4=>?_)
    ·refine aj (ae (ah rfl rfl (ab (aQ ?_))))
     have hx:s.all iw=false:=dr.2 fun h=>by
      have h2:=fy.1 h _ (az (tJ (s:=s) (i:=i) (by omega)));simp only[iw,decide_eq_true_eq]at h2;omega
     exact aV rfl rfl ⟨by rw[gj,hx,Bool.and_false],rfl⟩
    ·refine aT (ae (ad rfl rfl (bC rfl rfl rfl (by omega) (ah rfl rfl (ab ?_)))));refine⟨rfl,i+1,(.cons rfl (.cons rfl .nil)),?_,?_⟩
     ·exact⟨rfl,by omega,fun k c h hc=>by
       rcases cG k i with h2|h2
       ·exact hok k c h2 hc
       ·obtain rfl:k=i:=by omega
        rw[tJ (by omega)]at hc;cases hc;simp only[iw,decide_eq_true_eq];omega⟩
     ·omega
  ·refine cK (aj (ae (ad rfl rfl (Rg.nq aF rfl rfl (aU (v':= .int .i64 (s.length:Int)) (by simp[ByteArray.size]) (dY rfl rfl rfl (ad rfl rfl ?_)))))));refine aR (g:=23) rfl (fun oa=>?_) (fun oa=>?_)
   ·refine al rfl rfl (ad rfl rfl (al rfl rfl (Rg.nq aF rfl rfl (aU (v':= .int .i64 (s.length:Int)) (by simp[ByteArray.size]) (al rfl rfl (gJ rfl rfl rfl (a8 rfl rfl rfl (ah rfl rfl (ab (aQ ?_))))))))));have ha:s.all iw=true:=Lk fun k c hc=>hok k c (by have:=(an.1 hc).1;omega) hc
    first
    |exact aV rfl rfl ⟨by rw[gj,ha,Bool.and_true];exact congrArg Value.bool (decide_eq_decide.2 (by omega)),rfl⟩
    |exact aV rfl rfl ⟨by rw[gj,ha,Bool.and_true];exact congrArg Value.bool (decide_eq_false (by omega)).symm,rfl⟩
   ·refine au rfl rfl rfl rfl (au rfl rfl rfl rfl (au rfl rfl rfl rfl (aE rfl rfl rfl (ah rfl rfl (ab (aQ ?_))))));have ha:s.all iw=true:=Lk fun k c hc=>hok k c (by have:=(an.1 hc).1;omega) hc
    first
    |exact aV rfl rfl ⟨by rw[gj,ha,Bool.and_true];exact congrArg Value.bool (decide_eq_decide.2 (by omega)),rfl⟩
    |exact aV rfl rfl ⟨by rw[gj,ha,Bool.and_true];exact congrArg Value.bool (decide_eq_false (by omega)).symm,rfl⟩
theorem IV {M:aD} {o:Fd} {v0:Value} (w0:World) (hM:Lt M w0) (hv:RT.fd.V M w0 o v0) {nm:List UInt8} {t:Value} {bf:Nat} (g:w0.heap[bf]? =some (.cells #[.string ⟨nm.toArray⟩,t] 166 (0,0))) (Av:M bf):
  Spec Tryz.prog 131 #[v0,.pointer (some ⟨bf,0,none⟩)] w0 (fun v w=>v= .bool (decide (o.1=nm))∧Step M w0 M w aC):=by
 refine bm (args:=[_,_]) (fn:=Tryz.f131) Tryz.func131 rfl (n:=9) Tryz.ntmps131 ?_;have S:Step M w0 M w0 aC:=(ax _ _).cH (fun _ h=>h.elim) (fun _ h=>h.elim);refine aj (ae ?_);refine Rg.n0 (A:=RT.fd) rfl rfl hM hv rfl (fun u0 w1 dw s0 _=>?_);have:=ak g;replace Av:=(s0.mem _ this).2 Av;replace g:=s0.aM g;replace hM:=s0.lt hM;have:=S.size;replace S:=S.aB s0;refine ah rfl rfl (ab (aj (ae ?_)));refine aK (M:=M) (A:=RT.fd) (B:=RT.str) cx rfl rfl I9 (by decide) (Pn) rfl rfl (by decide) (by assumption) (by repeat (first|exact ao _ _|refine aX (bu (by assumption)) ?_)) (fun zF lK=>?_);refine bR (M:=M) aF rfl rfl rfl rfl rfl lK (ao _ _) (fun v1 zo=>?_);obtain rfl:=fF zo;refine bK (o':=0) cx rfl rfl I9 (by decide) rfl rfl (aP aF rfl rfl rfl (by assumption) rfl (Rg.Hc (p:=o.1) (q:=nm) rfl rfl rfl (ah rfl rfl (ab (aQ ?_)))));exact aV rfl rfl ⟨rfl,S⟩
theorem FF {M:aD} {fs:List Fd} {v0:Value} (w0:World) (hM:Lt M w0) (hv:(RT.fd.sl).V M w0 fs v0) {nm:List UInt8} {t:Value} {bf:Nat} (g:w0.heap[bf]? =some (.cells #[.string ⟨nm.toArray⟩,t] 166 (0,0))) (Av:M bf):
  Spec Tryz.prog 185 #[v0,.func (.func 131) #[] #[.pointer (some ⟨bf,0,none⟩)]] w0 (fun v w=>(∃k:Int,v= .int .i64 k∧(0≤k↔(fs.any fun g=>decide (g.1=nm))=true)∧ -1≤k∧k≤9223372036854775807)∧Step M w0 M w aC):=by
 have ES:=ej hv;refine bm (args:=[_,_]) (fn:=Tryz.f185) Tryz.func185 rfl (n:=19) Tryz.ntmps185 ?_;have S:Step M w0 M w0 aC:=(ax _ _).cH (fun _ h=>h.elim) (fun _ h=>h.elim);refine aj (ae (ah rfl rfl (ab (aj (aj (ae (ad rfl rfl (bQ bz rfl hv rfl (ad rfl rfl (ab (aZ ?_)))))))))));refine dn (σ:=Nat) (fun i=>[(0,v0),(1,.func (.func 131) #[] #[.pointer (some ⟨bf,0,none⟩)]),(6,v0),(7,.int .i64 (fs.length:Int)),(8,.int .i64 (i:Int))]) (fun i w=>Lt M w∧Step M w0 M w aC∧(w.heap[bf]? =some (.cells #[.string ⟨nm.toArray⟩,t] 166 (0,0)))∧(RT.fd.sl).V M w fs v0∧i≤fs.length∧∀k o,k<i→fs[k]? =some o→o.1≠nm) (fun i=>fs.length-i) 0 (.cons rfl (.cons rfl (.cons rfl (.cons rfl (.cons rfl .nil))))) ?_ ?_
 ·exact⟨hM,S,g,hv,bD _,fun k c h=>absurd h (Nat.not_lt_zero k)⟩
 ·rintro i w ⟨hM,S,g,hv,hi,hok⟩;refine aj (ae (cg rfl rfl rfl (ab (aj ?_))));refine bI rfl (fun c2=>?_) (fun c2=>?_)
  ·refine aT (aj (aZ (aj (ae (ad rfl rfl (ah rfl rfl (ab (aj (ae (ad rfl rfl (ad rfl rfl ?_)))))))))));refine ad rfl rfl ?_;refine cF (M:=M) bz kG rfl rfl rfl hv (ao _ _) (by omega) (fun u4 o we EW=>?_);refine cN (M:=M) (A:=RT.fd) cx rfl kG (by decide) rfl rfl rfl EW (ao _ _) (fun v4 qR=>?_);rw[ay]at we;refine zr (first:=[]) (captured:=[.pointer (some ⟨bf,0,none⟩)]) rfl rfl rfl ac0 (IV _ hM qR g Av) (fun r5 w5 hc=>?_);obtain⟨rfl,s5⟩:=hc;have:=ak g;replace Av:=(s5.mem _ this).2 Av;replace g:=s5.aM g;replace hv:=hv.le s5.le;replace hM:=s5.lt hM;have:=S.size;replace S:=S.aB s5;refine ab ?_;refine bI rfl (fun c4=>?_) (fun c4=>?_)
   ·refine aj (ae (ad rfl rfl (ah rfl rfl (ab (aQ ?_)))));exact aV rfl rfl ⟨⟨_,rfl,⟨fun _=>uF.2 ⟨o,az we,by simpa using(by assumption)⟩,fun _=>by omega⟩,by omega,by omega⟩,S.back⟩
   ·refine aT (ae (bC rfl rfl rfl (by omega) (ad rfl rfl (ab ?_))));refine⟨rfl,i+1,(.cons rfl (.cons rfl (.cons rfl (.cons rfl (.cons rfl .nil))))),?_,?_⟩
    ·exact⟨hM,S,g,hv,by omega,fun k o' h hc=>by
      rcases cG k i with h2|h2
      ·exact hok k o' h2 hc
      ·obtain rfl:k=i:=by omega
       rw[we]at hc;cases hc;assumption⟩
    ·omega
  ·refine cK (aj (ae (ah rfl rfl (ab (aQ ?_)))))
   exact aV rfl rfl ⟨⟨-1,rfl,⟨fun h=>by omega,fun h=>by
    obtain⟨o,ho,he⟩:=uF.1 h;obtain⟨k,hk⟩:=bB.1 ho;exact absurd (by simpa using he) (hok k o (by have:=(an.1 hk).1;omega) hk)⟩,by omega,by omega⟩,S.back⟩
theorem C9 {M:aD} {fs:List Fd} {v0:Value} (w0:World) (hM:Lt M w0) (hv:(RT.fd.sl).V M w0 fs v0) {nm:List UInt8} {t:Value} {bf:Nat} (g:w0.heap[bf]? =some (.cells #[.string ⟨nm.toArray⟩,t] 166 (0,0))) (Av:M bf):
  Spec Tryz.prog 130 #[v0,.func (.func 131) #[] #[.pointer (some ⟨bf,0,none⟩)]] w0 (fun v w=>v= .bool (fs.any fun g=>decide (g.1=nm))∧Step M w0 M w aC):=by
 refine bm (args:=[_,_]) (fn:=Tryz.f130) Tryz.func130 rfl (n:=9) Tryz.ntmps130 ?_;have S:Step M w0 M w0 aC:=(ax _ _).cH (fun _ h=>h.elim) (fun _ h=>h.elim);refine aj (ae (ah rfl rfl (ab (aj (ae (ad rfl rfl (ad rfl rfl ?_)))))));refine aY rfl rfl ac7 (FF _ hM hv g Av) (fun r1 w1 hc=>?_);obtain⟨⟨k,rfl,hk,_⟩,s1⟩:=hc;have:=ak g;replace Av:=(s1.mem _ this).2 Av;replace g:=s1.aM g;replace hv:=hv.le s1.le;replace hM:=s1.lt hM;have:=S.size;replace S:=S.aB s1;refine dY rfl rfl rfl (ah rfl rfl (ab (aQ ?_)));exact aV rfl rfl ⟨congrArg Value.bool (by rw[lM,decide_eq_true_eq];exact hk),S⟩
theorem Ln {M:aD} {d:Dc} {v0:Value} (w0:World) (hM:Lt M w0) (hv:RT.dc.V M w0 d v0) (hl:∀f∈d.2,f.1.length≤900000∧f.2.length≤900000):
  Spec Tryz.prog 86 #[v0] w0 (fun v w=>v= .int .i64 (lT d)∧Step M w0 M w aC):=by
 have kR:=hM;refine bm (args:=[_]) (fn:=Tryz.f86) Tryz.func86 rfl (n:=49) Tryz.ntmps86 ?_;have S:Step M w0 M w0 aC:=(ax _ _).cH (fun _ h=>h.elim) (fun _ h=>h.elim);refine aj (ae ?_);refine Rg.n0 (A:=RT.dc) rfl rfl hM hv rfl (fun u0 w1 dw s0 _=>?_);replace hM:=s0.lt hM;have:=S.size;replace S:=S.aB s0;refine ah rfl rfl (ab (aj (aj (ae ?_))));refine aK (M:=M) (A:=RT.dc) (B:=(RT.fd).sl) bj rfl rfl uV (by decide) (IS) rfl rfl (by decide) (by assumption) (by repeat (first|exact ao _ _|refine aX (bu (by assumption)) ?_)) (fun zF lK=>?_);refine bR (M:=M) bz rfl rfl rfl rfl rfl (by assumption) (by repeat (first|exact ao _ _|refine aX (bu (by assumption)) ?_)) (fun zG mZ=>?_);refine bQ bz rfl mZ rfl (iY rfl rfl rfl (ab ?_));refine bI rfl (fun c1=>?_) (fun c1=>?_)
 ·refine aj (ae (ah rfl rfl (ab (aQ ?_))));exact aV rfl rfl ⟨by rw[lT,if_pos (by omega)],S.back⟩
 ·refine aT (aj (ae (ah rfl rfl (ab (aj (aj (ae ?_)))))));refine aK (M:=M) (A:=RT.dc) (B:=(RT.fd).sl) bj rfl rfl uV (by decide) (IS) rfl rfl (by decide) (by assumption) (by repeat (first|exact ao _ _|refine aX (bu (by assumption)) ?_)) (fun Pq Da=>?_);refine bR (M:=M) bz rfl rfl rfl rfl rfl (by assumption) (by repeat (first|exact ao _ _|refine aX (bu (by assumption)) ?_)) (fun Pr Hy=>?_);refine bQ bz rfl Hy rfl (ad rfl rfl (ab (aZ ?_)));refine dn (σ:=Nat×Nat) (fun q=>[(1,u0),(3,.int .i64 (q.2:Int)),(13,Pr),(14,.int .i64 (d.2.length:Int)),(15,.int .i64 (q.1:Int))]) (fun q w=>∃M',Lt M' w∧Step M w0 M' w aC∧cQ RT.dc M' w u0 d∧(RT.fd.sl).V M' w d.2 Pr∧lT d=zE (d.2.take q.1) (d.2.drop q.1) q.2∧q.1≤d.2.length∧q.2≤900001*q.1) (fun q=>d.2.length-q.1) (0,0) (.cons rfl (.cons rfl (.cons rfl (.cons rfl (.cons rfl .nil))))) ?_ ?_
  ·exact⟨M,hM,S,dw,Hy,by rw[lT,if_neg (by omega)];rfl,bD _,aN _⟩
  ·rintro⟨i,n⟩ w ⟨M1,hM,S,dw,jS,FG,hi,hn⟩;dsimp only at FG hi hn ⊢;refine aj (ae (cg rfl rfl rfl (ab (aj ?_))));refine bI rfl (fun c5=>?_) (fun c5=>?_)
   ·refine aT (aj (aZ (aj (ae (ad rfl rfl ?_)))));refine cF (M:=M1) bz kG rfl rfl rfl jS (ao _ _) (by omega) (fun u6 x JV IN=>?_);refine cN (M:=M1) (A:=RT.fd) cx rfl kG (by decide) rfl rfl rfl IN (ao _ _) (fun v6 sN=>?_);rw[ay]at JV;obtain rfl:=nw sN;have kF:=Hx (n:=n) JV;have qd:=hl _ (az JV);refine eE M1 kG rfl (fun T6 aef anZ an0 oa Lo=>?_);obtain⟨Db,Lq⟩:∃M',M'=ins M1 T6:=⟨_,rfl⟩;rw[←Lq]at Lo;have mC:Db T6:=by rw[Lq];exact .inl rfl
    change aef.heap[T6]? =some (.cells #[.string ⟨#[]⟩,.string ⟨#[]⟩] _ _)at oa;replace dw:=dw.le (by decide) Lo.le;replace jS:=jS.le Lo.le;replace hM:=Lo.lt hM;have:=S.size;replace S:=S.aB Lo;refine ah rfl rfl ?_;refine eG (M:=Db) (vs:=[.string ⟨x.1.toArray⟩,.string ⟨x.2.toArray⟩]) kG rfl rfl (by intro u hu;simp at hu;rcases hu with rfl|rfl<;>rfl) rfl rfl oa mC (fun w6 g6 s6=>?_);have:=ak oa;replace mC:=(s6.mem _ this).2 mC;replace dw:=dw.le (by decide) s6.le;replace jS:=jS.le s6.le;replace hM:=s6.lt hM;have:=S.size;replace S:=S.trans s6 (fun k hk h=>by have h:_=_:=h;subst h;first|(exfalso;omega)|(show _≤_;omega)|exact⟨by first|omega|assumption,(S.mem _ hk).1 ((s6.mem _ (ak oa)).1 mC)⟩|exact .inl rfl|exact .inr rfl|exact .inr (.inl rfl)|exact .inr (.inr rfl)|exact .inr (.inr (.inl rfl))|exact rfl);have Ro:=g6;clear oa;have oa:=Ro;clear Ro;refine ab (aj (ae (bK (o':=1) cx rfl rfl I9 (by decide) rfl rfl (aP aF rfl rfl rfl (by assumption) rfl ?_))));refine aY rfl rfl acX (IQ _ hM qd.2) (fun r7 w7 hc=>?_);obtain⟨⟨u7,rfl,hu7⟩,s7⟩:=hc;have:=ak oa;replace mC:=(s7.mem _ this).2 mC;replace oa:=s7.aM oa;replace dw:=dw.le (by decide) s7.le;replace jS:=jS.le s7.le;replace hM:=s7.lt hM;have:=S.size;replace S:=S.aB s7;refine ad rfl rfl (bZ rfl rfl rfl (bZ rfl rfl rfl (ah rfl rfl (ah rfl rfl (ab (aj (aZ (aj (ae (bK (o':=0) cx rfl rfl I9 (by decide) rfl rfl (aP aF rfl rfl rfl (by assumption) rfl ?_)))))))))));refine aY rfl rfl acY (IU x.1 (by omega) _) (fun r8 w8 hc=>?_);obtain⟨rfl,s8_⟩:=hc;have s8:=s8_ Db;have:=ak oa;replace mC:=(s8.mem _ this).2 mC;replace oa:=s8.aM oa;replace dw:=dw.le (by decide) s8.le;replace jS:=jS.le s8.le;replace hM:=s8.lt hM
    have:=S.size;replace S:=S.aB s8;refine mO rfl rfl (aU (v':= .bool (decide (gj x.1=false))) (by cases gj x.1<;>rfl) (ah rfl rfl (ab ?_)));refine bI rfl (fun c8=>?_) (fun c8=>?_)
    ·refine aj (ae (ah rfl rfl (ab (aQ ?_))));exact aV rfl rfl ⟨by rw[FG,kF,if_pos (by assumption)],S.back⟩
    ·refine aj (ae ?_);refine aK (M:=Db) (A:=RT.dc) (B:=(RT.fd).sl) bj rfl rfl uV (by decide) (IS) rfl rfl (by decide) (by assumption) (by repeat (first|exact ao _ _|refine aX (bu (by assumption)) ?_)) (fun X7 T7=>?_);refine bR (M:=Db) bz rfl rfl rfl rfl rfl (by assumption) (by repeat (first|exact ao _ _|refine aX (bu (by assumption)) ?_)) (fun X8 Lr=>?_);refine ad rfl rfl ?_;refine Rg.OQ bz kG rfl rfl rfl Lr (by omega) (fun u10 X9=>?_);rw[ay]at X9;refine kg (xs:=[]) (ys:=[.tmp 5]) rfl rfl rfl ?_;refine aY rfl rfl acZ (C9 _ hM X9 oa mC) (fun r10 w10 hc=>?_);obtain⟨rfl,Co⟩:=hc;have:=ak oa;replace mC:=(Co.mem _ this).2 mC;replace oa:=Co.aM oa;replace dw:=dw.le (by decide) Co.le;replace jS:=jS.le Co.le;replace hM:=Co.lt hM;have:=S.size;replace S:=S.aB Co;refine ah rfl rfl (aU (v':= .bool (decide (((d.2.take i).any fun g=>decide (g.1=x.1))=true))) (by cases((d.2.take i).any fun g=>decide (g.1=x.1))<;>rfl) (ab ?_));refine bI rfl (fun c10=>?_) (fun c10=>?_)
     ·refine aj (ae (ah rfl rfl (ab (aQ ?_))));exact aV rfl rfl ⟨by rw[FG,kF,if_neg (by assumption),if_pos (by assumption)],S.back⟩
     ·refine aj (ae (ad rfl rfl (fD rfl rfl rfl (ah rfl rfl (ab ?_)))));refine bI rfl (fun TL=>?_) (fun TL=>?_)
      ·refine aj (ae (ad rfl rfl (ah rfl rfl (ab (aQ ?_)))));exact aV rfl rfl ⟨by rw[FG,kF,if_neg (by assumption),if_neg (by assumption),if_pos (by assumption)];rfl,S.back⟩
      ·refine aT (ae (ad rfl rfl ?_));have Rp:mB 0 (words x.2)=0:=Classical.not_not.1 TL;obtain⟨a,cap,rfl⟩:=hu7 Rp;have hwl:=qP x.2;refine ad rfl rfl (Rg.mq Tryz.underlying212 rfl rfl (bC rfl rfl rfl (by omega) (ah rfl rfl (ab (ae (bC rfl rfl rfl (by omega) (ad rfl rfl (ab ?_))))))));refine⟨rfl,(i+1,n+(words x.2).length),(.cons rfl (.cons rfl (.cons rfl (.cons rfl (.cons rfl .nil))))),?_,?_⟩
       ·exact⟨_,hM,S,dw,jS,by rw[FG,kF,if_neg (by assumption),if_neg (by assumption),if_neg TL],by dsimp only;omega,by dsimp only;omega⟩
       ·dsimp only;omega
   ·refine cK (aj (aj (ae (ad rfl rfl (iY rfl rfl rfl (ab ?_))))));refine bI rfl (fun WD=>?_) (fun WD=>?_)
    ·refine aj (ae (ah rfl rfl (ab (aQ ?_))));exact aV rfl rfl ⟨by rw[FG,tK (by omega),if_pos (by omega)],S.back⟩
    ·refine aT (aj (ae (ah rfl rfl (ab (aQ ?_)))));exact aV rfl rfl ⟨by rw[FG,tK (by omega),if_neg (by omega)],S.back⟩
end Go.K

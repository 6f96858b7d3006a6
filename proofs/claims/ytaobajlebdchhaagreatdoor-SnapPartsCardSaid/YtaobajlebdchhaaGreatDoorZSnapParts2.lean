/- What the law 'SnapParts' needs of walks and plain Lean, part 2: nothing is assumed beyond the texts that it imports. -/
import Derived.ChangeKeysEq
import Derived.Ground.GgzProg
import Derived.Ground.Names2Prog
import Derived.Ground.SlgmProg
import Derived.KernelRfl
import Derived.Laws.IdiomCopy
import Derived.Laws.MakeOwn
import Derived.Laws.StructEq
import Derived.Lib.RuneBytes
import Derived.Lib.SliceRun
import Derived.Maps.OwnSet
import Derived.Shelf.SlGeneric
import Derived.Shelf.SlIter.Nil
import Derived.Shelf.SlIterI.Nil
import Derived.Shelf.Slices.SearchI
import Derived.Shelf.Small.Strs
import Derived.Shelf.Small.Utf8
import Derived.Shelf.SortM.Plain
import Derived.Shelf.SortM.SortNone
import Derived.Shelf.Strings.Builder1
import Derived.Shelf.Strings.BuilderRune
import Derived.Test.YtaobajlebdchhaaGreatDoorProg
import Derived.Test.YtaobajlebdchhaaGreatDoorZSnapParts1
set_option linter.unusedVariables false
set_option linter.unusedSimpArgs false
theorem ab:type_of% @Go.K.Rg.move:=@Go.K.Rg.move
theorem ad:type_of% @Go.K.Rg.nil:=@Go.K.Rg.nil
theorem ah:type_of% @Go.K.Rg.aC:=@Go.K.Rg.aC
theorem aj:type_of% @Go.Proofs.Tryz.underlying3:=@Go.Proofs.Tryz.underlying3
theorem ak:type_of% @Go.K.Rg.bP:=@Go.K.Rg.bP
theorem al:type_of% @List.getElem?_eq_some_iff:=@List.getElem?_eq_some_iff
theorem an:type_of% @List.getElem?_eq_getElem:=@List.getElem?_eq_getElem
theorem ao:type_of% @Go.Proofs.Tryz.underlying61:=@Go.Proofs.Tryz.underlying61
theorem aq:type_of% @Int.toNat_natCast:=@Int.toNat_natCast
theorem au:type_of% @Go.K.Rg.fieldAddr:=@Go.K.Rg.fieldAddr
theorem ax:type_of% @List.mem_of_getElem?:=@List.mem_of_getElem?
theorem az:type_of% @Go.K.bH.cons:=@Go.K.bH.cons
theorem aA:type_of% @Go.K.Rg.bA:=@Go.K.Rg.bA
theorem aB:type_of% @Go.K.Rg.assign:=@Go.K.Rg.assign
theorem aD:type_of% @Go.K.Rg.bE:=@Go.K.Rg.bE
theorem aF:type_of% @Option.some.inj:=@Option.some.inj
theorem aG:type_of% @Go.Proofs.Tryz.underlying9:=@Go.Proofs.Tryz.underlying9
theorem aH:type_of% @Go.K.cr.cons:=@Go.K.cr.cons
theorem aI:type_of% @Go.K.T.seq:=@Go.K.T.seq
theorem aJ:type_of% @Go.K.Rg.call:=@Go.K.Rg.call
theorem aK:type_of% @Go.K.Rg.bz:=@Go.K.Rg.bz
theorem aL:type_of% @Go.K.Rg.nilCheck:=@Go.K.Rg.nilCheck
theorem aM:type_of% @Go.K.T.ret:=@Go.K.T.ret
theorem aN:type_of% @Go.K.T.region:=@Go.K.T.region
theorem aQ:type_of% @Go.Proofs.Tryz.underlying25:=@Go.Proofs.Tryz.underlying25
theorem aR:type_of% @Go.K.T.skip:=@Go.K.T.skip
theorem aT:type_of% @Go.K.T.block:=@Go.K.T.block
theorem aU:type_of% @Go.Proofs.Tryz.underlying28:=@Go.Proofs.Tryz.underlying28
theorem aW:type_of% @Go.K.Rg.bJ:=@Go.K.Rg.bJ
theorem aX:type_of% @Nat.le_refl:=@Nat.le_refl
theorem aY:type_of% @Go.K.Rg.eqv:=@Go.K.Rg.eqv
theorem a7:type_of% @Go.Proofs.Tryz.underlying36:=@Go.Proofs.Tryz.underlying36
theorem a8:type_of% @Go.K.Rg.cn:=@Go.K.Rg.cn
theorem bg:type_of% @List.take_of_length_le:=@List.take_of_length_le
theorem bh:type_of% @Go.Proofs.Tryz.underlying72:=@Go.Proofs.Tryz.underlying72
theorem bm:type_of% @Nat.zero_le:=@Nat.zero_le
theorem bp:type_of% @Go.K.Le.trans:=@Go.K.Le.trans
theorem br:type_of% @Go.K.Rg.cP:=@Go.K.Rg.cP
theorem bu:type_of% @Go.Proofs.Tryz.underlying70:=@Go.Proofs.Tryz.underlying70
theorem bB:type_of% @Go.K.Rg.cA:=@Go.K.Rg.cA
theorem bC:type_of% @Go.Proofs.Tryz.underlying117:=@Go.Proofs.Tryz.underlying117
theorem bF:type_of% @List.length_take:=@List.length_take
theorem bG:type_of% @List.mem_iff_getElem?:=@List.mem_iff_getElem?
theorem bI:type_of% @Go.K.T.dP:=@Go.K.T.dP
theorem bK:type_of% @List.mem_cons_self:=@List.mem_cons_self
theorem bM:type_of% @Go.K.Rg.load:=@Go.K.Rg.load
theorem bN:type_of% @Go.K.Le.refl:=@Go.K.Le.refl
theorem bO:type_of% @Go.K.Step.le:=@Go.K.Step.le
theorem bQ:type_of% @List.take_add_one:=@List.take_add_one
theorem bR:type_of% @Go.Proofs.Tryz.underlying24:=@Go.Proofs.Tryz.underlying24
theorem bT:type_of% @List.length_map:=@List.length_map
theorem bU:type_of% @List.length_append:=@List.length_append
theorem bV:type_of% @Go.K.Rg.cC:=@Go.K.Rg.cC
theorem bW:type_of% @Go.Proofs.Tryz.underlying293:=@Go.Proofs.Tryz.underlying293
theorem bX:type_of% @Go.Proofs.Tryz.underlying323:=@Go.Proofs.Tryz.underlying323
theorem bY:type_of% @List.getD_eq_getElem?_getD:=@List.getD_eq_getElem?_getD
theorem bZ:type_of% @Go.K.Rg.cK:=@Go.K.Rg.cK
theorem b9:type_of% @Go.K.Rg.extract:=@Go.K.Rg.extract
theorem cg:type_of% @Go.K.Step.ay:=@Go.K.Step.ay
theorem ch:type_of% @Go.K.Rg.cV:=@Go.K.Rg.cV
theorem cj:type_of% @Go.Proofs.Tryz.underlying114:=@Go.Proofs.Tryz.underlying114
theorem ck:type_of% @Go.K.Rg.fQ:=@Go.K.Rg.fQ
theorem cp:type_of% @Bool.and_eq_true:=@Bool.and_eq_true
theorem cu:type_of% @List.mem_map:=@List.mem_map
theorem cv:type_of% @Go.Proofs.Tryz.underlying188:=@Go.Proofs.Tryz.underlying188
theorem cx:type_of% @Go.K.Rg.idx:=@Go.K.Rg.idx
theorem cy:type_of% @List.length_cons:=@List.length_cons
theorem cz:type_of% @List.mem_cons_of_mem:=@List.mem_cons_of_mem
theorem cB:type_of% @Go.Sem.run_bind:=@Go.Sem.run_bind
theorem cD:type_of% @List.getElem?_map:=@List.getElem?_map
theorem cE:type_of% @Go.K.T.exit:=@Go.K.T.exit
theorem cH:type_of% @Option.toList_some:=@Option.toList_some
theorem cJ:type_of% @Go.Proofs.Tryz.underlying153:=@Go.Proofs.Tryz.underlying153
theorem cL:type_of% @Nat.lt_or_ge:=@Nat.lt_or_ge
theorem cM:type_of% @Go.K.Rg.eM:=@Go.K.Rg.eM
theorem cO:type_of% @List.mem_singleton:=@List.mem_singleton
theorem cR:type_of% @Go.K.T.loop:=@Go.K.T.loop
theorem cT:type_of% @Bool.true_and:=@Bool.true_and
theorem cU:type_of% @List.mem_cons:=@List.mem_cons
theorem cW:type_of% @Go.Result.andThen_ok:=@Go.Result.andThen_ok
theorem cZ:type_of% @Go.Proofs.Tryz.underlying5:=@Go.Proofs.Tryz.underlying5
theorem db:type_of% @Decidable.not_not:=@Decidable.not_not
theorem de:type_of% @Go.Proofs.Tryz.underlying74:=@Go.Proofs.Tryz.underlying74
theorem dg:type_of% @Go.Proofs.Tryz.underlying45:=@Go.Proofs.Tryz.underlying45
theorem dh:type_of% @Go.Proofs.Tryz.underlying26:=@Go.Proofs.Tryz.underlying26
theorem dp:type_of% @Go.K.Rg.build:=@Go.K.Rg.build
theorem dq:type_of% @Option.map_some:=@Option.map_some
theorem dr:type_of% @List.getElem?_eq_none:=@List.getElem?_eq_none
theorem du:type_of% @Go.Proofs.Tryz.underlying126:=@Go.Proofs.Tryz.underlying126
theorem dw:type_of% @Go.Proofs.Tryz.underlying261:=@Go.Proofs.Tryz.underlying261
theorem dA:type_of% @Go.K.Rg.append:=@Go.K.Rg.append
theorem dC:type_of% @List.map_cons:=@List.map_cons
theorem dD:type_of% @Array.getElem?_setIfInBounds:=@Array.getElem?_setIfInBounds
theorem dE:type_of% @List.getElem?_take:=@List.getElem?_take
theorem dI:type_of% @List.length_eq_zero_iff:=@List.length_eq_zero_iff
theorem dJ:type_of% @Go.Proofs.Tryz.underlying132:=@Go.Proofs.Tryz.underlying132
theorem dK:type_of% @Go.Proofs.Tryz.underlying134:=@Go.Proofs.Tryz.underlying134
theorem dN:type_of% @List.mem_append:=@List.mem_append
theorem dR:type_of% @List.length_drop:=@List.length_drop
theorem dS:type_of% @Go.Proofs.Tryz.underlying182:=@Go.Proofs.Tryz.underlying182
theorem dT:type_of% @Go.Proofs.Tryz.underlying250:=@Go.Proofs.Tryz.underlying250
theorem dV:type_of% @Eq.symm:=@Eq.symm
theorem dX:type_of% @Go.K.Rg.ec:=@Go.K.Rg.ec
theorem ed:type_of% @List.map_append:=@List.map_append
theorem ef:type_of% @Go.Proofs.Tryz.underlying29:=@Go.Proofs.Tryz.underlying29
theorem eh:type_of% @Go.K.Rg.kB:=@Go.K.Rg.kB
theorem ei:type_of% @Bool.false_and:=@Bool.false_and
theorem ek:type_of% @Go.K.Rg.alloc:=@Go.K.Rg.alloc
theorem ep:type_of% @Nat.le_trans:=@Nat.le_trans
theorem eu:type_of% @List.pairwise_map:=@List.pairwise_map
theorem ey:type_of% @Go.Proofs.Tryz.underlying249:=@Go.Proofs.Tryz.underlying249
theorem ez:type_of% @Go.Proofs.Tryz.underlying141:=@Go.Proofs.Tryz.underlying141
theorem eA:type_of% @List.all_eq_true:=@List.all_eq_true
theorem eE:type_of% @Go.K.Own.nil:=@Go.K.Own.nil
theorem eF:type_of% @List.length_singleton:=@List.length_singleton
theorem eG:type_of% @Go.Proofs.Tryz.underlying296:=@Go.Proofs.Tryz.underlying296
theorem eL:type_of% @Nat.not_lt_zero:=@Nat.not_lt_zero
theorem eO:type_of% @Go.K.cf.load:=@Go.K.cf.load
theorem eP:type_of% @Go.K.cf.move:=@Go.K.cf.move
theorem eQ:type_of% @Go.K.Rg.eW:=@Go.K.Rg.eW
theorem eR:type_of% @Go.K.Rg.lN:=@Go.K.Rg.lN
theorem eV:type_of% @List.pairwise_cons:=@List.pairwise_cons
theorem fh:type_of% @Nat.lt_trichotomy:=@Nat.lt_trichotomy
theorem fi:type_of% @List.getElem?_set:=@List.getElem?_set
theorem fj:type_of% @Bool.eq_false_iff:=@Bool.eq_false_iff
theorem fm:type_of% @Go.K.Rg.np:=@Go.K.Rg.np
theorem fp:type_of% @List.filter_append:=@List.filter_append
theorem fq:type_of% @List.drop_eq_nil_of_le:=@List.drop_eq_nil_of_le
theorem fy:type_of% @List.mem_filter:=@List.mem_filter
theorem fz:type_of% @Go.Proofs.Tryz.underlying294:=@Go.Proofs.Tryz.underlying294
theorem fA:type_of% @Go.Proofs.Tryz.underlying128:=@Go.Proofs.Tryz.underlying128
theorem fB:type_of% @Go.K.lD.nil:=@Go.K.lD.nil
theorem fC:type_of% @Go.K.cf.field:=@Go.K.cf.field
theorem fH:type_of% @Go.K.Part.snd:=@Go.K.Part.snd
theorem fI:type_of% @List.length_filter_le:=@List.length_filter_le
theorem fJ:type_of% @List.contains_iff_mem:=@List.contains_iff_mem
theorem fK:type_of% @List.getElem?_toArray:=@List.getElem?_toArray
theorem fO:type_of% @List.filter_cons_of_neg:=@List.filter_cons_of_neg
theorem fP:type_of% @List.filter_cons_of_pos:=@List.filter_cons_of_pos
theorem fS:type_of% @List.append_nil:=@List.append_nil
theorem fW:type_of% @Go.Proofs.Tryz.underlying180:=@Go.Proofs.Tryz.underlying180
theorem fX:type_of% @Go.Proofs.Tryz.underlying143:=@Go.Proofs.Tryz.underlying143
theorem gv:type_of% @List.length_pos_iff:=@List.length_pos_iff
theorem gw:type_of% @List.mem_map_of_mem:=@List.mem_map_of_mem
theorem gy:type_of% @Go.K.T.iff:=@Go.K.T.iff
theorem gz:type_of% @Go.K.Rg.makeFunc:=@Go.K.Rg.makeFunc
theorem gE:type_of% @Option.map_none:=@Option.map_none
theorem gF:type_of% @Go.K.Rg.ql:=@Go.K.Rg.ql
theorem gL:type_of% @List.map_toArray:=@List.map_toArray
theorem gM:type_of% @Go.K.Rg.not:=@Go.K.Rg.not
theorem gN:type_of% @Go.K.Rg.qI:=@Go.K.Rg.qI
theorem ik:type_of% @Go.K.ib.all:=@Go.K.ib.all
theorem il:type_of% @Go.K.Rg.rM:=@Go.K.Rg.rM
theorem iD:type_of% @Decidable.byContradiction:=@Decidable.byContradiction
theorem iP:type_of% @Go.K.Rg.box:=@Go.K.Rg.box
theorem iR:type_of% @Go.K.fa.refl:=@Go.K.fa.refl
theorem iV:type_of% @Go.Proofs.Tryz.underlying122:=@Go.Proofs.Tryz.underlying122
theorem iW:type_of% @Go.Proofs.Tryz.underlying274:=@Go.Proofs.Tryz.underlying274
theorem jh:type_of% @Bool.eq_iff_iff:=@Bool.eq_iff_iff
theorem ji:type_of% @List.mem_zipIdx_iff_getElem?:=@List.mem_zipIdx_iff_getElem?
theorem jq:type_of% @List.getD_cons_zero:=@List.getD_cons_zero
theorem jr:type_of% @List.getD_cons_succ:=@List.getD_cons_succ
theorem jw:type_of% @List.map_nil:=@List.map_nil
theorem jx:type_of% @Go.Proofs.Tryz.underlying31:=@Go.Proofs.Tryz.underlying31
theorem jy:type_of% @Go.K.Rg.lV:=@Go.K.Rg.lV
theorem jQ:type_of% @Go.K.Rg.jz:=@Go.K.Rg.jz
theorem jR:type_of% @Go.K.Rg.jC:=@Go.K.Rg.jC
theorem jY:type_of% @Go.Proofs.Tryz.underlying205:=@Go.Proofs.Tryz.underlying205
theorem jZ:type_of% @Go.Proofs.Tryz.underlying137:=@Go.Proofs.Tryz.underlying137
theorem j0:type_of% @List.drop_eq_getElem_cons:=@List.drop_eq_getElem_cons
theorem j1:type_of% @Go.Proofs.Tryz.underlying183:=@Go.Proofs.Tryz.underlying183
theorem kc:type_of% @List.length_nil:=@List.length_nil
theorem kd:type_of% @List.nil_append:=@List.nil_append
theorem kn:type_of% @List.ext_getElem?:=@List.ext_getElem?
theorem ky:type_of% @Nat.lt_irrefl:=@Nat.lt_irrefl
theorem kz:type_of% @Bool.and_true:=@Bool.and_true
theorem kA:type_of% @Go.K.bH.nil:=@Go.K.bH.nil
theorem kO:type_of% @Go.K.Part.fst:=@Go.K.Part.fst
theorem lh:type_of% @Go.K.T.sh:=@Go.K.T.sh
theorem lF:type_of% @List.getElem?_drop:=@List.getElem?_drop
theorem lG:type_of% @Nat.lt_of_lt_of_le:=@Nat.lt_of_lt_of_le
theorem lH:type_of% @Go.K.tP.nil:=@Go.K.tP.nil
theorem lI:type_of% @List.drop_of_length_le:=@List.drop_of_length_le
theorem lT:type_of% @List.idxOf_cons:=@List.idxOf_cons
theorem mc:type_of% @Go.Proofs.Tryz.underlying112:=@Go.Proofs.Tryz.underlying112
theorem me:type_of% @Go.Proofs.Tryz.underlying238:=@Go.Proofs.Tryz.underlying238
theorem mg:type_of% @Go.Proofs.Tryz.underlying301:=@Go.Proofs.Tryz.underlying301
theorem mh:type_of% @Go.Proofs.Tryz.underlying147:=@Go.Proofs.Tryz.underlying147
theorem mZ:type_of% @List.append_assoc:=@List.append_assoc
theorem nc:type_of% @Go.Sem.run_pure:=@Go.Sem.run_pure
theorem nf:type_of% @Go.K.cf.nilCheck:=@Go.K.cf.nilCheck
theorem ng:type_of% @Go.K.Rg.lO:=@Go.K.Rg.lO
theorem ni:type_of% @Go.K.Le.close:=@Go.K.Le.close
theorem nP:type_of% @Int.le_refl:=@Int.le_refl
theorem nQ:type_of% @Nat.pow_le_pow_right:=@Nat.pow_le_pow_right
theorem nR:type_of% @List.setIfInBounds_toArray:=@List.setIfInBounds_toArray
theorem nS:type_of% @List.mem_append_left:=@List.mem_append_left
theorem od:type_of% @Go.Proofs.Tryz.zeroValue9:=@Go.Proofs.Tryz.zeroValue9
theorem ot:type_of% @Option.getD_some:=@Option.getD_some
theorem ou:type_of% @List.any_eq_true:=@List.any_eq_true
theorem ov:type_of% @List.cons_append:=@List.cons_append
theorem ox:type_of% @Go.Proofs.Tryz.underlying49:=@Go.Proofs.Tryz.underlying49
theorem oy:type_of% @Go.Proofs.Tryz.underlying54:=@Go.Proofs.Tryz.underlying54
theorem o8:type_of% @List.takeWhile_cons:=@List.takeWhile_cons
theorem qj:type_of% @Go.IntWalk.i64_in:=@Go.IntWalk.i64_in
theorem qG:type_of% @List.nodup_cons:=@List.nodup_cons
theorem qH:type_of% @Go.K.Rg.qP:=@Go.K.Rg.qP
theorem qL:type_of% @BitVec.toNat_ofInt:=@BitVec.toNat_ofInt
theorem qM:type_of% @Go.Proofs.Tryz.underlying4:=@Go.Proofs.Tryz.underlying4
theorem qN:type_of% @Nat.eq_or_lt_of_le:=@Nat.eq_or_lt_of_le
theorem sd:type_of% @Go.K.cr.nil:=@Go.K.cr.nil
theorem sf:type_of% @Go.K.si.none:=@Go.K.si.none
theorem tq:type_of% @List.take_succ_eq_append_getElem:=@List.take_succ_eq_append_getElem
theorem tu:type_of% @Option.map_eq_some_iff:=@Option.map_eq_some_iff
theorem tv:type_of% @Go.Proofs.Tryz.underlying310:=@Go.Proofs.Tryz.underlying310
theorem tw:type_of% @Go.Proofs.Tryz.underlying139:=@Go.Proofs.Tryz.underlying139
theorem tx:type_of% @List.flatMap_cons:=@List.flatMap_cons
theorem tz:type_of% @List.foldl_append:=@List.foldl_append
theorem tA:type_of% @Bool.not_eq_true':=@Bool.not_eq_true'
theorem tB:type_of% @Go.Proofs.Tryz.underlying269:=@Go.Proofs.Tryz.underlying269
theorem tC:type_of% @Go.Proofs.Tryz.underlying267:=@Go.Proofs.Tryz.underlying267
theorem wN:type_of% @Array.getElem?_modify:=@Array.getElem?_modify
theorem wW:type_of% @Go.K.T.kU:=@Go.K.T.kU
theorem yh:type_of% @Go.K.Rg.conv:=@Go.K.Rg.conv
theorem yi:type_of% @Go.Proofs.Tryz.underlying32:=@Go.Proofs.Tryz.underlying32
theorem yK:type_of% @Go.K.T.qk:=@Go.K.T.qk
theorem zg:type_of% @Go.K.Rg.mq:=@Go.K.Rg.mq
theorem zt:type_of% @Nat.min_eq_left:=@Nat.min_eq_left
theorem zu:type_of% @List.cons.injEq:=@List.cons.injEq
theorem BF:type_of% @Int.toNat_of_nonneg:=@Int.toNat_of_nonneg
theorem BL:type_of% @Go.Proofs.Tryz.underlying0:=@Go.Proofs.Tryz.underlying0
theorem BM:type_of% @Go.Proofs.Tryz.sizeOf9:=@Go.Proofs.Tryz.sizeOf9
theorem BN:type_of% @List.map_map:=@List.map_map
theorem BO:type_of% @Go.Proofs.Tryz.func100:=@Go.Proofs.Tryz.func100
namespace Go.K
def idx:List Po->Int->Nat
 |[],_=>0
 |p::l,to=>if p.1<to then idx l to+1 else 0
theorem O3:∀(l:List Po) (to:Int),idx l to<=l.length
 |[],_=>aX _
 |p::l,to=>by
  have:=O3 l to;simp only[idx,cy];split<;>omega
theorem zU:∀{l:List Po} {to:Int} {j:Nat} {p:Po},j<idx l to->l[j]? =some p->p.1<to
 |[],_,_,_,h,_=>by simp[idx]at h
 |q::l,to,j,p,h,hp=>by
  simp only[idx]at h
  split at h
  ·cases j with
   |zero=>simp at hp;subst hp;assumption
   |succ j=>exact zU (l:=l) (j:=j) q0 (by simpa using hp)
  ·omega
theorem zV:∀{l:List Po} {to:Int} {p:Po},l[idx l to]? =some p->to<=p.1
 |[],_,_,h=>by simp[idx]at h
 |q::l,to,p,h=>by
  simp only[idx]at h
  split at h
  ·exact zV a68
  ·simp at h;subst h;omega
theorem DH:∀{l:List Po} {to:Int} {e:Nat} {p:Po},l[e]? =some p->to<=p.1->idx l to<=e
 |[],_,_,_,h,_=>by simp at h
 |q::l,to,e,p,h,hp=>by
  simp only[idx]
  split
  ·cases e with
   |zero=>simp at h;subst h;omega
   |succ e=>have:=DH (l:=l) (e:=e) a68 hp;omega
  ·omega
theorem idx_eq {l:List Po} {to:Int} {i:Nat} (h1:∀j,j<i->∀p,l[j]? =some p->p.1<to) (h2:∀p,l[i]? =some p->to<=p.1) (h3:i<=l.length):idx l to=i:=by
 rcases fh (idx l to) i with h|h|h
 ·have hx:l[idx l to]? =some l[idx l to]:=an q0;have:=zV hx;have:=h1 _ h _ hx;omega
 ·exact h
 ·have:=O3 l to;have hx:l[i]? =some l[i]:=an q0;have:=zU h hx;have:=h2 _ hx;omega
def eB (l:List Po) (i:Int):Int:=if i<0 then-1 else match l[i.toNat]? with|some p=>p.1|none=>2147483648
def gG (l:List Po) (i:Int):List Int:=if i<0 then[]else match l[i.toNat]? with|some p=>p.2|none=>[]
def lL (l:List Po) (i:Int):List Po:=if i<0 then[]else(l.drop i.toNat).take (8-i.toNat%8)
def tS (l:List Po) (i to:Int):Int:=if to<=eB l i then i else idx l to
theorem kF {l:List Po} {i:Nat} {d:Int} {ps:List Int} (hm:eN (-1) l=true) (h:l[i]? =some (d,ps)):0<=d/\d<2147483648:=by
 obtain⟨f1,f2,f3,f4,f5,f6⟩:=qU hm h;omega
theorem iH {l:List Po} {i:Nat} {d:Int} {ps:List Int} (h:l[i]? =some (d,ps)):eB l (i:Int)=d:=by
 unfold eB;rw[if_neg q0,aq,h]
theorem Mg {l:List Po} {i:Int} (h:i<0):eB l i= -1:=by unfold eB;rw[if_pos h]
theorem rO {l:List Po} {i:Int} (h:(l.length:Int)<=i):eB l i=2147483648:=by
 unfold eB;rw[if_neg q0,dr q0]
theorem eX (l:List Po) (i:Int):(i<0/\eB l i= -1/\gG l i=[])\/(∃j:Nat,∃d ps,i=j/\l[j]? =some (d,ps)/\eB l i=d/\gG l i=ps)\/((l.length:Int)<=i/\eB l i=2147483648/\gG l i=[]):=by
 by_cases h0:i<0
 ·exact .inl ⟨h0,Mg h0,by unfold gG;rw[if_pos h0]⟩
 ·by_cases h1:(l.length:Int)<=i
  ·exact .inr (.inr ⟨h1,rO h1,by unfold gG;rw[if_neg h0,dr q0]⟩)
  ·obtain⟨j,rfl⟩:∃j:Nat,i=j:=⟨i.toNat,by omega⟩;obtain⟨⟨d,ps⟩,hx⟩:∃x,l[j]? =some x:=⟨_,an q0⟩;exact .inr (.inl ⟨j,d,ps,G,hx,iH hx,by unfold gG;rw[if_neg h0,aq,hx]⟩)
theorem xi {l:List Po} (hm:eN (-1) l=true) (i:Int): -1<=eB l i/\eB l i<=2147483648:=by
 rcases eX l i with⟨_,h,_⟩|⟨j,d,ps,rfl,hx,h,_⟩|⟨_,h,_⟩
 ·omega
 ·have:=kF hm hx;omega
 ·omega
theorem Fu {l:List Po} (hm:eN (-1) l=true) {i:Int}:(0<=eB l i/\eB l i<2147483648)↔0<=i/\i<l.length:=by
 rcases eX l i with⟨h0,h,_⟩|⟨j,d,ps,rfl,hx,h,_⟩|⟨h0,h,_⟩
 ·omega
 ·have:=kF hm hx;have:=(al.1 hx).1;omega
 ·omega
theorem CF {g:List Po} {i:Nat} {d:Int} {ps:List Int} (h:g[i]? =some (d,ps)) (last:Int):cQ last (g.take (i+1))=d:=by
 obtain⟨h1,h2⟩:=al.1 h;rw[tq h1,h2,BV];rfl
theorem DI {l:List Po} (hm:eN (-1) l=true) {t s:Nat} {p:Po} (hp:l[t]? =some p) (OT:t<s):p.1<=cQ (-1) (l.take s):=by
 obtain⟨d,ps⟩:=p;rw[<-CF hp (-1)];exact qX l (-1) (t+1) s hm XT OT
theorem nD {l:List Po} (hm:eN (-1) l=true) {t s:Nat} {p q:Po} (hp:l[t]? =some p) (hq:l[s]? =some q) (OT:t<s):p.1<q.1:=by
 obtain⟨e,qs⟩:=q;have h1:=DI hm hp OT;have h2:=(qU hm hq).1;omega
theorem CG {l lf:List Po} (hm:eN (-1) l=true) {s k:Nat} {to:Int} (h1:8*k<=s) (h2:s<8*k+8) (hs:s<l.length) (O4:cQ (-1) (l.take s)<to) (hhi:to<=cQ (-1) (l.take (8*k+8)))
  (Yq:lf=(l.drop s).take (8*k+8-s)):idx l to=s+idx lf to/\idx lf to<lf.length/\idx l to<l.length/\idx l to/8=k/\lf.drop (idx lf to)=lL l (idx l to:Nat):=by
 have Yr:s<=idx l to:=by
  rcases cL (idx l to) s with h|h
  ·have hx:l[idx l to]? =some l[idx l to]:=an q0;have:=zV hx;have:=DI hm hx h;omega
  ·exact h
 obtain⟨⟨d,ps⟩,he⟩:∃x,l[min (8*k+8) l.length-1]? =some x:=⟨_,an q0⟩
 have hde:cQ (-1) (l.take (8*k+8))=d:=by
  rw[<-CF he (-1),show l.take (8*k+8)=l.take (min (8*k+8) l.length-1+1)from by rw[List.take_eq_take_iff];omega]
 have wR:=DH he (to:=to) aq5;have TN:lf.length=min (8*k+8-s) (l.length-s):=by rw[Yq,bF,dR]
 have jb:∀t,t<lf.length->lf[t]? =l[s+t]? :=λt ht=>by rw[Yq,dE,if_pos q0,lF]
 have hif:idx lf to=idx l to-s:=by
  refine idx_eq (λj hj p hp=>?_) (λp hp=>?_) q0
  ·have qn:=(al.1 hp).1;rw[jb j qn]at hp;exact zU q0 hp
  ·have qn:=(al.1 hp).1;rw[jb _ qn,show s+(idx l to-s)=idx l to from by omega]at hp;exact zV hp
 refine ⟨by omega,by omega,by omega,by omega,?_⟩;unfold lL;rw[if_neg q0,aq,hif,Yq,List.drop_take,List.drop_drop,show s+(idx l to-s)=idx l to from by omega,List.take_eq_take_iff,dR];omega
theorem Un {l:List Po} (hm:eN (-1) l=true) {to:Int} {n:Nat} (hn:l.length<=n) (O4:cQ (-1) (l.take n)<to):idx l to=l.length:=by
 refine idx_eq (λj hj p hp=>?_) (λp hp=>?_) (aX _)
 ·have:=DI hm hp (s:=n) q0;omega
 ·simp at hp
theorem Mh {l:List Po} (hm:eN (-1) l=true) {i k to:Int} (hi: -1<=i/\i<=l.length) (hk: -1<=k/\k<((l.length+7)/8:Nat)) (O5:i<0->k= -1) (qJ:0<=i->i<l.length->k=i/8) (hto:eB l i<to):
  cQ (-1) (l.take (8*(max k 0).toNat))<to:=by
 rcases eX l i with⟨h0,h,_⟩|⟨j,d,ps,rfl,hx,h,_⟩|⟨h0,h,_⟩
 ·rw[O5 h0];simp only[show(max (-1:Int) 0).toNat=0 from by decide,Nat.mul_zero,List.take_zero,cQ];omega
 ·have hj:=(al.1 hx).1;have Fj:=qJ q0 q0;have h2:=(qU hm hx).1;have h3:=qX l (-1) (8*(max k 0).toNat) j hm XT q0;omega
 ·have:=(kV l (-1) hm XT (8*(max k 0).toNat)).2;omega
def Cu (T:TypeId) (l:List Po) (i:Int) (M:aE) (w:World) (bc:Nat):Prop:=
 ∃(p u:Value) (k Fv:Int),M bc/\w.heap[bc]? =some (.cells #[p,.int .i64 k,u,.int .i64 (eB l i),.int .i64 Fv] T (0,0))/\cG RT.li M w p (j5 l)/\((RT.po).sl).V M w (lL l i) u/\
  (-1<=i/\i<=l.length)/\(-1<=k/\k<((l.length+7)/8:Nat))/\(i<0->k= -1)/\(0<=i->i<l.length->k=i/8)
theorem Cu.step {T:TypeId} {l:List Po} {i:Int} {M M' N:aE} {w w':World} {bc:Nat} (h:Cu T l i M w bc) (s:Step M w M' w' N) (hn: ¬N bc):Cu T l i M' w' bc:=by
 obtain⟨p,u,k,Fv,h1,h2,h3,h4,h5⟩:=h;exact⟨p,u,k,Fv,(s.mem bc (ae h2)).2 h1,s.bL h2 hn,h3.le XT s.le,h4.le s.le,h5⟩
theorem Cu.rng {T:TypeId} {l:List Po} {i:Int} {M:aE} {w:World} {bc:Nat} (h:Cu T l i M w bc): -1<=i/\i<=l.length:=by
 obtain⟨p,u,k,Fv,_,_,_,_,h5,_⟩:=h;exact h5
theorem Ys {M:aE} {w:World} {d:Int} {ps:List Int} {v:Value} (h:RT.po.V M w (d,ps) v):∃u,v= .agg #[.int .i64 d,u]/\u.oneCell'=true/\(-9223372036854775808<=d/\d<=9223372036854775807):=by
 obtain⟨vs,⟨va,vb,rfl,⟨rfl,hd⟩,hb⟩,rfl⟩:=h;obtain⟨a,cap,rfl,_⟩:=hb;exact⟨_,G,G,hd⟩
section
variable {P:Program} {r:Option Nat} {n:Nat} {L:Sl} {ds:List Deferred} {w:World}
theorem tT {fn:Func} {Q:Value->World->Prop} {c t b:Nat} {vs:List Value} {fs:TypeDesc} {e:TypeId} {fr:Nat×Nat} {zv:Value} {size bytes:Nat} (hr:fn.results= #[.cell c t]) (hc:lk L c=some (.pointer (some ⟨b,0,none⟩))) (hu:P.underlying t=some fs) (hf:fs.isRow=true) (hi:TI P t zv size bytes) (hl:vs.length=size)
  (hb:w.heap[b]? =some (.cells vs.toArray e fr)) (h:Q (.agg vs.toArray) w):yL P fn Q .ret L [] w:=
 ⟨rfl,λa ha=>⟨_,by
  obtain⟨i,BH,_,EX,_⟩:=hi.get;have Yn:w.rangeAt b 0 vs:=λj v hj=>im hb a98
  have:=run_loadVar_mid (P:=P) w b 0 t vs fs Yn hu hf (by simp[BH,EX,hl]);simp[results,hr,ha _ _ hc,asAddr,this,cB],h⟩⟩
end
section
variable {P:Program} {r:Option Nat} {n:Nat} {L:Sl} {ds:List Deferred} {w:World} {K:Kt} {ops:Array Oper} {rest:List Oper} {d:Nat} {ty:TypeId} {pos:String} {af:Array Edge} {x y i:Operand} {α:Type} {A:RT α}
theorem Rg.opv {o:Oper} (lU:∀c,o.op≠ .defer c) (hg:o.guard=none) (hd:o.dst=none) (v:Value) (w':World)
  (gO:∀ρ:Operand->Value,(∀x u,ev L x=some u->ρ x=u)->(execOp ρ o).run P w= .ok (.value v) w')
  (h:Rg P r n ops rest L ds w' K):Rg P r n ops (o::rest) L ds w K:=by
 refine ⟨λa ha=>wpListIn_plain hg λK' Oz=>E7 lU ?_⟩;rw[gO a.eval (λx u hx=>ha.eval hx),Oper.uponIn_value,hd];exact Oz _ _ (h.run _ ha)
theorem Rg.ajT {t e:TypeId} {zv:Value} {bytes size:Nat} (ht:P.underlying t=some (.slice e)) (hi:TI P e zv size bytes) (M:aE) (hd:Nat.blt d n=true)
  (k:∀g w',w.heap.size<=g->g<w'.heap.size->w'.heap[g]? =some (.cells #[] e (0,0))->Step M w (ins M g) w' ar->Rg P r n ops rest ((d,.slice (some ⟨g,0,none⟩) 0 0)::L) ds w' K):
  Rg P r n ops ({dst:=some d,op:= .buildSlice t 0 #[],type:=ty,pos,after:=af,guard:=none}::rest) L ds w K:=by
 refine .op a06 G G hd (.slice (some ⟨w.heap.size,0,none⟩) 0 0) (w.alloc (.cells #[] e)) (λρ hρ=>?_) (k w.heap.size _ (aX _) (by simp) (cY w _) ((dL M w _).own (aX _) (by simp)));simp only[execOp,Instr.buildSlice,cB,run_underlying ht,cW,hi.sizeOf];simp[newRow,newObj,Sem.run,Instr.fill];have h0:Array.range 0= #[]:=by apply Array.ext<;>simp
 simp[h0]
end
theorem Own.empty {α:Type} {A:RT α} {e:TypeId} {M:aE} {w:World} {base g:Nat} (h:w.heap[g]? =some (.cells #[] e (0,0))) (hb:base<=g) (hm:M g):Own A e M w base (.slice (some ⟨g,0,none⟩) 0 0) []:=
 ⟨⟨[],⟨by simp,.inr ⟨g,0,#[],rfl,hb,h,aX _,bm _,by simp,by simp⟩⟩,rfl⟩,λb hb=>by cases hb;exact hm⟩
section
variable {P:Program} {r:Option Nat} {n:Nat} {L:Sl} {ds:List Deferred} {w:World} {K:Kt} {ops:Array Oper} {rest:List Oper} {d:Nat} {x y i:Operand} {ty:TypeId} {pos:String} {af:Array Edge}
theorem Rg.zW {t e:TypeId} {κ:IntKind} {j:Int} {b len cap bytes:Nat} {zv:Value} (ht:P.underlying t=some (.slice e)) (hi:TI P e zv 1 bytes) (hx:ev L x=some (.slice (some ⟨b,0,none⟩) len cap)) (LU:ev L i=some (.int κ j)) (hd:Nat.blt d n=true) (hj:0<=j/\j<len)
  (k:Rg P r n ops rest ((d,.pointer (some ⟨b,j.toNat,none⟩))::L) ds w K):
  Rg P r n ops ({dst:=some d,op:= .indexAddr t x i,type:=ty,pos,after:=af,guard:=none}::rest) L ds w K:=
 .op a06 rfl rfl hd _ w (λρ h=>by
  simp only[execOp,h x _ hx,h i _ LU];simp[Instr.indexAt,run_underlying ht,asIntOf,hj,hi.sizeOf,Addr.add_mid]) k
theorem Rg.Yt {t e:TypeId} {κ:IntKind} {j:Int} {b len bytes:Nat} {zv:Value} (ht:P.underlying t=some (.array len e)) (hi:TI P e zv 1 bytes) (hx:ev L x=some (.pointer (some ⟨b,0,none⟩))) (LU:ev L i=some (.int κ j)) (hd:Nat.blt d n=true) (hj:0<=j/\j<len)
  (k:Rg P r n ops rest ((d,.pointer (some ⟨b,j.toNat,none⟩))::L) ds w K):
  Rg P r n ops ({dst:=some d,op:= .indexAddr t x i,type:=ty,pos,after:=af,guard:=none}::rest) L ds w K:=
 .op a06 rfl rfl hd _ w (λρ h=>by
  simp only[execOp,h x _ hx,h i _ LU];simp[Instr.indexAt,run_underlying ht,asIntOf,hj,hi.sizeOf,Addr.add_mid,Instr.sureAddr]) k
theorem Rg.mk0 {t e:TypeId} {len:Nat} {bytes:Nat} {zv:Value} (M:aE) (ht:P.underlying t=some (.slice e)) (hi:TI P e zv 1 bytes) (hz:zv.cells= #[zv]) (hx:ev L x=some (.int .i64 len)) (hy:ev L y=some (.int .i64 len)) (hd:Nat.blt d n=true) (hb:bytes*len<=140737488355328) (hl:len<=9223372036854775807)
  (k:∀b w',w.heap.size<=b->b<w'.heap.size->w'.heap[b]? =some (.cells (List.replicate len zv).toArray e (0,0))->Step M w (ins M b) w' ar->Rg P r n ops rest ((d,.slice (some ⟨b,0,none⟩) len len)::L) ds w' K):
  Rg P r n ops ({dst:=some d,op:= .makeSlice t x y,type:=ty,pos,after:=af,guard:=none}::rest) L ds w K:=by
 obtain⟨inf,i1,i2,i3,i4⟩:=hi.get
 have hm:madeCells zv.cells (len*1)=(List.replicate len zv).toArray:=by
  apply Array.ext
  ·simp[madeCells]
  ·intro j h1 h2;simp[madeCells,hz,Nat.mod_one]
 refine .op a06 G G hd (.slice (some ⟨w.heap.size,0,none⟩) len len) (w.alloc (.cells (List.replicate len zv).toArray e)) (λρ hρ=>?_) (k w.heap.size _ (aX _) (by simp) (cY w _) ((dL M w _).own (aX _) (by simp)))
 have hbc:(inf.bytes:Int)*(len:Int)<=281474976710656:=by
  rw[i4];have h1:((bytes*len:Nat):Int)<=281474976710656:=by omega
  rwa [Int.natCast_mul]at h1
 have hr:=run_make (P:=P) w t e inf zv ht i1 i2 .i64 .i64 (len:Int) (len:Int) q0 (nP _) hbc q0;simp only[aq,i3,hm]at hr;simp only[execOp,hρ x _ hx,hρ y _ hy];simp[cB,hr]
theorem Rg.adq {xt:TypeId} {p:Nat} (hx:ev L x=some (.int .u64 p)) (hd:Nat.blt d n=true) (hp:p<2^64) (k:Rg P r n ops rest ((d,.int .u64 ((2^64-1-p:Nat):Int))::L) ds w K):
  Rg P r n ops ({dst:=some d,op:= .unOp .xor xt x,type:=ty,pos,after:=af,guard:=none}::rest) L ds w K:=by
 refine .op a06 G G hd _ w (λρ h=>?_) k
 have e:(2^64-1:Nat)^^^p=2^64-1-p:=by
  apply Nat.eq_of_testBit_eq;intro j;have h1:=Nat.testBit_two_pow_sub_succ (x:=p) (n:=64) hp j;rw[show 2^64-1-p=2^64-(p+1)from by omega,h1,Nat.testBit_xor,Nat.testBit_two_pow_sub_one];by_cases hj:j<64
  ·simp[hj]
  ·have:p.testBit j=false:=Nat.testBit_lt_two_pow (lG hp (nQ XT q0));simp[hj,this]
 simp only[execOp,h x _ hx]
 have hb:(BitVec.ofInt IntKind.u64.bits IntKind.u64.max^^^BitVec.ofInt IntKind.u64.bits (p:Int)).toNat=2^64-1-p:=by
  rw[BitVec.toNat_xor,qL,qL];have h1:(IntKind.u64.max%((2^IntKind.u64.bits:Nat):Int)).toNat=2^64-1:=by decide
  have h2:((p:Int)%((2^IntKind.u64.bits:Nat):Int)).toNat=p:=by
   change((p:Int)%((18446744073709551616:Nat):Int)).toNat=p;omega
  rw[h1,h2,e]
 have hw:IntKind.u64.wrap ((2^64-1-p:Nat):Int)=((2^64-1-p:Nat):Int):=IntWalk.u64_in _ q0
 have hu:(Op.unary .xor (.int .u64 (p:Int))).run P w= .ok (.int .u64 ((2^64-1-p:Nat):Int)) w:=by
  change(Op.intBits .xor .u64 IntKind.u64.max (p:Int)).run P w=_;unfold Op.intBits;simp only[];rw[hb,hw];simp
 simp[hu]
theorem Rg.ajU {xt:TypeId} {κ:IntKind} {p:Int} (hx:ev L x=some (.int κ p)) (hd:Nat.blt d n=true) (k:Rg P r n ops rest ((d,.int κ (κ.wrap (0-p)))::L) ds w K):
  Rg P r n ops ({dst:=some d,op:= .unOp .neg xt x,type:=ty,pos,after:=af,guard:=none}::rest) L ds w K:=by
 refine .op a06 G G hd _ w (λρ h=>?_) k;simp only[execOp,h x _ hx];simp[Op.unary,Op.intArith]
theorem Iu (p q:Nat) (hp:p<2^64) (hq:q<2^64):IntKind.u64.wrap (BitVec.ofInt IntKind.u64.bits (p:Int)&&&BitVec.ofInt IntKind.u64.bits (q:Int)).toNat=((p&&&q:Nat):Int):=by
 have h:∀z:Nat,z<2^64->((z:Int)%((2^IntKind.u64.bits:Nat):Int)).toNat=z:=λz hz=>by
  change((z:Int)%((18446744073709551616:Nat):Int)).toNat=z;omega
 rw[BitVec.toNat_and,qL,qL,h p hp,h q hq];exact IntWalk.u64_in _ (by have:=Nat.and_le_left (n:=p) (m:=q);omega)
theorem ads (p q:Nat) (hp:p<2^64) (hq:q<2^64):IntKind.u64.wrap (BitVec.ofInt IntKind.u64.bits (p:Int)^^^BitVec.ofInt IntKind.u64.bits (q:Int)).toNat=((p^^^q:Nat):Int):=by
 have h:∀z:Nat,z<2^64->((z:Int)%((2^IntKind.u64.bits:Nat):Int)).toNat=z:=λz hz=>by
  change((z:Int)%((18446744073709551616:Nat):Int)).toNat=z;omega
 rw[BitVec.toNat_xor,qL,qL,h p hp,h q hq];exact IntWalk.u64_in _ (by have:=Nat.xor_lt_two_pow hp hq;omega)
end
def bit (ws:List Nat) (i:Nat):Bool:=(ws.getD (i/64) 0).testBit (i%64)
def Words (ws:List Nat):Prop:=∀x∈ws,x<2^64
theorem Words.get {ws:List Nat} (h:Words ws) (k:Nat):ws.getD k 0<2^64:=by
 rw[bY]
 cases hx:ws[k]? with
 |none=>simp
 |some x=>exact h x (ax hx)
theorem Fw (ws:List Nat) (k j x:Nat) (hk:k<ws.length):(ws.set k x).getD j 0=if j=k then x else ws.getD j 0:=by
 rw[bY,bY,fi];by_cases h:k=j
 ·subst h;simp[hk]
 ·rw[if_neg h,if_neg (λe=>h e.symm)]
theorem Words.set {ws:List Nat} (h:Words ws) {k x:Nat} (hx:x<2^64):Words (ws.set k x):=λy hy=>by
 rcases List.mem_or_eq_of_mem_set hy with h1|h1
 ·exact h y h1
 ·rw[h1];exact hx
theorem O6 {ws:List Nat} (hw:Words ws) {i:Nat} (hi:i/64<ws.length) (j:Nat):bit (ws.set (i/64) (ws.getD (i/64) 0^^^2^(i%64))) j=(bit ws j ^^ decide (j=i)):=by
 unfold bit;rw[Fw _ _ _ _ hi];by_cases h:j/64=i/64
 ·rw[if_pos h,Nat.testBit_xor,Nat.testBit_two_pow,h];congr 1;exact decide_eq_decide.2 q0
 ·rw[if_neg h,decide_eq_false (by intro e;rw[e]at h;exact h G),Bool.xor_false]
theorem Fx (x i t:Nat):(x/2^i).testBit t=x.testBit (t+i):=Nat.testBit_div_two_pow x t
theorem O7:∀x:Nat,0<x->∃k m,x=2^k*(2*m+1):=by
 intro x
 induction x using Nat.strongRecOn with
 |_ x ih=>
  intro h;by_cases h2:x%2=1
  ·exact⟨0,x/2,by omega⟩
  ·obtain⟨k,m,e⟩:=ih (x/2) q0 q0;refine ⟨k+1,m,?_⟩;rw[Nat.pow_succ,Nat.mul_right_comm,<-e];omega
theorem O8 (m:Nat):(2*m+1).testBit 0=true:=by rw[Nat.testBit_zero];exact decide_eq_true q0
theorem Uo (m:Nat):(2*m).testBit 0=false:=by rw[Nat.testBit_zero];exact decide_eq_false q0
theorem DJ {k m:Nat}:(2^k*(2*m+1)).testBit k=true/\∀t,t<k->(2^k*(2*m+1)).testBit t=false:=by
 have h:=λj=>Nat.testBit_two_pow_mul_add (2*m+1) (b:=0) (i:=k) (Nat.two_pow_pos k) j
 simp only[Nat.add_zero]at h;constructor
 ·rw[h k,if_neg q0,Nat.sub_self,O8]
 ·intro t ht;rw[h t,if_pos ht,Nat.zero_testBit]
theorem Up {k m:Nat} (hx:2^k*(2*m+1)<2^64):(2^k*(2*m+1))&&&(2^64-2^k*(2*m+1))=2^k:=by
 have hp:=Nat.two_pow_pos k;have Dx:0<2^k*(2*m+1):=Nat.mul_pos hp q0
 have e1:2^64-2^k*(2*m+1)=2^64-((2^k*(2*m)+(2^k-1))+1):=by
  have:2^k*(2*m+1)=2^k*(2*m)+2^k:=by rw[Nat.mul_add,Nat.mul_one]
  omega
 apply Nat.eq_of_testBit_eq;intro j
 have e2:2^k*(2*m)+(2^k-1)<2^64:=by
  have:2^k*(2*m+1)=2^k*(2*m)+2^k:=by rw[Nat.mul_add,Nat.mul_one]
  omega
 rw[Nat.testBit_and,e1,Nat.testBit_two_pow_sub_succ e2,Nat.testBit_two_pow_mul_add _ q0,Nat.testBit_two_pow_sub_one,Nat.testBit_two_pow];have h:=Nat.testBit_two_pow_mul_add (2*m+1) (b:=0) (i:=k) hp j;simp only[Nat.add_zero]at h;rw[h];rcases fh j k with h1|h1|h1
 ·rw[if_pos h1,Nat.zero_testBit,ei,decide_eq_false q0]
 ·subst h1
  have hj:j<64:=by
   rcases cL j 64 with h2|h2
   ·exact h2
   ·have:=nQ (n:=2) XT h2;have:2^j*1<=2^j*(2*m+1):=Nat.mul_le_mul_left _ q0;omega
  rw[if_neg (ky _),if_neg (ky _),Nat.sub_self,O8,Uo,decide_eq_true hj,decide_eq_true rfl];rfl
 ·rw[if_neg q0,if_neg q0,decide_eq_false (show¬k=j by omega)];obtain⟨t,rfl⟩:∃t,j=k+(t+1):=⟨j-k-1,by omega⟩;rw[show k+(t+1)-k=t+1 from by omega,Nat.testBit_succ,Nat.testBit_succ,show(2*m+1)/2=m from by omega,show 2*m/2=m from by omega]
  cases m.testBit t<;>simp
def E2:List Nat:=[0,1,56,2,57,49,28,3,61,58,42,50,38,29,17,4,62,47,59,36,45,43,51,22,53,39,33,30,24,18,12,5,63,55,48,27,60,41,37,16,46,35,44,21,52,32,23,11,54,26,40,15,34,20,31,10,25,14,19,9,13,8,7,6]
theorem Yu:∀k,k<64->(2^k*285870213051353865)%2^64/2^58<64/\E2[(2^k*285870213051353865)%2^64/2^58]? =some k:=by decide+kernel
theorem DK (n:Nat):IntKind.u64.wrap (n:Int)=((n%2^64:Nat):Int):=by
 have:IntKind.u64.wrap (n:Int)=(n:Int)%18446744073709551616:=by simp[IntKind.wrap,IntKind.bits,IntKind.signed]
 rw[this];omega
theorem Yv (x t:Nat) (ht:t<64):((x:Int)).fdiv (2^min ((t:Int)).toNat IntKind.u64.bits)=((x/2^t:Nat):Int):=by
 rw[aq,show min t IntKind.u64.bits=t from zt (show t<=64 by omega),show(2:Int)^t=((2^t:Nat):Int)from by simp,Int.fdiv_eq_ediv_of_nonneg _ (Int.natCast_nonneg _)];rfl
theorem adt (t:Nat) (ht:t<64):IntKind.u64.wrap (1*2^min ((t:Int)).toNat IntKind.u64.bits)=((2^t:Nat):Int):=by
 have h:(2:Nat)^t<2^64:=Nat.pow_lt_pow_right XT ht;rw[aq,show min t IntKind.u64.bits=t from zt (show t<=64 by omega),Int.one_mul,show(2:Int)^t=((2^t:Nat):Int)from by simp,DK,Nat.mod_eq_of_lt h]
def pz (ws:List Nat):Array Value:=(ws.map fun(x:Nat)=>Value.int .u64 (x:Int)).toArray
theorem iY {ws:List Nat} {k:Nat} (hk:k<ws.length):(pz ws)[k]? =some (.int .u64 (ws.getD k 0:Nat)):=by
 simp[pz,bY,an hk]
theorem tU (ws:List Nat) (k x:Nat):(pz ws).setIfInBounds k (.int .u64 (x:Int))=pz (ws.set k x):=by
 simp[pz,List.map_set]
structure gZ (Ts Tw:TypeId) (n:Nat) (ws:List Nat) (M:aE) (w:World) (bs bw:Nat):Prop where
 ms:M bs
 mw:M bw
 ne:bs≠bw
 s:w.heap[bs]? =some (.cells #[.int .i64 n,.slice (some ⟨bw,0,none⟩) ws.length ws.length] Ts (0,0))
 w:w.heap[bw]? =some (.cells (pz ws) Tw (0,0))
 len:ws.length=(n+63)/64
 ok:Words ws
 nn:n<=1099511627776
theorem gZ.step {Ts Tw:TypeId} {n:Nat} {ws:List Nat} {M M' N:aE} {w w':World} {bs bw:Nat} (h:gZ Ts Tw n ws M w bs bw) (s:Step M w M' w' N) (h1: ¬N bs) (h2: ¬N bw):gZ Ts Tw n ws M' w' bs bw:=
 ⟨(s.mem bs (ae h.s)).2 h.ms,(s.mem bw (ae h.w)).2 h.mw,h.ne,s.bL h.s h1,s.bL h.w h2,h.len,h.ok,h.nn⟩
theorem gZ.put {Ts Tw:TypeId} {n:Nat} {ws uH:List Nat} {M:aE} {w w':World} {bs bw:Nat} (h:gZ Ts Tw n ws M w bs bw) (s:Step M w M w' (λb=>b=bw)) (hl:uH.length=ws.length) (hw:w'.heap[bw]? =some (.cells (pz uH) Tw (0,0))) (ok:Words uH):gZ Ts Tw n uH M w' bs bw:=
 ⟨h.ms,h.mw,h.ne,by rw[hl];exact s.bL h.s h.ne,hw,by rw[hl];exact h.len,ok,h.nn⟩
def TQ (n:Nat) (ws:List Nat) (i:Int):Bool:=decide (0<=i/\i<n)&&bit ws i.toNat
section
variable {P:Program} {r:Option Nat} {n:Nat} {L:Sl} {ds:List Deferred} {w:World} {K:Kt} {ops:Array Oper} {rest:List Oper} {d:Nat} {x:Operand} {ty:TypeId} {pos:String} {af:Array Edge}
end
theorem DL (ws:List Nat) {k x:Nat} (hk:k<ws.length) (j:Nat):bit (ws.set k x) j=if j/64=k then x.testBit (j%64)else bit ws j:=by
 unfold bit;rw[Fw _ _ _ _ hk]
 split<;>rfl
theorem O9 {x t:Nat} (hx:x<2^64) (ht:t<64):(2^64-1-x).testBit t= !x.testBit t:=by
 rw[show 2^64-1-x=2^64-(x+1)from by omega,Nat.testBit_two_pow_sub_succ hx,decide_eq_true ht,cT]
theorem Uq {ws:List Nat} {j:Nat} (h:ws.length<=j/64):bit ws j=false:=by
 unfold bit;rw[bY,dr h];simp
theorem Fy (k j:Nat):bit (List.replicate k 0) j=false:=by
 unfold bit;rw[bY,List.getElem?_replicate]
 split<;>simp
def WC (ws:List Nat) (p:Nat) (r:Int):Prop:=(∃j:Nat,r=j/\p<=j/\bit ws j=true/\∀t,p<=t->t<j->bit ws t=false)\/(r= -1/\∀t,p<=t->bit ws t=false)
theorem zX {ws:List Nat} {i t:Nat} (h:i%64+t<64):bit ws (i+t)=(ws.getD (i/64) 0/2^(i%64)).testBit t:=by
 unfold bit;rw[Fx,show(i+t)/64=i/64 from by omega,show(i+t)%64=t+i%64 from by omega]
theorem Fz {x i:Nat} (hx:x<2^64) (hi:i<64) {k m:Nat} (h:x/2^i=2^k*(2*m+1)):i+k<64:=by
 rcases cL (i+k) 64 with h1|h1
 ·exact h1
 ·exfalso;have h2:(x/2^i).testBit k=true:=by rw[h];exact DJ.1
  rw[Fx]at h2;have:=Nat.testBit_lt_two_pow (lG hx (nQ (n:=2) XT (show 64<=k+i by omega)));rw[this]at h2;cases h2
abbrev Fo:=Int×Int
abbrev Tw:=Int×Int×Int
abbrev RT.fo:RT Fo:=RT.pair (RT.int .i64) (RT.int .i64)
theorem WD:Part RT.fo (RT.int .i64) (λp=>p.1) 0:=kO _ _
theorem fo1:Part RT.fo (RT.int .i64) (λp=>p.2) 1:=fH _ _
def RT.E3:RT Nat where
 n:=1
 agg:=false
 R:=λ_ _ b vs=>vs=[.pointer (some ⟨b,0,none⟩)]
 len:=by rintro _ _ x vs rfl;rfl
 one:=by rintro _ _ x vs rfl v hv;simp at hv;subst hv;rfl
 le:=λ_ h=>h
theorem oK {M:aE} {w:World} {b:Nat} {v:Value}:RT.E3.V M w b v↔v= .pointer (some ⟨b,0,none⟩):=⟨fun⟨_,h1,h2⟩=>by cases h1;exact h2,λh=>⟨_,G,h⟩⟩
def mn (l:List Fo) (x:Int):Int:=match l with| []=>x|p::_=>min x p.1
def hit (l:List Fo) (x:Int):Bool:=match l with| []=>false|p::_=>decide (p.1=x)
def gj (l:List Fo) (x:Int):List Fo:=if hit l x then l.tail else l
def oL (l:List Fo) (x s:Int):Int:=if hit l x then IntKind.i64.wrap (s+(l.headD (0,0)).2)else s
def oM (l:List Fo) (x m:Int):Int:=if hit l x then m+1 else m
def jv (a b:List Fo):Int:=mn b (mn a 2147483648)
def TR (a b:List Fo) (k:Nat):Int:=if k=0 then 2147483648 else if k=1 then mn a 2147483648 else jv a b
def sV (a b:List Fo) (k:Nat):Int:=if k=0 then 0 else if k=1 then oM a (jv a b) 0 else oM b (jv a b) (oM a (jv a b) 0)
def sY (a b:List Fo) (k:Nat):Int:=if k=0 then 0 else if k=1 then oL a (jv a b) 0 else oL b (jv a b) (oL a (jv a b) 0)
def lK (l:List Fo) (x:Int) (c:Bool):List Fo:=if c then gj l x else l
def uI (l:List Fo):Prop:=∀p∈l,-9223372036854775808<=p.1/\p.1<2147483648
theorem lz {a b lk:List Fo} {k:Nat} (h: [a,b][k]? =some lk):TR a b (k+1)=mn lk (TR a b k):=by
 match k with
 |0=>simp at h;subst h;simp[TR]
 |1=>simp at h;subst h;simp[TR,jv]
 |k+2=>simp at h
theorem jc {a b lk:List Fo} {k:Nat} (h: [a,b][k]? =some lk):sV a b (k+1)=oM lk (jv a b) (sV a b k):=by
 match k with
 |0=>simp at h;subst h;simp[sV]
 |1=>simp at h;subst h;simp[sV]
 |k+2=>simp at h
theorem jd {a b lk:List Fo} {k:Nat} (h: [a,b][k]? =some lk):sY a b (k+1)=oL lk (jv a b) (sY a b k):=by
 match k with
 |0=>simp at h;subst h;simp[sY]
 |1=>simp at h;subst h;simp[sY]
 |k+2=>simp at h
theorem KF (a b:List Fo) (k:Nat):0<=sV a b k/\sV a b k<=2:=by
 unfold sV oM
 repeat' split
 all_goals omega
theorem Ur {a b:List Fo} (ha:uI a) (hb:uI b): -9223372036854775808<=jv a b/\jv a b<=2147483648:=by
 unfold jv mn
 split
 ·split
  ·omega
  ·have:=ha _ (bK ..);omega
 ·have:=hb _ (bK ..)
  split
  ·omega
  ·have:=ha _ (bK ..);omega
theorem Us (a b:List Fo) (k:Nat): -9223372036854775808<=sY a b k/\sY a b k<=9223372036854775807:=by
 have hw:=λx=>Fm (x:=x)
 unfold sY oL
 repeat' split
 all_goals first|exact hw _|omega
theorem FA (l:List Fo) (x:Int):(gj l x).length<=l.length:=by
 unfold gj;split
 ·simp
 ·exact aX _
theorem FB {l:List Fo} {x:Int} (h:hit l x=true):(gj l x).length<l.length:=by
 unfold gj;rw[if_pos h]
 cases l with
 |nil=>simp[hit]at h
 |cons p l=>simp
theorem uI.rest {l:List Fo} (h:uI l) (x:Int):uI (gj l x):=by
 unfold gj;split
 ·exact λp hp=>h p (List.mem_of_mem_tail hp)
 ·exact h
theorem xj {p:Fo} {l:List Fo} {x:Int} (h:p.1=x):hit (p::l) x=true:=decide_eq_true h
theorem Pb {a b:List Fo} (ha:uI a) (hb:uI b) (h:a≠[]\/b≠[]):hit a (jv a b)=true\/hit b (jv a b)=true:=by
 cases a with
 |nil=>
  cases b with
  |nil=>simp at h
  |cons q b=>
   have:=hb q (bK ..);exact .inr (xj (show q.1=min 2147483648 q.1 by omega))
 |cons p a=>
  have h1:=ha p (bK ..)
  cases b with
  |nil=>exact .inl (xj (show p.1=min 2147483648 p.1 by omega))
  |cons q b=>
   have h2:=hb q (bK ..);rcases Int.lt_or_le q.1 p.1 with h3|h3
   ·exact .inr (xj (show q.1=min (min 2147483648 p.1) q.1 by omega))
   ·exact .inl (xj (show p.1=min (min 2147483648 p.1) q.1 by omega))
theorem rQ {a b:List Fo} (ha:uI a) (hb:uI b) (h:a≠[]\/b≠[]):(gj a (jv a b)).length+(gj b (jv a b)).length<a.length+b.length:=by
 have h1:=FA a (jv a b);have h2:=FA b (jv a b);rcases Pb ha hb h with h3|h3
 ·have:=FB h3;omega
 ·have:=FB h3;omega
def Pc (least:Int):Nat->List Fo->List Fo->List Fo
 |0,_,_=>[]
 |n+1,a,b=>if a=[]/\b=[]then[]else(if least<=sV a b 2 then[(jv a b,sY a b 2)]else[])++Pc least n (gj a (jv a b)) (gj b (jv a b))
theorem FC (least:Int):∀(n m:Nat) (a b:List Fo),uI a->uI b->a.length+b.length<=n->n<=m->Pc least m a b=Pc least n a b
 |0,m,a,b,_,_,h,_=>by
  have ha:a=[]:=dI.1 q0;have hb:b=[]:=dI.1 q0
  cases m with
  |zero=>rfl
  |succ m=>subst ha;subst hb;simp[Pc]
 |n+1,0,a,b,_,_,_,h=>by omega
 |n+1,m+1,a,b,ha,hb,h1,h2=>by
  rw[Pc,Pc]
  split
  ·rfl
  ·rename_i h3
   rw[FC least n m _ _ (ha.rest _) (hb.rest _) (by have:=rQ ha hb (by by_cases h:a=[];right;exact λh'=>h3 ⟨h,h'⟩;left;exact h);omega) q0]
def H3 (least:Int) (a b:List Fo):List Fo:=Pc least (a.length+b.length) a b
theorem Ut (least:Int):H3 least [] []=[]:=rfl
theorem vh {least:Int} {a b:List Fo} (ha:uI a) (hb:uI b) (h:a≠[]\/b≠[]):H3 least a b=(if least<=sV a b 2 then[(jv a b,sY a b 2)]else[])++H3 least (gj a (jv a b)) (gj b (jv a b)):=by
 have h1:=rQ ha hb h;unfold H3;obtain⟨n,hn⟩:∃n,a.length+b.length=n+1:=⟨a.length+b.length-1,by omega⟩;rw[hn,Pc,if_neg (by rintro⟨h2,h3⟩;rcases h with h|h;exact h h2;exact h h3),FC least _ n _ _ (ha.rest _) (hb.rest _) (aX _) q0]
theorem DM:∀(least:Int) (n:Nat) (a b:List Fo),(Pc least n a b).length<=n
 |_,0,_,_=>by simp[Pc]
 |least,n+1,a,b=>by
  rw[Pc]
  split
  ·simp
  ·have:=DM least n (gj a (jv a b)) (gj b (jv a b));rw[bU]
   split<;>simp<;>omega
theorem Pd {M:aE} {w:World} {a b:Int} (ha: -9223372036854775808<=a/\a<=9223372036854775807) (hb: -9223372036854775808<=b/\b<=9223372036854775807):RT.fo.V M w (a,b) (.agg [.int .i64 a,.int .i64 b].toArray):=
 fR (iG ha) (iG hb) rfl rfl rfl rfl
def tW (l:List Fo) (d:Int):Bool:=l.any λp=>decide (p.1=d)
theorem Mi {l:List Fo} {k:Nat} {p:Fo} (h:l[k]? =some p) (d:Int):tW (l.take (k+1)) d=(tW (l.take k) d||decide (p.1=d)):=by
 obtain⟨h1,h2⟩:=al.1 h;unfold tW;rw[tq h1,h2,List.any_append];simp
def qY (a:List Fo) (p:Nat):List Fo:=((List.range p).filter fun(d:Nat)=> !tW a (d:Int)).map fun(d:Nat)=>((d:Int),0)
theorem CH (a:List Fo) (p:Nat):qY a (p+1)=qY a p++if tW a (p:Int)then[]else[((p:Int),0)]:=by
 unfold qY;rw[List.range_succ,fp,ed];congr 1
 cases h:tW a (p:Int)<;>simp[List.filter,h]
theorem xm {a:List Fo} {p:Nat}:∀(j:Nat),p<=j->(∀t,p<=t->t<j->tW a (t:Int)=true)->qY a j=qY a p
 |j,h1,h2=>by
  rcases cL p j with h|h
  ·obtain⟨c,rfl⟩:∃c,j=c+1:=⟨j-1,by omega⟩;rw[CH,h2 c q0 q0,if_pos rfl,fS];exact xm c q0 (λt h3 h4=>h2 t h3 q0)
  ·rw[show j=p from by omega]
theorem FD (a:List Fo) (p:Nat):(qY a p).length<=p:=by
 unfold qY;rw[bT];exact ep (fI _ _) (by rw[List.length_range];exact aX _)
end Go.K
namespace Go.K
open Go.RowKit (Below)
open Go.Maps (Keyed)
open Go.ChangeMaps (putKey delKey notKey)
abbrev DU:=DataW Unit
theorem CI {P:Program} {k:TypeId} {R:Value->Option (DU×List MemPlace)} {w:World} {b n:Nat} {m:List (Lit×DU)} (h:w.ownsMap P k R b n (.map m)):w.ownsMap P k R b m.length (.map m):=by
 obtain⟨es,clock,h1,h2,h3,h4⟩:=h;refine⟨es,clock,h1,h2,?_,h4⟩;have:m=(es.toList.map (Go.WideElems.rg P k R)).foldr DataW.insert []:=by injection h4
 rw[this,length_sorted,bT,Array.length_toList];exact aX _
structure lM (P:Program) (k:TypeId) (R:Value->Option (DU×List MemPlace)) (M:aE) (w:World) (b:Nat) (m:List (Lit×DU)):Prop where
 mut_:M b
 own:w.ownsMap P k R b m.length (.map m)
section
variable {P:Program} {r:Option Nat} {n:Nat} {L:Sl} {ds:List Deferred} {w:World} {K:Kt} {ops:Array Oper} {rest:List Oper} {d:Nat} {x y z:Operand} {ty:TypeId} {pos:String} {af:Array Edge}
variable {kt:TypeId} {R:Value->Option (DU×List MemPlace)} {M:aE} {b:Nat} {m:List (Lit×DU)}
theorem lM.lt (h:lM P kt R M w b m):b<w.heap.size:=h.own.lt
theorem lM.step {M' N:aE} {w':World} (h:lM P kt R M w b m) (s:Step M w M' w' N) (hn: ¬N b):lM P kt R M' w' b m:=by
 obtain⟨hm,es,clock,h1,h2,h3,h4⟩:=h;exact⟨(s.mem b (ae h1)).2 hm,es,clock,s.bL h1 hn,h2,h3,h4⟩
theorem lM.bD {M':aE} {w':World} (h:lM P kt R M w b m) (s:Step M w M' w' ar):lM P kt R M' w' b m:=h.step s λh=>h
theorem lM.ne {cs:Array Value} {e:TypeId} {fr:Nat×Nat} {c:Nat} (h:lM P kt R M w b m) (hc:w.heap[c]? =some (.cells cs e fr)):b≠c:=λe=>by
 subst e;obtain⟨_,es,clock,h1,_⟩:=h;rw[h1]at hc;cases hc
theorem Step.DN {w w':World} (h:Below w.heap.size w w') (M:aE):Step M w M w' ar:=
 ⟨λh0 b hb=>lG (h0 b hb) h.size,h.os,h.tape,h.output,h.size,λ_ _=>Iff.rfl,λb hb _=>h.block b hb,λ_ h=>h.elim⟩
theorem Step.grownBy {w w':World} {b:Nat} (h:w.grownBy w' (some b)) (hm:M b):Step M w M w' (λk=>k=b):=
 ⟨λh0 b hb=>lG (h0 b hb) h.size,h.os,h.tape,h.output,h.size,λ_ _=>Iff.rfl,λk hk hn=>h.block k hk (λe=>hn (aF e)),λk hk=>by rw[hk];exact hm⟩
theorem Rg.makeMap {t e:TypeId} (M:aE) (ht:P.underlying t=some (.map kt e)) (hd:Nat.blt d n=true) (R:Value->Option (DU×List MemPlace))
  (k:∀b w',w.heap.size<=b->b<w'.heap.size->lM P kt R (ins M b) w' b []->Step M w (ins M b) w' ar->Rg P r n ops rest ((d,.map (some b))::L) ds w' K):
  Rg P r n ops ({dst:=some d,op:= .makeMap t none,type:=ty,pos,after:=af,guard:=none}::rest) L ds w K:=by
 refine .op a06 G G hd (.map (some w.heap.size)) (w.alloc (.map #[] 0)) (λρ hρ=>?_) (k w.heap.size _ (aX _) (by simp) ⟨.inl G,World.ownsMap_made w P kt R⟩ ((dL M w _).own (aX _) (by simp)));simp only[execOp];simp[Instr.makeMap,newObj,Sem.run,run_underlying ht]
theorem Rg.tX {t e:TypeId} {zv key:Value} {size bytes:Nat} {zd:DU} {zp:List MemPlace} {kl:Lit} (ht:P.underlying t=some (.map kt e)) (Kk:Keyed P kt) (hi:TI P e zv size bytes) (hzd:R zv=some (zd,zp)) (hx:ev L x=some (.map (some b))) (hy:ev L y=some key) (hd:Nat.blt d n=true) (j6:keyOf P kt key=some kl) (h:lM P kt R M w b m)
  (k:∀v ps,R v=some ((DataW.map m).atKey kl zd,ps)->Rg P r n ops rest ((d,v)::L) ds w K):
  Rg P r n ops ({dst:=some d,op:= .lookup t x y false,type:=ty,pos,after:=af,guard:=none}::rest) L ds w K:=by
 obtain⟨inf,i1,i2,_,_⟩:=hi.get;obtain⟨v,ps,gO,hv⟩:=h.own.lookup Kk ht (z:=zv) (by simp[zeroValue,typeInfo,i1,i2]) hzd j6;refine .op a06 G G hd v w (λρ hρ=>?_) (k v ps hv);simp only[execOp,hρ x _ hx,hρ y _ hy];simp[cB,gO]
theorem Rg.Yw {t e:TypeId} {key val:Value} {kl:Lit} {dv:DU} {ps:List MemPlace} (ht:P.underlying t=some (.map kt e)) (Kk:Keyed P kt) (hx:ev L x=some (.map (some b))) (hy:ev L y=some key) (hz:ev L z=some val) (j6:keyOf P kt key=some kl) (hv:R val=some (dv,ps)) (h:lM P kt R M w b m) (hlen:m.length<maxLen)
  (k:∀w',lM P kt R M w' b (putKey kl dv m)->Step M w M w' (λk=>k=b)->Rg P r n ops rest L ds w' K):
  Rg P r n ops ({dst:=none,op:= .mapUpdate t x y z,type:=ty,pos,after:=af,guard:=none}::rest) L ds w K:=by
 obtain⟨w',gO,ho,hg⟩:=h.own.update Kk ht hlen j6 hv;rw[DataW.put_eq]at ho;refine .Wn a06 G G w' (λρ hρ=>?_) (k w' ⟨h.mut_,CI ho⟩ (.grownBy hg h.mut_));simp only[execOp,hρ x _ hx,hρ y _ hy,hρ z _ hz];simp[cB,gO]
theorem Rg.Yx {t e:TypeId} {key:Value} {kl:Lit} (ht:P.underlying t=some (.map kt e)) (Kk:Keyed P kt) (hx:ev L x=some (.map (some b))) (hy:ev L y=some key) (j6:keyOf P kt key=some kl) (h:lM P kt R M w b m)
  (k:∀w',lM P kt R M w' b (delKey kl m)->Step M w M w' (λk=>k=b)->Rg P r n ops rest L ds w' K):
  Rg P r n ops ({dst:=none,op:= .call {callee:= .builtin .delete,args:= #[x,y],argTypes:= #[t,kt]},type:=ty,pos,after:=af,guard:=none}::rest) L ds w K:=by
 obtain⟨w',gO,ho,hg⟩:=h.own.drop Kk ht j6 ty;rw[DataW.del_eq]at ho;refine .opv a06 G G (.tuple #[]) w' (λρ hρ=>?_) (k w' ⟨h.mut_,CI ho⟩ (.grownBy hg.grown h.mut_));simp only[execOp,resolve,gL,dC,jw,hρ x _ hx,hρ y _ hy];simp[Go.invoke,builtin,gO]
end
def vm:Value->Option (DU×List MemPlace)
 |.pointer (some ⟨b,0,none⟩)=>some (.lit (.int .i64 (b:Int)),[])
 |.pointer none=>some (.lit (.int .i64 (-1)),[])
 |_=>none
theorem kW {v:Value} {b:Nat} {ps:List MemPlace} (h:vm v=some (.lit (.int .i64 (b:Int)),ps)):v= .pointer (some ⟨b,0,none⟩):=by
 unfold vm at h
 split at h
 ·simp only[Option.some.injEq,Prod.mk.injEq,DataW.lit.injEq,Lit.int.injEq,true_and]at h
  rename_i b'
  obtain⟨h,_⟩:=h;obtain rfl:b'=b:=by omega
  rfl
 ·simp only[Option.some.injEq,Prod.mk.injEq,DataW.lit.injEq,Lit.int.injEq,true_and]at h;obtain⟨h,_⟩:=h;omega
 ·cases h
def su (p:Int×Nat):Lit×DU:=(.int .i64 p.1,.lit (.int .i64 (p.2:Int)))
def xn (p:Int×Nat):List (Int×Nat)->List (Int×Nat)
 |[]=>[p]
 |q::l=>if p.1<q.1 then p::q::l else q::xn p l
theorem FE (p:Int×Nat):∀l,DataW.insert (su p) (l.map su)=(xn p l).map su
 |[]=>rfl
 |q::l=>by
  simp only[dC,DataW.insert,xn,su,Lit.before];by_cases h:p.1<q.1
  ·simp[h,su]
  ·simp only[h,decide_false,Bool.false_eq_true,if_false,dC];have:=FE p l;simp only[su]at this;rw[this];rfl
theorem FF (p:Int×Nat):∀l,(xn p l).length=l.length+1
 |[]=>rfl
 |q::l=>by
  simp only[xn];split
  ·rfl
  ·simp[FF p l]
theorem jU (p:Int×Nat):∀l x,x∈xn p l↔x=p\/x∈l
 |[],x=>by simp[xn]
 |q::l,x=>by
  simp only[xn];split
  ·simp
  ·rw[cU,jU p l x,cU];constructor
   ·rintro(h|h|h);exact .inr (.inl h);exact .inl h;exact .inr (.inr h)
   ·rintro(h|h|h);exact .inr (.inl h);exact .inl h;exact .inr (.inr h)
theorem Iv (i:Int) (p:Int×Nat):notKey (.int .i64 i) (su p)= !decide (p.1=i):=by simp[notKey,su,Lit.sameKey]
theorem zY (i:Int) (l:List (Int×Nat)):delKey (.int .i64 i) (l.map su)=(l.filter λp=> !decide (p.1=i)).map su:=by
 unfold delKey;rw[List.filter_map];congr 1;refine List.filter_congr λq _=> ?_
 exact Iv i q
theorem Iw (i:Int) (b:Nat) (l:List (Int×Nat)):putKey (.int .i64 i) (.lit (.int .i64 (b:Int))) (l.map su)=(xn (i,b) (l.filter λp=> !decide (p.1=i))).map su:=by
 have:=zY i l;unfold delKey at this;unfold putKey;rw[this];exact FE (i,b) _
def DO (l:List (Int×Nat)):Prop:=l.Pairwise λp q=>p.1≠q.1
theorem CJ (p:Int×Nat):∀l,(xn p l).Perm (p::l)
 |[]=>List.Perm.refl _
 |q::l=>by
  simp only[xn];split
  ·exact List.Perm.refl _
  ·exact((CJ p l).cons q).trans (List.Perm.swap p q l)
theorem DO.ins {p:Int×Nat} {l:List (Int×Nat)} (h:DO l) (hp:∀q∈l,q.1≠p.1):DO (xn p l):=
 ((CJ p l).symm.pairwise (eV.2 ⟨λq hq e=>hp q hq e.symm,h⟩) (λ{_ _} fw=>Ne.symm fw))
theorem filter_none {l:List (Int×Nat)} {i:Int} (h:∀q∈l,q.1≠i):(l.filter λp=> !decide (p.1=i))=l:=List.filter_eq_self.2 λq hq=>by simp[h q hq]
theorem Ix {l:List (Int×Nat)} {i:Int} {b:Nat} (h:DO l) (hm:(i,b)∈l):(l.filter λp=> !decide (p.1=i)).length+1=l.length:=by
 induction l with
 |nil=>cases hm
 |cons q l ih=>
  obtain⟨h1,h2⟩:=eV.1 h;rcases cU.1 hm with e|hm
  ·subst e;rw[fO (by simp),filter_none (λq hq e=>h1 q hq e.symm)];rfl
  ·have fw:q.1≠i:=λe=>h1 _ hm e
   rw[fP (by simp[fw]),cy,cy,ih h2 hm]
theorem DO.filter {l:List (Int×Nat)} (h:DO l) (i:Int):DO (l.filter λp=> !decide (p.1=i)):=List.Pairwise.filter _ h
theorem atKey_mem {l:List (Int×Nat)} {i:Int} {b:Nat} {z:DU} (h:DO l) (hm:(i,b)∈l):(DataW.map (l.map su)).atKey (.int .i64 i) z= .lit (.int .i64 (b:Int)):=by
 induction l with
 |nil=>cases hm
 |cons q l ih=>
  obtain⟨h1,h2⟩:=eV.1 h;simp only[DataW.atKey,dC];rcases cU.1 hm with e|hm
  ·subst e;rw[List.find?_cons_of_pos (by simp[su,Lit.sameKey])];rfl
  ·have fw:q.1≠i:=λe=>h1 _ hm e
   rw[List.find?_cons_of_neg (by simp[su,Lit.sameKey,fw])];exact ih h2 hm
end Go.K
namespace Go.Proofs
open Go.Shelf
def Tryz.CK:Go.Shelf.Ren:=⟨fun|7=>99|10=>152|n=>n,fun|23=>180|26=>9|3=>117|28=>193|0=>0|27=>192|33=>124|4=>4|n=>n,fun|n=>n⟩
theorem Tryz.KG:Go.Proofs.SlLaysZ.n7 Tryz.prog Tryz.CK:={
 mixed:=by kernel_rfl
 f7:=⟨Tryz.f99.name,by decide,Tryz.func99.trans a04⟩
 f10:=⟨Tryz.f152.name,by decide,Tryz.func152.trans a04⟩
 t0:=BL
 a0:=Tryz.isAgg0
 z0:=Tryz.sizeOf0
 v0:=Tryz.zeroValue0
 t4:=qM
 a4:=Tryz.isAgg4
 z4:=Tryz.sizeOf4
 v4:=Tryz.zeroValue4
 t23:=fW
 a23:=Tryz.isAgg180
 z23:=Tryz.sizeOf180
 v23:=Tryz.zeroValue180
 t26:=aG
 a26:=Tryz.isAgg9
 z26:=BM
 v26:=od
 t27:=Tryz.underlying192
 a27:=Tryz.isAgg192
 z27:=Tryz.sizeOf192
 v27:=Tryz.zeroValue192
 t28:=Tryz.underlying193
 a28:=Tryz.isAgg193
 z28:=Tryz.sizeOf193
 v28:=Tryz.zeroValue193
 t33:=Tryz.underlying124
 a33:=Tryz.isAgg124
 z33:=Tryz.sizeOf124
 v33:=Tryz.zeroValue124}
def Tryz.yt:Go.Shelf.Ren:=⟨fun|6=>98|8=>150|9=>151|11=>190|13=>179|12=>191|23=>237|24=>238|14=>255|15=>256|16=>257|17=>258|18=>259|19=>260|20=>261|21=>262|22=>263|25=>295|26=>276|27=>277|28=>296|29=>297|30=>298|31=>315|n=>n,fun|26=>9|28=>193|24=>25|0=>0|3=>3|37=>262|48=>336|50=>205|4=>4|40=>330|39=>329|45=>198|5=>5|9=>9|51=>357|55=>361|57=>390|58=>276|33=>124|n=>n,fun|n=>n⟩
theorem Tryz.Uu:Go.Proofs.SlLaysZ.n6 Tryz.prog Tryz.yt:={
 mixed:=by kernel_rfl
 f6:=⟨Tryz.f98.name,by decide,Tryz.func98.trans a04⟩
 f8:=⟨Tryz.f150.name,by decide,Tryz.func150.trans a04⟩
 f11:=⟨Tryz.f190.name,by decide,Tryz.func190.trans a04⟩
 t0:=BL
 a0:=Tryz.isAgg0
 z0:=Tryz.sizeOf0
 v0:=Tryz.zeroValue0
 t24:=aQ
 a24:=Tryz.isAgg25
 z24:=Tryz.sizeOf25
 v24:=Tryz.zeroValue25
 t26:=aG
 a26:=Tryz.isAgg9
 z26:=BM
 v26:=od
 t28:=Tryz.underlying193
 a28:=Tryz.isAgg193
 z28:=Tryz.sizeOf193
 v28:=Tryz.zeroValue193
 i26:=by kernel_rfl}
def Tryz.Ml:Go.Shelf.Ren:=⟨fun|6=>151|8=>179|9=>191|19=>237|20=>238|21=>255|22=>256|23=>257|24=>258|25=>259|26=>260|27=>261|28=>262|29=>263|36=>295|31=>276|32=>277|37=>296|38=>297|39=>298|41=>315|n=>n,fun|27=>25|29=>9|3=>3|32=>262|26=>25|0=>0|44=>336|46=>205|4=>4|36=>330|35=>329|41=>198|5=>5|9=>9|53=>357|57=>361|63=>390|64=>276|n=>n,fun|n=>n⟩
theorem Tryz.WE:Go.Proofs.SlLaysM.n6 Tryz.prog Tryz.Ml:={
 mixed:=by kernel_rfl
 f6:=⟨Tryz.f151.name,by decide,Tryz.func151.trans a04⟩
 f8:=Tryz.func179.trans a04
 f9:=⟨Tryz.f191.name,by decide,Tryz.func191.trans a04⟩
 f19:=Tryz.func237.trans a04
 f20:=Tryz.func238.trans a04
 f21:=⟨Tryz.f255.name,by decide,Tryz.func255.trans a04⟩
 f22:=⟨Tryz.f256.name,by decide,Tryz.func256.trans a04⟩
 f23:=⟨Tryz.f257.name,by decide,Tryz.func257.trans a04⟩
 f24:=⟨Tryz.f258.name,by decide,Tryz.func258.trans a04⟩
 f25:=⟨Tryz.f259.name,by decide,Tryz.func259.trans a04⟩
 f26:=⟨Tryz.f260.name,by decide,Tryz.func260.trans a04⟩
 f27:=⟨Tryz.f261.name,by decide,Tryz.func261.trans a04⟩
 f28:=⟨Tryz.f262.name,by decide,Tryz.func262.trans a04⟩
 f29:=⟨Tryz.f263.name,by decide,Tryz.func263.trans a04⟩
 f31:=Tryz.func276.trans a04
 f32:=Tryz.func277.trans a04
 f36:=⟨Tryz.f295.name,by decide,Tryz.func295.trans a04⟩
 f37:=⟨Tryz.f296.name,by decide,Tryz.func296.trans a04⟩
 f38:=⟨Tryz.f297.name,by decide,Tryz.func297.trans a04⟩
 f39:=⟨Tryz.f298.name,by decide,Tryz.func298.trans a04⟩
 f41:=⟨Tryz.f315.name,by decide,Tryz.func315.trans a04⟩
 t0:=BL
 a0:=Tryz.isAgg0
 z0:=Tryz.sizeOf0
 v0:=Tryz.zeroValue0
 t3:=aj
 a3:=Tryz.isAgg3
 z3:=Tryz.sizeOf3
 v3:=Tryz.zeroValue3
 t4:=qM
 a4:=Tryz.isAgg4
 z4:=Tryz.sizeOf4
 v4:=Tryz.zeroValue4
 t5:=cZ
 a5:=Tryz.isAgg5
 z5:=Tryz.sizeOf5
 v5:=Tryz.zeroValue5
 t9:=aG
 a9:=Tryz.isAgg9
 z9:=BM
 v9:=od
 t26:=aQ
 a26:=Tryz.isAgg25
 z26:=Tryz.sizeOf25
 v26:=Tryz.zeroValue25
 t27:=aQ
 a27:=Tryz.isAgg25
 z27:=Tryz.sizeOf25
 v27:=Tryz.zeroValue25
 t29:=aG
 a29:=Tryz.isAgg9
 z29:=BM
 v29:=od
 t32:=Tryz.underlying262
 a32:=Tryz.isAgg262
 z32:=Tryz.sizeOf262
 v32:=Tryz.zeroValue262
 t35:=Tryz.underlying329
 a35:=Tryz.isAgg329
 z35:=Tryz.sizeOf329
 v35:=Tryz.zeroValue329
 t36:=Tryz.underlying330
 a36:=Tryz.isAgg330
 z36:=Tryz.sizeOf330
 v36:=Tryz.zeroValue330
 t41:=Tryz.underlying198
 a41:=Tryz.isAgg198
 z41:=Tryz.sizeOf198
 v41:=Tryz.zeroValue198
 t44:=Tryz.underlying336
 a44:=Tryz.isAgg336
 z44:=Tryz.sizeOf336
 v44:=Tryz.zeroValue336
 t46:=jY
 a46:=Tryz.isAgg205
 z46:=Tryz.sizeOf205
 v46:=Tryz.zeroValue205
 t53:=Tryz.underlying357
 a53:=Tryz.isAgg357
 z53:=Tryz.sizeOf357
 v53:=Tryz.zeroValue357
 t57:=Tryz.underlying361
 a57:=Tryz.isAgg361
 z57:=Tryz.sizeOf361
 v57:=Tryz.zeroValue361
 t63:=Tryz.underlying390
 a63:=Tryz.isAgg390
 z63:=Tryz.sizeOf390
 v63:=Tryz.zeroValue390
 t64:=Tryz.underlying276
 a64:=Tryz.isAgg276
 z64:=Tryz.sizeOf276
 v64:=Tryz.zeroValue276}
end Go.Proofs
namespace Go.K
open Go.Proofs
set_option maxRecDepth 10000
open Go.RowKit Go.Maps Go.Sort Go.Shelf
theorem Yy (m:Nat):AnyZ.SortsIn Tryz.prog Tryz.yt Fence.wide m:=
 ⟨λlW off cap ss W hH hblk lP=>callsIn_wide.2 (AnyM.slices_Sort_string Tryz.WE lW off cap ss W hH hblk lP),
  λp cap W=>callsIn_wide.2 (AnyM.slices_Sort_string_none Tryz.WE p cap W)⟩
theorem zZ (mb:Option Nat) (w:World):Spec Tryz.prog 99 #[.map mb] w (λv w'=>v= .func (.func 152) #[] #[.pointer (some ⟨w.heap.size,0,none⟩)]/\w'=w.alloc (.cells #[.map mb] 180)):=
 (callsIn_wide (n:=5)).1 ((AnyZ.keys_in Tryz.KG Fence.wide 5 trivial rfl mb w).mono λe w' ⟨h1,h2⟩=>⟨_,h1,rfl,h2⟩)
theorem vq {R:Value->Option (DU×List MemPlace)} {M:aE} {w:World} {b bb:Nat} {m:List (Lit×DU)} (h:lM Tryz.prog 9 R M w b m) (H4:w.cell? ⟨bb,0,none⟩=some (.map (some b))) (hl:m.length<=1099511627776):
  Spec Tryz.prog 98 #[.func (.func 152) #[] #[.pointer (some ⟨bb,0,none⟩)]] w (λv w'=>(∃ss:List (List UInt8),ss.Perm (strKeys (DataW.map m))/\w'.ownsRow w.heap.size 9 1 v ss.length ((ss.mergeSort (λx y=>decide (x<=y))).map encStr)/\(v= .slice none 0 0↔ss=[]))/\Step M w M w' ar):=by
 have ajW:SeqGives Fence.wide 2 Tryz.prog 152 #[.pointer (some ⟨bb,0,none⟩)] encStr (λss=>ss.Perm (strKeys (DataW.map m))) (Maps.size (DataW.map m)) w:=
  AnyZ.keys_gives (ρ:=Tryz.CK) {Tryz.KG with} Fence.wide _ trivial rfl q0 bb b m.length (DataW.map m) _ (World.block_lt_of_cell? w _ H4) H4 h.own
 have lP:Maps.size (DataW.map m)=m.length:=rfl;have cS:=AnyZ.sorted_in Tryz.Uu Fence.wide 5 trivial trivial trivial trivial rfl q0 (Yy _) (enters_of Tryz.func151 (by kernel_rfl) rfl) 152 #[.pointer (some ⟨bb,0,none⟩)] trivial (enters_of Tryz.func152 (by kernel_rfl) rfl) _ _ (by rw[lP];unfold maxLen;omega) (by rw[lP];omega) _ ajW;exact(callsIn_wide (n:=5)).1 (cS.mono λe w' ⟨v,ss,h1,h2,h3,h4,h5⟩=>⟨v,h1,⟨ss,h2,h3,h4⟩,.DN h5 M⟩)
theorem ta {w w':World} {v:Value} {t:TypeId} (h:w'=w.alloc (.cells #[v] t)):w'.cell? ⟨w.heap.size,0,none⟩=some v:=by
 subst h;exact im (cY w _) G
end Go.K
namespace Go.K
section
variable {P:Program} {r:Option Nat} {n:Nat} {L:Sl} {ds:List Deferred} {w:World} {K:Kt}
def jI (P:Program) (r:Option Nat) (n:Nat) (l:List Oper) (L:Sl) (ds:List Deferred) (wD:World) (K:Kt):Prop:=
 ∀a,iS n a L ds->∃J:(Nat->Prop)->Act->World->Prop,
  (∀(D D':Nat->Prop) a w,J D a w->(∀i,i<l.length->(D' i↔D i))->J D' a w)/\
  (∀(Q:Exit->Act->World->Prop) (D:Nat->Prop) a w j o rest,j<l.length->l[j]? =some o->¬D j->(∀k∈dm o,D k)->(∀i o,l[i]? =some o->D i->∀k∈dm o,D k)->J D a w->(∀a' w',J (λi=>i=j\/D i) a' w'→wpOpsIn (FW r) 0 P l.toArray Q rest a' w')->wpOpsIn (FW r) 0 P l.toArray Q (j::rest) a w)/\
  (∀a w,J (λi=>i<l.length) a w->up n K .normal a w)/\J (λ_=>False) a wD
theorem jI.t {id:Nat} {l:List Oper} (hm:P.follows .mixedOrders=true) (dO:fu l 0=true) (h:∀wD,(∀M,Step M w M wD ar)->jI P r n l L ds wD K):T P r n (.region id l.toArray true) L ds w K:=by
 refine ⟨λa ha=>wpIn_region_draw λt=> ?_⟩;simp only[Region.schedule,hm,Bool.true_or,if_true,Region.linearise];obtain⟨J,h1,h2,h3,h4⟩:=h _ (pg w) a ha;refine mA (J:=J) dO (λ{D D' a w} hi hD=>h1 D D' a w hi hD) (λ{D a' w' j o rest} hj ho oB hp ku hi hk=>h2 _ _ _ _ _ _ _ hj ho oB hp ku hi hk) h3 _ t _ a _ (by simp) a94 (λi o h1 h2=>?_) (h1 _ _ _ _ h4 λi _=>?_)
 ·simp[Array.getElem?_replicate]at h2
 ·simp[Array.getElem?_replicate]
theorem FG {l:List Oper} {wd:World} (m:Nat) (fl:List Nat) (c:Nat) (N:aE) (yM:Nat.blt m l.length=true) (dO:fu l 0=true) (tH:ll l m=true) (Ik:mD l m fl c=true)
  (h:lD P r n l.toArray (l.take m) L ds wd (λL'=>(∀j o,j∈fl->l[j]? =some o->cf P N wd L' o)/\tP P r n l.toArray N wd K c (l.drop m) L' ds wd)):jI P r n l L ds wd K:=by
 intro a ha;have Cx:m<l.length:=by simpa[Nat.blt_eq]using yM
 have jb:∀j,j<m->(l.take m)[j]? =l[j]? :=λj hj=>by rw[dE,if_pos hj]
 obtain⟨am,Lm,vs,Cz,hA,hF,hT⟩:=h.trace (λo ho=>by
  obtain⟨j,hj⟩:=bG.1 ho
  have H2:j<m:=by
   have:=(al.1 hj).1;rw[bF]at this;omega
  exact(lv tH H2 (by rw[<-jb j H2];exact hj)).1) ha
 obtain⟨st,h0,hl,jV⟩:=Cz.DD;have hlen:(l.take m).length=m:=by rw[bF];omega
 rw[hlen]at hl;have yO:∀j o,j<m->l[j]? =some o->∃v,vs[j]? =some v/\One P r l.toArray wd o (st j) v/\st (j+1)=(st j).put o.dst v:=λj o hj ho=>jV j o (by rw[jb j hj];exact ho)
 have lJ:∀i,i<m->∃v,vs[i]? =some v:=λi hi=>by
  obtain⟨v,hv,_⟩:=yO i l[i] hi (an q0);exact⟨v,hv⟩
 have DE:=oD dO h0 yO;have KE:=DE m (aX _) q0;rw[hl]at KE
 refine⟨λD a' w'=>∃p ac Lp,GJ P r n l m fl c N K ds a am wd D a' w' p ac Lp,λD D' a' w' ⟨p,ac,Lp,hi⟩ hD=>⟨p,ac,Lp,hi.p0,hi.p1,λi h3 h4=>(hD i h4).trans (hi.dt i h3 h4),λh i h3 h4=>(hD i q0).2 (hi.df h i h3 h4),hi.ag,hi.tr,hi.bL,λh i h3=>(hD i q0).2 (hi.da h i h3),hi.wm,hi.defers,hi.size,hi.sizec,λt ht=>hi.done t λi o h3 h4 h5=>(hD i q0).1 (ht i o h3 h4 h5),λi o t h3 h4 h5 h6=>hi.pend i o t h3 h4 h5 (λh=>h6 ((hD i q0).2 h)),hi.cm⟩,
  λQ D a' w' j o rest hj ho oB hp ku hi hk=>GJ.next dO tH Ik Cx lJ (λj o hj ho=>by obtain⟨v,h1,h2,_⟩:=yO j o hj ho;exact⟨v,h1,h2⟩) (λj hj=>DE j q0 q0) KE hA hF ho oB hp ku hi hk,λa' w' hJ=>?_,⟨m,am,Lm,aX _,by omega,λi h3 h4=>?_,λh=>by omega,hA,by rw[Nat.add_sub_cancel];exact hT,λ_=>iR _ _,λh=>by omega,λ_=>rfl,ha.defers,rfl,KE.size,λt ht=>?_,λi o t _ _ _ _=>rfl,λt _=>rfl⟩⟩
 ·obtain⟨p,ac,Lp,hi⟩:=hJ
  have yo:p=l.length:=by
   rcases cL p l.length with h3|h3
   ·have:=(hi.dt p hi.p0 h3).1 h3;omega
   ·have:=hi.p1;omega
  have Cz:=hi.tr;rw[yo,fq (aX _)]at Cz;refine⟨Lp,ds,⟨?_,hi.defers,λt v ht=>?_⟩,Cz⟩
  ·rw[hi.size];exact ha.size
  ·rw[hi.done t λi o h3 h4 _=>by omega];exact hi.ag.at_ t v ht
 ·exact⟨False.elim,λh=>by omega⟩
 ·rw[KE.base t λi o h3 h4 _ h5=>(ht i o h3 h4 h5)]
def sw (π:List Nat) (o:Oper):Oper:=⟨o.dst,o.op,o.type,o.pos,o.after.map λe=>{e with on:=π.idxOf e.on},o.guard.map λg=>(π.idxOf g.1,g.2)⟩
def Aa (π:List Nat) (l:List Oper):List Oper:=π.map λi=>sw π (l.getD i default)
def mH (π:List Nat) (k:Nat):Bool:=π.length==k&&π.all (Nat.blt · k)&&(List.range k).all (π.contains ·)&&(List.range k).all λi=>π.idxOf (π.getD i 0)==i
theorem pA {π:List Nat} {k:Nat} (h:mH π k=true):π.length=k/\(∀(i j:Nat),π[i]? =some j->j<k)/\(∀j,j<k->π[π.idxOf j]? =some j)/\(∀(i j:Nat),π[i]? =some j->π.idxOf j=i)/\(∀j,k<=j->π.idxOf j=k):=by
 simp only[mH,cp,beq_iff_eq,eA,Nat.blt_eq,List.mem_range,fJ]at h;obtain⟨⟨⟨h1,h2⟩,h3⟩,h4⟩:=h;refine⟨h1,λi j jt=>h2 j (ax jt),λj hj=>?_,λi j jt=>?_,λj hj=>?_⟩
 ·have eZ:=List.idxOf_lt_length_of_mem (h3 j hj);rw[an eZ,List.getElem_idxOf eZ]
 ·have hi:i<k:=by have:=(al.1 jt).1;omega
  have:=h4 i hi
  rwa [bY,jt,ot]at this
 ·rw[List.idxOf_eq_length (λhm=>by have:=h2 j hm;omega),h1]
theorem DP {π:List Nat} {l:List Oper} (hπ:mH π l.length=true) {j:Nat} {o:Oper} (ho:l[j]? =some o):(Aa π l)[π.idxOf j]? =some (sw π o):=by
 obtain⟨_,_,h3,_⟩:=pA hπ;have hj:=(al.1 ho).1;simp only[Aa,cD,h3 j hj,dq,bY,ho,ot]
theorem Uv {π:List Nat} {l:List Oper} (hπ:mH π l.length=true) {i:Nat} {o':Oper} (ho:(Aa π l)[i]? =some o'):∃j o,π[i]? =some j/\l[j]? =some o/\o'=sw π o:=by
 obtain⟨_,h2,_⟩:=pA hπ;simp only[Aa,cD,tu]at ho;obtain⟨j,hj,rfl⟩:=ho;refine⟨j,_,hj,an (h2 i j hj),?_⟩;rw[bY,an (h2 i j hj),ot]
theorem Ab (π:List Nat) (o:Oper):dm (sw π o)=(dm o).map π.idxOf:=by
 simp only[dm,sw,Array.toList_map,List.filter_map,BN];rfl
theorem FH {π:List Nat} {l:List Oper} (hπ:mH π l.length=true) (tmps:Array Value) (j:Nat):yielded (Aa π l).toArray tmps (π.idxOf j)=yielded l.toArray tmps j:=by
 unfold yielded
 have:((Aa π l).toArray[π.idxOf j]?).bind (·.dst)=(l.toArray[j]?).bind (·.dst):=by
  simp only[fK]
  cases ho:l[j]? with
  |some o=>rw[DP hπ ho];rfl
  |none=>
   have hj:l.length<=j:=List.getElem?_eq_none_iff.1 ho;obtain⟨h1,_,_,_,h5⟩:=pA hπ;rw[h5 j hj,dr (by simp[Aa,h1])]
 rw[this]
theorem Iy {π:List Nat} {l:List Oper} (hπ:mH π l.length=true) (tmps:Array Value) (o:Oper):Region.wanted (sw π o) (yielded (Aa π l).toArray tmps)=Region.wanted o (yielded l.toArray tmps):=by
 unfold Region.wanted sw
 cases o.guard with
 |none=>rfl
 |some g=>simp only[dq,FH hπ]
theorem Uw {π:List Nat} {l:List Oper} (hπ:mH π l.length=true) {Q:Exit->Act->World->Prop} {j:Nat} {o:Oper} {rest:List Nat} {a:Act} (ho:l[j]? =some o)
  (h:wpOpsIn (FW r) 0 P (Aa π l).toArray (λe a w=>match e with| .normal=>wpOpsIn (FW r) 0 P l.toArray Q rest a w|e=>Q e a w) [π.idxOf j] a w):wpOpsIn (FW r) 0 P l.toArray Q (j::rest) a w:=by
 simp only[wpOpsIn,fK,ho,DP hπ ho,Iy hπ]at h ⊢
 split at h
 ·rename_i hw
  rw[if_pos hw];refine ⟨h.1,?_⟩;have h2:=h.2;rw[show Oper.semAt (FW r).round a.eval (sw π o)=Oper.semAt (FW r).round a.eval o from rfl]at h2;generalize (Oper.semAt (FW r).round a.eval o).run P w=res at h2 ⊢
  cases res with
  |ok nx w'=>
   cases nx with
   |enter f args=>exact⟨h2.1,h2.2.mono λe zI he=>by cases e<;>exact he⟩
   |round l f tmps tI body=>exact⟨h2.1,h2.2.mono λe zI he=>by cases e<;>exact he⟩
   |_=>exact h2
  |halt x w'=>cases x<;>exact h2
 ·rename_i hw
  rw[if_neg hw];exact⟨h.1,h.2⟩
theorem jI.perm {l:List Oper} {wd:World} (π:List Nat) (hπ:mH π l.length=true) (dO:fu l 0=true) (h:jI P r n (Aa π l) L ds wd K):jI P r n l L ds wd K:=by
 intro a ha;obtain⟨J,h1,h2,h3,h4⟩:=h a ha;obtain⟨p1,p2,p3,p4,_⟩:=pA hπ;have hlen:(Aa π l).length=l.length:=by simp[Aa,p1]
 refine⟨λD a w=>J (λi=>∃j,π[i]? =some j/\D j) a w,λD D' a w hJ hD=>h1 _ _ _ _ hJ λi _=>⟨fun⟨j,hj,h⟩=>⟨j,hj,(hD j (p2 i j hj)).1 h⟩,fun⟨j,hj,h⟩=>⟨j,hj,(hD j (p2 i j hj)).2 h⟩⟩,λQ D a w j o rest hj ho oB hp ku hJ hk=>?_,λa w hJ=>h3 _ _ (h1 _ _ _ _ hJ λi hi=>?_),h1 _ _ _ _ h4 λi _=>⟨fun⟨j,_,h⟩=>h,False.elim⟩⟩
 ·refine Uw hπ ho (h2 _ _ _ _ _ _ _ (by rw[hlen,<-p1];exact(al.1 (p3 j hj)).1) (DP hπ ho) ?_ ?_ ?_ hJ λa' w' T6=>hk _ _ (h1 _ _ _ _ T6 λi hi=>?_))
  ·rintro⟨k,qJ,DB⟩;rw[p3 j hj]at qJ
   cases qJ;exact oB DB
  ·intro k' qo;rw[Ab,cu]at qo;obtain⟨k,qJ,rfl⟩:=qo;have:=dH dO j o ho k qJ;exact⟨k,p3 k q0,hp k qJ⟩
  ·rintro i o' jk ⟨k,qJ,DB⟩ k' qo;obtain⟨k2,ok,h5,h6,rfl⟩:=Uv hπ jk;rw[h5]at qJ;cases qJ;rw[Ab,cu]at qo;obtain⟨q,Yg,rfl⟩:=qo;have:=dH dO k ok h6 q Yg;have:=p2 i k h5;exact⟨q,p3 q q0,ku k ok h6 DB q Yg⟩
  ·constructor
   ·rintro⟨k,qJ,h|h⟩
    ·subst h;exact .inl (p4 i k qJ).symm
    ·exact .inr ⟨k,qJ,h⟩
   ·rintro(h|⟨k,qJ,h⟩)
    ·subst h;exact⟨j,p3 j hj,.inl G⟩
    ·exact⟨k,qJ,.inr h⟩
 ·rw[hlen]at hi;have hp:π[i]? =some (π[i]' q0):=an _;exact⟨λ_=>⟨_,hp,p2 i _ hp⟩,λ_=>by omega⟩
theorem T.FI {id:Nat} {l l':List Oper} (π:List Nat) (m:Nat) (fl:List Nat) (c:Nat) (N:aE) (hm:P.follows .mixedOrders=true) (Pe:Aa π l=l') (yu:fu l 0=true) (hπ:mH π l.length=true) (yM:Nat.blt m l'.length=true) (dO:fu l' 0=true) (tH:ll l' m=true) (Ik:mD l' m fl c=true)
  (h:∀wD,(∀M,Step M w M wD ar)->lD P r n l'.toArray (l'.take m) L ds wD (λL'=>(∀j o,j∈fl->l'[j]? =some o->cf P N wD L' o)/\tP P r n l'.toArray N wD K c (l'.drop m) L' ds wD)):T P r n (.region id l.toArray true) L ds w K:=by
 subst Pe;exact jI.t hm yu λwD hD=> .perm π hπ yu (FG m fl c N yM dO tH Ik (h wD hD))
end
def allM:aE:=λ_=>True
theorem Step.all {M M' N:aE} {w w':World} (s:Step M w M' w' N):Step allM w allM w' N:=⟨λh=>absurd (h w.heap.size trivial) (ky _),s.os,s.tape,s.output,s.size,λ_ _=>Iff.rfl,s.same,λ_ _=>trivial⟩
theorem Step.toAny {M M':aE} {w w':World} (s:Step M w M' w' ar) (M1:aE):Step M1 w M1 w' ar:=s.any M1
theorem lM.all {P:Program} {k:TypeId} {R:Value->Option (DU×List MemPlace)} {M:aE} {w:World} {b:Nat} {m:List (Lit×DU)} (h:lM P k R M w b m):lM P k R allM w b m:=⟨trivial,h.own⟩
theorem fY.int {κ:IntKind} {M M':aE} {w w':World}:∀{xs:List Int} {C:List Value},fY (RT.int κ) M w xs C->fY (RT.int κ) M' w' xs C
 |[],_,h=>h
 |x::xs,C,h=>by
  obtain⟨vs,r,h1,h2,h3⟩:=h;exact⟨vs,r,h1,h2,fY.int h3⟩
theorem Own.Pf {κ:IntKind} {e:TypeId} {M:aE} {w:World} {base:Nat} {v:Value} {xs:List Int} (h:Own (RT.int κ) e M w base v xs) {M':aE} (hm:∀b,v.ownBlock=some b->M' b):Own (RT.int κ) e M' w base v xs:=by
 obtain⟨⟨C,h1,h2⟩,_⟩:=h;exact⟨⟨C,h1,fY.int h2⟩,hm⟩
theorem Own.CL {κ:IntKind} {e:TypeId} {N:aE} {w w':World} {base:Nat} {v:Value} {xs:List Int} (h:Own (RT.int κ) e allM w base v xs) (s:Step allM w allM w' N) (hn:∀b,v.ownBlock=some b->¬N b):Own (RT.int κ) e allM w' base v xs:=by
 obtain⟨⟨C,h1,h2⟩,_⟩:=h;refine⟨⟨C,⟨h1.1,?_⟩,fY.int h2⟩,λ_ _=>trivial⟩;rcases h1.2 with h3|⟨g,cap,cur,h3,h4,h5,h6,h7,h8⟩
 ·exact .inl h3
 ·exact .inr ⟨g,cap,cur,h3,h4,by rw[s.same g (ae h5) (hn g (by rw[h3];rfl))];exact h5,h6,h7,h8⟩
def mI (v:Value):aE:=λb=>v.ownBlock=some b
theorem Own.lone {κ:IntKind} {e:TypeId} {M:aE} {w:World} {base:Nat} {v:Value} {xs:List Int} (h:Own (RT.int κ) e M w base v xs):Own (RT.int κ) e (mI v) w base v xs:=h.Pf λ_ h=>h
theorem Le.none {M:aE} {w:World}:Le M w ar w:=λb _ hm=>⟨λh=>h,rfl⟩
open Go.Proofs
theorem I3:TI Tryz.prog 3 (.int .i64 0) 1 8:=by unfold TI;kernel_rfl
theorem I5:TI Tryz.prog 5 (.int .u8 0) 1 1:=by unfold TI;kernel_rfl
theorem I9:TI Tryz.prog 9 (.string ⟨#[]⟩) 1 16:=by unfold TI;kernel_rfl
theorem nE:TI Tryz.prog 24 (.agg #[(.string ⟨#[]⟩),(.string ⟨#[]⟩)]) 2 32:=by unfold TI;kernel_rfl
theorem BW:TI Tryz.prog 25 (.slice none 0 0) 1 24:=by unfold TI;kernel_rfl
theorem I32:TI Tryz.prog 32 (.int .i64 0) 1 8:=by unfold TI;kernel_rfl
theorem l4:TI Tryz.prog 61 (.slice none 0 0) 1 24:=by unfold TI;kernel_rfl
theorem uJ:TI Tryz.prog 70 (.slice none 0 0) 1 24:=by unfold TI;kernel_rfl
theorem nr:TI Tryz.prog 72 (.agg #[(.int .i64 0),(.slice none 0 0)]) 2 32:=by unfold TI;kernel_rfl
theorem CM:TI Tryz.prog 74 (.agg #[(.int .i64 0),(.slice none 0 0),(.int .i64 0)]) 3 40:=by unfold TI;kernel_rfl
theorem ko:TI Tryz.prog 153 (.agg #[(.string ⟨#[]⟩),(.string ⟨#[]⟩)]) 2 32:=by unfold TI;kernel_rfl
theorem ajX:TI Tryz.prog 183 (.slice none 0 0) 1 24:=by unfold TI;kernel_rfl
theorem jl:TI Tryz.prog 188 (.agg #[(.int .i64 0),(.slice none 0 0)]) 2 32:=by unfold TI;kernel_rfl
theorem Mm:TI Tryz.prog 218 (.agg #[(.string ⟨#[]⟩),(.int .i64 0)]) 2 24:=by unfold TI;kernel_rfl
theorem tY:TI Tryz.prog 250 (.pointer none) 1 8:=by unfold TI;kernel_rfl
theorem FJ:TI Tryz.prog 293 (.slice none 0 0) 1 24:=by unfold TI;kernel_rfl
theorem Iz:TI Tryz.prog 294 (.slice none 0 0) 1 24:=by unfold TI;kernel_rfl
theorem ajY:TI Tryz.prog 296 (.agg #[(.slice none 0 0),(.slice none 0 0),(.int .i64 0)]) 3 56:=by unfold TI;kernel_rfl
theorem BX:TI Tryz.prog 301 (.agg #[(.int .i64 0),(.int .i64 0),(.int .i64 0),(.int .i64 0)]) 4 32:=by unfold TI;kernel_rfl
theorem ajZ:TI Tryz.prog 365 (.agg #[(.pointer none),(.slice none 0 0)]) 2 32:=by unfold TI;kernel_rfl
theorem B24:placesOf Tryz.prog 24=[(0,1),(1,1)].map some:=by kernel_rfl
theorem B72:placesOf Tryz.prog 72=[(0,1),(1,1)].map some:=by kernel_rfl
theorem B74:placesOf Tryz.prog 74=[(0,2),(2,1)].map some:=by kernel_rfl
theorem Ux:placesOf Tryz.prog 188=[(0,1),(1,1)].map some:=by kernel_rfl
theorem adu:placesOf Tryz.prog 218=[(0,1),(1,1)].map some:=by kernel_rfl
theorem aj0:placesOf Tryz.prog 296=[(0,1),(1,1),(2,1)].map some:=by kernel_rfl
theorem aj1:placesOf Tryz.prog 301=[(0,1),(1,1),(2,1),(3,1)].map some:=by kernel_rfl
theorem mixed:Tryz.prog.follows .mixedOrders=true:=by kernel_rfl
theorem E29:Enters Tryz.prog 29:=enters Tryz.func29 rfl XT
theorem E47:Enters Tryz.prog 47:=enters Tryz.func47 rfl XT
theorem E58:Enters Tryz.prog 58:=enters Tryz.func58 rfl XT
theorem E74:Enters Tryz.prog 74:=enters Tryz.func74 rfl XT
theorem E95:Enters Tryz.prog 95:=enters Tryz.func95 rfl XT
theorem aj3:Enters Tryz.prog 111:=enters Tryz.func111 rfl XT
theorem adv:Enters Tryz.prog 113:=enters Tryz.func113 rfl XT
theorem adw:Enters Tryz.prog 122:=enters Tryz.func122 rfl XT
theorem aj4:Enters Tryz.prog 138:=enters Tryz.func138 rfl XT
theorem Yz:Enters Tryz.prog 139:=enters Tryz.func139 rfl XT
theorem aj5:Enters Tryz.prog 140:=enters Tryz.func140 rfl XT
theorem aj6:Enters Tryz.prog 141:=enters Tryz.func141 rfl XT
theorem adx:Enters Tryz.prog 142:=enters Tryz.func142 rfl XT
theorem aj7:Enters Tryz.prog 146:=enters Tryz.func146 rfl XT
theorem aj8:Enters Tryz.prog 147:=enters Tryz.func147 rfl XT
theorem aj9:Enters Tryz.prog 148:=enters Tryz.func148 rfl XT
theorem aka:Enters Tryz.prog 149:=enters Tryz.func149 rfl XT
theorem akb:Enters Tryz.prog 170:=enters Tryz.func170 rfl XT
theorem akc:Enters Tryz.prog 171:=enters Tryz.func171 rfl XT
theorem ady:Enters Tryz.prog 172:=enters Tryz.func172 rfl XT
theorem akd:Enters Tryz.prog 173:=enters Tryz.func173 rfl XT
theorem YA:Enters Tryz.prog 182:=enters Tryz.func182 rfl XT
theorem ake:Enters Tryz.prog 183:=enters Tryz.func183 rfl XT
theorem akf:Enters Tryz.prog 184:=enters Tryz.func184 rfl XT
theorem akg:Enters Tryz.prog 185:=enters Tryz.func185 rfl XT
theorem akh:Enters Tryz.prog 186:=enters Tryz.func186 rfl XT
theorem aki:Enters Tryz.prog 187:=enters Tryz.func187 rfl XT
theorem akj:Enters Tryz.prog 189:=enters Tryz.func189 rfl XT
theorem akk:Enters Tryz.prog 192:=enters Tryz.func192 rfl XT
theorem akl:Enters Tryz.prog 193:=enters Tryz.func193 rfl XT
theorem YB:Enters Tryz.prog 194:=enters Tryz.func194 rfl XT
theorem akm:Enters Tryz.prog 195:=enters Tryz.func195 rfl XT
theorem adz:Enters Tryz.prog 239:=enters Tryz.func239 rfl XT
theorem akn:Enters Tryz.prog 240:=enters Tryz.func240 rfl XT
theorem ako:Enters Tryz.prog 241:=enters Tryz.func241 rfl XT
theorem adA:Enters Tryz.prog 242:=enters Tryz.func242 rfl XT
theorem akp:Enters Tryz.prog 243:=enters Tryz.func243 rfl XT
theorem akq:Enters Tryz.prog 244:=enters Tryz.func244 rfl XT
theorem akr:Enters Tryz.prog 252:=enters Tryz.func252 rfl XT
theorem aks:Enters Tryz.prog 264:=enters Tryz.func264 rfl XT
theorem akt:Enters Tryz.prog 265:=enters Tryz.func265 rfl XT
theorem adB:Enters Tryz.prog 272:=enters Tryz.func272 rfl XT
theorem aku:Enters Tryz.prog 273:=enters Tryz.func273 rfl XT
theorem akv:Enters Tryz.prog 280:=enters Tryz.func280 rfl XT
theorem akw:Enters Tryz.prog 281:=enters Tryz.func281 rfl XT
theorem akx:Enters Tryz.prog 282:=enters Tryz.func282 rfl XT
theorem adC:Enters Tryz.prog 303:=enters Tryz.func303 rfl XT
theorem aky:Enters Tryz.prog 304:=enters Tryz.func304 rfl XT
theorem akz:Enters Tryz.prog 308:=enters Tryz.func308 rfl XT
theorem adD:Enters Tryz.prog 316:=enters Tryz.func316 rfl XT
namespace TKEmpty16
theorem DQ:TI Tryz.prog 180 (.map none) 1 8:=by unfold TI;kernel_rfl
theorem YC:TI Tryz.prog 182 (.agg #[(.slice none 0 0),(.map none),(.int .i64 0),(.int .i64 0)]) 4 48:=by unfold TI;kernel_rfl
theorem YD:TI Tryz.prog 310 (.agg #[(.slice none 0 0),(.slice none 0 0)]) 2 48:=by unfold TI;kernel_rfl
theorem YE:placesOf Tryz.prog 182=[(0,1),(1,1),(2,1),(3,1)].map some:=by kernel_rfl
theorem YF:placesOf Tryz.prog 310=[(0,1),(1,1)].map some:=by kernel_rfl
theorem E98:Enters Tryz.prog 98:=enters Tryz.func98 rfl XT
theorem E99:Enters Tryz.prog 99:=enters Tryz.func99 rfl XT
theorem YG:Enters Tryz.prog 196:=enters Tryz.func196 rfl XT
theorem YH:Enters Tryz.prog 197:=enters Tryz.func197 rfl XT
theorem YI:Enters Tryz.prog 198:=enters Tryz.func198 rfl XT
theorem YJ:Enters Tryz.prog 199:=enters Tryz.func199 rfl XT
end TKEmpty16
open TKEmpty16
set_option maxRecDepth 10000
theorem tZ (w0:World):
  Spec Tryz.prog 100 #[.slice none 0 0] w0 (λv w=>v= .slice none 0 0/\w=w0):=by
 refine aS (args:=[_]) (fn:=Tryz.f100) BO G (n:=8) Tryz.ntmps100 (T.aO (Rg.aZ G G (aI (T.aO (ab G G (Rg.lY ao G G G (ad (T.OB G (G) ?_))))))));refine T.aO (Rg.aZ G G (aM ?_));exact a69
theorem IA (w0:World):
  Spec Tryz.prog 198 #[.slice none 0 0] w0 (λv w=>v= .slice none 0 0/\w=w0):=by
 refine aS (args:=[_]) (fn:=Tryz.f198) Tryz.func198 G (n:=8) Tryz.ntmps198 (T.aO (Rg.aZ G G (aI (T.aO (ab G G (Rg.lY aQ G G G (ad (T.OB G (G) ?_))))))));refine T.aO (Rg.aZ G G (aM ?_));exact a69
theorem IB (w0:World):
  Spec Tryz.prog 199 #[.slice none 0 0] w0 (λv w=>v= .slice none 0 0/\w=w0):=by
 refine aS (args:=[_]) (fn:=Tryz.f199) Tryz.func199 G (n:=8) Tryz.ntmps199 (T.aO (Rg.aZ G G (aI (T.aO (ab G G (Rg.lY ey G G G (ad (T.OB G (G) ?_))))))));refine T.aO (Rg.aZ G G (aM ?_));exact a69
theorem Pg (w0:World):
  Spec Tryz.prog 153 #[.slice none 0 0] w0 (λv w=>v= .bool true/\w=w0):=by
 refine aS (args:=[_]) (fn:=Tryz.f153) Tryz.func153 G (n:=28) Tryz.ntmps153 (T.aO (Rg.aZ G G (aI (T.aO (ab G G (bB ao G (A:=RT.int .i64) (hn:=by decide) (M:=ar) (w1:=w0) (xs:=[]) gC G (ab G G (ad ?_))))))));refine aT ?_;refine cR (σ:=Unit) (λ_=>[(5,.slice none 0 0),(6,.int .i64 0),(7,.int .i64 0)]) (λ_ w=>w=w0) (λ_=>0) () a07 ?_ ?_
 ·rfl
 ·rintro _ w rfl;refine T.aO (ck G G G (ad (aI (yK G (XT) (cE (T.aO (Rg.aZ G G (aM ?_))))))));exact a69
theorem Mn (w0:World):
  Spec Tryz.prog 197 #[.slice none 0 0] w0 (λv w=>v= .bool true/\w=w0):=by
 refine aS (args:=[_]) (fn:=Tryz.f197) Tryz.func197 G (n:=24) Tryz.ntmps197 (T.aO (Rg.aZ G G (aI (T.aO (ab G G (bB aQ G (A:=RT.str) (hn:=by decide) (M:=ar) (w1:=w0) (xs:=[]) gC G (ab G G (ad ?_))))))));refine aT ?_;refine cR (σ:=Unit) (λ_=>[(5,.slice none 0 0),(6,.int .i64 0),(7,.int .i64 0)]) (λ_ w=>w=w0) (λ_=>0) () a07 ?_ ?_
 ·rfl
 ·rintro _ w rfl;refine T.aO (ck G G G (ad (aI (yK G (XT) (cE (T.aO (Rg.aZ G G (aM ?_))))))));exact a69
theorem Mp (g:Value) (w0:World):
  Spec Tryz.prog 196 #[.slice none 0 0,g] w0 (λv w=>v= .int .i64 (-1)/\w=w0):=by
 refine aS (args:=[_,_]) (fn:=Tryz.f196) Tryz.func196 G (n:=19) Tryz.ntmps196 (T.aO (Rg.aZ G G (aI (T.aO (ab G G (bB mc G (A:=(RT.po).sl) (hn:=by decide) (M:=ar) (w1:=w0) (xs:=[]) gC G (ab G G (ad ?_))))))));refine aT ?_;refine cR (σ:=Unit) (λ_=>[(6,.slice none 0 0),(7,.int .i64 0),(8,.int .i64 0)]) (λ_ w=>w=w0) (λ_=>0) () a07 ?_ ?_
 ·rfl
 ·rintro _ w rfl;refine T.aO (ck G G G (ad (aI (yK G (XT) (cE (T.aO (Rg.aZ G G (aM ?_))))))));exact a69
theorem contains_nil (g:Value) (w0:World):
  Spec Tryz.prog 156 #[.slice none 0 0,g] w0 (λv w=>v= .bool false/\w=w0):=by
 refine aS (args:=[_,_]) (fn:=Tryz.f156) Tryz.func156 G (n:=9) Tryz.ntmps156 (T.aO (Rg.aZ G G (T.aO (ab G G (ab G G ?_)))));refine aJ G G YG (Mp _ _) (λr wc hc=>?_);obtain⟨rfl,rfl⟩:=hc;refine eh G G G (Rg.aZ G G (aM ?_));exact aP rfl rfl ⟨by simp,rfl⟩
def Ph (w:World) (b:Nat):Prop:=∃mb,w.heap[b]? =some (.cells #[.slice none 0 0,.map (some mb),.int .i64 0,.int .i64 (-1)] 182 (0,0))/\lM Tryz.prog 9 vm allM w mb []
theorem Ph.bD {w w':World} {b:Nat} (h:Ph w b) (s:Step allM w allM w' ar):Ph w' b:=by
 obtain⟨mb,h1,h2⟩:=h;exact⟨mb,s.ay h1,h2.bD s⟩
theorem FK (w0:World):
  Spec Tryz.prog 48 #[] w0 (λv w=>∃b,v= .pointer (some ⟨b,0,none⟩)/\Ph w b/\Step allM w0 allM w ar/\w0.heap.size<=b):=by
 refine aS (args:=[]) (fn:=Tryz.f48) Tryz.func48 G (n:=4) Tryz.ntmps48 ?_;have S:Step allM w0 allM w0 ar:=(aV).dF a15 (λ_ _=>trivial);refine T.aO (Rg.aZ G G (T.aO ?_));refine Rg.makeMap allM fW G vm (λmb w1 p1 q1 hm s1=>?_);replace s1:=s1.all;replace hm:=hm.all;have:=S.size;replace S:=S.av s1;refine dp (places:=[(0,1),(1,1),(2,1),(3,1)]) dS YC YE rfl ⟨_,_,rfl,rfl,_,_,rfl,rfl,rfl⟩ (out:=[.slice none 0 0,_,.int .i64 0,_]) ⟨1,[_],rfl,rfl,by simp[Value.cells],3,[_],rfl,rfl,by simp[Value.cells],rfl⟩ ?_;refine iP allM G G (λIC FL adE adF gT kP=>?_);replace kP:=kP.all;change FL.heap[IC]? =some (.cells #[.slice none 0 0,.map (some mb),.int .i64 0,.int .i64 (-1)] _ _)at gT;replace hm:=hm.bD kP;have:=S.size;replace S:=S.av kP;refine Rg.aZ G G (aM ?_);exact aP G G ⟨_,G,⟨mb,gT,hm⟩,S,by omega⟩
theorem DR (b:Nat) (w0:World) (hb:Ph w0 b):
  Spec Tryz.prog 50 #[.pointer (some ⟨b,0,none⟩)] w0 (λv w=>v= .slice none 0 0/\Step allM w0 allM w ar):=by
 obtain⟨mb,g0,hm⟩:=hb;refine aS (args:=[_]) (fn:=Tryz.f50) Tryz.func50 G (n:=9) Tryz.ntmps50 ?_;have S:Step allM w0 allM w0 ar:=(aV).dF a15 (λ_ _=>trivial);refine T.aO (Rg.aZ G G (T.aO (ab G G (aL G ⟨_,G⟩ G (aK (o':=1) dS G G DQ XT G G (aA fW G G G a00 G ?_))))));refine aJ G G E99 (zZ _ _) (λr w1 hc=>?_);obtain⟨rfl,hw1⟩:=hc;have s1:Step allM w0 allM w1 ar:=by rw[hw1];exact dL _ w0 _
 have H4:=ta hw1;have:=ae g0;replace g0:=s1.ay g0;replace hm:=hm.bD s1;have:=S.size;replace S:=S.av s1;refine aJ G G E98 (vq hm H4 XT) (λr2 w2 hc=>?_);obtain⟨⟨ss,hss,_,tM⟩,s2⟩:=hc;obtain rfl:r2= .slice none 0 0:=tM.2 (by have:=hss.length_eq;simpa[strKeys]using this);replace s2:=s2.all;have:=ae g0;replace g0:=s2.ay g0;replace hm:=hm.bD s2;have:=S.size;replace S:=S.av s2;refine Rg.aZ G G (aM ?_);exact aP G G ⟨G,S⟩
theorem DS (w0:World):
  Spec Tryz.prog 157 #[.slice none 0 0,.slice none 0 0] w0 (λv w=>∃b,v= .tuple #[.pointer (some ⟨b,0,none⟩),.int .i64 0]/\Step allM w0 allM w ar):=by
 refine aS (args:=[_,_]) (fn:=Tryz.f157) Tryz.func157 G (n:=22) Tryz.ntmps157 ?_;have S:Step allM w0 allM w0 ar:=(aV).dF a15 (λ_ _=>trivial);refine T.aO (aB G G (Rg.aZ G G (aI (T.aO (ab G G (bB aQ G (A:=RT.str) (hn:=by decide) (M:=ar) (w1:=w0) (xs:=[]) gC G (ab G G (bB ey G (A:=RT.str) (hn:=by decide) (M:=ar) (w1:=w0) (xs:=[]) gC G ?_))))))));refine eR G G G (ab G G (Rg.qO (g:=11) G (XT) (ah G G (ab G G (ah G G ?_)))));refine aJ G G YH (Mn _) (λr wc hc=>?_);obtain⟨rfl,rfl⟩:=hc;refine ah G G (gM G G (aY (v':= .bool false) G (aD G G G (ad (gy G (aR (T.aO (ab G G ?_))))))));refine aJ G G YI (IA _) (λr wc hc=>?_);obtain⟨rfl,rfl⟩:=hc;refine ab G G ?_;refine aJ G G YJ (IB _) (λr wc hc=>?_);obtain⟨rfl,rfl⟩:=hc;refine dp (places:=[(0,1),(1,1)]) tv YD YF rfl ⟨_,_,rfl,rfl,_,_,rfl,rfl,rfl⟩ (out:=[_,_]) ⟨0,[_],rfl,rfl,by simp[Value.cells],1,[_],rfl,rfl,by simp[Value.cells],rfl⟩ ?_;refine iP allM G G (λakD YK auR auS Uy xp=>?_);replace xp:=xp.all;change YK.heap[akD]? =some (.cells #[.slice none 0 0,.slice none 0 0] _ _)at Uy;have:=S.size;replace S:=S.av xp;refine aB G G (Rg.aZ G G (aM ?_));exact eS G G G ⟨_,G,S⟩
end Go.K
namespace Go.K
open Go.Proofs
namespace TKBuild16
theorem FM:TI Tryz.prog 112 (.slice none 0 0) 1 24:=by unfold TI;kernel_rfl
theorem FN:TI Tryz.prog 114 (.agg #[(.slice none 0 0),(.slice none 0 0),(.slice none 0 0),(.slice none 0 0)]) 4 96:=by unfold TI;kernel_rfl
theorem YL:TI Tryz.prog 215 (.agg #[(.slice none 0 0),(.slice none 0 0),(.pointer none)]) 3 56:=by unfold TI;kernel_rfl
theorem FO:TI Tryz.prog 249 (.slice none 0 0) 1 24:=by unfold TI;kernel_rfl
theorem YM:placesOf Tryz.prog 215=[(0,1),(1,1),(2,1)].map some:=by kernel_rfl
theorem E48:Enters Tryz.prog 48:=enters Tryz.func48 rfl XT
theorem E50:Enters Tryz.prog 50:=enters Tryz.func50 rfl XT
theorem E52:Enters Tryz.prog 52:=enters Tryz.func52 rfl XT
theorem Ac:Enters Tryz.prog 100:=enters BO rfl XT
theorem YN:Enters Tryz.prog 101:=enters Tryz.func101 rfl XT
theorem YO:Enters Tryz.prog 153:=enters Tryz.func153 rfl XT
theorem YP:Enters Tryz.prog 156:=enters Tryz.func156 rfl XT
theorem YQ:Enters Tryz.prog 157:=enters Tryz.func157 rfl XT
end TKBuild16
open TKBuild16
set_option maxRecDepth 10000
theorem Ms (w0:World):
  Spec Tryz.prog 101 #[.agg #[.slice none 0 0,.slice none 0 0,.slice none 0 0,.slice none 0 0]] w0 (λv w=>∃b,v= .pointer (some ⟨b,0,none⟩)/\Step allM w0 allM w ar):=by
 refine aS (args:=[_]) (fn:=Tryz.f101) Tryz.func101 G (n:=45) Tryz.ntmps101 ?_;have S:Step allM w0 allM w0 ar:=(aV).dF a15 (λ_ _=>trivial);refine T.aO ?_;refine iP allM G G (λvu Mt Uz UA eC kG=>?_);replace kG:=kG.all
 try simp only[Value.cells]at eC
 have:=S.size;replace S:=S.av kG;refine Rg.aZ G G (T.aO (aK (o':=0) cj G G l4 XT G G (aA ao G G G a00 G (bB ao G (A:=RT.int .i64) (hn:=by decide) (M:=ar) (w1:=w0) (xs:=[]) gC G ?_))));refine ek allM I3 G (λlA BY YR YS gr s1_3=>?_);replace s1_3:=s1_3.all;change BY.heap[lA]? =some (.cells #[.int .i64 0] _ _)at gr;have:=ae eC;replace eC:=s1_3.ay eC;have:=S.size;replace S:=S.av s1_3;refine ch (M:=allM) I3 G G gr G (G) trivial (λPj BZ jJ=>?_)
 try simp only[nR,List.set_cons_zero,List.set_cons_succ]at BZ
 replace eC:=jJ.bL eC a05;have:=S.size;replace S:=S.trans jJ (λk hk h=>by have h:_=_:=h;subst h;first|(exfalso;omega)|(show _<=_;omega)|exact .inl rfl|exact .inr rfl|exact .inr (.inl rfl)|exact .inr (.inr rfl)|exact .inr (.inr (.inl rfl))|exact rfl);have qZ:=BZ;clear gr;have gr:=qZ;clear qZ;refine ad (aI (T.aO (aK (o':=1) cj G G l4 XT G G (aA ao G G G a00 G (bB ao G (A:=RT.int .i64) (hn:=by decide) (M:=ar) (w1:=w0) (xs:=[]) gC G (aA aj G G G a00 G (eR G G G (ab G G (Rg.qO (g:=16) G ((by simp)) (ah G G ?_))))))))));refine aK (o':=1) cj G G l4 XT G G (ah G G (aA ao G G G a00 G (ah G G ?_)));refine aJ G G YO (Pg _) (λr wc hc=>?_);obtain⟨rfl,rfl⟩:=hc;refine ah G G (gM G G (aY (v':= .bool false) G (aD G G G (ad (gy G (aR (T.aO ?_)))))));refine ek allM FO G (λID IE akH akI pB j7=>?_);replace j7:=j7.all;change IE.heap[ID]? =some (.cells #[.slice none 0 0] _ _)at pB;have:=ae eC;replace eC:=j7.ay eC;have:=ae gr;replace gr:=j7.ay gr;have:=S.size;replace S:=S.av j7;refine ad (T.aO (gz (xs:=[]) G G G (Rg.aZ G G (aI (T.aO (aK (o':=3) cj G G FM XT G G (aA mc G G G a00 G (ab G G ?_))))))));refine aJ G G YP (contains_nil _ _) (λr wc hc=>?_);obtain⟨rfl,rfl⟩:=hc;refine ad (gy G (aR (T.aO (aK (o':=2) cj G G BW XT G G (aA aQ G G G a00 G (aA ey G G G a00 G ?_))))))
 refine aJ G G YQ (DS _) (λr8 w8 hc=>?_);obtain⟨b8,rfl,s8⟩:=hc;have:=ae eC;replace eC:=s8.ay eC;have:=ae gr;replace gr:=s8.ay gr;have:=ae pB;replace pB:=s8.ay pB;have:=S.size;replace S:=S.av s8;refine ab G G (b9 G G G (b9 G G G (aB G G (Rg.aZ G G (aI (T.aO (ab G G (eR G G G (ad ?_)))))))));refine yK G ((by simp)) (aR (aI ?_));apply T.FI [0,1,3,4,6,2,5,7,8,9] 5 [2,3,4] 2 ar mixed
 ·simp+decide only[Aa,sw,dC,jw,jq,jr,gL,dq,gE,lT,cond_true,cond_false,Nat.reduceBEq,Nat.reduceAdd,beq_self_eq_true];rfl
 ·rfl
 ·rfl
 ·rfl
 ·rfl
 ·rfl
 ·rfl
 intro B1 Pk;have dZ:=Pk allM;have:=ae eC;replace eC:=dZ.ay eC;have:=ae gr;replace gr:=dZ.ay gr;have:=ae pB;replace pB:=dZ.ay pB;have:=S.size;replace S:=S.av dZ;refine aK (o':=0) cj G G l4 XT G G (Rg.cI (aA ao G G G af5 G (Rg.cI (aK (o':=1) cj G G l4 XT G G (Rg.cI (aA ao G G G af5 G (Rg.cI (ab G G (Rg.cI (fB (⟨ik ⟨fC cj G l4 XT,⟨eO G a00 a30,⟨eP,trivial⟩⟩⟩,?_⟩)))))))))));have kp:=iR ar B1;refine aJ G G Ac (tZ _) (λr11 wc hc=>?_);obtain⟨rfl,rfl⟩:=hc;refine(fun(kp:fa _ _ _)=>ad ⟨G,G,λ_=>kp,?_⟩) a03;refine aJ G G Ac (tZ _) (λr12 wc hc=>?_);obtain⟨rfl,rfl⟩:=hc;refine(fun(kp:fa _ _ _)=>ad ⟨G,G,λ_=>kp,?_⟩) a03;refine dp (places:=[(0,1),(1,1),(2,1)]) Tryz.underlying215 YL YM rfl ⟨_,_,rfl,rfl,_,_,rfl,rfl,_,_,rfl,rfl,rfl⟩ (out:=[_,_,_]) ⟨0,[_],rfl,rfl,by simp[Value.cells],1,[_],rfl,rfl,by simp[Value.cells],2,[_],rfl,rfl,by simp[Value.cells],rfl⟩ (ad ⟨rfl,rfl,λh=>absurd rfl h,?_⟩);refine iP allM G G (λaqE aqF aqG aqH adH CN=>?_);replace CN:=CN.all
 try simp only[Value.cells]at adH
 have:=ae eC;replace eC:=CN.ay eC;have:=ae gr;replace gr:=CN.ay gr;have:=ae pB;replace pB:=CN.ay pB;have:=S.size;replace S:=S.av CN;refine ad ⟨G,G,λh=>absurd G h,aB G G (ad ⟨G,G,λh=>absurd G h,lH (aM ?_)⟩)⟩;exact aP G G ⟨_,G,S⟩
theorem Pl (w0:World):
  Spec Tryz.prog 52 #[.agg #[.slice none 0 0,.slice none 0 0,.slice none 0 0,.slice none 0 0]] w0 (λv w=>∃b,v= .tuple #[.pointer (some ⟨b,0,none⟩),.int .i64 0]/\Step allM w0 allM w ar):=by
 refine aS (args:=[_]) (fn:=Tryz.f52) Tryz.func52 G (n:=10) Tryz.ntmps52 ?_;have S:Step allM w0 allM w0 ar:=(aV).dF a15 (λ_ _=>trivial);refine T.aO ?_;refine iP allM G G (λvu Mt Uz UA eC kG=>?_);replace kG:=kG.all
 try simp only[Value.cells]at eC
 have:=S.size;replace S:=S.av kG;refine aB G G (Rg.aZ G G (T.aO (eQ (vs:=[.slice none 0 0,.slice none 0 0,.slice none 0 0,.slice none 0 0]) cj G FN G G G eC ?_)));refine aJ G G YN (Ms _) (λr w1 hc=>?_);obtain⟨b1,rfl,s1⟩:=hc;have:=ae eC;replace eC:=s1.ay eC;have:=S.size;replace S:=S.av s1;refine Rg.aZ G G (aI (T.aO (ab G G (Rg.zN jx G ⟨_,G⟩ G G (ad (gy G (aR (T.aO ?_))))))));refine ab G G (aB G G (Rg.aZ G G (aM ?_)));exact eS G G G ⟨_,G,S⟩
theorem Mu (w0:World):
  Spec Tryz.prog 11 #[.slice none 0 0] w0 (λv w=>∃b,v= .tuple #[.pointer (some ⟨b,0,none⟩),.int .i64 0]/\Step allM w0 allM w ar):=by
 refine aS (args:=[_]) (fn:=Tryz.f11) Tryz.func11 G (n:=63) Tryz.ntmps11 ?_;have S:Step allM w0 allM w0 ar:=(aV).dF a15 (λ_ _=>trivial);refine T.aO (aB G G (Rg.aZ G G (T.aO ?_)));refine aJ G G E48 (FK _) (λr w1 hc=>?_);obtain⟨b1,rfl,ua,s1,p1⟩:=hc;have:=S.size;replace S:=S.av s1;refine Rg.aZ G G (T.aO ?_);refine ek allM FN G (λgH Mv adI adJ oN sy=>?_);replace sy:=sy.all;change Mv.heap[gH]? =some (.cells #[.slice none 0 0,.slice none 0 0,.slice none 0 0,.slice none 0 0] _ _)at oN;replace ua:=ua.bD sy;have:=S.size;replace S:=S.av sy;refine ad (aI (T.aO (ab G G (bB ef G (A:=RT.int .i64) (hn:=by decide) (M:=ar) (w1:=w0) (xs:=[]) gC G (ab G G (ad (aT ?_)))))));refine cR (σ:=Unit) (λ_=>[(4,.pointer (some ⟨b1,0,none⟩)),(5,.pointer (some ⟨gH,0,none⟩)),(12,.slice none 0 0),(13,.int .i64 0),(14,.int .i64 0)]) (λ_ w=>w=Mv) (λ_=>0) () a34 ?_ ?_
 ·rfl
 ·rintro _ w rfl;refine T.aO (ck G G G (ad (aI (yK G (XT) (cE (T.aO (ab G G ?_)))))));refine aJ G G E50 (DR _ _ ua) (λr UB hc=>?_);obtain⟨rfl,pC⟩:=hc;have:=ae oN;replace oN:=pC.ay oN;replace ua:=ua.bD pC;have:=S.size;replace S:=S.av pC;refine aK (o':=2) cj G G BW XT G G ?_;refine ch (M:=allM) BW G G oN G (G) trivial (λAd dx fT=>?_)
  try simp only[nR,List.set_cons_zero,List.set_cons_succ]at dx
  have:=S.size;replace S:=S.trans fT (λk hk h=>by have h:_=_:=h;subst h;first|(exfalso;omega)|(show _<=_;omega)|exact .inl rfl|exact .inr rfl|exact .inr (.inl rfl)|exact .inr (.inr rfl)|exact .inr (.inr (.inl rfl))|exact rfl);have WG:=dx;clear oN;have oN:=WG;clear WG;refine ad (aI (T.aO (aK (o':=2) cj G G BW XT G G (aA aQ G G G a00 G (bB aQ G (A:=RT.str) (hn:=by decide) (M:=ar) (w1:=w0) (xs:=[]) gC G (ab G G (ad (aT ?_))))))));refine cR (σ:=Unit) (λ_=>[(4,.pointer (some ⟨b1,0,none⟩)),(5,.pointer (some ⟨gH,0,none⟩)),(44,.slice none 0 0),(45,.int .i64 0),(46,.int .i64 0)]) (λ_ w=>w=Ad) (λ_=>0) () a34 ?_ ?_
  ·rfl
  ·rintro _ w rfl;refine T.aO (ck G G G (ad (aI (yK G (XT) (cE (T.aO (eQ (vs:=[.slice none 0 0,.slice none 0 0,.slice none 0 0,.slice none 0 0]) cj G FN G G G oN ?_)))))));refine aJ G G E52 (Pl _) (λr w17 hc=>?_);obtain⟨b17,rfl,s17⟩:=hc;have:=ae oN;replace oN:=s17.ay oN;have:=S.size;replace S:=S.av s17;refine b9 G G G (b9 G G G (aB G G (Rg.aZ G G (aM ?_))));exact eS G G G ⟨_,G,S⟩
end Go.K
namespace Go.K
def FP (at':Nat->Nat) (cont:Nat->Bool):Nat×Nat:=
 if at' 0<0x80 then(at' 0,1)
 else if at' 0/32==6&&cont 1 then
  if(at' 0%32)*64+at' 1%64>=0x80 then((at' 0%32)*64+at' 1%64,2)else(65533,1)
 else if at' 0/16==14&&cont 1&&cont 2 then
  if(at' 0%16)*4096+(at' 1%64)*64+at' 2%64>=0x800&&Utf8.valid ((at' 0%16)*4096+(at' 1%64)*64+at' 2%64:Nat)then((at' 0%16)*4096+(at' 1%64)*64+at' 2%64,3)else(65533,1)
 else if at' 0/8==30&&cont 1&&cont 2&&cont 3 then
  if(at' 0%8)*262144+(at' 1%64)*4096+(at' 2%64)*64+at' 3%64>=0x10000&&Utf8.valid ((at' 0%8)*262144+(at' 1%64)*4096+(at' 2%64)*64+at' 3%64:Nat)then((at' 0%8)*262144+(at' 1%64)*4096+(at' 2%64)*64+at' 3%64,4)else(65533,1)
 else(65533,1)
theorem Mw (s:ByteArray) (i:Nat):Utf8.decode s i=FP (λk=>(s.get! (i+k)).toNat) (λk=>decide (i+k<s.size)&&(s.get! (i+k)).toNat/64==2):=rfl
def kq (l:List UInt8) (k:Nat):Nat:=(l.getD k 0).toNat
def kf (l:List UInt8) (k:Nat):Bool:=decide (k<l.length)&&kq l k/64==2
def dec (l:List UInt8):Nat×Nat:=FP (kq l) (kf l)
theorem Mx (l:List UInt8) (j:Nat):(⟨l.toArray⟩:ByteArray).get! j=l.getD j 0:=by
 show l.toArray[j]! =_;rw[bY,getElem!_def];simp only[fK]
 cases l[j]? <;>rfl
theorem IF (l:List UInt8) (pos:Nat):Utf8.decode ⟨l.toArray⟩ pos=dec (l.drop pos):=by
 rw[Mw,dec]
 have h1:(λk=>((⟨l.toArray⟩:ByteArray).get! (pos+k)).toNat)=kq (l.drop pos):=by
  funext k;rw[Mx,kq,bY,bY,lF]
 have h2:(λk=>decide (pos+k<(⟨l.toArray⟩:ByteArray).size)&&((⟨l.toArray⟩:ByteArray).get! (pos+k)).toNat/64==2)=kf (l.drop pos):=by
  funext k;have:=congrFun h1 k;rw[this,kf,dR];congr 1;have hs:(⟨l.toArray⟩:ByteArray).size=l.length:=by simp[ByteArray.size]
  rw[hs];exact decide_eq_decide.2 q0
 rw[h1,h2]
theorem Ae {l:List UInt8} {k:Nat} (h:kf l k=true):k<l.length:=by
 simp only[kf,cp,decide_eq_true_eq]at h;exact h.1
theorem l5 {l:List UInt8} (hl:l≠[]):1<=(dec l).2/\(dec l).2<=l.length:=by
 have h0:0<l.length:=gv.2 hl;unfold dec FP
 split
 ·exact⟨aX _,h0⟩
 ·split
  ·rename_i h
   simp only[cp]at h;have:=Ae h.2
   split<;>(simp only;omega)
  ·split
   ·rename_i h
    simp only[cp]at h;have:=Ae h.2
    split<;>(simp only;omega)
   ·split
    ·rename_i h
     simp only[cp]at h;have:=Ae h.2
     split<;>(simp only;omega)
    ·exact⟨aX _,h0⟩
theorem pD (l:List UInt8) (k:Nat):kq l k<256:=by unfold kq;exact UInt8.toNat_lt _
theorem xq (l:List UInt8):(dec l).1<=1114111:=by
 unfold dec FP
 split
 ·simp only;omega
 ·split
  ·have:=pD l 0
   split<;>(simp only;omega)
  ·split
   ·have:=pD l 0
    split<;>(simp only;omega)
   ·split
    ·split
     ·rename_i h
      simp only[cp,Utf8.valid,Bool.or_eq_true,decide_eq_true_eq]at h;simp only;omega
     ·simp only;omega
    ·simp only;omega
def fM (l:List UInt8):List Int:=match l with
 |[]=>[]
 |c::r=>((dec (c::r)).1:Int)::fM ((c::r).drop (dec (c::r)).2)
termination_by l.length
decreasing_by
 have:=(l5 (l:=c::r) (by simp)).1;simp only[dR,cy];omega
theorem rR:fM []=[]:=by unfold fM;rfl
theorem pE {l:List UInt8} (h:l≠[]):fM l=((dec l).1:Int)::fM (l.drop (dec l).2):=by
 cases l with
 |nil=>exact absurd rfl h
 |cons c r=>rw[fM]
theorem jf (l:List UInt8):(fM l).length<=l.length:=by
 induction hn:l.length using Nat.strongRecOn generalizing l with
 |_ n ih=>
  by_cases h:l=[]
  ·subst h;rw[rR];simp
  ·rw[pE h,cy];have hw:=l5 h;have:=ih _ (by rw[dR];omega) (l.drop (dec l).2) rfl;rw[dR]at this;omega
section
variable {P:Program} {r:Option Nat} {n:Nat} {L:Sl} {ds:List Deferred} {w:World} {K:Kt} {ops:Array Oper} {rest:List Oper} {d:Nat} {x:Operand} {ty:TypeId} {pos:String} {af:Array Edge}
theorem Rg.Pm {t:TypeId} {l:List UInt8} (M:aE) (ht:P.underlying t=some .string) (hx:ev L x=some (.string ⟨l.toArray⟩)) (hd:Nat.blt d n=true)
  (k:∀b w',w.heap.size<=b->b<w'.heap.size->w'.heap[b]? =some (.stringIter ⟨l.toArray⟩ 0)->Step M w (ins M b) w' ar->Rg P r n ops rest ((d,.pointer (some ⟨b,0,none⟩))::L) ds w' K):
  Rg P r n ops ({dst:=some d,op:= .range t x,type:=ty,pos,after:=af,guard:=none}::rest) L ds w K:=by
 refine .op a06 G G hd (.pointer (some ⟨w.heap.size,0,none⟩)) (w.alloc (.stringIter ⟨l.toArray⟩ 0)) (λρ hρ=>?_) (k w.heap.size _ (aX _) (by simp) (cY w _) ((dL M w _).own (aX _) (by simp)));simp only[execOp,hρ x _ hx];simp[Instr.range,cB,run_underlying ht,newObj,Sem.run]
theorem iU (M:aE) {b:Nat} {o:Obj} (hm:M b):Step M w M {w with heap:=w.heap.setIfInBounds b o} (λk=>k=b):=
 ⟨λh b hb=>by simpa using h b hb,rfl,rfl,rfl,by simp,λ_ _=>Iff.rfl,λk _ hn=>by simp[dD,Ne.symm hn],λk hk=>by subst hk;exact hm⟩
theorem re {b p:Nat} {s:ByteArray} (hb:w.heap[b]? =some (.stringIter s p)):(getObj b).run P w= .ok (.stringIter s p) w:=by simp[getObj,Sem.run,hb]
theorem Rg.UC {l:List UInt8} {b p:Nat} {M:aE} (hx:ev L x=some (.pointer (some ⟨b,0,none⟩))) (hb:w.heap[b]? =some (.stringIter ⟨l.toArray⟩ p)) (hm:M b) (hd:Nat.blt d n=true)
  (k1:p<l.length->∀w',w'.heap[b]? =some (.stringIter ⟨l.toArray⟩ (p+(dec (l.drop p)).2))->Step M w M w' (λk=>k=b)->Rg P r n ops rest ((d,.tuple #[.bool true,.int .i64 p,.int .i32 ((dec (l.drop p)).1:Nat)])::L) ds w' K)
  (k2: ¬p<l.length->Rg P r n ops rest ((d,.tuple #[.bool false])::L) ds w K):
  Rg P r n ops ({dst:=some d,op:= .next x true,type:=ty,pos,after:=af,guard:=none}::rest) L ds w K:=by
 have hs:(⟨l.toArray⟩:ByteArray).size=l.length:=by simp[ByteArray.size]
 have eZ:=ae hb;by_cases h:p<l.length
 ·have key:=k1 h {w with heap:=w.heap.setIfInBounds b (.stringIter ⟨l.toArray⟩ (p+(dec (l.drop p)).2))} (by simp[dD,eZ]) (iU M hm);refine .op a06 G G hd _ _ (λρ hρ=>?_) key;simp only[execOp,hρ x _ hx,Instr.next,cB,re hb,cW];rw[if_pos (by rw[hs];exact h)];simp[IF,setObj,Sem.run,goInt,hb]
 ·refine .op a06 G G hd _ w (λρ hρ=>?_) (k2 h);simp only[execOp,hρ x _ hx,Instr.next,cB,re hb,cW];rw[if_neg (by rw[hs];exact h)];simp
theorem Rg.KH {t:TypeId} {i:Operand} {l:List UInt8} {κ:IntKind} {j:Int} {c:UInt8} (ht:P.underlying t=some .string) (hx:ev L x=some (.string ⟨l.toArray⟩)) (hi:ev L i=some (.int κ j)) (hd:Nat.blt d n=true) (hj:0<=j) (hc:l[j.toNat]? =some c)
  (k:Rg P r n ops rest ((d,.int .u8 (c.toNat:Int))::L) ds w K):
  Rg P r n ops ({dst:=some d,op:= .index t x i,type:=ty,pos,after:=af,guard:=none}::rest) L ds w K:=by
 have eZ:=(al.1 hc).1;have hs:(⟨l.toArray⟩:ByteArray).size=l.length:=by simp[ByteArray.size]
 have hg:(⟨l.toArray⟩:ByteArray)[j.toNat]? =some c:=by
  rw[getElem?_pos _ _ (by rw[hs];exact eZ)];congr 1;have:=(al.1 hc).2;rw[<-this];rfl
 refine .op a06 G G hd _ w (λρ hρ=>?_) k;simp only[execOp,hρ x _ hx,hρ i _ hi,Instr.index,cB,asIntOf,nc,cW,run_underlying ht];simp[hj,hg]
theorem tb (l:List UInt8) (a b:Nat):(⟨l.toArray⟩:ByteArray).extract a b=⟨((l.take b).drop a).toArray⟩:=by
 have:((⟨l.toArray⟩:ByteArray).extract a b).data=((l.take b).drop a).toArray:=by
  rw[ByteArray.data_extract];apply Array.toList_inj.1;rw[Array.toList_extract,List.extract_eq_take_drop,List.drop_take]
 exact congrArg ByteArray.mk this
theorem Rg.UD {t:TypeId} {i:Operand} {l:List UInt8} {κ:IntKind} {j:Int} (ht:P.underlying t=some .string) (hx:ev L x=some (.string ⟨l.toArray⟩)) (hi:ev L i=some (.int κ j)) (hd:Nat.blt d n=true) (hj:0<=j/\j<=l.length)
  (k:Rg P r n ops rest ((d,.string ⟨(l.drop j.toNat).toArray⟩)::L) ds w K):
  Rg P r n ops ({dst:=some d,op:= .slice t x (some i) none none,type:=ty,pos,after:=af,guard:=none}::rest) L ds w K:=by
 have hs:(⟨l.toArray⟩:ByteArray).size=l.length:=by simp[ByteArray.size]
 refine .op a06 G G hd _ w (λρ hρ=>?_) k;simp only[execOp,hρ x _ hx,dq,gE,hρ i _ hi];rw[cB,run_sliceAt_string _ _ _ _ _ _ ht,run_slice_string_l _ _ _ ht _ _ hj.1 (by rw[hs];exact hj.2),tb,hs,List.take_length];simp
theorem Rg.WH {t:TypeId} {i:Operand} {l:List UInt8} {κ:IntKind} {j:Int} (ht:P.underlying t=some .string) (hx:ev L x=some (.string ⟨l.toArray⟩)) (hi:ev L i=some (.int κ j)) (hd:Nat.blt d n=true) (hj:0<=j/\j<=l.length)
  (k:Rg P r n ops rest ((d,.string ⟨(l.take j.toNat).toArray⟩)::L) ds w K):
  Rg P r n ops ({dst:=some d,op:= .slice t x none (some i) none,type:=ty,pos,after:=af,guard:=none}::rest) L ds w K:=by
 have hs:(⟨l.toArray⟩:ByteArray).size=l.length:=by simp[ByteArray.size]
 refine .op a06 G G hd _ w (λρ hρ=>?_) k;simp only[execOp,hρ x _ hx,dq,gE,hρ i _ hi];rw[cB,run_sliceAt_string _ _ _ _ _ _ ht,run_slice_string_h _ _ _ ht _ _ hj.1 (by rw[hs];exact hj.2),tb,List.drop_zero];simp
end
theorem Own.eT {α:Type} {A:RT α} {e:TypeId} {M:aE} {w:World} {base b p:Nat} {s:ByteArray} {v:Value} {xs:List α} (h:Own A e M w base v xs) (hb:w.heap[b]? =some (.stringIter s p)):v.ownBlock≠some b:=λhv=>by
 obtain⟨⟨C,h1,_⟩,_⟩:=h;rcases h1.2 with⟨h2,_⟩|⟨g,cap,cur,h2,_,h3,_⟩
 ·rw[h2]at hv;cases hv
 ·rw[h2]at hv;cases hv;rw[h3]at hb;cases hb
theorem Own.jE {α β:Type} {A:RT α} {B:RT β} {e e':TypeId} {M M':aE} {w:World} {base base':Nat} {v u:Value} {xs:List α} {ys:List β} (h:Own A e M w base v xs) (h':Own B e' M' w base' u ys) (ht:e≠e') {b:Nat} (hb:v.ownBlock=some b):u.ownBlock≠some b:=λhu=>by
 obtain⟨⟨C,h1,_⟩,_⟩:=h;obtain⟨⟨C',Uk,_⟩,_⟩:=h';rcases h1.2 with⟨h2,_⟩|⟨g,cap,cur,h2,_,h3,_⟩
 ·rw[h2]at hb;cases hb
 ·rcases Uk.2 with⟨H0,_⟩|⟨g',acY,acZ,H0,_,h3',_⟩
  ·rw[H0]at hu;cases hu
  ·rw[h2]at hb;rw[H0]at hu;cases hb;cases hu;rw[h3]at h3';cases h3';exact ht G
theorem Own.fk {α:Type} {A:RT α} {e t:TypeId} {M:aE} {w:World} {base b:Nat} {v:Value} {xs:List α} {cs:Array Value} {fr:Nat×Nat} (h:Own A e M w base v xs) (hb:w.heap[b]? =some (.cells cs t fr)) (ht:t≠e):v.ownBlock≠some b:=λhv=>by
 obtain⟨⟨C,h1,_⟩,_⟩:=h;rcases h1.2 with⟨h2,_⟩|⟨g,cap,cur,h2,_,h3,_⟩
 ·rw[h2]at hv;cases hv
 ·rw[h2]at hv;cases hv;rw[h3]at hb;cases hb;exact ht G
open Go.Proofs
namespace TKSnapF
theorem xu:TI Tryz.prog 132 (.map none) 1 8:=by unfold TI;kernel_rfl
theorem akJ:TI Tryz.prog 134 (.agg #[(.map none),(.int .i64 0),(.slice none 0 0)]) 3 40:=by unfold TI;kernel_rfl
theorem B2:TI Tryz.prog 135 (.pointer none) 1 8:=by unfold TI;kernel_rfl
theorem yP:TI Tryz.prog 137 (.agg #[(.int .i64 0)]) 1 8:=by unfold TI;kernel_rfl
theorem akK:TI Tryz.prog 139 (.agg #[(.int .i64 0),(.pointer none)]) 2 16:=by unfold TI;kernel_rfl
theorem akL:placesOf Tryz.prog 134=[(0,1),(1,1),(2,1)].map some:=by kernel_rfl
theorem UE:placesOf Tryz.prog 137=[(0,1)].map some:=by kernel_rfl
theorem akM:placesOf Tryz.prog 139=[(0,1),(1,1)].map some:=by kernel_rfl
theorem E69:Enters Tryz.prog 69:=enters Tryz.func69 rfl XT
theorem E88:Enters Tryz.prog 88:=enters Tryz.func88 rfl XT
theorem Ac:Enters Tryz.prog 100:=enters BO rfl XT
end TKSnapF
open TKSnapF
set_option maxRecDepth 10000
open Go.Maps (int_keyed keyOf_int_mk)
theorem DT {x:Int} (h: -9223372036854775808<=x/\x<=9223372036854775807):(Lit.int .i64 x).wf=true:=by
 simp only[Lit.wf,cp,decide_eq_true_eq];exact h
theorem lM.DV {P:Program} {k e:TypeId} {R:Value->Option (DU×List MemPlace)} {α:Type} {A:RT α} {M M':aE} {w:World} {b base:Nat} {m:List (Lit×DU)} {v:Value} {xs:List α} (h:lM P k R M w b m) (ho:Own A e M' w base v xs):v.ownBlock≠some b:=λhv=>by
 obtain⟨⟨C,h1,_⟩,_⟩:=ho;rcases h1.2 with⟨h2,_⟩|⟨g,cap,cur,h2,_,h3,_⟩
 ·rw[h2]at hv;cases hv
 ·rw[h2]at hv;cases hv;exact h.ne h3 G
def gU (w:World) (hb:Nat) (c:Int) (x:Value):Prop:=w.heap[hb]? =some (.cells #[.int .i64 c,x] 139 (0,0))
structure Rest (w:World) (B:Nat) (mb:Nat) (u:Value) (ml:List (Int×Nat)) (fr:List Int):Prop where
 m:lM Tryz.prog 3 vm allM w mb (ml.map su)
 o:Own (RT.int .i64) 3 allM w B u fr
 h:∀p∈ml,∃c x,gU w p.2 c x
theorem Rest.step {w w':World} {B mb:Nat} {u:Value} {ml:List (Int×Nat)} {fr:List Int} {N:aE} (h:Rest w B mb u ml fr) (s:Step allM w allM w' N) (hN:∀b,N b->∃cs t,t≠3/\t≠139/\w.heap[b]? =some (.cells cs t (0,0))):Rest w' B mb u ml fr:=
 ⟨h.m.step s λhn=>by obtain⟨cs,t,h1,h2,h3⟩:=hN _ hn;exact h.m.ne h3 rfl,h.o.CL s λb hb hn=>by obtain⟨cs,t,h1,h2,h3⟩:=hN _ hn;exact h.o.fk h3 h1 hb,
  λp hp=>by
  obtain⟨c,x,hx⟩:=h.h p hp;exact⟨c,x,s.bL hx λhn=>by obtain⟨cs,t,h1,h2,h3⟩:=hN _ hn;rw[hx]at h3;cases h3;exact h2 G⟩⟩
theorem Rest.bD {w w':World} {B mb:Nat} {u:Value} {ml:List (Int×Nat)} {fr:List Int} (h:Rest w B mb u ml fr) (s:Step allM w allM w' ar):Rest w' B mb u ml fr:=h.step s λ_ h=>h.elim
theorem Rest.count {w w':World} {B mb hb:Nat} {u:Value} {ml:List (Int×Nat)} {fr:List Int} {c c':Int} {x x':Value} (h:Rest w B mb u ml fr) (s:Step allM w allM w' (λk=>k=hb)) (h0:gU w hb c x) (h1:gU w' hb c' x'):Rest w' B mb u ml fr:=
 ⟨h.m.step s λhn=>h.m.ne h0 hn,h.o.CL s λb H4 hn=>by subst hn;exact h.o.fk h0 XT H4,
  λp hp=>by
  obtain⟨c2,x2,hx⟩:=h.h p hp;by_cases e:p.2=hb
  ·rw[e];exact⟨_,_,h1⟩
  ·exact⟨c2,x2,s.bL hx e⟩⟩
structure St (w:World) (B:Nat) (sb mb:Nat) (u:Value) (n:Int) (ml:List (Int×Nat)) (fr:List Int):Prop where
 s:w.heap[sb]? =some (.cells #[.map (some mb),.int .i64 n,u] 134 (0,0))
 r:Rest w B mb u ml fr
 d:DO ml
 b:∀p∈ml,1<=p.1/\p.1<=n
 z:0<=n/\n<=1000000
 k:(ml.length:Int)+fr.length=n
 bs:B<=sb/\B<=mb/\∀p∈ml,B<=p.2
theorem St.bD {w w':World} {B sb mb:Nat} {u:Value} {n:Int} {ml:List (Int×Nat)} {fr:List Int} (h:St w B sb mb u n ml fr) (s:Step allM w allM w' ar):St w' B sb mb u n ml fr:=⟨s.ay h.s,h.r.bD s,h.d,h.b,h.z,h.k,h.bs⟩
theorem CO (w0:World):
  Spec Tryz.prog 23 #[] w0 (λv w=>∃sb mb,v= .pointer (some ⟨sb,0,none⟩)/\St w w0.heap.size sb mb (.slice none 0 0) 0 [] []/\Step allM w0 allM w ar):=by
 refine aS (args:=[]) (fn:=Tryz.f23) Tryz.func23 G (n:=4) Tryz.ntmps23 ?_;have S:Step allM w0 allM w0 ar:=(aV).dF a15 (λ_ _=>trivial);refine T.aO (Rg.aZ G G (T.aO ?_));refine Rg.makeMap allM dJ G vm (λmb w1 p1 q1 hm s1=>?_);replace s1:=s1.all;replace hm:=hm.all;have:=S.size;replace S:=S.av s1;refine dp (places:=[(0,1),(1,1),(2,1)]) dK akJ akL rfl ⟨_,_,rfl,rfl,rfl⟩ (out:=[_,.int .i64 0,.slice none 0 0]) ⟨0,[_],rfl,rfl,by simp[Value.cells],rfl⟩ ?_;refine iP allM G G (λIC FL adE adF gT kP=>?_);replace kP:=kP.all;change FL.heap[IC]? =some (.cells #[.map (some mb),.int .i64 0,.slice none 0 0] _ _)at gT;replace hm:=hm.bD kP;have:=S.size;replace S:=S.av kP;refine Rg.aZ G G (aM ?_);exact aP G G ⟨_,mb,G,⟨gT,⟨hm,eE _ _ _ _ _,(λp hp=>by cases hp)⟩,List.Pairwise.nil,(λp hp=>by cases hp),by omega,rfl,by omega,p1,(λp hp=>by cases hp)⟩,S⟩
theorem FQ {B sb mb:Nat} {u:Value} {n:Int} {ml:List (Int×Nat)} {fr:List Int} {xv:Option Addr} (w0:World) (hs:St w0 B sb mb u n ml fr) (hn:n<1000000):
  Spec Tryz.prog 24 #[.pointer (some ⟨sb,0,none⟩),.pointer xv] w0 (λv w=>∃hb,v= .int .i64 (n+1)/\St w B sb mb u (n+1) (xn (n+1,hb) ml) fr/\gU w hb 1 (.pointer xv)/\w0.heap.size<=hb/\Step allM w0 allM w (λk=>k=sb\/k=mb)):=by
 have sF:=hs.b;have H5:=hs.z;have yQ:=hs.d;have IG:=hs.k;have IH:=hs.bs;have g0:=hs.s;have hr:=hs.r;obtain⟨yN,pZ,xx⟩:=IH;clear hs;refine aS (args:=[_,_]) (fn:=Tryz.f24) Tryz.func24 G (n:=28) Tryz.ntmps24 ?_;have S:Step allM w0 allM w0 (λk=>k=sb\/k=mb):=(aV).dF a15 (λ_ _=>trivial);refine T.aO (Rg.aZ G G (T.aO (ab G G (aL G ⟨_,G⟩ G (aK (o':=1) dK G G I3 XT G G (aA aj G G G a00 G (br G G G q0 (aL G ⟨_,G⟩ G ?_))))))));refine aK (o':=1) dK G G I3 XT G G ?_;refine ch (M:=allM) I3 G G g0 G (G) trivial (λYT II UF=>?_);change YT.heap[_]? =some (Obj.cells #[.map (some mb),.int .i64 (n+1),u] _ _)at II;replace hr:=hr.step UF (λb hb=>by cases hb;exact⟨_,_,by decide,by decide,g0⟩);have:=S.size;replace S:=S.trans UF (λk hk h=>by have h:_=_:=h;subst h;first|(exfalso;omega)|(show _<=_;omega)|exact .inl rfl|exact .inr rfl|exact .inr (.inl rfl)|exact .inr (.inr rfl)|exact .inr (.inr (.inl rfl))|exact rfl);have g0_:=II;clear g0;have g0:=g0_;clear g0_;refine ad (aI ?_);apply T.qa 11 [0,1,2,3,4,5,6,7] 1 (λk=>k=mb) mixed rfl rfl rfl rfl;intro wD2 sA2;have CP:=sA2 allM;have:=ae g0;replace g0:=CP.ay g0;replace hr:=hr.bD CP;have:=S.size;replace S:=S.av CP;have ns:sb≠mb:=λe=>hr.m.ne g0 e.symm
 refine ab G G (Rg.cI (aL G ⟨_,G⟩ G (Rg.cI (aK (o':=0) dK G G xu XT G G (Rg.cI (aA dJ G G G (by first|assumption|exact cg CP a00) G (Rg.cI (ab G G (Rg.cI (aL G ⟨_,G⟩ G (Rg.cI ?_)))))))))));refine aK (o':=1) dK G G I3 XT G G (Rg.cI (aA aj G G G (by first|assumption|exact cg CP a00) rfl (Rg.cI (dp (places:=[(0,1)]) jZ yP UE rfl ⟨_,_,rfl,rfl,rfl⟩ (out:=[_]) ⟨0,[_],rfl,rfl,by simp[Value.cells],rfl⟩ (Rg.cI (ab rfl rfl (Rg.cI (dp (places:=[(0,1),(1,1)]) tw akK akM rfl ⟨_,_,rfl,rfl,_,_,rfl,rfl,rfl⟩ (out:=[_,_]) ⟨0,[_],rfl,rfl,by simp[Value.cells],1,[_],rfl,rfl,by simp[Value.cells],rfl⟩ (Rg.cI (fB (⟨ik ⟨eP,⟨nf rfl,⟨fC dK rfl xu XT,⟨eO G a00 a30,⟨eP,⟨nf rfl,⟨fC dK rfl I3 XT,⟨eO rfl a00 a30,trivial⟩⟩⟩⟩⟩⟩⟩⟩,?_⟩)))))))))));have kp:=iR (λk=>k=mb) wD2;refine iP allM G G (λKI adL aqL aqM CQ FR=>?_);replace FR:=FR.all;change adL.heap[KI]? =some (.cells #[.int .i64 1,.pointer xv] _ _)at CQ;have:=ae g0;replace g0:=FR.ay g0;replace hr:=hr.bD FR;have:=S.size;replace S:=S.av FR;refine(fun(kp:fa _ _ _)=>ad ⟨G,G,λ_=>kp,?_⟩) a03;refine Rg.Yw (R:=vm) dJ (int_keyed aj) G G G (keyOf_int_mk aj (DT q0)) rfl hr.m (by rw[bT];unfold maxLen;omega) (λw2 hm2 s2=>?_)
 have nb:KI≠mb:=λe=>hr.m.ne CQ e.symm
 rw[Iw,filter_none (λq hq=>by have:=sF q hq;omega)]at hm2;have ho2:=hr.o.CL s2 (λb H4 hn=>hr.m.DV hr.o (hn▸H4))
 have hh2:∀p∈ml,∃c x,gU w2 p.2 c x:=λp hp=>by
  obtain⟨c,x,hx⟩:=hr.h p hp;exact⟨c,x,s2.bL hx λe=>hr.m.ne hx e.symm⟩
 replace g0:=s2.bL g0 a05;replace CQ:=s2.bL CQ a05;have:=S.size;replace S:=S.trans s2 (λk hk h=>by have h:_=_:=h;subst h;first|(exfalso;omega)|(show _<=_;omega)|exact .inl rfl|exact .inr rfl|exact .inr (.inl rfl)|exact .inr (.inr rfl)|exact .inr (.inr (.inl rfl))|exact rfl);refine ad ⟨G,G,λh=>absurd G h,lH (T.aO (ab G G (aL G ⟨_,G⟩ G (aK (o':=1) dK G G I3 XT G G (aA aj G G G (by first|assumption|exact cg CP a00) G (Rg.aZ G G (aM ?_)))))))⟩
 exact aP G G ⟨KI,G,⟨g0,⟨hm2,ho2,λp hp=>by
  rcases(jU _ _ _).1 hp with rfl|hp
  ·exact⟨_,_,CQ⟩
  ·exact hh2 p hp⟩,yQ.ins (λq hq=>by have:=sF q hq;omega),(λp hp=>by
  rcases(jU _ _ _).1 hp with rfl|hp
  ·exact⟨by omega,nP _⟩
  ·have:=sF p hp;omega),by omega,by rw[FF];omega,yN,pZ,λp hp=>by
  rcases(jU _ _ _).1 hp with rfl|hp
  ·show B<=KI;omega
  ·exact xx p hp⟩,CQ,by omega,S⟩
theorem Af {hb:Nat} {c:Int} {x:Value} (w0:World) (h0:gU w0 hb c x) (hc: -1000000<=c/\c<=1000000):
  Spec Tryz.prog 88 #[.pointer (some ⟨hb,0,none⟩)] w0 (λv w=>v= .bool (decide (c-1=0))/\gU w hb (c-1) x/\Step allM w0 allM w (λk=>k=hb)):=by
 have gh:w0.heap[hb]? =some (.cells #[.int .i64 c,x] 139 (0,0)):=h0;refine aS (args:=[_]) (fn:=Tryz.f88) Tryz.func88 G (n:=15) Tryz.ntmps88 ?_;have S:Step allM w0 allM w0 (λk=>k=hb):=(aV).dF a15 (λ_ _=>trivial);refine T.aO (Rg.aZ G G (T.aO (ab G G (aL G ⟨_,G⟩ G (aK (o':=0) jZ G G I3 XT G G (aA aj G G G a00 G (jy G G G q0 (aL G ⟨_,G⟩ G ?_))))))));refine aK (o':=0) jZ G G I3 XT G G ?_;refine ch (M:=allM) I3 G G gh G (G) trivial (λYT II UF=>?_);change YT.heap[_]? =some (Obj.cells #[.int .i64 (c-1),x] _ _)at II;have:=S.size;replace S:=S.trans UF (λk hk h=>by have h:_=_:=h;subst h;first|(exfalso;omega)|(show _<=_;omega)|exact .inl rfl|exact .inr rfl|exact .inr (.inl rfl)|exact .inr (.inr rfl)|exact .inr (.inr (.inl rfl))|exact rfl);have CR:=II;clear gh;have gh:=CR;clear CR;refine ad (T.aO (ab G G (aL G ⟨_,G⟩ G (aK (o':=0) jZ G G I3 XT G G (aA aj G G G a00 G (gN G G G (Rg.aZ G G (aM ?_))))))));exact aP G G ⟨G,gh,S⟩
theorem CS {hb:Nat} {c:Int} {x:Value} (w0:World) (h0:gU w0 hb c x) (hc: -1000000<=c/\c<=1000000):
  Spec Tryz.prog 69 #[.pointer (some ⟨hb,0,none⟩)] w0 (λv w=>gU w hb (c+1) x/\Step allM w0 allM w (λk=>k=hb)):=by
 have gh:w0.heap[hb]? =some (.cells #[.int .i64 c,x] 139 (0,0)):=h0;refine aS (args:=[_]) (fn:=Tryz.f69) Tryz.func69 G (n:=9) Tryz.ntmps69 ?_;have S:Step allM w0 allM w0 (λk=>k=hb):=(aV).dF a15 (λ_ _=>trivial);refine aN (ab G G (aL G ⟨_,G⟩ G (aK (o':=0) jZ G G I3 XT G G (aA aj G G G a00 G (br G G G q0 (aL G ⟨_,G⟩ G (aK (o':=0) jZ G G I3 XT G G ?_)))))));refine ch (M:=allM) I3 G G gh G (G) trivial (λauU adM akP=>?_)
 try simp only[nR,List.set_cons_zero,List.set_cons_succ]at adM
 have:=S.size;replace S:=S.trans akP (λk hk h=>by have h:_=_:=h;subst h;first|(exfalso;omega)|(show _<=_;omega)|exact .inl rfl|exact .inr rfl|exact .inr (.inl rfl)|exact .inr (.inr rfl)|exact .inr (.inr (.inl rfl))|exact rfl);have CR:=adM;clear gh;have gh:=CR;clear CR;refine ad ?_
 first|refine iA.nil ?_|simp+decide only[wY,mi,if_true,if_false]|skip
 exact jB G ⟨gh,S⟩
theorem My {B sb mb:Nat} {u:Value} {n:Int} {ml:List (Int×Nat)} {fr:List Int} {k:Int} (w0:World) (hs:St w0 B sb mb u n ml fr) {hb:Nat} {c:Int} {x:Value} (hm:(k,hb)∈ml) (h0:gU w0 hb c x) (hc: -1000000<=c/\c<=1000000) (KJ:c≠1):
  Spec Tryz.prog 42 #[.pointer (some ⟨sb,0,none⟩),.int .i64 k] w0 (λv w=>v= .tuple #[.bool false,.int .i64 0]/\St w B sb mb u n ml fr/\gU w hb (c-1) x/\Step allM w0 allM w (λk=>k=hb)):=by
 have sF:=hs.b;have H5:=hs.z;have yQ:=hs.d;have IG:=hs.k;have IH:=hs.bs;have g0:=hs.s;have hr:=hs.r;obtain⟨yN,pZ,xx⟩:=IH;have gh:w0.heap[hb]? =some (.cells #[.int .i64 c,x] 139 (0,0)):=h0;have nh:sb≠hb:=λe=>by subst e;rw[g0]at gh;cases gh
 have KK:=xx _ hm;have Pn:=sF _ hm;simp only[]at KK Pn;refine aS (args:=[_,_]) (fn:=Tryz.f42) Tryz.func42 G (n:=37) Tryz.ntmps42 ?_;have S:Step allM w0 allM w0 (λk=>k=hb):=(aV).dF a15 (λ_ _=>trivial);refine T.aO (aB G G (Rg.aZ G G (T.aO (ab G G (aL G ⟨_,G⟩ G (aK (o':=0) dK G G xu XT G G (aA dJ G G G a00 G (ab G G ?_))))))));refine Rg.tX (R:=vm) dJ (int_keyed aj) B2 G G G G (keyOf_int_mk aj (DT q0)) hr.m (λv ps hv=>?_);rw[atKey_mem yQ hm]at hv;obtain rfl:=kW hv;refine Rg.aZ G G (aI (aT (T.aO (ab G G (Rg.sU Tryz.underlying135 G G G (Rg.aZ G G (yK G ((by simp)) (aI ?_))))))));refine aN (ab G G (aL G ⟨_,G⟩ G (aK (o':=0) tw G G yP XT G G ?_)));refine aJ G G E88 (Af _ gh hc) (λr4 w4 h4=>?_);obtain⟨rfl,g4,s4⟩:=h4;replace hr:=hr.count s4 gh g4;replace g0:=s4.bL g0 a05;have:=S.size;replace S:=S.trans s4 (λk hk h=>by have h:_=_:=h;subst h;first|(exfalso;omega)|(show _<=_;omega)|exact .inl rfl|exact .inr rfl|exact .inr (.inl rfl)|exact .inr (.inr rfl)|exact .inr (.inr (.inl rfl))|exact rfl);have CR:=g4;clear gh;have gh:=CR;clear CR;refine gM rfl rfl (aY (v':= .bool true) (by rw[decide_eq_false q0];rfl) (Rg.aZ rfl rfl (lh rfl (T.aO (aB rfl rfl (Rg.aZ rfl rfl (aM ?_)))))));exact eS G G G ⟨G,⟨g0,hr,yQ,sF,H5,IG,yN,pZ,xx⟩,gh,S⟩
theorem MA {B sb mb:Nat} {u:Value} {n:Int} {ml:List (Int×Nat)} {fr:List Int} {k:Int} (w0:World) (hs:St w0 B sb mb u n ml fr) {hb:Nat} {c:Int} {x:Value} (hm:(k,hb)∈ml) (h0:gU w0 hb c x) (hc: -1000000<=c/\c<=1000000) (KJ:c=1):
  Spec Tryz.prog 42 #[.pointer (some ⟨sb,0,none⟩),.int .i64 k] w0 (λv w=>v= .tuple #[.bool true,.int .i64 0]/\(∃u',St w B sb mb u' n (ml.filter λp=> !decide (p.1=k)) (fr++[k]))/\Step allM w0 allM w (λk=>k=sb\/k=mb\/k=hb\/u.ownBlock=some k)):=by
 have sF:=hs.b;have H5:=hs.z;have yQ:=hs.d;have IG:=hs.k;have IH:=hs.bs;have g0:=hs.s;have hr:=hs.r;obtain⟨yN,pZ,xx⟩:=IH;have gh:w0.heap[hb]? =some (.cells #[.int .i64 c,x] 139 (0,0)):=h0;have nh:sb≠hb:=λe=>by subst e;rw[g0]at gh;cases gh
 have KK:=xx _ hm;have Pn:=sF _ hm;simp only[]at KK Pn;refine aS (args:=[_,_]) (fn:=Tryz.f42) Tryz.func42 G (n:=37) Tryz.ntmps42 ?_;have S:Step allM w0 allM w0 (λk=>k=sb\/k=mb\/k=hb\/u.ownBlock=some k):=(aV).dF a15 (λ_ _=>trivial);refine T.aO (aB G G (Rg.aZ G G (T.aO (ab G G (aL G ⟨_,G⟩ G (aK (o':=0) dK G G xu XT G G (aA dJ G G G a00 G (ab G G ?_))))))));refine Rg.tX (R:=vm) dJ (int_keyed aj) B2 G G G G (keyOf_int_mk aj (DT q0)) hr.m (λv ps hv=>?_);rw[atKey_mem yQ hm]at hv;obtain rfl:=kW hv;refine Rg.aZ G G (aI (aT (T.aO (ab G G (Rg.sU Tryz.underlying135 G G G (Rg.aZ G G (yK G ((by simp)) (aI ?_))))))));refine aN (ab G G (aL G ⟨_,G⟩ G (aK (o':=0) tw G G yP XT G G ?_)));refine aJ G G E88 (Af _ gh hc) (λr4 w4 h4=>?_);obtain⟨rfl,g4,s4⟩:=h4;replace hr:=hr.count s4 gh g4;replace g0:=s4.bL g0 a05;have:=S.size;replace S:=S.trans s4 (λk hk h=>by have h:_=_:=h;subst h;first|(exfalso;omega)|(show _<=_;omega)|exact .inl rfl|exact .inr rfl|exact .inr (.inl rfl)|exact .inr (.inr rfl)|exact .inr (.inr (.inl rfl))|exact rfl);have CR:=g4;clear gh;have gh:=CR;clear CR;refine gM rfl rfl (aY (v':= .bool false) (by rw[decide_eq_true q0];rfl) (Rg.aZ rfl rfl (gy rfl (aR (T.aO (ab rfl rfl (aL rfl ⟨_,rfl⟩ rfl (aK (o':=0) dK rfl rfl xu XT rfl rfl (aA dJ rfl rfl rfl a00 rfl ?_)))))))));refine ab G G ?_;refine Rg.Yx dJ (int_keyed aj) G G (keyOf_int_mk aj (DT q0)) hr.m (λw6 hm6 s6=>?_);have ns:sb≠mb:=λe=>hr.m.ne g0 e.symm
 have nbh:hb≠mb:=λe=>hr.m.ne gh e.symm
 rw[zY]at hm6
 replace hr:Rest w6 B mb u (ml.filter λp=> !decide (p.1=k)) fr:=⟨hm6,hr.o.CL s6 (λb H4 hn=>hr.m.DV hr.o (hn▸H4)),λp hp=>by
  obtain⟨c,x,hx⟩:=hr.h p (fy.1 hp).1;exact⟨c,x,s6.bL hx λe=>hr.m.ne hx e.symm⟩⟩
 replace g0:=s6.bL g0 a05;replace gh:=s6.bL gh a05;have:=S.size;replace S:=S.trans s6 (λk hk h=>by have h:_=_:=h;subst h;first|(exfalso;omega)|(show _<=_;omega)|exact .inl rfl|exact .inr rfl|exact .inr (.inl rfl)|exact .inr (.inr rfl)|exact .inr (.inr (.inl rfl))|exact rfl);refine ad (T.aO (ab G G (ab G G (aL G ⟨_,G⟩ G (aK (o':=2) dK G G l4 XT G G (aA ao G G G a00 G (ab G G ?_)))))));have eZ:Lt (mI u) w6:=λb hb=>(hr.o.base b hb).2
 refine fm (A:=RT.int .i64) (hn:=by decide) (M:=mI u) ao I3 XT G G eZ (iG q0) (.inr ⟨G,G⟩) (λu7 w7 YU s7=>?_);have t7:=s7;replace s7:=s7.all;replace hr:=hr.bD s7;have:=ae g0;replace g0:=s7.ay g0;have:=ae gh;replace gh:=s7.ay gh;have:=S.size;replace S:=S.av s7;have akQ:B<=w7.heap.size:=by have:=ae g0;omega
 refine dA (M:=mI u) (base:=B) ao I3 rfl rfl rfl rfl hr.o.lone YU b4 a13 a13 akQ (λu8 M8 w8 ho8 s8=>?_);have hblk:∀b,lW u b->B<=b/\b≠sb/\b≠hb/\b≠mb:=λb h=>⟨(hr.o.base b h).1,λe=>hr.o.fk g0 XT (e▸h),λe=>hr.o.fk gh XT (e▸h),λe=>hr.m.DV hr.o (e▸h)⟩
 replace s8:=s8.all;replace g0:=s8.bL g0 (λh=>(hblk _ h).2.1 rfl);have hm8:=hr.m.step s8 (λh=>(hblk _ h).2.2.2 rfl)
 have hh8:∀p∈(ml.filter λp=> !decide (p.1=k)),∃c x,gU w8 p.2 c x:=λp hp=>by
  obtain⟨c,x,hx⟩:=hr.h p hp;exact⟨c,x,s8.bL hx λh=>hr.o.fk hx XT h⟩
 replace ho8:=ho8.Pf (M':=allM) λ_ _=>trivial
 replace S:=S.trans s8 (λb _ h=> .inr (.inr (.inr h)));replace hr:Rest w8 B mb u8 (ml.filter λp=> !decide (p.1=k)) (fr++[k]):=⟨hm8,ho8,hh8⟩;refine aL G ⟨_,G⟩ G (aK (o':=2) dK G G l4 XT G G ?_);refine ch (M:=allM) l4 rfl rfl g0 rfl ((by obtain⟨_,_,he,_⟩:=ho8.isSlice;rw[he];rfl)) trivial (λadO WI WK=>?_);change adO.heap[_]? =some (Obj.cells #[.map (some mb),.int .i64 n,u8] _ _)at WI;replace hr:=hr.step WK (λb hb=>by cases hb;exact⟨_,_,by decide,by decide,g0⟩);have:=S.size;replace S:=S.trans WK (λk hk h=>by have h:_=_:=h;subst h;first|(exfalso;omega)|(show _<=_;omega)|exact .inl rfl|exact .inr rfl|exact .inr (.inl rfl)|exact .inr (.inr rfl)|exact .inr (.inr (.inl rfl))|exact rfl);have g0_:=WI;clear g0;have g0:=g0_;clear g0_;refine ad (T.aO (aB G G (Rg.aZ G G (aM ?_))));have Ik:=Ix yQ hm;exact eS G G G ⟨G,⟨u8,g0,hr,yQ.filter k,(λp hp=>sF p (fy.1 hp).1),H5,by simp;omega,yN,pZ,λp hp=>xx p (fy.1 hp).1⟩,S⟩
theorem MB {B sb mb:Nat} {u:Value} {n:Int} {ml:List (Int×Nat)} {fr:List Int} {k:Int} (w0:World) (hs:St w0 B sb mb u n ml fr) {hb:Nat} {c:Int} {x:Value} (hm:(k,hb)∈ml) (h0:gU w0 hb c x) (hc: -1000000<=c/\c<=1000000):
  Spec Tryz.prog 76 #[.pointer (some ⟨sb,0,none⟩),.int .i64 k] w0 (λv w=>v= .int .i64 0/\St w B sb mb u n ml fr/\gU w hb (c+1) x/\Step allM w0 allM w (λk=>k=hb)):=by
 have sF:=hs.b;have H5:=hs.z;have yQ:=hs.d;have IG:=hs.k;have IH:=hs.bs;have g0:=hs.s;have hr:=hs.r;obtain⟨yN,pZ,xx⟩:=IH;have gh:w0.heap[hb]? =some (.cells #[.int .i64 c,x] 139 (0,0)):=h0;have nh:sb≠hb:=λe=>by subst e;rw[g0]at gh;cases gh
 have KK:=xx _ hm;have Pn:=sF _ hm;simp only[]at KK Pn;refine aS (args:=[_,_]) (fn:=Tryz.f76) Tryz.func76 G (n:=18) Tryz.ntmps76 ?_;have S:Step allM w0 allM w0 (λk=>k=hb):=(aV).dF a15 (λ_ _=>trivial);refine T.aO (Rg.aZ G G (T.aO (ab G G (aL G ⟨_,G⟩ G (aK (o':=0) dK G G xu XT G G (aA dJ G G G a00 G (ab G G ?_)))))));refine Rg.tX (R:=vm) dJ (int_keyed aj) B2 G G G G (keyOf_int_mk aj (DT q0)) hr.m (λv ps hv=>?_);rw[atKey_mem yQ hm]at hv;obtain rfl:=kW hv;refine Rg.aZ G G (aI (T.aO (ab G G (Rg.sU Tryz.underlying135 G G G (ad (yK G ((by simp)) (aR (T.aO ?_))))))));refine ab G G (aL G ⟨_,G⟩ G (aK (o':=0) tw G G yP XT G G ?_));refine aJ G G E69 (CS _ gh hc) (λr4 w4 h4=>?_);obtain⟨g4,s4⟩:=h4;replace hr:=hr.count s4 gh g4;replace g0:=s4.bL g0 a05;have:=S.size;replace S:=S.trans s4 (λk hk h=>by have h:_=_:=h;subst h;first|(exfalso;omega)|(show _<=_;omega)|exact .inl rfl|exact .inr rfl|exact .inr (.inl rfl)|exact .inr (.inr rfl)|exact .inr (.inr (.inl rfl))|exact rfl);have CR:=g4;clear gh;have gh:=CR;clear CR;refine ad (T.aO (Rg.aZ G G (aM ?_)));exact aP G G ⟨G,⟨g0,hr,yQ,sF,H5,IG,yN,pZ,xx⟩,gh,S⟩
theorem FT {B:Nat} {a:Option Addr} {cap:Nat} {xs:List Int} (w0:World) (ho:Own (RT.int .i64) 3 allM w0 B (.slice a xs.length cap) xs) (ha:a≠none) (hl:xs.length<=1000000):
  Spec Tryz.prog 100 #[.slice a xs.length cap] w0 (λv w=>(∃a cap,v= .slice a xs.length cap)/\Step allM w0 allM w ar):=by
 have hxs:(RT.int .i64).sl XT |>.V ar w0 xs (.slice a xs.length cap):=ho.sl (M0:=ar) Le.none (λ_ _ h=>h) q0;refine aS (args:=[_]) (fn:=Tryz.f100) BO G (n:=8) Tryz.ntmps100 ?_;have S:Step allM w0 allM w0 ar:=(aV).dF a15 (λ_ _=>trivial);refine T.aO (Rg.aZ G G (aI (T.aO (ab G G (Rg.lY ao G G G (ad (yK G (ha) (aR ?_))))))));refine T.aO ?_;refine Rg.ajT ao I3 ar G (λg w1 z1 z1' g1 s1=>?_);have t1:=s1;replace s1:=s1.all;replace ho:=ho.CL s1 (λ_ _ h=>h);have:=S.size;replace S:=S.av s1;refine ab G G ?_;refine dA (M:=ins ar g) (base:=w0.heap.size) ao I3 rfl rfl rfl rfl (Own.empty g1 z1 (.inl rfl)) (hxs.le t1.le) b4 a13 a13 q0 (λv2 M2 w2 ho2 s2=>?_);obtain⟨a2,c2,rfl,_⟩:=ho2.isSlice;replace s2:=s2.all;replace S:=S.trans s2 (λb hb h=>by have h:some g=some b:=h;cases h;omega);refine Rg.aZ G G (aM ?_);exact aP rfl rfl ⟨⟨a2,c2,by simp⟩,S⟩
theorem FU {B:Nat} {v:Value} {xs:List Int} (w0:World) (ho:Own (RT.int .i64) 3 allM w0 B v xs) (hl:xs.length<=1000000):Spec Tryz.prog 100 #[v] w0 (λv w=>(∃a cap,v= .slice a xs.length cap)/\Step allM w0 allM w ar):=by
 obtain⟨a,cap,rfl,_⟩:=ho.isSlice
 cases a with
 |some a=>exact FT w0 ho (by simp) hl
 |none=>
  have hx:xs.length=0/\cap=0:=by
   obtain⟨⟨C,h1,_⟩,_⟩:=ho;rcases h1.2 with⟨h2,h3⟩|⟨g,cap,cur,h2,_⟩
   ·simp at h2;exact⟨by rw[h2.1];rfl,h2.2⟩
   ·cases h2
  rw[hx.1,hx.2];exact(tZ w0).mono λv w ⟨h1,h2⟩=>⟨⟨none,0,h1⟩,by rw[h2];exact aV⟩
theorem IK {B sb mb:Nat} {u:Value} {n:Int} {ml:List (Int×Nat)} {fr:List Int} (w0:World) (hs:St w0 B sb mb u n ml fr):
  Spec Tryz.prog 77 #[.pointer (some ⟨sb,0,none⟩)] w0 (λv w=>(∃a cap,v= .slice a fr.length cap)/\Step allM w0 allM w ar):=by
 have sF:=hs.b;have H5:=hs.z;have yQ:=hs.d;have IG:=hs.k;have IH:=hs.bs;have g0:=hs.s;have hr:=hs.r;obtain⟨yN,pZ,xx⟩:=IH;refine aS (args:=[_]) (fn:=Tryz.f77) Tryz.func77 G (n:=8) Tryz.ntmps77 ?_;have S:Step allM w0 allM w0 ar:=(aV).dF a15 (λ_ _=>trivial);refine T.aO (Rg.aZ G G (T.aO (ab G G (aL G ⟨_,G⟩ G (aK (o':=2) dK G G l4 XT G G (aA ao G G G a00 G ?_))))));refine aJ G G Ac (FU _ hr.o q0) (λr w1 hc=>?_);obtain⟨⟨a1,c1,rfl⟩,s1⟩:=hc;have:=ae g0;replace g0:=s1.ay g0;replace hr:=hr.bD s1;have:=S.size;replace S:=S.av s1;refine Rg.aZ G G (aM ?_);exact aP G G ⟨⟨_,_,G⟩,S⟩
end Go.K
namespace Go.K
open Go.Proofs
namespace TKSnapP
theorem xu:TI Tryz.prog 132 (.map none) 1 8:=by unfold TI;kernel_rfl
theorem B2:TI Tryz.prog 135 (.pointer none) 1 8:=by unfold TI;kernel_rfl
theorem yP:TI Tryz.prog 137 (.agg #[(.int .i64 0)]) 1 8:=by unfold TI;kernel_rfl
theorem E66:Enters Tryz.prog 66:=enters Tryz.func66 rfl XT
theorem akS:Enters Tryz.prog 116:=enters Tryz.func116 rfl XT
theorem akT:Enters Tryz.prog 117:=enters Tryz.func117 rfl XT
end TKSnapP
open TKSnapP
set_option maxRecDepth 10000
open Go.Maps (int_keyed keyOf_int_mk)
theorem YV {B sb mb:Nat} {u:Value} {n:Int} {ml:List (Int×Nat)} {fr:List Int} {k:Int} {hb:Nat} {c:Int} {x:Value} (w0:World) (hs:St w0 B sb mb u n ml fr) (hm:(k,hb)∈ml) (h0:gU w0 hb c x):
  Spec Tryz.prog 45 #[.pointer (some ⟨sb,0,none⟩),.int .i64 k] w0 (λv w=>v= .int .i64 c/\w=w0):=by
 have sF:=hs.b;have H5:=hs.z;have yQ:=hs.d;have IG:=hs.k;have IH:=hs.bs;have g0:=hs.s;have hr:=hs.r;obtain⟨yN,pZ,xx⟩:=IH;have gh:w0.heap[hb]? =some (.cells #[.int .i64 c,x] 139 (0,0)):=h0;have nh:sb≠hb:=λe=>by subst e;rw[g0]at gh;cases gh
 have KK:=xx _ hm;have Pn:=sF _ hm;simp only[]at KK Pn;refine aS (args:=[_,_]) (fn:=Tryz.f45) Tryz.func45 G (n:=19) Tryz.ntmps45 ?_;have S:Step allM w0 allM w0 ar:=(aV).dF a15 (λ_ _=>trivial);refine T.aO (Rg.aZ G G (aI (T.aO (ab G G (aL G ⟨_,G⟩ G (aK (o':=0) dK G G xu XT G G (aA dJ G G G a00 G (ab G G ?_))))))));refine Rg.tX (R:=vm) dJ (int_keyed aj) B2 G G G G (keyOf_int_mk aj (DT q0)) hr.m (λv ps hv=>?_);rw[atKey_mem yQ hm]at hv;obtain rfl:=kW hv;refine Rg.aZ G G (T.aO (ab G G (Rg.ado Tryz.underlying135 G G G (ad (T.OB G ((by simp)) (T.aO (ab G G (aL G ⟨_,G⟩ G ?_))))))));refine aK (o':=0) tw G G yP XT G G (aK (o':=0) jZ G G I3 XT G G (aA aj G G G a00 G (Rg.aZ G G (aM ?_))));exact a69
theorem IL {B sb mb:Nat} {u:Value} {n:Int} {ml:List (Int×Nat)} {fr:List Int} {k:Int} {hb:Nat} {c:Int} {x:Value} (w0:World) (hs:St w0 B sb mb u n ml fr) (hm:(k,hb)∈ml) (h0:gU w0 hb c x) {bx:Nat} (gb:w0.heap[bx]? =some (.cells #[.pointer (some ⟨sb,0,none⟩)] 55 (0,0))):
  Spec Tryz.prog 66 #[.int .i64 k,.pointer (some ⟨bx,0,none⟩)] w0 (λv w=>v= .bool false/\w=w0):=by
 have sF:=hs.b;have H5:=hs.z;have yQ:=hs.d;have IG:=hs.k;have IH:=hs.bs;have g0:=hs.s;have hr:=hs.r;obtain⟨yN,pZ,xx⟩:=IH;have gh:w0.heap[hb]? =some (.cells #[.int .i64 c,x] 139 (0,0)):=h0;have nh:sb≠hb:=λe=>by subst e;rw[g0]at gh;cases gh
 have KK:=xx _ hm;have Pn:=sF _ hm;simp only[]at KK Pn;refine aS (args:=[_,_]) (fn:=Tryz.f66) Tryz.func66 G (n:=11) Tryz.ntmps66 ?_;have S:Step allM w0 allM w0 ar:=(aV).dF a15 (λ_ _=>trivial);refine T.aO (Rg.aZ G G (T.aO (aA Tryz.underlying55 G G G gb G (aY (v':= .pointer (some ⟨sb,0,none⟩)) G (aL G ⟨_,G⟩ G (aK (o':=0) dK G G xu XT G G (aA dJ G G G a00 G (ab G G ?_))))))));refine Rg.tX (R:=vm) dJ (int_keyed aj) B2 G G G G (keyOf_int_mk aj (DT q0)) hr.m (λv ps hv=>?_);rw[atKey_mem yQ hm]at hv;obtain rfl:=kW hv;refine Rg.zN Tryz.underlying135 G ⟨_,G⟩ G G (Rg.aZ G G (aM ?_));exact a69
theorem FV {B sb mb:Nat} {u:Value} {n:Int} {ml:List (Int×Nat)} {fr:List Int} {xs:List Int} {va:Value} (w0:World) (hs:St w0 B sb mb u n ml fr) {bx:Nat} (gb:w0.heap[bx]? =some (.cells #[.pointer (some ⟨sb,0,none⟩)] 55 (0,0))) (hv:((RT.int .i64).sl).V ar w0 xs va) (hx:∀x∈xs,∃hb c x',(x,hb)∈ml/\gU w0 hb c x'):
  Spec Tryz.prog 116 #[va,.func (.func 66) #[] #[.pointer (some ⟨bx,0,none⟩)]] w0 (λv w=>v= .int .i64 (-1)/\w=w0):=by
 have hlen:=dW hv;refine aS (args:=[_,_]) (fn:=Tryz.f116) Tryz.func116 G (n:=19) Tryz.ntmps116 (T.aO (Rg.aZ G G (aI (T.aO (ab G G (bB ao G hv G (ab G G (ad ?_))))))));refine aT ?_;refine cR (σ:=Nat) (λi=>[(0,va),(1,.func (.func 66) #[] #[.pointer (some ⟨bx,0,none⟩)]),(6,va),(7,.int .i64 (xs.length:Int)),(8,.int .i64 (i:Int))]) (λi w=>i<=xs.length/\w=w0) (λi=>xs.length-i) 0 a34 ?_ ?_
 ·exact⟨bm _,G⟩
 ·rintro i w ⟨hi,rfl⟩;refine T.aO (ck G G G (ad (aI ?_)));refine bI G (λc2=>?_) (λc2=>?_)
  ·refine aR (aI (aT (T.aO (ab G G (Rg.aZ G G (T.aO (ab G G (ab G G ?_))))))));refine ab G G ?_;refine cx ao I3 G G G hv b4 q0 (λu4 o E4 KL=>?_);rw[aq]at E4;refine bM aj G G G G G KL b4 (λv4 qb=>?_);obtain⟨rfl,_,_⟩:=E9.1 qb;obtain⟨hb,c,x',hm,h0⟩:=hx _ (ax E4);refine ng (first:=[]) (captured:=[.pointer (some ⟨bx,0,none⟩)]) G G G E66 (IL _ hs hm h0 gb) (λr5 w5 hc=>?_);obtain⟨rfl,rfl⟩:=hc;refine ad (gy G (aR (aN (br G G G q0 (ab G G (ad ?_))))));refine⟨G,i+1,a34,?_,?_⟩
   ·exact⟨by omega,rfl⟩
   ·omega
  ·refine cE (T.aO (Rg.aZ G G (aM ?_)));exact a69
theorem DW {B sb mb:Nat} {u:Value} {n:Int} {ml:List (Int×Nat)} {fr:List Int} {xs:List Int} {va:Value} (w0:World) (hs:St w0 B sb mb u n ml fr) {bx:Nat} (gb:w0.heap[bx]? =some (.cells #[.pointer (some ⟨sb,0,none⟩)] 55 (0,0))) (hv:((RT.int .i64).sl).V ar w0 xs va) (hx:∀x∈xs,∃hb c x',(x,hb)∈ml/\gU w0 hb c x'):
  Spec Tryz.prog 65 #[va,.func (.func 66) #[] #[.pointer (some ⟨bx,0,none⟩)]] w0 (λv w=>v= .bool false/\w=w0):=by
 refine aS (args:=[_,_]) (fn:=Tryz.f65) Tryz.func65 G (n:=9) Tryz.ntmps65 (T.aO (Rg.aZ G G (T.aO (ab G G (ab G G ?_)))));refine aJ G G akS (FV _ hs gb hv hx) (λr1 w1 hc=>?_);obtain⟨rfl,rfl⟩:=hc;refine eh G G G (Rg.aZ G G (aM ?_));exact a69
theorem Pp {k:Int} {v:Value} (w0:World) (hv:((RT.int .i64).sl).V ar w0 [] v):
  Spec Tryz.prog 117 #[v,.int .i64 k] w0 (λv w=>v= .int .i64 (-1)/\w=w0):=by
 refine aS (args:=[_,_]) (fn:=Tryz.f117) Tryz.func117 G (n:=19) Tryz.ntmps117 (T.aO (Rg.aZ G G (aI (T.aO (ab G G (bB ao G hv G (ab G G (ad ?_))))))));refine aT ?_;refine cR (σ:=Unit) (λ_=>[(6,v),(7,.int .i64 0),(8,.int .i64 0)]) (λ_ w=>w=w0) (λ_=>0) () a07 ?_ ?_
 ·rfl
 ·rintro _ w rfl;refine T.aO (ck G G G (ad (aI (yK G (XT) (cE (T.aO (Rg.aZ G G (aM ?_))))))));exact a69
theorem MC {k:Int} {v:Value} (w0:World) (hv:((RT.int .i64).sl).V ar w0 [] v):
  Spec Tryz.prog 67 #[v,.int .i64 k] w0 (λv w=>v= .bool false/\w=w0):=by
 refine aS (args:=[_,_]) (fn:=Tryz.f67) Tryz.func67 G (n:=9) Tryz.ntmps67 (T.aO (Rg.aZ G G (T.aO (ab G G (ab G G ?_)))));refine aJ G G akT (Pp _ hv) (λr1 w1 hc=>?_);obtain⟨rfl,rfl⟩:=hc;refine eh G G G (Rg.aZ G G (aM ?_));exact aP rfl rfl ⟨by simp,rfl⟩
end Go.K
namespace Go.K
def WL {α:Type} (A:RT α) (M:aE) (w:World) (v:Value) (x:α):Prop:=∃b o vs,v= .pointer (some ⟨b,o,none⟩)/\A.R M w x vs/\w.rangeAt b o vs
theorem Own.elem {α:Type} {A:RT α} {e:TypeId} {M:aE} {w:World} {base:Nat} {v:Value} {xs:List α} (h:Own A e M w base v xs) (hA:0<A.n) {i:Nat} {x:α} (hx:xs[i]? =some x):
  ∃g cap vs,v= .slice (some ⟨g,0,none⟩) xs.length cap/\M g/\A.R M w x vs/\w.rangeAt g (i*A.n) vs:=by
 obtain⟨⟨C,hr,ha⟩,hm⟩:=h;rcases hr.2 with⟨h1,h2⟩|⟨g,cap,cur,h1,h2,h3,h4,h5,h6,h7⟩
 ·have:xs=[]:=List.eq_nil_of_length_eq_zero h2;subst this;simp at hx
 ·obtain⟨vs,hv,hj⟩:=ha.at_ i x hx;refine ⟨g,cap,vs,h1,hm g (by rw[h1];rfl),hv,λj u hu=> ?_⟩;have h8:=hj j u hu;rw[<-h7,dE]at h8
  split at h8
  ·simp only[World.cell?,h3];simpa using h8
  ·cases h8
section
variable {P:Program} {r:Option Nat} {n:Nat} {L:Sl} {ds:List Deferred} {w:World} {K:Kt} {ops:Array Oper} {rest:List Oper} {d:Nat} {x y:Operand} {ty:TypeId} {pos:String} {af:Array Edge} {α:Type} {A:RT α}
theorem Rg.akU {t e e':TypeId} {i:Operand} {κ:IntKind} {j:Int} {M:aE} {base:Nat} {xs:List α} {v zv:Value} {bytes:Nat} (ht:P.underlying t=some (.slice e)) (hi:TI P e zv A.n bytes) (hA:0<A.n)
  (hx:ev L x=some v) (LU:ev L i=some (.int κ j)) (hd:Nat.blt d n=true) (ho:Own A e' M w base v xs) (hj:0<=j/\j<xs.length)
  (k:∀u a,xs[j.toNat]? =some a->WL A M w u a->Rg P r n ops rest ((d,u)::L) ds w K):
  Rg P r n ops ({dst:=some d,op:= .indexAddr t x i,type:=ty,pos,after:=af,guard:=none}::rest) L ds w K:=by
 have eZ:j.toNat<xs.length:=by omega
 obtain⟨g,cap,vs,rfl,hm,h1,h2⟩:=ho.elem hA (an eZ);refine .op a06 G G hd (.pointer (some ⟨g,0+j.toNat*A.n,none⟩)) w (λρ h=>?_) (k _ xs[j.toNat] (an eZ) ⟨g,_,vs,rfl,h1,by rw[Nat.zero_add];exact h2⟩);simp only[execOp,h x _ hx,h i _ LU];simp[Instr.indexAt,run_underlying ht,asIntOf,hj,hi.sizeOf,Addr.add_mid]
theorem Rg.Pq {t:TypeId} {fs:TypeDesc} {zv:Value} {bytes:Nat} {M:aE} {p:Value} {a:α} (hu:P.underlying t=some fs) (hf:fs.isRow=true) (hi:TI P t zv A.n bytes) (hg:A.agg=true)
  (hx:ev L x=some p) (hd:Nat.blt d n=true) (hp:WL A M w p a) (k:∀v,A.V M w a v->Rg P r n ops rest ((d,v)::L) ds w K):
  Rg P r n ops ({dst:=some d,op:= .load t x,type:=ty,pos,after:=af,guard:=none}::rest) L ds w K:=by
 obtain⟨b,o,vs,rfl,h1,h2⟩:=hp;refine .op a06 G G hd (.agg vs.toArray) w (λρ h=>?_) (k _ ⟨vs,h1,by simp[RT.val,hg]⟩);simp only[execOp,h x _ hx];obtain⟨i,BH,_,EX,_⟩:=hi.get;have:=run_loadAt_mid (P:=P) w b o t vs fs h2 hu hf (by simp[BH,EX,A.len h1]);simp[this]
end
variable {P:Program} {r:Option Nat} {n:Nat} {L:Sl} {ds:List Deferred} {w:World} {K:Kt} {ops:Array Oper} {rest:List Oper} {d:Nat} {x y:Operand} {ty:TypeId} {pos:String} {af:Array Edge} {α:Type} {A:RT α}
def Pr {α:Type} (A:RT α):Prop:=∀(M M':aE) (w w':World) (x:α) (vs:List Value),A.R M w x vs->A.R M' w' x vs
theorem fY.YW {M M':aE} {w w':World} (hA:Pr A):∀{xs:List α} {C:List Value},fY A M w xs C->fY A M' w' xs C
 |[],_,h=>h
 |_::_,_,⟨vs,rest,h1,h2,h3⟩=>⟨vs,rest,h1,hA _ _ _ _ _ _ h2,fY.YW hA h3⟩
theorem Own.UG {e:TypeId} {M:aE} {base b:Nat} {v:Value} {xs:List α} (h:Own A e M w base v xs) (hb:v.ownBlock=some b):∃cs,w.heap[b]? =some (.cells cs e (0,0)):=by
 obtain⟨⟨C,hr,_⟩,_⟩:=h;rcases hr.2 with⟨h1,h2⟩|⟨g,cap,cur,h1,h2,h3,_⟩
 ·rw[h1]at hb;cases hb
 ·rw[h1]at hb;cases hb;exact⟨_,h3⟩
end Go.K
namespace Go.K
theorem Own.adP {α:Type} {A:RT α} (hA:Pr A) {e:TypeId} {M:aE} {w:World} {base:Nat} {v:Value} {xs:List α} (h:Own A e M w base v xs) {M':aE} (hm:∀b,v.ownBlock=some b->M' b):Own A e M' w base v xs:=by
 obtain⟨⟨C,h1,h2⟩,_⟩:=h;exact⟨⟨C,h1,h2.YW hA⟩,hm⟩
theorem Own.FX {α:Type} {A:RT α} (hA:Pr A) {e:TypeId} {N:aE} {w w':World} {base:Nat} {v:Value} {xs:List α} (h:Own A e allM w base v xs) (s:Step allM w allM w' N) (hn:∀b,v.ownBlock=some b->¬N b):Own A e allM w' base v xs:=by
 obtain⟨⟨C,h1,h2⟩,_⟩:=h;refine⟨⟨C,⟨h1.1,?_⟩,h2.YW hA⟩,λ_ _=>trivial⟩;rcases h1.2 with h3|⟨g,cap,cur,h3,h4,h5,h6,h7,h8⟩
 ·exact .inl h3
 ·exact .inr ⟨g,cap,cur,h3,h4,by rw[s.same g (ae h5) (hn g (by rw[h3];rfl))];exact h5,h6,h7,h8⟩
theorem Own.adQ {α:Type} {A:RT α} (hA:Pr A) {e:TypeId} {M:aE} {w:World} {base:Nat} {v:Value} {xs:List α} (h:Own A e M w base v xs):Own A e (mI v) w base v xs:=h.adP hA λ_ h=>h
def Kp (Q:aE) (B:Nat) (w:World):aE:=λk=>Q k\/(B<=k/\k<w.heap.size)
theorem Kp.le {Q N:aE} {B:Nat} {w w':World} (s:Step allM w allM w' N) (hN:∀b,N b->Q b\/B<=b):Le (Kp Q B w) w (Kp Q B w') w':=λb hb hm=>
 ⟨λh=>hm (h.imp id λh=>⟨h.1,hb⟩),s.same b hb λh=>hm ((hN b h).imp id λh=>⟨h,hb⟩)⟩
theorem Kp.wT {Q:aE} {B:Nat} {w w':World} (s:Step allM w allM w' ar):Le (Kp Q B w) w (Kp Q B w') w':=Kp.le s λ_ h=>h.elim
theorem Kp.lt {Q:aE} {B:Nat} {w:World} (h:∀b,Q b->b<w.heap.size):Lt (Kp Q B w) w:=λb hb=>hb.elim (h b) λh=>h.2
theorem Kp.start {Q:aE} {B:Nat} {w:World} (h:w.heap.size<=B):Le Q w (Kp Q B w) w:=λb hb hm=>⟨λh=>h.elim hm λh=>by omega,rfl⟩
theorem Le.sub {Q Q':aE} {w:World} (h:∀b,Q' b->Q b):Le Q w Q' w:=λb hb hm=>⟨λhq=>hm (h b hq),rfl⟩
open Go.Proofs
set_option maxRecDepth 10000
def gu (c:Int):Bool:=decide ((97<=c/\c<=122)\/(65<=c/\c<=90)\/(192<=c/\c<=591/\c≠215/\c≠247))
def nU (c:Int):Bool:=decide (48<=c/\c<=57)
def gm (c:Int):Int:=if(65<=c/\c<=90)\/(192<=c/\c<=222/\c≠215)then c+32 else c
theorem FY (c:Int) (w0:World):
  Spec Tryz.prog 240 #[.int .i64 c] w0 (λv w=>v= .bool (gu c)/\w=w0):=by
 refine aS (args:=[_]) (fn:=Tryz.f240) Tryz.func240 G (n:=33) Tryz.ntmps240 (T.aO (Rg.aZ G G (T.aO (ab G G (eh G G G (ab G G ?_))))));refine aW (g:=5) G (λgT=>?_) (λgT=>?_)
 ·refine ah G G (ab G G (ah G G (gF G G G (a8 G G G (ab G G ?_)))));refine aW (g:=9) G (λDX=>?_) (λDX=>?_)
  ·refine ak G G G G (ak G G G G (ak G G G G (cM G G G (cM G G G (ak G G G G (a8 G G G (ab G G (ak G G G G (ak G G G G (ak G G G G (cM G G G ?_)))))))))));refine cM G G G (ak G G G G (ak G G G G (cM G G G (cM G G G (ak G G G G (ak G G G G (cM G G G (cM G G G (ak G G G G (a8 G G G (aB G G ?_)))))))))));refine ad (aM ?_);exact aP rfl rfl ⟨by simp only[gu];first|rfl|(congr 1;first|(exact(decide_eq_true q0).symm)|(exact(decide_eq_false q0).symm)|(exact decide_eq_decide.2 q0)),rfl⟩
  ·refine ah G G (ab G G (ah G G (eh G G G (ah G G (ab G G ?_)))));refine aW (g:=12) G (λuc=>?_) (λuc=>?_)
   ·refine ah G G (ab G G (ah G G (gF G G G (ah G G (a8 G G G (aD G G G (ab G G ?_)))))));refine aW (g:=17) G (λAg=>?_) (λAg=>?_)
    ·refine ak G G G G (ak G G G G (ak G G G G (cM G G G (cM G G G (ak G G G G (ak G G G G (cM G G G (cM G G G (ak G G G G (ak G G G G (cM G G G ?_)))))))))));refine cM G G G (ak G G G G (a8 G G G (Rg.aZ G G (aM ?_))));exact aP rfl rfl ⟨by simp only[gu];first|rfl|(congr 1;first|(exact(decide_eq_true q0).symm)|(exact(decide_eq_false q0).symm)|(exact decide_eq_decide.2 q0)),rfl⟩
    ·refine ah G G (ab G G (ah G G (eh G G G (ah G G (ab G G ?_)))));refine aW (g:=20) G (λmJ=>?_) (λmJ=>?_)
     ·refine ah G G (ab G G (ah G G (gF G G G (ah G G (a8 G G G (ah G G (ab G G ?_)))))));refine aW (g:=24) G (λAh=>?_) (λAh=>?_)
      ·refine ah G G (ab G G (ah G G (eR G G G (ah G G (a8 G G G (ah G G (ab G G ?_)))))));refine aW (g:=28) G (λAi=>?_) (λAi=>?_)
       ·refine ah G G (ab G G (ah G G (eR G G G (ah G G (a8 G G G (aD G G G (Rg.aZ G G (aM ?_))))))));exact aP rfl rfl ⟨by simp only[gu];first|rfl|(congr 1;first|(exact(decide_eq_true q0).symm)|(exact(decide_eq_false q0).symm)|(exact decide_eq_decide.2 q0)),rfl⟩
       ·refine ak G G G G (ak G G G G (ah G G (aD G G G (aD G G G (Rg.aZ G G (aM ?_))))));exact aP rfl rfl ⟨by simp only[gu];first|rfl|(congr 1;first|(exact(decide_eq_true q0).symm)|(exact(decide_eq_false q0).symm)|(exact decide_eq_decide.2 q0)),rfl⟩
      ·refine ak G G G G (ak G G G G (ah G G (aD G G G (ah G G (ab G G (ak G G G G (ak G G G G (ah G G (aD G G G (aD G G G (aB G G ?_)))))))))));refine ad (aM ?_);exact aP rfl rfl ⟨by simp only[gu];first|rfl|(congr 1;first|(exact(decide_eq_true q0).symm)|(exact(decide_eq_false q0).symm)|(exact decide_eq_decide.2 q0)),rfl⟩
     ·refine ak G G G G (ak G G G G (ah G G (aD G G G (ah G G (ab G G (ak G G G G (ak G G G G (ah G G (aD G G G (ah G G (ab G G ?_)))))))))));refine ak G G G G (ak G G G G (ah G G (aD G G G (aD G G G (Rg.aZ G G (aM ?_))))));exact aP rfl rfl ⟨by simp only[gu];first|rfl|(congr 1;first|(exact(decide_eq_true q0).symm)|(exact(decide_eq_false q0).symm)|(exact decide_eq_decide.2 q0)),rfl⟩
   ·refine ak G G G G (ak G G G G (ah G G (aD G G G (aD G G G (ab G G (ah G G (ab G G (ah G G (eh G G G (ah G G (ab G G ?_)))))))))));refine aW (g:=20) G (λmJ=>?_) (λmJ=>?_)
    ·refine ah G G (ab G G (ah G G (gF G G G (ah G G (a8 G G G (ah G G (ab G G ?_)))))));refine aW (g:=24) G (λAh=>?_) (λAh=>?_)
     ·refine ah G G (ab G G (ah G G (eR G G G (ah G G (a8 G G G (ah G G (ab G G ?_)))))));refine aW (g:=28) G (λAi=>?_) (λAi=>?_)
      ·refine ah G G (ab G G (ah G G (eR G G G (ah G G (a8 G G G (aD G G G (Rg.aZ G G (aM ?_))))))));exact aP rfl rfl ⟨by simp only[gu];first|rfl|(congr 1;first|(exact(decide_eq_true q0).symm)|(exact(decide_eq_false q0).symm)|(exact decide_eq_decide.2 q0)),rfl⟩
      ·refine ak G G G G (ak G G G G (ah G G (aD G G G (aD G G G (Rg.aZ G G (aM ?_))))));exact aP rfl rfl ⟨by simp only[gu];first|rfl|(congr 1;first|(exact(decide_eq_true q0).symm)|(exact(decide_eq_false q0).symm)|(exact decide_eq_decide.2 q0)),rfl⟩
     ·refine ak G G G G (ak G G G G (ah G G (aD G G G (ah G G (ab G G (ak G G G G (ak G G G G (ah G G (aD G G G (aD G G G (aB G G ?_)))))))))));refine ad (aM ?_);exact aP rfl rfl ⟨by simp only[gu];first|rfl|(congr 1;first|(exact(decide_eq_true q0).symm)|(exact(decide_eq_false q0).symm)|(exact decide_eq_decide.2 q0)),rfl⟩
    ·refine ak G G G G (ak G G G G (ah G G (aD G G G (ah G G (ab G G (ak G G G G (ak G G G G (ah G G (aD G G G (ah G G (ab G G ?_)))))))))));refine ak G G G G (ak G G G G (ah G G (aD G G G (aD G G G (Rg.aZ G G (aM ?_))))));exact aP rfl rfl ⟨by simp only[gu];first|rfl|(congr 1;first|(exact(decide_eq_true q0).symm)|(exact(decide_eq_false q0).symm)|(exact decide_eq_decide.2 q0)),rfl⟩
 ·refine ak G G G G (ak G G G G (aD G G G (ab G G (ah G G (ab G G (ah G G (eh G G G (ah G G (ab G G ?_)))))))));refine aW (g:=12) G (λuc=>?_) (λuc=>?_)
  ·refine ah G G (ab G G (ah G G (gF G G G (ah G G (a8 G G G (aD G G G (ab G G ?_)))))));refine aW (g:=17) G (λAg=>?_) (λAg=>?_)
   ·refine ak G G G G (ak G G G G (ak G G G G (cM G G G (cM G G G (ak G G G G (ak G G G G (cM G G G (cM G G G (ak G G G G (ak G G G G (cM G G G ?_)))))))))));refine cM G G G (ak G G G G (a8 G G G (Rg.aZ G G (aM ?_))));exact aP rfl rfl ⟨by simp only[gu];first|rfl|(congr 1;first|(exact(decide_eq_true q0).symm)|(exact(decide_eq_false q0).symm)|(exact decide_eq_decide.2 q0)),rfl⟩
   ·refine ah G G (ab G G (ah G G (eh G G G (ah G G (ab G G ?_)))));refine aW (g:=20) G (λmJ=>?_) (λmJ=>?_)
    ·refine ah G G (ab G G (ah G G (gF G G G (ah G G (a8 G G G (ah G G (ab G G ?_)))))));refine aW (g:=24) G (λAh=>?_) (λAh=>?_)
     ·refine ah G G (ab G G (ah G G (eR G G G (ah G G (a8 G G G (ah G G (ab G G ?_)))))));refine aW (g:=28) G (λAi=>?_) (λAi=>?_)
      ·refine ah G G (ab G G (ah G G (eR G G G (ah G G (a8 G G G (aD G G G (Rg.aZ G G (aM ?_))))))));exact aP rfl rfl ⟨by simp only[gu];first|rfl|(congr 1;first|(exact(decide_eq_true q0).symm)|(exact(decide_eq_false q0).symm)|(exact decide_eq_decide.2 q0)),rfl⟩
      ·refine ak G G G G (ak G G G G (ah G G (aD G G G (aD G G G (Rg.aZ G G (aM ?_))))));exact aP rfl rfl ⟨by simp only[gu];first|rfl|(congr 1;first|(exact(decide_eq_true q0).symm)|(exact(decide_eq_false q0).symm)|(exact decide_eq_decide.2 q0)),rfl⟩
     ·refine ak G G G G (ak G G G G (ah G G (aD G G G (ah G G (ab G G (ak G G G G (ak G G G G (ah G G (aD G G G (aD G G G (aB G G ?_)))))))))));refine ad (aM ?_);exact aP rfl rfl ⟨by simp only[gu];first|rfl|(congr 1;first|(exact(decide_eq_true q0).symm)|(exact(decide_eq_false q0).symm)|(exact decide_eq_decide.2 q0)),rfl⟩
    ·refine ak G G G G (ak G G G G (ah G G (aD G G G (ah G G (ab G G (ak G G G G (ak G G G G (ah G G (aD G G G (ah G G (ab G G ?_)))))))))));refine ak G G G G (ak G G G G (ah G G (aD G G G (aD G G G (Rg.aZ G G (aM ?_))))));exact aP rfl rfl ⟨by simp only[gu];first|rfl|(congr 1;first|(exact(decide_eq_true q0).symm)|(exact(decide_eq_false q0).symm)|(exact decide_eq_decide.2 q0)),rfl⟩
  ·refine ak G G G G (ak G G G G (ah G G (aD G G G (aD G G G (ab G G (ah G G (ab G G (ah G G (eh G G G (ah G G (ab G G ?_)))))))))));refine aW (g:=20) G (λmJ=>?_) (λmJ=>?_)
   ·refine ah G G (ab G G (ah G G (gF G G G (ah G G (a8 G G G (ah G G (ab G G ?_)))))));refine aW (g:=24) G (λAh=>?_) (λAh=>?_)
    ·refine ah G G (ab G G (ah G G (eR G G G (ah G G (a8 G G G (ah G G (ab G G ?_)))))));refine aW (g:=28) G (λAi=>?_) (λAi=>?_)
     ·refine ah G G (ab G G (ah G G (eR G G G (ah G G (a8 G G G (aD G G G (Rg.aZ G G (aM ?_))))))));exact aP rfl rfl ⟨by simp only[gu];first|rfl|(congr 1;first|(exact(decide_eq_true q0).symm)|(exact(decide_eq_false q0).symm)|(exact decide_eq_decide.2 q0)),rfl⟩
     ·refine ak G G G G (ak G G G G (ah G G (aD G G G (aD G G G (Rg.aZ G G (aM ?_))))));exact aP rfl rfl ⟨by simp only[gu];first|rfl|(congr 1;first|(exact(decide_eq_true q0).symm)|(exact(decide_eq_false q0).symm)|(exact decide_eq_decide.2 q0)),rfl⟩
    ·refine ak G G G G (ak G G G G (ah G G (aD G G G (ah G G (ab G G (ak G G G G (ak G G G G (ah G G (aD G G G (aD G G G (aB G G ?_)))))))))));refine ad (aM ?_);exact aP rfl rfl ⟨by simp only[gu];first|rfl|(congr 1;first|(exact(decide_eq_true q0).symm)|(exact(decide_eq_false q0).symm)|(exact decide_eq_decide.2 q0)),rfl⟩
   ·refine ak G G G G (ak G G G G (ah G G (aD G G G (ah G G (ab G G (ak G G G G (ak G G G G (ah G G (aD G G G (ah G G (ab G G ?_)))))))))));refine ak G G G G (ak G G G G (ah G G (aD G G G (aD G G G (Rg.aZ G G (aM ?_))))));exact aP rfl rfl ⟨by simp only[gu];first|rfl|(congr 1;first|(exact(decide_eq_true q0).symm)|(exact(decide_eq_false q0).symm)|(exact decide_eq_decide.2 q0)),rfl⟩
theorem IM (c:Int) (w0:World):
  Spec Tryz.prog 241 #[.int .i64 c] w0 (λv w=>v= .bool (nU c)/\w=w0):=by
 refine aS (args:=[_]) (fn:=Tryz.f241) Tryz.func241 G (n:=9) Tryz.ntmps241 (T.aO (Rg.aZ G G (T.aO (ab G G (eh G G G (ab G G ?_))))));refine aW (g:=5) G (λgT=>?_) (λgT=>?_)
 ·refine ah G G (ab G G (ah G G (gF G G G (a8 G G G (Rg.aZ G G (aM ?_))))));exact aP rfl rfl ⟨by simp only[nU];first|rfl|(congr 1;first|(exact(decide_eq_true q0).symm)|(exact(decide_eq_false q0).symm)|(exact decide_eq_decide.2 q0)),rfl⟩
 ·refine ak G G G G (ak G G G G (aD G G G (Rg.aZ G G (aM ?_))));exact aP rfl rfl ⟨by simp only[nU];first|rfl|(congr 1;first|(exact(decide_eq_true q0).symm)|(exact(decide_eq_false q0).symm)|(exact decide_eq_decide.2 q0)),rfl⟩
theorem CT (c:Int) (w0:World) (hc:0<=c/\c<=1114111):
  Spec Tryz.prog 242 #[.int .i64 c] w0 (λv w=>v= .int .i64 (gm c)/\w=w0):=by
 refine aS (args:=[_]) (fn:=Tryz.f242) Tryz.func242 G (n:=24) Tryz.ntmps242 (T.aO (Rg.aZ G G (aI (T.aO (ab G G (eh G G G (ab G G ?_)))))));refine aW (g:=5) G (λgT=>?_) (λgT=>?_)
 ·refine ah G G (ab G G (ah G G (gF G G G (a8 G G G (ab G G ?_)))));refine aW (g:=9) G (λDX=>?_) (λDX=>?_)
  ·refine ak G G G G (ak G G G G (ak G G G G (cM G G G (cM G G G (ak G G G G (ak G G G G (cM G G G (cM G G G (ak G G G G (a8 G G G (ad ?_)))))))))));refine lh G (T.aO (ab G G (br G G G q0 (Rg.aZ G G (aM ?_)))));exact a52
  ·refine ah G G (ab G G (ah G G (eh G G G (ah G G (ab G G ?_)))));refine aW (g:=12) G (λuc=>?_) (λuc=>?_)
   ·refine ah G G (ab G G (ah G G (gF G G G (ah G G (a8 G G G (ah G G (ab G G ?_)))))));refine aW (g:=16) G (λPs=>?_) (λPs=>?_)
    ·refine ah G G (ab G G (ah G G (eR G G G (ah G G (a8 G G G (aD G G G (ad ?_)))))));refine bI G (λc1=>?_) (λc1=>?_)
     ·refine T.aO (ab G G (br G G G q0 (Rg.aZ G G (aM ?_))));exact a52
     ·refine aR (T.aO (ab G G (Rg.aZ G G (aM ?_))));exact a19
    ·refine ak G G G G (ak G G G G (ah G G (aD G G G (aD G G G (ad (gy G (aR (T.aO (ab G G (aB G G ?_))))))))));refine ad (aM ?_);exact a19
   ·refine ak G G G G (ak G G G G (ah G G (aD G G G (ah G G (ab G G (ak G G G G (ak G G G G (ah G G (aD G G G (aD G G G (ad ?_)))))))))));refine gy G (aR (T.aO (ab G G (Rg.aZ G G (aM ?_)))));exact a19
 ·refine ak G G G G (ak G G G G (aD G G G (ab G G (ah G G (ab G G (ah G G (eh G G G (ah G G (ab G G ?_)))))))));refine aW (g:=12) G (λuc=>?_) (λuc=>?_)
  ·refine ah G G (ab G G (ah G G (gF G G G (ah G G (a8 G G G (ah G G (ab G G ?_)))))));refine aW (g:=16) G (λPs=>?_) (λPs=>?_)
   ·refine ah G G (ab G G (ah G G (eR G G G (ah G G (a8 G G G (aD G G G (ad ?_)))))));refine bI G (λc1=>?_) (λc1=>?_)
    ·refine T.aO (ab G G (br G G G q0 (Rg.aZ G G (aM ?_))));exact a52
    ·refine aR (T.aO (ab G G (Rg.aZ G G (aM ?_))));exact a19
   ·refine ak G G G G (ak G G G G (ah G G (aD G G G (aD G G G (ad (gy G (aR (T.aO (ab G G (aB G G ?_))))))))));refine ad (aM ?_);exact a19
  ·refine ak G G G G (ak G G G G (ah G G (aD G G G (ah G G (ab G G (ak G G G G (ak G G G G (ah G G (aD G G G (aD G G G (ad ?_)))))))))));refine gy G (aR (T.aO (ab G G (Rg.aZ G G (aM ?_)))));exact a19
end Go.K
namespace Go.Proofs
open Go.Shelf
def Tryz.yv:Go.Shelf.Ren:=⟨fun|169=>282|n=>n,fun|70=>363|9=>9|0=>0|72=>365|37=>293|127=>394|3=>3|5=>5|n=>n,fun|n=>n⟩
theorem Tryz.UH:Go.Proofs.Lays.n169 Tryz.prog Tryz.yv:={
 mixed:=by kernel_rfl
 f169:=Tryz.func282.trans a04
 t0:=BL
 a0:=Tryz.isAgg0
 z0:=Tryz.sizeOf0
 v0:=Tryz.zeroValue0
 t3:=aj
 a3:=Tryz.isAgg3
 z3:=Tryz.sizeOf3
 v3:=Tryz.zeroValue3
 t9:=aG
 a9:=Tryz.isAgg9
 z9:=BM
 v9:=od
 t37:=bW
 a37:=Tryz.isAgg293
 z37:=Tryz.sizeOf293
 v37:=Tryz.zeroValue293
 t70:=Tryz.underlying363
 a70:=Tryz.isAgg363
 z70:=Tryz.sizeOf363
 v70:=Tryz.zeroValue363
 t72:=Tryz.underlying365
 a72:=Tryz.isAgg365
 z72:=Tryz.sizeOf365
 v72:=Tryz.zeroValue365
 t127:=Tryz.underlying394
 a127:=Tryz.isAgg394
 z127:=Tryz.sizeOf394
 v127:=Tryz.zeroValue394}
def Tryz.FZ:Go.Shelf.Ren:=⟨fun|119=>308|n=>n,fun|21=>21|4=>4|n=>n,fun|n=>n⟩
theorem Tryz.UI:Go.Proofs.Lays.n119 Tryz.prog Tryz.FZ:={
 mixed:=by kernel_rfl
 f119:=Tryz.func308.trans a04
 t4:=qM
 a4:=Tryz.isAgg4
 z4:=Tryz.sizeOf4
 v4:=Tryz.zeroValue4
 t21:=Tryz.underlying21
 a21:=Tryz.isAgg21
 z21:=Tryz.sizeOf21
 v21:=Tryz.zeroValue21}
def Tryz.F0:Go.Shelf.Ren:=⟨fun|106=>147|213=>188|265=>254|n=>n,fun|9=>9|3=>3|n=>n,fun|n=>n⟩
theorem Tryz.UJ:Go.Proofs.Lays.n106 Tryz.prog Tryz.F0:={
 mixed:=by kernel_rfl
 f106:=Tryz.func147.trans a04
 f213:=Tryz.func188.trans a04
 f265:=Tryz.func254.trans a04
 t3:=aj
 a3:=Tryz.isAgg3
 z3:=Tryz.sizeOf3
 v3:=Tryz.zeroValue3
 t9:=aG
 a9:=Tryz.isAgg9
 z9:=BM
 v9:=od}
theorem Tryz.vv:Builder.Extra Tryz.prog Tryz.yv:={
 sizeBuilder:=by kernel_rfl
 liesBuilder:=by kernel_rfl
 t5:=cZ
 a5:=Tryz.isAgg5
 z5:=Tryz.sizeOf5
 v5:=Tryz.zeroValue5
 infoByte:=by kernel_rfl
 cellsByte:=by kernel_rfl
 sizeByte:=by kernel_rfl
 neB5:=by decide}
def Tryz.yx:Go.Shelf.Ren:=⟨fun|168=>280|240=>306|242=>307|276=>317|278=>318|n=>n,fun|0=>0|3=>3|4=>4|5=>5|9=>9|20=>20|21=>21|37=>293|46=>262|51=>336|70=>363|72=>365|75=>367|80=>371|164=>399|n=>n,fun|n=>n⟩
theorem Tryz.UK:Go.Proofs.Lays.n168 Tryz.prog Tryz.yx:={
 mixed:=by kernel_rfl
 f168:=Tryz.func280.trans a04
 f240:=Tryz.func306.trans a04
 f242:=Tryz.func307.trans a04
 f276:=Tryz.func317.trans a04
 f278:=Tryz.func318.trans a04
 t0:=BL
 a0:=Tryz.isAgg0
 z0:=Tryz.sizeOf0
 v0:=Tryz.zeroValue0
 t3:=aj
 a3:=Tryz.isAgg3
 z3:=Tryz.sizeOf3
 v3:=Tryz.zeroValue3
 t4:=qM
 a4:=Tryz.isAgg4
 z4:=Tryz.sizeOf4
 v4:=Tryz.zeroValue4
 t5:=cZ
 a5:=Tryz.isAgg5
 z5:=Tryz.sizeOf5
 v5:=Tryz.zeroValue5
 t9:=aG
 a9:=Tryz.isAgg9
 z9:=BM
 v9:=od
 t20:=Tryz.underlying20
 a20:=Tryz.isAgg20
 z20:=Tryz.sizeOf20
 v20:=Tryz.zeroValue20
 t21:=Tryz.underlying21
 a21:=Tryz.isAgg21
 z21:=Tryz.sizeOf21
 v21:=Tryz.zeroValue21
 t37:=bW
 a37:=Tryz.isAgg293
 z37:=Tryz.sizeOf293
 v37:=Tryz.zeroValue293
 t46:=Tryz.underlying262
 a46:=Tryz.isAgg262
 z46:=Tryz.sizeOf262
 v46:=Tryz.zeroValue262
 t51:=Tryz.underlying336
 a51:=Tryz.isAgg336
 z51:=Tryz.sizeOf336
 v51:=Tryz.zeroValue336
 t70:=Tryz.underlying363
 a70:=Tryz.isAgg363
 z70:=Tryz.sizeOf363
 v70:=Tryz.zeroValue363
 t72:=Tryz.underlying365
 a72:=Tryz.isAgg365
 z72:=Tryz.sizeOf365
 v72:=Tryz.zeroValue365
 t75:=Tryz.underlying367
 a75:=Tryz.isAgg367
 z75:=Tryz.sizeOf367
 v75:=Tryz.zeroValue367
 t164:=Tryz.underlying399
 a164:=Tryz.isAgg399
 z164:=Tryz.sizeOf399
 v164:=Tryz.zeroValue399}
theorem Tryz.vz:Builder.Extra Tryz.prog Tryz.yx where
 sizeBuilder:=by kernel_rfl
 liesBuilder:=by kernel_rfl
 t5:=cZ
 a5:=Tryz.isAgg5
 z5:=Tryz.sizeOf5
 v5:=Tryz.zeroValue5
 infoByte:=by kernel_rfl
 cellsByte:=by kernel_rfl
 sizeByte:=by kernel_rfl
 neB5:=by decide
end Go.Proofs
namespace Go.K
open Go.Proofs
set_option maxRecDepth 10000
open Go.RowKit Go.Shelf
theorem IN (r:Int) (w:World):Spec Tryz.prog 308 #[.int .i32 r] w (λv w'=>v= .bool (Lib.validRune r)/\w'=w):=(Any.utf8_ValidRune Tryz.UI r w).mono λe w' ⟨h1,h2⟩=>⟨_,h1,rfl,h2⟩
theorem MD {B b:Nat} {bs:List Value} {r:Int} (w:World) (hr: -2147483648<=r/\r<=2147483647) (h:Lib.IsBuilderF 365 5 B b bs w) (hl:bs.length+4<=140737488355328) (hB:B<=w.heap.size):
  Spec Tryz.prog 280 #[.pointer (some ⟨b,0,none⟩),.int .i32 r] w (λv w'=>Lib.IsBuilderF 365 5 B b (bs++Lib.runeCells r) w'∧Below B w w'):=
 (Any.Builder_WriteRune_k Tryz.UK Tryz.vz B b bs r hr.1 hr.2 w h hl hB).mono λe w' ⟨h1,h2,h3,_⟩=>⟨_,h1,.inr h2,h3⟩
theorem Pt {B b:Nat} {l:List UInt8} (w:World) (h:Lib.IsBuilderF 365 5 B b (Lib.byteCells l) w) (hB:B<=w.heap.size):
  Spec Tryz.prog 282 #[.pointer (some ⟨b,0,none⟩)] w (λv w'=>v= .string ⟨l.toArray⟩/\Below B w w'):=
 (Any.Builder_String_any_k Tryz.UH Tryz.vv B b l w h hB).mono λe w' ⟨h1,_,h3,_⟩=>⟨_,h1,rfl,h3⟩
theorem wrap32 {c:Int} (h:0<=c/\c<=1114111):IntKind.i32.wrap c=c:=by
 show(if(true&&decide (c%4294967296>=2147483648))=true then c%4294967296-4294967296 else c%4294967296)=c;rw[if_neg (by simp only[cT,decide_eq_true_eq];omega)];omega
def ud (c:Int):Int:=if c<0\/c>1114111\/Lib.validRune c=false then 65533 else c
theorem KM (c:Int):0<=ud c/\ud c<=1114111:=by unfold ud;split<;>omega
def kg (l:List Int):List UInt8:=l.flatMap λc=>Lib.encodeRune (ud c)
theorem mK (l:List Int) (c:Int):kg (l++[c])=kg l++Lib.encodeRune (ud c):=by simp[kg]
theorem UL (r:Int):(Lib.encodeRune r).length<=4:=by have:=(Lib.encodeRuneZ_length r).2;simpa[Lib.encodeRune]using this
theorem gP (l:List Int):(kg l).length<=4*l.length:=by
 induction l with
 |nil=>simp[kg]
 |cons c l ih=>
  have:=UL (ud c);simp only[kg,tx,bU,cy]at ih ⊢;omega
theorem Aj (l:List Int) (c:Int):Lib.byteCells (kg l)++Lib.runeCells (ud c)=Lib.byteCells (kg (l++[c])):=by
 rw[mK,<-Lib.byteCells_encodeRune];simp[Lib.byteCells]
theorem Pu (c:Int) (w0:World):
  Spec Tryz.prog 281 #[.int .i64 c] w0 (λv w=>v= .int .i32 (ud c)/\w=w0):=by
 refine aS (args:=[_]) (fn:=Tryz.f281) Tryz.func281 G (n:=17) Tryz.ntmps281 (T.aO (Rg.aZ G G (aI (T.aO (ab G G (ck G G G (ab G G ?_)))))));refine aW (g:=5) G (λgT=>?_) (λgT=>?_)
 ·refine ak G G G G (ak G G G G (a8 G G G (ab G G (ak G G G G (ak G G G G (ak G G G G (ak G G G G (a8 G G G (ad (lh G (aI ?_)))))))))));refine aN (Rg.aZ G G (aM ?_));exact aP rfl rfl ⟨by rw[ud,if_pos ag1],G⟩
 ·refine ah G G (ab G G (ah G G (il G G G (aD G G G (ab G G ?_)))));refine aW (g:=9) G (λDX=>?_) (λDX=>?_)
  ·refine ak G G G G (ak G G G G (ak G G G G (ak G G G G (a8 G G G (ad (lh G (T.aO (Rg.aZ G G (aM ?_)))))))));exact aP rfl rfl ⟨by rw[ud,if_pos ag1],G⟩
  ·refine ah G G (ab G G (ah G G (yh aj Tryz.underlying21 G G (aY (v':= .int .i32 c) (congrArg (Value.int .i32) (wrap32 q0)) (ah G G ?_)))));refine aJ G G akz (IN _ _) (λr wc hc=>?_);obtain⟨rfl,rfl⟩:=hc;refine ah rfl rfl (gM rfl rfl (aY (v':= .bool (decide (Lib.validRune c=false))) (by cases Lib.validRune c<;>rfl) (aD rfl rfl rfl (ad ?_))));refine bI G (λc1=>?_) (λc1=>?_)
   ·refine T.aO (Rg.aZ G G (aM ?_));exact aP rfl rfl ⟨by rw[ud,if_pos ag1],G⟩
   ·refine aR (T.aO (ab G G (yh aj Tryz.underlying21 G G (aY (v':= .int .i32 c) (congrArg (Value.int .i32) (wrap32 q0)) (Rg.aZ G G (aM ?_))))));exact aP rfl rfl ⟨by rw[ud,if_neg (by rintro(h|h|h)<;>first|omega|exact absurd h a00)],rfl⟩
theorem ME {M:aE} {xs:List Int} {v0:Value} (w0:World) (hM:Lt M w0) (hv:((RT.int .i64).sl).V M w0 xs v0) (hl:xs.length<=4000000):
  Spec Tryz.prog 243 #[v0] w0 (λv w=>v= .string ⟨(kg xs).toArray⟩/\Step M w0 M w ar):=by
 refine aS (args:=[_]) (fn:=Tryz.f243) Tryz.func243 G (n:=17) Tryz.ntmps243 (T.aO (Rg.aZ G G (T.aO ?_)));refine ek M ajZ G (λb w1 p1 q1 g1 s1=>?_);have ua:Lib.IsBuilderF 365 5 w0.heap.size b (Lib.byteCells (kg (xs.take 0))) w1:= .of (.inl ⟨p1,.slice none 0 0,g1,World.ownsRow_nil _ _ _ _,by simp[Value.ownBlock]⟩);have S1:Below w0.heap.size w0 w1:=s1.below;refine ad (aI (T.aO (ab G G (bB ao G hv G (ab G G (ad (aT ?_)))))));refine cR (σ:=Nat) (λk=>[(3,.pointer (some ⟨b,0,none⟩)),(6,v0),(7,.int .i64 (xs.length:Int)),(8,.int .i64 (k:Int))]) (λk w=>Lib.IsBuilderF 365 5 w0.heap.size b (Lib.byteCells (kg (xs.take k))) w/\Below w0.heap.size w0 w/\k<=xs.length) (λk=>xs.length-k) 0 a01 ?_ ?_
 ·exact⟨ua,S1,bm _⟩
 ·rintro k w ⟨hb,S,hk⟩;refine T.aO (ck G G G (ad (aI ?_)));refine bI G (λc3=>?_) (λc3=>?_)
  ·refine aR (aI (aT (T.aO ?_)));refine cx (M:=M) ao I3 G G G hv (Step.DN S M).le q0 (λu4 c E4 KL=>?_);refine bV aj G G KL b4 (λin4=>?_);refine Rg.aZ G G (aN (ab G G ?_));refine aJ G G akw (Pu c _) (λr wc hc=>?_);obtain⟨rfl,rfl⟩:=hc;refine aJ G G akv (MD _ (by have:=KM c;omega) hb (by rw[Lib.byteCells_length];have:=gP (xs.take k);rw[bF]at this;omega) S.size) (λr5 w5 hc=>?_);obtain⟨hb5,S5⟩:=hc;have tk:xs.take (k+1)=xs.take k++[c]:=by rw[bQ];simp only[aq]at E4;rw[E4];rfl
   rw[Aj,<-tk]at hb5;have S6:=S.trans S5;refine ad (aN (br G G G q0 (ab G G (ad ?_))));refine⟨G,k+1,a01,?_,?_⟩
   ·exact⟨hb5,S6,by omega⟩
   ·omega
  ·refine cE (T.aO ?_);refine aJ G G akx (Pt _ hb S.size) (λr7 w7 hc=>?_);obtain⟨rfl,S7⟩:=hc;refine Rg.aZ G G (aM ?_);have e:xs.take k=xs:=bg q0;rw[e];exact aP G G ⟨G,Step.DN (S.trans S7) M⟩
end Go.K
namespace Go.K
def nO (c:Int):Int:=if 194<=c/\c<224 then 2 else if 224<=c/\c<240 then 3 else if 240<=c/\c<245 then 4 else 0
def iB (c:Int):Int:=if 194<=c/\c<224 then 128 else if 224<=c/\c<240 then 2048 else if 240<=c/\c<245 then 65536 else 0
def xy (c:Int):Int:=if 194<=c/\c<224 then c-192 else if 224<=c/\c<240 then c-224 else if 240<=c/\c<245 then c-240 else 0
def vO (l:List UInt8):Nat->Int
 |0=>xy (kq l 0)
 |k+1=>64*vO l k+kq l (k+1)-128
theorem ig {l:List UInt8} {k:Nat}:kf l k=true↔k<l.length/\128<=kq l k/\kq l k<192:=by
 unfold kf;simp only[cp,decide_eq_true_eq,beq_iff_eq];omega
theorem CU {n:Nat}:Utf8.valid (n:Int)=true↔(n<55296\/(57344<=n/\n<=1114111)):=by
 simp only[Utf8.valid,Bool.or_eq_true,cp,decide_eq_true_eq];omega
theorem adR {l:List UInt8} (h:(kq l 0:Int)<128):dec l=(kq l 0,1):=by
 unfold dec FP;rw[if_pos q0]
theorem KN {l:List UInt8} (h0:128<=(kq l 0:Int)) (h:nO (kq l 0)=0\/∃k:Nat,1<=k/\(k:Int)<nO (kq l 0)/\kf l k=false):dec l=(65533,1):=by
 have hb:=pD l 0;unfold dec FP;rw[if_neg q0]
 have hk:nO (kq l 0)=0\/(2<=nO (kq l 0)/\kf l 1=false)\/(3<=nO (kq l 0)/\kf l 2=false)\/(4<=nO (kq l 0)/\kf l 3=false):=by
  rcases h with h|⟨k,h1,h2,h3⟩
  ·exact .inl h
  ·have:nO (kq l 0)<=4:=by
    unfold nO
    split
    ·omega
    ·split
     ·omega
     ·split<;>omega
   have hk:k=1\/k=2\/k=3:=by omega
   rcases hk with rfl|rfl|rfl
   ·exact .inr (.inl ⟨by omega,h3⟩)
   ·exact .inr (.inr (.inl ⟨by omega,h3⟩))
   ·exact .inr (.inr (.inr ⟨by omega,h3⟩))
 simp only[beq_iff_eq,cp,decide_eq_true_eq,ge_iff_le,CU];have hn:nO (kq l 0)=if 194<=(kq l 0:Int)/\(kq l 0:Int)<224 then 2 else if 224<=(kq l 0:Int)/\(kq l 0:Int)<240 then 3 else if 240<=(kq l 0:Int)/\(kq l 0:Int)<245 then 4 else 0:=rfl
 rw[hn]at hk
 split
 ·rename_i hc
  obtain⟨KJ,Of⟩:=hc
  split
  ·rename_i hv
   exfalso;by_cases auX:194<=(kq l 0:Int)
   ·rw[if_pos q0]at hk;rcases hk with hk|⟨_,hk⟩|⟨hk,_⟩|⟨hk,_⟩
    ·omega
    ·rw[hk]at Of;cases Of
    ·omega
    ·omega
   ·omega
  ·rfl
 ·split
  ·rename_i hc
   obtain⟨⟨KJ,Of⟩,hc3⟩:=hc
   split
   ·exfalso;rw[if_neg q0,if_pos q0]at hk;rcases hk with hk|⟨_,hk⟩|⟨_,hk⟩|⟨hk,_⟩
    ·omega
    ·rw[hk]at Of;cases Of
    ·rw[hk]at hc3;cases hc3
    ·omega
   ·rfl
  ·split
   ·rename_i hc
    obtain⟨⟨⟨KJ,Of⟩,hc3⟩,hc4⟩:=hc
    split
    ·rename_i hv
     exfalso;by_cases auY:(kq l 0:Int)<245
     ·rw[if_neg q0,if_neg q0,if_pos q0]at hk;rcases hk with hk|⟨_,hk⟩|⟨_,hk⟩|⟨_,hk⟩
      ·omega
      ·rw[hk]at Of;cases Of
      ·rw[hk]at hc3;cases hc3
      ·rw[hk]at hc4;cases hc4
     ·omega
    ·rfl
   ·rfl
theorem oO {c:Int} (h:nO c≠0):(nO c=2/\iB c=128/\xy c=c-192/\194<=c/\c<224)\/(nO c=3/\iB c=2048/\xy c=c-224/\224<=c/\c<240)\/(nO c=4/\iB c=65536/\xy c=c-240/\240<=c/\c<245):=by
 by_cases h1:194<=c/\c<224
 ·exact .inl ⟨if_pos h1,if_pos h1,if_pos h1,h1.1,h1.2⟩
 ·by_cases h2:224<=c/\c<240
  ·exact .inr (.inl ⟨(if_neg h1).trans (if_pos h2),(if_neg h1).trans (if_pos h2),(if_neg h1).trans (if_pos h2),h2.1,h2.2⟩)
  ·by_cases h3:240<=c/\c<245
   ·exact .inr (.inr ⟨(if_neg h1).trans ((if_neg h2).trans (if_pos h3)),(if_neg h1).trans ((if_neg h2).trans (if_pos h3)),(if_neg h1).trans ((if_neg h2).trans (if_pos h3)),h3.1,h3.2⟩)
   ·exact absurd ((if_neg h1).trans ((if_neg h2).trans (if_neg h3))) h
theorem F1 {l:List UInt8} (hn:nO (kq l 0)≠0) (hc:∀k:Nat,1<=k->(k:Int)<nO (kq l 0)->kf l k=true) (v:Int) (hv:v=vO l (nO (kq l 0)-1).toNat):
  dec l=if v<iB (kq l 0)\/v>1114111\/(55296<=v/\v<=57343)then(65533,1)else(v.toNat,(nO (kq l 0)).toNat):=by
 have hb:=pD l 0;have b1:=pD l 1;have b2:=pD l 2;have b3:=pD l 3;unfold dec FP;simp only[beq_iff_eq,cp,decide_eq_true_eq,ge_iff_le,CU];rcases oO hn with⟨e1,e2,e3,e4,e5⟩|⟨e1,e2,e3,e4,e5⟩|⟨e1,e2,e3,e4,e5⟩
 ·have c1:=hc 1 q0 q0;have d1:=ig.1 c1;rw[e1]at hv;have E5:v=64*((kq l 0:Int)-192)+kq l 1-128:=by rw[hv];show 64*xy (kq l 0)+_-_=_;rw[e3]
  rw[if_neg q0,if_pos ⟨by omega,c1⟩,e2,e1];by_cases hx:v<128\/v>1114111\/(55296<=v/\v<=57343)
  ·rw[if_pos hx,if_neg q0]
  ·rw[if_neg hx,if_pos q0];simp only[Prod.mk.injEq];omega
 ·have c1:=hc 1 q0 q0;have c2:=hc 2 q0 q0;have d1:=ig.1 c1;have d2:=ig.1 c2;rw[e1]at hv;have E5:v=64*(64*((kq l 0:Int)-224)+kq l 1-128)+kq l 2-128:=by rw[hv];show 64*(64*xy (kq l 0)+_-_)+_-_=_;rw[e3]
  rw[if_neg q0,if_neg q0,if_pos ⟨⟨by omega,c1⟩,c2⟩,e2,e1];by_cases hx:v<2048\/v>1114111\/(55296<=v/\v<=57343)
  ·rw[if_pos hx,if_neg q0]
  ·rw[if_neg hx,if_pos q0];simp only[Prod.mk.injEq];omega
 ·have c1:=hc 1 q0 q0;have c2:=hc 2 q0 q0;have c3:=hc 3 q0 q0;have d1:=ig.1 c1;have d2:=ig.1 c2;have d3:=ig.1 c3;rw[e1]at hv;have E5:v=64*(64*(64*((kq l 0:Int)-240)+kq l 1-128)+kq l 2-128)+kq l 3-128:=by rw[hv];show 64*(64*(64*xy (kq l 0)+_-_)+_-_)+_-_=_;rw[e3]
  rw[if_neg q0,if_neg q0,if_neg q0,if_pos ⟨⟨⟨by omega,c1⟩,c2⟩,c3⟩,e2,e1];by_cases hx:v<65536\/v>1114111\/(55296<=v/\v<=57343)
  ·rw[if_pos hx,if_neg q0]
  ·rw[if_neg hx,if_pos q0];simp only[Prod.mk.injEq];omega
open Go.Proofs
set_option maxRecDepth 10000
theorem DY (c:Int) (w0:World):
  Spec Tryz.prog 173 #[.int .i64 c] w0 (λv w=>v= .bool (gu c)/\w=w0):=by
 refine aS (args:=[_]) (fn:=Tryz.f173) Tryz.func173 G (n:=31) Tryz.ntmps173 (T.aO (Rg.aZ G G (aI (T.aO (ab G G (eh G G G (ab G G ?_)))))));refine aW (g:=5) G (λgT=>?_) (λgT=>?_)
 ·refine ah G G (ab G G (ah G G (gF G G G (a8 G G G (ab G G ?_)))));refine aW (g:=9) G (λDX=>?_) (λDX=>?_)
  ·refine ak G G G G (ak G G G G (ak G G G G (cM G G G (cM G G G (ak G G G G (a8 G G G (ad (lh G (T.aO (aB G G ?_))))))))));refine ad (aM ?_);exact aP rfl rfl ⟨by simp only[gu];first|rfl|(congr 1;first|(exact(decide_eq_true q0).symm)|(exact(decide_eq_false q0).symm)|(exact decide_eq_decide.2 q0)),rfl⟩
  ·refine ah G G (ab G G (ah G G (eh G G G (ah G G (ab G G ?_)))));refine aW (g:=12) G (λuc=>?_) (λuc=>?_)
   ·refine ah G G (ab G G (ah G G (gF G G G (ah G G (a8 G G G (aD G G G (ad ?_)))))));refine bI G (λc1=>?_) (λc1=>?_)
    ·refine T.aO (Rg.aZ G G (aM ?_));exact aP rfl rfl ⟨by simp only[gu];first|rfl|(congr 1;first|(exact(decide_eq_true q0).symm)|(exact(decide_eq_false q0).symm)|(exact decide_eq_decide.2 q0)),rfl⟩
    ·refine aR (T.aO (ab G G (eh G G G (ab G G ?_))));refine aW (g:=19) G (λIP=>?_) (λIP=>?_)
     ·refine ah G G (ab G G (ah G G (gF G G G (a8 G G G (ab G G ?_)))));refine aW (g:=23) G (λIS=>?_) (λIS=>?_)
      ·refine ah G G (ab G G (ah G G (eR G G G (a8 G G G (ab G G ?_)))));refine aW (g:=27) G (λAk=>?_) (λAk=>?_)
       ·refine ah G G (ab G G (ah G G (eR G G G (a8 G G G (Rg.aZ G G (aM ?_))))));exact aP rfl rfl ⟨by simp only[gu];first|rfl|(congr 1;first|(exact(decide_eq_true q0).symm)|(exact(decide_eq_false q0).symm)|(exact decide_eq_decide.2 q0)),rfl⟩
       ·refine ak G G G G (ak G G G G (aD G G G (Rg.aZ G G (aM ?_))));exact aP rfl rfl ⟨by simp only[gu];first|rfl|(congr 1;first|(exact(decide_eq_true q0).symm)|(exact(decide_eq_false q0).symm)|(exact decide_eq_decide.2 q0)),rfl⟩
      ·refine ak G G G G (ak G G G G (aD G G G (ab G G (ak G G G G (ak G G G G (aD G G G (Rg.aZ G G (aM ?_))))))));exact aP rfl rfl ⟨by simp only[gu];first|rfl|(congr 1;first|(exact(decide_eq_true q0).symm)|(exact(decide_eq_false q0).symm)|(exact decide_eq_decide.2 q0)),rfl⟩
     ·refine ak G G G G (ak G G G G (aD G G G (ab G G (ak G G G G (ak G G G G (aD G G G (ab G G (ak G G G G (ak G G G G (aD G G G (aB G G ?_)))))))))));refine ad (aM ?_);exact aP rfl rfl ⟨by simp only[gu];first|rfl|(congr 1;first|(exact(decide_eq_true q0).symm)|(exact(decide_eq_false q0).symm)|(exact decide_eq_decide.2 q0)),rfl⟩
   ·refine ak G G G G (ak G G G G (ah G G (aD G G G (aD G G G (ad (gy G (aR (T.aO (ab G G (eh G G G ?_))))))))));refine ab G G ?_;refine aW (g:=19) G (λIP=>?_) (λIP=>?_)
    ·refine ah G G (ab G G (ah G G (gF G G G (a8 G G G (ab G G ?_)))));refine aW (g:=23) G (λIS=>?_) (λIS=>?_)
     ·refine ah G G (ab G G (ah G G (eR G G G (a8 G G G (ab G G ?_)))));refine aW (g:=27) G (λAk=>?_) (λAk=>?_)
      ·refine ah G G (ab G G (ah G G (eR G G G (a8 G G G (Rg.aZ G G (aM ?_))))));exact aP rfl rfl ⟨by simp only[gu];first|rfl|(congr 1;first|(exact(decide_eq_true q0).symm)|(exact(decide_eq_false q0).symm)|(exact decide_eq_decide.2 q0)),rfl⟩
      ·refine ak G G G G (ak G G G G (aD G G G (Rg.aZ G G (aM ?_))));exact aP rfl rfl ⟨by simp only[gu];first|rfl|(congr 1;first|(exact(decide_eq_true q0).symm)|(exact(decide_eq_false q0).symm)|(exact decide_eq_decide.2 q0)),rfl⟩
     ·refine ak G G G G (ak G G G G (aD G G G (ab G G (ak G G G G (ak G G G G (aD G G G (Rg.aZ G G (aM ?_))))))));exact aP rfl rfl ⟨by simp only[gu];first|rfl|(congr 1;first|(exact(decide_eq_true q0).symm)|(exact(decide_eq_false q0).symm)|(exact decide_eq_decide.2 q0)),rfl⟩
    ·refine ak G G G G (ak G G G G (aD G G G (ab G G (ak G G G G (ak G G G G (aD G G G (ab G G (ak G G G G (ak G G G G (aD G G G (aB G G ?_)))))))))));refine ad (aM ?_);exact aP rfl rfl ⟨by simp only[gu];first|rfl|(congr 1;first|(exact(decide_eq_true q0).symm)|(exact(decide_eq_false q0).symm)|(exact decide_eq_decide.2 q0)),rfl⟩
 ·refine ak G G G G (ak G G G G (aD G G G (ab G G (ah G G (ab G G (ah G G (eh G G G (ah G G (ab G G ?_)))))))));refine aW (g:=12) G (λuc=>?_) (λuc=>?_)
  ·refine ah G G (ab G G (ah G G (gF G G G (ah G G (a8 G G G (aD G G G (ad ?_)))))));refine bI G (λc1=>?_) (λc1=>?_)
   ·refine T.aO (Rg.aZ G G (aM ?_));exact aP rfl rfl ⟨by simp only[gu];first|rfl|(congr 1;first|(exact(decide_eq_true q0).symm)|(exact(decide_eq_false q0).symm)|(exact decide_eq_decide.2 q0)),rfl⟩
   ·refine aR (T.aO (ab G G (eh G G G (ab G G ?_))));refine aW (g:=19) G (λIP=>?_) (λIP=>?_)
    ·refine ah G G (ab G G (ah G G (gF G G G (a8 G G G (ab G G ?_)))));refine aW (g:=23) G (λIS=>?_) (λIS=>?_)
     ·refine ah G G (ab G G (ah G G (eR G G G (a8 G G G (ab G G ?_)))));refine aW (g:=27) G (λAk=>?_) (λAk=>?_)
      ·refine ah G G (ab G G (ah G G (eR G G G (a8 G G G (Rg.aZ G G (aM ?_))))));exact aP rfl rfl ⟨by simp only[gu];first|rfl|(congr 1;first|(exact(decide_eq_true q0).symm)|(exact(decide_eq_false q0).symm)|(exact decide_eq_decide.2 q0)),rfl⟩
      ·refine ak G G G G (ak G G G G (aD G G G (Rg.aZ G G (aM ?_))));exact aP rfl rfl ⟨by simp only[gu];first|rfl|(congr 1;first|(exact(decide_eq_true q0).symm)|(exact(decide_eq_false q0).symm)|(exact decide_eq_decide.2 q0)),rfl⟩
     ·refine ak G G G G (ak G G G G (aD G G G (ab G G (ak G G G G (ak G G G G (aD G G G (Rg.aZ G G (aM ?_))))))));exact aP rfl rfl ⟨by simp only[gu];first|rfl|(congr 1;first|(exact(decide_eq_true q0).symm)|(exact(decide_eq_false q0).symm)|(exact decide_eq_decide.2 q0)),rfl⟩
    ·refine ak G G G G (ak G G G G (aD G G G (ab G G (ak G G G G (ak G G G G (aD G G G (ab G G (ak G G G G (ak G G G G (aD G G G (aB G G ?_)))))))))));refine ad (aM ?_);exact aP rfl rfl ⟨by simp only[gu];first|rfl|(congr 1;first|(exact(decide_eq_true q0).symm)|(exact(decide_eq_false q0).symm)|(exact decide_eq_decide.2 q0)),rfl⟩
  ·refine ak G G G G (ak G G G G (ah G G (aD G G G (aD G G G (ad (gy G (aR (T.aO (ab G G (eh G G G ?_))))))))));refine ab G G ?_;refine aW (g:=19) G (λIP=>?_) (λIP=>?_)
   ·refine ah G G (ab G G (ah G G (gF G G G (a8 G G G (ab G G ?_)))));refine aW (g:=23) G (λIS=>?_) (λIS=>?_)
    ·refine ah G G (ab G G (ah G G (eR G G G (a8 G G G (ab G G ?_)))));refine aW (g:=27) G (λAk=>?_) (λAk=>?_)
     ·refine ah G G (ab G G (ah G G (eR G G G (a8 G G G (Rg.aZ G G (aM ?_))))));exact aP rfl rfl ⟨by simp only[gu];first|rfl|(congr 1;first|(exact(decide_eq_true q0).symm)|(exact(decide_eq_false q0).symm)|(exact decide_eq_decide.2 q0)),rfl⟩
     ·refine ak G G G G (ak G G G G (aD G G G (Rg.aZ G G (aM ?_))));exact aP rfl rfl ⟨by simp only[gu];first|rfl|(congr 1;first|(exact(decide_eq_true q0).symm)|(exact(decide_eq_false q0).symm)|(exact decide_eq_decide.2 q0)),rfl⟩
    ·refine ak G G G G (ak G G G G (aD G G G (ab G G (ak G G G G (ak G G G G (aD G G G (Rg.aZ G G (aM ?_))))))));exact aP rfl rfl ⟨by simp only[gu];first|rfl|(congr 1;first|(exact(decide_eq_true q0).symm)|(exact(decide_eq_false q0).symm)|(exact decide_eq_decide.2 q0)),rfl⟩
   ·refine ak G G G G (ak G G G G (aD G G G (ab G G (ak G G G G (ak G G G G (aD G G G (ab G G (ak G G G G (ak G G G G (aD G G G (aB G G ?_)))))))))));refine ad (aM ?_);exact aP rfl rfl ⟨by simp only[gu];first|rfl|(congr 1;first|(exact(decide_eq_true q0).symm)|(exact(decide_eq_false q0).symm)|(exact decide_eq_decide.2 q0)),rfl⟩
theorem IT (c:Int) (w0:World) (hc:0<=c/\c<=1114111):
  Spec Tryz.prog 171 #[.int .i64 c] w0 (λv w=>v= .int .i64 (gm c)/\w=w0):=by
 refine aS (args:=[_]) (fn:=Tryz.f171) Tryz.func171 G (n:=28) Tryz.ntmps171 (T.aO (Rg.aZ G G (aI (T.aO (ab G G (eh G G G (ab G G ?_)))))));refine aW (g:=5) G (λgT=>?_) (λgT=>?_)
 ·refine ah G G (ab G G (ah G G (gF G G G (a8 G G G (ab G G ?_)))));refine aW (g:=9) G (λDX=>?_) (λDX=>?_)
  ·refine ak G G G G (ak G G G G (ak G G G G (cM G G G (cM G G G (ak G G G G (a8 G G G (ab G G (ak G G G G (ak G G G G (ak G G G G (cM G G G ?_)))))))))));refine cM G G G (ak G G G G (a8 G G G (ad (lh G (T.aO (ab G G (br G G G q0 (Rg.aZ G G (aM ?_)))))))));exact a52
  ·refine ah G G (ab G G (ah G G (eh G G G (ah G G (ab G G ?_)))));refine aW (g:=12) G (λuc=>?_) (λuc=>?_)
   ·refine ah G G (ab G G (ah G G (gF G G G (ah G G (a8 G G G (aD G G G (ab G G ?_)))))));refine aW (g:=17) G (λAg=>?_) (λAg=>?_)
    ·refine ak G G G G (ak G G G G (ak G G G G (cM G G G (cM G G G (ak G G G G (a8 G G G (ad (lh G (T.aO (ab G G ?_))))))))));refine br G G G q0 (Rg.aZ G G (aM ?_));exact a52
    ·refine ah G G (ab G G (ah G G (eh G G G (ah G G (ab G G ?_)))));refine aW (g:=20) G (λmJ=>?_) (λmJ=>?_)
     ·refine ah G G (ab G G (ah G G (gF G G G (ah G G (a8 G G G (aD G G G (ad ?_)))))));refine bI G (λc1=>?_) (λc1=>?_)
      ·refine T.aO (ab G G (br G G G q0 (Rg.aZ G G (aM ?_))));exact a52
      ·refine aR (T.aO (ab G G (Rg.aZ G G (aM ?_))));exact a19
     ·refine ak G G G G (ak G G G G (ah G G (aD G G G (aD G G G (ad (gy G (aR (T.aO (ab G G (aB G G ?_))))))))));refine ad (aM ?_);exact a19
   ·refine ak G G G G (ak G G G G (ah G G (aD G G G (aD G G G (ab G G (ah G G (ab G G (ah G G (eh G G G (ah G G (ab G G ?_)))))))))));refine aW (g:=20) G (λmJ=>?_) (λmJ=>?_)
    ·refine ah G G (ab G G (ah G G (gF G G G (ah G G (a8 G G G (aD G G G (ad ?_)))))));refine bI G (λc1=>?_) (λc1=>?_)
     ·refine T.aO (ab G G (br G G G q0 (Rg.aZ G G (aM ?_))));exact a52
     ·refine aR (T.aO (ab G G (Rg.aZ G G (aM ?_))));exact a19
    ·refine ak G G G G (ak G G G G (ah G G (aD G G G (aD G G G (ad (gy G (aR (T.aO (ab G G (aB G G ?_))))))))));refine ad (aM ?_);exact a19
 ·refine ak G G G G (ak G G G G (aD G G G (ab G G (ah G G (ab G G (ah G G (eh G G G (ah G G (ab G G ?_)))))))));refine aW (g:=12) G (λuc=>?_) (λuc=>?_)
  ·refine ah G G (ab G G (ah G G (gF G G G (ah G G (a8 G G G (aD G G G (ab G G ?_)))))));refine aW (g:=17) G (λAg=>?_) (λAg=>?_)
   ·refine ak G G G G (ak G G G G (ak G G G G (cM G G G (cM G G G (ak G G G G (a8 G G G (ad (lh G (T.aO (ab G G ?_))))))))));refine br G G G q0 (Rg.aZ G G (aM ?_));exact a52
   ·refine ah G G (ab G G (ah G G (eh G G G (ah G G (ab G G ?_)))));refine aW (g:=20) G (λmJ=>?_) (λmJ=>?_)
    ·refine ah G G (ab G G (ah G G (gF G G G (ah G G (a8 G G G (aD G G G (ad ?_)))))));refine bI G (λc1=>?_) (λc1=>?_)
     ·refine T.aO (ab G G (br G G G q0 (Rg.aZ G G (aM ?_))));exact a52
     ·refine aR (T.aO (ab G G (Rg.aZ G G (aM ?_))));exact a19
    ·refine ak G G G G (ak G G G G (ah G G (aD G G G (aD G G G (ad (gy G (aR (T.aO (ab G G (aB G G ?_))))))))));refine ad (aM ?_);exact a19
  ·refine ak G G G G (ak G G G G (ah G G (aD G G G (aD G G G (ab G G (ah G G (ab G G (ah G G (eh G G G (ah G G (ab G G ?_)))))))))));refine aW (g:=20) G (λmJ=>?_) (λmJ=>?_)
   ·refine ah G G (ab G G (ah G G (gF G G G (ah G G (a8 G G G (aD G G G (ad ?_)))))));refine bI G (λc1=>?_) (λc1=>?_)
    ·refine T.aO (ab G G (br G G G q0 (Rg.aZ G G (aM ?_))));exact a52
    ·refine aR (T.aO (ab G G (Rg.aZ G G (aM ?_))));exact a19
   ·refine ak G G G G (ak G G G G (ah G G (aD G G G (aD G G G (ad (gy G (aR (T.aO (ab G G (aB G G ?_))))))))));refine ad (aM ?_);exact a19
def zi (c:Int):Bool:=decide (gu c=true\/nU c=true)
theorem F2 (c:Int) (w0:World):
  Spec Tryz.prog 113 #[.int .i64 c] w0 (λv w=>v= .bool (zi c)/\w=w0):=by
 refine aS (args:=[_]) (fn:=Tryz.f113) Tryz.func113 G (n:=13) Tryz.ntmps113 (T.aO (Rg.aZ G G (T.aO (ab G G ?_))));refine aJ G G akd (DY _ _) (λr wc hc=>?_);obtain⟨rfl,rfl⟩:=hc;refine aY (v':= .bool (decide (gu c=true))) (by cases gu c<;>rfl) (ab rfl rfl ?_);refine aW (g:=5) G (λgT=>?_) (λgT=>?_)
 ·refine ak G G G G (ak G G G G (ak G G G G (cM G G G (cM G G G (ak G G G G (a8 G G G (Rg.aZ G G (aM ?_))))))));have e:(nU c=true)=(48<=c/\c<=57):=by simp[nU]
  exact aP rfl rfl ⟨by simp only[zi,e];first|(congr 1;first|(exact(decide_eq_true (.inl a00)).symm)|(exact(decide_eq_true (.inr q0)).symm)|(exact(decide_eq_false ao8).symm)|(exact decide_eq_decide.2 ⟨λh=> .inr q0,λh=>h.elim (λh=>absurd h a00) (λh=>by omega)⟩)),rfl⟩
 ·refine ah G G (ab G G (ah G G (eh G G G (ah G G (ab G G ?_)))));refine aW (g:=8) G (λj8=>?_) (λj8=>?_)
  ·refine ah G G (ab G G (ah G G (gF G G G (ah G G (a8 G G G (aD G G G (Rg.aZ G G (aM ?_))))))));have e:(nU c=true)=(48<=c/\c<=57):=by simp[nU]
   exact aP rfl rfl ⟨by simp only[zi,e];first|(congr 1;first|(exact(decide_eq_true (.inl a00)).symm)|(exact(decide_eq_true (.inr q0)).symm)|(exact(decide_eq_false ao8).symm)|(exact decide_eq_decide.2 ⟨λh=> .inr q0,λh=>h.elim (λh=>absurd h a00) (λh=>by omega)⟩)),rfl⟩
  ·refine ak G G G G (ak G G G G (ah G G (aD G G G (aD G G G (Rg.aZ G G (aM ?_))))));have e:(nU c=true)=(48<=c/\c<=57):=by simp[nU]
   exact aP rfl rfl ⟨by simp only[zi,e];first|(congr 1;first|(exact(decide_eq_true (.inl a00)).symm)|(exact(decide_eq_true (.inr q0)).symm)|(exact(decide_eq_false ao8).symm)|(exact decide_eq_decide.2 ⟨λh=> .inr q0,λh=>h.elim (λh=>absurd h a00) (λh=>by omega)⟩)),rfl⟩
theorem YX {l:List UInt8} {c:Int} (hc:c=(kq l 0:Int)) (hn:nO c≠0):∀{k:Nat},(∀j:Nat,1<=j->j<k+1->kf l j=true)->k<=3->0<=vO l k/\vO l k<=100000000:=by
 have key:∀k:Nat,(∀j:Nat,1<=j->j<k+1->kf l j=true)->0<=vO l k/\vO l k<=33*64^k-1:=by
  intro k
  induction k with
  |zero=>
   intro _;have:=oO hn;show 0<=xy (kq l 0:Int)/\xy (kq l 0:Int)<=33*64^0-1;rw[<-hc];simp only[Int.pow_zero];omega
  |succ k ih=>
   intro h;have h1:=ih λj h2 h3=>h j h2 q0
   have h2:=ig.1 (h (k+1) q0 q0);show 0<=64*vO l k+_-128/\64*vO l k+_-128<=_;rw[Int.pow_succ];omega
 intro k h hk;have:=key k h
 have h3:(64:Int)^k<=262144:=by
  rcases(show k=0\/k=1\/k=2\/k=3 by omega)with rfl|rfl|rfl|rfl<;>decide
 omega
theorem Pv {l:List UInt8} (w0:World) (hl:l≠[]) (hlen:l.length<=4000000):
  Spec Tryz.prog 170 #[.string ⟨l.toArray⟩] w0 (λv w=>v= .tuple #[.int .i64 ((dec l).1:Int),.int .i64 ((dec l).2:Int)]/\w=w0):=by
 have Dx:0<l.length:=gv.2 hl;have Al:=pD l 0;obtain⟨c,hc⟩:∃c:Int,c=(kq l 0:Int):=⟨_,rfl⟩;have hcr:0<=c/\c<256:=by omega
 refine aS (args:=[_]) (fn:=Tryz.f170) Tryz.func170 G (n:=85) Tryz.ntmps170 (T.aO (aB G G (Rg.aZ G G (T.aO (ab G G ?_)))));refine Rg.KH (c:=l.getD 0 0) aG G G G XT (by rw[bY];show l[0]? =_;rw[an Dx];rfl) ?_;refine aY (v':= .int .u8 c) (by rw[hc];rfl) (Rg.tF cZ aj rfl rfl q0 (Rg.aZ rfl rfl (aI (T.aO (ab rfl rfl (ck rfl rfl rfl (ad ?_)))))));refine bI G (λc2=>?_) (λc2=>?_)
 ·refine T.aO (ab G G (aB G G (Rg.aZ G G (aM ?_))));exact eS rfl rfl rfl ⟨by rw[adR q0,hc];rfl,rfl⟩
 ·refine aR (T.aO (Rg.aZ G G (T.aO (Rg.aZ G G (T.aO (aB G G ?_))))));refine ad ?_;refine T.KD [(0,.string ⟨l.toArray⟩),(4,.int .i64 c),(5,.int .i64 (nO c)),(6,.int .i64 (iB c)),(7,.int .i64 (xy c))] ?_ ?_
  ·refine T.aO (ab G G (eh G G G (ab G G ?_)));refine aW (g:=18) G (λakV=>?_) (λakV=>?_)
   ·refine ah G G (ab G G (ah G G (ck G G G (a8 G G G (ad ?_)))));refine bI G (λc7=>?_) (λc7=>?_)
    ·refine T.aO (Rg.aZ G G (T.aO (Rg.aZ G G (aN (ab G G (jy G G G q0 (aB G G ?_)))))));refine ad ?_;exact⟨G,G,G,.cons G (.cons G (.cons (congrArg (λz=>some (Value.int .i64 z)) a09) (.cons (congrArg (λz=>some (Value.int .i64 z)) a10) (.cons (congrArg (λz=>some (Value.int .i64 z)) a11) (.nil)))))⟩
    ·refine T.aO (ab G G (eh G G G (ab G G ?_)));refine aW (g:=26) G (λjo=>?_) (λjo=>?_)
     ·refine ah G G (ab G G (ah G G (ck G G G (a8 G G G (ad ?_)))));refine bI G (λIU=>?_) (λIU=>?_)
      ·refine T.aO (Rg.aZ G G (T.aO (Rg.aZ G G (aN (ab G G (jy G G G q0 (aB G G ?_)))))));refine ad ?_;exact⟨G,G,G,.cons G (.cons G (.cons (congrArg (λz=>some (Value.int .i64 z)) a09) (.cons (congrArg (λz=>some (Value.int .i64 z)) a10) (.cons (congrArg (λz=>some (Value.int .i64 z)) a11) (.nil)))))⟩
      ·refine T.aO (ab G G (eh G G G (ab G G ?_)));refine aW (g:=34) G (λAm=>?_) (λAm=>?_)
       ·refine ah G G (ab G G (ah G G (ck G G G (a8 G G G (ad ?_)))));refine bI G (λYY=>?_) (λYY=>?_)
        ·refine T.aO (Rg.aZ G G (T.aO (Rg.aZ G G (aN (ab G G (jy G G G q0 (aB G G ?_)))))));refine ad ?_;exact⟨G,G,G,.cons G (.cons G (.cons (congrArg (λz=>some (Value.int .i64 z)) a09) (.cons (congrArg (λz=>some (Value.int .i64 z)) a10) (.cons (congrArg (λz=>some (Value.int .i64 z)) a11) (.nil)))))⟩
        ·refine aR ?_;exact⟨G,G,G,.cons G (.cons G (.cons (congrArg (λz=>some (Value.int .i64 z)) a09) (.cons (congrArg (λz=>some (Value.int .i64 z)) a10) (.cons (congrArg (λz=>some (Value.int .i64 z)) a11) (.nil)))))⟩
       ·refine ak G G G G (ak G G G G (aD G G G (ad (gy G (aR ?_)))));exact⟨G,G,G,.cons G (.cons G (.cons (congrArg (λz=>some (Value.int .i64 z)) a09) (.cons (congrArg (λz=>some (Value.int .i64 z)) a10) (.cons (congrArg (λz=>some (Value.int .i64 z)) a11) (.nil)))))⟩
     ·refine ak G G G G (ak G G G G (aD G G G (ad (gy G (T.aO (ab G G (eh G G G (ab G G ?_))))))));refine aW (g:=34) G (λAm=>?_) (λAm=>?_)
      ·refine ah G G (ab G G (ah G G (ck G G G (a8 G G G (ad ?_)))));refine bI G (λYY=>?_) (λYY=>?_)
       ·refine T.aO (Rg.aZ G G (T.aO (Rg.aZ G G (aN (ab G G (jy G G G q0 (aB G G ?_)))))));refine ad ?_;exact⟨G,G,G,.cons G (.cons G (.cons (congrArg (λz=>some (Value.int .i64 z)) a09) (.cons (congrArg (λz=>some (Value.int .i64 z)) a10) (.cons (congrArg (λz=>some (Value.int .i64 z)) a11) (.nil)))))⟩
       ·refine aR ?_;exact⟨G,G,G,.cons G (.cons G (.cons (congrArg (λz=>some (Value.int .i64 z)) a09) (.cons (congrArg (λz=>some (Value.int .i64 z)) a10) (.cons (congrArg (λz=>some (Value.int .i64 z)) a11) (.nil)))))⟩
      ·refine ak G G G G (ak G G G G (aD G G G (ad (gy G (aR ?_)))));exact⟨G,G,G,.cons G (.cons G (.cons (congrArg (λz=>some (Value.int .i64 z)) a09) (.cons (congrArg (λz=>some (Value.int .i64 z)) a10) (.cons (congrArg (λz=>some (Value.int .i64 z)) a11) (.nil)))))⟩
   ·refine ak G G G G (ak G G G G (aD G G G (ad (gy G (T.aO (ab G G (eh G G G (ab G G ?_))))))));refine aW (g:=26) G (λjo=>?_) (λjo=>?_)
    ·refine ah G G (ab G G (ah G G (ck G G G (a8 G G G (ad ?_)))));refine bI G (λIU=>?_) (λIU=>?_)
     ·refine T.aO (Rg.aZ G G (T.aO (Rg.aZ G G (aN (ab G G (jy G G G q0 (aB G G ?_)))))));refine ad ?_;exact⟨G,G,G,.cons G (.cons G (.cons (congrArg (λz=>some (Value.int .i64 z)) a09) (.cons (congrArg (λz=>some (Value.int .i64 z)) a10) (.cons (congrArg (λz=>some (Value.int .i64 z)) a11) (.nil)))))⟩
     ·refine T.aO (ab G G (eh G G G (ab G G ?_)));refine aW (g:=34) G (λAm=>?_) (λAm=>?_)
      ·refine ah G G (ab G G (ah G G (ck G G G (a8 G G G (ad ?_)))));refine bI G (λYY=>?_) (λYY=>?_)
       ·refine T.aO (Rg.aZ G G (T.aO (Rg.aZ G G (aN (ab G G (jy G G G q0 (aB G G ?_)))))));refine ad ?_;exact⟨G,G,G,.cons G (.cons G (.cons (congrArg (λz=>some (Value.int .i64 z)) a09) (.cons (congrArg (λz=>some (Value.int .i64 z)) a10) (.cons (congrArg (λz=>some (Value.int .i64 z)) a11) (.nil)))))⟩
       ·refine aR ?_;exact⟨G,G,G,.cons G (.cons G (.cons (congrArg (λz=>some (Value.int .i64 z)) a09) (.cons (congrArg (λz=>some (Value.int .i64 z)) a10) (.cons (congrArg (λz=>some (Value.int .i64 z)) a11) (.nil)))))⟩
      ·refine ak G G G G (ak G G G G (aD G G G (ad (gy G (aR ?_)))));exact⟨G,G,G,.cons G (.cons G (.cons (congrArg (λz=>some (Value.int .i64 z)) a09) (.cons (congrArg (λz=>some (Value.int .i64 z)) a10) (.cons (congrArg (λz=>some (Value.int .i64 z)) a11) (.nil)))))⟩
    ·refine ak G G G G (ak G G G G (aD G G G (ad (gy G (T.aO (ab G G (eh G G G (ab G G ?_))))))));refine aW (g:=34) G (λAm=>?_) (λAm=>?_)
     ·refine ah G G (ab G G (ah G G (ck G G G (a8 G G G (ad ?_)))));refine bI G (λYY=>?_) (λYY=>?_)
      ·refine T.aO (Rg.aZ G G (T.aO (Rg.aZ G G (aN (ab G G (jy G G G q0 (aB G G ?_)))))));refine ad ?_;exact⟨G,G,G,.cons G (.cons G (.cons (congrArg (λz=>some (Value.int .i64 z)) a09) (.cons (congrArg (λz=>some (Value.int .i64 z)) a10) (.cons (congrArg (λz=>some (Value.int .i64 z)) a11) (.nil)))))⟩
      ·refine aR ?_;exact⟨G,G,G,.cons G (.cons G (.cons (congrArg (λz=>some (Value.int .i64 z)) a09) (.cons (congrArg (λz=>some (Value.int .i64 z)) a10) (.cons (congrArg (λz=>some (Value.int .i64 z)) a11) (.nil)))))⟩
     ·refine ak G G G G (ak G G G G (aD G G G (ad (gy G (aR ?_)))));exact⟨G,G,G,.cons G (.cons G (.cons (congrArg (λz=>some (Value.int .i64 z)) a09) (.cons (congrArg (λz=>some (Value.int .i64 z)) a10) (.cons (congrArg (λz=>some (Value.int .i64 z)) a11) (.nil)))))⟩
  ·refine aI (T.aO (ab G G (gN G G G (ab G G ?_))));refine aW (g:=42) G (λadT=>?_) (λadT=>?_)
   ·refine ak G G G G (ak G G G G (ak G G G G (ak G G G G (a8 G G G (ad (lh G (T.aO (aB G G (Rg.aZ G G ?_)))))))));refine aM ?_
    have hx:nO (kq l 0:Int)=0\/∃k:Nat,1<=k/\(k:Int)<nO (kq l 0:Int)/\kf l k=false:=by
     rw[<-hc];by_cases h0:nO c=0
     ·exact .inl h0
     ·have hnc:=oO h0;exact .inr ⟨(nO c).toNat-1,by omega,by omega,fj.2 λh=>by have:=(ig.1 h).1;omega⟩
    have e:dec l=(65533,1):=KN q0 hx;exact eS rfl rfl rfl ⟨by rw[e];rfl,rfl⟩
   ·refine ah G G (ab G G (ah G G (zg aG G G (aY (v':= .int .i64 (l.length:Int)) a86 (ah G G (ab G G (ah G G (ck G G G (aD G G G (ad ?_))))))))));refine bI G (λYZ=>?_) (λYZ=>?_)
    ·refine T.aO (aB G G (Rg.aZ G G (aM ?_)))
     have hx:nO (kq l 0:Int)=0\/∃k:Nat,1<=k/\(k:Int)<nO (kq l 0:Int)/\kf l k=false:=by
      rw[<-hc];by_cases h0:nO c=0
      ·exact .inl h0
      ·have hnc:=oO h0;exact .inr ⟨(nO c).toNat-1,by omega,by omega,fj.2 λh=>by have:=(ig.1 h).1;omega⟩
     have e:dec l=(65533,1):=KN q0 hx;exact eS rfl rfl rfl ⟨by rw[e];rfl,rfl⟩
    ·refine aR (aI (T.aO (Rg.aZ G G (aT ?_))));refine cR (σ:=Nat) (λi=>[(0,.string ⟨l.toArray⟩),(5,.int .i64 (nO c)),(6,.int .i64 (iB c)),(7,.int .i64 (vO l (i-1))),(8,.int .i64 (i:Int))]) (λi w=>w=w0/\1<=i/\(i:Int)<=nO c/\∀k:Nat,1<=k->k<i->kf l k=true) (λi=>(nO c).toNat-i) 1 (.cons G (.cons G (.cons G (.cons (congrArg (λz=>some (Value.int .i64 z)) (by show xy c=xy (kq l 0:Int);rw[hc])) (.cons rfl .nil))))) ?_ ?_
     ·exact⟨G,aX _,by have:=oO (c:=c) q0;omega,λk h1 h2=>by omega⟩
     ·rintro i w ⟨rfl,BH,EX,fN⟩;have hnc:=oO (c:=c) q0
      have hvr:0<=vO l (i-1)/\vO l (i-1)<=100000000:=by
       exact YX (l:=l) (c:=c) (k:=i-1) hc q0 (λj h1 h2=>fN j h1 q0) q0
      refine aI (T.aO (ab G G (ab G G (ck G G G (ad ?_)))));refine bI G (λc22=>?_) (λc22=>?_)
      ·refine aR (aI (aT (T.aO (ab G G (ab G G ?_)))));have mL:i<l.length:=by omega
       refine Rg.KH (c:=l.getD i 0) aG G G G q0 (by rw[bY,aq,an mL];rfl) ?_;refine aY (v':= .int .u8 (kq l i:Int)) G ?_;have Y0:=pD l i;refine Rg.tF cZ aj G G q0 (Rg.aZ G G (aI (T.aO (ab G G (ck G G G (ab G G ?_))))));refine aW (g:=59) G (λadU=>?_) (λadU=>?_)
       ·refine ak G G G G (ak G G G G (a8 G G G (ad (lh G (T.aO (aB G G (Rg.aZ G G (aM ?_))))))))
        have hx:nO (kq l 0:Int)=0\/∃k:Nat,1<=k/\(k:Int)<nO (kq l 0:Int)/\kf l k=false:=by
         rw[<-hc];exact .inr ⟨i,BH,by omega,fj.2 λh=>by have:=ig.1 h;omega⟩
        have e:dec l=(65533,1):=KN q0 hx;exact eS rfl rfl rfl ⟨by rw[e];rfl,rfl⟩
       ·refine ah G G (ab G G (ah G G (eh G G G (aD G G G (ad ?_)))));refine bI G (λc25=>?_) (λc25=>?_)
        ·refine T.aO (aB G G (Rg.aZ G G (aM ?_)))
         have hx:nO (kq l 0:Int)=0\/∃k:Nat,1<=k/\(k:Int)<nO (kq l 0:Int)/\kf l k=false:=by
          rw[<-hc];exact .inr ⟨i,BH,by omega,fj.2 λh=>by have:=ig.1 h;omega⟩
         have e:dec l=(65533,1):=KN q0 hx;exact eS rfl rfl rfl ⟨by rw[e];rfl,rfl⟩
        ·refine aR (aN (ab G G (Rg.X0 G G G q0 (ab G G (br G G G q0 (jy G G G q0 (Rg.aZ G G (aN (ab G G (br G G G q0 ?_))))))))));refine Rg.aZ G G ?_;refine⟨G,i+1,(.cons G (.cons G (.cons G (.cons (congrArg (λz=>some (Value.int .i64 z)) (by obtain⟨q,rfl⟩:∃q,i=q+1:=⟨i-1,by omega⟩;rfl)) (.cons rfl .nil))))),?_,?_⟩
         ·exact⟨G,by omega,by omega,λk h1 h2=>by
           rcases cL k i with h|h
           ·exact fN k h1 h
           ·obtain rfl:k=i:=by omega
            exact ig.2 q0⟩
         ·omega
      ·refine cE (aI (T.aO (ab G G (ab G G (ck G G G (ab G G ?_))))));refine aW (g:=71) G (λadV=>?_) (λadV=>?_)
       ·refine ak G G G G (ak G G G G (a8 G G G (ab G G (ak G G G G (ak G G G G (ak G G G G (cM G G G (cM G G G (ak G G G G (a8 G G G (ad ?_)))))))))));refine lh G (T.aO (aB G G (Rg.aZ G G (aM ?_))));have e:=F1 (l:=l) (by rw[<-hc];omega) ad4 (vO l (i-1)) an3;rw[<-hc,if_pos q0]at e;exact eS rfl rfl rfl ⟨by rw[e];rfl,rfl⟩
       ·refine ah G G (ab G G (ah G G (il G G G (aD G G G (ab G G ?_)))));refine aW (g:=75) G (λadW=>?_) (λadW=>?_)
        ·refine ak G G G G (ak G G G G (ak G G G G (cM G G G (cM G G G (ak G G G G (a8 G G G (ad (lh G (T.aO (aB G G ?_))))))))));refine Rg.aZ G G (aM ?_);have e:=F1 (l:=l) (by rw[<-hc];omega) ad4 (vO l (i-1)) an3;rw[<-hc,if_pos q0]at e;exact eS rfl rfl rfl ⟨by rw[e];rfl,rfl⟩
        ·refine ah G G (ab G G (ah G G (eh G G G (ah G G (ab G G ?_)))));refine aW (g:=78) G (λY1=>?_) (λY1=>?_)
         ·refine ah G G (ab G G (ah G G (gF G G G (ah G G (a8 G G G (aD G G G (ad ?_)))))));refine bI G (λc28=>?_) (λc28=>?_)
          ·refine T.aO (aB G G (Rg.aZ G G (aM ?_)));have e:=F1 (l:=l) (by rw[<-hc];omega) ad4 (vO l (i-1)) an3;rw[<-hc,if_pos q0]at e;exact eS rfl rfl rfl ⟨by rw[e];rfl,rfl⟩
          ·refine aR (T.aO (ab G G (ab G G (aB G G (Rg.aZ G G (aM ?_))))));have e:=F1 (l:=l) (by rw[<-hc];omega) ad4 (vO l (i-1)) an3;rw[<-hc,if_neg q0]at e;exact eS rfl rfl rfl ⟨by rw[e];simp only[];rw[BF hvr.1,BF q0],rfl⟩
         ·refine ak G G G G (ak G G G G (ah G G (aD G G G (aD G G G (ad (gy G (aR (T.aO (ab G G (ab G G ?_))))))))));refine aB G G (Rg.aZ G G (aM ?_));have e:=F1 (l:=l) (by rw[<-hc];omega) ad4 (vO l (i-1)) an3;rw[<-hc,if_neg q0]at e;exact eS rfl rfl rfl ⟨by rw[e];simp only[];rw[BF hvr.1,BF q0],rfl⟩
theorem IV {M:aE} {l:List UInt8} (w0:World) (hM:Lt M w0) (hl:l.length<=4000000):
  Spec Tryz.prog 111 #[.string ⟨l.toArray⟩] w0 (λv w=>∃M',Lt M' w/\Step M w0 M' w ar/\Own (RT.int .i64) 3 M' w w0.heap.size v (fM l)):=by
 have iz:=hM;refine aS (args:=[_]) (fn:=Tryz.f111) Tryz.func111 G (n:=22) Tryz.ntmps111 ?_;have S:Step M w0 M w0 ar:=aV;refine T.aO (Rg.aZ G G (T.aO (Rg.aZ G G (aI (aT ?_)))));refine cR (σ:=Nat×List Int×Value) (λq=>[(0,.string ⟨(l.drop q.1).toArray⟩),(3,q.2.2)]) (λq w=>∃M',Lt M' w/\Step M w0 M' w ar/\Own (RT.int .i64) 3 M' w w0.heap.size q.2.2 q.2.1/\fM l=q.2.1++fM (l.drop q.1)/\q.1<=l.length) (λq=>l.length-q.1) (0,[],.slice none 0 0) ac2 ?_ ?_
 ·exact⟨M,hM,S,eE _ _ _ _ _,by simp,by simp⟩
 ·rintro⟨p,xs,u⟩ w ⟨M1,hM,S,ho,DZ,hp⟩;dsimp only at ho DZ hp ⊢;refine aI (T.aO (ab G G (zg aG G G (aY (v':= .int .i64 ((l.drop p).length:Int)) a86 (il G G G (ad ?_))))));refine bI G (λc2=>?_) (λc2=>?_)
  ·refine aR (aT (T.aO (ab G G ?_)));have fw:l.drop p≠[]:=by intro h;rw[h]at c2;simp at c2
   have yo:p<l.length:=by have:=gv.2 fw;rw[dR]at this;omega
   have hwd:=l5 fw;refine aJ rfl rfl akb (Pv (l:=l.drop p) _ fw (by rw[dR];omega)) (λr3 w3 hc=>?_);obtain⟨rfl,rfl⟩:=hc;refine ab G G (b9 G G G (b9 G G G (aB G G (Rg.aZ G G (T.aO (ab G G (ab G G ?_)))))));refine fm (A:=RT.int .i64) (hn:=by decide) (M:=M1) ao I3 XT G G hM (iG (by have:=xq (l.drop p);omega)) (.inr ⟨rfl,rfl⟩) (λY2 Y3 nF pF=>?_);replace ho:=ho.bD pF;replace hM:=pF.lt hM;have:=S.size;replace S:=S.av pF;refine dA (M:=M1) (base:=w0.heap.size) ao I3 rfl rfl rfl rfl ho nF b4 ad5 ad5 (S.size) (λadX akY au1 adY Y4=>?_);replace nF:=nF.le Y4.le;replace hM:=Y4.lt hM;have:=S.size;replace S:=S.eg Y4 ho (aX _);replace ho:=adY;refine Rg.aZ G G (aN (ab G G (ab G G (Rg.UD aG G G G q0 (aY (v':= .string ⟨(l.drop (p+(dec (l.drop p)).2)).toArray⟩) (by rw[List.drop_drop];simp) (Rg.aZ rfl rfl ?_))))));refine⟨G,(p+(dec (l.drop p)).2,xs++[((dec (l.drop p)).1:Int)],adX),ac2,?_,?_⟩
   ·refine⟨akY,hM,S,ho,?_,?_⟩
    ·rw[DZ,pE fw,List.drop_drop];simp
    ·have:=hwd.2;rw[dR]at this;dsimp only;omega
   ·have:=hwd.1;have:=hwd.2;rw[dR]at this;dsimp only;omega
  ·refine cE (T.aO (ab G G (Rg.aZ G G (aM ?_))));have e:fM l=xs:=by rw[DZ,lI (by simp at c2;omega),rR];simp
   rw[e];exact aP G G ⟨_,hM,S,ho⟩
theorem F3 {M:aE} {l:List UInt8} (w0:World) (hM:Lt M w0) (hl:l.length<=4000000):Spec Tryz.prog 111 #[.string ⟨l.toArray⟩] w0 (λv w=>((RT.int .i64).sl).V M w (fM l) v/\Step M w0 M w ar):=
 (IV w0 hM hl).mono λ_ w ⟨M',h1,h2,h3⟩=>⟨h3.close hM h2 (by have:=jf l;omega),h2.back⟩
theorem tc {M:aE} {w:World} {x:Int} (h:0<=x/\x<256):RT.u8.V M w x.toNat.toUInt8 (.int .u8 (IntKind.u8.wrap x)):=by
 have e1:IntKind.u8.wrap x=x:=by
  show(if(false&&decide (x%256>=128))=true then x%256-256 else x%256)=x;rw[if_neg (by simp)];omega
 have e2:((x.toNat.toUInt8).toNat:Int)=x:=by
  have:x.toNat.toUInt8.toNat=x.toNat%256:=UInt8.toNat_ofNat' ..;omega
 rw[e1];exact⟨[.int .u8 x],by show _=_;rw[e2],rfl⟩
theorem akZ {r:Int} (h:0<=r/\r<128):Lib.encodeRune r=[r.toNat.toUInt8]:=by rw[Lib.encodeRune,Lib.encodeRuneZ_one h.1 q0];rfl
theorem ak0 {r:Int} (h:128<=r/\r<2048):Lib.encodeRune r=[(192+r/64).toNat.toUInt8,(128+r%64).toNat.toUInt8]:=by rw[Lib.encodeRune,Lib.encodeRuneZ_two h.1 q0];rfl
theorem MF (c:Int):ud c<55296\/57343<ud c:=by
 unfold ud
 split
 ·omega
 ·rename_i h
  have h2:Lib.validRune c=true:=by
   cases hv:Lib.validRune c with
   |true=>rfl
   |false=>exact absurd (.inr (.inr hv)) h
  simp only[Lib.validRune,decide_eq_true_eq]at h2;omega
theorem ak1 {r:Int} (h:2048<=r/\r<65536) (h2:r<55296\/57343<r):Lib.encodeRune r=[(224+r/4096).toNat.toUInt8,(128+r/64%64).toNat.toUInt8,(128+r%64).toNat.toUInt8]:=by rw[Lib.encodeRune,Lib.encodeRuneZ_three q0];rfl
theorem ak2 {r:Int} (h:65536<=r/\r<=1114111):Lib.encodeRune r=[(240+r/262144).toNat.toUInt8,(128+r/4096%64).toNat.toUInt8,(128+r/64%64).toNat.toUInt8,(128+r%64).toNat.toUInt8]:=by rw[Lib.encodeRune,Lib.encodeRuneZ_four h.1 h.2];rfl
theorem vB {c:Int} (h:c<0\/c>1114111\/(55296<=c/\c<=57343)):ud c=65533:=by
 rw[ud,if_pos];rcases h with h|h|h
 ·exact .inl h
 ·exact .inr (.inl h)
 ·refine .inr (.inr ?_);simp only[Lib.validRune,decide_eq_false_iff_not];omega
theorem rf {c:Int} (h: ¬(c<0\/c>1114111\/(55296<=c/\c<=57343))):ud c=c:=by
 rw[ud,if_neg];rintro(h1|h1|h1)
 ·omega
 ·omega
 ·simp only[Lib.validRune,decide_eq_false_iff_not]at h1;omega
theorem An {M:aE} {xs:List Int} {v0:Value} (w0:World) (hM:Lt M w0) (hv:((RT.int .i64).sl).V M w0 xs v0) (hl:xs.length<=4000000):
  Spec Tryz.prog 172 #[v0] w0 (λv w=>v= .string ⟨(kg xs).toArray⟩/\Step M w0 M w ar):=by
 have iz:=hM;refine aS (args:=[_]) (fn:=Tryz.f172) Tryz.func172 G (n:=91) Tryz.ntmps172 ?_;have S:Step M w0 M w0 ar:=aV;refine T.aO (Rg.aZ G G (T.aO (Rg.aZ G G (aI (T.aO (aB G G ?_))))));refine ad (aT ?_);refine cR (σ:=Nat×Value) (λq=>[(0,v0),(3,q.2),(4,.int .i64 (q.1:Int))]) (λq w=>∃M',Lt M' w/\Step M w0 M' w ar/\Own RT.u8 5 M' w w0.heap.size q.2 (kg (xs.take q.1))/\((RT.int .i64).sl).V M' w xs v0/\q.1<=xs.length) (λq=>xs.length-q.1) (0,.slice none 0 0) a07 ?_ ?_
 ·exact⟨M,hM,S,eE _ _ _ _ _,hv,bm _⟩
 ·rintro⟨k,u⟩ w ⟨M1,hM,S,ho,hv,hk⟩;dsimp only at ho hk ⊢;refine aI (T.aO (ab G G (ab G G (bB ao G hv G (ck G G G (ad ?_))))));refine bI G (λc3=>?_) (λc3=>?_)
  ·refine aR (aI (aT (T.aO (ab G G (ab G G ?_)))));refine cx ao I3 G G G hv b4 q0 (λu5 c MG rS=>?_);refine bV aj G G rS b4 (λin5=>?_);have tk:xs.take (k+1)=xs.take k++[c]:=by rw[bQ];simp only[aq]at MG;rw[MG];rfl
   have hsr:=KM c;have hsc:=MF c;refine Rg.aZ G G ?_;refine T.KD [(0,v0),(3,u),(4,.int .i64 (k:Int)),(5,.int .i64 (ud c))] ?_ ?_
   ·refine T.aO (ab G G (ck G G G (ab G G ?_)));refine aW (g:=18) G (λY5=>?_) (λY5=>?_)
    ·refine ak G G G G (ak G G G G (a8 G G G (ab G G (ak G G G G (ak G G G G (ak G G G G (cM G G G (cM G G G (ak G G G G (a8 G G G (ad ?_)))))))))));refine lh G (aN (Rg.aZ G G ?_));exact⟨G,G,G,.cons G (.cons G (.cons G (.cons (congrArg (λz=>some (Value.int .i64 z)) a99) (.nil))))⟩
    ·refine ah G G (ab G G (ah G G (il G G G (aD G G G (ab G G ?_)))));refine aW (g:=22) G (λak3=>?_) (λak3=>?_)
     ·refine ak G G G G (ak G G G G (ak G G G G (cM G G G (cM G G G (ak G G G G (a8 G G G (ad (lh G (aN (Rg.aZ G G ?_))))))))));exact⟨G,G,G,.cons G (.cons G (.cons G (.cons (congrArg (λz=>some (Value.int .i64 z)) a99) (.nil))))⟩
     ·refine ah G G (ab G G (ah G G (eh G G G (ah G G (ab G G ?_)))));refine aW (g:=25) G (λak4=>?_) (λak4=>?_)
      ·refine ah G G (ab G G (ah G G (gF G G G (ah G G (a8 G G G (aD G G G (ad ?_)))))));refine bI G (λc6=>?_) (λc6=>?_)
       ·refine aN (Rg.aZ G G ?_);exact⟨G,G,G,.cons G (.cons G (.cons G (.cons (congrArg (λz=>some (Value.int .i64 z)) a99) (.nil))))⟩
       ·refine aR ?_;exact⟨G,G,G,.cons G (.cons G (.cons G (.cons (congrArg (λz=>some (Value.int .i64 z)) a99) (.nil))))⟩
      ·refine ak G G G G (ak G G G G (ah G G (aD G G G (aD G G G (ad (gy G (aR ?_)))))));exact⟨G,G,G,.cons G (.cons G (.cons G (.cons (congrArg (λz=>some (Value.int .i64 z)) a99) (.nil))))⟩
   ·refine T.aO (ab G G (ck G G G (ad ?_)));refine bI G (λc8=>?_) (λc8=>?_)
    ·refine aN (ab G G (ab G G (yh aj cZ G G ?_)));refine fm (A:=RT.u8) (hn:=by decide) (M:=M1) bW I5 XT G G hM (tc q0) (.inr ⟨G,G⟩) (λau3 adZ Pw rh=>?_);replace hv:=hv.le rh.le;replace ho:=ho.bD rh;replace hM:=rh.lt hM;have:=S.size;replace S:=S.av rh;refine dA (M:=M1) (base:=w0.heap.size) bW I5 G G G G ho Pw b4 a47 a47 (S.size) (λad0 ak5 ak6 ad1 B3=>?_);replace hv:=hv.le B3.le;replace Pw:=Pw.le B3.le;replace hM:=B3.lt hM;have:=S.size;replace S:=S.eg B3 ho (aX _);replace ho:=ad1;refine Rg.aZ G G (aN (ab G G (br G G G q0 (Rg.aZ G G ?_))));refine⟨G,(k+1,ad0),a07,?_,?_⟩
     ·exact⟨ak5,hM,S,by rw[tk,mK,akZ q0];exact ho,hv,by dsimp only;omega⟩
     ·dsimp only;omega
    ·refine T.aO (ab G G (ck G G G (ad ?_)));refine bI G (λMH=>?_) (λMH=>?_)
     ·refine aN (ab G G (ab G G (Rg.zA G G G q0 (br G G G q0 (yh aj cZ G G (ab G G (Rg.zB G G G q0 (br G G G q0 (yh aj cZ G G ?_)))))))));refine Rg.Ub (A:=RT.u8) (hn:=by decide) (M:=M1) (xs:=[(192+ud c/64).toNat.toUInt8,(128+ud c%64).toNat.toUInt8]) bW I5 G XT G ⟨_,_,_,G,G,G,tc q0,_,_,_,G,G,G,tc q0,G⟩ G hM (.inr ⟨G,G⟩) XT (λaqQ aqR IW KO=>?_);replace hv:=hv.le KO.le;replace ho:=ho.bD KO;replace hM:=KO.lt hM;have:=S.size;replace S:=S.av KO;refine dA (M:=M1) (base:=w0.heap.size) bW I5 G G G G ho IW b4 a47 a47 (S.size) (λY6 Y7 ak7 UM D0=>?_);replace hv:=hv.le D0.le;replace IW:=IW.le D0.le;replace hM:=D0.lt hM;have:=S.size;replace S:=S.eg D0 ho (aX _);replace ho:=UM;refine Rg.aZ G G (aN (ab G G (br G G G q0 (Rg.aZ G G ?_))));refine⟨G,(k+1,Y6),a07,?_,?_⟩
      ·exact⟨Y7,hM,S,by rw[tk,mK,ak0 q0];exact ho,hv,by dsimp only;omega⟩
      ·dsimp only;omega
     ·refine T.aO (ab G G (ck G G G (ad ?_)));refine bI G (λPx=>?_) (λPx=>?_)
      ·refine aN (ab G G (ab G G (Rg.zA G G G q0 (br G G G q0 (yh aj cZ G G (ab G G (Rg.zA G G G q0 (Rg.zB G G G q0 (br G G G q0 (yh aj cZ G G (ab G G ?_)))))))))));refine Rg.zB G G G q0 (br G G G q0 (yh aj cZ G G ?_));refine Rg.Ub (A:=RT.u8) (hn:=by decide) (M:=M1) (xs:=[(224+ud c/4096).toNat.toUInt8,(128+ud c/64%64).toNat.toUInt8,(128+ud c%64).toNat.toUInt8]) bW I5 G XT G ⟨_,_,_,G,G,G,tc q0,_,_,_,G,G,G,tc q0,_,_,_,G,G,G,tc q0,G⟩ G hM (.inr ⟨G,G⟩) XT (λak8 ak9 D1 D3=>?_);replace hv:=hv.le D3.le;replace ho:=ho.bD D3;replace hM:=D3.lt hM;have:=S.size;replace S:=S.av D3;refine dA (M:=M1) (base:=w0.heap.size) bW I5 G G G G ho D1 b4 a47 a47 (S.size) (λY8 Y9 ala UN D4=>?_);replace hv:=hv.le D4.le;replace D1:=D1.le D4.le;replace hM:=D4.lt hM;have:=S.size;replace S:=S.eg D4 ho (aX _);replace ho:=UN;refine Rg.aZ G G (aN (ab G G (br G G G q0 (Rg.aZ G G ?_))));refine⟨G,(k+1,Y8),a07,?_,?_⟩
       ·exact⟨Y9,hM,S,by rw[tk,mK,ak1 q0 hsc];exact ho,hv,by dsimp only;omega⟩
       ·dsimp only;omega
      ·refine aN (ab G G (ab G G (Rg.zA G G G q0 (br G G G q0 (yh aj cZ G G (ab G G (Rg.zA G G G q0 (Rg.zB G G G q0 (br G G G q0 (yh aj cZ G G (ab G G ?_)))))))))));refine Rg.zA G G G q0 (Rg.zB G G G q0 (br G G G q0 (yh aj cZ G G (ab G G (Rg.zB G G G q0 (br G G G q0 (yh aj cZ G G ?_)))))));refine Rg.Ub (A:=RT.u8) (hn:=by decide) (M:=M1) (xs:=[(240+ud c/262144).toNat.toUInt8,(128+ud c/4096%64).toNat.toUInt8,(128+ud c/64%64).toNat.toUInt8,(128+ud c%64).toNat.toUInt8]) bW I5 G XT G ⟨_,_,_,G,G,G,tc q0,_,_,_,G,G,G,tc q0,_,_,_,G,G,G,tc q0,_,_,_,G,G,G,tc q0,G⟩ G hM (.inr ⟨G,G⟩) XT (λalb alc D5 D6=>?_);replace hv:=hv.le D6.le;replace ho:=ho.bD D6;replace hM:=D6.lt hM;have:=S.size;replace S:=S.av D6;refine dA (M:=M1) (base:=w0.heap.size) bW I5 G G G G ho D5 b4 a47 a47 (S.size) (λZa Zb ald UO D7=>?_);replace hv:=hv.le D7.le;replace D5:=D5.le D7.le;replace hM:=D7.lt hM;have:=S.size;replace S:=S.eg D7 ho (aX _);replace ho:=UO;refine Rg.aZ G G (aN (ab G G (br G G G q0 (Rg.aZ G G ?_))));refine⟨G,(k+1,Za),a07,?_,?_⟩
       ·exact⟨Zb,hM,S,by rw[tk,mK,ak2 q0];exact ho,hv,by dsimp only;omega⟩
       ·dsimp only;omega
  ·refine cE (T.aO (ab G G (Rg.b2s (hn:=by decide) (M:=M) bW cZ aG G G (ho.close iz S (by have:=gP (xs.take k);rw[bF]at this;omega)) b4 (Rg.aZ rfl rfl (aM ?_)))));have e:xs.take k=xs:=bg q0;rw[e];exact aP G G ⟨G,S.back⟩
theorem IX {M:aE} {l:List UInt8} (w0:World) (hM:Lt M w0) (hl:l.length<=4000000):
  Spec Tryz.prog 244 #[.string ⟨l.toArray⟩] w0 (λv w=>((RT.int .i64).sl).V M w (fM l) v/\Step M w0 M w ar):=by
 have iz:=hM;refine aS (args:=[_]) (fn:=Tryz.f244) Tryz.func244 G (n:=17) Tryz.ntmps244 ?_;have S:Step M w0 M w0 ar:=aV;refine T.aO (Rg.aZ G G (T.aO (Rg.aZ G G (aI (T.aO (ab G G ?_))))));refine Rg.Pm M aG G G (λPy au4 au5 au6 ale Zc=>?_);obtain⟨WM,Pz⟩:∃M',M'=ins M Py:=⟨_,rfl⟩;rw[<-Pz]at Zc;have Zd:WM Py:=by rw[Pz];exact .inl G
 replace hM:=Zc.lt hM;have:=S.size;replace S:=S.av Zc;refine ad (aT ?_);refine cR (σ:=Nat×List Int×Value) (λq=>[(3,q.2.2),(7,.pointer (some ⟨Py,0,none⟩))]) (λq w=>∃M',Lt M' w/\Step M w0 M' w ar/\w.heap[Py]? =some (.stringIter ⟨l.toArray⟩ q.1)/\M' Py/\Own (RT.int .i64) 3 M' w w0.heap.size q.2.2 q.2.1/\fM l=q.2.1++fM (l.drop q.1)/\q.1<=l.length) (λq=>l.length-q.1) (0,[],.slice none 0 0) ac2 ?_ ?_
 ·exact⟨WM,hM,S,ale,Zd,eE _ _ _ _ _,by simp,by simp⟩
 ·rintro⟨p,xs,u⟩ w ⟨M1,hM,S,g,CV,ho,DZ,hp⟩;dsimp only at g ho DZ hp ⊢;refine T.aO ?_;refine Rg.UC (M:=M1) G g CV G (λalf au7 alg PA=>?_) (λalf=>?_)
  ·have:=ae g;replace CV:=(PA.mem _ this).2 CV;replace ho:=ho.step PA (λb hb hk=>ho.eT g (hk▸hb));replace hM:=PA.lt hM;have:=S.size;replace S:=S.trans PA (λk hk h=>by have h:_=_:=h;subst h;first|(exfalso;omega)|(show _<=_;omega)|exact⟨by first|omega|assumption,(S.mem _ hk).1 ((PA.mem _ (ae g)).1 CV)⟩|exact .inl rfl|exact .inr rfl|exact .inr (.inl rfl)|exact .inr (.inr rfl)|exact .inr (.inr (.inl rfl))|exact rfl);have g_:=alg;clear g;have g:=g_;clear g_;refine b9 G G G (ad (aI (lh G (aR (aT (T.aO (b9 G G G (Rg.aZ G G (aN ?_)))))))));refine ab G G (ab G G (Rg.tF Tryz.underlying21 aj G G (by have:=xq (l.drop p);omega) ?_));refine fm (A:=RT.int .i64) (hn:=by decide) (M:=M1) ao I3 XT G G hM (iG (by have:=xq (l.drop p);omega)) (.inr ⟨rfl,rfl⟩) (λalh ad2 KP yR=>?_);have:=ae g;replace CV:=(yR.mem _ this).2 CV;replace g:=yR.ay g;replace ho:=ho.bD yR;replace hM:=yR.lt hM;have:=S.size;replace S:=S.av yR;refine dA (M:=M1) (base:=w0.heap.size) ao I3 rfl rfl rfl rfl ho KP b4 ad5 ad5 (S.size) (λali alj au8 ad3 PB=>?_);have:=ae g;replace CV:=(PB.mem _ this).2 CV;replace g:=PB.bL g (λh=>by first|exact ho.eT g h|exact ho.fk g XT h|(have:=(ho.base _ h).1;omega));replace KP:=KP.le PB.le;replace hM:=PB.lt hM;have:=S.size;replace S:=S.eg PB ho (aX _);replace ho:=ad3;refine Rg.aZ G G ?_;have fw:l.drop p≠[]:=by intro h;have:=congrArg List.length h;simp at this;omega
   refine⟨G,(p+(dec (l.drop p)).2,xs++[((dec (l.drop p)).1:Int)],ali),ac2,?_,?_⟩
   ·refine⟨alj,hM,S,g,CV,ho,?_,?_⟩
    ·rw[DZ,pE fw,List.drop_drop];simp
    ·have:=(l5 fw).2;rw[dR]at this;dsimp only;omega
   ·have:=(l5 fw).1;have:=(l5 fw).2;rw[dR]at this;dsimp only;omega
  ·refine b9 G G G (ad (aI (gy G (cE (T.aO (ab G G (Rg.aZ G G (aM ?_))))))));have e:fM l=xs:=by rw[DZ,lI q0,rR];simp
   rw[e];have:=jf l;rw[e]at this;exact aP G G ⟨ho.close iz S q0,S.back⟩
def fU (p:List Int×List (List UInt8)) (c:Int):List Int×List (List UInt8):=
 if gu c=true\/nU c=true then(p.1++[gm c],p.2)else if 0<p.1.length then([],p.2++[kg p.1])else([],p.2)
structure PC (M:aE) (w:World) (B bo bs:Nat) (p:List Int×List (List UInt8)):Prop where
 a:∃u,w.heap[bo]? =some (.cells #[u] 61 (0,0))/\Own (RT.int .i64) 3 M w B u p.1
 b:∃u,w.heap[bs]? =some (.cells #[u] 25 (0,0))/\Own RT.str 9 M w B u p.2
 m:M bo/\M bs/\B<=bo/\B<=bs
theorem ri {c:Int} (h:gu c=true\/nU c=true):0<=c/\c<=1114111:=by
 simp only[gu,nU,decide_eq_true_eq]at h;omega
theorem Ao {M:aE} {B bo bs:Nat} {p:List Int×List (List UInt8)} (w0:World) (hM:Lt M w0) (c:Int) (ht:PC M w0 B bo bs p) (hl:p.1.length<=4000000/\p.2.length<=4000000):
  Spec Tryz.prog 239 #[.int .i64 c,.pointer (some ⟨bo,0,none⟩),.pointer (some ⟨bs,0,none⟩)] w0 (λv w=>∃M',Lt M' w/\PC M' w B bo bs (fU p c)/\Step M w0 M' w (lX M B)):=by
 obtain⟨⟨uo,go,ho⟩,⟨us,gs,hs⟩,iv,je,hBo,hBs⟩:=ht;obtain⟨own,out⟩:=p;dsimp only at ho hs hl ⊢;have fw:bo≠bs:=λe=>by subst e;rw[go]at gs;cases gs
 refine aS (args:=[_,_,_]) (fn:=Tryz.f239) Tryz.func239 G (n:=23) Tryz.ntmps239 ?_;have S:Step M w0 M w0 (lX M B):=(aV).dF a15 (λ_ h=>h.2);refine aI (T.aO (ab G G ?_));refine aJ G G akn (FY _ _) (λr wc hc=>?_);obtain⟨rfl,rfl⟩:=hc;refine aY (v':= .bool (decide (gu c=true))) (by cases gu c<;>rfl) (ab rfl rfl ?_);refine aW (g:=6) G (λalk=>?_) (λalk=>?_)
 ·refine ak G G G G (ak G G G G (a8 G G G (ad (lh G (aI ?_)))));apply T.qa 2 [0] 2 ar mixed rfl rfl rfl rfl;intro MI PD;have mM:=PD M;have:=ae go;replace iv:=(mM.mem _ this).2 iv;replace go:=mM.ay go;have:=ae gs;replace je:=(mM.mem _ this).2 je;replace gs:=mM.ay gs;replace ho:=ho.bD mM;replace hs:=hs.bD mM;replace hM:=mM.lt hM;have:=S.size;replace S:=S.av mM;refine aA ao G G G (by first|assumption|exact cg mM a00) G (Rg.cI (ab G G (Rg.cI (fB (⟨ik ⟨eO G a00 a30,trivial⟩,?_⟩)))));have kp:=iR ar MI;have IY:gu c=true\/nU c=true:=by first|exact .inl a00|exact .inr a00
  refine aJ G G adA (CT c _ (ri IY)) (λr wc hc=>?_);obtain⟨rfl,rfl⟩:=hc;refine(fun(kp:fa _ _ _)=>ad ⟨G,G,λ_=>kp,?_⟩) a03;refine fm (A:=RT.int .i64) (hn:=by decide) (M:=M) ao I3 XT G G hM (iG (by have:=ri IY;unfold gm;split<;>omega)) (.inr ⟨rfl,rfl⟩) (λUP BY kH s1_3=>?_);have:=ae go;replace iv:=(s1_3.mem _ this).2 iv;replace go:=s1_3.ay go;have:=ae gs;replace je:=(s1_3.mem _ this).2 je;replace gs:=s1_3.ay gs;replace ho:=ho.bD s1_3;replace hs:=hs.bD s1_3;replace hM:=s1_3.lt hM;have:=S.size;replace S:=S.av s1_3;refine(fun(kp:fa _ _ _)=>ad ⟨G,G,λ_=>kp,?_⟩) a03;refine dA (M:=M) (base:=B) ao I3 rfl rfl rfl rfl ho kH b4 a13 a13 (by have:=ae go;omega) (λZe PE Pj PF jJ=>?_);have:=ae go;replace iv:=(jJ.mem _ this).2 iv;replace go:=jJ.bL go (λh=>by first|exact ho.eT go h|exact ho.fk go XT h|(have:=(ho.base _ h).1;omega));have:=ae gs;replace je:=(jJ.mem _ this).2 je;replace gs:=jJ.bL gs (λh=>by first|exact ho.eT gs h|exact ho.fk gs XT h|(have:=(ho.base _ h).1;omega));replace kH:=kH.le jJ.le;replace hs:=hs.step jJ (λb h1 h2=>hs.jE ho XT h1 h2);replace hM:=jJ.lt hM;have:=S.size;replace S:=S.trans jJ (λb hb h=>⟨(ho.base b h).1,(S.mem b hb).1 (ho.mut_ b h)⟩);replace ho:=PF;refine ad ⟨G,G,λh=>absurd G h,?_⟩;refine ch (M:=PE) l4 rfl rfl go rfl (a84) iv (λZf j8 pG=>?_);change Zf.heap[_]? =some (Obj.cells #[Ze] _ _)at j8
  have:=ae go;replace iv:=(pG.mem _ this).2 iv;have:=ae gs;replace je:=(pG.mem _ this).2 je;replace gs:=pG.bL gs a05;replace kH:=kH.le pG.le;replace ho:=ho.step pG (λb hb hk=>by have hk:b=_:=hk;subst hk;first|exact absurd hb (ho.fk go XT)|exact absurd hb (ho.fk gs XT));replace hs:=hs.step pG (λb hb hk=>by have hk:b=_:=hk;subst hk;first|exact absurd hb (hs.fk go XT)|exact absurd hb (hs.fk gs XT));replace hM:=pG.lt hM;have:=S.size;replace S:=S.trans pG (λk hk h=>by have h:_=_:=h;subst h;first|(exfalso;omega)|(show _<=_;omega)|exact⟨by first|omega|assumption,(S.mem _ hk).1 ((pG.mem _ (ae go)).1 iv)⟩|exact .inl rfl|exact .inr rfl|exact .inr (.inl rfl)|exact .inr (.inr rfl)|exact .inr (.inr (.inl rfl))|exact rfl);have PG:=j8;clear go;have go:=PG;clear PG;refine ad ⟨G,G,λh=>absurd G h,lH (aM ?_)⟩;rw[show fU (own,out) c=(own++[gm c],out)from if_pos IY];exact Cs G ⟨PE,hM,⟨⟨_,go,ho⟩,⟨_,gs,hs⟩,iv,je,hBo,hBs⟩,S⟩
 ·refine ah G G (ab G G (ah G G ?_));refine aJ G G ako (IM _ _) (λr wc hc=>?_);obtain⟨rfl,rfl⟩:=hc;refine aY (v':= .bool (decide (nU c=true))) (by cases nU c<;>rfl) (aD rfl rfl rfl (ad ?_));refine bI G (λc0=>?_) (λc0=>?_)
  ·refine aI ?_;apply T.qa 2 [0] 2 ar mixed rfl rfl rfl rfl;intro MI PD;have mM:=PD M;have:=ae go;replace iv:=(mM.mem _ this).2 iv;replace go:=mM.ay go;have:=ae gs;replace je:=(mM.mem _ this).2 je;replace gs:=mM.ay gs;replace ho:=ho.bD mM;replace hs:=hs.bD mM;replace hM:=mM.lt hM;have:=S.size;replace S:=S.av mM;refine aA ao G G G (by first|assumption|exact cg mM a00) G (Rg.cI (ab G G (Rg.cI (fB (⟨ik ⟨eO G a00 a30,trivial⟩,?_⟩)))));have kp:=iR ar MI;have IY:gu c=true\/nU c=true:=by first|exact .inl a00|exact .inr a00
   refine aJ G G adA (CT c _ (ri IY)) (λr wc hc=>?_);obtain⟨rfl,rfl⟩:=hc;refine(fun(kp:fa _ _ _)=>ad ⟨G,G,λ_=>kp,?_⟩) a03;refine fm (A:=RT.int .i64) (hn:=by decide) (M:=M) ao I3 XT G G hM (iG (by have:=ri IY;unfold gm;split<;>omega)) (.inr ⟨rfl,rfl⟩) (λUP BY kH s1_3=>?_);have:=ae go;replace iv:=(s1_3.mem _ this).2 iv;replace go:=s1_3.ay go;have:=ae gs;replace je:=(s1_3.mem _ this).2 je;replace gs:=s1_3.ay gs;replace ho:=ho.bD s1_3;replace hs:=hs.bD s1_3;replace hM:=s1_3.lt hM;have:=S.size;replace S:=S.av s1_3;refine(fun(kp:fa _ _ _)=>ad ⟨G,G,λ_=>kp,?_⟩) a03;refine dA (M:=M) (base:=B) ao I3 rfl rfl rfl rfl ho kH b4 a13 a13 (by have:=ae go;omega) (λZe PE Pj PF jJ=>?_);have:=ae go;replace iv:=(jJ.mem _ this).2 iv;replace go:=jJ.bL go (λh=>by first|exact ho.eT go h|exact ho.fk go XT h|(have:=(ho.base _ h).1;omega));have:=ae gs;replace je:=(jJ.mem _ this).2 je;replace gs:=jJ.bL gs (λh=>by first|exact ho.eT gs h|exact ho.fk gs XT h|(have:=(ho.base _ h).1;omega));replace kH:=kH.le jJ.le;replace hs:=hs.step jJ (λb h1 h2=>hs.jE ho XT h1 h2);replace hM:=jJ.lt hM;have:=S.size;replace S:=S.trans jJ (λb hb h=>⟨(ho.base b h).1,(S.mem b hb).1 (ho.mut_ b h)⟩);replace ho:=PF;refine ad ⟨G,G,λh=>absurd G h,?_⟩;refine ch (M:=PE) l4 rfl rfl go rfl (a84) iv (λZf j8 pG=>?_);change Zf.heap[_]? =some (Obj.cells #[Ze] _ _)at j8
   have:=ae go;replace iv:=(pG.mem _ this).2 iv;have:=ae gs;replace je:=(pG.mem _ this).2 je;replace gs:=pG.bL gs a05;replace kH:=kH.le pG.le;replace ho:=ho.step pG (λb hb hk=>by have hk:b=_:=hk;subst hk;first|exact absurd hb (ho.fk go XT)|exact absurd hb (ho.fk gs XT));replace hs:=hs.step pG (λb hb hk=>by have hk:b=_:=hk;subst hk;first|exact absurd hb (hs.fk go XT)|exact absurd hb (hs.fk gs XT));replace hM:=pG.lt hM;have:=S.size;replace S:=S.trans pG (λk hk h=>by have h:_=_:=h;subst h;first|(exfalso;omega)|(show _<=_;omega)|exact⟨by first|omega|assumption,(S.mem _ hk).1 ((pG.mem _ (ae go)).1 iv)⟩|exact .inl rfl|exact .inr rfl|exact .inr (.inl rfl)|exact .inr (.inr rfl)|exact .inr (.inr (.inl rfl))|exact rfl);have PG:=j8;clear go;have go:=PG;clear PG;refine ad ⟨G,G,λh=>absurd G h,lH (aM ?_)⟩;rw[show fU (own,out) c=(own++[gm c],out)from if_pos IY];exact Cs G ⟨PE,hM,⟨⟨_,go,ho⟩,⟨_,gs,hs⟩,iv,je,hBo,hBs⟩,S⟩
  ·refine aR (aI (T.aO (aA ao G G G a00 G (jQ ao G ho G (il G G G (ad ?_))))));refine bI G (λc2=>?_) (λc2=>?_)
   ·apply T.qa 2 [0] 2 ar mixed rfl rfl rfl rfl;intro wD3 sA3;have qt:=sA3 M;have:=ae go;replace iv:=(qt.mem _ this).2 iv;replace go:=qt.ay go;have:=ae gs;replace je:=(qt.mem _ this).2 je;replace gs:=qt.ay gs;replace ho:=ho.bD qt;replace hs:=hs.bD qt;replace hM:=qt.lt hM;have:=S.size;replace S:=S.av qt;refine aA aQ G G G (by first|assumption|exact cg qt a00) G (Rg.cI (aA ao G G G (by first|assumption|exact cg qt a00) G (Rg.cI (fB (⟨ik ⟨eO G a00 a30,trivial⟩,?_⟩)))));have kp:=iR ar wD3;refine aJ G G akp (ME (M:=rm M uo) _ (λb hb=>hM b hb.1) (ho.view q0) q0) (λr3 w3 hc=>?_);obtain⟨rfl,s3⟩:=hc;replace s3:=s3.any M;have:=ae go;replace iv:=(s3.mem _ this).2 iv;replace go:=s3.ay go;have:=ae gs;replace je:=(s3.mem _ this).2 je;replace gs:=s3.ay gs;replace ho:=ho.bD s3;replace hs:=hs.bD s3;replace hM:=s3.lt hM;have:=S.size;replace S:=S.av s3;refine(fun(kp:fa _ _ _)=>ad ⟨G,G,λ_=>kp,?_⟩) a03;refine fm (A:=RT.str) (hn:=by decide) (M:=M) aQ I9 XT G G hM (mj.2 ⟨G,by have:=gP own;omega⟩) (.inr ⟨rfl,rfl⟩) (λau9 ava Ap F4=>?_);have:=ae go;replace iv:=(F4.mem _ this).2 iv;replace go:=F4.ay go;have:=ae gs;replace je:=(F4.mem _ this).2 je;replace gs:=F4.ay gs;replace ho:=ho.bD F4;replace hs:=hs.bD F4;replace hM:=F4.lt hM;have:=S.size;replace S:=S.av F4;refine(fun(kp:fa _ _ _)=>ad ⟨G,G,λ_=>kp,?_⟩) a03
    refine dA (M:=M) (base:=B) aQ I9 rfl rfl rfl rfl hs Ap b4 a13 a13 (by have:=ae go;omega) (λZg ad6 ad7 ad8 pH=>?_);have:=ae go;replace iv:=(pH.mem _ this).2 iv;replace go:=pH.bL go (λh=>by first|exact hs.eT go h|exact hs.fk go XT h|(have:=(hs.base _ h).1;omega));have:=ae gs;replace je:=(pH.mem _ this).2 je;replace gs:=pH.bL gs (λh=>by first|exact hs.eT gs h|exact hs.fk gs XT h|(have:=(hs.base _ h).1;omega));replace Ap:=Ap.le pH.le;replace ho:=ho.step pH (λb h1 h2=>ho.jE hs XT h1 h2);replace hM:=pH.lt hM;have:=S.size;replace S:=S.trans pH (λb hb h=>⟨(hs.base b h).1,(S.mem b hb).1 (hs.mut_ b h)⟩);replace hs:=ad8;refine ad ⟨G,G,λh=>absurd G h,?_⟩;refine ch (M:=ad6) BW rfl rfl gs rfl ((by obtain⟨_,_,he,_⟩:=hs.isSlice;rw[he];rfl)) je (λYK Uy xp=>?_);change YK.heap[_]? =some (Obj.cells #[Zg] _ _)at Uy;have:=ae go;replace iv:=(xp.mem _ this).2 iv;replace go:=xp.bL go a05;have:=ae gs;replace je:=(xp.mem _ this).2 je;replace Ap:=Ap.le xp.le;replace ho:=ho.step xp (λb hb hk=>by have hk:b=_:=hk;subst hk;first|exact absurd hb (ho.fk go XT)|exact absurd hb (ho.fk gs XT));replace hs:=hs.step xp (λb hb hk=>by have hk:b=_:=hk;subst hk;first|exact absurd hb (hs.fk go XT)|exact absurd hb (hs.fk gs XT));replace hM:=xp.lt hM;have:=S.size;replace S:=S.trans xp (λk hk h=>by have h:_=_:=h;subst h;first|(exfalso;omega)|(show _<=_;omega)|exact⟨by first|omega|assumption,(S.mem _ hk).1 ((xp.mem _ (ae gs)).1 je)⟩|exact .inl rfl|exact .inr rfl|exact .inr (.inl rfl)|exact .inr (.inr rfl)|exact .inr (.inr (.inl rfl))|exact rfl);have gs_:=Uy;clear gs;have gs:=gs_;clear gs_;refine ad ⟨G,G,λh=>absurd G h,lH (aN ?_)⟩;refine ch (M:=ad6) l4 G G go G (G) iv (λIE pB j7=>?_)
    change IE.heap[_]? =some (Obj.cells #[.slice none 0 0] _ _)at pB;have:=ae go;replace iv:=(j7.mem _ this).2 iv;have:=ae gs;replace je:=(j7.mem _ this).2 je;replace gs:=j7.bL gs a05;replace Ap:=Ap.le j7.le;replace ho:=ho.step j7 (λb hb hk=>by have hk:b=_:=hk;subst hk;first|exact absurd hb (ho.fk go XT)|exact absurd hb (ho.fk gs XT));replace hs:=hs.step j7 (λb hb hk=>by have hk:b=_:=hk;subst hk;first|exact absurd hb (hs.fk go XT)|exact absurd hb (hs.fk gs XT));replace hM:=j7.lt hM;have:=S.size;replace S:=S.trans j7 (λk hk h=>by have h:_=_:=h;subst h;first|(exfalso;omega)|(show _<=_;omega)|exact⟨by first|omega|assumption,(S.mem _ hk).1 ((j7.mem _ (ae go)).1 iv)⟩|exact .inl rfl|exact .inr rfl|exact .inr (.inl rfl)|exact .inr (.inr rfl)|exact .inr (.inr (.inl rfl))|exact rfl);have PG:=pB;clear go;have go:=PG;clear PG;refine ad ?_
    first|refine iA.nil ?_|simp+decide only[wY,mi,if_true,if_false]|skip
    have hnl: ¬(gu c=true\/nU c=true):=by rintro(h|h)<;>exact absurd h a00
    first
    |rw[show fU (own,out) c=([],out++[kg own])from(if_neg hnl).trans (if_pos (by show 0<own.length;omega))]
     exact a92
    |rw[show fU (own,out) c=([],out)from(if_neg hnl).trans (if_neg (by show¬0<own.length;omega))]
     exact a92
   ·refine aR (aN ?_);refine ch (M:=M) l4 G G go G (G) iv (λIE pB j7=>?_);change IE.heap[_]? =some (Obj.cells #[.slice none 0 0] _ _)at pB;have:=ae go;replace iv:=(j7.mem _ this).2 iv;have:=ae gs;replace je:=(j7.mem _ this).2 je;replace gs:=j7.bL gs a05;replace ho:=ho.step j7 (λb hb hk=>by have hk:b=_:=hk;subst hk;first|exact absurd hb (ho.fk go XT)|exact absurd hb (ho.fk gs XT));replace hs:=hs.step j7 (λb hb hk=>by have hk:b=_:=hk;subst hk;first|exact absurd hb (hs.fk go XT)|exact absurd hb (hs.fk gs XT));replace hM:=j7.lt hM;have:=S.size;replace S:=S.trans j7 (λk hk h=>by have h:_=_:=h;subst h;first|(exfalso;omega)|(show _<=_;omega)|exact⟨by first|omega|assumption,(S.mem _ hk).1 ((j7.mem _ (ae go)).1 iv)⟩|exact .inl rfl|exact .inr rfl|exact .inr (.inl rfl)|exact .inr (.inr rfl)|exact .inr (.inr (.inl rfl))|exact rfl);have PG:=pB;clear go;have go:=PG;clear PG;refine ad ?_
    first|refine iA.nil ?_|simp+decide only[wY,mi,if_true,if_false]|skip
    have hnl: ¬(gu c=true\/nU c=true):=by rintro(h|h)<;>exact absurd h a00
    first
    |rw[show fU (own,out) c=([],out++[kg own])from(if_neg hnl).trans (if_pos (by show 0<own.length;omega))]
     exact a92
    |rw[show fU (own,out) c=([],out)from(if_neg hnl).trans (if_neg (by show¬0<own.length;omega))]
     exact a92
theorem oP (l:List Int):∀p,(l.foldl fU p).1.length<=p.1.length+l.length/\(l.foldl fU p).2.length<=p.2.length+l.length:=by
 induction l with
 |nil=>intro p;simp
 |cons c l ih=>
  intro p;have:=ih (fU p c)
  have h1:(fU p c).1.length<=p.1.length+1/\(fU p c).2.length<=p.2.length+1:=by
   unfold fU
   split
   ·simp
   ·split<;>simp
  simp only[List.foldl_cons,cy];omega
def words (l:List UInt8):List (List UInt8):=((fM l++[32]).foldl fU ([],[])).2
theorem l6 (l:List UInt8):(words l).length<=l.length+1:=by
 have h:=(oP (fM l++[32]) ([],[])).2;have h2:=jf l;rw[bU]at h;have h3:([]:List (List UInt8)).length=0:=rfl;have h4: [(32:Int)].length=1:=rfl;unfold words;simp only[h3,h4]at h;omega
theorem yy {M:aE} {l:List UInt8} (w0:World) (hM:Lt M w0) (hl:l.length<=3900000):
  Spec Tryz.prog 182 #[.string ⟨l.toArray⟩] w0 (λv w=>(RT.str.sl).V M w (words l) v/\Step M w0 M w ar):=by
 have iz:=hM;refine aS (args:=[_]) (fn:=Tryz.f182) Tryz.func182 G (n:=23) Tryz.ntmps182 ?_;have S:Step M w0 M w0 ar:=aV;refine T.aO (Rg.aZ G G (T.aO ?_));refine ek M BW G (λxz UQ alm aln pI yS=>?_);obtain⟨CW,Ar⟩:∃M',M'=ins M xz:=⟨_,rfl⟩;rw[<-Ar]at yS;have mN:CW xz:=by rw[Ar];exact .inl G
 change UQ.heap[xz]? =some (.cells #[.slice none 0 0] _ _)at pI;replace hM:=yS.lt hM;have:=S.size;replace S:=S.av yS;refine ad (T.aO ?_);refine ek CW l4 G (λgH Mv adI adJ oN sy=>?_);obtain⟨PH,As⟩:∃M',M'=ins CW gH:=⟨_,rfl⟩;rw[<-As]at sy;have Au:PH gH:=by rw[As];exact .inl G
 change Mv.heap[gH]? =some (.cells #[.slice none 0 0] _ _)at oN;have:=ae pI;replace mN:=(sy.mem _ this).2 mN;replace pI:=sy.ay pI;replace hM:=sy.lt hM;have:=S.size;replace S:=S.av sy;refine ad (T.aO (gz (xs:=[]) (ys:=[.tmp 4,.tmp 3]) G G G (Rg.aZ G G (aI (T.aO (ab G G ?_))))));refine aJ G G akq (IX _ hM q0) (λv4 w4 hc=>?_);obtain⟨DZ,s4⟩:=hc;have:=ae pI;replace mN:=(s4.mem _ this).2 mN;replace pI:=s4.ay pI;have:=ae oN;replace Au:=(s4.mem _ this).2 Au;replace oN:=s4.ay oN;replace hM:=s4.lt hM;have:=S.size;replace S:=S.av s4;refine bB ao G DZ G (ab G G (ad (aT ?_)));refine cR (σ:=Nat) (λk=>[(3,.pointer (some ⟨xz,0,none⟩)),(5,.func (.func 239) #[] #[.pointer (some ⟨gH,0,none⟩),.pointer (some ⟨xz,0,none⟩)]),(10,v4),(11,.int .i64 ((fM l).length:Int)),(12,.int .i64 (k:Int))]) (λk w=>∃M',Lt M' w/\Step M w0 M' w ar/\PC M' w w0.heap.size gH xz (((fM l).take k).foldl fU ([],[]))/\((RT.int .i64).sl).V M' w (fM l) v4/\k<=(fM l).length) (λk=>(fM l).length-k) 0 a34 ?_ ?_
 ·exact⟨_,hM,S,⟨⟨_,oN,eE _ _ _ _ _⟩,⟨_,pI,eE _ _ _ _ _⟩,Au,mN,by omega,by omega⟩,DZ,bm _⟩
 ·rintro k w ⟨M1,hM,S,ht,DZ,hk⟩;refine T.aO (ck G G G (ad (aI ?_)));refine bI G (λc5=>?_) (λc5=>?_)
  ·refine aR (aI (aT (T.aO ?_)));refine cx ao I3 G G G DZ b4 q0 (λu6 c H6 ue=>?_);refine bV aj G G ue b4 (λin6=>?_);refine Rg.aZ G G (aN (ab G G (ab G G ?_)));have tH:=jf l;have Oe:=oP ((fM l).take k) ([],[]);rw[bF]at Oe;refine ng (first:=[]) (captured:=[.pointer (some ⟨gH,0,none⟩),.pointer (some ⟨xz,0,none⟩)]) rfl rfl rfl adz (Ao (B:=w0.heap.size) _ hM c ht (by simp at Oe;omega)) (λr7 w7 hc=>?_);obtain⟨M2,Og,UR,s7⟩:=hc;have tk:(fM l).take (k+1)=(fM l).take k++[c]:=by rw[bQ];simp only[aq]at H6;rw[H6];rfl
   refine ad (aN (br G G G q0 (ab G G (ad ?_))));refine⟨G,k+1,a34,?_,?_⟩
   ·exact⟨M2,Og,S.mv s7 (aX _),by rw[tk,tz];exact UR,DZ.le s7.le,by omega⟩
   ·omega
  ·refine cE (T.aO (ab G G ?_));have tH:=jf l;have Oe:=oP ((fM l).take k) ([],[]);rw[bF]at Oe;refine ng (first:=[]) (captured:=[.pointer (some ⟨gH,0,none⟩),.pointer (some ⟨xz,0,none⟩)]) rfl rfl rfl adz (Ao (B:=w0.heap.size) _ hM 32 ht (by simp at Oe;omega)) (λr9 w9 hc=>?_);obtain⟨M2,Og,UR,s9⟩:=hc;have e9:fU (((fM l).take k).foldl fU ([],[])) 32=(fM l++[32]).foldl fU ([],[]):=by rw[tz,bg q0];rfl
   rw[e9]at UR;obtain⟨_,⟨us,gs,hs⟩,_⟩:=UR;replace S:=S.mv s9 (aX _);refine ad (T.aO (aA aQ G G G gs G (Rg.aZ G G (aM ?_))));exact aP G G ⟨Own.close iz S hs (by have:=l6 l;omega),S.back⟩
theorem Av {M:aE} {l:List UInt8} (w0:World) (hM:Lt M w0) (hl:l.length<=900000):Spec Tryz.prog 182 #[.string ⟨l.toArray⟩] w0 (λv w=>(RT.str.sl).V M w (words l) v/\Step M w0 M w ar):=yy w0 hM q0
theorem PI {p:List Int×List (List UInt8)} {c:Int} (h:zi c=true):fU p c=(p.1++[gm c],p.2):=if_pos (by simpa[zi]using h)
theorem rT {p:List Int×List (List UInt8)} {c:Int} (h:zi c=false):fU p c=if 0<p.1.length then([],p.2++[kg p.1])else([],p.2):=if_neg (by simpa[zi]using h)
def Oh (sg:List Int) (i:Nat) (ws:List (List UInt8)):Prop:=(i<=sg.length/\(sg.take i).foldl fU ([],[])=([],ws))\/(i=sg.length+1/\((sg++[32]).foldl fU ([],[])).2=ws)
theorem PJ {c:Int} (h:zi c=true):0<=c/\c<=1114111:=ri (by simpa[zi]using h)
theorem ad9:zi 32=false:=by decide
theorem xA {sg:List Int} {i:Nat} {c:Int} (h:sg[i]? =some c) (p:List Int×List (List UInt8)):(sg.take (i+1)).foldl fU p=fU ((sg.take i).foldl fU p) c:=by
 rw[bQ,h,cH,tz];rfl
theorem Oh.skip {sg:List Int} {i:Nat} {ws:List (List UInt8)} {c:Int} (h:Oh sg i ws) (hc:sg[i]? =some c) (hi:zi c=false):Oh sg (i+1) ws:=by
 have eZ:=(al.1 hc).1;rcases h with⟨_,h⟩|⟨h,_⟩
 ·exact .inl ⟨eZ,by rw[xA hc,h,rT hi];rfl⟩
 ·omega
theorem Oh.word {sg:List Int} {j:Nat} {own:List Int} {ws:List (List UInt8)} (h:(sg.take j).foldl fU ([],[])=(own,ws)) (ho:0<own.length) (hj:j<=sg.length) (hn:∀c,sg[j]? =some c->zi c=false):Oh sg (j+1) (ws++[kg own]):=by
 rcases qN hj with e|eZ
 ·refine .inr ⟨by omega,?_⟩;rw[e,List.take_length]at h;rw[tz,h];show(fU (own,ws) 32).2=_;rw[rT ad9,if_pos ho]
 ·have hc:sg[j]? =some sg[j]:=an eZ;exact .inl ⟨eZ,by rw[xA hc,h,rT (hn _ hc),if_pos ho]⟩
theorem Oh.done {sg:List Int} {i:Nat} {ws:List (List UInt8)} (h:Oh sg i ws) (hi:sg.length<=i):((sg++[32]).foldl fU ([],[])).2=ws:=by
 rcases h with⟨h1,h⟩|⟨_,h⟩
 ·rw[bg q0]at h;rw[tz,h];show(fU ([],ws) 32).2=_;rw[rT ad9];rfl
 ·exact h
theorem Oh.len {sg:List Int} {i:Nat} {ws:List (List UInt8)} (h:Oh sg i ws):ws.length<=sg.length+1:=by
 rcases h with⟨_,h⟩|⟨_,h⟩
 ·have:=(oP (sg.take i) ([],[])).2;rw[h,bF]at this;simp only[kc]at this;have e:(([]:List Int),([]:List (List UInt8))).2.length=0:=rfl;omega
 ·have:=(oP (sg++[32]) ([],[])).2;rw[h,bU]at this;have e:(([]:List Int),([]:List (List UInt8))).2.length=0:=rfl;have e2: [(32:Int)].length=1:=rfl;omega
theorem ij {sg:List Int} {j:Nat} {own:List Int} {ws:List (List UInt8)} (h:(sg.take j).foldl fU ([],[])=(own,ws)):own.length<=sg.length/\ws.length<=sg.length:=by
 have:=oP (sg.take j) ([],[]);rw[h,bF]at this;simp only[kc]at this;have e:(([]:List Int),([]:List (List UInt8))).1.length=0:=rfl;have e2:(([]:List Int),([]:List (List UInt8))).2.length=0:=rfl;omega
theorem yz {M:aE} {l:List UInt8} (w0:World) (hM:Lt M w0) (hl:l.length<=900000):
  Spec Tryz.prog 122 #[.string ⟨l.toArray⟩] w0 (λv w=>(RT.str.sl).V M w (words l) v/\Step M w0 M w ar):=by
 have iz:=hM;have tH:=jf l;refine aS (args:=[_]) (fn:=Tryz.f122) Tryz.func122 G (n:=50) Tryz.ntmps122 ?_;have S:Step M w0 M w0 ar:=aV;refine T.aO (Rg.aZ G G (T.aO (ab G G ?_)));refine aJ G G aj3 (F3 _ hM q0) (λv1 w1 hc=>?_);obtain⟨hv,s1⟩:=hc;replace hM:=s1.lt hM;have:=S.size;replace S:=S.av s1;refine Rg.aZ G G (T.aO (Rg.aZ G G (aI (T.aO (Rg.aZ G G (aT ?_))))));refine cR (σ:=Nat×Value) (λq=>[(3,v1),(4,q.2),(5,.int .i64 (q.1:Int))]) (λq w=>∃M' ws,Lt M' w/\Step M w0 M' w ar/\Own RT.str 9 M' w w0.heap.size q.2 ws/\((RT.int .i64).sl).V M' w (fM l) v1/\Oh (fM l) q.1 ws) (λq=>(fM l).length+1-q.1) (0,.slice none 0 0) a07 ?_ ?_
 ·exact⟨M,[],hM,S,eE _ _ _ _ _,hv,.inl ⟨bm _,G⟩⟩
 ·rintro⟨i,u4⟩ w ⟨M1,ws,hM,S,vC,hv,hwa⟩;dsimp only at vC hwa ⊢;refine aI (T.aO (ab G G (ab G G (bB ao G hv G (ck G G G (ad ?_))))));refine bI G (λc4=>?_) (λc4=>?_)
  ·refine aR (aI (aT (T.aO (ab G G (ab G G ?_)))));refine cx ao I3 G G G hv b4 q0 (λaeb c hgc huc=>?_);refine bV aj G G huc b4 (λinc=>?_);rw[aq]at hgc;refine aJ G G adv (F2 c _) (λr wc hc=>?_);obtain⟨rfl,rfl⟩:=hc;refine aY (v':= .bool (decide (zi c=true))) (by cases zi c<;>rfl) (Rg.aZ rfl rfl (aI (T.aO (ab rfl rfl (gM rfl rfl (aY (v':= .bool (decide (zi c=false))) (by cases zi c<;>rfl) (ad ?_)))))));refine bI G (λc7=>?_) (λc7=>?_)
   ·refine cE (aN (ab G G (br G G G q0 (Rg.aZ G G ?_))));refine⟨G,(i+1,u4),a07,?_,?_⟩
    ·exact⟨M1,ws,hM,S,vC,hv,hwa.skip hgc a00⟩
    ·dsimp only;omega
   ·refine aR (T.aO (Rg.aZ G G (aI (aT ?_))));refine cR (σ:=Nat×List Int×Value) (λq=>[(3,v1),(4,u4),(5,.int .i64 (q.1:Int)),(7,q.2.2)]) (λq w=>∃M',Lt M' w/\Step M w0 M' w ar/\Own RT.str 9 M' w w0.heap.size u4 ws/\Own (RT.int .i64) 3 M' w w0.heap.size q.2.2 q.2.1/\((RT.int .i64).sl).V M' w (fM l) v1/\((fM l).take q.1).foldl fU ([],[])=(q.2.1,ws)/\i<=q.1/\q.1<=(fM l).length/\(i<q.1->0<q.2.1.length)) (λq=>(fM l).length-q.1) (i,[],.slice none 0 0) a01 ?_ ?_
    ·have alo:((fM l).take i).foldl fU ([],[])=([],ws):=by
      rcases hwa with⟨_,h⟩|⟨h,_⟩
      ·exact h
      ·omega
     exact⟨M1,hM,S,vC,eE _ _ _ _ _,hv,alo,aX _,by dsimp only;omega,λh=>absurd h (ky _)⟩
    ·rintro⟨j,own,u7⟩ w ⟨M2,hM,S,vC,uK,hv,hf,Yr,wR,tJ⟩;dsimp only at uK hf Yr wR tJ ⊢;refine aI (T.aO (ab G G (ab G G (bB ao G hv G (ck G G G (ab G G ?_))))));refine aW (g:=27) G (λalp=>?_) (λalp=>?_)
     ·refine ah G G (ab G G (ah G G (ab G G (ah G G ?_))));refine cx ao I3 G G G hv b4 q0 (λavc d yA hud=>?_);refine ah G G ?_;refine bV aj G G hud b4 (λind=>?_);rw[aq]at yA;refine ah G G ?_;refine aJ G G adv (F2 d _) (λr wc hc=>?_);obtain⟨rfl,rfl⟩:=hc;refine aY (v':= .bool (decide (zi d=true))) (by cases zi d<;>rfl) (a8 rfl rfl rfl (ad ?_));refine bI G (λc9=>?_) (λc9=>?_)
      ·refine aR (aT (T.aO (ab G G (ab G G (ab G G ?_)))));refine cx ao I3 G G G hv b4 q0 (λaec e nk hue=>?_);refine bV aj G G hue b4 (λlN=>?_);rw[aq]at nk;have Zh:zi e=true:=by rw[yA]at nk;cases nk;assumption
       refine aJ G G akc (IT e _ (PJ Zh)) (λr wc hc=>?_);obtain⟨rfl,rfl⟩:=hc;refine fm (A:=RT.int .i64) (hn:=by decide) (M:=M2) ao I3 XT G G hM (iG (by have:=PJ Zh;unfold gm;split<;>omega)) (.inr ⟨rfl,rfl⟩) (λaqT aqU IZ F5=>?_);replace hv:=hv.le F5.le;replace vC:=vC.bD F5;replace uK:=uK.bD F5;replace hM:=F5.lt hM;have:=S.size;replace S:=S.av F5;refine dA (M:=M2) (base:=w0.heap.size) ao I3 G G G G uK IZ b4 ai1 ai1 (S.size) (λWN aed aee Zi qc=>?_);replace hv:=hv.le qc.le;replace IZ:=IZ.le qc.le;replace vC:=vC.step qc (λb h1 h2=>vC.jE uK XT h1 h2);replace hM:=qc.lt hM;have:=S.size;replace S:=S.eg qc uK (aX _);replace uK:=Zi;refine Rg.aZ G G (aN (ab G G (br G G G q0 (Rg.aZ G G ?_))));refine⟨G,(j+1,own++[gm e],WN),a01,?_,?_⟩
       ·exact⟨aed,hM,S,vC,uK,hv,by rw[xA nk,hf,PI Zh],by dsimp only;omega,by dsimp only;omega,λ_=>by simp⟩
       ·dsimp only;omega
      ·refine cE (aN (ab G G (ab G G ?_)));refine aJ G G ady (An (M:=rm M2 u7) _ (λb hb=>hM b hb.1) (uK.view (by have:=ij hf;omega)) (by have:=ij hf;omega)) (λr12 H7 PK=>?_);obtain⟨rfl,jM⟩:=PK;replace jM:=jM.any M2;replace hv:=hv.le jM.le;replace vC:=vC.bD jM;replace uK:=uK.bD jM;replace hM:=jM.lt hM;have:=S.size;replace S:=S.av jM;refine fm (A:=RT.str) (hn:=by decide) (M:=M2) aQ I9 XT G G hM (mj.2 ⟨G,by have:=gP own;have:=ij hf;omega⟩) (.inr ⟨rfl,rfl⟩) (λaef aeg ug rl=>?_);replace hv:=hv.le rl.le;replace vC:=vC.bD rl;replace uK:=uK.bD rl;replace hM:=rl.lt hM;have:=S.size;replace S:=S.av rl;refine dA (M:=M2) (base:=w0.heap.size) aQ I9 G G G G vC ug b4 ai1 ai1 (S.size) (λAw rn PL uh fE=>?_);replace hv:=hv.le fE.le;replace ug:=ug.le fE.le;replace uK:=uK.step fE (λb h1 h2=>uK.jE vC XT h1 h2);replace hM:=fE.lt hM;have:=S.size;replace S:=S.eg fE vC (aX _);replace vC:=uh;refine Rg.aZ G G (aN (ab G G (br G G G q0 (Rg.aZ G G ?_))))
       have tJ:0<own.length:=by
        rcases qN Yr with e|h
        ·exfalso;subst e
         first|omega|(rw[hgc]at yA;cases yA;exact c9 (by cases hq:zi c with|true=>rfl|false=>exact absurd hq a00))
        ·exact tJ h
       have MJ:∀c,(fM l)[j]? =some c->zi c=false:=λc hc=>by
        first|(rw[dr q0]at hc;cases hc)|(rw[yA]at hc;cases hc;exact fj.2 c9)
       refine⟨G,(j+1,Aw),a07,?_,?_⟩
       ·exact⟨rn,_,hM,S,vC,hv,Oh.word hf tJ wR MJ⟩
       ·dsimp only;omega
     ·refine ak G G G G (ak G G G G (ak G G G G (ak G G G G (ak G G G G (aD G G G (ad (gy G (cE (aN (ab G G (ab G G ?_)))))))))));refine aJ G G ady (An (M:=rm M2 u7) _ (λb hb=>hM b hb.1) (uK.view (by have:=ij hf;omega)) (by have:=ij hf;omega)) (λr12 H7 PK=>?_);obtain⟨rfl,jM⟩:=PK;replace jM:=jM.any M2;replace hv:=hv.le jM.le;replace vC:=vC.bD jM;replace uK:=uK.bD jM;replace hM:=jM.lt hM;have:=S.size;replace S:=S.av jM;refine fm (A:=RT.str) (hn:=by decide) (M:=M2) aQ I9 XT G G hM (mj.2 ⟨G,by have:=gP own;have:=ij hf;omega⟩) (.inr ⟨rfl,rfl⟩) (λaef aeg ug rl=>?_);replace hv:=hv.le rl.le;replace vC:=vC.bD rl;replace uK:=uK.bD rl;replace hM:=rl.lt hM;have:=S.size;replace S:=S.av rl;refine dA (M:=M2) (base:=w0.heap.size) aQ I9 G G G G vC ug b4 ai1 ai1 (S.size) (λAw rn PL uh fE=>?_);replace hv:=hv.le fE.le;replace ug:=ug.le fE.le;replace uK:=uK.step fE (λb h1 h2=>uK.jE vC XT h1 h2);replace hM:=fE.lt hM;have:=S.size;replace S:=S.eg fE vC (aX _);replace vC:=uh;refine Rg.aZ G G (aN (ab G G (br G G G q0 (Rg.aZ G G ?_))))
      have tJ:0<own.length:=by
       rcases qN Yr with e|h
       ·exfalso;subst e
        first|omega|(rw[hgc]at yA;cases yA;exact c9 (by cases hq:zi c with|true=>rfl|false=>exact absurd hq a00))
       ·exact tJ h
      have MJ:∀c,(fM l)[j]? =some c->zi c=false:=λc hc=>by
       first|(rw[dr q0]at hc;cases hc)|(rw[yA]at hc;cases hc;exact fj.2 c9)
      refine⟨G,(j+1,Aw),a07,?_,?_⟩
      ·exact⟨rn,_,hM,S,vC,hv,Oh.word hf tJ wR MJ⟩
      ·dsimp only;omega
  ·refine cE (T.aO (ab G G (Rg.aZ G G (aM ?_))));have e:=hwa.done q0;have e2:words l=ws:=e;rw[e2];exact aP G G ⟨vC.close iz S (by have:=hwa.len;omega),S.back⟩
end Go.K

/- What the law 'EraseUpto' needs of walks and plain Lean, part 2: nothing is assumed beyond the texts that it imports. -/
import Derived.ChangeKeysEq
import Derived.Ground.Names2Prog
import Derived.KernelRfl
import Derived.Laws.IdiomCopy
import Derived.Laws.MakeOwn
import Derived.Laws.StructEq
import Derived.Lib.RuneBytes
import Derived.Lib.SliceRun
import Derived.Maps.OwnSet
import Derived.Shelf.SlGeneric
import Derived.Shelf.Slices.SearchI
import Derived.Shelf.Small.Strs
import Derived.Shelf.Small.Utf8
import Derived.Shelf.Strings.Builder1
import Derived.Shelf.Strings.BuilderRune
import Derived.Shelf.Strings.SlTrimAscii
import Derived.Test.YtohfoenhmkfjkaaGreatDoorProg
import Derived.Test.YtohfoenhmkfjkaaGreatDoorZEraseUpto1
set_option linter.unusedVariables false
set_option linter.unusedSimpArgs false
theorem ad:type_of% @Go.K.Rg.nil:=@Go.K.Rg.nil
theorem ae:type_of% @Go.K.Rg.move:=@Go.K.Rg.move
theorem ah:type_of% @Go.K.T.region:=@Go.K.T.region
theorem ai:type_of% @Go.K.Rg.assign:=@Go.K.Rg.assign
theorem aj:type_of% @Go.K.T.seq:=@Go.K.T.seq
theorem al:type_of% @Go.K.Rg.aB:=@Go.K.Rg.aB
theorem an:type_of% @Go.K.Step.refl:=@Go.K.Step.refl
theorem ao:type_of% @Go.K.Rg.br:=@Go.K.Rg.br
theorem aq:type_of% @Go.K.Le.refl:=@Go.K.Le.refl
theorem ar:type_of% @Go.Proofs.Tryz.underlying3:=@Go.Proofs.Tryz.underlying3
theorem au:type_of% @List.getElem?_eq_some_iff:=@List.getElem?_eq_some_iff
theorem av:type_of% @Go.Proofs.Tryz.underlying32:=@Go.Proofs.Tryz.underlying32
theorem ay:type_of% @Go.K.Rg.aZ:=@Go.K.Rg.aZ
theorem aC:type_of% @Int.toNat_natCast:=@Int.toNat_natCast
theorem aD:type_of% @Go.Proofs.Tryz.underlying9:=@Go.Proofs.Tryz.underlying9
theorem aE:type_of% @Go.K.Rg.bu:=@Go.K.Rg.bu
theorem aF:type_of% @Go.K.bD.cons:=@Go.K.bD.cons
theorem aH:type_of% @Go.K.T.ret:=@Go.K.T.ret
theorem aI:type_of% @Go.K.Rg.aY:=@Go.K.Rg.aY
theorem aJ:type_of% @Go.K.Rg.fieldAddr:=@Go.K.Rg.fieldAddr
theorem aK:type_of% @Go.K.bX.cons:=@Go.K.bX.cons
theorem aL:type_of% @List.getElem?_eq_getElem:=@List.getElem?_eq_getElem
theorem aM:type_of% @Go.K.Rg.call:=@Go.K.Rg.call
theorem aN:type_of% @List.mem_of_getElem?:=@List.mem_of_getElem?
theorem aO:type_of% @Go.Proofs.Tryz.underlying41:=@Go.Proofs.Tryz.underlying41
theorem aQ:type_of% @Go.K.Rg.bL:=@Go.K.Rg.bL
theorem aR:type_of% @Go.K.Rg.nilCheck:=@Go.K.Rg.nilCheck
theorem aS:type_of% @Go.K.Rg.bB:=@Go.K.Rg.bB
theorem aT:type_of% @Go.K.Le.trans:=@Go.K.Le.trans
theorem aU:type_of% @Go.K.T.skip:=@Go.K.T.skip
theorem aV:type_of% @Go.Proofs.Tryz.underlying39:=@Go.Proofs.Tryz.underlying39
theorem aX:type_of% @Go.Proofs.Tryz.underlying107:=@Go.Proofs.Tryz.underlying107
theorem a7:type_of% @Go.K.Step.le:=@Go.K.Step.le
theorem a8:type_of% @Nat.le_refl:=@Nat.le_refl
theorem bh:type_of% @Go.Proofs.Tryz.underlying55:=@Go.Proofs.Tryz.underlying55
theorem bj:type_of% @Go.K.T.block:=@Go.K.T.block
theorem bm:type_of% @Go.Proofs.Tryz.underlying147:=@Go.Proofs.Tryz.underlying147
theorem bp:type_of% @Go.K.Rg.eqv:=@Go.K.Rg.eqv
theorem bz:type_of% @Go.K.Rg.cP:=@Go.K.Rg.cP
theorem bA:type_of% @Go.Proofs.Tryz.underlying216:=@Go.Proofs.Tryz.underlying216
theorem bC:type_of% @Bool.and_eq_true:=@Bool.and_eq_true
theorem bF:type_of% @Go.K.T.dJ:=@Go.K.T.dJ
theorem bG:type_of% @List.length_take:=@List.length_take
theorem bH:type_of% @Nat.zero_le:=@Nat.zero_le
theorem bI:type_of% @List.take_of_length_le:=@List.take_of_length_le
theorem bK:type_of% @Go.Proofs.Tryz.underlying153:=@Go.Proofs.Tryz.underlying153
theorem bM:type_of% @List.length_append:=@List.length_append
theorem bN:type_of% @List.mem_iff_getElem?:=@List.mem_iff_getElem?
theorem bO:type_of% @Go.K.Rg.extract:=@Go.K.Rg.extract
theorem bP:type_of% @Go.K.Rg.cz:=@Go.K.Rg.cz
theorem bQ:type_of% @Option.some.inj:=@Option.some.inj
theorem bR:type_of% @Go.Proofs.Tryz.underlying127:=@Go.Proofs.Tryz.underlying127
theorem bS:type_of% @Go.K.Step.aG:=@Go.K.Step.aG
theorem bT:type_of% @List.getD_eq_getElem?_getD:=@List.getD_eq_getElem?_getD
theorem bU:type_of% @Go.K.Rg.db:=@Go.K.Rg.db
theorem bY:type_of% @List.mem_cons_self:=@List.mem_cons_self
theorem bZ:type_of% @Go.Proofs.Tryz.underlying5:=@Go.Proofs.Tryz.underlying5
theorem cb:type_of% @Go.Proofs.Tryz.underlying47:=@Go.Proofs.Tryz.underlying47
theorem cc:type_of% @Go.K.Rg.dQ:=@Go.K.Rg.dQ
theorem cd:type_of% @Go.K.Rg.cF:=@Go.K.Rg.cF
theorem cf:type_of% @Go.K.Rg.fV:=@Go.K.Rg.fV
theorem cg:type_of% @Go.K.Rg.load:=@Go.K.Rg.load
theorem cn:type_of% @List.mem_singleton:=@List.mem_singleton
theorem cq:type_of% @List.mem_cons_of_mem:=@List.mem_cons_of_mem
theorem cr:type_of% @List.take_add_one:=@List.take_add_one
theorem cv:type_of% @List.length_cons:=@List.length_cons
theorem cw:type_of% @Go.K.Rg.cT:=@Go.K.Rg.cT
theorem cB:type_of% @Nat.lt_or_ge:=@Nat.lt_or_ge
theorem cC:type_of% @Go.Proofs.Tryz.underlying58:=@Go.Proofs.Tryz.underlying58
theorem cE:type_of% @List.mem_map:=@List.mem_map
theorem cG:type_of% @Go.Proofs.Tryz.underlying129:=@Go.Proofs.Tryz.underlying129
theorem cH:type_of% @Go.Proofs.Tryz.underlying159:=@Go.Proofs.Tryz.underlying159
theorem cJ:type_of% @Array.getElem?_setIfInBounds:=@Array.getElem?_setIfInBounds
theorem cL:type_of% @List.length_drop:=@List.length_drop
theorem cM:type_of% @Go.K.T.exit:=@Go.K.T.exit
theorem cN:type_of% @List.length_map:=@List.length_map
theorem cO:type_of% @Go.Proofs.Tryz.underlying43:=@Go.Proofs.Tryz.underlying43
theorem cQ:type_of% @Go.Sem.run_bind:=@Go.Sem.run_bind
theorem cY:type_of% @Option.toList_some:=@Option.toList_some
theorem cZ:type_of% @List.mem_append:=@List.mem_append
theorem de:type_of% @List.drop_eq_getElem_cons:=@List.drop_eq_getElem_cons
theorem dg:type_of% @Go.Proofs.Tryz.underlying169:=@Go.Proofs.Tryz.underlying169
theorem dh:type_of% @Go.K.Rg.append:=@Go.K.Rg.append
theorem dm:type_of% @List.mem_cons:=@List.mem_cons
theorem dp:type_of% @List.pairwise_map:=@List.pairwise_map
theorem dq:type_of% @Go.K.Rg.idx:=@Go.K.Rg.idx
theorem dr:type_of% @List.getElem?_take:=@List.getElem?_take
theorem du:type_of% @Go.Result.andThen_ok:=@Go.Result.andThen_ok
theorem dv:type_of% @Go.Proofs.Tryz.underlying193:=@Go.Proofs.Tryz.underlying193
theorem dx:type_of% @Bool.true_and:=@Bool.true_and
theorem dA:type_of% @Go.K.Rg.jC:=@Go.K.Rg.jC
theorem dD:type_of% @List.all_eq_true:=@List.all_eq_true
theorem dG:type_of% @Go.Proofs.Tryz.underlying51:=@Go.Proofs.Tryz.underlying51
theorem dH:type_of% @Go.Proofs.Tryz.underlying75:=@Go.Proofs.Tryz.underlying75
theorem dI:type_of% @Go.K.T.loop:=@Go.K.T.loop
theorem dN:type_of% @List.getElem?_set:=@List.getElem?_set
theorem dO:type_of% @Nat.eq_or_lt_of_le:=@Nat.eq_or_lt_of_le
theorem dP:type_of% @List.drop_eq_nil_of_le:=@List.drop_eq_nil_of_le
theorem dS:type_of% @Go.Proofs.Tryz.underlying188:=@Go.Proofs.Tryz.underlying188
theorem dT:type_of% @Go.Proofs.Tryz.underlying191:=@Go.Proofs.Tryz.underlying191
theorem dX:type_of% @Go.K.Rg.build:=@Go.K.Rg.build
theorem ec:type_of% @Decidable.not_not:=@Decidable.not_not
theorem eo:type_of% @Go.K.Own.nil:=@Go.K.Own.nil
theorem ep:type_of% @Go.K.bJ.load:=@Go.K.bJ.load
theorem eu:type_of% @Go.Proofs.Tryz.underlying161:=@Go.Proofs.Tryz.underlying161
theorem eE:type_of% @List.getElem?_map:=@List.getElem?_map
theorem eF:type_of% @Bool.eq_false_iff:=@Bool.eq_false_iff
theorem eM:type_of% @Go.K.Rg.mI:=@Go.K.Rg.mI
theorem eN:type_of% @Go.K.Rg.mq:=@Go.K.Rg.mq
theorem eO:type_of% @Nat.le_trans:=@Nat.le_trans
theorem eP:type_of% @Eq.symm:=@Eq.symm
theorem eW:type_of% @Go.K.Rg.mT:=@Go.K.Rg.mT
theorem ff:type_of% @Go.K.Rg.alloc:=@Go.K.Rg.alloc
theorem fi:type_of% @List.take_succ_eq_append_getElem:=@List.take_succ_eq_append_getElem
theorem fj:type_of% @Go.K.Rg.eh:=@Go.K.Rg.eh
theorem fm:type_of% @List.mem_map_of_mem:=@List.mem_map_of_mem
theorem fB:type_of% @Option.map_some:=@Option.map_some
theorem fE:type_of% @Go.K.kR.nil:=@Go.K.kR.nil
theorem fF:type_of% @Go.Proofs.Tryz.underlying98:=@Go.Proofs.Tryz.underlying98
theorem fI:type_of% @List.getElem?_eq_none:=@List.getElem?_eq_none
theorem fO:type_of% @Go.K.Part.snd:=@Go.K.Part.snd
theorem fS:type_of% @Bool.false_and:=@Bool.false_and
theorem fT:type_of% @Go.Proofs.Tryz.underlying167:=@Go.Proofs.Tryz.underlying167
theorem fU:type_of% @Go.Proofs.Tryz.underlying144:=@Go.Proofs.Tryz.underlying144
theorem gh:type_of% @List.length_eq_zero_iff:=@List.length_eq_zero_iff
theorem gp:type_of% @Go.Proofs.Tryz.underlying37:=@Go.Proofs.Tryz.underlying37
theorem gq:type_of% @Go.K.bJ.field:=@Go.K.bJ.field
theorem gr:type_of% @Go.K.bJ.move:=@Go.K.bJ.move
theorem gG:type_of% @Go.K.Rg.fu:=@Go.K.Rg.fu
theorem gJ:type_of% @List.pairwise_cons:=@List.pairwise_cons
theorem gL:type_of% @Go.K.T.iff:=@Go.K.T.iff
theorem gM:type_of% @Go.K.Rg.kb:=@Go.K.Rg.kb
theorem gN:type_of% @Go.K.Rg.gu:=@Go.K.Rg.gu
theorem gO:type_of% @List.contains_iff_mem:=@List.contains_iff_mem
theorem gX:type_of% @Go.Proofs.Tryz.underlying0:=@Go.Proofs.Tryz.underlying0
theorem ig:type_of% @List.nil_append:=@List.nil_append
theorem ij:type_of% @List.length_nil:=@List.length_nil
theorem ix:type_of% @Go.IntWalk.i64_in:=@Go.IntWalk.i64_in
theorem iy:type_of% @Nat.lt_trichotomy:=@Nat.lt_trichotomy
theorem iD:type_of% @Go.K.Rg.makeFunc:=@Go.K.Rg.makeFunc
theorem iE:type_of% @List.map_cons:=@List.map_cons
theorem iF:type_of% @Nat.lt_irrefl:=@Nat.lt_irrefl
theorem iG:type_of% @Bool.and_true:=@Bool.and_true
theorem iR:type_of% @List.take_succ_cons:=@List.take_succ_cons
theorem iS:type_of% @Go.Proofs.Tryz.underlying88:=@Go.Proofs.Tryz.underlying88
theorem iV:type_of% @List.cons_append:=@List.cons_append
theorem iW:type_of% @Go.Proofs.Tryz.zeroValue0:=@Go.Proofs.Tryz.zeroValue0
theorem iX:type_of% @Go.Proofs.Tryz.zeroValue3:=@Go.Proofs.Tryz.zeroValue3
theorem iY:type_of% @Go.Proofs.Tryz.zeroValue9:=@Go.Proofs.Tryz.zeroValue9
theorem iZ:type_of% @List.filter_cons_of_pos:=@List.filter_cons_of_pos
theorem jw:type_of% @Go.K.dR.refl:=@Go.K.dR.refl
theorem jz:type_of% @Nat.lt_of_lt_of_le:=@Nat.lt_of_lt_of_le
theorem jA:type_of% @List.drop_of_length_le:=@List.drop_of_length_le
theorem jO:type_of% @Go.Proofs.Tryz.underlying4:=@Go.Proofs.Tryz.underlying4
theorem jP:type_of% @Go.K.gy.all:=@Go.K.gy.all
theorem jQ:type_of% @Nat.not_lt_zero:=@Nat.not_lt_zero
theorem jR:type_of% @List.map_append:=@List.map_append
theorem j5:type_of% @List.getElem?_toArray:=@List.getElem?_toArray
theorem j6:type_of% @Go.Proofs.Tryz.underlying227:=@Go.Proofs.Tryz.underlying227
theorem j7:type_of% @Go.Proofs.Tryz.underlying165:=@Go.Proofs.Tryz.underlying165
theorem j8:type_of% @Go.Proofs.Tryz.underlying195:=@Go.Proofs.Tryz.underlying195
theorem kH:type_of% @List.ext_getElem?:=@List.ext_getElem?
theorem kJ:type_of% @Go.K.Part.fst:=@Go.K.Part.fst
theorem kX:type_of% @Nat.pow_le_pow_right:=@Nat.pow_le_pow_right
theorem kY:type_of% @List.mem_append_left:=@List.mem_append_left
theorem ll:type_of% @Nat.mod_eq_of_lt:=@Nat.mod_eq_of_lt
theorem lN:type_of% @List.length_pos_iff:=@List.length_pos_iff
theorem lO:type_of% @Go.K.T.qe:=@Go.K.T.qe
theorem mG:type_of% @Go.K.Rg.uG:=@Go.K.Rg.uG
theorem mH:type_of% @Go.K.Rg.box:=@Go.K.Rg.box
theorem mR:type_of% @Option.map_none:=@Option.map_none
theorem mU:type_of% @BitVec.toNat_ofInt:=@BitVec.toNat_ofInt
theorem nM:type_of% @List.filter_cons_of_neg:=@List.filter_cons_of_neg
theorem oC:type_of% @Go.Proofs.Tryz.sizeOf0:=@Go.Proofs.Tryz.sizeOf0
theorem oD:type_of% @Go.Proofs.Tryz.sizeOf3:=@Go.Proofs.Tryz.sizeOf3
theorem oE:type_of% @Go.Proofs.Tryz.sizeOf9:=@Go.Proofs.Tryz.sizeOf9
theorem oF:type_of% @Go.Proofs.Tryz.underlying183:=@Go.Proofs.Tryz.underlying183
theorem oG:type_of% @List.foldl_append:=@List.foldl_append
theorem oH:type_of% @Go.K.Rg.jE:=@Go.K.Rg.jE
theorem oI:type_of% @Bool.not_eq_true':=@Bool.not_eq_true'
theorem o8:type_of% @Go.Proofs.Tryz.zeroValue4:=@Go.Proofs.Tryz.zeroValue4
theorem qc:type_of% @List.take_eq_take_iff:=@List.take_eq_take_iff
theorem qd:type_of% @Array.getElem?_modify:=@Array.getElem?_modify
theorem qj:type_of% @List.any_eq_true:=@List.any_eq_true
theorem qZ:type_of% @Go.K.Rg.conv:=@Go.K.Rg.conv
theorem ra:type_of% @Go.Proofs.Tryz.underlying26:=@Go.Proofs.Tryz.underlying26
theorem sf:type_of% @Go.Proofs.Tryz.isAgg0:=@Go.Proofs.Tryz.isAgg0
theorem sh:type_of% @Go.Proofs.Tryz.isAgg3:=@Go.Proofs.Tryz.isAgg3
theorem si:type_of% @Go.Proofs.Tryz.isAgg9:=@Go.Proofs.Tryz.isAgg9
theorem sk:type_of% @List.append_nil:=@List.append_nil
theorem sm:type_of% @List.nodup_cons:=@List.nodup_cons
theorem uu:type_of% @Int.toNat_of_nonneg:=@Int.toNat_of_nonneg
theorem uv:type_of% @List.getD_cons_zero:=@List.getD_cons_zero
theorem uw:type_of% @List.getD_cons_succ:=@List.getD_cons_succ
theorem ux:type_of% @List.takeWhile_cons:=@List.takeWhile_cons
theorem uE:type_of% @Go.K.rQ.nil:=@Go.K.rQ.nil
namespace Go.K
def put (n:Nat):List UInt8:=if n<128 then[UInt8.ofNat n]else UInt8.ofNat (128+n%128)::put (n/128)
termination_by n
decreasing_by omega
theorem sO {n:Nat} (h:n<128):put n=[UInt8.ofNat n]:=by rw[put,if_pos h]
theorem AN {n:Nat} (h:128≤n):put n=UInt8.ofNat (128+n%128)::put (n/128):=by rw[put,if_neg (by omega)]
theorem Ia (n:Nat):0<(put n).length:=by rw[put];split<;>simp
theorem Ib {k:Nat}:∀{n:Nat},n<128^(k+1)→(put n).length≤k+1:=by
 induction k with
 |zero=>intro n h;rw[sO (by simpa using h)];simp
 |succ k ih=>
  intro n h;by_cases h1:n<128
  ·rw[sO h1];simp
  ·rw[AN (by omega)];have:=ih (n:=n/128) (by rw[Nat.pow_succ]at h;omega);simp;omega
theorem jt {n:Nat} (h:n≤9223372036854775807):(put n).length≤9:=Ib (k:=8) (by omega)
def lz:List UInt8→Nat→Nat→Option (Nat×Nat)
 |[],_,_=>none
 |c::cs,i,n=>if c.toNat<128 then(if c.toNat=0∧0<i then none else some (n+c.toNat%128*128^i,i+1))else lz cs (i+1) (n+c.toNat%128*128^i)
def get (b:List UInt8) (at_:Int):Int×Int×Int:=
 if at_<0∨(b.length:Int)<at_ then(0,0,1)
 else match lz ((b.drop at_.toNat).take 9) 0 0 with
  |some (n,k)=>(n,at_+k,0)
  |none=>(0,0,2)
theorem lA {bs:List UInt8} {k:Nat} {c:UInt8} (h:bs[k]? =some c) (n:Nat):lz (bs.drop k) k n=
  if c.toNat<128 then(if c.toNat=0∧0<k then none else some (n+c.toNat%128*128^k,k+1))else lz (bs.drop (k+1)) (k+1) (n+c.toNat%128*128^k):=by
 obtain⟨dy,he⟩:=au.1 h;rw[de dy,lz,he]
theorem Ll (b:List UInt8) (i:Nat):(b.take (min b.length (i+9))).drop i=(b.drop i).take 9:=by
 rw[List.drop_take,qc];simp;omega
def val:List UInt8→Nat
 |[]=>0
 |c::cs=>c.toNat%128+128*val cs
def eH:Int→List Int→Bool
 |_,[]=>true
 |last,x::l=>decide (last<x)&&eH x l
def jU:Int→List Int→List UInt8
 |_,[]=>[]
 |last,x::l=>put (x-last-1).toNat++jU x l
def dM (l:List Int):List UInt8:=put l.length++jU (-1) l
def JX:Int→List Int→List Int
 |_,[]=>[]
 |last,x::l=>let m:=if x<0 then-(x+1)else x;(last+1+m%1000)::JX (last+1+m%1000) l
def good (l:List Int) (most:Nat):List Int:=JX (-1) (l.take most)
theorem qx {b:List UInt8} {at_:Int} (h:(get b at_).2.2=0):0≤at_∧at_<(get b at_).2.1∧(get b at_).2.1≤b.length∧0≤(get b at_).1∧(get b at_).1<9223372036854775808:=by
 unfold get at h ⊢
 split at h
 ·simp at h
 rename_i hr
 rw[if_neg hr]at*
 have key:∀(bs:List UInt8) (i n m k:Nat),lz bs i n=some (m,k)→bs.length+i≤9→n<128^i→i<k∧k≤i+bs.length∧m<128^k:=by
  intro bs
  induction bs with
  |nil=>intro i n m k h;simp[lz]at h
  |cons c cs ih=>
   intro i n m k h hl hn
   have hd:n+c.toNat%128*128^i<128^(i+1):=by
    have:=Nat.mul_le_mul_right (128^i) (show c.toNat%128≤127 from by omega);rw[Nat.pow_succ];omega
   simp only[lz]at h
   split at h
   ·split at h
    ·cases h
    ·cases h;exact⟨by omega,by simp,hd⟩
   ·obtain⟨h1,h2,h3⟩:=ih (i+1) _ m k h (by simp at hl;omega) hd;exact⟨by omega,by simp;omega,h3⟩
 cases hg:lz ((b.drop at_.toNat).take 9) 0 0 with
 |none=>simp[hg]at h
 |some p=>
  obtain⟨m,k⟩:=p;have hlen:((b.drop at_.toNat).take 9).length≤9∧((b.drop at_.toNat).take 9).length≤b.length-at_.toNat:=by rw[bG,cL];omega
  obtain⟨h1,h2,h3⟩:=key _ 0 0 m k hg (by omega) (by decide);have hp:128^k≤128^9:=kX (by decide) (by omega);simp only;omega
def fQ (b:List UInt8):Nat→Int→Int→Int×List Int×Int
 |0,at_,_=>(0,[],at_)
 |k+1,at_,last=>
  if(get b at_).2.2≠0 then((get b at_).2.2,[],0)
  else if 4611686018427387904-last-1<(get b at_).1 then(2,[],0)
  else if(fQ b k (get b at_).2.1 (last+1+(get b at_).1)).1≠0 then((fQ b k (get b at_).2.1 (last+1+(get b at_).1)).1,[],0)
  else(0,(last+1+(get b at_).1)::(fQ b k (get b at_).2.1 (last+1+(get b at_).1)).2.1,(fQ b k (get b at_).2.1 (last+1+(get b at_).1)).2.2)
def fo (b:List UInt8) (at_:Int):Int×List Int×Int:=
 if(get b at_).2.2≠0 then((get b at_).2.2,[],0)else fQ b (get b at_).1.toNat (get b at_).2.1 (-1)
theorem eZ {l:List Int} {k:Nat} {x:Int} (h:l[k]? =some x) (last:Int):eH last (l.drop k)=(decide (last<x)&&eH x (l.drop (k+1))):=by
 obtain⟨dy,he⟩:=au.1 h;rw[de dy,eH,he]
theorem Da {l:List Int} {k:Nat} {x:Int} (h:l[k]? =some x) (last:Int):jU last (l.drop k)=put (x-last-1).toNat++jU x (l.drop (k+1)):=by
 obtain⟨dy,he⟩:=au.1 h;rw[de dy,jU,he]
theorem sT:∀(l:List Int) (last:Int),-1≤last→(∀x∈l,x≤9223372036854775807)→eH last l=true→(jU last l).length≤9*l.length
 |[],_,_,_,_=>by simp[jU]
 |x::l,last,h1,h2,h3=>by
  simp only[eH,bC,decide_eq_true_eq]at h3;have hx:=h2 x (bY ..);have h4:=sT l x (by omega) (fun y hy=>h2 y (cq _ hy)) h3.2;have h5:=jt (n:=(x-last-1).toNat) (by omega);simp only[jU,bM,cv];omega
theorem sU (b:List UInt8) (a last:Int):fQ b 0 a last=(0,[],a):=rfl
theorem oP {b:List UInt8} {k:Nat} {a last:Int} (h:(get b a).2.2≠0):fQ b (k+1) a last=((get b a).2.2,[],0):=by rw[fQ,if_pos h]
theorem qy {b:List UInt8} {k:Nat} {a last:Int} (h:(get b a).2.2=0) (h2:4611686018427387904-last-1<(get b a).1):fQ b (k+1) a last=(2,[],0):=by
 rw[fQ,if_neg (by simpa using h),if_pos h2]
theorem sV {b:List UInt8} {k:Nat} {a last:Int} (h:(get b a).2.2=0) (h2: ¬4611686018427387904-last-1<(get b a).1):fQ b (k+1) a last=
  if(fQ b k (get b a).2.1 (last+1+(get b a).1)).1≠0 then((fQ b k (get b a).2.1 (last+1+(get b a).1)).1,[],0)
  else(0,(last+1+(get b a).1)::(fQ b k (get b a).2.1 (last+1+(get b a).1)).2.1,(fQ b k (get b a).2.1 (last+1+(get b a).1)).2.2):=by
 rw[fQ,if_neg (by simpa using h),if_neg h2]
def andThen (acc:List Int) (r:Int×List Int×Int):Int×List Int×Int:=if r.1≠0 then(r.1,[],0)else(0,acc++r.2.1,r.2.2)
theorem lV {b:List UInt8} {k:Nat} {a last:Int} (acc:List Int) (h:(get b a).2.2=0) (h2: ¬4611686018427387904-last-1<(get b a).1):
  andThen acc (fQ b (k+1) a last)=andThen (acc++[last+1+(get b a).1]) (fQ b k (get b a).2.1 (last+1+(get b a).1)):=by
 rw[sV h h2];unfold andThen;by_cases h3:(fQ b k (get b a).2.1 (last+1+(get b a).1)).1=0<;>simp[h3]
theorem yH (r:Int×List Int×Int) (h:r.1≠0→r.2=([],0)):andThen [] r=r:=by
 unfold andThen;by_cases h3:r.1=0
 ·rw[if_neg (by simpa using h3)];ext<;>simp[h3]
 ·rw[if_pos h3,←h h3]
theorem Db (b:List UInt8):∀(k:Nat) (a last:Int),(fQ b k a last).1≠0→(fQ b k a last).2=([],0)
 |0,a,last,h=>by simp[fQ]at h
 |k+1,a,last,h=>by
  rw[fQ]at h ⊢
  split
  ·rfl
  ·rename_i h1;rw[if_neg h1]at h
   split
   ·rfl
   ·rename_i h2;rw[if_neg h2]at h
    split
    ·rfl
    ·rename_i h3;rw[if_neg h3]at h;simp at h
theorem lW (b:List UInt8) (a:Int):0≤(get b a).1∧0≤(get b a).2.2∧(get b a).2.2≤2∧((get b a).2.2≠0→(get b a).1=0∧(get b a).2.1=0):=by
 unfold get
 split
 ·simp
 ·split<;>simp<;>omega
theorem vL (b:List UInt8) (a:Int):(get b a).1≤9223372036854775807:=by
 by_cases h:(get b a).2.2=0
 ·have:=qx h;omega
 ·have:=(lW b a).2.2.2 h;omega
theorem ES:∀(k m i acc:Nat) (post:List UInt8),m<128^(k+1)→(0<i→m≠0)→lz ((put m++post).take (k+1)) i acc=some (acc+m*128^i,i+(put m).length):=by
 intro k
 induction k with
 |zero=>
  intro m i acc post h h0;have hm:m<128:=by simpa using h
  have e:(UInt8.ofNat m).toNat=m:=by rw[UInt8.toNat_ofNat'];omega
  rw[sO hm];simp only[iV,ig,iR,lz,e];rw[if_pos hm,if_neg (by omega),ll hm];rfl
 |succ k ih=>
  intro m i acc post h h0;by_cases hm:m<128
  ·have e:(UInt8.ofNat m).toNat=m:=by rw[UInt8.toNat_ofNat'];omega
   rw[sO hm];simp only[iV,ig,iR,lz,e];rw[if_pos hm,if_neg (by omega),ll hm];rfl
  ·have e:(UInt8.ofNat (128+m%128)).toNat=128+m%128:=by rw[UInt8.toNat_ofNat'];omega
   rw[AN (by omega)];simp only[iV,iR,lz,e];rw[if_neg (by omega),ih (m/128) (i+1) _ post (by rw[Nat.pow_succ]at h;omega) (by omega)];have h2:(128+m%128)%128=m%128:=by omega
   rw[h2,Nat.pow_succ];congr 2
   ·have h3:m=m%128+128*(m/128):=by omega
    have h4:m*128^i=(m%128)*128^i+(m/128)*(128^i*128):=by
     conv=>lhs;rw[h3]
     rw[Nat.add_mul,Nat.mul_comm 128 (m/128),Nat.mul_assoc,Nat.mul_comm 128 (128^i)]
    omega
   ·simp;omega
theorem xf (pre post:List UInt8) {n:Nat} (hn:n≤9223372036854775807):get (pre++put n++post) pre.length=((n:Int),((pre.length+(put n).length:Nat):Int),0):=by
 unfold get;rw[if_neg (by simp;omega)]
 have h1:((pre++put n++post).drop (pre.length:Int).toNat).take 9=(put n++post).take (8+1):=by
  rw[aC,List.append_assoc,List.drop_left]
 rw[h1,ES 8 n 0 0 post (by omega) (by omega)];simp
theorem vM:∀(l:List Int) (pre post:List UInt8) (last:Int),-1≤last→eH last l=true→(∀x∈l,x≤4611686018427387904)→
  fQ (pre++jU last l++post) l.length pre.length last=(0,l,((pre.length+(jU last l).length:Nat):Int))
 |[],pre,post,last,_,_,_=>by simp[jU,fQ]
 |x::l,pre,post,last,h1,h2,h3=>by
  simp only[eH,bC,decide_eq_true_eq]at h2;have hx:=h3 x (bY ..);have e0:pre++jU last (x::l)++post=pre++put (x-last-1).toNat++(jU x l++post):=by simp[jU]
  have e1:=xf pre (jU x l++post) (n:=(x-last-1).toNat) (by omega);have e2:pre++put (x-last-1).toNat++(jU x l++post)=(pre++put (x-last-1).toNat)++jU x l++post:=by simp
  have ih:=vM l (pre++put (x-last-1).toNat) post x (by omega) h2.2 (fun y hy=>h3 y (cq _ hy));rw[e0,cv,sV (by rw[e1]) (by rw[e1];simp only;omega),e1];simp only;have e3:last+1+(((x-last-1).toNat:Nat):Int)=x:=by omega
  rw[e3,e2,show((pre.length+(put (x-last-1).toNat).length:Nat):Int)=((pre++put (x-last-1).toNat).length:Int)from by simp,ih];simp[jU];omega
theorem uM (pre post:List UInt8) {l:List Int} (hr:eH (-1) l=true) (h3:∀x∈l,x≤4611686018427387904) (hl:l.length≤9223372036854775807):
  fo (pre++dM l++post) pre.length=(0,l,((pre.length+(dM l).length:Nat):Int)):=by
 have e0:pre++dM l++post=pre++put l.length++(jU (-1) l++post):=by simp[dM]
 have e1:=xf pre (jU (-1) l++post) (n:=l.length) hl;have e2:pre++put l.length++(jU (-1) l++post)=(pre++put l.length)++jU (-1) l++post:=by simp
 unfold fo;rw[e0,e1,if_neg (by simp)];simp only;have:=vM l (pre++put l.length) post (-1) (by omega) hr h3;rw[e2,show((pre.length+(put l.length).length:Nat):Int)=((pre++put l.length).length:Int)from by simp,aC,this];simp[dM];omega
end Go.K
namespace Go.K
abbrev Po:=Int×List Int
abbrev Bl:=Int×Int×Int×Int
abbrev Li:=List UInt8×List Bl×Int
abbrev RT.po:RT Po:=RT.pair (RT.int .i64) ((RT.int .i64).sl)
abbrev RT.bl:RT Bl:=RT.pair (RT.int .i64) (RT.pair (RT.int .i64) (RT.pair (RT.int .i64) (RT.int .i64)))
abbrev RT.li:RT Li:=RT.pair (RT.u8.sl) (RT.pair ((RT.bl).sl) (RT.int .i64))
theorem HG:Part RT.po (RT.int .i64) (fun p=>p.1) 0:=kJ _ _
theorem O8:Part RT.po ((RT.int .i64).sl) (fun p=>p.2) 1:=fO _ _
theorem bl0:Part RT.bl (RT.int .i64) (fun b=>b.1) 0:=kJ _ _
theorem bl1:Part RT.bl (RT.int .i64) (fun b=>b.2.1) 1:=(fO _ _).trans (kJ _ _)
theorem bl2:Part RT.bl (RT.int .i64) (fun b=>b.2.2.1) 2:=(fO _ _).trans ((fO _ _).trans (kJ _ _))
theorem bl3:Part RT.bl (RT.int .i64) (fun b=>b.2.2.2) 3:=(fO _ _).trans ((fO _ _).trans (fO _ _))
theorem li0:Part RT.li (RT.u8.sl) (fun x=>x.1) 0:=kJ _ _
theorem SY:Part RT.li ((RT.bl).sl) (fun x=>x.2.1) 1:=(fO _ _).trans (kJ _ _)
def ET (n:Nat) (k:Int):Bool:=decide (0≤k∧k<n)
def yI (bs:List Bl) (k:Int):Int:=if ET bs.length k then(bs.getD k.toNat (0,0,0,0)).2.2.1 else-1
def dz:Int→List Po→List UInt8
 |_,[]=>[]
 |last,(d,ps)::l=>put (d-last-1).toNat++dM ps++dz d l
def bW:Int→List Po→Int
 |last,[]=>last
 |_,(d,_)::l=>bW d l
def gz (l:List Po):Int:=(l.map fun p=>(p.2.length:Int)).sum
theorem pw (l l':List Po) (last:Int):dz last (l++l')=dz last l++dz (bW last l) l':=by
 induction l generalizing last with
 |nil=>rfl
 |cons p l ih=>obtain⟨d,ps⟩:=p;simp[dz,bW,ih]
theorem uN (l l':List Po) (last:Int):bW last (l++l')=bW (bW last l) l':=by
 induction l generalizing last with
 |nil=>rfl
 |cons p l ih=>obtain⟨d,ps⟩:=p;simp[bW,ih]
theorem px (l l':List Po):gz (l++l')=gz l+gz l':=by simp[gz]
def py (l:List Po) (k:Nat):Bl:=((dz (-1) (l.take (8*k))).length,bW (-1) (l.take (8*k)),bW (-1) (l.take (8*k+8)),((l.drop (8*k)).take 8).length)
def mJ (l:List Po) (m:Nat):List Bl:=(List.range m).map (py l)
def hU (l:List Po):Li:=(dz (-1) l,mJ l ((l.length+7)/8),gz l)
def lX (l:List Int):Bool:=eH (-1) l&&l.all (fun n=>decide (n<2147483648))
def dU:Int→List Po→Bool
 |_,[]=>true
 |last,(d,ps)::l=>decide (last<d)&&decide (d<2147483648)&& !ps.isEmpty&&lX ps&&dU d l
theorem nf:∀{l:List Po} {i:Nat} {last d:Int} {ps:List Int},dU last l=true→l[i]? =some (d,ps)→
  bW last (l.take i)<d∧d<2147483648∧ps≠[]∧lX ps=true∧bW last (l.take (i+1))=d∧last≤bW last (l.take i)
 |[],i,_,_,_,_,h=>by simp at h
 |(d0,p0)::l,0,last,d,ps,hm,h=>by
  simp only[List.getElem?_cons_zero,Option.some.injEq,Prod.mk.injEq]at h;obtain⟨rfl,rfl⟩:=h;simp only[dU,bC,decide_eq_true_eq]at hm;obtain⟨⟨⟨⟨h1,h2⟩,h3⟩,h4⟩,h5⟩:=hm;refine⟨h1,h2,?_,h4,by simp[bW],by simp[bW]⟩;rintro rfl;simp at h3
 |(d0,p0)::l,i+1,last,d,ps,hm,h=>by
  simp only[dU,bC,decide_eq_true_eq]at hm;obtain⟨⟨⟨⟨h1,h2⟩,h3⟩,h4⟩,h5⟩:=hm;obtain⟨a1,a2,a3,a4,a5,a6⟩:=nf (i:=i) h5 (by simpa using h);refine⟨by simpa[bW]using a1,a2,a3,a4,by simpa[bW]using a5,?_⟩;simp only[iR,bW];omega
theorem sY {l:List Po} {i:Nat} {d:Int} {ps:List Int} (last:Int) (h:l[i]? =some (d,ps)):
  dz last (l.take (i+1))=dz last (l.take i)++put (d-bW last (l.take i)-1).toNat++dM ps:=by
 obtain⟨h1,h2⟩:=au.1 h;rw[fi h1,h2,pw];simp[dz]
theorem ng {l:List Po} {i:Nat} (last:Int):dz last l=dz last (l.take i)++dz (bW last (l.take i)) (l.drop i):=by
 conv=>lhs;rw[←List.take_append_drop i l]
 exact pw _ _ _
theorem lY {l:List Int}:lX l=true↔eH (-1) l=true∧∀x∈l,x<2147483648:=by
 simp[lX]
def om (b:List UInt8) (at_ ahead:Int):Po×Int×Int:=
 if(get b at_).2.2≠0 then((0,[]),0,(get b at_).2.2)
 else((IntKind.i64.wrap (IntKind.i64.wrap (ahead+1)+(get b at_).1),(fo b (get b at_).2.1).2.1),(fo b (get b at_).2.1).2.2,(fo b (get b at_).2.1).1)
theorem EU {l:List Po} {i:Nat} {d:Int} {ps:List Int} (hm:dU (-1) l=true) (h:l[i]? =some (d,ps)) (hl:ps.length≤1099511627776):
  om (dz (-1) l) (((dz (-1) (l.take i)).length:Nat):Int) (bW (-1) (l.take i))=((d,ps),(((dz (-1) (l.take (i+1))).length:Nat):Int),0):=by
 obtain⟨h1,h2,h3,h4,h5,h6⟩:=nf hm h;obtain⟨h7,h8⟩:=lY.1 h4;have e1:=ng (l:=l) (i:=i+1) (-1);have e2:=sY (-1) h;generalize ZS:bW (-1) (l.take i)=last at h1 h6 e2 ⊢;generalize C1:dz (-1) (l.take i)=pre at e2 ⊢;generalize dz (bW (-1) (l.take (i+1))) (l.drop (i+1))=post at e1;rw[e2]at e1 ⊢;have g1:=xf pre (dM ps++post) (n:=(d-last-1).toNat) (by omega);have g2:=uM (pre++put (d-last-1).toNat) post h7 (fun x hx=>by have:=h8 x hx;omega) (by omega);rw[show pre++put (d-last-1).toNat++(dM ps++post)=dz (-1) l from by rw[e1];simp]at g1;rw[←e1]at g2;unfold om;rw[g1];simp only[ne_eq,not_true_eq_false,if_false];have xd:((pre.length+(put (d-last-1).toNat).length:Nat):Int)=((pre++put (d-last-1).toNat).length:Int):=by simp
 rw[xd,g2];refine Prod.ext (Prod.ext ?_ rfl) (Prod.ext ?_ rfl)
 ·simp only;rw[ix (last+1) (by omega),ix _ (by omega)];omega
 ·simp;omega
theorem nh {l:List Int} {k:Nat} {x:Int} (p:Int→Bool) (h:l[k]? =some x):(l.drop k).all p=(p x&&(l.drop (k+1)).all p):=by
 obtain⟨h1,h2⟩:=au.1 h;rw[de h1,h2,List.all_cons]
theorem ko {l:List Po} {k:Nat} {d:Int} {ps:List Int} (h:l[k]? =some (d,ps)) (last:Int):
  dU last (l.drop k)=(decide (last<d)&&decide (d<2147483648)&& !ps.isEmpty&&lX ps&&dU d (l.drop (k+1))):=by
 obtain⟨h1,h2⟩:=au.1 h;rw[de h1,h2,dU]
theorem ta {l:List Po} {i:Nat} {d:Int} {ps:List Int} (h:l[i]? =some (d,ps)):gz (l.take (i+1))=gz (l.take i)+ps.length:=by
 obtain⟨h1,h2⟩:=au.1 h;rw[fi h1,h2,px];simp[gz]
theorem lZ (l:List Po):0≤gz l:=by
 induction l with
 |nil=>simp[gz]
 |cons p l ih=>simp only[gz,iE,List.sum_cons]at ih ⊢;omega
theorem yJ (l:List Po) (i:Nat):0≤gz (l.take i)∧gz (l.take i)≤gz l:=by
 refine⟨lZ _,?_⟩
 conv=>rhs;rw[←List.take_append_drop i l,px]
 have:=lZ (l.drop i);omega
theorem k4 (l:List Po) (i:Nat):(dz (-1) (l.take i)).length≤(dz (-1) l).length:=by
 rw[ng (l:=l) (i:=i) (-1)];simp
theorem Dd (l:List Po) (k:Nat):mJ l (k+1)=mJ l k++[py l k]:=by simp[mJ,List.range_succ]
theorem jf:∀(l:List Po) (last:Int),dU last l=true→last<2147483648→∀n:Nat,last≤bW last (l.take n)∧bW last (l.take n)<2147483648
 |[],last,_,h,n=>by simp[bW];exact h
 |(d,ps)::l,last,hm,h,0=>by simp[bW];exact h
 |(d,ps)::l,last,hm,h,n+1=>by
  simp only[dU,bC,decide_eq_true_eq]at hm;obtain⟨⟨⟨⟨h1,h2⟩,h3⟩,h4⟩,h5⟩:=hm;have:=jf l d h5 h2 n;simp only[iR,bW];omega
theorem Ul {M:az} {w:World} {a b c d:Int} (ha: -9223372036854775808≤a∧a≤9223372036854775807) (hb: -9223372036854775808≤b∧b≤9223372036854775807) (hc: -9223372036854775808≤c∧c≤9223372036854775807) (hd: -9223372036854775808≤d∧d≤9223372036854775807):
  RT.bl.V M w (a,b,c,d) (.agg [.int .i64 a,.int .i64 b,.int .i64 c,.int .i64 d].toArray):=
 ⟨_,⟨[.int .i64 a],[.int .i64 b,.int .i64 c,.int .i64 d],rfl,⟨rfl,ha⟩,[.int .i64 b],[.int .i64 c,.int .i64 d],rfl,⟨rfl,hb⟩,[.int .i64 c],[.int .i64 d],rfl,⟨rfl,hc⟩,⟨rfl,hd⟩⟩,rfl⟩
theorem O9 {M:az} {w:World} {bx:Nat} {b:List UInt8} {ks:List Bl} {tot:Int} {vb vk:Value} {e:TypeId} {fr:Nat×Nat} (hx:w.heap[bx]? =some (.cells #[vb,vk,.int .i64 tot] e fr)) (hm: ¬M bx) (hb:(RT.u8.sl).V M w b vb) (hk:((RT.bl).sl).V M w ks vk) (ht: -9223372036854775808≤tot∧tot≤9223372036854775807):
  ch RT.li M w (.pointer (some ⟨bx,0,none⟩)) (b,ks,tot):=
 ⟨bx,0,[vb,vk,.int .i64 tot],rfl,hm,⟨[vb],[vk,.int .i64 tot],rfl,kn hb rfl rfl,[vk],[.int .i64 tot],rfl,kn hk rfl rfl,⟨rfl,ht⟩⟩,fun j v hj=>gS hx (by simpa using hj)⟩
theorem EV {l:List Po} {i:Nat} (h8:i%8=0) (hi:i<l.length):mJ l ((i+7)/8)++[(((dz (-1) (l.take i)).length:Int),bW (-1) (l.take i),bW (-1) (l.take (min (i+8) l.length)),(((l.drop i).take 8).length:Int))]=mJ l ((min (i+8) l.length+7)/8):=by
 rw[show(min (i+8) l.length+7)/8=(i+7)/8+1 from by omega,Dd];have e:8*((i+7)/8)=i:=by omega
 have e2:l.take (i+8)=l.take (min (i+8) l.length):=by rw[qc];omega
 simp only[py,e,e2]
theorem ni:∀(l:List Po) (last:Int) (n m:Nat),dU last l=true→last<2147483648→n≤m→bW last (l.take n)≤bW last (l.take m)
 |[],last,n,m,_,_,_=>by simp
 |(d,ps)::l,last,0,m,hm,h,_=>by
  have:=(jf ((d,ps)::l) last hm h m).1;simpa[bW]using this
 |(d,ps)::l,last,n+1,0,_,_,h=>by omega
 |(d,ps)::l,last,n+1,m+1,hm,h,Um=>by
  simp only[dU,bC,decide_eq_true_eq]at hm;obtain⟨⟨⟨⟨h1,h2⟩,h3⟩,h4⟩,h5⟩:=hm;simpa[bW]using ni l d n m h5 h2 (by omega)
theorem yK {g:List Po} {k:Nat} (hk:k<(g.length+7)/8):yI (hU g).2.1 (k:Int)=bW (-1) (g.take (8*k+8)):=by
 have hl:(hU g).2.1.length=(g.length+7)/8:=by simp[hU,mJ]
 have hb:(hU g).2.1[k]? =some (py g k):=by simp only[hU,mJ,eE];rw[List.getElem?_range hk];rfl
 unfold yI ET;rw[if_pos (by rw[hl];simp;omega),aC,bT,hb];rfl
end Go.K
namespace Go.K
section
variable {P:Program} {r:Option Nat} {n:Nat} {L:Sl} {ds:List Deferred} {w:World} {K:Kt} {ops:Array Oper} {rest:List Oper} {d:Nat} {x y:Operand} {ty:TypeId} {pos:String} {af:Array Edge}
theorem Rg.pz {t t' e:TypeId} {p:Option Addr} (ht:P.underlying t=some (.pointer e)) (hx:ev L x=some (.pointer p)) (hy:ev L y=some (.pointer none)) (hd:Nat.blt d n=true)
  (k:Rg P r n ops rest ((d,.bool (decide (p=none)))::L) ds w K):
  Rg P r n ops ({dst:=some d,op:= .binOp .eql t x y t',type:=ty,pos,after:=af,guard:=none}::rest) L ds w K:=
 .op (fun _ h=>by cases h) rfl rfl hd _ w (fun ρ h=>by
  have Uk:P.underlying t=some (.pointer (P.pointee t)):=by simp[Program.pointee,ht]
  have he:=run_equal_pointer_nil (P:=P) w t p Uk;simp only[execOp];rw[h x _ hx,h y _ hy]
  cases p<;>simp[eqGuard,binOp,run_underlying ht,he]) k
end
end Go.K
namespace Go.K
def idx:List Po→Int→Nat
 |[],_=>0
 |p::l,to=>if p.1<to then idx l to+1 else 0
theorem EW:∀(l:List Po) (to:Int),idx l to≤l.length
 |[],_=>a8 _
 |p::l,to=>by
  have:=EW l to;simp only[idx,cv];split<;>omega
theorem AO:∀{l:List Po} {to:Int} {j:Nat} {p:Po},j<idx l to→l[j]? =some p→p.1<to
 |[],_,_,_,h,_=>by simp[idx]at h
 |q::l,to,j,p,h,hp=>by
  simp only[idx]at h
  split at h
  ·cases j with
   |zero=>simp at hp;subst hp;assumption
   |succ j=>exact AO (l:=l) (j:=j) (by omega) (by simpa using hp)
  ·omega
theorem xg:∀{l:List Po} {to:Int} {p:Po},l[idx l to]? =some p→to≤p.1
 |[],_,_,h=>by simp[idx]at h
 |q::l,to,p,h=>by
  simp only[idx]at h
  split at h
  ·exact xg (by simpa using h)
  ·simp at h;subst h;omega
theorem Cg:∀{l:List Po} {to:Int} {e:Nat} {p:Po},l[e]? =some p→to≤p.1→idx l to≤e
 |[],_,_,_,h,_=>by simp at h
 |q::l,to,e,p,h,hp=>by
  simp only[idx]
  split
  ·cases e with
   |zero=>simp at h;subst h;omega
   |succ e=>have:=Cg (l:=l) (e:=e) (by simpa using h) hp;omega
  ·omega
theorem idx_eq {l:List Po} {to:Int} {i:Nat} (h1:∀j,j<i→∀p,l[j]? =some p→p.1<to) (h2:∀p,l[i]? =some p→to≤p.1) (h3:i≤l.length):idx l to=i:=by
 rcases iy (idx l to) i with h|h|h
 ·have hx:l[idx l to]? =some l[idx l to]:=aL (by omega);have:=xg hx;have:=h1 _ h _ hx;omega
 ·exact h
 ·have:=EW l to;have hx:l[i]? =some l[i]:=aL (by omega);have:=AO h hx;have:=h2 _ hx;omega
def eI (l:List Po) (i:Int):Int:=if i<0 then-1 else match l[i.toNat]? with|some p=>p.1|none=>2147483648
def lB (l:List Po) (i:Int):List Int:=if i<0 then[]else match l[i.toNat]? with|some p=>p.2|none=>[]
def jF (l:List Po) (i:Int):List Po:=if i<0 then[]else(l.drop i.toNat).take (8-i.toNat%8)
def qz (l:List Po) (i to:Int):Int:=if to≤eI l i then i else idx l to
theorem l0 {l:List Po} {i:Nat} {d:Int} {ps:List Int} (hm:dU (-1) l=true) (h:l[i]? =some (d,ps)):0≤d∧d<2147483648:=by
 obtain⟨f1,f2,f3,f4,f5,f6⟩:=nf hm h;omega
theorem ir {l:List Po} {i:Nat} {d:Int} {ps:List Int} (h:l[i]? =some (d,ps)):eI l (i:Int)=d:=by
 unfold eI;rw[if_neg (by omega),aC,h]
theorem De {l:List Po} {i:Int} (h:i<0):eI l i= -1:=by unfold eI;rw[if_pos h]
theorem qA {l:List Po} {i:Int} (h:(l.length:Int)≤i):eI l i=2147483648:=by
 unfold eI;rw[if_neg (by omega),fI (by omega)]
theorem ju (l:List Po) (i:Int):(i<0∧eI l i= -1∧lB l i=[])∨(∃j:Nat,∃d ps,i=j∧l[j]? =some (d,ps)∧eI l i=d∧lB l i=ps)∨((l.length:Int)≤i∧eI l i=2147483648∧lB l i=[]):=by
 by_cases h0:i<0
 ·exact .inl ⟨h0,De h0,by unfold lB;rw[if_pos h0]⟩
 ·by_cases h1:(l.length:Int)≤i
  ·exact .inr (.inr ⟨h1,qA h1,by unfold lB;rw[if_neg h0,fI (by omega)]⟩)
  ·obtain⟨j,rfl⟩:∃j:Nat,i=j:=⟨i.toNat,by omega⟩;obtain⟨⟨d,ps⟩,hx⟩:∃x,l[j]? =some x:=⟨_,aL (by omega)⟩;exact .inr (.inl ⟨j,d,ps,rfl,hx,ir hx,by unfold lB;rw[if_neg h0,aC,hx]⟩)
theorem vN {l:List Po} (hm:dU (-1) l=true) (i:Int): -1≤eI l i∧eI l i≤2147483648:=by
 rcases ju l i with⟨_,h,_⟩|⟨j,d,ps,rfl,hx,h,_⟩|⟨_,h,_⟩
 ·omega
 ·have:=l0 hm hx;omega
 ·omega
theorem vP {g:List Po} {i:Nat} {d:Int} {ps:List Int} (h:g[i]? =some (d,ps)) (last:Int):bW last (g.take (i+1))=d:=by
 obtain⟨h1,h2⟩:=au.1 h;rw[fi h1,h2,uN];rfl
theorem xh {l:List Po} (hm:dU (-1) l=true) {t s:Nat} {p:Po} (hp:l[t]? =some p) (C6:t<s):p.1≤bW (-1) (l.take s):=by
 obtain⟨d,ps⟩:=p;rw[←vP hp (-1)];exact ni l (-1) (t+1) s hm (by decide) C6
theorem Ch {l:List Po} (hm:dU (-1) l=true) {t s:Nat} {p q:Po} (hp:l[t]? =some p) (hq:l[s]? =some q) (C6:t<s):p.1<q.1:=by
 obtain⟨e,qs⟩:=q;have h1:=xh hm hp C6;have h2:=(nf hm hq).1;omega
theorem vQ {l lf:List Po} (hm:dU (-1) l=true) {s k:Nat} {to:Int} (h1:8*k≤s) (h2:s<8*k+8) (hs:s<l.length) (Ef:bW (-1) (l.take s)<to) (Pb:to≤bW (-1) (l.take (8*k+8)))
  (Ln:lf=(l.drop s).take (8*k+8-s)):idx l to=s+idx lf to∧idx lf to<lf.length∧idx l to<l.length∧idx l to/8=k∧lf.drop (idx lf to)=jF l (idx l to:Nat):=by
 have Ob:s≤idx l to:=by
  rcases cB (idx l to) s with h|h
  ·have hx:l[idx l to]? =some l[idx l to]:=aL (by omega);have:=xg hx;have:=xh hm hx h;omega
  ·exact h
 obtain⟨⟨d,ps⟩,he⟩:∃x,l[min (8*k+8) l.length-1]? =some x:=⟨_,aL (by omega)⟩
 have hde:bW (-1) (l.take (8*k+8))=d:=by
  rw[←vP he (-1),show l.take (8*k+8)=l.take (min (8*k+8) l.length-1+1)from by rw[qc];omega]
 have qg:=Cg he (to:=to) (by simp only;omega);have HZ:lf.length=min (8*k+8-s) (l.length-s):=by rw[Ln,bG,cL]
 have fL:∀t,t<lf.length→lf[t]? =l[s+t]? :=fun t ht=>by rw[Ln,dr,if_pos (by omega),List.getElem?_drop]
 have La:idx lf to=idx l to-s:=by
  refine idx_eq (fun j hj p hp=>?_) (fun p hp=>?_) (by omega)
  ·have oK:=(au.1 hp).1;rw[fL j oK]at hp;exact AO (by omega) hp
  ·have oK:=(au.1 hp).1;rw[fL _ oK,show s+(idx l to-s)=idx l to from by omega]at hp;exact xg hp
 refine⟨by omega,by omega,by omega,by omega,?_⟩;unfold jF;rw[if_neg (by omega),aC,La,Ln,List.drop_take,List.drop_drop,show s+(idx l to-s)=idx l to from by omega,qc,cL];omega
theorem Ic {l:List Po} (hm:dU (-1) l=true) {to:Int} {n:Nat} (hn:l.length≤n) (Ef:bW (-1) (l.take n)<to):idx l to=l.length:=by
 refine idx_eq (fun j hj p hp=>?_) (fun p hp=>?_) (a8 _)
 ·have:=xh hm hp (s:=n) (by omega);omega
 ·simp at hp
theorem Df {l:List Po} (hm:dU (-1) l=true) {i k to:Int} (hi: -1≤i∧i≤l.length) (hk: -1≤k∧k<((l.length+7)/8:Nat)) (Pc:i<0→k= -1) (og:0≤i→i<l.length→k=i/8) (K9:eI l i<to):
  bW (-1) (l.take (8*(max k 0).toNat))<to:=by
 rcases ju l i with⟨h0,h,_⟩|⟨j,d,ps,rfl,hx,h,_⟩|⟨h0,h,_⟩
 ·rw[Pc h0];simp only[show(max (-1:Int) 0).toNat=0 from by decide,Nat.mul_zero,List.take_zero,bW];omega
 ·have hj:=(au.1 hx).1;have uK:=og (by omega) (by omega);have h2:=(nf hm hx).1;have h3:=ni l (-1) (8*(max k 0).toNat) j hm (by decide) (by omega);omega
 ·have:=(jf l (-1) hm (by decide) (8*(max k 0).toNat)).2;omega
def Cu (T:TypeId) (l:List Po) (i:Int) (M:az) (w:World) (bc:Nat):Prop:=
 ∃(p u:Value) (k Eg:Int),M bc∧w.heap[bc]? =some (.cells #[p,.int .i64 k,u,.int .i64 (eI l i),.int .i64 Eg] T (0,0))∧ch RT.li M w p (hU l)∧((RT.po).sl).V M w (jF l i) u∧
  (-1≤i∧i≤l.length)∧(-1≤k∧k<((l.length+7)/8:Nat))∧(i<0→k= -1)∧(0≤i→i<l.length→k=i/8)
theorem Cu.step {T:TypeId} {l:List Po} {i:Int} {M M' N:az} {w w':World} {bc:Nat} (h:Cu T l i M w bc) (s:Step M w M' w' N) (hn: ¬N bc):Cu T l i M' w' bc:=by
 obtain⟨p,u,k,Eg,h1,h2,h3,h4,h5⟩:=h;exact⟨p,u,k,Eg,(s.mem bc (ak h2)).2 h1,s.bE h2 hn,h3.le (by decide) s.le,h4.le s.le,h5⟩
theorem Lo {M:az} {w:World} {d:Int} {ps:List Int} {v:Value} (h:RT.po.V M w (d,ps) v):∃u,v= .agg #[.int .i64 d,u]∧u.oneCell'=true∧(-9223372036854775808≤d∧d≤9223372036854775807):=by
 obtain⟨vs,⟨va,vb,rfl,⟨rfl,hd⟩,hb⟩,rfl⟩:=h;obtain⟨a,cap,rfl,_⟩:=hb;exact⟨_,rfl,rfl,hd⟩
end Go.K
namespace Go.K
section
variable {P:Program} {r:Option Nat} {n:Nat} {L:Sl} {ds:List Deferred} {w:World}
theorem xi {fn:Func} {Q:Value→World→Prop} {c t b:Nat} {vs:List Value} {fs:TypeDesc} {e:TypeId} {fr:Nat×Nat} {zv:Value} {size bytes:Nat} (hr:fn.results= #[.cell c t]) (hc:lk L c=some (.pointer (some ⟨b,0,none⟩))) (hu:P.underlying t=some fs) (hf:fs.isRow=true) (hi:TI P t zv size bytes) (hl:vs.length=size)
  (hb:w.heap[b]? =some (.cells vs.toArray e fr)) (h:Q (.agg vs.toArray) w):sw P fn Q .ret L [] w:=
 ⟨rfl,fun a ha=>⟨_,by
  obtain⟨i,vE,_,Az,_⟩:=hi.get;have Lk:w.rangeAt b 0 vs:=fun j v hj=>gS hb (by simpa using hj)
  have:=run_loadVar_mid (P:=P) w b 0 t vs fs Lk hu hf (by simp[vE,Az,hl]);simp[results,hr,ha _ _ hc,asAddr,this,cQ],h⟩⟩
end
end Go.K
namespace Go.K
section
variable {P:Program} {r:Option Nat} {n:Nat} {L:Sl} {ds:List Deferred} {w:World} {K:Kt} {ops:Array Oper} {rest:List Oper} {d:Nat} {x y i:Operand} {ty:TypeId} {pos:String} {af:Array Edge}
theorem Rg.yL {t e:TypeId} {κ:IntKind} {j:Int} {b len cap bytes:Nat} {zv:Value} (ht:P.underlying t=some (.slice e)) (hi:TI P e zv 1 bytes) (hx:ev L x=some (.slice (some ⟨b,0,none⟩) len cap)) (Ev:ev L i=some (.int κ j)) (hd:Nat.blt d n=true) (hj:0≤j∧j<len)
  (k:Rg P r n ops rest ((d,.pointer (some ⟨b,j.toNat,none⟩))::L) ds w K):
  Rg P r n ops ({dst:=some d,op:= .indexAddr t x i,type:=ty,pos,after:=af,guard:=none}::rest) L ds w K:=
 .op (fun _ h=>by cases h) rfl rfl hd _ w (fun ρ h=>by
  simp only[execOp,h x _ hx,h i _ Ev];simp[Instr.indexAt,run_underlying ht,asIntOf,hj,hi.sizeOf,Addr.add_mid]) k
theorem Rg.Lq {t e:TypeId} {κ:IntKind} {j:Int} {b len bytes:Nat} {zv:Value} (ht:P.underlying t=some (.array len e)) (hi:TI P e zv 1 bytes) (hx:ev L x=some (.pointer (some ⟨b,0,none⟩))) (Ev:ev L i=some (.int κ j)) (hd:Nat.blt d n=true) (hj:0≤j∧j<len)
  (k:Rg P r n ops rest ((d,.pointer (some ⟨b,j.toNat,none⟩))::L) ds w K):
  Rg P r n ops ({dst:=some d,op:= .indexAddr t x i,type:=ty,pos,after:=af,guard:=none}::rest) L ds w K:=
 .op (fun _ h=>by cases h) rfl rfl hd _ w (fun ρ h=>by
  simp only[execOp,h x _ hx,h i _ Ev];simp[Instr.indexAt,run_underlying ht,asIntOf,hj,hi.sizeOf,Addr.add_mid,Instr.sureAddr]) k
theorem Rg.mk0 {t e:TypeId} {len:Nat} {bytes:Nat} {zv:Value} (M:az) (ht:P.underlying t=some (.slice e)) (hi:TI P e zv 1 bytes) (hz:zv.cells= #[zv]) (hx:ev L x=some (.int .i64 len)) (hy:ev L y=some (.int .i64 len)) (hd:Nat.blt d n=true) (hb:bytes*len≤140737488355328) (hl:len≤9223372036854775807)
  (k:∀b w',w.heap.size≤b→b<w'.heap.size→w'.heap[b]? =some (.cells (List.replicate len zv).toArray e (0,0))→Step M w (ins M b) w' aA→Rg P r n ops rest ((d,.slice (some ⟨b,0,none⟩) len len)::L) ds w' K):
  Rg P r n ops ({dst:=some d,op:= .makeSlice t x y,type:=ty,pos,after:=af,guard:=none}::rest) L ds w K:=by
 obtain⟨inf,i1,i2,i3,i4⟩:=hi.get
 have hm:madeCells zv.cells (len*1)=(List.replicate len zv).toArray:=by
  apply Array.ext
  ·simp[madeCells]
  ·intro j h1 h2;simp[madeCells,hz,Nat.mod_one]
 refine .op (fun _ h=>by cases h) rfl rfl hd (.slice (some ⟨w.heap.size,0,none⟩) len len) (w.alloc (.cells (List.replicate len zv).toArray e)) (fun ρ hρ=>?_) (k w.heap.size _ (a8 _) (by simp) (cu w _) ((cU M w _).own (a8 _) (by simp)))
 have ZT:(inf.bytes:Int)*(len:Int)≤281474976710656:=by
  rw[i4];have h1:((bytes*len:Nat):Int)≤281474976710656:=by omega
  rwa [Int.natCast_mul]at h1
 have hr:=run_make (P:=P) w t e inf zv ht i1 i2 .i64 .i64 (len:Int) (len:Int) (by omega) (Int.le_refl _) ZT (by omega);simp only[aC,i3,hm]at hr;simp only[execOp,hρ x _ hx,hρ y _ hy];simp[cQ,hr]
theorem Rg.Pd {xt:TypeId} {p:Nat} (hx:ev L x=some (.int .u64 p)) (hd:Nat.blt d n=true) (hp:p<2^64) (k:Rg P r n ops rest ((d,.int .u64 ((2^64-1-p:Nat):Int))::L) ds w K):
  Rg P r n ops ({dst:=some d,op:= .unOp .xor xt x,type:=ty,pos,after:=af,guard:=none}::rest) L ds w K:=by
 refine .op (fun _ h=>by cases h) rfl rfl hd _ w (fun ρ h=>?_) k
 have e:(2^64-1:Nat)^^^p=2^64-1-p:=by
  apply Nat.eq_of_testBit_eq;intro j;have h1:=Nat.testBit_two_pow_sub_succ (x:=p) (n:=64) hp j;rw[show 2^64-1-p=2^64-(p+1)from by omega,h1,Nat.testBit_xor,Nat.testBit_two_pow_sub_one];by_cases hj:j<64
  ·simp[hj]
  ·have:p.testBit j=false:=Nat.testBit_lt_two_pow (jz hp (kX (by decide) (by omega)));simp[hj,this]
 simp only[execOp,h x _ hx]
 have hb:(BitVec.ofInt IntKind.u64.bits IntKind.u64.max^^^BitVec.ofInt IntKind.u64.bits (p:Int)).toNat=2^64-1-p:=by
  rw[BitVec.toNat_xor,mU,mU];have h1:(IntKind.u64.max%((2^IntKind.u64.bits:Nat):Int)).toNat=2^64-1:=by decide
  have h2:((p:Int)%((2^IntKind.u64.bits:Nat):Int)).toNat=p:=by
   change((p:Int)%((18446744073709551616:Nat):Int)).toNat=p;omega
  rw[h1,h2,e]
 have hw:IntKind.u64.wrap ((2^64-1-p:Nat):Int)=((2^64-1-p:Nat):Int):=IntWalk.u64_in _ (by omega)
 have hu:(Op.unary .xor (.int .u64 (p:Int))).run P w= .ok (.int .u64 ((2^64-1-p:Nat):Int)) w:=by
  change(Op.intBits .xor .u64 IntKind.u64.max (p:Int)).run P w=_;unfold Op.intBits;simp only[];rw[hb,hw];simp
 simp[hu]
theorem Rg.Un {xt:TypeId} {κ:IntKind} {p:Int} (hx:ev L x=some (.int κ p)) (hd:Nat.blt d n=true) (k:Rg P r n ops rest ((d,.int κ (κ.wrap (0-p)))::L) ds w K):
  Rg P r n ops ({dst:=some d,op:= .unOp .neg xt x,type:=ty,pos,after:=af,guard:=none}::rest) L ds w K:=by
 refine .op (fun _ h=>by cases h) rfl rfl hd _ w (fun ρ h=>?_) k;simp only[execOp,h x _ hx];simp[Op.unary,Op.intArith]
theorem AP (p q:Nat) (hp:p<2^64) (hq:q<2^64):IntKind.u64.wrap (BitVec.ofInt IntKind.u64.bits (p:Int)&&&BitVec.ofInt IntKind.u64.bits (q:Int)).toNat=((p&&&q:Nat):Int):=by
 have h:∀z:Nat,z<2^64→((z:Int)%((2^IntKind.u64.bits:Nat):Int)).toNat=z:=fun z hz=>by
  change((z:Int)%((18446744073709551616:Nat):Int)).toNat=z;omega
 rw[BitVec.toNat_and,mU,mU,h p hp,h q hq];exact IntWalk.u64_in _ (by have:=Nat.and_le_left (n:=p) (m:=q);omega)
theorem Pe (p q:Nat) (hp:p<2^64) (hq:q<2^64):IntKind.u64.wrap (BitVec.ofInt IntKind.u64.bits (p:Int)^^^BitVec.ofInt IntKind.u64.bits (q:Int)).toNat=((p^^^q:Nat):Int):=by
 have h:∀z:Nat,z<2^64→((z:Int)%((2^IntKind.u64.bits:Nat):Int)).toNat=z:=fun z hz=>by
  change((z:Int)%((18446744073709551616:Nat):Int)).toNat=z;omega
 rw[BitVec.toNat_xor,mU,mU,h p hp,h q hq];exact IntWalk.u64_in _ (by have:=Nat.xor_lt_two_pow hp hq;omega)
end
def bit (ws:List Nat) (i:Nat):Bool:=(ws.getD (i/64) 0).testBit (i%64)
def Words (ws:List Nat):Prop:=∀x∈ws,x<2^64
theorem Words.get {ws:List Nat} (h:Words ws) (k:Nat):ws.getD k 0<2^64:=by
 rw[bT]
 cases hx:ws[k]? with
 |none=>simp
 |some x=>exact h x (aN hx)
theorem yM (ws:List Nat) (k j x:Nat) (hk:k<ws.length):(ws.set k x).getD j 0=if j=k then x else ws.getD j 0:=by
 rw[bT,bT,dN];by_cases h:k=j
 ·subst h;simp[hk]
 ·rw[if_neg h,if_neg (fun e=>h e.symm)]
theorem Words.set {ws:List Nat} (h:Words ws) {k x:Nat} (hx:x<2^64):Words (ws.set k x):=fun y hy=>by
 rcases List.mem_or_eq_of_mem_set hy with h1|h1
 ·exact h y h1
 ·rw[h1];exact hx
theorem EX {ws:List Nat} (hw:Words ws) {i:Nat} (hi:i/64<ws.length) (j:Nat):bit (ws.set (i/64) (ws.getD (i/64) 0^^^2^(i%64))) j=(bit ws j ^^ decide (j=i)):=by
 unfold bit;rw[yM _ _ _ _ hi];by_cases h:j/64=i/64
 ·rw[if_pos h,Nat.testBit_xor,Nat.testBit_two_pow,h];congr 1;exact decide_eq_decide.2 (by omega)
 ·rw[if_neg h,decide_eq_false (by intro e;rw[e]at h;exact h rfl),Bool.xor_false]
theorem yN (x i t:Nat):(x/2^i).testBit t=x.testBit (t+i):=Nat.testBit_div_two_pow x t
theorem EY:∀x:Nat,0<x→∃k m,x=2^k*(2*m+1):=by
 intro x
 induction x using Nat.strongRecOn with
 |_ x ih=>
  intro h;by_cases h2:x%2=1
  ·exact⟨0,x/2,by omega⟩
  ·obtain⟨k,m,e⟩:=ih (x/2) (by omega) (by omega);refine⟨k+1,m,?_⟩;rw[Nat.pow_succ,Nat.mul_right_comm,←e];omega
theorem EZ (m:Nat):(2*m+1).testBit 0=true:=by rw[Nat.testBit_zero];exact decide_eq_true (by omega)
theorem Ie (m:Nat):(2*m).testBit 0=false:=by rw[Nat.testBit_zero];exact decide_eq_false (by omega)
theorem xj {k m:Nat}:(2^k*(2*m+1)).testBit k=true∧∀t,t<k→(2^k*(2*m+1)).testBit t=false:=by
 have h:=fun j=>Nat.testBit_two_pow_mul_add (2*m+1) (b:=0) (i:=k) (Nat.two_pow_pos k) j
 simp only[Nat.add_zero]at h;constructor
 ·rw[h k,if_neg (by omega),Nat.sub_self,EZ]
 ·intro t ht;rw[h t,if_pos ht,Nat.zero_testBit]
theorem Ig {k m:Nat} (hx:2^k*(2*m+1)<2^64):(2^k*(2*m+1))&&&(2^64-2^k*(2*m+1))=2^k:=by
 have hp:=Nat.two_pow_pos k;have wU:0<2^k*(2*m+1):=Nat.mul_pos hp (by omega)
 have e1:2^64-2^k*(2*m+1)=2^64-((2^k*(2*m)+(2^k-1))+1):=by
  have:2^k*(2*m+1)=2^k*(2*m)+2^k:=by rw[Nat.mul_add,Nat.mul_one]
  omega
 apply Nat.eq_of_testBit_eq;intro j
 have e2:2^k*(2*m)+(2^k-1)<2^64:=by
  have:2^k*(2*m+1)=2^k*(2*m)+2^k:=by rw[Nat.mul_add,Nat.mul_one]
  omega
 rw[Nat.testBit_and,e1,Nat.testBit_two_pow_sub_succ e2,Nat.testBit_two_pow_mul_add _ (by omega),Nat.testBit_two_pow_sub_one,Nat.testBit_two_pow];have h:=Nat.testBit_two_pow_mul_add (2*m+1) (b:=0) (i:=k) hp j;simp only[Nat.add_zero]at h;rw[h];rcases iy j k with h1|h1|h1
 ·rw[if_pos h1,Nat.zero_testBit,fS,decide_eq_false (by omega)]
 ·subst h1
  have hj:j<64:=by
   rcases cB j 64 with h2|h2
   ·exact h2
   ·have:=kX (n:=2) (by decide) h2;have:2^j*1≤2^j*(2*m+1):=Nat.mul_le_mul_left _ (by omega);omega
  rw[if_neg (iF _),if_neg (iF _),Nat.sub_self,EZ,Ie,decide_eq_true hj,decide_eq_true rfl];rfl
 ·rw[if_neg (by omega),if_neg (by omega),decide_eq_false (show¬k=j by omega)];obtain⟨t,rfl⟩:∃t,j=k+(t+1):=⟨j-k-1,by omega⟩;rw[show k+(t+1)-k=t+1 from by omega,Nat.testBit_succ,Nat.testBit_succ,show(2*m+1)/2=m from by omega,show 2*m/2=m from by omega]
  cases m.testBit t<;>simp
def E0:List Nat:=[0,1,56,2,57,49,28,3,61,58,42,50,38,29,17,4,62,47,59,36,45,43,51,22,53,39,33,30,24,18,12,5,63,55,48,27,60,41,37,16,46,35,44,21,52,32,23,11,54,26,40,15,34,20,31,10,25,14,19,9,13,8,7,6]
theorem Lr:∀k,k<64→(2^k*285870213051353865)%2^64/2^58<64∧E0[(2^k*285870213051353865)%2^64/2^58]? =some k:=by decide+kernel
theorem xk (n:Nat):IntKind.u64.wrap (n:Int)=((n%2^64:Nat):Int):=by
 have:IntKind.u64.wrap (n:Int)=(n:Int)%18446744073709551616:=by simp[IntKind.wrap,IntKind.bits,IntKind.signed]
 rw[this];omega
theorem Ls (x t:Nat) (ht:t<64):((x:Int)).fdiv (2^min ((t:Int)).toNat IntKind.u64.bits)=((x/2^t:Nat):Int):=by
 rw[aC,show min t IntKind.u64.bits=t from Nat.min_eq_left (show t≤64 by omega),show(2:Int)^t=((2^t:Nat):Int)from by simp,Int.fdiv_eq_ediv_of_nonneg _ (Int.natCast_nonneg _)];rfl
theorem Pf (t:Nat) (ht:t<64):IntKind.u64.wrap (1*2^min ((t:Int)).toNat IntKind.u64.bits)=((2^t:Nat):Int):=by
 have h:(2:Nat)^t<2^64:=Nat.pow_lt_pow_right (by decide) ht;rw[aC,show min t IntKind.u64.bits=t from Nat.min_eq_left (show t≤64 by omega),Int.one_mul,show(2:Int)^t=((2^t:Nat):Int)from by simp,xk,ll h]
def l1 (ws:List Nat):Array Value:=(ws.map fun(x:Nat)=>Value.int .u64 (x:Int)).toArray
theorem gA {ws:List Nat} {k:Nat} (hk:k<ws.length):(l1 ws)[k]? =some (.int .u64 (ws.getD k 0:Nat)):=by
 simp[l1,bT,aL hk]
theorem oQ (ws:List Nat) (k x:Nat):(l1 ws).setIfInBounds k (.int .u64 (x:Int))=l1 (ws.set k x):=by
 simp[l1,List.map_set]
structure fR (Ts Tw:TypeId) (n:Nat) (ws:List Nat) (M:az) (w:World) (bs bw:Nat):Prop where
 ms:M bs
 mw:M bw
 ne:bs≠bw
 s:w.heap[bs]? =some (.cells #[.int .i64 n,.slice (some ⟨bw,0,none⟩) ws.length ws.length] Ts (0,0))
 w:w.heap[bw]? =some (.cells (l1 ws) Tw (0,0))
 len:ws.length=(n+63)/64
 ok:Words ws
 nn:n≤1099511627776
theorem fR.step {Ts Tw:TypeId} {n:Nat} {ws:List Nat} {M M' N:az} {w w':World} {bs bw:Nat} (h:fR Ts Tw n ws M w bs bw) (s:Step M w M' w' N) (h1: ¬N bs) (h2: ¬N bw):fR Ts Tw n ws M' w' bs bw:=
 ⟨(s.mem bs (ak h.s)).2 h.ms,(s.mem bw (ak h.w)).2 h.mw,h.ne,s.bE h.s h1,s.bE h.w h2,h.len,h.ok,h.nn⟩
theorem fR.put {Ts Tw:TypeId} {n:Nat} {ws rp:List Nat} {M:az} {w w':World} {bs bw:Nat} (h:fR Ts Tw n ws M w bs bw) (s:Step M w M w' (fun b=>b=bw)) (hl:rp.length=ws.length) (hw:w'.heap[bw]? =some (.cells (l1 rp) Tw (0,0))) (ok:Words rp):fR Ts Tw n rp M w' bs bw:=
 ⟨h.ms,h.mw,h.ne,by rw[hl];exact s.bE h.s h.ne,hw,by rw[hl];exact h.len,ok,h.nn⟩
def JY (n:Nat) (ws:List Nat) (i:Int):Bool:=decide (0≤i∧i<n)&&bit ws i.toNat
section
variable {P:Program} {r:Option Nat} {n:Nat} {L:Sl} {ds:List Deferred} {w:World} {K:Kt} {ops:Array Oper} {rest:List Oper} {d:Nat} {x:Operand} {ty:TypeId} {pos:String} {af:Array Edge}
theorem Rg.xl {t e:TypeId} {a:Option Addr} {l c:Nat} (ht:P.underlying t=some (.slice e)) (hx:ev L x=some (.slice a l c)) (hd:Nat.blt d n=true)
  (k:Rg P r n ops rest ((d,.int .i64 (l:Int))::L) ds w K):
  Rg P r n ops ({dst:=some d,op:= .call {callee:= .builtin .len,args:= #[x],argTypes:= #[t]},type:=ty,pos,after:=af,guard:=none}::rest) L ds w K:=by
 refine .op (fun _ h=>by cases h) rfl rfl hd _ w (fun ρ h=>?_) k;simp[execOp,resolve,invoke,builtin,h x _ hx,Builtin.len_,run_underlying ht,goInt]
end
theorem xm (ws:List Nat) {k x:Nat} (hk:k<ws.length) (j:Nat):bit (ws.set k x) j=if j/64=k then x.testBit (j%64)else bit ws j:=by
 unfold bit;rw[yM _ _ _ _ hk]
 split<;>rfl
theorem E1 {x t:Nat} (hx:x<2^64) (ht:t<64):(2^64-1-x).testBit t= !x.testBit t:=by
 rw[show 2^64-1-x=2^64-(x+1)from by omega,Nat.testBit_two_pow_sub_succ hx,decide_eq_true ht,dx]
theorem Ih {ws:List Nat} {j:Nat} (h:ws.length≤j/64):bit ws j=false:=by
 unfold bit;rw[bT,fI h];simp
theorem yO (k j:Nat):bit (List.replicate k 0) j=false:=by
 unfold bit;rw[bT,List.getElem?_replicate]
 split<;>simp
def JZ (ws:List Nat) (p:Nat) (r:Int):Prop:=(∃j:Nat,r=j∧p≤j∧bit ws j=true∧∀t,p≤t→t<j→bit ws t=false)∨(r= -1∧∀t,p≤t→bit ws t=false)
theorem tb {ws:List Nat} {i t:Nat} (h:i%64+t<64):bit ws (i+t)=(ws.getD (i/64) 0/2^(i%64)).testBit t:=by
 unfold bit;rw[yN,show(i+t)/64=i/64 from by omega,show(i+t)%64=t+i%64 from by omega]
theorem yP {x i:Nat} (hx:x<2^64) (hi:i<64) {k m:Nat} (h:x/2^i=2^k*(2*m+1)):i+k<64:=by
 rcases cB (i+k) 64 with h1|h1
 ·exact h1
 ·exfalso;have h2:(x/2^i).testBit k=true:=by rw[h];exact xj.1
  rw[yN]at h2;have:=Nat.testBit_lt_two_pow (jz hx (kX (n:=2) (by decide) (show 64≤k+i by omega)));rw[this]at h2;cases h2
end Go.K
namespace Go.K
abbrev Tw:=Int×Int×Int
end Go.K
namespace Go.K
open Go.RowKit (Below)
open Go.Maps (Keyed)
open Go.ChangeMaps (putKey delKey notKey)
abbrev DU:=DataW Unit
structure Lu (P:Program) (k:TypeId) (R:Value→Option (DU×List MemPlace)) (M:az) (w:World) (b:Nat) (m:List (Lit×DU)):Prop where
 mut_:M b
 own:w.ownsMap P k R b m.length (.map m)
section
variable {P:Program} {r:Option Nat} {n:Nat} {L:Sl} {ds:List Deferred} {w:World} {K:Kt} {ops:Array Oper} {rest:List Oper} {d:Nat} {x y z:Operand} {ty:TypeId} {pos:String} {af:Array Edge}
variable {kt:TypeId} {R:Value→Option (DU×List MemPlace)} {M:az} {b:Nat} {m:List (Lit×DU)}
theorem Step.tc {w w':World} (h:Below w.heap.size w w') (M:az):Step M w M w' aA:=
 ⟨fun h0 b hb=>jz (h0 b hb) h.size,h.os,h.tape,h.output,h.size,fun _ _=>Iff.rfl,fun b hb _=>h.block b hb,fun _ h=>h.elim⟩
end
end Go.K
namespace Go.K
def allM:az:=fun _=>True
theorem Step.all {M M' N:az} {w w':World} (s:Step M w M' w' N):Step allM w allM w' N:=⟨fun h=>absurd (h w.heap.size trivial) (iF _),s.os,s.tape,s.output,s.size,fun _ _=>Iff.rfl,s.same,fun _ _=>trivial⟩
theorem Step.toAny {M M':az} {w w':World} (s:Step M w M' w' aA) (M1:az):Step M1 w M1 w' aA:=s.any M1
theorem ey.int {κ:IntKind} {M M':az} {w w':World}:∀{xs:List Int} {C:List Value},ey (RT.int κ) M w xs C→ey (RT.int κ) M' w' xs C
 |[],_,h=>h
 |x::xs,C,h=>by
  obtain⟨vs,r,h1,h2,h3⟩:=h;exact⟨vs,r,h1,h2,ey.int h3⟩
theorem Own.Ii {κ:IntKind} {e:TypeId} {M:az} {w:World} {base:Nat} {v:Value} {xs:List Int} (h:Own (RT.int κ) e M w base v xs) {M':az} (hm:∀b,v.ownBlock=some b→M' b):Own (RT.int κ) e M' w base v xs:=by
 obtain⟨⟨C,h1,h2⟩,_⟩:=h;exact⟨⟨C,h1,ey.int h2⟩,hm⟩
theorem Own.Pg {κ:IntKind} {e:TypeId} {N:az} {w w':World} {base:Nat} {v:Value} {xs:List Int} (h:Own (RT.int κ) e allM w base v xs) (s:Step allM w allM w' N) (hn:∀b,v.ownBlock=some b→¬N b):Own (RT.int κ) e allM w' base v xs:=by
 obtain⟨⟨C,h1,h2⟩,_⟩:=h;refine⟨⟨C,⟨h1.1,?_⟩,ey.int h2⟩,fun _ _=>trivial⟩;rcases h1.2 with h3|⟨g,cap,cur,h3,h4,h5,h6,h7,h8⟩
 ·exact .inl h3
 ·exact .inr ⟨g,cap,cur,h3,h4,by rw[s.same g (ak h5) (hn g (by rw[h3];rfl))];exact h5,h6,h7,h8⟩
def nY (v:Value):az:=fun b=>v.ownBlock=some b
theorem Own.lone {κ:IntKind} {e:TypeId} {M:az} {w:World} {base:Nat} {v:Value} {xs:List Int} (h:Own (RT.int κ) e M w base v xs):Own (RT.int κ) e (nY v) w base v xs:=h.Ii fun _ h=>h
end Go.K
namespace Go.K
def yQ (at':Nat→Nat) (cont:Nat→Bool):Nat×Nat:=
 if at' 0<0x80 then(at' 0,1)
 else if at' 0/32==6&&cont 1 then
  if(at' 0%32)*64+at' 1%64≥0x80 then((at' 0%32)*64+at' 1%64,2)else(65533,1)
 else if at' 0/16==14&&cont 1&&cont 2 then
  if(at' 0%16)*4096+(at' 1%64)*64+at' 2%64≥0x800&&Utf8.valid ((at' 0%16)*4096+(at' 1%64)*64+at' 2%64:Nat)then((at' 0%16)*4096+(at' 1%64)*64+at' 2%64,3)else(65533,1)
 else if at' 0/8==30&&cont 1&&cont 2&&cont 3 then
  if(at' 0%8)*262144+(at' 1%64)*4096+(at' 2%64)*64+at' 3%64≥0x10000&&Utf8.valid ((at' 0%8)*262144+(at' 1%64)*4096+(at' 2%64)*64+at' 3%64:Nat)then((at' 0%8)*262144+(at' 1%64)*4096+(at' 2%64)*64+at' 3%64,4)else(65533,1)
 else(65533,1)
theorem Dg (s:ByteArray) (i:Nat):Utf8.decode s i=yQ (fun k=>(s.get! (i+k)).toNat) (fun k=>decide (i+k<s.size)&&(s.get! (i+k)).toNat/64==2):=rfl
def iA (l:List UInt8) (k:Nat):Nat:=(l.getD k 0).toNat
def iu (l:List UInt8) (k:Nat):Bool:=decide (k<l.length)&&iA l k/64==2
def dec (l:List UInt8):Nat×Nat:=yQ (iA l) (iu l)
theorem Dh (l:List UInt8) (j:Nat):(⟨l.toArray⟩:ByteArray).get! j=l.getD j 0:=by
 show l.toArray[j]! =_;rw[bT,getElem!_def];simp only[j5]
 cases l[j]? <;>rfl
theorem AQ (l:List UInt8) (pos:Nat):Utf8.decode ⟨l.toArray⟩ pos=dec (l.drop pos):=by
 rw[Dg,dec]
 have h1:(fun k=>((⟨l.toArray⟩:ByteArray).get! (pos+k)).toNat)=iA (l.drop pos):=by
  funext k;rw[Dh,iA,bT,bT,List.getElem?_drop]
 have h2:(fun k=>decide (pos+k<(⟨l.toArray⟩:ByteArray).size)&&((⟨l.toArray⟩:ByteArray).get! (pos+k)).toNat/64==2)=iu (l.drop pos):=by
  funext k;have:=congrFun h1 k;rw[this,iu,cL];congr 1;have hs:(⟨l.toArray⟩:ByteArray).size=l.length:=by simp[ByteArray.size]
  rw[hs];exact decide_eq_decide.2 (by omega)
 rw[h1,h2]
theorem td {l:List UInt8} {k:Nat} (h:iu l k=true):k<l.length:=by
 simp only[iu,bC,decide_eq_true_eq]at h;exact h.1
theorem j3 {l:List UInt8} (hl:l≠[]):1≤(dec l).2∧(dec l).2≤l.length:=by
 have h0:0<l.length:=lN.2 hl;unfold dec yQ
 split
 ·exact⟨a8 _,h0⟩
 ·split
  ·rename_i h
   simp only[bC]at h;have:=td h.2
   split<;>(simp only;omega)
  ·split
   ·rename_i h
    simp only[bC]at h;have:=td h.2
    split<;>(simp only;omega)
   ·split
    ·rename_i h
     simp only[bC]at h;have:=td h.2
     split<;>(simp only;omega)
    ·exact⟨a8 _,h0⟩
theorem l2 (l:List UInt8) (k:Nat):iA l k<256:=by unfold iA;exact UInt8.toNat_lt _
theorem qB (l:List UInt8):(dec l).1≤1114111:=by
 unfold dec yQ
 split
 ·simp only;omega
 ·split
  ·have:=l2 l 0
   split<;>(simp only;omega)
  ·split
   ·have:=l2 l 0
    split<;>(simp only;omega)
   ·split
    ·split
     ·rename_i h
      simp only[bC,Utf8.valid,Bool.or_eq_true,decide_eq_true_eq]at h;simp only;omega
     ·simp only;omega
    ·simp only;omega
def eg (l:List UInt8):List Int:=match l with
 |[]=>[]
 |c::r=>((dec (c::r)).1:Int)::eg ((c::r).drop (dec (c::r)).2)
termination_by l.length
decreasing_by
 have:=(j3 (l:=c::r) (by simp)).1;simp only[cL,cv];omega
theorem nQ:eg []=[]:=by unfold eg;rfl
theorem l3 {l:List UInt8} (h:l≠[]):eg l=((dec l).1:Int)::eg (l.drop (dec l).2):=by
 cases l with
 |nil=>exact absurd rfl h
 |cons c r=>rw[eg]
theorem gj (l:List UInt8):(eg l).length≤l.length:=by
 induction hn:l.length using Nat.strongRecOn generalizing l with
 |_ n ih=>
  by_cases h:l=[]
  ·subst h;rw[nQ];simp
  ·rw[l3 h,cv];have hw:=j3 h;have:=ih _ (by rw[cL];omega) (l.drop (dec l).2) rfl;rw[cL]at this;omega
section
variable {P:Program} {r:Option Nat} {n:Nat} {L:Sl} {ds:List Deferred} {w:World} {K:Kt} {ops:Array Oper} {rest:List Oper} {d:Nat} {x:Operand} {ty:TypeId} {pos:String} {af:Array Edge}
theorem Rg.E2 {t:TypeId} {l:List UInt8} (M:az) (ht:P.underlying t=some .string) (hx:ev L x=some (.string ⟨l.toArray⟩)) (hd:Nat.blt d n=true)
  (k:∀b w',w.heap.size≤b→b<w'.heap.size→w'.heap[b]? =some (.stringIter ⟨l.toArray⟩ 0)→Step M w (ins M b) w' aA→Rg P r n ops rest ((d,.pointer (some ⟨b,0,none⟩))::L) ds w' K):
  Rg P r n ops ({dst:=some d,op:= .range t x,type:=ty,pos,after:=af,guard:=none}::rest) L ds w K:=by
 refine .op (fun _ h=>by cases h) rfl rfl hd (.pointer (some ⟨w.heap.size,0,none⟩)) (w.alloc (.stringIter ⟨l.toArray⟩ 0)) (fun ρ hρ=>?_) (k w.heap.size _ (a8 _) (by simp) (cu w _) ((cU M w _).own (a8 _) (by simp)));simp only[execOp,hρ x _ hx];simp[Instr.range,cQ,run_underlying ht,newObj,Sem.run]
theorem gB (M:az) {b:Nat} {o:Obj} (hm:M b):Step M w M {w with heap:=w.heap.setIfInBounds b o} (fun k=>k=b):=
 ⟨fun h b hb=>by simpa using h b hb,rfl,rfl,rfl,by simp,fun _ _=>Iff.rfl,fun k _ hn=>by simp[cJ,Ne.symm hn],fun k hk=>by subst hk;exact hm⟩
theorem nj {b p:Nat} {s:ByteArray} (hb:w.heap[b]? =some (.stringIter s p)):(getObj b).run P w= .ok (.stringIter s p) w:=by simp[getObj,Sem.run,hb]
theorem Rg.Ij {l:List UInt8} {b p:Nat} {M:az} (hx:ev L x=some (.pointer (some ⟨b,0,none⟩))) (hb:w.heap[b]? =some (.stringIter ⟨l.toArray⟩ p)) (hm:M b) (hd:Nat.blt d n=true)
  (k1:p<l.length→∀w',w'.heap[b]? =some (.stringIter ⟨l.toArray⟩ (p+(dec (l.drop p)).2))→Step M w M w' (fun k=>k=b)→Rg P r n ops rest ((d,.tuple #[.bool true,.int .i64 p,.int .i32 ((dec (l.drop p)).1:Nat)])::L) ds w' K)
  (k2: ¬p<l.length→Rg P r n ops rest ((d,.tuple #[.bool false])::L) ds w K):
  Rg P r n ops ({dst:=some d,op:= .next x true,type:=ty,pos,after:=af,guard:=none}::rest) L ds w K:=by
 have hs:(⟨l.toArray⟩:ByteArray).size=l.length:=by simp[ByteArray.size]
 have dy:=ak hb;by_cases h:p<l.length
 ·have key:=k1 h {w with heap:=w.heap.setIfInBounds b (.stringIter ⟨l.toArray⟩ (p+(dec (l.drop p)).2))} (by simp[cJ,dy]) (gB M hm);refine .op (fun _ h=>by cases h) rfl rfl hd _ _ (fun ρ hρ=>?_) key;simp only[execOp,hρ x _ hx,Instr.next,cQ,nj hb,du];rw[if_pos (by rw[hs];exact h)];simp[AQ,setObj,Sem.run,goInt,hb]
 ·refine .op (fun _ h=>by cases h) rfl rfl hd _ w (fun ρ hρ=>?_) (k2 h);simp only[execOp,hρ x _ hx,Instr.next,cQ,nj hb,du];rw[if_neg (by rw[hs];exact h)];simp
theorem Rg.Ci {t:TypeId} {i:Operand} {l:List UInt8} {κ:IntKind} {j:Int} {c:UInt8} (ht:P.underlying t=some .string) (hx:ev L x=some (.string ⟨l.toArray⟩)) (hi:ev L i=some (.int κ j)) (hd:Nat.blt d n=true) (hj:0≤j) (hc:l[j.toNat]? =some c)
  (k:Rg P r n ops rest ((d,.int .u8 (c.toNat:Int))::L) ds w K):
  Rg P r n ops ({dst:=some d,op:= .index t x i,type:=ty,pos,after:=af,guard:=none}::rest) L ds w K:=by
 have dy:=(au.1 hc).1;have hs:(⟨l.toArray⟩:ByteArray).size=l.length:=by simp[ByteArray.size]
 have hg:(⟨l.toArray⟩:ByteArray)[j.toNat]? =some c:=by
  rw[getElem?_pos _ _ (by rw[hs];exact dy)];congr 1;have:=(au.1 hc).2;rw[←this];rfl
 refine .op (fun _ h=>by cases h) rfl rfl hd _ w (fun ρ hρ=>?_) k;simp only[execOp,hρ x _ hx,hρ i _ hi,Instr.index,cQ,asIntOf,Sem.run_pure,du,run_underlying ht];simp[hj,hg]
theorem ot (l:List UInt8) (a b:Nat):(⟨l.toArray⟩:ByteArray).extract a b=⟨((l.take b).drop a).toArray⟩:=by
 have:((⟨l.toArray⟩:ByteArray).extract a b).data=((l.take b).drop a).toArray:=by
  rw[ByteArray.data_extract];apply Array.toList_inj.1;rw[Array.toList_extract,List.extract_eq_take_drop,List.drop_take]
 exact congrArg ByteArray.mk this
theorem Rg.Ik {t:TypeId} {i:Operand} {l:List UInt8} {κ:IntKind} {j:Int} (ht:P.underlying t=some .string) (hx:ev L x=some (.string ⟨l.toArray⟩)) (hi:ev L i=some (.int κ j)) (hd:Nat.blt d n=true) (hj:0≤j∧j≤l.length)
  (k:Rg P r n ops rest ((d,.string ⟨(l.drop j.toNat).toArray⟩)::L) ds w K):
  Rg P r n ops ({dst:=some d,op:= .slice t x (some i) none none,type:=ty,pos,after:=af,guard:=none}::rest) L ds w K:=by
 have hs:(⟨l.toArray⟩:ByteArray).size=l.length:=by simp[ByteArray.size]
 refine .op (fun _ h=>by cases h) rfl rfl hd _ w (fun ρ hρ=>?_) k;simp only[execOp,hρ x _ hx,fB,mR,hρ i _ hi];rw[cQ,run_sliceAt_string _ _ _ _ _ _ ht,run_slice_string_l _ _ _ ht _ _ hj.1 (by rw[hs];exact hj.2),ot,hs,List.take_length];simp
theorem Rg.J0 {t:TypeId} {i:Operand} {l:List UInt8} {κ:IntKind} {j:Int} (ht:P.underlying t=some .string) (hx:ev L x=some (.string ⟨l.toArray⟩)) (hi:ev L i=some (.int κ j)) (hd:Nat.blt d n=true) (hj:0≤j∧j≤l.length)
  (k:Rg P r n ops rest ((d,.string ⟨(l.take j.toNat).toArray⟩)::L) ds w K):
  Rg P r n ops ({dst:=some d,op:= .slice t x none (some i) none,type:=ty,pos,after:=af,guard:=none}::rest) L ds w K:=by
 have hs:(⟨l.toArray⟩:ByteArray).size=l.length:=by simp[ByteArray.size]
 refine .op (fun _ h=>by cases h) rfl rfl hd _ w (fun ρ hρ=>?_) k;simp only[execOp,hρ x _ hx,fB,mR,hρ i _ hi];rw[cQ,run_sliceAt_string _ _ _ _ _ _ ht,run_slice_string_h _ _ _ ht _ _ hj.1 (by rw[hs];exact hj.2),ot,List.drop_zero];simp
end
theorem Own.dE {α:Type} {A:RT α} {e:TypeId} {M:az} {w:World} {base b p:Nat} {s:ByteArray} {v:Value} {xs:List α} (h:Own A e M w base v xs) (hb:w.heap[b]? =some (.stringIter s p)):v.ownBlock≠some b:=fun hv=>by
 obtain⟨⟨C,h1,_⟩,_⟩:=h;rcases h1.2 with⟨h2,_⟩|⟨g,cap,cur,h2,_,h3,_⟩
 ·rw[h2]at hv;cases hv
 ·rw[h2]at hv;cases hv;rw[h3]at hb;cases hb
theorem Own.iM {α β:Type} {A:RT α} {B:RT β} {e e':TypeId} {M M':az} {w:World} {base Cb:Nat} {v u:Value} {xs:List α} {ys:List β} (h:Own A e M w base v xs) (h':Own B e' M' w Cb u ys) (ht:e≠e') {b:Nat} (hb:v.ownBlock=some b):u.ownBlock≠some b:=fun hu=>by
 obtain⟨⟨C,h1,_⟩,_⟩:=h;obtain⟨⟨C',H9,_⟩,_⟩:=h';rcases h1.2 with⟨h2,_⟩|⟨g,cap,cur,h2,_,h3,_⟩
 ·rw[h2]at hb;cases hb
 ·rcases H9.2 with⟨wZ,_⟩|⟨g',OM,ON,wZ,_,ZU,_⟩
  ·rw[wZ]at hu;cases hu
  ·rw[h2]at hb;rw[wZ]at hu;cases hb;cases hu;rw[h3]at ZU;cases ZU;exact ht rfl
theorem Own.eL {α:Type} {A:RT α} {e t:TypeId} {M:az} {w:World} {base b:Nat} {v:Value} {xs:List α} {cs:Array Value} {fr:Nat×Nat} (h:Own A e M w base v xs) (hb:w.heap[b]? =some (.cells cs t fr)) (ht:t≠e):v.ownBlock≠some b:=fun hv=>by
 obtain⟨⟨C,h1,_⟩,_⟩:=h;rcases h1.2 with⟨h2,_⟩|⟨g,cap,cur,h2,_,h3,_⟩
 ·rw[h2]at hv;cases hv
 ·rw[h2]at hv;cases hv;rw[h3]at hb;cases hb;exact ht rfl
end Go.K
namespace Go.K
open Go.Proofs
theorem I3:TI Tryz.prog 3 (.int .i64 0) 1 8:=by unfold TI;kernel_rfl
theorem I5:TI Tryz.prog 5 (.int .u8 0) 1 1:=by unfold TI;kernel_rfl
theorem I9:TI Tryz.prog 9 (.string ⟨#[]⟩) 1 16:=by unfold TI;kernel_rfl
theorem S0:TI Tryz.prog 26 (.int .i64 0) 1 8:=by unfold TI;kernel_rfl
theorem nZ:TI Tryz.prog 32 (.slice none 0 0) 1 24:=by unfold TI;kernel_rfl
theorem qC:TI Tryz.prog 39 (.slice none 0 0) 1 24:=by unfold TI;kernel_rfl
theorem k5:TI Tryz.prog 41 (.agg #[(.int .i64 0),(.slice none 0 0)]) 2 32:=by unfold TI;kernel_rfl
theorem yR:TI Tryz.prog 43 (.agg #[(.int .i64 0),(.slice none 0 0),(.int .i64 0)]) 3 40:=by unfold TI;kernel_rfl
theorem rq:TI Tryz.prog 47 (.agg #[(.string ⟨#[]⟩),(.string ⟨#[]⟩)]) 2 32:=by unfold TI;kernel_rfl
theorem HH:TI Tryz.prog 55 (.slice none 0 0) 1 24:=by unfold TI;kernel_rfl
theorem I98:TI Tryz.prog 98 (.slice none 0 0) 1 24:=by unfold TI;kernel_rfl
theorem iB:TI Tryz.prog 127 (.agg #[(.string ⟨#[]⟩),(.string ⟨#[]⟩)]) 2 32:=by unfold TI;kernel_rfl
theorem oR:TI Tryz.prog 129 (.pointer none) 1 8:=by unfold TI;kernel_rfl
theorem yS:TI Tryz.prog 147 (.slice none 0 0) 1 24:=by unfold TI;kernel_rfl
theorem gC:TI Tryz.prog 153 (.agg #[(.int .i64 0),(.slice none 0 0)]) 2 32:=by unfold TI;kernel_rfl
theorem AR:TI Tryz.prog 191 (.slice none 0 0) 1 24:=by unfold TI;kernel_rfl
theorem Uo:TI Tryz.prog 193 (.agg #[(.slice none 0 0),(.slice none 0 0),(.int .i64 0)]) 3 56:=by unfold TI;kernel_rfl
theorem uO:TI Tryz.prog 195 (.agg #[(.int .i64 0),(.int .i64 0),(.int .i64 0),(.int .i64 0)]) 4 32:=by unfold TI;kernel_rfl
theorem Dj:TI Tryz.prog 256 (.agg #[(.string ⟨#[]⟩),(.int .i64 0)]) 2 24:=by unfold TI;kernel_rfl
theorem Up:TI Tryz.prog 309 (.agg #[(.pointer none),(.slice none 0 0)]) 2 32:=by unfold TI;kernel_rfl
theorem Ph:placesOf Tryz.prog 41=[(0,1),(1,1)].map some:=by kernel_rfl
theorem S8:placesOf Tryz.prog 43=[(0,2),(2,1)].map some:=by kernel_rfl
theorem ZV:placesOf Tryz.prog 47=[(0,1),(1,1)].map some:=by kernel_rfl
theorem Il:placesOf Tryz.prog 153=[(0,1),(1,1)].map some:=by kernel_rfl
theorem Uq:placesOf Tryz.prog 193=[(0,1),(1,1),(2,1)].map some:=by kernel_rfl
theorem Ur:placesOf Tryz.prog 195=[(0,1),(1,1),(2,1),(3,1)].map some:=by kernel_rfl
theorem Pj:placesOf Tryz.prog 256=[(0,1),(1,1)].map some:=by kernel_rfl
theorem mixed:Tryz.prog.follows .mixedOrders=true:=by kernel_rfl
theorem E65:Enters Tryz.prog 65:=enters Tryz.func65 rfl (by decide)
theorem Ta:Enters Tryz.prog 74:=enters Tryz.func74 rfl (by decide)
theorem Pk:Enters Tryz.prog 116:=enters Tryz.func116 rfl (by decide)
theorem Pl:Enters Tryz.prog 117:=enters Tryz.func117 rfl (by decide)
theorem Us:Enters Tryz.prog 150:=enters Tryz.func150 rfl (by decide)
theorem Ut:Enters Tryz.prog 151:=enters Tryz.func151 rfl (by decide)
theorem Uu:Enters Tryz.prog 152:=enters Tryz.func152 rfl (by decide)
theorem Uv:Enters Tryz.prog 153:=enters Tryz.func153 rfl (by decide)
theorem Pm:Enters Tryz.prog 154:=enters Tryz.func154 rfl (by decide)
theorem Uw:Enters Tryz.prog 158:=enters Tryz.func158 rfl (by decide)
theorem Ux:Enters Tryz.prog 159:=enters Tryz.func159 rfl (by decide)
theorem Uy:Enters Tryz.prog 160:=enters Tryz.func160 rfl (by decide)
theorem Uz:Enters Tryz.prog 161:=enters Tryz.func161 rfl (by decide)
theorem UA:Enters Tryz.prog 167:=enters Tryz.func167 rfl (by decide)
theorem UB:Enters Tryz.prog 171:=enters Tryz.func171 rfl (by decide)
theorem UC:Enters Tryz.prog 172:=enters Tryz.func172 rfl (by decide)
theorem Lv:Enters Tryz.prog 173:=enters Tryz.func173 rfl (by decide)
theorem UD:Enters Tryz.prog 174:=enters Tryz.func174 rfl (by decide)
theorem UE:Enters Tryz.prog 191:=enters Tryz.func191 rfl (by decide)
theorem Pn:Enters Tryz.prog 192:=enters Tryz.func192 rfl (by decide)
theorem UF:Enters Tryz.prog 193:=enters Tryz.func193 rfl (by decide)
theorem UG:Enters Tryz.prog 194:=enters Tryz.func194 rfl (by decide)
theorem UH:Enters Tryz.prog 195:=enters Tryz.func195 rfl (by decide)
theorem UI:Enters Tryz.prog 196:=enters Tryz.func196 rfl (by decide)
theorem UJ:Enters Tryz.prog 197:=enters Tryz.func197 rfl (by decide)
theorem UK:Enters Tryz.prog 199:=enters Tryz.func199 rfl (by decide)
theorem UL:Enters Tryz.prog 212:=enters Tryz.func212 rfl (by decide)
theorem UM:Enters Tryz.prog 213:=enters Tryz.func213 rfl (by decide)
theorem Pp:Enters Tryz.prog 214:=enters Tryz.func214 rfl (by decide)
theorem UN:Enters Tryz.prog 215:=enters Tryz.func215 rfl (by decide)
theorem UO:Enters Tryz.prog 216:=enters Tryz.func216 rfl (by decide)
theorem Pq:Enters Tryz.prog 217:=enters Tryz.func217 rfl (by decide)
theorem UP:Enters Tryz.prog 218:=enters Tryz.func218 rfl (by decide)
theorem Pr:Enters Tryz.prog 219:=enters Tryz.func219 rfl (by decide)
theorem Ps:Enters Tryz.prog 220:=enters Tryz.func220 rfl (by decide)
theorem UQ:Enters Tryz.prog 221:=enters Tryz.func221 rfl (by decide)
theorem UR:Enters Tryz.prog 222:=enters Tryz.func222 rfl (by decide)
theorem Pt:Enters Tryz.prog 223:=enters Tryz.func223 rfl (by decide)
theorem US:Enters Tryz.prog 224:=enters Tryz.func224 rfl (by decide)
theorem UT:Enters Tryz.prog 225:=enters Tryz.func225 rfl (by decide)
theorem UU:Enters Tryz.prog 233:=enters Tryz.func233 rfl (by decide)
theorem Pu:Enters Tryz.prog 250:=enters Tryz.func250 rfl (by decide)
theorem UW:Enters Tryz.prog 251:=enters Tryz.func251 rfl (by decide)
theorem UX:Enters Tryz.prog 252:=enters Tryz.func252 rfl (by decide)
theorem UY:Enters Tryz.prog 253:=enters Tryz.func253 rfl (by decide)
theorem UZ:Enters Tryz.prog 254:=enters Tryz.func254 rfl (by decide)
theorem U0:Enters Tryz.prog 255:=enters Tryz.func255 rfl (by decide)
theorem U1:Enters Tryz.prog 256:=enters Tryz.func256 rfl (by decide)
theorem Pv:Enters Tryz.prog 274:=enters Tryz.func274 rfl (by decide)
theorem U2:Enters Tryz.prog 277:=enters Tryz.func277 rfl (by decide)
end Go.K
namespace Go.K
open Go.Proofs
set_option maxRecDepth 10000
def eG (c:Int):Bool:=decide ((97≤c∧c≤122)∨(65≤c∧c≤90)∨(192≤c∧c≤591∧c≠215∧c≠247))
def l4 (c:Int):Bool:=decide (48≤c∧c≤57)
def eJ (c:Int):Int:=if(65≤c∧c≤90)∨(192≤c∧c≤222∧c≠215)then c+32 else c
theorem yT (c:Int) (w0:World):
  Spec Tryz.prog 221 #[.int .i64 c] w0 (fun v w=>v= .bool (eG c)∧w=w0):=by
 refine aW (args:=[_]) (fn:=Tryz.f221) Tryz.func221 rfl (n:=33) Tryz.ntmps221 (aj (ah (ai rfl rfl (ad (aj (ah (ae rfl rfl (dA rfl rfl rfl (ae rfl rfl ?_)))))))));refine aI (g:=5) rfl (fun fM=>?_) (fun fM=>?_)
 ·refine al rfl rfl (ae rfl rfl (al rfl rfl (eM rfl rfl rfl (aQ rfl rfl rfl (ae rfl rfl ?_)))));refine aI (g:=9) rfl (fun xn=>?_) (fun xn=>?_)
  ·refine ao rfl rfl rfl rfl (ao rfl rfl rfl rfl (ao rfl rfl rfl rfl (cc rfl rfl rfl (cc rfl rfl rfl (ao rfl rfl rfl rfl (aQ rfl rfl rfl (ae rfl rfl (ao rfl rfl rfl rfl (ao rfl rfl rfl rfl (ao rfl rfl rfl rfl (cc rfl rfl rfl ?_)))))))))));refine cc rfl rfl rfl (ao rfl rfl rfl rfl (ao rfl rfl rfl rfl (cc rfl rfl rfl (cc rfl rfl rfl (ao rfl rfl rfl rfl (ao rfl rfl rfl rfl (cc rfl rfl rfl (cc rfl rfl rfl (ao rfl rfl rfl rfl (aQ rfl rfl rfl (ai rfl rfl ?_)))))))))));refine ad (aH ?_);exact aP rfl rfl ⟨by simp only[eG];first|rfl|(congr 1;first|(exact(decide_eq_true (by omega)).symm)|(exact(decide_eq_false (by omega)).symm)|(exact decide_eq_decide.2 (by omega))),rfl⟩
  ·refine al rfl rfl (ae rfl rfl (al rfl rfl (dA rfl rfl rfl (al rfl rfl (ae rfl rfl ?_)))));refine aI (g:=12) rfl (fun oS=>?_) (fun oS=>?_)
   ·refine al rfl rfl (ae rfl rfl (al rfl rfl (eM rfl rfl rfl (al rfl rfl (aQ rfl rfl rfl (ay rfl rfl rfl (ae rfl rfl ?_)))))));refine aI (g:=17) rfl (fun te=>?_) (fun te=>?_)
    ·refine ao rfl rfl rfl rfl (ao rfl rfl rfl rfl (ao rfl rfl rfl rfl (cc rfl rfl rfl (cc rfl rfl rfl (ao rfl rfl rfl rfl (ao rfl rfl rfl rfl (cc rfl rfl rfl (cc rfl rfl rfl (ao rfl rfl rfl rfl (ao rfl rfl rfl rfl (cc rfl rfl rfl ?_)))))))))));refine cc rfl rfl rfl (ao rfl rfl rfl rfl (aQ rfl rfl rfl (ai rfl rfl (ad (aH ?_)))));exact aP rfl rfl ⟨by simp only[eG];first|rfl|(congr 1;first|(exact(decide_eq_true (by omega)).symm)|(exact(decide_eq_false (by omega)).symm)|(exact decide_eq_decide.2 (by omega))),rfl⟩
    ·refine al rfl rfl (ae rfl rfl (al rfl rfl (dA rfl rfl rfl (al rfl rfl (ae rfl rfl ?_)))));refine aI (g:=20) rfl (fun kq=>?_) (fun kq=>?_)
     ·refine al rfl rfl (ae rfl rfl (al rfl rfl (eM rfl rfl rfl (al rfl rfl (aQ rfl rfl rfl (al rfl rfl (ae rfl rfl ?_)))))));refine aI (g:=24) rfl (fun tf=>?_) (fun tf=>?_)
      ·refine al rfl rfl (ae rfl rfl (al rfl rfl (eN rfl rfl rfl (al rfl rfl (aQ rfl rfl rfl (al rfl rfl (ae rfl rfl ?_)))))));refine aI (g:=28) rfl (fun tg=>?_) (fun tg=>?_)
       ·refine al rfl rfl (ae rfl rfl (al rfl rfl (eN rfl rfl rfl (al rfl rfl (aQ rfl rfl rfl (ay rfl rfl rfl (ai rfl rfl (ad (aH ?_)))))))));exact aP rfl rfl ⟨by simp only[eG];first|rfl|(congr 1;first|(exact(decide_eq_true (by omega)).symm)|(exact(decide_eq_false (by omega)).symm)|(exact decide_eq_decide.2 (by omega))),rfl⟩
       ·refine ao rfl rfl rfl rfl (ao rfl rfl rfl rfl (al rfl rfl (ay rfl rfl rfl (ay rfl rfl rfl (ai rfl rfl (ad (aH ?_)))))));exact aP rfl rfl ⟨by simp only[eG];first|rfl|(congr 1;first|(exact(decide_eq_true (by omega)).symm)|(exact(decide_eq_false (by omega)).symm)|(exact decide_eq_decide.2 (by omega))),rfl⟩
      ·refine ao rfl rfl rfl rfl (ao rfl rfl rfl rfl (al rfl rfl (ay rfl rfl rfl (al rfl rfl (ae rfl rfl (ao rfl rfl rfl rfl (ao rfl rfl rfl rfl (al rfl rfl (ay rfl rfl rfl (ay rfl rfl rfl (ai rfl rfl ?_)))))))))));refine ad (aH ?_);exact aP rfl rfl ⟨by simp only[eG];first|rfl|(congr 1;first|(exact(decide_eq_true (by omega)).symm)|(exact(decide_eq_false (by omega)).symm)|(exact decide_eq_decide.2 (by omega))),rfl⟩
     ·refine ao rfl rfl rfl rfl (ao rfl rfl rfl rfl (al rfl rfl (ay rfl rfl rfl (al rfl rfl (ae rfl rfl (ao rfl rfl rfl rfl (ao rfl rfl rfl rfl (al rfl rfl (ay rfl rfl rfl (al rfl rfl (ae rfl rfl ?_)))))))))));refine ao rfl rfl rfl rfl (ao rfl rfl rfl rfl (al rfl rfl (ay rfl rfl rfl (ay rfl rfl rfl (ai rfl rfl (ad (aH ?_)))))));exact aP rfl rfl ⟨by simp only[eG];first|rfl|(congr 1;first|(exact(decide_eq_true (by omega)).symm)|(exact(decide_eq_false (by omega)).symm)|(exact decide_eq_decide.2 (by omega))),rfl⟩
   ·refine ao rfl rfl rfl rfl (ao rfl rfl rfl rfl (al rfl rfl (ay rfl rfl rfl (ay rfl rfl rfl (ae rfl rfl (al rfl rfl (ae rfl rfl (al rfl rfl (dA rfl rfl rfl (al rfl rfl (ae rfl rfl ?_)))))))))));refine aI (g:=20) rfl (fun kq=>?_) (fun kq=>?_)
    ·refine al rfl rfl (ae rfl rfl (al rfl rfl (eM rfl rfl rfl (al rfl rfl (aQ rfl rfl rfl (al rfl rfl (ae rfl rfl ?_)))))));refine aI (g:=24) rfl (fun tf=>?_) (fun tf=>?_)
     ·refine al rfl rfl (ae rfl rfl (al rfl rfl (eN rfl rfl rfl (al rfl rfl (aQ rfl rfl rfl (al rfl rfl (ae rfl rfl ?_)))))));refine aI (g:=28) rfl (fun tg=>?_) (fun tg=>?_)
      ·refine al rfl rfl (ae rfl rfl (al rfl rfl (eN rfl rfl rfl (al rfl rfl (aQ rfl rfl rfl (ay rfl rfl rfl (ai rfl rfl (ad (aH ?_)))))))));exact aP rfl rfl ⟨by simp only[eG];first|rfl|(congr 1;first|(exact(decide_eq_true (by omega)).symm)|(exact(decide_eq_false (by omega)).symm)|(exact decide_eq_decide.2 (by omega))),rfl⟩
      ·refine ao rfl rfl rfl rfl (ao rfl rfl rfl rfl (al rfl rfl (ay rfl rfl rfl (ay rfl rfl rfl (ai rfl rfl (ad (aH ?_)))))));exact aP rfl rfl ⟨by simp only[eG];first|rfl|(congr 1;first|(exact(decide_eq_true (by omega)).symm)|(exact(decide_eq_false (by omega)).symm)|(exact decide_eq_decide.2 (by omega))),rfl⟩
     ·refine ao rfl rfl rfl rfl (ao rfl rfl rfl rfl (al rfl rfl (ay rfl rfl rfl (al rfl rfl (ae rfl rfl (ao rfl rfl rfl rfl (ao rfl rfl rfl rfl (al rfl rfl (ay rfl rfl rfl (ay rfl rfl rfl (ai rfl rfl ?_)))))))))));refine ad (aH ?_);exact aP rfl rfl ⟨by simp only[eG];first|rfl|(congr 1;first|(exact(decide_eq_true (by omega)).symm)|(exact(decide_eq_false (by omega)).symm)|(exact decide_eq_decide.2 (by omega))),rfl⟩
    ·refine ao rfl rfl rfl rfl (ao rfl rfl rfl rfl (al rfl rfl (ay rfl rfl rfl (al rfl rfl (ae rfl rfl (ao rfl rfl rfl rfl (ao rfl rfl rfl rfl (al rfl rfl (ay rfl rfl rfl (al rfl rfl (ae rfl rfl ?_)))))))))));refine ao rfl rfl rfl rfl (ao rfl rfl rfl rfl (al rfl rfl (ay rfl rfl rfl (ay rfl rfl rfl (ai rfl rfl (ad (aH ?_)))))));exact aP rfl rfl ⟨by simp only[eG];first|rfl|(congr 1;first|(exact(decide_eq_true (by omega)).symm)|(exact(decide_eq_false (by omega)).symm)|(exact decide_eq_decide.2 (by omega))),rfl⟩
 ·refine ao rfl rfl rfl rfl (ao rfl rfl rfl rfl (ay rfl rfl rfl (ae rfl rfl (al rfl rfl (ae rfl rfl (al rfl rfl (dA rfl rfl rfl (al rfl rfl (ae rfl rfl ?_)))))))));refine aI (g:=12) rfl (fun oS=>?_) (fun oS=>?_)
  ·refine al rfl rfl (ae rfl rfl (al rfl rfl (eM rfl rfl rfl (al rfl rfl (aQ rfl rfl rfl (ay rfl rfl rfl (ae rfl rfl ?_)))))));refine aI (g:=17) rfl (fun te=>?_) (fun te=>?_)
   ·refine ao rfl rfl rfl rfl (ao rfl rfl rfl rfl (ao rfl rfl rfl rfl (cc rfl rfl rfl (cc rfl rfl rfl (ao rfl rfl rfl rfl (ao rfl rfl rfl rfl (cc rfl rfl rfl (cc rfl rfl rfl (ao rfl rfl rfl rfl (ao rfl rfl rfl rfl (cc rfl rfl rfl ?_)))))))))));refine cc rfl rfl rfl (ao rfl rfl rfl rfl (aQ rfl rfl rfl (ai rfl rfl (ad (aH ?_)))));exact aP rfl rfl ⟨by simp only[eG];first|rfl|(congr 1;first|(exact(decide_eq_true (by omega)).symm)|(exact(decide_eq_false (by omega)).symm)|(exact decide_eq_decide.2 (by omega))),rfl⟩
   ·refine al rfl rfl (ae rfl rfl (al rfl rfl (dA rfl rfl rfl (al rfl rfl (ae rfl rfl ?_)))));refine aI (g:=20) rfl (fun kq=>?_) (fun kq=>?_)
    ·refine al rfl rfl (ae rfl rfl (al rfl rfl (eM rfl rfl rfl (al rfl rfl (aQ rfl rfl rfl (al rfl rfl (ae rfl rfl ?_)))))));refine aI (g:=24) rfl (fun tf=>?_) (fun tf=>?_)
     ·refine al rfl rfl (ae rfl rfl (al rfl rfl (eN rfl rfl rfl (al rfl rfl (aQ rfl rfl rfl (al rfl rfl (ae rfl rfl ?_)))))));refine aI (g:=28) rfl (fun tg=>?_) (fun tg=>?_)
      ·refine al rfl rfl (ae rfl rfl (al rfl rfl (eN rfl rfl rfl (al rfl rfl (aQ rfl rfl rfl (ay rfl rfl rfl (ai rfl rfl (ad (aH ?_)))))))));exact aP rfl rfl ⟨by simp only[eG];first|rfl|(congr 1;first|(exact(decide_eq_true (by omega)).symm)|(exact(decide_eq_false (by omega)).symm)|(exact decide_eq_decide.2 (by omega))),rfl⟩
      ·refine ao rfl rfl rfl rfl (ao rfl rfl rfl rfl (al rfl rfl (ay rfl rfl rfl (ay rfl rfl rfl (ai rfl rfl (ad (aH ?_)))))));exact aP rfl rfl ⟨by simp only[eG];first|rfl|(congr 1;first|(exact(decide_eq_true (by omega)).symm)|(exact(decide_eq_false (by omega)).symm)|(exact decide_eq_decide.2 (by omega))),rfl⟩
     ·refine ao rfl rfl rfl rfl (ao rfl rfl rfl rfl (al rfl rfl (ay rfl rfl rfl (al rfl rfl (ae rfl rfl (ao rfl rfl rfl rfl (ao rfl rfl rfl rfl (al rfl rfl (ay rfl rfl rfl (ay rfl rfl rfl (ai rfl rfl ?_)))))))))));refine ad (aH ?_);exact aP rfl rfl ⟨by simp only[eG];first|rfl|(congr 1;first|(exact(decide_eq_true (by omega)).symm)|(exact(decide_eq_false (by omega)).symm)|(exact decide_eq_decide.2 (by omega))),rfl⟩
    ·refine ao rfl rfl rfl rfl (ao rfl rfl rfl rfl (al rfl rfl (ay rfl rfl rfl (al rfl rfl (ae rfl rfl (ao rfl rfl rfl rfl (ao rfl rfl rfl rfl (al rfl rfl (ay rfl rfl rfl (al rfl rfl (ae rfl rfl ?_)))))))))));refine ao rfl rfl rfl rfl (ao rfl rfl rfl rfl (al rfl rfl (ay rfl rfl rfl (ay rfl rfl rfl (ai rfl rfl (ad (aH ?_)))))));exact aP rfl rfl ⟨by simp only[eG];first|rfl|(congr 1;first|(exact(decide_eq_true (by omega)).symm)|(exact(decide_eq_false (by omega)).symm)|(exact decide_eq_decide.2 (by omega))),rfl⟩
  ·refine ao rfl rfl rfl rfl (ao rfl rfl rfl rfl (al rfl rfl (ay rfl rfl rfl (ay rfl rfl rfl (ae rfl rfl (al rfl rfl (ae rfl rfl (al rfl rfl (dA rfl rfl rfl (al rfl rfl (ae rfl rfl ?_)))))))))));refine aI (g:=20) rfl (fun kq=>?_) (fun kq=>?_)
   ·refine al rfl rfl (ae rfl rfl (al rfl rfl (eM rfl rfl rfl (al rfl rfl (aQ rfl rfl rfl (al rfl rfl (ae rfl rfl ?_)))))));refine aI (g:=24) rfl (fun tf=>?_) (fun tf=>?_)
    ·refine al rfl rfl (ae rfl rfl (al rfl rfl (eN rfl rfl rfl (al rfl rfl (aQ rfl rfl rfl (al rfl rfl (ae rfl rfl ?_)))))));refine aI (g:=28) rfl (fun tg=>?_) (fun tg=>?_)
     ·refine al rfl rfl (ae rfl rfl (al rfl rfl (eN rfl rfl rfl (al rfl rfl (aQ rfl rfl rfl (ay rfl rfl rfl (ai rfl rfl (ad (aH ?_)))))))));exact aP rfl rfl ⟨by simp only[eG];first|rfl|(congr 1;first|(exact(decide_eq_true (by omega)).symm)|(exact(decide_eq_false (by omega)).symm)|(exact decide_eq_decide.2 (by omega))),rfl⟩
     ·refine ao rfl rfl rfl rfl (ao rfl rfl rfl rfl (al rfl rfl (ay rfl rfl rfl (ay rfl rfl rfl (ai rfl rfl (ad (aH ?_)))))));exact aP rfl rfl ⟨by simp only[eG];first|rfl|(congr 1;first|(exact(decide_eq_true (by omega)).symm)|(exact(decide_eq_false (by omega)).symm)|(exact decide_eq_decide.2 (by omega))),rfl⟩
    ·refine ao rfl rfl rfl rfl (ao rfl rfl rfl rfl (al rfl rfl (ay rfl rfl rfl (al rfl rfl (ae rfl rfl (ao rfl rfl rfl rfl (ao rfl rfl rfl rfl (al rfl rfl (ay rfl rfl rfl (ay rfl rfl rfl (ai rfl rfl ?_)))))))))));refine ad (aH ?_);exact aP rfl rfl ⟨by simp only[eG];first|rfl|(congr 1;first|(exact(decide_eq_true (by omega)).symm)|(exact(decide_eq_false (by omega)).symm)|(exact decide_eq_decide.2 (by omega))),rfl⟩
   ·refine ao rfl rfl rfl rfl (ao rfl rfl rfl rfl (al rfl rfl (ay rfl rfl rfl (al rfl rfl (ae rfl rfl (ao rfl rfl rfl rfl (ao rfl rfl rfl rfl (al rfl rfl (ay rfl rfl rfl (al rfl rfl (ae rfl rfl ?_)))))))))));refine ao rfl rfl rfl rfl (ao rfl rfl rfl rfl (al rfl rfl (ay rfl rfl rfl (ay rfl rfl rfl (ai rfl rfl (ad (aH ?_)))))));exact aP rfl rfl ⟨by simp only[eG];first|rfl|(congr 1;first|(exact(decide_eq_true (by omega)).symm)|(exact(decide_eq_false (by omega)).symm)|(exact decide_eq_decide.2 (by omega))),rfl⟩
theorem AS (c:Int) (w0:World):
  Spec Tryz.prog 222 #[.int .i64 c] w0 (fun v w=>v= .bool (l4 c)∧w=w0):=by
 refine aW (args:=[_]) (fn:=Tryz.f222) Tryz.func222 rfl (n:=9) Tryz.ntmps222 (aj (ah (ai rfl rfl (ad (aj (ah (ae rfl rfl (dA rfl rfl rfl (ae rfl rfl ?_)))))))));refine aI (g:=5) rfl (fun fM=>?_) (fun fM=>?_)
 ·refine al rfl rfl (ae rfl rfl (al rfl rfl (eM rfl rfl rfl (aQ rfl rfl rfl (ai rfl rfl (ad (aH ?_)))))));exact aP rfl rfl ⟨by simp only[l4];first|rfl|(congr 1;first|(exact(decide_eq_true (by omega)).symm)|(exact(decide_eq_false (by omega)).symm)|(exact decide_eq_decide.2 (by omega))),rfl⟩
 ·refine ao rfl rfl rfl rfl (ao rfl rfl rfl rfl (ay rfl rfl rfl (ai rfl rfl (ad (aH ?_)))));exact aP rfl rfl ⟨by simp only[l4];first|rfl|(congr 1;first|(exact(decide_eq_true (by omega)).symm)|(exact(decide_eq_false (by omega)).symm)|(exact decide_eq_decide.2 (by omega))),rfl⟩
theorem vR (c:Int) (w0:World) (hc:0≤c∧c≤1114111):
  Spec Tryz.prog 223 #[.int .i64 c] w0 (fun v w=>v= .int .i64 (eJ c)∧w=w0):=by
 refine aW (args:=[_]) (fn:=Tryz.f223) Tryz.func223 rfl (n:=24) Tryz.ntmps223 (aj (ah (ai rfl rfl (ad (aj (aj (ah (ae rfl rfl (dA rfl rfl rfl (ae rfl rfl ?_))))))))));refine aI (g:=5) rfl (fun fM=>?_) (fun fM=>?_)
 ·refine al rfl rfl (ae rfl rfl (al rfl rfl (eM rfl rfl rfl (aQ rfl rfl rfl (ae rfl rfl ?_)))));refine aI (g:=9) rfl (fun xn=>?_) (fun xn=>?_)
  ·refine ao rfl rfl rfl rfl (ao rfl rfl rfl rfl (ao rfl rfl rfl rfl (cc rfl rfl rfl (cc rfl rfl rfl (ao rfl rfl rfl rfl (ao rfl rfl rfl rfl (cc rfl rfl rfl (cc rfl rfl rfl (ao rfl rfl rfl rfl (aQ rfl rfl rfl (ad ?_)))))))))));refine lO rfl (aj (ah (ae rfl rfl (bz rfl rfl rfl (by omega) (ai rfl rfl (ad (aH ?_)))))));exact aP rfl rfl ⟨by rw[eJ,if_pos (by omega)],rfl⟩
  ·refine al rfl rfl (ae rfl rfl (al rfl rfl (dA rfl rfl rfl (al rfl rfl (ae rfl rfl ?_)))));refine aI (g:=12) rfl (fun oS=>?_) (fun oS=>?_)
   ·refine al rfl rfl (ae rfl rfl (al rfl rfl (eM rfl rfl rfl (al rfl rfl (aQ rfl rfl rfl (al rfl rfl (ae rfl rfl ?_)))))));refine aI (g:=16) rfl (fun E3=>?_) (fun E3=>?_)
    ·refine al rfl rfl (ae rfl rfl (al rfl rfl (eN rfl rfl rfl (al rfl rfl (aQ rfl rfl rfl (ay rfl rfl rfl (ad ?_)))))));refine bF rfl (fun c1=>?_) (fun c1=>?_)
     ·refine aj (ah (ae rfl rfl (bz rfl rfl rfl (by omega) (ai rfl rfl (ad (aH ?_))))));exact aP rfl rfl ⟨by rw[eJ,if_pos (by omega)],rfl⟩
     ·refine aU (aj (ah (ae rfl rfl (ai rfl rfl (ad (aH ?_))))));exact aP rfl rfl ⟨by rw[eJ,if_neg (by omega)],rfl⟩
    ·refine ao rfl rfl rfl rfl (ao rfl rfl rfl rfl (al rfl rfl (ay rfl rfl rfl (ay rfl rfl rfl (ad (gL rfl (aU (aj (ah (ae rfl rfl (ai rfl rfl ?_)))))))))));refine ad (aH ?_);exact aP rfl rfl ⟨by rw[eJ,if_neg (by omega)],rfl⟩
   ·refine ao rfl rfl rfl rfl (ao rfl rfl rfl rfl (al rfl rfl (ay rfl rfl rfl (al rfl rfl (ae rfl rfl (ao rfl rfl rfl rfl (ao rfl rfl rfl rfl (al rfl rfl (ay rfl rfl rfl (ay rfl rfl rfl (ad ?_)))))))))));refine gL rfl (aU (aj (ah (ae rfl rfl (ai rfl rfl (ad (aH ?_)))))));exact aP rfl rfl ⟨by rw[eJ,if_neg (by omega)],rfl⟩
 ·refine ao rfl rfl rfl rfl (ao rfl rfl rfl rfl (ay rfl rfl rfl (ae rfl rfl (al rfl rfl (ae rfl rfl (al rfl rfl (dA rfl rfl rfl (al rfl rfl (ae rfl rfl ?_)))))))));refine aI (g:=12) rfl (fun oS=>?_) (fun oS=>?_)
  ·refine al rfl rfl (ae rfl rfl (al rfl rfl (eM rfl rfl rfl (al rfl rfl (aQ rfl rfl rfl (al rfl rfl (ae rfl rfl ?_)))))));refine aI (g:=16) rfl (fun E3=>?_) (fun E3=>?_)
   ·refine al rfl rfl (ae rfl rfl (al rfl rfl (eN rfl rfl rfl (al rfl rfl (aQ rfl rfl rfl (ay rfl rfl rfl (ad ?_)))))));refine bF rfl (fun c1=>?_) (fun c1=>?_)
    ·refine aj (ah (ae rfl rfl (bz rfl rfl rfl (by omega) (ai rfl rfl (ad (aH ?_))))));exact aP rfl rfl ⟨by rw[eJ,if_pos (by omega)],rfl⟩
    ·refine aU (aj (ah (ae rfl rfl (ai rfl rfl (ad (aH ?_))))));exact aP rfl rfl ⟨by rw[eJ,if_neg (by omega)],rfl⟩
   ·refine ao rfl rfl rfl rfl (ao rfl rfl rfl rfl (al rfl rfl (ay rfl rfl rfl (ay rfl rfl rfl (ad (gL rfl (aU (aj (ah (ae rfl rfl (ai rfl rfl ?_)))))))))));refine ad (aH ?_);exact aP rfl rfl ⟨by rw[eJ,if_neg (by omega)],rfl⟩
  ·refine ao rfl rfl rfl rfl (ao rfl rfl rfl rfl (al rfl rfl (ay rfl rfl rfl (al rfl rfl (ae rfl rfl (ao rfl rfl rfl rfl (ao rfl rfl rfl rfl (al rfl rfl (ay rfl rfl rfl (ay rfl rfl rfl (ad ?_)))))))))));refine gL rfl (aU (aj (ah (ae rfl rfl (ai rfl rfl (ad (aH ?_)))))));exact aP rfl rfl ⟨by rw[eJ,if_neg (by omega)],rfl⟩
end Go.K
namespace Go.Proofs
open Go.Shelf
def Tryz.rr:Go.Shelf.Ren:=⟨fun|169=>256|n=>n,fun|70=>307|9=>9|0=>0|72=>309|37=>147|127=>331|3=>3|5=>5|n=>n,fun|n=>n⟩
theorem Tryz.Im:Go.Proofs.Lays.n169 Tryz.prog Tryz.rr:={
 mixed:=by kernel_rfl
 f169:=Tryz.func256.trans (congrArg some (by kernel_rfl))
 t0:=gX
 a0:=sf
 z0:=oC
 v0:=iW
 t3:=ar
 a3:=sh
 z3:=oD
 v3:=iX
 t9:=aD
 a9:=si
 z9:=oE
 v9:=iY
 t37:=bm
 a37:=Tryz.isAgg147
 z37:=Tryz.sizeOf147
 v37:=Tryz.zeroValue147
 t70:=Tryz.underlying307
 a70:=Tryz.isAgg307
 z70:=Tryz.sizeOf307
 v70:=Tryz.zeroValue307
 t72:=Tryz.underlying309
 a72:=Tryz.isAgg309
 z72:=Tryz.sizeOf309
 v72:=Tryz.zeroValue309
 t127:=Tryz.underlying331
 a127:=Tryz.isAgg331
 z127:=Tryz.sizeOf331
 v127:=Tryz.zeroValue331}
def Tryz.yU:Go.Shelf.Ren:=⟨fun|119=>277|n=>n,fun|21=>21|4=>4|n=>n,fun|n=>n⟩
theorem Tryz.Io:Go.Proofs.Lays.n119 Tryz.prog Tryz.yU:={
 mixed:=by kernel_rfl
 f119:=Tryz.func277.trans (congrArg some (by kernel_rfl))
 t4:=jO
 a4:=Tryz.isAgg4
 z4:=Tryz.sizeOf4
 v4:=o8
 t21:=Tryz.underlying21
 a21:=Tryz.isAgg21
 z21:=Tryz.sizeOf21
 v21:=Tryz.zeroValue21}
def Tryz.yV:Go.Shelf.Ren:=⟨fun|106=>159|213=>198|265=>235|n=>n,fun|9=>9|3=>3|n=>n,fun|n=>n⟩
theorem Tryz.Ip:Go.Proofs.Lays.n106 Tryz.prog Tryz.yV:={
 mixed:=by kernel_rfl
 f106:=Tryz.func159.trans (congrArg some (by kernel_rfl))
 f213:=Tryz.func198.trans (congrArg some (by kernel_rfl))
 f265:=Tryz.func235.trans (congrArg some (by kernel_rfl))
 t3:=ar
 a3:=sh
 z3:=oD
 v3:=iX
 t9:=aD
 a9:=si
 z9:=oE
 v9:=iY}
theorem Tryz.pA:Builder.Extra Tryz.prog Tryz.rr:={
 sizeBuilder:=by kernel_rfl
 liesBuilder:=by kernel_rfl
 t5:=bZ
 a5:=Tryz.isAgg5
 z5:=Tryz.sizeOf5
 v5:=Tryz.zeroValue5
 infoByte:=by kernel_rfl
 cellsByte:=by kernel_rfl
 sizeByte:=by kernel_rfl
 neB5:=by decide}
def Tryz.ru:Go.Shelf.Ren:=⟨fun|168=>254|240=>275|242=>276|276=>285|278=>286|n=>n,fun|0=>0|3=>3|4=>4|5=>5|9=>9|20=>20|21=>21|37=>147|46=>183|51=>273|70=>307|72=>309|75=>311|80=>315|164=>336|n=>n,fun|n=>n⟩
theorem Tryz.Iq:Go.Proofs.Lays.n168 Tryz.prog Tryz.ru:={
 mixed:=by kernel_rfl
 f168:=Tryz.func254.trans (congrArg some (by kernel_rfl))
 f240:=Tryz.func275.trans (congrArg some (by kernel_rfl))
 f242:=Tryz.func276.trans (congrArg some (by kernel_rfl))
 f276:=Tryz.func285.trans (congrArg some (by kernel_rfl))
 f278:=Tryz.func286.trans (congrArg some (by kernel_rfl))
 t0:=gX
 a0:=sf
 z0:=oC
 v0:=iW
 t3:=ar
 a3:=sh
 z3:=oD
 v3:=iX
 t4:=jO
 a4:=Tryz.isAgg4
 z4:=Tryz.sizeOf4
 v4:=o8
 t5:=bZ
 a5:=Tryz.isAgg5
 z5:=Tryz.sizeOf5
 v5:=Tryz.zeroValue5
 t9:=aD
 a9:=si
 z9:=oE
 v9:=iY
 t20:=Tryz.underlying20
 a20:=Tryz.isAgg20
 z20:=Tryz.sizeOf20
 v20:=Tryz.zeroValue20
 t21:=Tryz.underlying21
 a21:=Tryz.isAgg21
 z21:=Tryz.sizeOf21
 v21:=Tryz.zeroValue21
 t37:=bm
 a37:=Tryz.isAgg147
 z37:=Tryz.sizeOf147
 v37:=Tryz.zeroValue147
 t46:=oF
 a46:=Tryz.isAgg183
 z46:=Tryz.sizeOf183
 v46:=Tryz.zeroValue183
 t51:=Tryz.underlying273
 a51:=Tryz.isAgg273
 z51:=Tryz.sizeOf273
 v51:=Tryz.zeroValue273
 t70:=Tryz.underlying307
 a70:=Tryz.isAgg307
 z70:=Tryz.sizeOf307
 v70:=Tryz.zeroValue307
 t72:=Tryz.underlying309
 a72:=Tryz.isAgg309
 z72:=Tryz.sizeOf309
 v72:=Tryz.zeroValue309
 t75:=Tryz.underlying311
 a75:=Tryz.isAgg311
 z75:=Tryz.sizeOf311
 v75:=Tryz.zeroValue311
 t164:=Tryz.underlying336
 a164:=Tryz.isAgg336
 z164:=Tryz.sizeOf336
 v164:=Tryz.zeroValue336}
theorem Tryz.pB:Builder.Extra Tryz.prog Tryz.ru where
 sizeBuilder:=by kernel_rfl
 liesBuilder:=by kernel_rfl
 t5:=bZ
 a5:=Tryz.isAgg5
 z5:=Tryz.sizeOf5
 v5:=Tryz.zeroValue5
 infoByte:=by kernel_rfl
 cellsByte:=by kernel_rfl
 sizeByte:=by kernel_rfl
 neB5:=by decide
end Go.Proofs
namespace Go.K
open Go.Proofs
set_option maxRecDepth 10000
open Go.RowKit Go.Shelf
theorem AT (r:Int) (w:World):Spec Tryz.prog 277 #[.int .i32 r] w (fun v w'=>v= .bool (Lib.validRune r)∧w'=w):=(Any.utf8_ValidRune Tryz.Io r w).mono fun e w' ⟨h1,h2⟩=>⟨_,h1,rfl,h2⟩
theorem Dk {B b:Nat} {bs:List Value} {r:Int} (w:World) (hr: -2147483648≤r∧r≤2147483647) (h:Lib.IsBuilderF 309 5 B b bs w) (hl:bs.length+4≤140737488355328) (hB:B≤w.heap.size):
  Spec Tryz.prog 254 #[.pointer (some ⟨b,0,none⟩),.int .i32 r] w (fun v w'=>Lib.IsBuilderF 309 5 B b (bs++Lib.runeCells r) w'∧Below B w w'):=
 (Any.Builder_WriteRune_k Tryz.Iq Tryz.pB B b bs r hr.1 hr.2 w h hl hB).mono fun e w' ⟨h1,h2,h3,_⟩=>⟨_,h1,.inr h2,h3⟩
theorem E4 {B b:Nat} {l:List UInt8} (w:World) (h:Lib.IsBuilderF 309 5 B b (Lib.byteCells l) w) (hB:B≤w.heap.size):
  Spec Tryz.prog 256 #[.pointer (some ⟨b,0,none⟩)] w (fun v w'=>v= .string ⟨l.toArray⟩∧Below B w w'):=
 (Any.Builder_String_any_k Tryz.Im Tryz.pA B b l w h hB).mono fun e w' ⟨h1,_,h3,_⟩=>⟨_,h1,rfl,h3⟩
theorem wrap32 {c:Int} (h:0≤c∧c≤1114111):IntKind.i32.wrap c=c:=by
 show(if(true&&decide (c%4294967296≥2147483648))=true then c%4294967296-4294967296 else c%4294967296)=c;rw[if_neg (by simp only[dx,decide_eq_true_eq];omega)];omega
def pC (c:Int):Int:=if c<0∨c>1114111∨Lib.validRune c=false then 65533 else c
theorem Cj (c:Int):0≤pC c∧pC c≤1114111:=by unfold pC;split<;>omega
def iU (l:List Int):List UInt8:=l.flatMap fun c=>Lib.encodeRune (pC c)
theorem kr (l:List Int) (c:Int):iU (l++[c])=iU l++Lib.encodeRune (pC c):=by simp[iU]
theorem Ir (r:Int):(Lib.encodeRune r).length≤4:=by have:=(Lib.encodeRuneZ_length r).2;simpa[Lib.encodeRune]using this
theorem eY (l:List Int):(iU l).length≤4*l.length:=by
 induction l with
 |nil=>simp[iU]
 |cons c l ih=>
  have:=Ir (pC c);simp only[iU,List.flatMap_cons,bM,cv]at ih ⊢;omega
theorem th (l:List Int) (c:Int):Lib.byteCells (iU l)++Lib.runeCells (pC c)=Lib.byteCells (iU (l++[c])):=by
 rw[kr,←Lib.byteCells_encodeRune];simp[Lib.byteCells]
theorem E5 (c:Int) (w0:World):
  Spec Tryz.prog 255 #[.int .i64 c] w0 (fun v w=>v= .int .i32 (pC c)∧w=w0):=by
 refine aW (args:=[_]) (fn:=Tryz.f255) Tryz.func255 rfl (n:=17) Tryz.ntmps255 (aj (ah (ai rfl rfl (ad (aj (aj (ah (ae rfl rfl (cf rfl rfl rfl (ae rfl rfl ?_))))))))));refine aI (g:=5) rfl (fun fM=>?_) (fun fM=>?_)
 ·refine ao rfl rfl rfl rfl (ao rfl rfl rfl rfl (aQ rfl rfl rfl (ae rfl rfl (ao rfl rfl rfl rfl (ao rfl rfl rfl rfl (ao rfl rfl rfl rfl (ao rfl rfl rfl rfl (aQ rfl rfl rfl (ad (lO rfl (aj ?_)))))))))));refine ah (ai rfl rfl (ad (aH ?_)));exact aP rfl rfl ⟨by rw[pC,if_pos (by first|exact .inl (by omega)|exact .inr (.inl (by omega))|exact .inr (.inr (by assumption)))],rfl⟩
 ·refine al rfl rfl (ae rfl rfl (al rfl rfl (mG rfl rfl rfl (ay rfl rfl rfl (ae rfl rfl ?_)))));refine aI (g:=9) rfl (fun xn=>?_) (fun xn=>?_)
  ·refine ao rfl rfl rfl rfl (ao rfl rfl rfl rfl (ao rfl rfl rfl rfl (ao rfl rfl rfl rfl (aQ rfl rfl rfl (ad (lO rfl (aj (ah (ai rfl rfl (ad (aH ?_)))))))))));exact aP rfl rfl ⟨by rw[pC,if_pos (by first|exact .inl (by omega)|exact .inr (.inl (by omega))|exact .inr (.inr (by assumption)))],rfl⟩
  ·refine al rfl rfl (ae rfl rfl (al rfl rfl (qZ ar Tryz.underlying21 rfl rfl (bp (v':= .int .i32 c) (congrArg (Value.int .i32) (wrap32 (by omega))) (al rfl rfl ?_)))));refine aM rfl rfl U2 (AT _ _) (fun r wc hc=>?_);obtain⟨rfl,rfl⟩:=hc;refine al rfl rfl (Rg.not rfl rfl (bp (v':= .bool (decide (Lib.validRune c=false))) (by cases Lib.validRune c<;>rfl) (ay rfl rfl rfl (ad ?_))));refine bF rfl (fun c1=>?_) (fun c1=>?_)
   ·refine aj (ah (ai rfl rfl (ad (aH ?_))));exact aP rfl rfl ⟨by rw[pC,if_pos (by first|exact .inl (by omega)|exact .inr (.inl (by omega))|exact .inr (.inr (by assumption)))],rfl⟩
   ·refine aU (aj (ah (ae rfl rfl (qZ ar Tryz.underlying21 rfl rfl (bp (v':= .int .i32 c) (congrArg (Value.int .i32) (wrap32 (by omega))) (ai rfl rfl (ad (aH ?_))))))));exact aP rfl rfl ⟨by rw[pC,if_neg (by rintro(h|h|h)<;>first|omega|exact absurd h (by assumption))],rfl⟩
theorem Dl {M:az} {xs:List Int} {v0:Value} (w0:World) (hM:Lt M w0) (hv:((RT.int .i64).sl).V M w0 xs v0) (hl:xs.length≤1000000):
  Spec Tryz.prog 224 #[v0] w0 (fun v w=>v= .string ⟨(iU xs).toArray⟩∧Step M w0 M w aA):=by
 refine aW (args:=[_]) (fn:=Tryz.f224) Tryz.func224 rfl (n:=17) Tryz.ntmps224 (aj (ah (ai rfl rfl (ad (aj (ah ?_))))));refine ff M Up rfl (fun b w1 p1 q1 g1 s1=>?_);have qh:Lib.IsBuilderF 309 5 w0.heap.size b (Lib.byteCells (iU (xs.take 0))) w1:= .of (.inl ⟨p1,.slice none 0 0,g1,World.ownsRow_nil _ _ _ _,by simp[Value.ownBlock]⟩);have S1:Below w0.heap.size w0 w1:=s1.below;refine ad (aj (aj (ah (ae rfl rfl (bU av rfl hv rfl (ae rfl rfl (ad (bj ?_))))))));refine dI (σ:=Nat) (fun k=>[(3,.pointer (some ⟨b,0,none⟩)),(6,v0),(7,.int .i64 (xs.length:Int)),(8,.int .i64 (k:Int))]) (fun k w=>Lib.IsBuilderF 309 5 w0.heap.size b (Lib.byteCells (iU (xs.take k))) w∧Below w0.heap.size w0 w∧k≤xs.length) (fun k=>xs.length-k) 0 (.cons rfl (.cons rfl (.cons rfl (.cons rfl .nil)))) ?_ ?_
 ·exact⟨qh,S1,bH _⟩
 ·rintro k w ⟨hb,S,hk⟩;refine aj (ah (cf rfl rfl rfl (ad (aj ?_))));refine bF rfl (fun c3=>?_) (fun c3=>?_)
  ·refine aU (aj (bj (aj (ah ?_))));refine dq (M:=M) av I3 rfl rfl rfl hv (Step.tc S M).le (by omega) (fun u4 c AU AA=>?_);refine cd (M:=M) ar rfl rfl AA (aq _ _) (fun in4=>?_);refine ai rfl rfl (ad (ah (ae rfl rfl ?_)));refine aM rfl rfl U0 (E5 c _) (fun r wc hc=>?_);obtain⟨rfl,rfl⟩:=hc;refine aM rfl rfl UZ (Dk _ (by have:=Cj c;omega) hb (by rw[Lib.byteCells_length];have:=eY (xs.take k);rw[bG]at this;omega) S.size) (fun r5 w5 hc=>?_);obtain⟨Oc,S5⟩:=hc;have tk:xs.take (k+1)=xs.take k++[c]:=by rw[cr];simp only[aC]at AU;rw[AU];rfl
   rw[th,←tk]at Oc;have S6:=S.trans S5;refine ad (ah (bz rfl rfl rfl (by omega) (ae rfl rfl (ad ?_))));refine⟨rfl,k+1,(.cons rfl (.cons rfl (.cons rfl (.cons rfl .nil)))),?_,?_⟩
   ·exact⟨Oc,S6,by omega⟩
   ·omega
  ·refine cM (aj (ah ?_));refine aM rfl rfl U1 (E4 _ hb S.size) (fun r7 w7 hc=>?_);obtain⟨rfl,S7⟩:=hc;refine ai rfl rfl (ad (aH ?_));have e:xs.take k=xs:=bI (by omega);rw[e];exact aP rfl rfl ⟨rfl,Step.tc (S.trans S7) M⟩
end Go.K
namespace Go.K
def nO (c:Int):Int:=if 194≤c∧c<224 then 2 else if 224≤c∧c<240 then 3 else if 240≤c∧c<245 then 4 else 0
def fC (c:Int):Int:=if 194≤c∧c<224 then 128 else if 224≤c∧c<240 then 2048 else if 240≤c∧c<245 then 65536 else 0
def qD (c:Int):Int:=if 194≤c∧c<224 then c-192 else if 224≤c∧c<240 then c-224 else if 240≤c∧c<245 then c-240 else 0
def vO (l:List UInt8):Nat→Int
 |0=>qD (iA l 0)
 |k+1=>64*vO l k+iA l (k+1)-128
theorem fp {l:List UInt8} {k:Nat}:iu l k=true↔k<l.length∧128≤iA l k∧iA l k<192:=by
 unfold iu;simp only[bC,decide_eq_true_eq,beq_iff_eq];omega
theorem vS {n:Nat}:Utf8.valid (n:Int)=true↔(n<55296∨(57344≤n∧n≤1114111)):=by
 simp only[Utf8.valid,Bool.or_eq_true,bC,decide_eq_true_eq];omega
theorem Pw {l:List UInt8} (h:(iA l 0:Int)<128):dec l=(iA l 0,1):=by
 unfold dec yQ;rw[if_pos (by omega)]
theorem Ck {l:List UInt8} (h0:128≤(iA l 0:Int)) (h:nO (iA l 0)=0∨∃k:Nat,1≤k∧(k:Int)<nO (iA l 0)∧iu l k=false):dec l=(65533,1):=by
 have hb:=l2 l 0;unfold dec yQ;rw[if_neg (by omega)]
 have hk:nO (iA l 0)=0∨(2≤nO (iA l 0)∧iu l 1=false)∨(3≤nO (iA l 0)∧iu l 2=false)∨(4≤nO (iA l 0)∧iu l 3=false):=by
  rcases h with h|⟨k,h1,h2,h3⟩
  ·exact .inl h
  ·have:nO (iA l 0)≤4:=by
    unfold nO
    split
    ·omega
    ·split
     ·omega
     ·split<;>omega
   have hk:k=1∨k=2∨k=3:=by omega
   rcases hk with rfl|rfl|rfl
   ·exact .inr (.inl ⟨by omega,h3⟩)
   ·exact .inr (.inr (.inl ⟨by omega,h3⟩))
   ·exact .inr (.inr (.inr ⟨by omega,h3⟩))
 simp only[beq_iff_eq,bC,decide_eq_true_eq,ge_iff_le,vS];have hn:nO (iA l 0)=if 194≤(iA l 0:Int)∧(iA l 0:Int)<224 then 2 else if 224≤(iA l 0:Int)∧(iA l 0:Int)<240 then 3 else if 240≤(iA l 0:Int)∧(iA l 0:Int)<245 then 4 else 0:=rfl
 rw[hn]at hk
 split
 ·rename_i hc
  obtain⟨Tb,HI⟩:=hc
  split
  ·rename_i hv
   exfalso;by_cases acP:194≤(iA l 0:Int)
   ·rw[if_pos (by omega)]at hk;rcases hk with hk|⟨_,hk⟩|⟨hk,_⟩|⟨hk,_⟩
    ·omega
    ·rw[hk]at HI;cases HI
    ·omega
    ·omega
   ·omega
  ·rfl
 ·split
  ·rename_i hc
   obtain⟨⟨Tb,HI⟩,Px⟩:=hc
   split
   ·exfalso;rw[if_neg (by omega),if_pos (by omega)]at hk;rcases hk with hk|⟨_,hk⟩|⟨_,hk⟩|⟨hk,_⟩
    ·omega
    ·rw[hk]at HI;cases HI
    ·rw[hk]at Px;cases Px
    ·omega
   ·rfl
  ·split
   ·rename_i hc
    obtain⟨⟨⟨Tb,HI⟩,Px⟩,ZW⟩:=hc
    split
    ·rename_i hv
     exfalso;by_cases acQ:(iA l 0:Int)<245
     ·rw[if_neg (by omega),if_neg (by omega),if_pos (by omega)]at hk;rcases hk with hk|⟨_,hk⟩|⟨_,hk⟩|⟨_,hk⟩
      ·omega
      ·rw[hk]at HI;cases HI
      ·rw[hk]at Px;cases Px
      ·rw[hk]at ZW;cases ZW
     ·omega
    ·rfl
   ·rfl
theorem lC {c:Int} (h:nO c≠0):(nO c=2∧fC c=128∧qD c=c-192∧194≤c∧c<224)∨(nO c=3∧fC c=2048∧qD c=c-224∧224≤c∧c<240)∨(nO c=4∧fC c=65536∧qD c=c-240∧240≤c∧c<245):=by
 by_cases h1:194≤c∧c<224
 ·exact .inl ⟨if_pos h1,if_pos h1,if_pos h1,h1.1,h1.2⟩
 ·by_cases h2:224≤c∧c<240
  ·exact .inr (.inl ⟨(if_neg h1).trans (if_pos h2),(if_neg h1).trans (if_pos h2),(if_neg h1).trans (if_pos h2),h2.1,h2.2⟩)
  ·by_cases h3:240≤c∧c<245
   ·exact .inr (.inr ⟨(if_neg h1).trans ((if_neg h2).trans (if_pos h3)),(if_neg h1).trans ((if_neg h2).trans (if_pos h3)),(if_neg h1).trans ((if_neg h2).trans (if_pos h3)),h3.1,h3.2⟩)
   ·exact absurd ((if_neg h1).trans ((if_neg h2).trans (if_neg h3))) h
theorem yW {l:List UInt8} (hn:nO (iA l 0)≠0) (hc:∀k:Nat,1≤k→(k:Int)<nO (iA l 0)→iu l k=true) (v:Int) (hv:v=vO l (nO (iA l 0)-1).toNat):
  dec l=if v<fC (iA l 0)∨v>1114111∨(55296≤v∧v≤57343)then(65533,1)else(v.toNat,(nO (iA l 0)).toNat):=by
 have hb:=l2 l 0;have b1:=l2 l 1;have b2:=l2 l 2;have b3:=l2 l 3;unfold dec yQ;simp only[beq_iff_eq,bC,decide_eq_true_eq,ge_iff_le,vS];rcases lC hn with⟨e1,e2,e3,e4,e5⟩|⟨e1,e2,e3,e4,e5⟩|⟨e1,e2,e3,e4,e5⟩
 ·have c1:=hc 1 (by omega) (by omega);have d1:=fp.1 c1;rw[e1]at hv;have xo:v=64*((iA l 0:Int)-192)+iA l 1-128:=by rw[hv];show 64*qD (iA l 0)+_-_=_;rw[e3]
  rw[if_neg (by omega),if_pos ⟨by omega,c1⟩,e2,e1];by_cases hx:v<128∨v>1114111∨(55296≤v∧v≤57343)
  ·rw[if_pos hx,if_neg (by omega)]
  ·rw[if_neg hx,if_pos (by omega)];simp only[Prod.mk.injEq];omega
 ·have c1:=hc 1 (by omega) (by omega);have c2:=hc 2 (by omega) (by omega);have d1:=fp.1 c1;have d2:=fp.1 c2;rw[e1]at hv;have xo:v=64*(64*((iA l 0:Int)-224)+iA l 1-128)+iA l 2-128:=by rw[hv];show 64*(64*qD (iA l 0)+_-_)+_-_=_;rw[e3]
  rw[if_neg (by omega),if_neg (by omega),if_pos ⟨⟨by omega,c1⟩,c2⟩,e2,e1];by_cases hx:v<2048∨v>1114111∨(55296≤v∧v≤57343)
  ·rw[if_pos hx,if_neg (by omega)]
  ·rw[if_neg hx,if_pos (by omega)];simp only[Prod.mk.injEq];omega
 ·have c1:=hc 1 (by omega) (by omega);have c2:=hc 2 (by omega) (by omega);have c3:=hc 3 (by omega) (by omega);have d1:=fp.1 c1;have d2:=fp.1 c2;have d3:=fp.1 c3;rw[e1]at hv;have xo:v=64*(64*(64*((iA l 0:Int)-240)+iA l 1-128)+iA l 2-128)+iA l 3-128:=by rw[hv];show 64*(64*(64*qD (iA l 0)+_-_)+_-_)+_-_=_;rw[e3]
  rw[if_neg (by omega),if_neg (by omega),if_neg (by omega),if_pos ⟨⟨⟨by omega,c1⟩,c2⟩,c3⟩,e2,e1];by_cases hx:v<65536∨v>1114111∨(55296≤v∧v≤57343)
  ·rw[if_pos hx,if_neg (by omega)]
  ·rw[if_neg hx,if_pos (by omega)];simp only[Prod.mk.injEq];omega
end Go.K
namespace Go.K
open Go.Proofs
set_option maxRecDepth 10000
theorem xp (c:Int) (w0:World):
  Spec Tryz.prog 253 #[.int .i64 c] w0 (fun v w=>v= .bool (eG c)∧w=w0):=by
 refine aW (args:=[_]) (fn:=Tryz.f253) Tryz.func253 rfl (n:=31) Tryz.ntmps253 (aj (ah (ai rfl rfl (ad (aj (aj (ah (ae rfl rfl (dA rfl rfl rfl (ae rfl rfl ?_))))))))));refine aI (g:=5) rfl (fun fM=>?_) (fun fM=>?_)
 ·refine al rfl rfl (ae rfl rfl (al rfl rfl (eM rfl rfl rfl (aQ rfl rfl rfl (ae rfl rfl ?_)))));refine aI (g:=9) rfl (fun xn=>?_) (fun xn=>?_)
  ·refine ao rfl rfl rfl rfl (ao rfl rfl rfl rfl (ao rfl rfl rfl rfl (cc rfl rfl rfl (cc rfl rfl rfl (ao rfl rfl rfl rfl (aQ rfl rfl rfl (ad (lO rfl (aj (ah (ai rfl rfl ?_)))))))))));refine ad (aH ?_);exact aP rfl rfl ⟨by simp only[eG];first|rfl|(congr 1;first|(exact(decide_eq_true (by omega)).symm)|(exact(decide_eq_false (by omega)).symm)|(exact decide_eq_decide.2 (by omega))),rfl⟩
  ·refine al rfl rfl (ae rfl rfl (al rfl rfl (dA rfl rfl rfl (al rfl rfl (ae rfl rfl ?_)))));refine aI (g:=12) rfl (fun oS=>?_) (fun oS=>?_)
   ·refine al rfl rfl (ae rfl rfl (al rfl rfl (eM rfl rfl rfl (al rfl rfl (aQ rfl rfl rfl (ay rfl rfl rfl (ad ?_)))))));refine bF rfl (fun c1=>?_) (fun c1=>?_)
    ·refine aj (ah (ai rfl rfl (ad (aH ?_))));exact aP rfl rfl ⟨by simp only[eG];first|rfl|(congr 1;first|(exact(decide_eq_true (by omega)).symm)|(exact(decide_eq_false (by omega)).symm)|(exact decide_eq_decide.2 (by omega))),rfl⟩
    ·refine aU (aj (ah (ae rfl rfl (dA rfl rfl rfl (ae rfl rfl ?_)))));refine aI (g:=19) rfl (fun AV=>?_) (fun AV=>?_)
     ·refine al rfl rfl (ae rfl rfl (al rfl rfl (eM rfl rfl rfl (aQ rfl rfl rfl (ae rfl rfl ?_)))));refine aI (g:=23) rfl (fun AW=>?_) (fun AW=>?_)
      ·refine al rfl rfl (ae rfl rfl (al rfl rfl (eN rfl rfl rfl (aQ rfl rfl rfl (ae rfl rfl ?_)))));refine aI (g:=27) rfl (fun ti=>?_) (fun ti=>?_)
       ·refine al rfl rfl (ae rfl rfl (al rfl rfl (eN rfl rfl rfl (aQ rfl rfl rfl (ai rfl rfl (ad (aH ?_)))))));exact aP rfl rfl ⟨by simp only[eG];first|rfl|(congr 1;first|(exact(decide_eq_true (by omega)).symm)|(exact(decide_eq_false (by omega)).symm)|(exact decide_eq_decide.2 (by omega))),rfl⟩
       ·refine ao rfl rfl rfl rfl (ao rfl rfl rfl rfl (ay rfl rfl rfl (ai rfl rfl (ad (aH ?_)))));exact aP rfl rfl ⟨by simp only[eG];first|rfl|(congr 1;first|(exact(decide_eq_true (by omega)).symm)|(exact(decide_eq_false (by omega)).symm)|(exact decide_eq_decide.2 (by omega))),rfl⟩
      ·refine ao rfl rfl rfl rfl (ao rfl rfl rfl rfl (ay rfl rfl rfl (ae rfl rfl (ao rfl rfl rfl rfl (ao rfl rfl rfl rfl (ay rfl rfl rfl (ai rfl rfl (ad (aH ?_)))))))));exact aP rfl rfl ⟨by simp only[eG];first|rfl|(congr 1;first|(exact(decide_eq_true (by omega)).symm)|(exact(decide_eq_false (by omega)).symm)|(exact decide_eq_decide.2 (by omega))),rfl⟩
     ·refine ao rfl rfl rfl rfl (ao rfl rfl rfl rfl (ay rfl rfl rfl (ae rfl rfl (ao rfl rfl rfl rfl (ao rfl rfl rfl rfl (ay rfl rfl rfl (ae rfl rfl (ao rfl rfl rfl rfl (ao rfl rfl rfl rfl (ay rfl rfl rfl (ai rfl rfl ?_)))))))))));refine ad (aH ?_);exact aP rfl rfl ⟨by simp only[eG];first|rfl|(congr 1;first|(exact(decide_eq_true (by omega)).symm)|(exact(decide_eq_false (by omega)).symm)|(exact decide_eq_decide.2 (by omega))),rfl⟩
   ·refine ao rfl rfl rfl rfl (ao rfl rfl rfl rfl (al rfl rfl (ay rfl rfl rfl (ay rfl rfl rfl (ad (gL rfl (aU (aj (ah (ae rfl rfl (dA rfl rfl rfl ?_)))))))))));refine ae rfl rfl ?_;refine aI (g:=19) rfl (fun AV=>?_) (fun AV=>?_)
    ·refine al rfl rfl (ae rfl rfl (al rfl rfl (eM rfl rfl rfl (aQ rfl rfl rfl (ae rfl rfl ?_)))));refine aI (g:=23) rfl (fun AW=>?_) (fun AW=>?_)
     ·refine al rfl rfl (ae rfl rfl (al rfl rfl (eN rfl rfl rfl (aQ rfl rfl rfl (ae rfl rfl ?_)))));refine aI (g:=27) rfl (fun ti=>?_) (fun ti=>?_)
      ·refine al rfl rfl (ae rfl rfl (al rfl rfl (eN rfl rfl rfl (aQ rfl rfl rfl (ai rfl rfl (ad (aH ?_)))))));exact aP rfl rfl ⟨by simp only[eG];first|rfl|(congr 1;first|(exact(decide_eq_true (by omega)).symm)|(exact(decide_eq_false (by omega)).symm)|(exact decide_eq_decide.2 (by omega))),rfl⟩
      ·refine ao rfl rfl rfl rfl (ao rfl rfl rfl rfl (ay rfl rfl rfl (ai rfl rfl (ad (aH ?_)))));exact aP rfl rfl ⟨by simp only[eG];first|rfl|(congr 1;first|(exact(decide_eq_true (by omega)).symm)|(exact(decide_eq_false (by omega)).symm)|(exact decide_eq_decide.2 (by omega))),rfl⟩
     ·refine ao rfl rfl rfl rfl (ao rfl rfl rfl rfl (ay rfl rfl rfl (ae rfl rfl (ao rfl rfl rfl rfl (ao rfl rfl rfl rfl (ay rfl rfl rfl (ai rfl rfl (ad (aH ?_)))))))));exact aP rfl rfl ⟨by simp only[eG];first|rfl|(congr 1;first|(exact(decide_eq_true (by omega)).symm)|(exact(decide_eq_false (by omega)).symm)|(exact decide_eq_decide.2 (by omega))),rfl⟩
    ·refine ao rfl rfl rfl rfl (ao rfl rfl rfl rfl (ay rfl rfl rfl (ae rfl rfl (ao rfl rfl rfl rfl (ao rfl rfl rfl rfl (ay rfl rfl rfl (ae rfl rfl (ao rfl rfl rfl rfl (ao rfl rfl rfl rfl (ay rfl rfl rfl (ai rfl rfl ?_)))))))))));refine ad (aH ?_);exact aP rfl rfl ⟨by simp only[eG];first|rfl|(congr 1;first|(exact(decide_eq_true (by omega)).symm)|(exact(decide_eq_false (by omega)).symm)|(exact decide_eq_decide.2 (by omega))),rfl⟩
 ·refine ao rfl rfl rfl rfl (ao rfl rfl rfl rfl (ay rfl rfl rfl (ae rfl rfl (al rfl rfl (ae rfl rfl (al rfl rfl (dA rfl rfl rfl (al rfl rfl (ae rfl rfl ?_)))))))));refine aI (g:=12) rfl (fun oS=>?_) (fun oS=>?_)
  ·refine al rfl rfl (ae rfl rfl (al rfl rfl (eM rfl rfl rfl (al rfl rfl (aQ rfl rfl rfl (ay rfl rfl rfl (ad ?_)))))));refine bF rfl (fun c1=>?_) (fun c1=>?_)
   ·refine aj (ah (ai rfl rfl (ad (aH ?_))));exact aP rfl rfl ⟨by simp only[eG];first|rfl|(congr 1;first|(exact(decide_eq_true (by omega)).symm)|(exact(decide_eq_false (by omega)).symm)|(exact decide_eq_decide.2 (by omega))),rfl⟩
   ·refine aU (aj (ah (ae rfl rfl (dA rfl rfl rfl (ae rfl rfl ?_)))));refine aI (g:=19) rfl (fun AV=>?_) (fun AV=>?_)
    ·refine al rfl rfl (ae rfl rfl (al rfl rfl (eM rfl rfl rfl (aQ rfl rfl rfl (ae rfl rfl ?_)))));refine aI (g:=23) rfl (fun AW=>?_) (fun AW=>?_)
     ·refine al rfl rfl (ae rfl rfl (al rfl rfl (eN rfl rfl rfl (aQ rfl rfl rfl (ae rfl rfl ?_)))));refine aI (g:=27) rfl (fun ti=>?_) (fun ti=>?_)
      ·refine al rfl rfl (ae rfl rfl (al rfl rfl (eN rfl rfl rfl (aQ rfl rfl rfl (ai rfl rfl (ad (aH ?_)))))));exact aP rfl rfl ⟨by simp only[eG];first|rfl|(congr 1;first|(exact(decide_eq_true (by omega)).symm)|(exact(decide_eq_false (by omega)).symm)|(exact decide_eq_decide.2 (by omega))),rfl⟩
      ·refine ao rfl rfl rfl rfl (ao rfl rfl rfl rfl (ay rfl rfl rfl (ai rfl rfl (ad (aH ?_)))));exact aP rfl rfl ⟨by simp only[eG];first|rfl|(congr 1;first|(exact(decide_eq_true (by omega)).symm)|(exact(decide_eq_false (by omega)).symm)|(exact decide_eq_decide.2 (by omega))),rfl⟩
     ·refine ao rfl rfl rfl rfl (ao rfl rfl rfl rfl (ay rfl rfl rfl (ae rfl rfl (ao rfl rfl rfl rfl (ao rfl rfl rfl rfl (ay rfl rfl rfl (ai rfl rfl (ad (aH ?_)))))))));exact aP rfl rfl ⟨by simp only[eG];first|rfl|(congr 1;first|(exact(decide_eq_true (by omega)).symm)|(exact(decide_eq_false (by omega)).symm)|(exact decide_eq_decide.2 (by omega))),rfl⟩
    ·refine ao rfl rfl rfl rfl (ao rfl rfl rfl rfl (ay rfl rfl rfl (ae rfl rfl (ao rfl rfl rfl rfl (ao rfl rfl rfl rfl (ay rfl rfl rfl (ae rfl rfl (ao rfl rfl rfl rfl (ao rfl rfl rfl rfl (ay rfl rfl rfl (ai rfl rfl ?_)))))))))));refine ad (aH ?_);exact aP rfl rfl ⟨by simp only[eG];first|rfl|(congr 1;first|(exact(decide_eq_true (by omega)).symm)|(exact(decide_eq_false (by omega)).symm)|(exact decide_eq_decide.2 (by omega))),rfl⟩
  ·refine ao rfl rfl rfl rfl (ao rfl rfl rfl rfl (al rfl rfl (ay rfl rfl rfl (ay rfl rfl rfl (ad (gL rfl (aU (aj (ah (ae rfl rfl (dA rfl rfl rfl ?_)))))))))));refine ae rfl rfl ?_;refine aI (g:=19) rfl (fun AV=>?_) (fun AV=>?_)
   ·refine al rfl rfl (ae rfl rfl (al rfl rfl (eM rfl rfl rfl (aQ rfl rfl rfl (ae rfl rfl ?_)))));refine aI (g:=23) rfl (fun AW=>?_) (fun AW=>?_)
    ·refine al rfl rfl (ae rfl rfl (al rfl rfl (eN rfl rfl rfl (aQ rfl rfl rfl (ae rfl rfl ?_)))));refine aI (g:=27) rfl (fun ti=>?_) (fun ti=>?_)
     ·refine al rfl rfl (ae rfl rfl (al rfl rfl (eN rfl rfl rfl (aQ rfl rfl rfl (ai rfl rfl (ad (aH ?_)))))));exact aP rfl rfl ⟨by simp only[eG];first|rfl|(congr 1;first|(exact(decide_eq_true (by omega)).symm)|(exact(decide_eq_false (by omega)).symm)|(exact decide_eq_decide.2 (by omega))),rfl⟩
     ·refine ao rfl rfl rfl rfl (ao rfl rfl rfl rfl (ay rfl rfl rfl (ai rfl rfl (ad (aH ?_)))));exact aP rfl rfl ⟨by simp only[eG];first|rfl|(congr 1;first|(exact(decide_eq_true (by omega)).symm)|(exact(decide_eq_false (by omega)).symm)|(exact decide_eq_decide.2 (by omega))),rfl⟩
    ·refine ao rfl rfl rfl rfl (ao rfl rfl rfl rfl (ay rfl rfl rfl (ae rfl rfl (ao rfl rfl rfl rfl (ao rfl rfl rfl rfl (ay rfl rfl rfl (ai rfl rfl (ad (aH ?_)))))))));exact aP rfl rfl ⟨by simp only[eG];first|rfl|(congr 1;first|(exact(decide_eq_true (by omega)).symm)|(exact(decide_eq_false (by omega)).symm)|(exact decide_eq_decide.2 (by omega))),rfl⟩
   ·refine ao rfl rfl rfl rfl (ao rfl rfl rfl rfl (ay rfl rfl rfl (ae rfl rfl (ao rfl rfl rfl rfl (ao rfl rfl rfl rfl (ay rfl rfl rfl (ae rfl rfl (ao rfl rfl rfl rfl (ao rfl rfl rfl rfl (ay rfl rfl rfl (ai rfl rfl ?_)))))))))));refine ad (aH ?_);exact aP rfl rfl ⟨by simp only[eG];first|rfl|(congr 1;first|(exact(decide_eq_true (by omega)).symm)|(exact(decide_eq_false (by omega)).symm)|(exact decide_eq_decide.2 (by omega))),rfl⟩
theorem AX (c:Int) (w0:World) (hc:0≤c∧c≤1114111):
  Spec Tryz.prog 218 #[.int .i64 c] w0 (fun v w=>v= .int .i64 (eJ c)∧w=w0):=by
 refine aW (args:=[_]) (fn:=Tryz.f218) Tryz.func218 rfl (n:=28) Tryz.ntmps218 (aj (ah (ai rfl rfl (ad (aj (aj (ah (ae rfl rfl (dA rfl rfl rfl (ae rfl rfl ?_))))))))));refine aI (g:=5) rfl (fun fM=>?_) (fun fM=>?_)
 ·refine al rfl rfl (ae rfl rfl (al rfl rfl (eM rfl rfl rfl (aQ rfl rfl rfl (ae rfl rfl ?_)))));refine aI (g:=9) rfl (fun xn=>?_) (fun xn=>?_)
  ·refine ao rfl rfl rfl rfl (ao rfl rfl rfl rfl (ao rfl rfl rfl rfl (cc rfl rfl rfl (cc rfl rfl rfl (ao rfl rfl rfl rfl (aQ rfl rfl rfl (ae rfl rfl (ao rfl rfl rfl rfl (ao rfl rfl rfl rfl (ao rfl rfl rfl rfl (cc rfl rfl rfl ?_)))))))))));refine cc rfl rfl rfl (ao rfl rfl rfl rfl (aQ rfl rfl rfl (ad (lO rfl (aj (ah (ae rfl rfl (bz rfl rfl rfl (by omega) (ai rfl rfl (ad (aH ?_)))))))))));exact aP rfl rfl ⟨by rw[eJ,if_pos (by omega)],rfl⟩
  ·refine al rfl rfl (ae rfl rfl (al rfl rfl (dA rfl rfl rfl (al rfl rfl (ae rfl rfl ?_)))));refine aI (g:=12) rfl (fun oS=>?_) (fun oS=>?_)
   ·refine al rfl rfl (ae rfl rfl (al rfl rfl (eM rfl rfl rfl (al rfl rfl (aQ rfl rfl rfl (ay rfl rfl rfl (ae rfl rfl ?_)))))));refine aI (g:=17) rfl (fun te=>?_) (fun te=>?_)
    ·refine ao rfl rfl rfl rfl (ao rfl rfl rfl rfl (ao rfl rfl rfl rfl (cc rfl rfl rfl (cc rfl rfl rfl (ao rfl rfl rfl rfl (aQ rfl rfl rfl (ad (lO rfl (aj (ah (ae rfl rfl ?_)))))))))));refine bz rfl rfl rfl (by omega) (ai rfl rfl (ad (aH ?_)));exact aP rfl rfl ⟨by rw[eJ,if_pos (by omega)],rfl⟩
    ·refine al rfl rfl (ae rfl rfl (al rfl rfl (dA rfl rfl rfl (al rfl rfl (ae rfl rfl ?_)))));refine aI (g:=20) rfl (fun kq=>?_) (fun kq=>?_)
     ·refine al rfl rfl (ae rfl rfl (al rfl rfl (eM rfl rfl rfl (al rfl rfl (aQ rfl rfl rfl (ay rfl rfl rfl (ad ?_)))))));refine bF rfl (fun c1=>?_) (fun c1=>?_)
      ·refine aj (ah (ae rfl rfl (bz rfl rfl rfl (by omega) (ai rfl rfl (ad (aH ?_))))));exact aP rfl rfl ⟨by rw[eJ,if_pos (by omega)],rfl⟩
      ·refine aU (aj (ah (ae rfl rfl (ai rfl rfl (ad (aH ?_))))));exact aP rfl rfl ⟨by rw[eJ,if_neg (by omega)],rfl⟩
     ·refine ao rfl rfl rfl rfl (ao rfl rfl rfl rfl (al rfl rfl (ay rfl rfl rfl (ay rfl rfl rfl (ad (gL rfl (aU (aj (ah (ae rfl rfl (ai rfl rfl ?_)))))))))));refine ad (aH ?_);exact aP rfl rfl ⟨by rw[eJ,if_neg (by omega)],rfl⟩
   ·refine ao rfl rfl rfl rfl (ao rfl rfl rfl rfl (al rfl rfl (ay rfl rfl rfl (ay rfl rfl rfl (ae rfl rfl (al rfl rfl (ae rfl rfl (al rfl rfl (dA rfl rfl rfl (al rfl rfl (ae rfl rfl ?_)))))))))));refine aI (g:=20) rfl (fun kq=>?_) (fun kq=>?_)
    ·refine al rfl rfl (ae rfl rfl (al rfl rfl (eM rfl rfl rfl (al rfl rfl (aQ rfl rfl rfl (ay rfl rfl rfl (ad ?_)))))));refine bF rfl (fun c1=>?_) (fun c1=>?_)
     ·refine aj (ah (ae rfl rfl (bz rfl rfl rfl (by omega) (ai rfl rfl (ad (aH ?_))))));exact aP rfl rfl ⟨by rw[eJ,if_pos (by omega)],rfl⟩
     ·refine aU (aj (ah (ae rfl rfl (ai rfl rfl (ad (aH ?_))))));exact aP rfl rfl ⟨by rw[eJ,if_neg (by omega)],rfl⟩
    ·refine ao rfl rfl rfl rfl (ao rfl rfl rfl rfl (al rfl rfl (ay rfl rfl rfl (ay rfl rfl rfl (ad (gL rfl (aU (aj (ah (ae rfl rfl (ai rfl rfl ?_)))))))))));refine ad (aH ?_);exact aP rfl rfl ⟨by rw[eJ,if_neg (by omega)],rfl⟩
 ·refine ao rfl rfl rfl rfl (ao rfl rfl rfl rfl (ay rfl rfl rfl (ae rfl rfl (al rfl rfl (ae rfl rfl (al rfl rfl (dA rfl rfl rfl (al rfl rfl (ae rfl rfl ?_)))))))));refine aI (g:=12) rfl (fun oS=>?_) (fun oS=>?_)
  ·refine al rfl rfl (ae rfl rfl (al rfl rfl (eM rfl rfl rfl (al rfl rfl (aQ rfl rfl rfl (ay rfl rfl rfl (ae rfl rfl ?_)))))));refine aI (g:=17) rfl (fun te=>?_) (fun te=>?_)
   ·refine ao rfl rfl rfl rfl (ao rfl rfl rfl rfl (ao rfl rfl rfl rfl (cc rfl rfl rfl (cc rfl rfl rfl (ao rfl rfl rfl rfl (aQ rfl rfl rfl (ad (lO rfl (aj (ah (ae rfl rfl ?_)))))))))));refine bz rfl rfl rfl (by omega) (ai rfl rfl (ad (aH ?_)));exact aP rfl rfl ⟨by rw[eJ,if_pos (by omega)],rfl⟩
   ·refine al rfl rfl (ae rfl rfl (al rfl rfl (dA rfl rfl rfl (al rfl rfl (ae rfl rfl ?_)))));refine aI (g:=20) rfl (fun kq=>?_) (fun kq=>?_)
    ·refine al rfl rfl (ae rfl rfl (al rfl rfl (eM rfl rfl rfl (al rfl rfl (aQ rfl rfl rfl (ay rfl rfl rfl (ad ?_)))))));refine bF rfl (fun c1=>?_) (fun c1=>?_)
     ·refine aj (ah (ae rfl rfl (bz rfl rfl rfl (by omega) (ai rfl rfl (ad (aH ?_))))));exact aP rfl rfl ⟨by rw[eJ,if_pos (by omega)],rfl⟩
     ·refine aU (aj (ah (ae rfl rfl (ai rfl rfl (ad (aH ?_))))));exact aP rfl rfl ⟨by rw[eJ,if_neg (by omega)],rfl⟩
    ·refine ao rfl rfl rfl rfl (ao rfl rfl rfl rfl (al rfl rfl (ay rfl rfl rfl (ay rfl rfl rfl (ad (gL rfl (aU (aj (ah (ae rfl rfl (ai rfl rfl ?_)))))))))));refine ad (aH ?_);exact aP rfl rfl ⟨by rw[eJ,if_neg (by omega)],rfl⟩
  ·refine ao rfl rfl rfl rfl (ao rfl rfl rfl rfl (al rfl rfl (ay rfl rfl rfl (ay rfl rfl rfl (ae rfl rfl (al rfl rfl (ae rfl rfl (al rfl rfl (dA rfl rfl rfl (al rfl rfl (ae rfl rfl ?_)))))))))));refine aI (g:=20) rfl (fun kq=>?_) (fun kq=>?_)
   ·refine al rfl rfl (ae rfl rfl (al rfl rfl (eM rfl rfl rfl (al rfl rfl (aQ rfl rfl rfl (ay rfl rfl rfl (ad ?_)))))));refine bF rfl (fun c1=>?_) (fun c1=>?_)
    ·refine aj (ah (ae rfl rfl (bz rfl rfl rfl (by omega) (ai rfl rfl (ad (aH ?_))))));exact aP rfl rfl ⟨by rw[eJ,if_pos (by omega)],rfl⟩
    ·refine aU (aj (ah (ae rfl rfl (ai rfl rfl (ad (aH ?_))))));exact aP rfl rfl ⟨by rw[eJ,if_neg (by omega)],rfl⟩
   ·refine ao rfl rfl rfl rfl (ao rfl rfl rfl rfl (al rfl rfl (ay rfl rfl rfl (ay rfl rfl rfl (ad (gL rfl (aU (aj (ah (ae rfl rfl (ai rfl rfl ?_)))))))))));refine ad (aH ?_);exact aP rfl rfl ⟨by rw[eJ,if_neg (by omega)],rfl⟩
def rY (c:Int):Bool:=decide (eG c=true∨l4 c=true)
theorem yX (c:Int) (w0:World):
  Spec Tryz.prog 217 #[.int .i64 c] w0 (fun v w=>v= .bool (rY c)∧w=w0):=by
 refine aW (args:=[_]) (fn:=Tryz.f217) Tryz.func217 rfl (n:=13) Tryz.ntmps217 (aj (ah (ai rfl rfl (ad (aj (ah (ae rfl rfl ?_)))))));refine aM rfl rfl UY (xp _ _) (fun r wc hc=>?_);obtain⟨rfl,rfl⟩:=hc;refine bp (v':= .bool (decide (eG c=true))) (by cases eG c<;>rfl) (ae rfl rfl ?_);refine aI (g:=5) rfl (fun fM=>?_) (fun fM=>?_)
 ·refine ao rfl rfl rfl rfl (ao rfl rfl rfl rfl (ao rfl rfl rfl rfl (cc rfl rfl rfl (cc rfl rfl rfl (ao rfl rfl rfl rfl (aQ rfl rfl rfl (ai rfl rfl (ad (aH ?_)))))))));have e:(l4 c=true)=(48≤c∧c≤57):=by simp[l4]
  exact aP rfl rfl ⟨by simp only[rY,e];first|(congr 1;first|(exact(decide_eq_true (.inl (by assumption))).symm)|(exact(decide_eq_true (.inr (by omega))).symm)|(exact(decide_eq_false (by rintro(h|h)<;>first|exact absurd h (by assumption)|omega)).symm)|(exact decide_eq_decide.2 ⟨fun h=> .inr (by omega),fun h=>h.elim (fun h=>absurd h (by assumption)) (fun h=>by omega)⟩)),rfl⟩
 ·refine al rfl rfl (ae rfl rfl (al rfl rfl (dA rfl rfl rfl (al rfl rfl (ae rfl rfl ?_)))));refine aI (g:=8) rfl (fun qE=>?_) (fun qE=>?_)
  ·refine al rfl rfl (ae rfl rfl (al rfl rfl (eM rfl rfl rfl (al rfl rfl (aQ rfl rfl rfl (ay rfl rfl rfl (ai rfl rfl (ad (aH ?_)))))))));have e:(l4 c=true)=(48≤c∧c≤57):=by simp[l4]
   exact aP rfl rfl ⟨by simp only[rY,e];first|(congr 1;first|(exact(decide_eq_true (.inl (by assumption))).symm)|(exact(decide_eq_true (.inr (by omega))).symm)|(exact(decide_eq_false (by rintro(h|h)<;>first|exact absurd h (by assumption)|omega)).symm)|(exact decide_eq_decide.2 ⟨fun h=> .inr (by omega),fun h=>h.elim (fun h=>absurd h (by assumption)) (fun h=>by omega)⟩)),rfl⟩
  ·refine ao rfl rfl rfl rfl (ao rfl rfl rfl rfl (al rfl rfl (ay rfl rfl rfl (ay rfl rfl rfl (ai rfl rfl (ad (aH ?_)))))));have e:(l4 c=true)=(48≤c∧c≤57):=by simp[l4]
   exact aP rfl rfl ⟨by simp only[rY,e];first|(congr 1;first|(exact(decide_eq_true (.inl (by assumption))).symm)|(exact(decide_eq_true (.inr (by omega))).symm)|(exact(decide_eq_false (by rintro(h|h)<;>first|exact absurd h (by assumption)|omega)).symm)|(exact decide_eq_decide.2 ⟨fun h=> .inr (by omega),fun h=>h.elim (fun h=>absurd h (by assumption)) (fun h=>by omega)⟩)),rfl⟩
theorem Lw {l:List UInt8} {c:Int} (hc:c=(iA l 0:Int)) (hn:nO c≠0):∀{k:Nat},(∀j:Nat,1≤j→j<k+1→iu l j=true)→k≤3→0≤vO l k∧vO l k≤100000000:=by
 have key:∀k:Nat,(∀j:Nat,1≤j→j<k+1→iu l j=true)→0≤vO l k∧vO l k≤33*64^k-1:=by
  intro k
  induction k with
  |zero=>
   intro _;have:=lC hn;show 0≤qD (iA l 0:Int)∧qD (iA l 0:Int)≤33*64^0-1;rw[←hc];simp only[Int.pow_zero];omega
  |succ k ih=>
   intro h;have h1:=ih fun j h2 h3=>h j h2 (by omega)
   have h2:=fp.1 (h (k+1) (by omega) (by omega));show 0≤64*vO l k+_-128∧64*vO l k+_-128≤_;rw[Int.pow_succ];omega
 intro k h hk;have:=key k h
 have h3:(64:Int)^k≤262144:=by
  rcases(show k=0∨k=1∨k=2∨k=3 by omega)with rfl|rfl|rfl|rfl<;>decide
 omega
theorem E6 {l:List UInt8} (w0:World) (hl:l≠[]) (hlen:l.length≤1000000):
  Spec Tryz.prog 252 #[.string ⟨l.toArray⟩] w0 (fun v w=>v= .tuple #[.int .i64 ((dec l).1:Int),.int .i64 ((dec l).2:Int)]∧w=w0):=by
 have wU:0<l.length:=lN.2 hl;have hb0:=l2 l 0;obtain⟨c,hc⟩:∃c:Int,c=(iA l 0:Int):=⟨_,rfl⟩;have hcr:0≤c∧c<256:=by omega
 refine aW (args:=[_]) (fn:=Tryz.f252) Tryz.func252 rfl (n:=85) Tryz.ntmps252 (aj (ah (ai rfl rfl (ai rfl rfl (ad (aj (ah (ae rfl rfl ?_))))))));refine Rg.Ci (c:=l.getD 0 0) aD rfl rfl rfl (by decide) (by rw[bT];show l[0]? =_;rw[aL wU];rfl) ?_;refine bp (v':= .int .u8 c) (by rw[hc];rfl) (Rg.qm bZ ar rfl rfl (by omega) (ai rfl rfl (ad (aj (aj (ah (ae rfl rfl (cf rfl rfl rfl (ad ?_)))))))));refine bF rfl (fun c2=>?_) (fun c2=>?_)
 ·refine aj (ah (ae rfl rfl (ai rfl rfl (ai rfl rfl (ad (aH ?_))))));exact ez rfl rfl rfl ⟨by rw[Pw (by omega),hc];rfl,rfl⟩
 ·refine aU (aj (ah (ai rfl rfl (ad (aj (ah (ai rfl rfl (ad (aj (ah (ai rfl rfl ?_)))))))))));refine ad ?_;refine T.Cf [(0,.string ⟨l.toArray⟩),(4,.int .i64 c),(5,.int .i64 (nO c)),(6,.int .i64 (fC c)),(7,.int .i64 (qD c))] ?_ ?_
  ·refine aj (ah (ae rfl rfl (dA rfl rfl rfl (ae rfl rfl ?_))));refine aI (g:=18) rfl (fun U3=>?_) (fun U3=>?_)
   ·refine al rfl rfl (ae rfl rfl (al rfl rfl (cf rfl rfl rfl (aQ rfl rfl rfl (ad ?_)))));refine bF rfl (fun c7=>?_) (fun c7=>?_)
    ·refine aj (ah (ai rfl rfl (ad (aj (ah (ai rfl rfl (ad (ah (ae rfl rfl (gM rfl rfl rfl (by omega) (ai rfl rfl ?_)))))))))));refine ad ?_;exact⟨rfl,rfl,rfl,.cons rfl (.cons rfl (.cons (congrArg (fun z=>some (Value.int .i64 z)) (by first|(exfalso;omega)|(unfold nO;repeat (first|rw[if_pos (by omega)]|rw[if_neg (by omega)])))) (.cons (congrArg (fun z=>some (Value.int .i64 z)) (by first|(exfalso;omega)|(unfold fC;repeat (first|rw[if_pos (by omega)]|rw[if_neg (by omega)])))) (.cons (congrArg (fun z=>some (Value.int .i64 z)) (by first|(exfalso;omega)|(unfold qD;repeat (first|rw[if_pos (by omega)]|rw[if_neg (by omega)])))) (.nil)))))⟩
    ·refine aj (ah (ae rfl rfl (dA rfl rfl rfl (ae rfl rfl ?_))));refine aI (g:=26) rfl (fun E7=>?_) (fun E7=>?_)
     ·refine al rfl rfl (ae rfl rfl (al rfl rfl (cf rfl rfl rfl (aQ rfl rfl rfl (ad ?_)))));refine bF rfl (fun E8=>?_) (fun E8=>?_)
      ·refine aj (ah (ai rfl rfl (ad (aj (ah (ai rfl rfl (ad (ah (ae rfl rfl (gM rfl rfl rfl (by omega) (ai rfl rfl ?_)))))))))));refine ad ?_;exact⟨rfl,rfl,rfl,.cons rfl (.cons rfl (.cons (congrArg (fun z=>some (Value.int .i64 z)) (by first|(exfalso;omega)|(unfold nO;repeat (first|rw[if_pos (by omega)]|rw[if_neg (by omega)])))) (.cons (congrArg (fun z=>some (Value.int .i64 z)) (by first|(exfalso;omega)|(unfold fC;repeat (first|rw[if_pos (by omega)]|rw[if_neg (by omega)])))) (.cons (congrArg (fun z=>some (Value.int .i64 z)) (by first|(exfalso;omega)|(unfold qD;repeat (first|rw[if_pos (by omega)]|rw[if_neg (by omega)])))) (.nil)))))⟩
      ·refine aj (ah (ae rfl rfl (dA rfl rfl rfl (ae rfl rfl ?_))));refine aI (g:=34) rfl (fun tj=>?_) (fun tj=>?_)
       ·refine al rfl rfl (ae rfl rfl (al rfl rfl (cf rfl rfl rfl (aQ rfl rfl rfl (ad ?_)))));refine bF rfl (fun Lx=>?_) (fun Lx=>?_)
        ·refine aj (ah (ai rfl rfl (ad (aj (ah (ai rfl rfl (ad (ah (ae rfl rfl (gM rfl rfl rfl (by omega) (ai rfl rfl ?_)))))))))));refine ad ?_;exact⟨rfl,rfl,rfl,.cons rfl (.cons rfl (.cons (congrArg (fun z=>some (Value.int .i64 z)) (by first|(exfalso;omega)|(unfold nO;repeat (first|rw[if_pos (by omega)]|rw[if_neg (by omega)])))) (.cons (congrArg (fun z=>some (Value.int .i64 z)) (by first|(exfalso;omega)|(unfold fC;repeat (first|rw[if_pos (by omega)]|rw[if_neg (by omega)])))) (.cons (congrArg (fun z=>some (Value.int .i64 z)) (by first|(exfalso;omega)|(unfold qD;repeat (first|rw[if_pos (by omega)]|rw[if_neg (by omega)])))) (.nil)))))⟩
        ·refine aU ?_;exact⟨rfl,rfl,rfl,.cons rfl (.cons rfl (.cons (congrArg (fun z=>some (Value.int .i64 z)) (by first|(exfalso;omega)|(unfold nO;repeat (first|rw[if_pos (by omega)]|rw[if_neg (by omega)])))) (.cons (congrArg (fun z=>some (Value.int .i64 z)) (by first|(exfalso;omega)|(unfold fC;repeat (first|rw[if_pos (by omega)]|rw[if_neg (by omega)])))) (.cons (congrArg (fun z=>some (Value.int .i64 z)) (by first|(exfalso;omega)|(unfold qD;repeat (first|rw[if_pos (by omega)]|rw[if_neg (by omega)])))) (.nil)))))⟩
       ·refine ao rfl rfl rfl rfl (ao rfl rfl rfl rfl (ay rfl rfl rfl (ad (gL rfl (aU ?_)))));exact⟨rfl,rfl,rfl,.cons rfl (.cons rfl (.cons (congrArg (fun z=>some (Value.int .i64 z)) (by first|(exfalso;omega)|(unfold nO;repeat (first|rw[if_pos (by omega)]|rw[if_neg (by omega)])))) (.cons (congrArg (fun z=>some (Value.int .i64 z)) (by first|(exfalso;omega)|(unfold fC;repeat (first|rw[if_pos (by omega)]|rw[if_neg (by omega)])))) (.cons (congrArg (fun z=>some (Value.int .i64 z)) (by first|(exfalso;omega)|(unfold qD;repeat (first|rw[if_pos (by omega)]|rw[if_neg (by omega)])))) (.nil)))))⟩
     ·refine ao rfl rfl rfl rfl (ao rfl rfl rfl rfl (ay rfl rfl rfl (ad (gL rfl (aj (ah (ae rfl rfl (dA rfl rfl rfl (ae rfl rfl ?_)))))))));refine aI (g:=34) rfl (fun tj=>?_) (fun tj=>?_)
      ·refine al rfl rfl (ae rfl rfl (al rfl rfl (cf rfl rfl rfl (aQ rfl rfl rfl (ad ?_)))));refine bF rfl (fun Lx=>?_) (fun Lx=>?_)
       ·refine aj (ah (ai rfl rfl (ad (aj (ah (ai rfl rfl (ad (ah (ae rfl rfl (gM rfl rfl rfl (by omega) (ai rfl rfl ?_)))))))))));refine ad ?_;exact⟨rfl,rfl,rfl,.cons rfl (.cons rfl (.cons (congrArg (fun z=>some (Value.int .i64 z)) (by first|(exfalso;omega)|(unfold nO;repeat (first|rw[if_pos (by omega)]|rw[if_neg (by omega)])))) (.cons (congrArg (fun z=>some (Value.int .i64 z)) (by first|(exfalso;omega)|(unfold fC;repeat (first|rw[if_pos (by omega)]|rw[if_neg (by omega)])))) (.cons (congrArg (fun z=>some (Value.int .i64 z)) (by first|(exfalso;omega)|(unfold qD;repeat (first|rw[if_pos (by omega)]|rw[if_neg (by omega)])))) (.nil)))))⟩
       ·refine aU ?_;exact⟨rfl,rfl,rfl,.cons rfl (.cons rfl (.cons (congrArg (fun z=>some (Value.int .i64 z)) (by first|(exfalso;omega)|(unfold nO;repeat (first|rw[if_pos (by omega)]|rw[if_neg (by omega)])))) (.cons (congrArg (fun z=>some (Value.int .i64 z)) (by first|(exfalso;omega)|(unfold fC;repeat (first|rw[if_pos (by omega)]|rw[if_neg (by omega)])))) (.cons (congrArg (fun z=>some (Value.int .i64 z)) (by first|(exfalso;omega)|(unfold qD;repeat (first|rw[if_pos (by omega)]|rw[if_neg (by omega)])))) (.nil)))))⟩
      ·refine ao rfl rfl rfl rfl (ao rfl rfl rfl rfl (ay rfl rfl rfl (ad (gL rfl (aU ?_)))));exact⟨rfl,rfl,rfl,.cons rfl (.cons rfl (.cons (congrArg (fun z=>some (Value.int .i64 z)) (by first|(exfalso;omega)|(unfold nO;repeat (first|rw[if_pos (by omega)]|rw[if_neg (by omega)])))) (.cons (congrArg (fun z=>some (Value.int .i64 z)) (by first|(exfalso;omega)|(unfold fC;repeat (first|rw[if_pos (by omega)]|rw[if_neg (by omega)])))) (.cons (congrArg (fun z=>some (Value.int .i64 z)) (by first|(exfalso;omega)|(unfold qD;repeat (first|rw[if_pos (by omega)]|rw[if_neg (by omega)])))) (.nil)))))⟩
   ·refine ao rfl rfl rfl rfl (ao rfl rfl rfl rfl (ay rfl rfl rfl (ad (gL rfl (aj (ah (ae rfl rfl (dA rfl rfl rfl (ae rfl rfl ?_)))))))));refine aI (g:=26) rfl (fun E7=>?_) (fun E7=>?_)
    ·refine al rfl rfl (ae rfl rfl (al rfl rfl (cf rfl rfl rfl (aQ rfl rfl rfl (ad ?_)))));refine bF rfl (fun E8=>?_) (fun E8=>?_)
     ·refine aj (ah (ai rfl rfl (ad (aj (ah (ai rfl rfl (ad (ah (ae rfl rfl (gM rfl rfl rfl (by omega) (ai rfl rfl ?_)))))))))));refine ad ?_;exact⟨rfl,rfl,rfl,.cons rfl (.cons rfl (.cons (congrArg (fun z=>some (Value.int .i64 z)) (by first|(exfalso;omega)|(unfold nO;repeat (first|rw[if_pos (by omega)]|rw[if_neg (by omega)])))) (.cons (congrArg (fun z=>some (Value.int .i64 z)) (by first|(exfalso;omega)|(unfold fC;repeat (first|rw[if_pos (by omega)]|rw[if_neg (by omega)])))) (.cons (congrArg (fun z=>some (Value.int .i64 z)) (by first|(exfalso;omega)|(unfold qD;repeat (first|rw[if_pos (by omega)]|rw[if_neg (by omega)])))) (.nil)))))⟩
     ·refine aj (ah (ae rfl rfl (dA rfl rfl rfl (ae rfl rfl ?_))));refine aI (g:=34) rfl (fun tj=>?_) (fun tj=>?_)
      ·refine al rfl rfl (ae rfl rfl (al rfl rfl (cf rfl rfl rfl (aQ rfl rfl rfl (ad ?_)))));refine bF rfl (fun Lx=>?_) (fun Lx=>?_)
       ·refine aj (ah (ai rfl rfl (ad (aj (ah (ai rfl rfl (ad (ah (ae rfl rfl (gM rfl rfl rfl (by omega) (ai rfl rfl ?_)))))))))));refine ad ?_;exact⟨rfl,rfl,rfl,.cons rfl (.cons rfl (.cons (congrArg (fun z=>some (Value.int .i64 z)) (by first|(exfalso;omega)|(unfold nO;repeat (first|rw[if_pos (by omega)]|rw[if_neg (by omega)])))) (.cons (congrArg (fun z=>some (Value.int .i64 z)) (by first|(exfalso;omega)|(unfold fC;repeat (first|rw[if_pos (by omega)]|rw[if_neg (by omega)])))) (.cons (congrArg (fun z=>some (Value.int .i64 z)) (by first|(exfalso;omega)|(unfold qD;repeat (first|rw[if_pos (by omega)]|rw[if_neg (by omega)])))) (.nil)))))⟩
       ·refine aU ?_;exact⟨rfl,rfl,rfl,.cons rfl (.cons rfl (.cons (congrArg (fun z=>some (Value.int .i64 z)) (by first|(exfalso;omega)|(unfold nO;repeat (first|rw[if_pos (by omega)]|rw[if_neg (by omega)])))) (.cons (congrArg (fun z=>some (Value.int .i64 z)) (by first|(exfalso;omega)|(unfold fC;repeat (first|rw[if_pos (by omega)]|rw[if_neg (by omega)])))) (.cons (congrArg (fun z=>some (Value.int .i64 z)) (by first|(exfalso;omega)|(unfold qD;repeat (first|rw[if_pos (by omega)]|rw[if_neg (by omega)])))) (.nil)))))⟩
      ·refine ao rfl rfl rfl rfl (ao rfl rfl rfl rfl (ay rfl rfl rfl (ad (gL rfl (aU ?_)))));exact⟨rfl,rfl,rfl,.cons rfl (.cons rfl (.cons (congrArg (fun z=>some (Value.int .i64 z)) (by first|(exfalso;omega)|(unfold nO;repeat (first|rw[if_pos (by omega)]|rw[if_neg (by omega)])))) (.cons (congrArg (fun z=>some (Value.int .i64 z)) (by first|(exfalso;omega)|(unfold fC;repeat (first|rw[if_pos (by omega)]|rw[if_neg (by omega)])))) (.cons (congrArg (fun z=>some (Value.int .i64 z)) (by first|(exfalso;omega)|(unfold qD;repeat (first|rw[if_pos (by omega)]|rw[if_neg (by omega)])))) (.nil)))))⟩
    ·refine ao rfl rfl rfl rfl (ao rfl rfl rfl rfl (ay rfl rfl rfl (ad (gL rfl (aj (ah (ae rfl rfl (dA rfl rfl rfl (ae rfl rfl ?_)))))))));refine aI (g:=34) rfl (fun tj=>?_) (fun tj=>?_)
     ·refine al rfl rfl (ae rfl rfl (al rfl rfl (cf rfl rfl rfl (aQ rfl rfl rfl (ad ?_)))));refine bF rfl (fun Lx=>?_) (fun Lx=>?_)
      ·refine aj (ah (ai rfl rfl (ad (aj (ah (ai rfl rfl (ad (ah (ae rfl rfl (gM rfl rfl rfl (by omega) (ai rfl rfl ?_)))))))))));refine ad ?_;exact⟨rfl,rfl,rfl,.cons rfl (.cons rfl (.cons (congrArg (fun z=>some (Value.int .i64 z)) (by first|(exfalso;omega)|(unfold nO;repeat (first|rw[if_pos (by omega)]|rw[if_neg (by omega)])))) (.cons (congrArg (fun z=>some (Value.int .i64 z)) (by first|(exfalso;omega)|(unfold fC;repeat (first|rw[if_pos (by omega)]|rw[if_neg (by omega)])))) (.cons (congrArg (fun z=>some (Value.int .i64 z)) (by first|(exfalso;omega)|(unfold qD;repeat (first|rw[if_pos (by omega)]|rw[if_neg (by omega)])))) (.nil)))))⟩
      ·refine aU ?_;exact⟨rfl,rfl,rfl,.cons rfl (.cons rfl (.cons (congrArg (fun z=>some (Value.int .i64 z)) (by first|(exfalso;omega)|(unfold nO;repeat (first|rw[if_pos (by omega)]|rw[if_neg (by omega)])))) (.cons (congrArg (fun z=>some (Value.int .i64 z)) (by first|(exfalso;omega)|(unfold fC;repeat (first|rw[if_pos (by omega)]|rw[if_neg (by omega)])))) (.cons (congrArg (fun z=>some (Value.int .i64 z)) (by first|(exfalso;omega)|(unfold qD;repeat (first|rw[if_pos (by omega)]|rw[if_neg (by omega)])))) (.nil)))))⟩
     ·refine ao rfl rfl rfl rfl (ao rfl rfl rfl rfl (ay rfl rfl rfl (ad (gL rfl (aU ?_)))));exact⟨rfl,rfl,rfl,.cons rfl (.cons rfl (.cons (congrArg (fun z=>some (Value.int .i64 z)) (by first|(exfalso;omega)|(unfold nO;repeat (first|rw[if_pos (by omega)]|rw[if_neg (by omega)])))) (.cons (congrArg (fun z=>some (Value.int .i64 z)) (by first|(exfalso;omega)|(unfold fC;repeat (first|rw[if_pos (by omega)]|rw[if_neg (by omega)])))) (.cons (congrArg (fun z=>some (Value.int .i64 z)) (by first|(exfalso;omega)|(unfold qD;repeat (first|rw[if_pos (by omega)]|rw[if_neg (by omega)])))) (.nil)))))⟩
  ·refine aj (aj (ah (ae rfl rfl (Rg.Ay rfl rfl rfl (ae rfl rfl ?_)))));refine aI (g:=42) rfl (fun Py=>?_) (fun Py=>?_)
   ·refine ao rfl rfl rfl rfl (ao rfl rfl rfl rfl (ao rfl rfl rfl rfl (ao rfl rfl rfl rfl (aQ rfl rfl rfl (ad (lO rfl (aj (ah (ai rfl rfl (ai rfl rfl (ad ?_)))))))))));refine aH ?_
    have hx:nO (iA l 0:Int)=0∨∃k:Nat,1≤k∧(k:Int)<nO (iA l 0:Int)∧iu l k=false:=by
     rw[←hc];by_cases h0:nO c=0
     ·exact .inl h0
     ·have T2:=lC h0;exact .inr ⟨(nO c).toNat-1,by omega,by omega,eF.2 fun h=>by have:=(fp.1 h).1;omega⟩
    have e:dec l=(65533,1):=Ck (by omega) hx;exact ez rfl rfl rfl ⟨by rw[e];rfl,rfl⟩
   ·refine al rfl rfl (ae rfl rfl (al rfl rfl (Rg.k3 aD rfl rfl (bp (v':= .int .i64 (l.length:Int)) (by simp[ByteArray.size]) (al rfl rfl (ae rfl rfl (al rfl rfl (cf rfl rfl rfl (ay rfl rfl rfl (ad ?_))))))))));refine bF rfl (fun U4=>?_) (fun U4=>?_)
    ·refine aj (ah (ai rfl rfl (ai rfl rfl (ad (aH ?_)))))
     have hx:nO (iA l 0:Int)=0∨∃k:Nat,1≤k∧(k:Int)<nO (iA l 0:Int)∧iu l k=false:=by
      rw[←hc];by_cases h0:nO c=0
      ·exact .inl h0
      ·have T2:=lC h0;exact .inr ⟨(nO c).toNat-1,by omega,by omega,eF.2 fun h=>by have:=(fp.1 h).1;omega⟩
     have e:dec l=(65533,1):=Ck (by omega) hx;exact ez rfl rfl rfl ⟨by rw[e];rfl,rfl⟩
    ·refine aU (aj (aj (ah (ai rfl rfl (ad (bj ?_))))));refine dI (σ:=Nat) (fun i=>[(0,.string ⟨l.toArray⟩),(5,.int .i64 (nO c)),(6,.int .i64 (fC c)),(7,.int .i64 (vO l (i-1))),(8,.int .i64 (i:Int))]) (fun i w=>w=w0∧1≤i∧(i:Int)≤nO c∧∀k:Nat,1≤k→k<i→iu l k=true) (fun i=>(nO c).toNat-i) 1 (.cons rfl (.cons rfl (.cons rfl (.cons (congrArg (fun z=>some (Value.int .i64 z)) (by show qD c=qD (iA l 0:Int);rw[hc])) (.cons rfl .nil))))) ?_ ?_
     ·exact⟨rfl,a8 _,by have:=lC (c:=c) (by omega);omega,fun k h1 h2=>by omega⟩
     ·rintro i w ⟨rfl,vE,Az,eB⟩;have T2:=lC (c:=c) (by omega)
      have ZX:0≤vO l (i-1)∧vO l (i-1)≤100000000:=by
       exact Lw (l:=l) (c:=c) (k:=i-1) hc (by omega) (fun j h1 h2=>eB j h1 (by omega)) (by omega)
      refine aj (aj (ah (ae rfl rfl (ae rfl rfl (cf rfl rfl rfl (ad ?_))))));refine bF rfl (fun c22=>?_) (fun c22=>?_)
      ·refine aU (aj (bj (aj (ah (ae rfl rfl (ae rfl rfl ?_))))));have lD:i<l.length:=by omega
       refine Rg.Ci (c:=l.getD i 0) aD rfl rfl rfl (by omega) (by rw[bT,aC,aL lD];rfl) ?_;refine bp (v':= .int .u8 (iA l i:Int)) rfl ?_;have Od:=l2 l i;refine Rg.qm bZ ar rfl rfl (by omega) (ai rfl rfl (ad (aj (aj (ah (ae rfl rfl (cf rfl rfl rfl (ae rfl rfl ?_))))))));refine aI (g:=59) rfl (fun Pz=>?_) (fun Pz=>?_)
       ·refine ao rfl rfl rfl rfl (ao rfl rfl rfl rfl (aQ rfl rfl rfl (ad (lO rfl (aj (ah (ai rfl rfl (ai rfl rfl (ad (aH ?_))))))))))
        have hx:nO (iA l 0:Int)=0∨∃k:Nat,1≤k∧(k:Int)<nO (iA l 0:Int)∧iu l k=false:=by
         rw[←hc];exact .inr ⟨i,vE,by omega,eF.2 fun h=>by have:=fp.1 h;omega⟩
        have e:dec l=(65533,1):=Ck (by omega) hx;exact ez rfl rfl rfl ⟨by rw[e];rfl,rfl⟩
       ·refine al rfl rfl (ae rfl rfl (al rfl rfl (dA rfl rfl rfl (ay rfl rfl rfl (ad ?_)))));refine bF rfl (fun c25=>?_) (fun c25=>?_)
        ·refine aj (ah (ai rfl rfl (ai rfl rfl (ad (aH ?_)))))
         have hx:nO (iA l 0:Int)=0∨∃k:Nat,1≤k∧(k:Int)<nO (iA l 0:Int)∧iu l k=false:=by
          rw[←hc];exact .inr ⟨i,vE,by omega,eF.2 fun h=>by have:=fp.1 h;omega⟩
         have e:dec l=(65533,1):=Ck (by omega) hx;exact ez rfl rfl rfl ⟨by rw[e];rfl,rfl⟩
        ·refine aU (ah (ae rfl rfl (Rg.HT rfl rfl rfl (by omega) (ae rfl rfl (bz rfl rfl rfl (by omega) (gM rfl rfl rfl (by omega) (ai rfl rfl (ad (ah (ae rfl rfl (bz rfl rfl rfl (by omega) ?_)))))))))));refine ai rfl rfl (ad ?_);refine⟨rfl,i+1,(.cons rfl (.cons rfl (.cons rfl (.cons (congrArg (fun z=>some (Value.int .i64 z)) (by obtain⟨q,rfl⟩:∃q,i=q+1:=⟨i-1,by omega⟩;rfl)) (.cons rfl .nil))))),?_,?_⟩
         ·exact⟨rfl,by omega,by omega,fun k h1 h2=>by
           rcases cB k i with h|h
           ·exact eB k h1 h
           ·obtain rfl:k=i:=by omega
            exact fp.2 (by omega)⟩
         ·omega
      ·refine cM (aj (aj (ah (ae rfl rfl (ae rfl rfl (cf rfl rfl rfl (ae rfl rfl ?_)))))));refine aI (g:=71) rfl (fun PA=>?_) (fun PA=>?_)
       ·refine ao rfl rfl rfl rfl (ao rfl rfl rfl rfl (aQ rfl rfl rfl (ae rfl rfl (ao rfl rfl rfl rfl (ao rfl rfl rfl rfl (ao rfl rfl rfl rfl (cc rfl rfl rfl (cc rfl rfl rfl (ao rfl rfl rfl rfl (aQ rfl rfl rfl (ad ?_)))))))))));refine lO rfl (aj (ah (ai rfl rfl (ai rfl rfl (ad (aH ?_))))));have e:=yW (l:=l) (by rw[←hc];omega) (by rw[←hc];exact fun k h1 h2=>eB k h1 (by omega)) (vO l (i-1)) (by rw[←hc];congr 1;omega);rw[←hc,if_pos (by omega)]at e;exact ez rfl rfl rfl ⟨by rw[e];rfl,rfl⟩
       ·refine al rfl rfl (ae rfl rfl (al rfl rfl (mG rfl rfl rfl (ay rfl rfl rfl (ae rfl rfl ?_)))));refine aI (g:=75) rfl (fun PB=>?_) (fun PB=>?_)
        ·refine ao rfl rfl rfl rfl (ao rfl rfl rfl rfl (ao rfl rfl rfl rfl (cc rfl rfl rfl (cc rfl rfl rfl (ao rfl rfl rfl rfl (aQ rfl rfl rfl (ad (lO rfl (aj (ah (ai rfl rfl ?_)))))))))));refine ai rfl rfl (ad (aH ?_));have e:=yW (l:=l) (by rw[←hc];omega) (by rw[←hc];exact fun k h1 h2=>eB k h1 (by omega)) (vO l (i-1)) (by rw[←hc];congr 1;omega);rw[←hc,if_pos (by omega)]at e;exact ez rfl rfl rfl ⟨by rw[e];rfl,rfl⟩
        ·refine al rfl rfl (ae rfl rfl (al rfl rfl (dA rfl rfl rfl (al rfl rfl (ae rfl rfl ?_)))));refine aI (g:=78) rfl (fun Ly=>?_) (fun Ly=>?_)
         ·refine al rfl rfl (ae rfl rfl (al rfl rfl (eM rfl rfl rfl (al rfl rfl (aQ rfl rfl rfl (ay rfl rfl rfl (ad ?_)))))));refine bF rfl (fun c28=>?_) (fun c28=>?_)
          ·refine aj (ah (ai rfl rfl (ai rfl rfl (ad (aH ?_)))));have e:=yW (l:=l) (by rw[←hc];omega) (by rw[←hc];exact fun k h1 h2=>eB k h1 (by omega)) (vO l (i-1)) (by rw[←hc];congr 1;omega);rw[←hc,if_pos (by omega)]at e;exact ez rfl rfl rfl ⟨by rw[e];rfl,rfl⟩
          ·refine aU (aj (ah (ae rfl rfl (ae rfl rfl (ai rfl rfl (ai rfl rfl (ad (aH ?_))))))));have e:=yW (l:=l) (by rw[←hc];omega) (by rw[←hc];exact fun k h1 h2=>eB k h1 (by omega)) (vO l (i-1)) (by rw[←hc];congr 1;omega);rw[←hc,if_neg (by omega)]at e;exact ez rfl rfl rfl ⟨by rw[e];simp only[];rw[uu ZX.1,uu (by omega)],rfl⟩
         ·refine ao rfl rfl rfl rfl (ao rfl rfl rfl rfl (al rfl rfl (ay rfl rfl rfl (ay rfl rfl rfl (ad (gL rfl (aU (aj (ah (ae rfl rfl (ae rfl rfl ?_)))))))))));refine ai rfl rfl (ai rfl rfl (ad (aH ?_)));have e:=yW (l:=l) (by rw[←hc];omega) (by rw[←hc];exact fun k h1 h2=>eB k h1 (by omega)) (vO l (i-1)) (by rw[←hc];congr 1;omega);rw[←hc,if_neg (by omega)]at e;exact ez rfl rfl rfl ⟨by rw[e];simp only[];rw[uu ZX.1,uu (by omega)],rfl⟩
theorem yY {M:az} {l:List UInt8} (w0:World) (hM:Lt M w0) (hl:l.length≤1000000):
  Spec Tryz.prog 216 #[.string ⟨l.toArray⟩] w0 (fun v w=>((RT.int .i64).sl).V M w (eg l) v∧Step M w0 M w aA):=by
 have ku:=hM;refine aW (args:=[_]) (fn:=Tryz.f216) Tryz.func216 rfl (n:=22) Tryz.ntmps216 ?_;have S:Step M w0 M w0 aA:=(an _ _).ca (fun _ h=>h.elim) (fun _ h=>h.elim);refine aj (ah (ai rfl rfl (ad (aj (ah (ai rfl rfl (ad (aj (bj ?_)))))))));refine dI (σ:=Nat×List Int×Value) (fun q=>[(0,.string ⟨(l.drop q.1).toArray⟩),(3,q.2.2)]) (fun q w=>∃M',Lt M' w∧Step M w0 M' w aA∧Own (RT.int .i64) 3 M' w w0.heap.size q.2.2 q.2.1∧eg l=q.2.1++eg (l.drop q.1)∧q.1≤l.length) (fun q=>l.length-q.1) (0,[],.slice none 0 0) (.cons rfl (.cons rfl .nil)) ?_ ?_
 ·exact⟨M,hM,S,eo _ _ _ _ _,by simp,by simp⟩
 ·rintro⟨p,xs,u⟩ w ⟨M1,hM,S,ho,xq,hp⟩;dsimp only at ho xq hp ⊢;refine aj (aj (ah (ae rfl rfl (Rg.k3 aD rfl rfl (bp (v':= .int .i64 ((l.drop p).length:Int)) (by simp[ByteArray.size]) (mG rfl rfl rfl (ad ?_)))))));refine bF rfl (fun c2=>?_) (fun c2=>?_)
  ·refine aU (bj (aj (ah (ae rfl rfl ?_))));have eK:l.drop p≠[]:=by intro h;rw[h]at c2;simp at c2
   have xd:p<l.length:=by have:=lN.2 eK;rw[cL]at this;omega
   have U5:=j3 eK;refine aM rfl rfl UX (E6 (l:=l.drop p) _ eK (by rw[cL];omega)) (fun r3 w3 hc=>?_);obtain⟨rfl,rfl⟩:=hc;refine ae rfl rfl (bO rfl rfl rfl (bO rfl rfl rfl (ai rfl rfl (ai rfl rfl (ad (aj (ah (ae rfl rfl (ae rfl rfl ?_)))))))));refine eW (A:=RT.int .i64) (hn:=by decide) (M:=M1) av I3 (by decide) rfl rfl hM (gv (by have:=qB (l.drop p);omega)) (.inr ⟨rfl,rfl⟩) (fun PC PD lE pD=>?_);replace ho:=ho.bg pD;replace hM:=pD.lt hM;have:=S.size;replace S:=S.ax pD;refine dh (M:=M1) (base:=w0.heap.size) av I3 rfl rfl rfl rfl ho lE (aq _ _) (by simp;have:=gj l;rw[xq]at this;simp at this;omega) (by simp;have:=gj l;rw[xq]at this;simp at this;omega) (S.size) (fun PE U6 acV PF Lz=>?_);replace lE:=lE.le Lz.le;replace hM:=Lz.lt hM;have:=S.size;replace S:=S.dC Lz ho (a8 _);replace ho:=PF;refine ai rfl rfl (ad (ah (ae rfl rfl (ae rfl rfl (Rg.Ik aD rfl rfl rfl (by omega) (bp (v':= .string ⟨(l.drop (p+(dec (l.drop p)).2)).toArray⟩) (by rw[List.drop_drop];simp) (ai rfl rfl (ad ?_))))))));refine⟨rfl,(p+(dec (l.drop p)).2,xs++[((dec (l.drop p)).1:Int)],PE),(.cons rfl (.cons rfl .nil)),?_,?_⟩
   ·refine⟨U6,hM,S,ho,?_,?_⟩
    ·rw[xq,l3 eK,List.drop_drop];simp
    ·have:=U5.2;rw[cL]at this;dsimp only;omega
   ·have:=U5.1;have:=U5.2;rw[cL]at this;dsimp only;omega
  ·refine cM (aj (ah (ae rfl rfl (ai rfl rfl (ad (aH ?_))))));have e:eg l=xs:=by rw[xq,jA (by simp at c2;omega),nQ];simp
   rw[e];have:=gj l;rw[e]at this;exact aP rfl rfl ⟨ho.close ku S (by omega),S.back⟩
theorem ou {M:az} {w:World} {x:Int} (h:0≤x∧x<256):RT.u8.V M w x.toNat.toUInt8 (.int .u8 (IntKind.u8.wrap x)):=by
 have e1:IntKind.u8.wrap x=x:=by
  show(if(false&&decide (x%256≥128))=true then x%256-256 else x%256)=x;rw[if_neg (by simp)];omega
 have e2:((x.toNat.toUInt8).toNat:Int)=x:=by
  have:x.toNat.toUInt8.toNat=x.toNat%256:=UInt8.toNat_ofNat' ..;omega
 rw[e1];exact⟨[.int .u8 x],by show _=_;rw[e2],rfl⟩
theorem U7 {r:Int} (h:0≤r∧r<128):Lib.encodeRune r=[r.toNat.toUInt8]:=by rw[Lib.encodeRune,Lib.encodeRuneZ_one h.1 (by omega)];rfl
theorem U8 {r:Int} (h:128≤r∧r<2048):Lib.encodeRune r=[(192+r/64).toNat.toUInt8,(128+r%64).toNat.toUInt8]:=by rw[Lib.encodeRune,Lib.encodeRuneZ_two h.1 (by omega)];rfl
theorem Dm (c:Int):pC c<55296∨57343<pC c:=by
 unfold pC
 split
 ·omega
 ·rename_i h
  have h2:Lib.validRune c=true:=by
   cases hv:Lib.validRune c with
   |true=>rfl
   |false=>exact absurd (.inr (.inr hv)) h
  simp only[Lib.validRune,decide_eq_true_eq]at h2;omega
theorem U9 {r:Int} (h:2048≤r∧r<65536) (h2:r<55296∨57343<r):Lib.encodeRune r=[(224+r/4096).toNat.toUInt8,(128+r/64%64).toNat.toUInt8,(128+r%64).toNat.toUInt8]:=by rw[Lib.encodeRune,Lib.encodeRuneZ_three (by omega)];rfl
theorem Va {r:Int} (h:65536≤r∧r≤1114111):Lib.encodeRune r=[(240+r/262144).toNat.toUInt8,(128+r/4096%64).toNat.toUInt8,(128+r/64%64).toNat.toUInt8,(128+r%64).toNat.toUInt8]:=by rw[Lib.encodeRune,Lib.encodeRuneZ_four h.1 h.2];rfl
theorem pE {c:Int} (h:c<0∨c>1114111∨(55296≤c∧c≤57343)):pC c=65533:=by
 rw[pC,if_pos];rcases h with h|h|h
 ·exact .inl h
 ·exact .inr (.inl h)
 ·refine .inr (.inr ?_);simp only[Lib.validRune,decide_eq_false_iff_not];omega
theorem nk {c:Int} (h: ¬(c<0∨c>1114111∨(55296≤c∧c≤57343))):pC c=c:=by
 rw[pC,if_neg];rintro(h1|h1|h1)
 ·omega
 ·omega
 ·simp only[Lib.validRune,decide_eq_false_iff_not]at h1;omega
theorem tn {M:az} {xs:List Int} {v0:Value} (w0:World) (hM:Lt M w0) (hv:((RT.int .i64).sl).V M w0 xs v0) (hl:xs.length≤1000000):
  Spec Tryz.prog 219 #[v0] w0 (fun v w=>v= .string ⟨(iU xs).toArray⟩∧Step M w0 M w aA):=by
 have ku:=hM;refine aW (args:=[_]) (fn:=Tryz.f219) Tryz.func219 rfl (n:=91) Tryz.ntmps219 ?_;have S:Step M w0 M w0 aA:=(an _ _).ca (fun _ h=>h.elim) (fun _ h=>h.elim);refine aj (ah (ai rfl rfl (ad (aj (ah (ai rfl rfl (ad (aj (aj (ah (ai rfl rfl ?_)))))))))));refine ad (bj ?_);refine dI (σ:=Nat×Value) (fun q=>[(0,v0),(3,q.2),(4,.int .i64 (q.1:Int))]) (fun q w=>∃M',Lt M' w∧Step M w0 M' w aA∧Own RT.u8 5 M' w w0.heap.size q.2 (iU (xs.take q.1))∧((RT.int .i64).sl).V M' w xs v0∧q.1≤xs.length) (fun q=>xs.length-q.1) (0,.slice none 0 0) (.cons rfl (.cons rfl (.cons rfl .nil))) ?_ ?_
 ·exact⟨M,hM,S,eo _ _ _ _ _,hv,bH _⟩
 ·rintro⟨k,u⟩ w ⟨M1,hM,S,ho,hv,hk⟩;dsimp only at ho hk ⊢;refine aj (aj (ah (ae rfl rfl (ae rfl rfl (bU av rfl hv rfl (cf rfl rfl rfl (ad ?_)))))));refine bF rfl (fun c3=>?_) (fun c3=>?_)
  ·refine aU (aj (bj (aj (ah (ae rfl rfl (ae rfl rfl ?_))))));refine dq (M:=M1) av I3 rfl rfl rfl hv (aq _ _) (by omega) (fun u5 c Dn AY=>?_);refine cd (M:=M1) ar rfl rfl AY (aq _ _) (fun in5=>?_);have tk:xs.take (k+1)=xs.take k++[c]:=by rw[cr];simp only[aC]at Dn;rw[Dn];rfl
   have hsr:=Cj c;have hsc:=Dm c;refine ai rfl rfl (ad ?_);refine T.Cf [(0,v0),(3,u),(4,.int .i64 (k:Int)),(5,.int .i64 (pC c))] ?_ ?_
   ·refine aj (ah (ae rfl rfl (cf rfl rfl rfl (ae rfl rfl ?_))));refine aI (g:=18) rfl (fun LA=>?_) (fun LA=>?_)
    ·refine ao rfl rfl rfl rfl (ao rfl rfl rfl rfl (aQ rfl rfl rfl (ae rfl rfl (ao rfl rfl rfl rfl (ao rfl rfl rfl rfl (ao rfl rfl rfl rfl (cc rfl rfl rfl (cc rfl rfl rfl (ao rfl rfl rfl rfl (aQ rfl rfl rfl (ad ?_)))))))))));refine lO rfl (ah (ai rfl rfl (ad ?_)));exact⟨rfl,rfl,rfl,.cons rfl (.cons rfl (.cons rfl (.cons (congrArg (fun z=>some (Value.int .i64 z)) (by first|exact(pE (by omega)).symm|exact(nk (by omega)).symm)) (.nil))))⟩
    ·refine al rfl rfl (ae rfl rfl (al rfl rfl (mG rfl rfl rfl (ay rfl rfl rfl (ae rfl rfl ?_)))));refine aI (g:=22) rfl (fun Vb=>?_) (fun Vb=>?_)
     ·refine ao rfl rfl rfl rfl (ao rfl rfl rfl rfl (ao rfl rfl rfl rfl (cc rfl rfl rfl (cc rfl rfl rfl (ao rfl rfl rfl rfl (aQ rfl rfl rfl (ad (lO rfl (ah (ai rfl rfl (ad ?_)))))))))));exact⟨rfl,rfl,rfl,.cons rfl (.cons rfl (.cons rfl (.cons (congrArg (fun z=>some (Value.int .i64 z)) (by first|exact(pE (by omega)).symm|exact(nk (by omega)).symm)) (.nil))))⟩
     ·refine al rfl rfl (ae rfl rfl (al rfl rfl (dA rfl rfl rfl (al rfl rfl (ae rfl rfl ?_)))));refine aI (g:=25) rfl (fun Vc=>?_) (fun Vc=>?_)
      ·refine al rfl rfl (ae rfl rfl (al rfl rfl (eM rfl rfl rfl (al rfl rfl (aQ rfl rfl rfl (ay rfl rfl rfl (ad ?_)))))));refine bF rfl (fun c6=>?_) (fun c6=>?_)
       ·refine ah (ai rfl rfl (ad ?_));exact⟨rfl,rfl,rfl,.cons rfl (.cons rfl (.cons rfl (.cons (congrArg (fun z=>some (Value.int .i64 z)) (by first|exact(pE (by omega)).symm|exact(nk (by omega)).symm)) (.nil))))⟩
       ·refine aU ?_;exact⟨rfl,rfl,rfl,.cons rfl (.cons rfl (.cons rfl (.cons (congrArg (fun z=>some (Value.int .i64 z)) (by first|exact(pE (by omega)).symm|exact(nk (by omega)).symm)) (.nil))))⟩
      ·refine ao rfl rfl rfl rfl (ao rfl rfl rfl rfl (al rfl rfl (ay rfl rfl rfl (ay rfl rfl rfl (ad (gL rfl (aU ?_)))))));exact⟨rfl,rfl,rfl,.cons rfl (.cons rfl (.cons rfl (.cons (congrArg (fun z=>some (Value.int .i64 z)) (by first|exact(pE (by omega)).symm|exact(nk (by omega)).symm)) (.nil))))⟩
   ·refine aj (ah (ae rfl rfl (cf rfl rfl rfl (ad ?_))));refine bF rfl (fun c8=>?_) (fun c8=>?_)
    ·refine ah (ae rfl rfl (ae rfl rfl (qZ ar bZ rfl rfl ?_)));refine eW (A:=RT.u8) (hn:=by decide) (M:=M1) bm I5 (by decide) rfl rfl hM (ou (by omega)) (.inr ⟨rfl,rfl⟩) (fun acX PG E9 np=>?_);replace hv:=hv.le np.le;replace ho:=ho.bg np;replace hM:=np.lt hM;have:=S.size;replace S:=S.ax np;refine dh (M:=M1) (base:=w0.heap.size) bm I5 rfl rfl rfl rfl ho E9 (aq _ _) (by have:=eY (xs.take k);rw[bG]at this;simp;omega) (by have:=eY (xs.take k);rw[bG]at this;simp;omega) (S.size) (fun PH Vd Ve PI uP=>?_);replace hv:=hv.le uP.le;replace E9:=E9.le uP.le;replace hM:=uP.lt hM;have:=S.size;replace S:=S.dC uP ho (a8 _);replace ho:=PI;refine ai rfl rfl (ad (ah (ae rfl rfl (bz rfl rfl rfl (by omega) (ai rfl rfl (ad ?_))))));refine⟨rfl,(k+1,PH),(.cons rfl (.cons rfl (.cons rfl .nil))),?_,?_⟩
     ·exact⟨Vd,hM,S,by rw[tk,kr,U7 (by omega)];exact ho,hv,by dsimp only;omega⟩
     ·dsimp only;omega
    ·refine aj (ah (ae rfl rfl (cf rfl rfl rfl (ad ?_))));refine bF rfl (fun Vf=>?_) (fun Vf=>?_)
     ·refine ah (ae rfl rfl (ae rfl rfl (Rg.sx rfl rfl rfl (by omega) (bz rfl rfl rfl (by omega) (qZ ar bZ rfl rfl (ae rfl rfl (Rg.sy rfl rfl rfl (by omega) (bz rfl rfl rfl (by omega) (qZ ar bZ rfl rfl ?_)))))))));refine Rg.OK (A:=RT.u8) (hn:=by decide) (M:=M1) (xs:=[(192+pC c/64).toNat.toUInt8,(128+pC c%64).toNat.toUInt8]) bm I5 rfl (by decide) rfl ⟨_,_,_,rfl,rfl,rfl,ou (by omega),_,_,_,rfl,rfl,rfl,ou (by omega),rfl⟩ rfl hM (.inr ⟨rfl,rfl⟩) (by decide) (fun ZY ZZ AZ Cl=>?_);replace hv:=hv.le Cl.le;replace ho:=ho.bg Cl;replace hM:=Cl.lt hM;have:=S.size;replace S:=S.ax Cl;refine dh (M:=M1) (base:=w0.heap.size) bm I5 rfl rfl rfl rfl ho AZ (aq _ _) (by have:=eY (xs.take k);rw[bG]at this;simp;omega) (by have:=eY (xs.take k);rw[bG]at this;simp;omega) (S.size) (fun LB LC Vg Is xr=>?_);replace hv:=hv.le xr.le;replace AZ:=AZ.le xr.le;replace hM:=xr.lt hM;have:=S.size;replace S:=S.dC xr ho (a8 _);replace ho:=Is;refine ai rfl rfl (ad (ah (ae rfl rfl (bz rfl rfl rfl (by omega) (ai rfl rfl (ad ?_))))));refine⟨rfl,(k+1,LB),(.cons rfl (.cons rfl (.cons rfl .nil))),?_,?_⟩
      ·exact⟨LC,hM,S,by rw[tk,kr,U8 (by omega)];exact ho,hv,by dsimp only;omega⟩
      ·dsimp only;omega
     ·refine aj (ah (ae rfl rfl (cf rfl rfl rfl (ad ?_))));refine bF rfl (fun PJ=>?_) (fun PJ=>?_)
      ·refine ah (ae rfl rfl (ae rfl rfl (Rg.sx rfl rfl rfl (by omega) (bz rfl rfl rfl (by omega) (qZ ar bZ rfl rfl (ae rfl rfl (Rg.sx rfl rfl rfl (by omega) (Rg.sy rfl rfl rfl (by omega) (bz rfl rfl rfl (by omega) (qZ ar bZ rfl rfl (ae rfl rfl ?_)))))))))));refine Rg.sy rfl rfl rfl (by omega) (bz rfl rfl rfl (by omega) (qZ ar bZ rfl rfl ?_));refine Rg.OK (A:=RT.u8) (hn:=by decide) (M:=M1) (xs:=[(224+pC c/4096).toNat.toUInt8,(128+pC c/64%64).toNat.toUInt8,(128+pC c%64).toNat.toUInt8]) bm I5 rfl (by decide) rfl ⟨_,_,_,rfl,rfl,rfl,ou (by omega),_,_,_,rfl,rfl,rfl,ou (by omega),_,_,_,rfl,rfl,rfl,ou (by omega),rfl⟩ rfl hM (.inr ⟨rfl,rfl⟩) (by decide) (fun Vh Vi xu xv=>?_);replace hv:=hv.le xv.le;replace ho:=ho.bg xv;replace hM:=xv.lt hM;have:=S.size;replace S:=S.ax xv;refine dh (M:=M1) (base:=w0.heap.size) bm I5 rfl rfl rfl rfl ho xu (aq _ _) (by have:=eY (xs.take k);rw[bG]at this;simp;omega) (by have:=eY (xs.take k);rw[bG]at this;simp;omega) (S.size) (fun LD LF Vj It xw=>?_);replace hv:=hv.le xw.le;replace xu:=xu.le xw.le;replace hM:=xw.lt hM;have:=S.size;replace S:=S.dC xw ho (a8 _);replace ho:=It;refine ai rfl rfl (ad (ah (ae rfl rfl (bz rfl rfl rfl (by omega) (ai rfl rfl (ad ?_))))));refine⟨rfl,(k+1,LD),(.cons rfl (.cons rfl (.cons rfl .nil))),?_,?_⟩
       ·exact⟨LF,hM,S,by rw[tk,kr,U9 (by omega) hsc];exact ho,hv,by dsimp only;omega⟩
       ·dsimp only;omega
      ·refine ah (ae rfl rfl (ae rfl rfl (Rg.sx rfl rfl rfl (by omega) (bz rfl rfl rfl (by omega) (qZ ar bZ rfl rfl (ae rfl rfl (Rg.sx rfl rfl rfl (by omega) (Rg.sy rfl rfl rfl (by omega) (bz rfl rfl rfl (by omega) (qZ ar bZ rfl rfl (ae rfl rfl ?_)))))))))));refine Rg.sx rfl rfl rfl (by omega) (Rg.sy rfl rfl rfl (by omega) (bz rfl rfl rfl (by omega) (qZ ar bZ rfl rfl (ae rfl rfl (Rg.sy rfl rfl rfl (by omega) (bz rfl rfl rfl (by omega) (qZ ar bZ rfl rfl ?_)))))));refine Rg.OK (A:=RT.u8) (hn:=by decide) (M:=M1) (xs:=[(240+pC c/262144).toNat.toUInt8,(128+pC c/4096%64).toNat.toUInt8,(128+pC c/64%64).toNat.toUInt8,(128+pC c%64).toNat.toUInt8]) bm I5 rfl (by decide) rfl ⟨_,_,_,rfl,rfl,rfl,ou (by omega),_,_,_,rfl,rfl,rfl,ou (by omega),_,_,_,rfl,rfl,rfl,ou (by omega),_,_,_,rfl,rfl,rfl,ou (by omega),rfl⟩ rfl hM (.inr ⟨rfl,rfl⟩) (by decide) (fun Vk Vl xx xy=>?_);replace hv:=hv.le xy.le;replace ho:=ho.bg xy;replace hM:=xy.lt hM;have:=S.size;replace S:=S.ax xy;refine dh (M:=M1) (base:=w0.heap.size) bm I5 rfl rfl rfl rfl ho xx (aq _ _) (by have:=eY (xs.take k);rw[bG]at this;simp;omega) (by have:=eY (xs.take k);rw[bG]at this;simp;omega) (S.size) (fun LG LH Vm Iu xz=>?_);replace hv:=hv.le xz.le;replace xx:=xx.le xz.le;replace hM:=xz.lt hM;have:=S.size;replace S:=S.dC xz ho (a8 _);replace ho:=Iu;refine ai rfl rfl (ad (ah (ae rfl rfl (bz rfl rfl rfl (by omega) (ai rfl rfl (ad ?_))))));refine⟨rfl,(k+1,LG),(.cons rfl (.cons rfl (.cons rfl .nil))),?_,?_⟩
       ·exact⟨LH,hM,S,by rw[tk,kr,Va (by omega)];exact ho,hv,by dsimp only;omega⟩
       ·dsimp only;omega
  ·refine cM (aj (ah (ae rfl rfl (Rg.b2s (hn:=by decide) (M:=M) bm bZ aD rfl rfl (ho.close ku S (by have:=eY (xs.take k);rw[bG]at this;omega)) (aq _ _) (ai rfl rfl (ad (aH ?_)))))));have e:xs.take k=xs:=bI (by omega);rw[e];exact aP rfl rfl ⟨rfl,S.back⟩
end Go.K
namespace Go.K
open Go.Proofs
set_option maxRecDepth 10000
theorem A0 {M:az} {l:List UInt8} (w0:World) (hM:Lt M w0) (hl:l.length≤1000000):
  Spec Tryz.prog 225 #[.string ⟨l.toArray⟩] w0 (fun v w=>((RT.int .i64).sl).V M w (eg l) v∧Step M w0 M w aA):=by
 have ku:=hM;refine aW (args:=[_]) (fn:=Tryz.f225) Tryz.func225 rfl (n:=17) Tryz.ntmps225 ?_;have S:Step M w0 M w0 aA:=(an _ _).ca (fun _ h=>h.elim) (fun _ h=>h.elim);refine aj (ah (ai rfl rfl (ad (aj (ah (ai rfl rfl (ad (aj (aj (ah (ae rfl rfl ?_)))))))))));refine Rg.E2 M aD rfl rfl (fun Fa acY acZ ac0 Vn LI=>?_);obtain⟨J1,Fb⟩:∃M',M'=ins M Fa:=⟨_,rfl⟩;rw[←Fb]at LI;have LJ:J1 Fa:=by rw[Fb];exact .inl rfl
 replace hM:=LI.lt hM;have:=S.size;replace S:=S.ax LI;refine ad (bj ?_);refine dI (σ:=Nat×List Int×Value) (fun q=>[(3,q.2.2),(7,.pointer (some ⟨Fa,0,none⟩))]) (fun q w=>∃M',Lt M' w∧Step M w0 M' w aA∧w.heap[Fa]? =some (.stringIter ⟨l.toArray⟩ q.1)∧M' Fa∧Own (RT.int .i64) 3 M' w w0.heap.size q.2.2 q.2.1∧eg l=q.2.1++eg (l.drop q.1)∧q.1≤l.length) (fun q=>l.length-q.1) (0,[],.slice none 0 0) (.cons rfl (.cons rfl .nil)) ?_ ?_
 ·exact⟨J1,hM,S,Vn,LJ,eo _ _ _ _ _,by simp,by simp⟩
 ·rintro⟨p,xs,u⟩ w ⟨M1,hM,S,g,n0,ho,xq,hp⟩;dsimp only at g ho xq hp ⊢;refine aj (ah ?_);refine Rg.Ij (M:=M1) rfl g n0 rfl (fun Vo ac1 Vp Fc=>?_) (fun Vo=>?_)
  ·have:=ak g;replace n0:=(Fc.mem _ this).2 n0;replace ho:=ho.step Fc (fun b hb hk=>ho.dE g (hk▸hb));replace hM:=Fc.lt hM;have:=S.size;replace S:=S.trans Fc (fun k hk h=>by have h:_=_:=h;subst h;first|(exfalso;omega)|(show _≤_;omega)|exact⟨by first|omega|assumption,(S.mem _ hk).1 ((Fc.mem _ (ak g)).1 n0)⟩|exact .inl rfl|exact .inr rfl|exact .inr (.inl rfl)|exact .inr (.inr rfl)|exact rfl);have g_:=Vp;clear g;have g:=g_;clear g_;refine bO rfl rfl rfl (ad (aj (lO rfl (aU (bj (aj (ah (bO rfl rfl rfl (ai rfl rfl (ad (ah ?_)))))))))));refine ae rfl rfl (ae rfl rfl (Rg.qm Tryz.underlying21 ar rfl rfl (by have:=qB (l.drop p);omega) ?_));refine eW (A:=RT.int .i64) (hn:=by decide) (M:=M1) av I3 (by decide) rfl rfl hM (gv (by have:=qB (l.drop p);omega)) (.inr ⟨rfl,rfl⟩) (fun Vq ac2 Cm Fe=>?_);have:=ak g;replace n0:=(Fe.mem _ this).2 n0;replace g:=Fe.aG g;replace ho:=ho.bg Fe;replace hM:=Fe.lt hM;have:=S.size;replace S:=S.ax Fe;refine dh (M:=M1) (base:=w0.heap.size) av I3 rfl rfl rfl rfl ho Cm (aq _ _) (by simp;have:=gj l;rw[xq]at this;simp at this;omega) (by simp;have:=gj l;rw[xq]at this;simp at this;omega) (S.size) (fun Vr Vs ac3 PK Ff=>?_);have:=ak g;replace n0:=(Ff.mem _ this).2 n0;replace g:=Ff.bE g (fun h=>by first|exact ho.dE g h|exact ho.eL g (by decide) h|(have:=(ho.base _ h).1;omega));replace Cm:=Cm.le Ff.le;replace hM:=Ff.lt hM;have:=S.size;replace S:=S.dC Ff ho (a8 _);replace ho:=PK;refine ai rfl rfl (ad ?_);have eK:l.drop p≠[]:=by intro h;have:=congrArg List.length h;simp at this;omega
   refine⟨rfl,(p+(dec (l.drop p)).2,xs++[((dec (l.drop p)).1:Int)],Vr),(.cons rfl (.cons rfl .nil)),?_,?_⟩
   ·refine⟨Vs,hM,S,g,n0,ho,?_,?_⟩
    ·rw[xq,l3 eK,List.drop_drop];simp
    ·have:=(j3 eK).2;rw[cL]at this;dsimp only;omega
   ·have:=(j3 eK).1;have:=(j3 eK).2;rw[cL]at this;dsimp only;omega
  ·refine bO rfl rfl rfl (ad (aj (gL rfl (cM (aj (ah (ae rfl rfl (ai rfl rfl (ad (aH ?_))))))))));have e:eg l=xs:=by rw[xq,jA (by omega),nQ];simp
   rw[e];have:=gj l;rw[e]at this;exact aP rfl rfl ⟨ho.close ku S (by omega),S.back⟩
def eQ (p:List Int×List (List UInt8)) (c:Int):List Int×List (List UInt8):=
 if eG c=true∨l4 c=true then(p.1++[eJ c],p.2)else if 0<p.1.length then([],p.2++[iU p.1])else([],p.2)
structure Fg (M:az) (w:World) (B bo bs:Nat) (p:List Int×List (List UInt8)):Prop where
 a:∃u,w.heap[bo]? =some (.cells #[u] 32 (0,0))∧Own (RT.int .i64) 3 M w B u p.1
 b:∃u,w.heap[bs]? =some (.cells #[u] 55 (0,0))∧Own RT.str 9 M w B u p.2
 m:M bo∧M bs∧B≤bo∧B≤bs
theorem nq {c:Int} (h:eG c=true∨l4 c=true):0≤c∧c≤1114111:=by
 simp only[eG,l4,decide_eq_true_eq]at h;omega
theorem tp {M:az} {B bo bs:Nat} {p:List Int×List (List UInt8)} (w0:World) (hM:Lt M w0) (c:Int) (ht:Fg M w0 B bo bs p) (hl:p.1.length≤1000000∧p.2.length≤1000000):
  Spec Tryz.prog 220 #[.int .i64 c,.pointer (some ⟨bo,0,none⟩),.pointer (some ⟨bs,0,none⟩)] w0 (fun v w=>∃M',Lt M' w∧Fg M' w B bo bs (eQ p c)∧Step M w0 M' w (jS M B)):=by
 obtain⟨⟨uo,go,ho⟩,⟨us,gs,hs⟩,fv,ga,Oe,Of⟩:=ht;obtain⟨own,out⟩:=p;dsimp only at ho hs hl ⊢;have eK:bo≠bs:=fun e=>by subst e;rw[go]at gs;cases gs
 refine aW (args:=[_,_,_]) (fn:=Tryz.f220) Tryz.func220 rfl (n:=23) Tryz.ntmps220 ?_;have S:Step M w0 M w0 (jS M B):=(an _ _).ca (fun _ h=>h.elim) (fun _ h=>h.2);refine aj (aj (ah (ae rfl rfl ?_)));refine aM rfl rfl UQ (yT _ _) (fun r wc hc=>?_);obtain⟨rfl,rfl⟩:=hc;refine bp (v':= .bool (decide (eG c=true))) (by cases eG c<;>rfl) (ae rfl rfl ?_);refine aI (g:=6) rfl (fun Vt=>?_) (fun Vt=>?_)
 ·refine ao rfl rfl rfl rfl (ao rfl rfl rfl rfl (aQ rfl rfl rfl (ad (lO rfl (aj ?_)))));apply T.oh 2 [0] 2 aA mixed rfl rfl rfl rfl;intro Cn Dp;have hY:=Dp M;have:=ak go;replace fv:=(hY.mem _ this).2 fv;replace go:=hY.aG go;have:=ak gs;replace ga:=(hY.mem _ this).2 ga;replace gs:=hY.aG gs;replace ho:=ho.bg hY;replace hs:=hs.bg hY;replace hM:=hY.lt hM;have:=S.size;replace S:=S.ax hY;refine aE av rfl rfl rfl (by first|assumption|exact bS hY (by assumption)) rfl ?_;refine ad ⟨rfl,rfl,rfl,?_⟩;refine ae rfl rfl ?_;refine ad ⟨rfl,rfl,rfl,?_⟩;refine fE ?_;refine⟨jP ⟨ep rfl (by assumption) (by first|assumption|exact fun h=>h|(intro h;have h:_=_:=h;omega)),trivial⟩,?_⟩;have kp:=jw aA Cn;have A1:eG c=true∨l4 c=true:=by first|exact .inl (by assumption)|exact .inr (by assumption)
  refine aM rfl rfl Pt (vR c _ (nq A1)) (fun r wc hc=>?_);obtain⟨rfl,rfl⟩:=hc;refine(fun(kp:dR _ _ _)=>ad ⟨rfl,rfl,fun _=>kp,?_⟩) (by first|exact kp|exact kp.qu (by assumption)|exact kp.goN (by assumption)|exact kp.go (by assumption) (fun _ _ h=>by first|exact h|exact h.elim));refine eW (A:=RT.int .i64) (hn:=by decide) (M:=M) av I3 (by decide) rfl rfl hM (gv (by have:=nq A1;unfold eJ;split<;>omega)) (.inr ⟨rfl,rfl⟩) (fun Fh xA fH s1_3=>?_);have:=ak go;replace fv:=(s1_3.mem _ this).2 fv;replace go:=s1_3.aG go;have:=ak gs;replace ga:=(s1_3.mem _ this).2 ga;replace gs:=s1_3.aG gs;replace ho:=ho.bg s1_3;replace hs:=hs.bg s1_3;replace hM:=s1_3.lt hM;have:=S.size;replace S:=S.ax s1_3;refine(fun(kp:dR _ _ _)=>ad ⟨rfl,rfl,fun _=>kp,?_⟩) (by first|exact kp|exact kp.qu (by assumption)|exact kp.goN (by assumption)|exact kp.go (by assumption) (fun _ _ h=>by first|exact h|exact h.elim));refine dh (M:=M) (base:=B) av I3 rfl rfl rfl rfl ho fH (aq _ _) (by simp;omega) (by simp;omega) (by have:=ak go;omega) (fun LK Fi Iv Fj ia=>?_);have:=ak go;replace fv:=(ia.mem _ this).2 fv;replace go:=ia.bE go (fun h=>by first|exact ho.dE go h|exact ho.eL go (by decide) h|(have:=(ho.base _ h).1;omega));have:=ak gs;replace ga:=(ia.mem _ this).2 ga;replace gs:=ia.bE gs (fun h=>by first|exact ho.dE gs h|exact ho.eL gs (by decide) h|(have:=(ho.base _ h).1;omega));replace fH:=fH.le ia.le;replace hs:=hs.step ia (fun b h1 h2=>hs.iM ho (by decide) h1 h2);replace hM:=ia.lt hM;have:=S.size;replace S:=S.trans ia (fun b hb h=>⟨(ho.base b h).1,(S.mem b hb).1 (ho.mut_ b h)⟩);replace ho:=Fj;refine ad ⟨rfl,rfl,fun h=>absurd rfl h,?_⟩;refine bP (M:=Fi) nZ rfl rfl go rfl ((by obtain⟨_,_,he,_⟩:=ho.isSlice;rw[he];rfl)) fv (fun LL qE l5=>?_);change LL.heap[_]? =some (Obj.cells #[LK] _ _)at qE
  have:=ak go;replace fv:=(l5.mem _ this).2 fv;have:=ak gs;replace ga:=(l5.mem _ this).2 ga;replace gs:=l5.bE gs (fun hk=>by have hk:_=_:=hk;omega);replace fH:=fH.le l5.le;replace ho:=ho.step l5 (fun b hb hk=>by have hk:b=_:=hk;subst hk;first|exact absurd hb (ho.eL go (by decide))|exact absurd hb (ho.eL gs (by decide)));replace hs:=hs.step l5 (fun b hb hk=>by have hk:b=_:=hk;subst hk;first|exact absurd hb (hs.eL go (by decide))|exact absurd hb (hs.eL gs (by decide)));replace hM:=l5.lt hM;have:=S.size;replace S:=S.trans l5 (fun k hk h=>by have h:_=_:=h;subst h;first|(exfalso;omega)|(show _≤_;omega)|exact⟨by first|omega|assumption,(S.mem _ hk).1 ((l5.mem _ (ak go)).1 fv)⟩|exact .inl rfl|exact .inr rfl|exact .inr (.inl rfl)|exact .inr (.inr rfl)|exact rfl);have Fk:=qE;clear go;have go:=Fk;clear Fk;refine ad ⟨rfl,rfl,fun h=>absurd rfl h,?_⟩;refine uE (aH ?_);rw[show eQ (own,out) c=(own++[eJ c],out)from if_pos A1];exact B6 rfl ⟨Fi,hM,⟨⟨_,go,ho⟩,⟨_,gs,hs⟩,fv,ga,Oe,Of⟩,S⟩
 ·refine al rfl rfl (ae rfl rfl (al rfl rfl ?_));refine aM rfl rfl UR (AS _ _) (fun r wc hc=>?_);obtain⟨rfl,rfl⟩:=hc;refine bp (v':= .bool (decide (l4 c=true))) (by cases l4 c<;>rfl) (ay rfl rfl rfl (ad ?_));refine bF rfl (fun c0=>?_) (fun c0=>?_)
  ·refine aj ?_;apply T.oh 2 [0] 2 aA mixed rfl rfl rfl rfl;intro Cn Dp;have hY:=Dp M;have:=ak go;replace fv:=(hY.mem _ this).2 fv;replace go:=hY.aG go;have:=ak gs;replace ga:=(hY.mem _ this).2 ga;replace gs:=hY.aG gs;replace ho:=ho.bg hY;replace hs:=hs.bg hY;replace hM:=hY.lt hM;have:=S.size;replace S:=S.ax hY;refine aE av rfl rfl rfl (by first|assumption|exact bS hY (by assumption)) rfl ?_;refine ad ⟨rfl,rfl,rfl,?_⟩;refine ae rfl rfl ?_;refine ad ⟨rfl,rfl,rfl,?_⟩;refine fE ?_;refine⟨jP ⟨ep rfl (by assumption) (by first|assumption|exact fun h=>h|(intro h;have h:_=_:=h;omega)),trivial⟩,?_⟩;have kp:=jw aA Cn;have A1:eG c=true∨l4 c=true:=by first|exact .inl (by assumption)|exact .inr (by assumption)
   refine aM rfl rfl Pt (vR c _ (nq A1)) (fun r wc hc=>?_);obtain⟨rfl,rfl⟩:=hc;refine(fun(kp:dR _ _ _)=>ad ⟨rfl,rfl,fun _=>kp,?_⟩) (by first|exact kp|exact kp.qu (by assumption)|exact kp.goN (by assumption)|exact kp.go (by assumption) (fun _ _ h=>by first|exact h|exact h.elim));refine eW (A:=RT.int .i64) (hn:=by decide) (M:=M) av I3 (by decide) rfl rfl hM (gv (by have:=nq A1;unfold eJ;split<;>omega)) (.inr ⟨rfl,rfl⟩) (fun Fh xA fH s1_3=>?_);have:=ak go;replace fv:=(s1_3.mem _ this).2 fv;replace go:=s1_3.aG go;have:=ak gs;replace ga:=(s1_3.mem _ this).2 ga;replace gs:=s1_3.aG gs;replace ho:=ho.bg s1_3;replace hs:=hs.bg s1_3;replace hM:=s1_3.lt hM;have:=S.size;replace S:=S.ax s1_3;refine(fun(kp:dR _ _ _)=>ad ⟨rfl,rfl,fun _=>kp,?_⟩) (by first|exact kp|exact kp.qu (by assumption)|exact kp.goN (by assumption)|exact kp.go (by assumption) (fun _ _ h=>by first|exact h|exact h.elim));refine dh (M:=M) (base:=B) av I3 rfl rfl rfl rfl ho fH (aq _ _) (by simp;omega) (by simp;omega) (by have:=ak go;omega) (fun LK Fi Iv Fj ia=>?_);have:=ak go;replace fv:=(ia.mem _ this).2 fv;replace go:=ia.bE go (fun h=>by first|exact ho.dE go h|exact ho.eL go (by decide) h|(have:=(ho.base _ h).1;omega));have:=ak gs;replace ga:=(ia.mem _ this).2 ga;replace gs:=ia.bE gs (fun h=>by first|exact ho.dE gs h|exact ho.eL gs (by decide) h|(have:=(ho.base _ h).1;omega));replace fH:=fH.le ia.le;replace hs:=hs.step ia (fun b h1 h2=>hs.iM ho (by decide) h1 h2);replace hM:=ia.lt hM;have:=S.size;replace S:=S.trans ia (fun b hb h=>⟨(ho.base b h).1,(S.mem b hb).1 (ho.mut_ b h)⟩);replace ho:=Fj;refine ad ⟨rfl,rfl,fun h=>absurd rfl h,?_⟩;refine bP (M:=Fi) nZ rfl rfl go rfl ((by obtain⟨_,_,he,_⟩:=ho.isSlice;rw[he];rfl)) fv (fun LL qE l5=>?_);change LL.heap[_]? =some (Obj.cells #[LK] _ _)at qE
   have:=ak go;replace fv:=(l5.mem _ this).2 fv;have:=ak gs;replace ga:=(l5.mem _ this).2 ga;replace gs:=l5.bE gs (fun hk=>by have hk:_=_:=hk;omega);replace fH:=fH.le l5.le;replace ho:=ho.step l5 (fun b hb hk=>by have hk:b=_:=hk;subst hk;first|exact absurd hb (ho.eL go (by decide))|exact absurd hb (ho.eL gs (by decide)));replace hs:=hs.step l5 (fun b hb hk=>by have hk:b=_:=hk;subst hk;first|exact absurd hb (hs.eL go (by decide))|exact absurd hb (hs.eL gs (by decide)));replace hM:=l5.lt hM;have:=S.size;replace S:=S.trans l5 (fun k hk h=>by have h:_=_:=h;subst h;first|(exfalso;omega)|(show _≤_;omega)|exact⟨by first|omega|assumption,(S.mem _ hk).1 ((l5.mem _ (ak go)).1 fv)⟩|exact .inl rfl|exact .inr rfl|exact .inr (.inl rfl)|exact .inr (.inr rfl)|exact rfl);have Fk:=qE;clear go;have go:=Fk;clear Fk;refine ad ⟨rfl,rfl,fun h=>absurd rfl h,?_⟩;refine uE (aH ?_);rw[show eQ (own,out) c=(own++[eJ c],out)from if_pos A1];exact B6 rfl ⟨Fi,hM,⟨⟨_,go,ho⟩,⟨_,gs,hs⟩,fv,ga,Oe,Of⟩,S⟩
  ·refine aU (aj (aj (ah (aE av rfl rfl rfl (by assumption) rfl (gN av rfl ho rfl (mG rfl rfl rfl (ad ?_)))))));refine bF rfl (fun c2=>?_) (fun c2=>?_)
   ·apply T.oh 2 [0] 2 aA mixed rfl rfl rfl rfl;intro LM LN;have kI:=LN M;have:=ak go;replace fv:=(kI.mem _ this).2 fv;replace go:=kI.aG go;have:=ak gs;replace ga:=(kI.mem _ this).2 ga;replace gs:=kI.aG gs;replace ho:=ho.bg kI;replace hs:=hs.bg kI;replace hM:=kI.lt hM;have:=S.size;replace S:=S.ax kI;refine aE bh rfl rfl rfl (by first|assumption|exact bS kI (by assumption)) rfl ?_;refine ad ⟨rfl,rfl,rfl,?_⟩;refine aE av rfl rfl rfl (by first|assumption|exact bS kI (by assumption)) rfl ?_;refine ad ⟨rfl,rfl,rfl,?_⟩;refine fE ?_;refine⟨jP ⟨ep rfl (by assumption) (by first|assumption|exact fun h=>h|(intro h;have h:_=_:=h;omega)),trivial⟩,?_⟩;have kp:=jw aA LM;refine aM rfl rfl US (Dl (M:=rm M uo) _ (fun b hb=>hM b hb.1) (ho.view (by omega)) (by omega)) (fun r3 w3 hc=>?_);obtain⟨rfl,s3⟩:=hc;replace s3:=s3.any M;have:=ak go;replace fv:=(s3.mem _ this).2 fv;replace go:=s3.aG go;have:=ak gs;replace ga:=(s3.mem _ this).2 ga;replace gs:=s3.aG gs;replace ho:=ho.bg s3;replace hs:=hs.bg s3;replace hM:=s3.lt hM;have:=S.size;replace S:=S.ax s3;refine(fun(kp:dR _ _ _)=>ad ⟨rfl,rfl,fun _=>kp,?_⟩) (by first|exact kp|exact kp.qu (by assumption)|exact kp.goN (by assumption)|exact kp.go (by assumption) (fun _ _ h=>by first|exact h|exact h.elim));refine eW (A:=RT.str) (hn:=by decide) (M:=M) bh I9 (by decide) rfl rfl hM (ka.2 ⟨rfl,by have:=eY own;omega⟩) (.inr ⟨rfl,rfl⟩) (fun ac4 ac5 tq yZ=>?_);have:=ak go;replace fv:=(yZ.mem _ this).2 fv;replace go:=yZ.aG go;have:=ak gs;replace ga:=(yZ.mem _ this).2 ga;replace gs:=yZ.aG gs;replace ho:=ho.bg yZ;replace hs:=hs.bg yZ;replace hM:=yZ.lt hM;have:=S.size;replace S:=S.ax yZ;refine(fun(kp:dR _ _ _)=>ad ⟨rfl,rfl,fun _=>kp,?_⟩) (by first|exact kp|exact kp.qu (by assumption)|exact kp.goN (by assumption)|exact kp.go (by assumption) (fun _ _ h=>by first|exact h|exact h.elim))
    refine dh (M:=M) (base:=B) bh I9 rfl rfl rfl rfl hs tq (aq _ _) (by simp;omega) (by simp;omega) (by have:=ak go;omega) (fun Vu PL ac6 PM y2=>?_);have:=ak go;replace fv:=(y2.mem _ this).2 fv;replace go:=y2.bE go (fun h=>by first|exact hs.dE go h|exact hs.eL go (by decide) h|(have:=(hs.base _ h).1;omega));have:=ak gs;replace ga:=(y2.mem _ this).2 ga;replace gs:=y2.bE gs (fun h=>by first|exact hs.dE gs h|exact hs.eL gs (by decide) h|(have:=(hs.base _ h).1;omega));replace tq:=tq.le y2.le;replace ho:=ho.step y2 (fun b h1 h2=>ho.iM hs (by decide) h1 h2);replace hM:=y2.lt hM;have:=S.size;replace S:=S.trans y2 (fun b hb h=>⟨(hs.base b h).1,(S.mem b hb).1 (hs.mut_ b h)⟩);replace hs:=PM;refine ad ⟨rfl,rfl,fun h=>absurd rfl h,?_⟩;refine bP (M:=PL) HH rfl rfl gs rfl ((by obtain⟨_,_,he,_⟩:=hs.isSlice;rw[he];rfl)) ga (fun Vv PN xB=>?_);change Vv.heap[_]? =some (Obj.cells #[Vu] _ _)at PN;have:=ak go;replace fv:=(xB.mem _ this).2 fv;replace go:=xB.bE go (fun hk=>by have hk:_=_:=hk;omega);have:=ak gs;replace ga:=(xB.mem _ this).2 ga;replace tq:=tq.le xB.le;replace ho:=ho.step xB (fun b hb hk=>by have hk:b=_:=hk;subst hk;first|exact absurd hb (ho.eL go (by decide))|exact absurd hb (ho.eL gs (by decide)));replace hs:=hs.step xB (fun b hb hk=>by have hk:b=_:=hk;subst hk;first|exact absurd hb (hs.eL go (by decide))|exact absurd hb (hs.eL gs (by decide)));replace hM:=xB.lt hM;have:=S.size;replace S:=S.trans xB (fun k hk h=>by have h:_=_:=h;subst h;first|(exfalso;omega)|(show _≤_;omega)|exact⟨by first|omega|assumption,(S.mem _ hk).1 ((xB.mem _ (ak gs)).1 ga)⟩|exact .inl rfl|exact .inr rfl|exact .inr (.inl rfl)|exact .inr (.inr rfl)|exact rfl);have Z0:=PN;clear gs;have gs:=Z0;clear Z0;refine ad ⟨rfl,rfl,fun h=>absurd rfl h,?_⟩;refine uE (ah ?_);refine bP (M:=PL) nZ rfl rfl go rfl (rfl) fv (fun Fl y3 jG=>?_)
    change Fl.heap[_]? =some (Obj.cells #[.slice none 0 0] _ _)at y3;have:=ak go;replace fv:=(jG.mem _ this).2 fv;have:=ak gs;replace ga:=(jG.mem _ this).2 ga;replace gs:=jG.bE gs (fun hk=>by have hk:_=_:=hk;omega);replace tq:=tq.le jG.le;replace ho:=ho.step jG (fun b hb hk=>by have hk:b=_:=hk;subst hk;first|exact absurd hb (ho.eL go (by decide))|exact absurd hb (ho.eL gs (by decide)));replace hs:=hs.step jG (fun b hb hk=>by have hk:b=_:=hk;subst hk;first|exact absurd hb (hs.eL go (by decide))|exact absurd hb (hs.eL gs (by decide)));replace hM:=jG.lt hM;have:=S.size;replace S:=S.trans jG (fun k hk h=>by have h:_=_:=h;subst h;first|(exfalso;omega)|(show _≤_;omega)|exact⟨by first|omega|assumption,(S.mem _ hk).1 ((jG.mem _ (ak go)).1 fv)⟩|exact .inl rfl|exact .inr rfl|exact .inr (.inl rfl)|exact .inr (.inr rfl)|exact rfl);have Fk:=y3;clear go;have go:=Fk;clear Fk;refine ad ?_
    first|refine fK.nil ?_|simp+decide only[so,kZ,if_true,if_false]|skip
    have Og: ¬(eG c=true∨l4 c=true):=by rintro(h|h)<;>exact absurd h (by assumption)
    first
    |rw[show eQ (own,out) c=([],out++[iU own])from(if_neg Og).trans (if_pos (by show 0<own.length;omega))]
     exact gZ rfl ⟨_,hM,⟨⟨_,go,eo _ _ _ _ _⟩,⟨_,gs,hs⟩,fv,ga,Oe,Of⟩,S⟩
    |rw[show eQ (own,out) c=([],out)from(if_neg Og).trans (if_neg (by show¬0<own.length;omega))]
     exact gZ rfl ⟨_,hM,⟨⟨_,go,eo _ _ _ _ _⟩,⟨_,gs,hs⟩,fv,ga,Oe,Of⟩,S⟩
   ·refine aU (ah ?_);refine bP (M:=M) nZ rfl rfl go rfl (rfl) fv (fun Fl y3 jG=>?_);change Fl.heap[_]? =some (Obj.cells #[.slice none 0 0] _ _)at y3;have:=ak go;replace fv:=(jG.mem _ this).2 fv;have:=ak gs;replace ga:=(jG.mem _ this).2 ga;replace gs:=jG.bE gs (fun hk=>by have hk:_=_:=hk;omega);replace ho:=ho.step jG (fun b hb hk=>by have hk:b=_:=hk;subst hk;first|exact absurd hb (ho.eL go (by decide))|exact absurd hb (ho.eL gs (by decide)));replace hs:=hs.step jG (fun b hb hk=>by have hk:b=_:=hk;subst hk;first|exact absurd hb (hs.eL go (by decide))|exact absurd hb (hs.eL gs (by decide)));replace hM:=jG.lt hM;have:=S.size;replace S:=S.trans jG (fun k hk h=>by have h:_=_:=h;subst h;first|(exfalso;omega)|(show _≤_;omega)|exact⟨by first|omega|assumption,(S.mem _ hk).1 ((jG.mem _ (ak go)).1 fv)⟩|exact .inl rfl|exact .inr rfl|exact .inr (.inl rfl)|exact .inr (.inr rfl)|exact rfl);have Fk:=y3;clear go;have go:=Fk;clear Fk;refine ad ?_
    first|refine fK.nil ?_|simp+decide only[so,kZ,if_true,if_false]|skip
    have Og: ¬(eG c=true∨l4 c=true):=by rintro(h|h)<;>exact absurd h (by assumption)
    first
    |rw[show eQ (own,out) c=([],out++[iU own])from(if_neg Og).trans (if_pos (by show 0<own.length;omega))]
     exact gZ rfl ⟨_,hM,⟨⟨_,go,eo _ _ _ _ _⟩,⟨_,gs,hs⟩,fv,ga,Oe,Of⟩,S⟩
    |rw[show eQ (own,out) c=([],out)from(if_neg Og).trans (if_neg (by show¬0<own.length;omega))]
     exact gZ rfl ⟨_,hM,⟨⟨_,go,eo _ _ _ _ _⟩,⟨_,gs,hs⟩,fv,ga,Oe,Of⟩,S⟩
theorem lF (l:List Int):∀p,(l.foldl eQ p).1.length≤p.1.length+l.length∧(l.foldl eQ p).2.length≤p.2.length+l.length:=by
 induction l with
 |nil=>intro p;simp
 |cons c l ih=>
  intro p;have:=ih (eQ p c)
  have h1:(eQ p c).1.length≤p.1.length+1∧(eQ p c).2.length≤p.2.length+1:=by
   unfold eQ
   split
   ·simp
   ·split<;>simp
  simp only[List.foldl_cons,cv];omega
def words (l:List UInt8):List (List UInt8):=((eg l++[32]).foldl eQ ([],[])).2
theorem nR (l:List UInt8):(words l).length≤l.length+1:=by
 have h:=(lF (eg l++[32]) ([],[])).2;have h2:=gj l;rw[bM]at h;have h3:([]:List (List UInt8)).length=0:=rfl;have h4: [(32:Int)].length=1:=rfl;unfold words;simp only[h3,h4]at h;omega
theorem tt {M:az} {l:List UInt8} (w0:World) (hM:Lt M w0) (hl:l.length≤900000):
  Spec Tryz.prog 192 #[.string ⟨l.toArray⟩] w0 (fun v w=>(RT.str.sl).V M w (words l) v∧Step M w0 M w aA):=by
 have ku:=hM;refine aW (args:=[_]) (fn:=Tryz.f192) Tryz.func192 rfl (n:=23) Tryz.ntmps192 ?_;have S:Step M w0 M w0 aA:=(an _ _).ca (fun _ h=>h.elim) (fun _ h=>h.elim);refine aj (ah (ai rfl rfl (ad (aj (ah ?_)))));refine ff M HH rfl (fun mK Dq PO PQ jH n4=>?_);obtain⟨nr,nt⟩:∃M',M'=ins M mK:=⟨_,rfl⟩;rw[←nt]at n4;have ib:nr mK:=by rw[nt];exact .inl rfl
 change Dq.heap[mK]? =some (.cells #[.slice none 0 0] _ _)at jH;replace hM:=n4.lt hM;have:=S.size;replace S:=S.ax n4;refine ad (aj (ah ?_));refine ff nr nZ rfl (fun fg Iw Vw Vx y4 tu=>?_);obtain⟨Fm,tv⟩:∃M',M'=ins nr fg:=⟨_,rfl⟩;rw[←tv]at tu;have tw:Fm fg:=by rw[tv];exact .inl rfl
 change Iw.heap[fg]? =some (.cells #[.slice none 0 0] _ _)at y4;have:=ak jH;replace ib:=(tu.mem _ this).2 ib;replace jH:=tu.aG jH;replace hM:=tu.lt hM;have:=S.size;replace S:=S.ax tu;refine ad (aj (ah (iD (xs:=[]) (ys:=[.tmp 4,.tmp 3]) rfl rfl rfl (ai rfl rfl (ad (aj (aj (ah (ae rfl rfl ?_)))))))));refine aM rfl rfl UT (A0 _ hM (by omega)) (fun v4 w4 hc=>?_);obtain⟨xq,s4⟩:=hc;have:=ak jH;replace ib:=(s4.mem _ this).2 ib;replace jH:=s4.aG jH;have:=ak y4;replace tw:=(s4.mem _ this).2 tw;replace y4:=s4.aG y4;replace hM:=s4.lt hM;have:=S.size;replace S:=S.ax s4;refine bU av rfl xq rfl (ae rfl rfl (ad (bj ?_)));refine dI (σ:=Nat) (fun k=>[(3,.pointer (some ⟨mK,0,none⟩)),(5,.func (.func 220) #[] #[.pointer (some ⟨fg,0,none⟩),.pointer (some ⟨mK,0,none⟩)]),(10,v4),(11,.int .i64 ((eg l).length:Int)),(12,.int .i64 (k:Int))]) (fun k w=>∃M',Lt M' w∧Step M w0 M' w aA∧Fg M' w w0.heap.size fg mK (((eg l).take k).foldl eQ ([],[]))∧((RT.int .i64).sl).V M' w (eg l) v4∧k≤(eg l).length) (fun k=>(eg l).length-k) 0 (.cons rfl (.cons rfl (.cons rfl (.cons rfl (.cons rfl .nil))))) ?_ ?_
 ·exact⟨_,hM,S,⟨⟨_,y4,eo _ _ _ _ _⟩,⟨_,jH,eo _ _ _ _ _⟩,tw,ib,by omega,by omega⟩,xq,bH _⟩
 ·rintro k w ⟨M1,hM,S,ht,xq,hk⟩;refine aj (ah (cf rfl rfl rfl (ad (aj ?_))));refine bF rfl (fun c5=>?_) (fun c5=>?_)
  ·refine aU (aj (bj (aj (ah ?_))));refine dq (M:=M1) av I3 rfl rfl rfl xq (aq _ _) (by omega) (fun u6 c Eh LO=>?_);refine cd (M:=M1) ar rfl rfl LO (aq _ _) (fun in6=>?_);refine ai rfl rfl (ad (ah (ae rfl rfl (ae rfl rfl ?_))));have mX:=gj l;have Eb:=lF ((eg l).take k) ([],[]);rw[bG]at Eb;refine Rg.mV (first:=[]) (captured:=[.pointer (some ⟨fg,0,none⟩),.pointer (some ⟨mK,0,none⟩)]) rfl rfl rfl Ps (tp (B:=w0.heap.size) _ hM c ht (by simp at Eb;omega)) (fun r7 w7 hc=>?_);obtain⟨M2,HJ,Ix,s7⟩:=hc;have tk:(eg l).take (k+1)=(eg l).take k++[c]:=by rw[cr];simp only[aC]at Eh;rw[Eh];rfl
   refine ad (ah (bz rfl rfl rfl (by omega) (ae rfl rfl (ad ?_))));refine⟨rfl,k+1,(.cons rfl (.cons rfl (.cons rfl (.cons rfl (.cons rfl .nil))))),?_,?_⟩
   ·exact⟨M2,HJ,S.kc s7 (a8 _),by rw[tk,oG];exact Ix,xq.le s7.le,by omega⟩
   ·omega
  ·refine cM (aj (ah (ae rfl rfl ?_)));have mX:=gj l;have Eb:=lF ((eg l).take k) ([],[]);rw[bG]at Eb;refine Rg.mV (first:=[]) (captured:=[.pointer (some ⟨fg,0,none⟩),.pointer (some ⟨mK,0,none⟩)]) rfl rfl rfl Ps (tp (B:=w0.heap.size) _ hM 32 ht (by simp at Eb;omega)) (fun r9 w9 hc=>?_);obtain⟨M2,HJ,Ix,s9⟩:=hc;have e9:eQ (((eg l).take k).foldl eQ ([],[])) 32=(eg l++[32]).foldl eQ ([],[]):=by rw[oG,bI (by omega)];rfl
   rw[e9]at Ix;obtain⟨_,⟨us,gs,hs⟩,_⟩:=Ix;replace S:=S.kc s9 (a8 _);refine ad (aj (ah (aE bh rfl rfl rfl gs rfl (ai rfl rfl (ad (aH ?_))))));exact aP rfl rfl ⟨Own.close ku S hs (by have:=nR l;omega),S.back⟩
end Go.K
namespace Go.K
open Go.Proofs
set_option maxRecDepth 10000
theorem Fo {p:List Int×List (List UInt8)} {c:Int} (h:rY c=true):eQ p c=(p.1++[eJ c],p.2):=if_pos (by simpa[rY]using h)
theorem nS {p:List Int×List (List UInt8)} {c:Int} (h:rY c=false):eQ p c=if 0<p.1.length then([],p.2++[iU p.1])else([],p.2):=if_neg (by simpa[rY]using h)
def Ei (sg:List Int) (i:Nat) (ws:List (List UInt8)):Prop:=(i≤sg.length∧(sg.take i).foldl eQ ([],[])=([],ws))∨(i=sg.length+1∧((sg++[32]).foldl eQ ([],[])).2=ws)
theorem Fp {c:Int} (h:rY c=true):0≤c∧c≤1114111:=nq (by simpa[rY]using h)
theorem PR:rY 32=false:=by decide
theorem qF {sg:List Int} {i:Nat} {c:Int} (h:sg[i]? =some c) (p:List Int×List (List UInt8)):(sg.take (i+1)).foldl eQ p=eQ ((sg.take i).foldl eQ p) c:=by
 rw[cr,h,cY,oG];rfl
theorem Ei.skip {sg:List Int} {i:Nat} {ws:List (List UInt8)} {c:Int} (h:Ei sg i ws) (hc:sg[i]? =some c) (hi:rY c=false):Ei sg (i+1) ws:=by
 have dy:=(au.1 hc).1;rcases h with⟨_,h⟩|⟨h,_⟩
 ·exact .inl ⟨dy,by rw[qF hc,h,nS hi];rfl⟩
 ·omega
theorem Ei.word {sg:List Int} {j:Nat} {own:List Int} {ws:List (List UInt8)} (h:(sg.take j).foldl eQ ([],[])=(own,ws)) (ho:0<own.length) (hj:j≤sg.length) (hn:∀c,sg[j]? =some c→rY c=false):Ei sg (j+1) (ws++[iU own]):=by
 rcases dO hj with e|dy
 ·refine .inr ⟨by omega,?_⟩;rw[e,List.take_length]at h;rw[oG,h];show(eQ (own,ws) 32).2=_;rw[nS PR,if_pos ho]
 ·have hc:sg[j]? =some sg[j]:=aL dy;exact .inl ⟨dy,by rw[qF hc,h,nS (hn _ hc),if_pos ho]⟩
theorem Ei.done {sg:List Int} {i:Nat} {ws:List (List UInt8)} (h:Ei sg i ws) (hi:sg.length≤i):((sg++[32]).foldl eQ ([],[])).2=ws:=by
 rcases h with⟨h1,h⟩|⟨_,h⟩
 ·rw[bI (by omega)]at h;rw[oG,h];show(eQ ([],ws) 32).2=_;rw[nS PR];rfl
 ·exact h
theorem Ei.len {sg:List Int} {i:Nat} {ws:List (List UInt8)} (h:Ei sg i ws):ws.length≤sg.length+1:=by
 rcases h with⟨_,h⟩|⟨_,h⟩
 ·have:=(lF (sg.take i) ([],[])).2;rw[h,bG]at this;simp only[ij]at this;have e:(([]:List Int),([]:List (List UInt8))).2.length=0:=rfl;omega
 ·have:=(lF (sg++[32]) ([],[])).2;rw[h,bM]at this;have e:(([]:List Int),([]:List (List UInt8))).2.length=0:=rfl;have e2: [(32:Int)].length=1:=rfl;omega
theorem fq {sg:List Int} {j:Nat} {own:List Int} {ws:List (List UInt8)} (h:(sg.take j).foldl eQ ([],[])=(own,ws)):own.length≤sg.length∧ws.length≤sg.length:=by
 have:=lF (sg.take j) ([],[]);rw[h,bG]at this;simp only[ij]at this;have e:(([]:List Int),([]:List (List UInt8))).1.length=0:=rfl;have e2:(([]:List Int),([]:List (List UInt8))).2.length=0:=rfl;omega
theorem y5 {M:az} {l:List UInt8} (w0:World) (hM:Lt M w0) (hl:l.length≤900000):
  Spec Tryz.prog 191 #[.string ⟨l.toArray⟩] w0 (fun v w=>(RT.str.sl).V M w (words l) v∧Step M w0 M w aA):=by
 have ku:=hM;have mX:=gj l;refine aW (args:=[_]) (fn:=Tryz.f191) Tryz.func191 rfl (n:=50) Tryz.ntmps191 ?_;have S:Step M w0 M w0 aA:=(an _ _).ca (fun _ h=>h.elim) (fun _ h=>h.elim);refine aj (ah (ai rfl rfl (ad (aj (ah (ae rfl rfl ?_))))));refine aM rfl rfl UO (yY _ hM (by omega)) (fun v1 w1 hc=>?_);obtain⟨hv,s1⟩:=hc;replace hM:=s1.lt hM;have:=S.size;replace S:=S.ax s1;refine ai rfl rfl (ad (aj (ah (ai rfl rfl (ad (aj (aj (ah (ai rfl rfl (ad (bj ?_)))))))))));refine dI (σ:=Nat×Value) (fun q=>[(3,v1),(4,q.2),(5,.int .i64 (q.1:Int))]) (fun q w=>∃M' ws,Lt M' w∧Step M w0 M' w aA∧Own RT.str 9 M' w w0.heap.size q.2 ws∧((RT.int .i64).sl).V M' w (eg l) v1∧Ei (eg l) q.1 ws) (fun q=>(eg l).length+1-q.1) (0,.slice none 0 0) (.cons rfl (.cons rfl (.cons rfl .nil))) ?_ ?_
 ·exact⟨M,[],hM,S,eo _ _ _ _ _,hv,.inl ⟨bH _,rfl⟩⟩
 ·rintro⟨i,u4⟩ w ⟨M1,ws,hM,S,pF,hv,PS⟩;dsimp only at pF PS ⊢;refine aj (aj (ah (ae rfl rfl (ae rfl rfl (bU av rfl hv rfl (cf rfl rfl rfl (ad ?_)))))));refine bF rfl (fun c4=>?_) (fun c4=>?_)
  ·refine aU (aj (bj (aj (ah (ae rfl rfl (ae rfl rfl ?_))))));refine dq (M:=M1) av I3 rfl rfl rfl hv (aq _ _) (by omega) (fun LP c Tc huc=>?_);refine cd (M:=M1) ar rfl rfl huc (aq _ _) (fun inc=>?_);rw[aC]at Tc;refine aM rfl rfl Pq (yX c _) (fun r wc hc=>?_);obtain⟨rfl,rfl⟩:=hc;refine bp (v':= .bool (decide (rY c=true))) (by cases rY c<;>rfl) (ai rfl rfl (ad (aj (aj (ah (ae rfl rfl (Rg.not rfl rfl (bp (v':= .bool (decide (rY c=false))) (by cases rY c<;>rfl) (ad ?_)))))))));refine bF rfl (fun c7=>?_) (fun c7=>?_)
   ·refine cM (ah (ae rfl rfl (bz rfl rfl rfl (by omega) (ai rfl rfl (ad ?_)))));refine⟨rfl,(i+1,u4),(.cons rfl (.cons rfl (.cons rfl .nil))),?_,?_⟩
    ·exact⟨M1,ws,hM,S,pF,hv,PS.skip Tc (by assumption)⟩
    ·dsimp only;omega
   ·refine aU (aj (ah (ai rfl rfl (ad (aj (bj ?_))))));refine dI (σ:=Nat×List Int×Value) (fun q=>[(3,v1),(4,u4),(5,.int .i64 (q.1:Int)),(7,q.2.2)]) (fun q w=>∃M',Lt M' w∧Step M w0 M' w aA∧Own RT.str 9 M' w w0.heap.size u4 ws∧Own (RT.int .i64) 3 M' w w0.heap.size q.2.2 q.2.1∧((RT.int .i64).sl).V M' w (eg l) v1∧((eg l).take q.1).foldl eQ ([],[])=(q.2.1,ws)∧i≤q.1∧q.1≤(eg l).length∧(i<q.1→0<q.2.1.length)) (fun q=>(eg l).length-q.1) (i,[],.slice none 0 0) (.cons rfl (.cons rfl (.cons rfl (.cons rfl .nil)))) ?_ ?_
    ·have Vy:((eg l).take i).foldl eQ ([],[])=([],ws):=by
      rcases PS with⟨_,h⟩|⟨h,_⟩
      ·exact h
      ·omega
     exact⟨M1,hM,S,pF,eo _ _ _ _ _,hv,Vy,a8 _,by dsimp only;omega,fun h=>absurd h (iF _)⟩
    ·rintro⟨j,own,u7⟩ w ⟨M2,hM,S,pF,rZ,hv,hf,Ob,qg,qq⟩;dsimp only at rZ hf Ob qg qq ⊢;refine aj (aj (ah (ae rfl rfl (ae rfl rfl (bU av rfl hv rfl (cf rfl rfl rfl (ae rfl rfl ?_)))))));refine aI (g:=27) rfl (fun Vz=>?_) (fun Vz=>?_)
     ·refine al rfl rfl (ae rfl rfl (al rfl rfl (ae rfl rfl (al rfl rfl ?_))));refine dq (M:=M2) av I3 rfl rfl rfl hv (aq _ _) (by omega) (fun ac8 d tx hud=>?_);refine al rfl rfl ?_;refine cd (M:=M2) ar rfl rfl hud (aq _ _) (fun ind=>?_);rw[aC]at tx;refine al rfl rfl ?_;refine aM rfl rfl Pq (yX d _) (fun r wc hc=>?_);obtain⟨rfl,rfl⟩:=hc;refine bp (v':= .bool (decide (rY d=true))) (by cases rY d<;>rfl) (aQ rfl rfl rfl (ad ?_));refine bF rfl (fun c9=>?_) (fun c9=>?_)
      ·refine aU (bj (aj (ah (ae rfl rfl (ae rfl rfl (ae rfl rfl ?_))))));refine dq (M:=M2) av I3 rfl rfl rfl hv (aq _ _) (by omega) (fun PT e yg hue=>?_);refine cd (M:=M2) ar rfl rfl hue (aq _ _) (fun mq=>?_);rw[aC]at yg;have LQ:rY e=true:=by rw[tx]at yg;cases yg;assumption
       refine aM rfl rfl UP (AX e _ (Fp LQ)) (fun r wc hc=>?_);obtain⟨rfl,rfl⟩:=hc;refine eW (A:=RT.int .i64) (hn:=by decide) (M:=M2) av I3 (by decide) rfl rfl hM (gv (by have:=Fp LQ;unfold eJ;split<;>omega)) (.inr ⟨rfl,rfl⟩) (fun Z1 Z2 A2 y6=>?_);replace hv:=hv.le y6.le;replace pF:=pF.bg y6;replace rZ:=rZ.bg y6;replace hM:=y6.lt hM;have:=S.size;replace S:=S.ax y6;refine dh (M:=M2) (base:=w0.heap.size) av I3 rfl rfl rfl rfl rZ A2 (aq _ _) (by have:=fq hf;simp;omega) (by have:=fq hf;simp;omega) (S.size) (fun J2 PU PV LR mz=>?_);replace hv:=hv.le mz.le;replace A2:=A2.le mz.le;replace pF:=pF.step mz (fun b h1 h2=>pF.iM rZ (by decide) h1 h2);replace hM:=mz.lt hM;have:=S.size;replace S:=S.dC mz rZ (a8 _);replace rZ:=LR;refine ai rfl rfl (ad (ah (ae rfl rfl (bz rfl rfl rfl (by omega) (ai rfl rfl (ad ?_))))));refine⟨rfl,(j+1,own++[eJ e],J2),(.cons rfl (.cons rfl (.cons rfl (.cons rfl .nil)))),?_,?_⟩
       ·exact⟨PU,hM,S,pF,rZ,hv,by rw[qF yg,hf,Fo LQ],by dsimp only;omega,by dsimp only;omega,fun _=>by simp⟩
       ·dsimp only;omega
      ·refine cM (ah (ae rfl rfl (ae rfl rfl ?_)));refine aM rfl rfl Pr (tn (M:=rm M2 u7) _ (fun b hb=>hM b hb.1) (rZ.view (by have:=fq hf;omega)) (by have:=fq hf;omega)) (fun Td Fq LS=>?_);obtain⟨rfl,kL⟩:=LS;replace kL:=kL.any M2;replace hv:=hv.le kL.le;replace pF:=pF.bg kL;replace rZ:=rZ.bg kL;replace hM:=kL.lt hM;have:=S.size;replace S:=S.ax kL;refine eW (A:=RT.str) (hn:=by decide) (M:=M2) bh I9 (by decide) rfl rfl hM (ka.2 ⟨rfl,by have:=eY own;have:=fq hf;omega⟩) (.inr ⟨rfl,rfl⟩) (fun PW PX oT nu=>?_);replace hv:=hv.le nu.le;replace pF:=pF.bg nu;replace rZ:=rZ.bg nu;replace hM:=nu.lt hM;have:=S.size;replace S:=S.ax nu;refine dh (M:=M2) (base:=w0.heap.size) bh I9 rfl rfl rfl rfl pF oT (aq _ _) (by have:=fq hf;simp;omega) (by have:=fq hf;simp;omega) (S.size) (fun tz nv Fs oU dV=>?_);replace hv:=hv.le dV.le;replace oT:=oT.le dV.le;replace rZ:=rZ.step dV (fun b h1 h2=>rZ.iM pF (by decide) h1 h2);replace hM:=dV.lt hM;have:=S.size;replace S:=S.dC dV pF (a8 _);replace pF:=oU;refine ai rfl rfl (ad (ah (ae rfl rfl (bz rfl rfl rfl (by omega) (ai rfl rfl (ad ?_))))))
       have qq:0<own.length:=by
        rcases dO Ob with e|h
        ·exfalso;subst e
         first|omega|(rw[Tc]at tx;cases tx;exact c9 (by cases hq:rY c with|true=>rfl|false=>exact absurd hq (by assumption)))
        ·exact qq h
       have VA:∀c,(eg l)[j]? =some c→rY c=false:=fun c hc=>by
        first|(rw[fI (by omega)]at hc;cases hc)|(rw[tx]at hc;cases hc;exact eF.2 c9)
       refine⟨rfl,(j+1,tz),(.cons rfl (.cons rfl (.cons rfl .nil))),?_,?_⟩
       ·exact⟨nv,_,hM,S,pF,hv,Ei.word hf qq qg VA⟩
       ·dsimp only;omega
     ·refine ao rfl rfl rfl rfl (ao rfl rfl rfl rfl (ao rfl rfl rfl rfl (ao rfl rfl rfl rfl (ao rfl rfl rfl rfl (ay rfl rfl rfl (ad (gL rfl (cM (ah (ae rfl rfl (ae rfl rfl ?_)))))))))));refine aM rfl rfl Pr (tn (M:=rm M2 u7) _ (fun b hb=>hM b hb.1) (rZ.view (by have:=fq hf;omega)) (by have:=fq hf;omega)) (fun Td Fq LS=>?_);obtain⟨rfl,kL⟩:=LS;replace kL:=kL.any M2;replace hv:=hv.le kL.le;replace pF:=pF.bg kL;replace rZ:=rZ.bg kL;replace hM:=kL.lt hM;have:=S.size;replace S:=S.ax kL;refine eW (A:=RT.str) (hn:=by decide) (M:=M2) bh I9 (by decide) rfl rfl hM (ka.2 ⟨rfl,by have:=eY own;have:=fq hf;omega⟩) (.inr ⟨rfl,rfl⟩) (fun PW PX oT nu=>?_);replace hv:=hv.le nu.le;replace pF:=pF.bg nu;replace rZ:=rZ.bg nu;replace hM:=nu.lt hM;have:=S.size;replace S:=S.ax nu;refine dh (M:=M2) (base:=w0.heap.size) bh I9 rfl rfl rfl rfl pF oT (aq _ _) (by have:=fq hf;simp;omega) (by have:=fq hf;simp;omega) (S.size) (fun tz nv Fs oU dV=>?_);replace hv:=hv.le dV.le;replace oT:=oT.le dV.le;replace rZ:=rZ.step dV (fun b h1 h2=>rZ.iM pF (by decide) h1 h2);replace hM:=dV.lt hM;have:=S.size;replace S:=S.dC dV pF (a8 _);replace pF:=oU;refine ai rfl rfl (ad (ah (ae rfl rfl (bz rfl rfl rfl (by omega) (ai rfl rfl (ad ?_))))))
      have qq:0<own.length:=by
       rcases dO Ob with e|h
       ·exfalso;subst e
        first|omega|(rw[Tc]at tx;cases tx;exact c9 (by cases hq:rY c with|true=>rfl|false=>exact absurd hq (by assumption)))
       ·exact qq h
      have VA:∀c,(eg l)[j]? =some c→rY c=false:=fun c hc=>by
       first|(rw[fI (by omega)]at hc;cases hc)|(rw[tx]at hc;cases hc;exact eF.2 c9)
      refine⟨rfl,(j+1,tz),(.cons rfl (.cons rfl (.cons rfl .nil))),?_,?_⟩
      ·exact⟨nv,_,hM,S,pF,hv,Ei.word hf qq qg VA⟩
      ·dsimp only;omega
  ·refine cM (aj (ah (ae rfl rfl (ai rfl rfl (ad (aH ?_))))));have e:=PS.done (by omega);have e2:words l=ws:=e;rw[e2];exact aP rfl rfl ⟨pF.close ku S (by have:=PS.len;omega),S.back⟩
end Go.K
namespace Go.K
open Go.Proofs
set_option maxRecDepth 10000
def kx:Nat→List (List UInt8)→Int
 |_,[]=>0
 |i,w::ws=>if 30<w.length then 3 else if 500≤i then 7 else kx (i+1) ws
theorem Co {i k:Nat} {ws:List (List UInt8)} {x:List UInt8} (h:ws[k]? =some x):kx i (ws.drop k)=if 30<x.length then 3 else if 500≤i then 7 else kx (i+1) (ws.drop (k+1)):=by
 have dy:=(au.1 h).1;rw[de dy,(au.1 h).2];rfl
theorem fD {M:az} {w:World} {x:List UInt8} {v:Value} (h:RT.str.V M w x v):v= .string ⟨x.toArray⟩:=(ka.1 h).1
theorem Dr {M:az} {l:List UInt8} (w0:World) (hM:Lt M w0) (hl:l.length≤900000):
  Spec Tryz.prog 150 #[.string ⟨l.toArray⟩] w0 (fun v w=>(∃u,v= .tuple #[u,.int .i64 (kx 0 (words l))]∧(kx 0 (words l)=0→∃a cap,u= .slice a (words l).length cap))∧Step M w0 M w aA):=by
 have ku:=hM;refine aW (args:=[_]) (fn:=Tryz.f150) Tryz.func150 rfl (n:=30) Tryz.ntmps150 ?_;have S:Step M w0 M w0 aA:=(an _ _).ca (fun _ h=>h.elim) (fun _ h=>h.elim);refine aj (ah (ai rfl rfl (ai rfl rfl (ad (aj (ah (ai rfl rfl (ad (aj (aj (ah ?_)))))))))));refine ae rfl rfl ?_;refine aM rfl rfl Pn (tt _ hM hl) (fun v1 w1 hc=>?_);obtain⟨hv,s1⟩:=hc;replace hM:=s1.lt hM;have:=S.size;replace S:=S.ax s1;refine bU bh rfl hv rfl (ae rfl rfl (ad (bj ?_)));refine dI (σ:=Nat×Value) (fun q=>[(8,v1),(4,q.2),(9,.int .i64 ((words l).length:Int)),(10,.int .i64 (q.1:Int))]) (fun q w=>(∃M' xs,Lt M' w∧Step M w0 M' w aA∧Own (RT.pair RT.str (RT.int .i64)) 256 M' w w0.heap.size q.2 xs∧xs.length=q.1∧(RT.str.sl).V M' w (words l) v1)∧kx 0 (words l)=kx q.1 ((words l).drop q.1)∧q.1≤(words l).length∧q.1≤500) (fun q=>(words l).length-q.1) (0,.slice none 0 0) (.cons rfl (.cons rfl (.cons rfl (.cons rfl .nil)))) ?_ ?_
 ·exact⟨⟨M,[],hM,S,eo _ _ _ _ _,rfl,hv⟩,rfl,bH _,bH _⟩
 ·rintro⟨i,u⟩ w ⟨⟨M1,xs,hM,S,ho,uA,hv⟩,C8,hi,VB⟩;dsimp only at ho uA C8 hi VB ⊢;refine aj (ah (cf rfl rfl rfl (ad (aj ?_))));refine bF rfl (fun c3=>?_) (fun c3=>?_)
  ·refine aU (aj (bj (aj (ah (ae rfl rfl ?_)))));refine dq (M:=M1) bh I9 rfl rfl rfl hv (aq _ _) (by omega) (fun VC x Oh VD=>?_);refine cg (M:=M1) aD rfl rfl rfl rfl rfl VD (aq _ _) (fun vx qG=>?_);rw[aC]at Oh;obtain rfl:=fD qG;have ht:=Co (i:=i) Oh;refine ai rfl rfl (ai rfl rfl (ad (aj (bj (aj (ah (ae rfl rfl (Rg.k3 aD rfl rfl (bp (v':= .int .i64 (x.length:Int)) (by simp[ByteArray.size]) (mG rfl rfl rfl (ai rfl rfl ?_)))))))))));refine ad ?_;refine bF rfl (fun c5=>?_) (fun c5=>?_)
   ·refine aj (ah (ai rfl rfl (ai rfl rfl (ad (aH ?_)))));rw[C8,ht,if_pos (by omega)];exact ez rfl rfl rfl ⟨⟨_,rfl,fun h=>by cases h⟩,S.back⟩
   ·refine aj (ah (ae rfl rfl (Rg.Ay rfl rfl rfl (ai rfl rfl (ad ?_)))));refine bF rfl (fun c7=>?_) (fun c7=>?_)
    ·refine aj (ah (ai rfl rfl (ai rfl rfl (ad (aH ?_)))));rw[C8,ht,if_neg (by omega),if_pos (by omega)];exact ez rfl rfl rfl ⟨⟨_,rfl,fun h=>by cases h⟩,S.back⟩
    ·refine aU (ah (ae rfl rfl (ae rfl rfl (ae rfl rfl (dX (places:=[(0,1),(1,1)]) Tryz.underlying256 Dj Pj rfl ⟨_,_,rfl,rfl,_,_,rfl,rfl,rfl⟩ (out:=[_,_]) ⟨0,[_],rfl,rfl,by simp[Value.cells],1,[_],rfl,rfl,by simp[Value.cells],rfl⟩ ?_)))));refine eW (A:=(RT.pair RT.str (RT.int .i64))) (hn:=by decide) (M:=M1) Tryz.underlying222 Dj (by decide) rfl rfl hM (ei qG (gv (x:=(i:Int)) (by omega)) rfl rfl rfl rfl) (.inl rfl) (fun PH Ve Ft uP=>?_);replace hv:=hv.le uP.le;replace qG:=qG.le uP.le;replace ho:=ho.bg uP;replace hM:=uP.lt hM;have:=S.size;replace S:=S.ax uP;refine dh (M:=M1) (base:=w0.heap.size) Tryz.underlying222 Dj rfl rfl rfl rfl ho Ft (aq _ _) (by simp;omega) (by simp;omega) (S.size) (fun VE VF PY PZ nw=>?_);replace hv:=hv.le nw.le;replace qG:=qG.le nw.le;replace Ft:=Ft.le nw.le;replace hM:=nw.lt hM;have:=S.size;replace S:=S.dC nw ho (a8 _);replace ho:=PZ;refine ai rfl rfl (ad (ah (bz rfl rfl rfl (by omega) (ae rfl rfl (ad ?_)))));refine⟨rfl,(i+1,VE),(.cons rfl (.cons rfl (.cons rfl (.cons rfl .nil)))),?_,?_⟩
     ·exact⟨⟨VF,_,hM,S,ho,by simp[uA],hv⟩,by rw[C8,ht,if_neg (by omega),if_neg (by omega)],by dsimp only;omega,by dsimp only;omega⟩
     ·dsimp only;omega
  ·refine cM (aj (ah (ae rfl rfl (ai rfl rfl (ai rfl rfl (ad (aH ?_)))))));have e:kx 0 (words l)=0:=by rw[C8,jA (by omega)];rfl
   rw[e];obtain⟨a,cap,he,_⟩:=ho.isSlice;exact ez rfl rfl rfl ⟨⟨u,rfl,fun _=>⟨a,cap,by rw[he,uA];congr 1;omega⟩⟩,S.back⟩
theorem A3 {M:az} {l:List UInt8} (w0:World) (hM:Lt M w0) (hl:l.length≤900000):
  Spec Tryz.prog 167 #[.string ⟨l.toArray⟩] w0 (fun v w=>(∃u,v= .tuple #[u,.int .i64 (kx 0 (words l))]∧(kx 0 (words l)=0→∃a cap,u= .slice a (words l).length cap))∧Step M w0 M w aA):=by
 have ku:=hM;refine aW (args:=[_]) (fn:=Tryz.f167) Tryz.func167 rfl (n:=33) Tryz.ntmps167 ?_;have S:Step M w0 M w0 aA:=(an _ _).ca (fun _ h=>h.elim) (fun _ h=>h.elim);refine aj (ah (ai rfl rfl (ai rfl rfl (ad (aj (ah (ae rfl rfl ?_)))))));refine aM rfl rfl UE (y5 _ hM hl) (fun v1 w1 hc=>?_);obtain⟨hv,s1⟩:=hc;replace hM:=s1.lt hM;have:=S.size;replace S:=S.ax s1;refine ai rfl rfl (ad (aj (ah (ai rfl rfl (ad (aj (aj (ah (ai rfl rfl (ad (bj ?_)))))))))));refine dI (σ:=Nat×Value) (fun q=>[(4,v1),(5,q.2),(6,.int .i64 (q.1:Int))]) (fun q w=>(∃M' xs,Lt M' w∧Step M w0 M' w aA∧Own (RT.pair RT.str (RT.int .i64)) 256 M' w w0.heap.size q.2 xs∧xs.length=q.1∧(RT.str.sl).V M' w (words l) v1)∧kx 0 (words l)=kx q.1 ((words l).drop q.1)∧q.1≤(words l).length∧q.1≤500) (fun q=>(words l).length-q.1) (0,.slice none 0 0) (.cons rfl (.cons rfl (.cons rfl .nil))) ?_ ?_
 ·exact⟨⟨M,[],hM,S,eo _ _ _ _ _,rfl,hv⟩,rfl,bH _,bH _⟩
 ·rintro⟨i,u⟩ w ⟨⟨M1,xs,hM,S,ho,uA,hv⟩,C8,hi,VB⟩;dsimp only at ho uA C8 hi VB ⊢;refine aj (aj (ah (ae rfl rfl (ae rfl rfl (bU bh rfl hv rfl (cf rfl rfl rfl (ad ?_)))))));refine bF rfl (fun c4=>?_) (fun c4=>?_)
  ·refine aU (aj (bj (aj (aj (ah (ae rfl rfl (ae rfl rfl ?_)))))));refine dq (M:=M1) bh I9 rfl rfl rfl hv (aq _ _) (by omega) (fun LP x Oh VD=>?_);refine cg (M:=M1) aD rfl rfl rfl rfl rfl VD (aq _ _) (fun vx qG=>?_);rw[aC]at Oh;obtain rfl:=fD qG;have ht:=Co (i:=i) Oh;refine Rg.k3 aD rfl rfl (bp (v':= .int .i64 (x.length:Int)) (by simp[ByteArray.size]) (mG rfl rfl rfl (ad ?_)));refine bF rfl (fun c6=>?_) (fun c6=>?_)
   ·refine aj (ah (ai rfl rfl (ai rfl rfl (ad (aH ?_)))));rw[C8,ht,if_pos (by omega)];exact ez rfl rfl rfl ⟨⟨_,rfl,fun h=>by cases h⟩,S.back⟩
   ·refine aU (aj (aj (ah (ae rfl rfl (dA rfl rfl rfl (ad ?_))))));refine bF rfl (fun c8=>?_) (fun c8=>?_)
    ·refine aj (ah (ai rfl rfl (ai rfl rfl (ad (aH ?_)))));rw[C8,ht,if_neg (by omega),if_pos (by omega)];exact ez rfl rfl rfl ⟨⟨_,rfl,fun h=>by cases h⟩,S.back⟩
    ·refine aU (ah (ae rfl rfl (ae rfl rfl (ae rfl rfl ?_))));refine dq (M:=M1) bh I9 rfl rfl rfl hv (aq _ _) (by omega) (fun PT y VG huy=>?_);refine cg (M:=M1) aD rfl rfl rfl rfl rfl huy (aq _ _) (fun vy Oi=>?_);rw[aC]at VG;obtain rfl:=fD Oi;obtain rfl:x=y:=by rw[Oh]at VG;exact bQ VG
     refine ae rfl rfl (dX (places:=[(0,1),(1,1)]) Tryz.underlying256 Dj Pj rfl ⟨_,_,rfl,rfl,_,_,rfl,rfl,rfl⟩ (out:=[_,_]) ⟨0,[_],rfl,rfl,by simp[Value.cells],1,[_],rfl,rfl,by simp[Value.cells],rfl⟩ ?_);refine eW (A:=(RT.pair RT.str (RT.int .i64))) (hn:=by decide) (M:=M1) Tryz.underlying222 Dj (by decide) rfl rfl hM (ei Oi (gv (x:=(i:Int)) (by omega)) rfl rfl rfl rfl) (.inl rfl) (fun J2 PV A4 mz=>?_);replace hv:=hv.le mz.le;replace qG:=qG.le mz.le;replace Oi:=Oi.le mz.le;replace ho:=ho.bg mz;replace hM:=mz.lt hM;have:=S.size;replace S:=S.ax mz;refine dh (M:=M1) (base:=w0.heap.size) Tryz.underlying222 Dj rfl rfl rfl rfl ho A4 (aq _ _) (by simp;omega) (by simp;omega) (S.size) (fun P0 P1 Cp LU fh=>?_);replace hv:=hv.le fh.le;replace qG:=qG.le fh.le;replace Oi:=Oi.le fh.le;replace A4:=A4.le fh.le;replace hM:=fh.lt hM;have:=S.size;replace S:=S.dC fh ho (a8 _);replace ho:=LU;refine ai rfl rfl (ad (ah (ae rfl rfl (bz rfl rfl rfl (by omega) (ai rfl rfl (ad ?_))))));refine⟨rfl,(i+1,P0),(.cons rfl (.cons rfl (.cons rfl .nil))),?_,?_⟩
     ·exact⟨⟨P1,_,hM,S,ho,by simp[uA],hv⟩,by rw[C8,ht,if_neg (by omega),if_neg (by omega)],by dsimp only;omega,by dsimp only;omega⟩
     ·dsimp only;omega
  ·refine cM (aj (ah (ae rfl rfl (ai rfl rfl (ai rfl rfl (ad (aH ?_)))))));have e:kx 0 (words l)=0:=by rw[C8,jA (by omega)];rfl
   rw[e];obtain⟨a,cap,he,_⟩:=ho.isSlice;exact ez rfl rfl rfl ⟨⟨u,rfl,fun _=>⟨a,cap,by rw[he,uA];congr 1;omega⟩⟩,S.back⟩
end Go.K
namespace Go.K
abbrev Fd:=List UInt8×List UInt8
abbrev Dc:=Int×List Fd
abbrev En:=Dc×Int
abbrev RT.fd:RT Fd:=RT.pair RT.str RT.str
abbrev RT.dc:RT Dc:=RT.pair (RT.int .i64) (RT.fd.sl)
abbrev RT.en:RT En:=RT.pair RT.dc (RT.int .i64)
theorem LV:Part RT.fd RT.str (fun p=>p.1) 0:=kJ _ _
theorem Te:Part RT.fd RT.str (fun p=>p.2) 1:=fO _ _
theorem P2:Part RT.dc (RT.int .i64) (fun p=>p.1) 0:=kJ _ _
theorem Dt:Part RT.dc (RT.fd.sl) (fun p=>p.2) 1:=fO _ _
theorem P3:Part RT.en RT.dc (fun p=>p.1) 0:=kJ _ _
theorem Tf:Part RT.en (RT.int .i64) (fun p=>p.2) 2:=fO _ _
theorem xC {M:az} {w:World} {p:Dc} {v:Value} (h:RT.dc.V M w p v):∃u,v= .agg #[.int .i64 p.1,u]:=by
 obtain⟨vs,⟨va,vb,rfl,⟨rfl,_⟩,hb⟩,rfl⟩:=h;have:=(RT.fd.sl (by decide)).len hb
 match vb,this with
 |[u],_=>exact⟨u,rfl⟩
theorem Cq {M:az} {w:World} {p:Dc} {u:Value} {s:Int} (h:RT.dc.V M w p (.agg #[.int .i64 p.1,u])) (hs: -9223372036854775808≤s∧s≤9223372036854775807):RT.en.V M w (p,s) (.agg [.int .i64 p.1,u,.int .i64 s].toArray):=by
 obtain⟨vs,h1,h2⟩:=h
 have h3:vs=[.int .i64 p.1,u]:=by
  have:Value.agg #[.int .i64 p.1,u]= .agg vs.toArray:=h2;injection this with this
  simpa using(congrArg Array.toList this).symm
 subst h3;exact⟨_,⟨[.int .i64 p.1,u],[.int .i64 s],rfl,h1,rfl,hs.1,hs.2⟩,rfl⟩
theorem Own.J3 {α:Type} (A:RT α) (e:TypeId) (base:Nat) {M:az} {w:World} (h:Lt M w):Own A e M w base (.slice none 0 0) []:=eo _ _ _ _ _
section
variable {P:Program} {r:Option Nat} {n:Nat} {L:Sl} {ds:List Deferred} {w:World} {K:Kt} {ops:Array Oper} {rest:List Oper} {d:Nat} {x:Operand} {ty:TypeId} {pos:String} {af:Array Edge}
theorem Rg.kM {α:Type} {A:RT α} {e:TypeId} {v:Value} {a:α} {M:az} (hx:ev L x=some v) (hd:Nat.blt d n=true) (hM:Lt M w) (hv:A.V M w a v) (hg:A.agg=true)
  (k:∀u w',ch A M w' u a→Step M w M w' aA→w.heap.size≤w'.heap.size→Rg P r n ops rest ((d,u)::L) ds w' K):
  Rg P r n ops ({dst:=some d,op:= .box e x,type:=ty,pos,after:=af,guard:=none}::rest) L ds w K:=by
 refine mH M hx hd (fun b w' h1 h2 hb s=>?_);obtain⟨vs,h3,h4⟩:=hv;have hc:v.cells=vs.toArray:=by subst h4;simp[RT.val,hg,Value.cells]
 rw[hc]at hb;refine k _ w' ⟨b,0,vs,rfl,fun hm=>?_,A.le s.back.le h3,fun j u hj=>?_⟩ s.back s.size
 ·have:=hM b hm;omega
 ·rw[Nat.zero_add];exact gS hb (by simpa using hj)
end
end Go.K
namespace Go.Proofs
open Go.Shelf
def Tryz.y7:Go.Shelf.Ren:=⟨fun|160=>193|232=>227|231=>226|227=>228|234=>230|233=>229|236=>232|235=>231|228=>257|271=>260|151=>259|197=>258|120=>280|152=>279|260=>278|137=>287|119=>277|224=>288|225=>289|217=>291|266=>292|n=>n,fun|9=>9|4=>4|3=>3|5=>5|117=>283|116=>282|0=>0|124=>286|21=>21|105=>317|46=>183|119=>338|139=>341|138=>340|n=>n,fun|3=>2|4=>3|n=>n⟩
theorem Tryz.Iy:Go.Proofs.Lays.n160 Tryz.prog Tryz.y7:={
 mixed:=by kernel_rfl
 f119:=Tryz.func277.trans (congrArg some (by kernel_rfl))
 f120:=Tryz.func280.trans (congrArg some (by kernel_rfl))
 f137:=Tryz.func287.trans (congrArg some (by kernel_rfl))
 f151:=Tryz.func259.trans (congrArg some (by kernel_rfl))
 f152:=Tryz.func279.trans (congrArg some (by kernel_rfl))
 f160:=Tryz.func193.trans (congrArg some (by kernel_rfl))
 f197:=Tryz.func258.trans (congrArg some (by kernel_rfl))
 f217:=Tryz.func291.trans (congrArg some (by kernel_rfl))
 f224:=Tryz.func288.trans (congrArg some (by kernel_rfl))
 f225:=Tryz.func289.trans (congrArg some (by kernel_rfl))
 f227:=Tryz.func228.trans (congrArg some (by kernel_rfl))
 f228:=Tryz.func257.trans (congrArg some (by kernel_rfl))
 f231:=Tryz.func226.trans (congrArg some (by kernel_rfl))
 f232:=Tryz.func227.trans (congrArg some (by kernel_rfl))
 f233:=Tryz.func229.trans (congrArg some (by kernel_rfl))
 f234:=Tryz.func230.trans (congrArg some (by kernel_rfl))
 f235:=Tryz.func231.trans (congrArg some (by kernel_rfl))
 f236:=Tryz.func232.trans (congrArg some (by kernel_rfl))
 f260:=Tryz.func278.trans (congrArg some (by kernel_rfl))
 f266:=Tryz.func292.trans (congrArg some (by kernel_rfl))
 f271:=Tryz.func260.trans (congrArg some (by kernel_rfl))
 t0:=gX
 a0:=sf
 z0:=oC
 v0:=iW
 t3:=ar
 a3:=sh
 z3:=oD
 v3:=iX
 t4:=jO
 a4:=Tryz.isAgg4
 z4:=Tryz.sizeOf4
 v4:=o8
 t5:=bZ
 a5:=Tryz.isAgg5
 z5:=Tryz.sizeOf5
 v5:=Tryz.zeroValue5
 t9:=aD
 a9:=si
 z9:=oE
 v9:=iY
 t21:=Tryz.underlying21
 a21:=Tryz.isAgg21
 z21:=Tryz.sizeOf21
 v21:=Tryz.zeroValue21
 t46:=oF
 a46:=Tryz.isAgg183
 z46:=Tryz.sizeOf183
 v46:=Tryz.zeroValue183
 t105:=Tryz.underlying317
 a105:=Tryz.isAgg317
 z105:=Tryz.sizeOf317
 v105:=Tryz.zeroValue317
 t116:=Tryz.underlying282
 a116:=Tryz.isAgg282
 z116:=Tryz.sizeOf282
 t117:=Tryz.underlying283
 a117:=Tryz.isAgg283
 z117:=Tryz.sizeOf283
 v117:=Tryz.zeroValue283
 t119:=Tryz.underlying338
 a119:=Tryz.isAgg338
 z119:=Tryz.sizeOf338
 t124:=Tryz.underlying286
 a124:=Tryz.isAgg286
 z124:=Tryz.sizeOf286
 v124:=Tryz.zeroValue286
 t138:=Tryz.underlying340
 a138:=Tryz.isAgg340
 z138:=Tryz.sizeOf340
 v138:=Tryz.zeroValue340
 t139:=Tryz.underlying341
 a139:=Tryz.isAgg341
 z139:=Tryz.sizeOf341
 v139:=Tryz.zeroValue341
 g3:=by kernel_rfl
 g4:=by kernel_rfl}
end Go.Proofs
namespace Go.K
open Go.Proofs
set_option maxRecDepth 10000
open Go.RowKit Go.Shelf
def jV:List UInt8:=[97,98,99,100,101,102,103,104,105,106,107,108,109,110,111,112,113,114,115,116,117,118,119,120,121,122]
def fN (b:UInt8):Bool:=decide (97≤b.toNat∧b.toNat≤122)
def eT (s:List UInt8):Bool:=decide (1≤s.length∧s.length≤12)&&s.all fN
theorem y8 (b:UInt8):jV.contains b=fN b:=by
 have key:∀n:Fin 256,jV.contains (UInt8.ofNat n)=fN (UInt8.ofNat n):=by decide
 have:=key ⟨b.toNat,UInt8.toNat_lt b⟩;simpa using this
theorem drop_nil {α:Type} (p:α→Bool):∀l:List α,l.dropWhile p=[]↔∀x∈l,p x=true
 |[]=>by simp
 |x::l=>by
  rw[List.dropWhile_cons];by_cases h:p x=true
  ·rw[if_pos h,drop_nil p l];simp[h]
  ·rw[if_neg h];simp[h]
theorem tA (s:List UInt8):Lib.trimS s jV=[]↔s.all fN=true:=by
 have e:(fun b=>jV.contains b)=fN:=funext y8;unfold Lib.trimS Lib.trimLeftS Lib.trimRightS;rw[e,drop_nil,dD];constructor
 ·intro h
  have h2:s.reverse.dropWhile fN=[]:=by
   cases hd:s.reverse.dropWhile fN with
   |nil=>rfl
   |cons x r=>
    have h3:=h x (by rw[hd];simp);have h4:=List.head?_dropWhile_not fN s.reverse;rw[hd]at h4;simp[h3]at h4
  intro x hx;exact(drop_nil _ _).1 h2 x (List.mem_reverse.2 hx)
 ·intro h x hx;rw[(drop_nil fN s.reverse).2 (fun y hy=>h y (List.mem_reverse.1 hy))]at hx
  cases hx
theorem Du (s:List UInt8) (hs:s.length≤140737488355328) (w:World):Spec Tryz.prog 193 #[.string ⟨s.toArray⟩,.string ⟨jV.toArray⟩] w (fun v w'=>v= .string ⟨(Lib.trimS s jV).toArray⟩∧∀M,Step M w M w' aA):=
 (Any.strings_Trim_ascii Tryz.Iy Tryz.zeroValue282 (by kernel_rfl) ⟨s.toArray⟩ ⟨jV.toArray⟩ w (by simp[ByteArray.size];omega) (by decide) (fun j b hj=>by
  have hm:b∈jV:=aN hj;have:=y8 b;rw[gO.2 hm]at this;have h2:97≤b.toNat∧b.toNat≤122:=by simpa[fN]using this.symm
  omega)).mono fun e w' ⟨h1,h2⟩=>⟨_,h1,rfl,fun M=> .tc h2 M⟩
theorem Dv (s:List UInt8) (hs:s.length≤140737488355328) (w0:World):
  Spec Tryz.prog 151 #[.string ⟨s.toArray⟩] w0 (fun v w=>v= .bool (eT s)∧∀M,Step M w0 M w aA):=by
 refine aW (args:=[_]) (fn:=Tryz.f151) Tryz.func151 rfl (n:=15) Tryz.ntmps151 (aj (ah (ai rfl rfl (ad (aj (ah (ae rfl rfl (Rg.OI (p:=s) (q:=[]) rfl rfl rfl (ae rfl rfl ?_)))))))));refine aI (g:=5) rfl (fun fM=>?_) (fun fM=>?_)
 ·refine al rfl rfl (ae rfl rfl (al rfl rfl (Rg.k3 aD rfl rfl (bp (v':= .int .i64 (s.length:Int)) (by simp[ByteArray.size]) (al rfl rfl (eM rfl rfl rfl (aQ rfl rfl rfl (ae rfl rfl ?_))))))));refine aI (g:=10) rfl (fun VH=>?_) (fun VH=>?_)
  ·refine al rfl rfl (ae rfl rfl (al rfl rfl ?_));refine aM rfl rfl UF (Du s hs _) (fun r w9 hc=>?_);obtain⟨rfl,s9⟩:=hc;refine al rfl rfl (Rg.B8 (p:=Lib.trimS s jV) (q:=[]) rfl rfl rfl (aQ rfl rfl rfl (ai rfl rfl (ad (aH ?_)))))
   first
   |exact aP rfl rfl ⟨by rw[eT,decide_eq_true (p:=1≤s.length∧s.length≤12) ⟨lN.2 fM,by omega⟩,dx];exact congrArg Value.bool (by rw[Bool.eq_iff_iff,decide_eq_true_eq];exact tA s),s9⟩
   |exact aP rfl rfl ⟨by rw[eT,decide_eq_false (p:=1≤s.length∧s.length≤12) (by omega),fS],fun M=>an _ _⟩
   |(have LW:s=[]:=Classical.not_not.1 fM
     subst LW;exact aP rfl rfl ⟨rfl,fun M=>an _ _⟩)
  ·refine ao rfl rfl rfl rfl (ao rfl rfl rfl rfl (ao rfl rfl rfl rfl (ay rfl rfl rfl (ai rfl rfl (ad (aH ?_))))))
   first
   |exact aP rfl rfl ⟨by rw[eT,decide_eq_true (p:=1≤s.length∧s.length≤12) ⟨lN.2 fM,by omega⟩,dx];exact congrArg Value.bool (by rw[Bool.eq_iff_iff,decide_eq_true_eq];exact tA s),s9⟩
   |exact aP rfl rfl ⟨by rw[eT,decide_eq_false (p:=1≤s.length∧s.length≤12) (by omega),fS],fun M=>an _ _⟩
   |(have LW:s=[]:=Classical.not_not.1 fM
     subst LW;exact aP rfl rfl ⟨rfl,fun M=>an _ _⟩)
 ·refine ao rfl rfl rfl rfl (ao rfl rfl rfl rfl (ao rfl rfl rfl rfl (ay rfl rfl rfl (ae rfl rfl (ao rfl rfl rfl rfl (ao rfl rfl rfl rfl (ao rfl rfl rfl rfl (ay rfl rfl rfl (ai rfl rfl (ad (aH ?_)))))))))))
  first
  |exact aP rfl rfl ⟨by rw[eT,decide_eq_true (p:=1≤s.length∧s.length≤12) ⟨lN.2 fM,by omega⟩,dx];exact congrArg Value.bool (by rw[Bool.eq_iff_iff,decide_eq_true_eq];exact tA s),s9⟩
  |exact aP rfl rfl ⟨by rw[eT,decide_eq_false (p:=1≤s.length∧s.length≤12) (by omega),fS],fun M=>an _ _⟩
  |(have LW:s=[]:=Classical.not_not.1 fM
    subst LW;exact aP rfl rfl ⟨rfl,fun M=>an _ _⟩)
theorem Fu {s:List UInt8} (h:∀(k:Nat) c,s[k]? =some c→fN c=true):s.all fN=true:=dD.2 fun c hc=>by
 obtain⟨k,hk⟩:=bN.1 hc;exact h k c hk
theorem pG {s:List UInt8} {i:Nat} (h:i<s.length):s[i]? =some (s.getD i 0):=by rw[bT,aL h];rfl
theorem k7 {M:az} {w:World} {p:Fd} {v:Value} (h:RT.fd.V M w p v):v= .agg #[.string ⟨p.1.toArray⟩,.string ⟨p.2.toArray⟩]:=by
 obtain⟨vs,⟨va,vb,rfl,⟨rfl,_⟩,⟨rfl,_⟩⟩,rfl⟩:=h;rfl
theorem Fv {M:az} {w:World} {p:Fd} {v:Value} (h:RT.fd.V M w p v):p.1.length≤140737488355328∧p.2.length≤140737488355328:=by
 obtain⟨vs,⟨va,vb,rfl,⟨rfl,h1⟩,⟨rfl,h2⟩⟩,_⟩:=h;exact⟨h1,h2⟩
def tB:List Fd→List Fd→Nat→Int
 |_,[],n=>if 500<n then 7 else 0
 |seen,f::fs,n=>if eT f.1=false then 4 else if(seen.any fun g=>decide (g.1=f.1))=true then 5 else if kx 0 (words f.2)≠0 then kx 0 (words f.2)else tB (seen++[f]) fs (n+(words f.2).length)
def kN (d:Dc):Int:=if 8<d.2.length then 7 else tB [] d.2 0
theorem Cr {fs:List Fd} {i n:Nat} {x:Fd} (h:fs[i]? =some x):tB (fs.take i) (fs.drop i) n=if eT x.1=false then 4 else if((fs.take i).any fun g=>decide (g.1=x.1))=true then 5 else if kx 0 (words x.2)≠0 then kx 0 (words x.2)else tB (fs.take (i+1)) (fs.drop (i+1)) (n+(words x.2).length):=by
 have dy:=(au.1 h).1;rw[de dy,(au.1 h).2,cr,h];rfl
theorem pH {fs:List Fd} {i n:Nat} (h:fs.length≤i):tB (fs.take i) (fs.drop i) n=if 500<n then 7 else 0:=by
 rw[jA h];rfl
theorem tC (s:List UInt8) (hs:s.length≤140737488355328) (w0:World):
  Spec Tryz.prog 116 #[.string ⟨s.toArray⟩] w0 (fun v w=>v= .bool (eT s)∧w=w0):=by
 refine aW (args:=[_]) (fn:=Tryz.f116) Tryz.func116 rfl (n:=28) Tryz.ntmps116 (aj (ah (ai rfl rfl (ad (aj (aj (ah (ai rfl rfl (ad (bj ?_))))))))));refine dI (σ:=Nat) (fun i=>[(0,.string ⟨s.toArray⟩),(3,.int .i64 (i:Int))]) (fun i w=>w=w0∧i≤s.length∧∀k c,k<i→s[k]? =some c→fN c=true) (fun i=>s.length-i) 0 (.cons rfl (.cons rfl .nil)) ?_ ?_
 ·exact⟨rfl,bH _,fun k c h=>absurd h (jQ k)⟩
 ·rintro i w ⟨rfl,hi,eB⟩;refine aj (aj (ah (ae rfl rfl (ae rfl rfl (Rg.k3 aD rfl rfl (bp (v':= .int .i64 (s.length:Int)) (by simp[ByteArray.size]) (cf rfl rfl rfl (ad ?_))))))));refine bF rfl (fun c2=>?_) (fun c2=>?_)
  ·refine aU (aj (bj (aj (ah (ae rfl rfl (ae rfl rfl (Rg.Ci (c:=s.getD i 0) aD rfl rfl rfl (by omega) (by rw[aC];exact pG (by omega)) (cf rfl rfl rfl (ae rfl rfl ?_)))))))));refine aI (g:=14) rfl (fun VI=>?_) (fun VI=>?_)
   ·refine ao rfl rfl rfl rfl (ao rfl rfl rfl rfl (ao rfl rfl rfl rfl (ao rfl rfl rfl rfl (aQ rfl rfl rfl (ad (lO rfl (aj (ah (ai rfl rfl (ad (aH ?_)))))))))))
    have hx:s.all fN=false:=eF.2 fun h=>by
     have h2:=dD.1 h _ (aN (pG (s:=s) (i:=i) (by omega)));simp only[fN,decide_eq_true_eq]at h2;omega
    exact aP rfl rfl ⟨by rw[eT,hx,Bool.and_false],rfl⟩
   ·refine al rfl rfl (ae rfl rfl (al rfl rfl (ae rfl rfl (al rfl rfl (Rg.Ci (c:=s.getD i 0) aD rfl rfl rfl (by omega) (by rw[aC];exact pG (by omega)) (al rfl rfl (mG rfl rfl rfl (ay rfl rfl rfl (ad ?_)))))))));refine bF rfl (fun c4=>?_) (fun c4=>?_)
    ·refine aj (ah (ai rfl rfl (ad (aH ?_))))
     have hx:s.all fN=false:=eF.2 fun h=>by
      have h2:=dD.1 h _ (aN (pG (s:=s) (i:=i) (by omega)));simp only[fN,decide_eq_true_eq]at h2;omega
     exact aP rfl rfl ⟨by rw[eT,hx,Bool.and_false],rfl⟩
    ·refine aU (ah (ae rfl rfl (bz rfl rfl rfl (by omega) (ai rfl rfl (ad ?_)))));refine⟨rfl,i+1,(.cons rfl (.cons rfl .nil)),?_,?_⟩
     ·exact⟨rfl,by omega,fun k c h hc=>by
       rcases cB k i with h2|h2
       ·exact eB k c h2 hc
       ·obtain rfl:k=i:=by omega
        rw[pG (by omega)]at hc;cases hc;simp only[fN,decide_eq_true_eq];omega⟩
     ·omega
  ·refine cM (aj (ah (ae rfl rfl (Rg.k3 aD rfl rfl (bp (v':= .int .i64 (s.length:Int)) (by simp[ByteArray.size]) (dA rfl rfl rfl (ae rfl rfl ?_)))))));refine aI (g:=23) rfl (fun mL=>?_) (fun mL=>?_)
   ·refine al rfl rfl (ae rfl rfl (al rfl rfl (Rg.k3 aD rfl rfl (bp (v':= .int .i64 (s.length:Int)) (by simp[ByteArray.size]) (al rfl rfl (eM rfl rfl rfl (aQ rfl rfl rfl (ai rfl rfl (ad (aH ?_))))))))));have ha:s.all fN=true:=Fu fun k c hc=>eB k c (by have:=(au.1 hc).1;omega) hc
    first
    |exact aP rfl rfl ⟨by rw[eT,ha,iG];exact congrArg Value.bool (decide_eq_decide.2 (by omega)),rfl⟩
    |exact aP rfl rfl ⟨by rw[eT,ha,iG];exact congrArg Value.bool (decide_eq_false (by omega)).symm,rfl⟩
   ·refine ao rfl rfl rfl rfl (ao rfl rfl rfl rfl (ao rfl rfl rfl rfl (ay rfl rfl rfl (ai rfl rfl (ad (aH ?_))))));have ha:s.all fN=true:=Fu fun k c hc=>eB k c (by have:=(au.1 hc).1;omega) hc
    first
    |exact aP rfl rfl ⟨by rw[eT,ha,iG];exact congrArg Value.bool (decide_eq_decide.2 (by omega)),rfl⟩
    |exact aP rfl rfl ⟨by rw[eT,ha,iG];exact congrArg Value.bool (decide_eq_false (by omega)).symm,rfl⟩
theorem Dw {M:az} {o:Fd} {v0:Value} (w0:World) (hM:Lt M w0) (hv:RT.fd.V M w0 o v0) {nm:List UInt8} {t:Value} {bf:Nat} (g:w0.heap[bf]? =some (.cells #[.string ⟨nm.toArray⟩,t] 127 (0,0))) (n0:M bf):
  Spec Tryz.prog 153 #[v0,.pointer (some ⟨bf,0,none⟩)] w0 (fun v w=>v= .bool (decide (o.1=nm))∧Step M w0 M w aA):=by
 refine aW (args:=[_,_]) (fn:=Tryz.f153) Tryz.func153 rfl (n:=9) Tryz.ntmps153 ?_;have S:Step M w0 M w0 aA:=(an _ _).ca (fun _ h=>h.elim) (fun _ h=>h.elim);refine aj (ah ?_);refine Rg.kM (A:=RT.fd) rfl rfl hM hv rfl (fun u0 w1 cA s0 _=>?_);have:=ak g;replace n0:=(s0.mem _ this).2 n0;replace g:=s0.aG g;replace hM:=s0.lt hM;have:=S.size;replace S:=S.ax s0;refine ai rfl rfl (ad (aj (ah ?_)));refine aJ (M:=M) (A:=RT.fd) (B:=RT.str) bR rfl rfl I9 (by decide) (LV) rfl rfl (by decide) (by assumption) (by repeat (first|exact aq _ _|refine aT (a7 (by assumption)) ?_)) (fun uQ jN=>?_);refine cg (M:=M) aD rfl rfl rfl rfl rfl jN (aq _ _) (fun v1 gF=>?_);obtain rfl:=fD gF;refine aS (o':=0) bR rfl rfl I9 (by decide) rfl rfl (aE aD rfl rfl rfl (by assumption) rfl (Rg.B8 (p:=o.1) (q:=nm) rfl rfl rfl (ai rfl rfl (ad (aH ?_)))));exact aP rfl rfl ⟨rfl,S⟩
theorem A5 {M:az} {fs:List Fd} {v0:Value} (w0:World) (hM:Lt M w0) (hv:(RT.fd.sl).V M w0 fs v0) {nm:List UInt8} {t:Value} {bf:Nat} (g:w0.heap[bf]? =some (.cells #[.string ⟨nm.toArray⟩,t] 127 (0,0))) (n0:M bf):
  Spec Tryz.prog 194 #[v0,.func (.func 153) #[] #[.pointer (some ⟨bf,0,none⟩)]] w0 (fun v w=>(∃k:Int,v= .int .i64 k∧(0≤k↔(fs.any fun g=>decide (g.1=nm))=true)∧ -1≤k∧k≤9223372036854775807)∧Step M w0 M w aA):=by
 have yj:=ed hv;refine aW (args:=[_,_]) (fn:=Tryz.f194) Tryz.func194 rfl (n:=19) Tryz.ntmps194 ?_;have S:Step M w0 M w0 aA:=(an _ _).ca (fun _ h=>h.elim) (fun _ h=>h.elim);refine aj (ah (ai rfl rfl (ad (aj (aj (ah (ae rfl rfl (bU aV rfl hv rfl (ae rfl rfl (ad (bj ?_)))))))))));refine dI (σ:=Nat) (fun i=>[(0,v0),(1,.func (.func 153) #[] #[.pointer (some ⟨bf,0,none⟩)]),(6,v0),(7,.int .i64 (fs.length:Int)),(8,.int .i64 (i:Int))]) (fun i w=>Lt M w∧Step M w0 M w aA∧(w.heap[bf]? =some (.cells #[.string ⟨nm.toArray⟩,t] 127 (0,0)))∧(RT.fd.sl).V M w fs v0∧i≤fs.length∧∀k o,k<i→fs[k]? =some o→o.1≠nm) (fun i=>fs.length-i) 0 (.cons rfl (.cons rfl (.cons rfl (.cons rfl (.cons rfl .nil))))) ?_ ?_
 ·exact⟨hM,S,g,hv,bH _,fun k c h=>absurd h (jQ k)⟩
 ·rintro i w ⟨hM,S,g,hv,hi,eB⟩;refine aj (ah (cf rfl rfl rfl (ad (aj ?_))));refine bF rfl (fun c2=>?_) (fun c2=>?_)
  ·refine aU (aj (bj (aj (ah (ae rfl rfl (ai rfl rfl (ad (aj (ah (ae rfl rfl (ae rfl rfl ?_)))))))))));refine ae rfl rfl ?_;refine dq (M:=M) aV iB rfl rfl rfl hv (aq _ _) (by omega) (fun u4 o AU AA=>?_);refine cw (M:=M) (A:=RT.fd) bR rfl iB (by decide) rfl rfl rfl AA (aq _ _) (fun v4 qH=>?_);rw[aC]at AU;refine Rg.mV (first:=[]) (captured:=[.pointer (some ⟨bf,0,none⟩)]) rfl rfl rfl Uv (Dw _ hM qH g n0) (fun r5 w5 hc=>?_);obtain⟨rfl,s5⟩:=hc;have:=ak g;replace n0:=(s5.mem _ this).2 n0;replace g:=s5.aG g;replace hv:=hv.le s5.le;replace hM:=s5.lt hM;have:=S.size;replace S:=S.ax s5;refine ad ?_;refine bF rfl (fun c4=>?_) (fun c4=>?_)
   ·refine aj (ah (ae rfl rfl (ai rfl rfl (ad (aH ?_)))));exact aP rfl rfl ⟨⟨_,rfl,⟨fun _=>qj.2 ⟨o,aN AU,by simpa using(by assumption)⟩,fun _=>by omega⟩,by omega,by omega⟩,S.back⟩
   ·refine aU (ah (bz rfl rfl rfl (by omega) (ae rfl rfl (ad ?_))));refine⟨rfl,i+1,(.cons rfl (.cons rfl (.cons rfl (.cons rfl (.cons rfl .nil))))),?_,?_⟩
    ·exact⟨hM,S,g,hv,by omega,fun k o' h hc=>by
      rcases cB k i with h2|h2
      ·exact eB k o' h2 hc
      ·obtain rfl:k=i:=by omega
       rw[AU]at hc;cases hc;assumption⟩
    ·omega
  ·refine cM (aj (ah (ai rfl rfl (ad (aH ?_)))))
   exact aP rfl rfl ⟨⟨-1,rfl,⟨fun h=>by omega,fun h=>by
    obtain⟨o,ho,he⟩:=qj.1 h;obtain⟨k,hk⟩:=bN.1 ho;exact absurd (by simpa using he) (eB k o (by have:=(au.1 hk).1;omega) hk)⟩,by omega,by omega⟩,S.back⟩
theorem y9 {M:az} {fs:List Fd} {v0:Value} (w0:World) (hM:Lt M w0) (hv:(RT.fd.sl).V M w0 fs v0) {nm:List UInt8} {t:Value} {bf:Nat} (g:w0.heap[bf]? =some (.cells #[.string ⟨nm.toArray⟩,t] 127 (0,0))) (n0:M bf):
  Spec Tryz.prog 152 #[v0,.func (.func 153) #[] #[.pointer (some ⟨bf,0,none⟩)]] w0 (fun v w=>v= .bool (fs.any fun g=>decide (g.1=nm))∧Step M w0 M w aA):=by
 refine aW (args:=[_,_]) (fn:=Tryz.f152) Tryz.func152 rfl (n:=9) Tryz.ntmps152 ?_;have S:Step M w0 M w0 aA:=(an _ _).ca (fun _ h=>h.elim) (fun _ h=>h.elim);refine aj (ah (ai rfl rfl (ad (aj (ah (ae rfl rfl (ae rfl rfl ?_)))))));refine aM rfl rfl UG (A5 _ hM hv g n0) (fun r1 w1 hc=>?_);obtain⟨⟨k,rfl,hk,_⟩,s1⟩:=hc;have:=ak g;replace n0:=(s1.mem _ this).2 n0;replace g:=s1.aG g;replace hv:=hv.le s1.le;replace hM:=s1.lt hM;have:=S.size;replace S:=S.ax s1;refine dA rfl rfl rfl (ai rfl rfl (ad (aH ?_)));exact aP rfl rfl ⟨congrArg Value.bool (by rw[Bool.eq_iff_iff,decide_eq_true_eq];exact hk),S⟩
theorem Fw {M:az} {d:Dc} {v0:Value} (w0:World) (hM:Lt M w0) (hv:RT.dc.V M w0 d v0) (hl:∀f∈d.2,f.1.length≤900000∧f.2.length≤900000):
  Spec Tryz.prog 107 #[v0] w0 (fun v w=>v= .int .i64 (kN d)∧Step M w0 M w aA):=by
 have ku:=hM;refine aW (args:=[_]) (fn:=Tryz.f107) Tryz.func107 rfl (n:=49) Tryz.ntmps107 ?_;have S:Step M w0 M w0 aA:=(an _ _).ca (fun _ h=>h.elim) (fun _ h=>h.elim);refine aj (ah ?_);refine Rg.kM (A:=RT.dc) rfl rfl hM hv rfl (fun u0 w1 cA s0 _=>?_);replace hM:=s0.lt hM;have:=S.size;replace S:=S.ax s0;refine ai rfl rfl (ad (aj (aj (ah ?_))));refine aJ (M:=M) (A:=RT.dc) (B:=(RT.fd).sl) aO rfl rfl qC (by decide) (Dt) rfl rfl (by decide) (by assumption) (by repeat (first|exact aq _ _|refine aT (a7 (by assumption)) ?_)) (fun uQ jN=>?_);refine cg (M:=M) aV rfl rfl rfl rfl rfl (by assumption) (by repeat (first|exact aq _ _|refine aT (a7 (by assumption)) ?_)) (fun uR kT=>?_);refine bU aV rfl kT rfl (mG rfl rfl rfl (ad ?_));refine bF rfl (fun c1=>?_) (fun c1=>?_)
 ·refine aj (ah (ai rfl rfl (ad (aH ?_))));exact aP rfl rfl ⟨by rw[kN,if_pos (by omega)],S.back⟩
 ·refine aU (aj (ah (ai rfl rfl (ad (aj (aj (ah ?_)))))));refine aJ (M:=M) (A:=RT.dc) (B:=(RT.fd).sl) aO rfl rfl qC (by decide) (Dt) rfl rfl (by decide) (by assumption) (by repeat (first|exact aq _ _|refine aT (a7 (by assumption)) ?_)) (fun LX Cs=>?_);refine cg (M:=M) aV rfl rfl rfl rfl rfl (by assumption) (by repeat (first|exact aq _ _|refine aT (a7 (by assumption)) ?_)) (fun LY Fx=>?_);refine bU aV rfl Fx rfl (ae rfl rfl (ad (bj ?_)));refine dI (σ:=Nat×Nat) (fun q=>[(1,u0),(3,.int .i64 (q.2:Int)),(13,LY),(14,.int .i64 (d.2.length:Int)),(15,.int .i64 (q.1:Int))]) (fun q w=>∃M',Lt M' w∧Step M w0 M' w aA∧ch RT.dc M' w u0 d∧(RT.fd.sl).V M' w d.2 LY∧kN d=tB (d.2.take q.1) (d.2.drop q.1) q.2∧q.1≤d.2.length∧q.2≤900001*q.1) (fun q=>d.2.length-q.1) (0,0) (.cons rfl (.cons rfl (.cons rfl (.cons rfl (.cons rfl .nil))))) ?_ ?_
  ·exact⟨M,hM,S,cA,Fx,by rw[kN,if_neg (by omega)];rfl,bH _,a8 _⟩
  ·rintro⟨i,n⟩ w ⟨M1,hM,S,cA,mu,A6,hi,hn⟩;dsimp only at A6 hi hn ⊢;refine aj (ah (cf rfl rfl rfl (ad (aj ?_))));refine bF rfl (fun c5=>?_) (fun c5=>?_)
   ·refine aU (aj (bj (aj (ah (ae rfl rfl ?_)))));refine dq (M:=M1) aV iB rfl rfl rfl mu (aq _ _) (by omega) (fun u6 x Eh LO=>?_);refine cw (M:=M1) (A:=RT.fd) bR rfl iB (by decide) rfl rfl rfl LO (aq _ _) (fun v6 ov=>?_);rw[aC]at Eh;obtain rfl:=k7 ov;have il:=Cr (n:=n) Eh;have uA:=hl _ (aN Eh);refine ff M1 iB rfl (fun LZ VJ ade adf mL Fy=>?_);obtain⟨za,Fz⟩:∃M',M'=ins M1 LZ:=⟨_,rfl⟩;rw[←Fz]at Fy;have ky:za LZ:=by rw[Fz];exact .inl rfl
    change VJ.heap[LZ]? =some (.cells #[.string ⟨#[]⟩,.string ⟨#[]⟩] _ _)at mL;replace cA:=cA.le (by decide) Fy.le;replace mu:=mu.le Fy.le;replace hM:=Fy.lt hM;have:=S.size;replace S:=S.ax Fy;refine ai rfl rfl ?_;refine fj (M:=za) (vs:=[.string ⟨x.1.toArray⟩,.string ⟨x.2.toArray⟩]) iB rfl rfl (by intro u hu;simp at hu;rcases hu with rfl|rfl<;>rfl) rfl rfl mL ky (fun w6 g6 s6=>?_);have:=ak mL;replace ky:=(s6.mem _ this).2 ky;replace cA:=cA.le (by decide) s6.le;replace mu:=mu.le s6.le;replace hM:=s6.lt hM;have:=S.size;replace S:=S.trans s6 (fun k hk h=>by have h:_=_:=h;subst h;first|(exfalso;omega)|(show _≤_;omega)|exact⟨by first|omega|assumption,(S.mem _ hk).1 ((s6.mem _ (ak mL)).1 ky)⟩|exact .inl rfl|exact .inr rfl|exact .inr (.inl rfl)|exact .inr (.inr rfl)|exact rfl);have J4:=g6;clear mL;have mL:=J4;clear J4;refine ad (aj (ah (aS (o':=1) bR rfl rfl I9 (by decide) rfl rfl (aE aD rfl rfl rfl (by assumption) rfl ?_))));refine aM rfl rfl Us (Dr _ hM uA.2) (fun r7 w7 hc=>?_);obtain⟨⟨u7,rfl,hu7⟩,s7⟩:=hc;have:=ak mL;replace ky:=(s7.mem _ this).2 ky;replace mL:=s7.aG mL;replace cA:=cA.le (by decide) s7.le;replace mu:=mu.le s7.le;replace hM:=s7.lt hM;have:=S.size;replace S:=S.ax s7;refine ae rfl rfl (bO rfl rfl rfl (bO rfl rfl rfl (ai rfl rfl (ai rfl rfl (ad (aj (bj (aj (ah (aS (o':=0) bR rfl rfl I9 (by decide) rfl rfl (aE aD rfl rfl rfl (by assumption) rfl ?_)))))))))));refine aM rfl rfl Ut (Dv x.1 (by omega) _) (fun r8 w8 hc=>?_);obtain⟨rfl,s8_⟩:=hc;have s8:=s8_ za;have:=ak mL;replace ky:=(s8.mem _ this).2 ky;replace mL:=s8.aG mL;replace cA:=cA.le (by decide) s8.le;replace mu:=mu.le s8.le;replace hM:=s8.lt hM;have:=S.size;replace S:=S.ax s8
    refine Rg.not rfl rfl (bp (v':= .bool (decide (eT x.1=false))) (by cases eT x.1<;>rfl) (ai rfl rfl (ad ?_)));refine bF rfl (fun c8=>?_) (fun c8=>?_)
    ·refine aj (ah (ai rfl rfl (ad (aH ?_))));exact aP rfl rfl ⟨by rw[A6,il,if_pos (by assumption)],S.back⟩
    ·refine aj (ah ?_);refine aJ (M:=za) (A:=RT.dc) (B:=(RT.fd).sl) aO rfl rfl qC (by decide) (Dt) rfl rfl (by decide) (by assumption) (by repeat (first|exact aq _ _|refine aT (a7 (by assumption)) ?_)) (fun P4 L0=>?_);refine cg (M:=za) aV rfl rfl rfl rfl rfl (by assumption) (by repeat (first|exact aq _ _|refine aT (a7 (by assumption)) ?_)) (fun P5 FA=>?_);refine ae rfl rfl ?_;refine Rg.B9 aV iB rfl rfl rfl FA (by omega) (fun Tg P7=>?_);rw[aC]at P7;refine iD (xs:=[]) (ys:=[.tmp 5]) rfl rfl rfl ?_;refine aM rfl rfl Uu (y9 _ hM P7 mL ky) (fun r10 VK hc=>?_);obtain⟨rfl,qi⟩:=hc;have:=ak mL;replace ky:=(qi.mem _ this).2 ky;replace mL:=qi.aG mL;replace cA:=cA.le (by decide) qi.le;replace mu:=mu.le qi.le;replace hM:=qi.lt hM;have:=S.size;replace S:=S.ax qi;refine ai rfl rfl (bp (v':= .bool (decide (((d.2.take i).any fun g=>decide (g.1=x.1))=true))) (by cases((d.2.take i).any fun g=>decide (g.1=x.1))<;>rfl) (ad ?_));refine bF rfl (fun Vf=>?_) (fun Vf=>?_)
     ·refine aj (ah (ai rfl rfl (ad (aH ?_))));exact aP rfl rfl ⟨by rw[A6,il,if_neg (by assumption),if_pos (by assumption)],S.back⟩
     ·refine aj (ah (ae rfl rfl (eN rfl rfl rfl (ai rfl rfl (ad ?_)))));refine bF rfl (fun PJ=>?_) (fun PJ=>?_)
      ·refine aj (ah (ae rfl rfl (ai rfl rfl (ad (aH ?_)))));exact aP rfl rfl ⟨by rw[A6,il,if_neg (by assumption),if_neg (by assumption),if_pos (by assumption)];rfl,S.back⟩
      ·refine aU (ah (ae rfl rfl ?_));have P8:kx 0 (words x.2)=0:=Classical.not_not.1 PJ;obtain⟨a,cap,rfl⟩:=hu7 P8;have Z3:=nR x.2;refine ae rfl rfl (Rg.xl Tryz.underlying222 rfl rfl (bz rfl rfl rfl (by omega) (ai rfl rfl (ad (ah (bz rfl rfl rfl (by omega) (ae rfl rfl (ad ?_))))))));refine⟨rfl,(i+1,n+(words x.2).length),(.cons rfl (.cons rfl (.cons rfl (.cons rfl (.cons rfl .nil))))),?_,?_⟩
       ·exact⟨_,hM,S,cA,mu,by rw[A6,il,if_neg (by assumption),if_neg (by assumption),if_neg PJ],by dsimp only;omega,by dsimp only;omega⟩
       ·dsimp only;omega
   ·refine cM (aj (aj (ah (ae rfl rfl (mG rfl rfl rfl (ad ?_))))));refine bF rfl (fun Oj=>?_) (fun Oj=>?_)
    ·refine aj (ah (ai rfl rfl (ad (aH ?_))));exact aP rfl rfl ⟨by rw[A6,pH (by omega),if_pos (by omega)],S.back⟩
    ·refine aU (aj (ah (ai rfl rfl (ad (aH ?_)))));exact aP rfl rfl ⟨by rw[A6,pH (by omega),if_neg (by omega)],S.back⟩
end Go.K

/- What the law 'EraseLives' needs of walks and plain Lean, part 2: nothing is assumed beyond the texts that it imports. -/
import Derived.ChangeKeysEq
import Derived.Ground.Names2Prog
import Derived.KernelRfl
import Derived.Laws.IdiomCopy
import Derived.Laws.MakeOwn
import Derived.Laws.StructEq
import Derived.Lib.RuneBytes
import Derived.Lib.SliceRun
import Derived.Maps.OwnSet
import Derived.Shelf.SlGeneric
import Derived.Shelf.Slices.SearchI
import Derived.Shelf.Small.Strs
import Derived.Shelf.Small.Utf8
import Derived.Shelf.Strings.Builder1
import Derived.Shelf.Strings.BuilderRune
import Derived.Shelf.Strings.SlTrimAscii
import Derived.Test.YtohfoenhmkfjkaaGreatDoorProg
import Derived.Test.YtohfoenhmkfjkaaGreatDoorZEraseLives1
set_option linter.unusedVariables false
set_option linter.unusedSimpArgs false
theorem ad:type_of% @Go.K.Rg.nil:=@Go.K.Rg.nil
theorem ae:type_of% @Go.K.Rg.move:=@Go.K.Rg.move
theorem ah:type_of% @Go.K.T.region:=@Go.K.T.region
theorem ai:type_of% @Go.K.Rg.assign:=@Go.K.Rg.assign
theorem aj:type_of% @Go.K.T.seq:=@Go.K.T.seq
theorem al:type_of% @Go.K.Rg.aE:=@Go.K.Rg.aE
theorem an:type_of% @Go.K.Step.refl:=@Go.K.Step.refl
theorem ao:type_of% @Go.K.Le.refl:=@Go.K.Le.refl
theorem aq:type_of% @Go.K.Rg.bA:=@Go.K.Rg.bA
theorem ar:type_of% @Go.Proofs.Tryz.underlying3:=@Go.Proofs.Tryz.underlying3
theorem au:type_of% @Go.Proofs.Tryz.underlying32:=@Go.Proofs.Tryz.underlying32
theorem av:type_of% @List.getElem?_eq_some_iff:=@List.getElem?_eq_some_iff
theorem aw:type_of% @Int.toNat_natCast:=@Int.toNat_natCast
theorem az:type_of% @Go.K.Rg.bm:=@Go.K.Rg.bm
theorem aC:type_of% @Go.Proofs.Tryz.underlying9:=@Go.Proofs.Tryz.underlying9
theorem aD:type_of% @List.getElem?_eq_getElem:=@List.getElem?_eq_getElem
theorem aF:type_of% @Go.K.Rg.fieldAddr:=@Go.K.Rg.fieldAddr
theorem aG:type_of% @Go.K.bI.cons:=@Go.K.bI.cons
theorem aH:type_of% @Go.K.Rg.bC:=@Go.K.Rg.bC
theorem aI:type_of% @List.mem_of_getElem?:=@List.mem_of_getElem?
theorem aJ:type_of% @Go.K.Rg.bg:=@Go.K.Rg.bg
theorem aK:type_of% @Go.Proofs.Tryz.underlying41:=@Go.Proofs.Tryz.underlying41
theorem aL:type_of% @Go.K.T.ret:=@Go.K.T.ret
theorem aN:type_of% @Go.K.b9.cons:=@Go.K.b9.cons
theorem aP:type_of% @Go.Proofs.Tryz.underlying39:=@Go.Proofs.Tryz.underlying39
theorem aQ:type_of% @Go.K.Rg.call:=@Go.K.Rg.call
theorem aR:type_of% @Go.K.Rg.bO:=@Go.K.Rg.bO
theorem aS:type_of% @Go.K.T.skip:=@Go.K.T.skip
theorem aT:type_of% @Go.K.Le.trans:=@Go.K.Le.trans
theorem aU:type_of% @Go.K.Rg.nilCheck:=@Go.K.Rg.nilCheck
theorem aV:type_of% @Go.K.Rg.bK:=@Go.K.Rg.bK
theorem aW:type_of% @List.take_of_length_le:=@List.take_of_length_le
theorem aX:type_of% @Go.Proofs.Tryz.underlying107:=@Go.Proofs.Tryz.underlying107
theorem aY:type_of% @Go.K.T.block:=@Go.K.T.block
theorem a7:type_of% @Nat.le_refl:=@Nat.le_refl
theorem a8:type_of% @Go.Proofs.Tryz.underlying55:=@Go.Proofs.Tryz.underlying55
theorem bj:type_of% @Go.K.Step.le:=@Go.K.Step.le
theorem bp:type_of% @Option.some.inj:=@Option.some.inj
theorem br:type_of% @Go.Proofs.Tryz.underlying147:=@Go.Proofs.Tryz.underlying147
theorem bu:type_of% @Go.K.Rg.cM:=@Go.K.Rg.cM
theorem bz:type_of% @Go.K.Rg.eqv:=@Go.K.Rg.eqv
theorem bB:type_of% @Nat.zero_le:=@Nat.zero_le
theorem bD:type_of% @Bool.and_eq_true:=@Bool.and_eq_true
theorem bE:type_of% @Go.Proofs.Tryz.underlying216:=@Go.Proofs.Tryz.underlying216
theorem bF:type_of% @List.mem_iff_getElem?:=@List.mem_iff_getElem?
theorem bG:type_of% @List.length_take:=@List.length_take
theorem bH:type_of% @Go.K.T.dD:=@Go.K.T.dD
theorem bL:type_of% @Go.Proofs.Tryz.underlying153:=@Go.Proofs.Tryz.underlying153
theorem bM:type_of% @Go.K.Rg.cN:=@Go.K.Rg.cN
theorem bN:type_of% @List.take_add_one:=@List.take_add_one
theorem bP:type_of% @List.length_append:=@List.length_append
theorem bQ:type_of% @Go.Proofs.Tryz.underlying127:=@Go.Proofs.Tryz.underlying127
theorem bR:type_of% @Go.Proofs.Tryz.underlying47:=@Go.Proofs.Tryz.underlying47
theorem bS:type_of% @Go.K.Rg.cF:=@Go.K.Rg.cF
theorem bT:type_of% @List.getD_eq_getElem?_getD:=@List.getD_eq_getElem?_getD
theorem bU:type_of% @Go.K.Rg.extract:=@Go.K.Rg.extract
theorem bV:type_of% @Go.K.Rg.cB:=@Go.K.Rg.cB
theorem bW:type_of% @List.mem_cons_self:=@List.mem_cons_self
theorem bY:type_of% @Go.K.Rg.load:=@Go.K.Rg.load
theorem bZ:type_of% @List.mem_map:=@List.mem_map
theorem b4:type_of% @Go.K.Rg.fF:=@Go.K.Rg.fF
theorem b5:type_of% @Go.K.Rg.cE:=@Go.K.Rg.cE
theorem cc:type_of% @Go.K.Step.aM:=@Go.K.Step.aM
theorem cf:type_of% @Go.Proofs.Tryz.underlying5:=@Go.Proofs.Tryz.underlying5
theorem ch:type_of% @List.length_map:=@List.length_map
theorem cj:type_of% @Go.K.Rg.dL:=@Go.K.Rg.dL
theorem ck:type_of% @Option.toList_some:=@Option.toList_some
theorem cn:type_of% @Go.Proofs.Tryz.underlying43:=@Go.Proofs.Tryz.underlying43
theorem cq:type_of% @List.mem_cons_of_mem:=@List.mem_cons_of_mem
theorem cw:type_of% @List.mem_singleton:=@List.mem_singleton
theorem cy:type_of% @List.getElem?_map:=@List.getElem?_map
theorem cA:type_of% @List.length_cons:=@List.length_cons
theorem cG:type_of% @Go.K.T.exit:=@Go.K.T.exit
theorem cH:type_of% @Go.Proofs.Tryz.underlying58:=@Go.Proofs.Tryz.underlying58
theorem cK:type_of% @Go.K.Rg.idx:=@Go.K.Rg.idx
theorem cO:type_of% @Go.Proofs.Tryz.underlying129:=@Go.Proofs.Tryz.underlying129
theorem cP:type_of% @Go.Proofs.Tryz.underlying159:=@Go.Proofs.Tryz.underlying159
theorem cR:type_of% @Go.K.Rg.append:=@Go.K.Rg.append
theorem cT:type_of% @Array.getElem?_setIfInBounds:=@Array.getElem?_setIfInBounds
theorem cU:type_of% @Nat.lt_or_ge:=@Nat.lt_or_ge
theorem cW:type_of% @List.length_drop:=@List.length_drop
theorem cY:type_of% @List.mem_append:=@List.mem_append
theorem cZ:type_of% @Bool.true_and:=@Bool.true_and
theorem db:type_of% @Go.Sem.run_bind:=@Go.Sem.run_bind
theorem dp:type_of% @Go.Proofs.Tryz.underlying37:=@Go.Proofs.Tryz.underlying37
theorem dq:type_of% @Go.Proofs.Tryz.underlying169:=@Go.Proofs.Tryz.underlying169
theorem dr:type_of% @Go.K.T.loop:=@Go.K.T.loop
theorem du:type_of% @List.mem_cons:=@List.mem_cons
theorem dv:type_of% @List.pairwise_map:=@List.pairwise_map
theorem dw:type_of% @Go.Result.andThen_ok:=@Go.Result.andThen_ok
theorem dx:type_of% @Go.Proofs.Tryz.underlying193:=@Go.Proofs.Tryz.underlying193
theorem dz:type_of% @Go.K.Rg.jz:=@Go.K.Rg.jz
theorem dB:type_of% @List.drop_eq_getElem_cons:=@List.drop_eq_getElem_cons
theorem dG:type_of% @List.getElem?_take:=@List.getElem?_take
theorem dJ:type_of% @List.getElem?_set:=@List.getElem?_set
theorem dK:type_of% @Go.K.Own.nil:=@Go.K.Own.nil
theorem dN:type_of% @Option.map_some:=@Option.map_some
theorem dO:type_of% @Go.Proofs.Tryz.underlying188:=@Go.Proofs.Tryz.underlying188
theorem dP:type_of% @Go.Proofs.Tryz.underlying191:=@Go.Proofs.Tryz.underlying191
theorem dQ:type_of% @Go.Proofs.Tryz.underlying161:=@Go.Proofs.Tryz.underlying161
theorem dU:type_of% @Go.K.Rg.build:=@Go.K.Rg.build
theorem dX:type_of% @Bool.eq_false_iff:=@Bool.eq_false_iff
theorem dY:type_of% @Decidable.not_not:=@Decidable.not_not
theorem eh:type_of% @Go.K.Rg.lP:=@Go.K.Rg.lP
theorem ep:type_of% @List.all_eq_true:=@List.all_eq_true
theorem eu:type_of% @List.drop_eq_nil_of_le:=@List.drop_eq_nil_of_le
theorem eH:type_of% @Bool.false_and:=@Bool.false_and
theorem eK:type_of% @Nat.le_trans:=@Nat.le_trans
theorem eL:type_of% @List.map_append:=@List.map_append
theorem eM:type_of% @Eq.symm:=@Eq.symm
theorem eV:type_of% @Go.K.Rg.na:=@Go.K.Rg.na
theorem eW:type_of% @Go.K.Rg.mM:=@Go.K.Rg.mM
theorem eX:type_of% @List.filter_cons_of_pos:=@List.filter_cons_of_pos
theorem eY:type_of% @List.filter_cons_of_neg:=@List.filter_cons_of_neg
theorem fa:type_of% @Go.K.kD.nil:=@Go.K.kD.nil
theorem fh:type_of% @Go.K.Rg.alloc:=@Go.K.Rg.alloc
theorem fj:type_of% @List.map_cons:=@List.map_cons
theorem fm:type_of% @List.take_succ_eq_append_getElem:=@List.take_succ_eq_append_getElem
theorem fo:type_of% @Go.K.Rg.ed:=@Go.K.Rg.ed
theorem fu:type_of% @List.mem_map_of_mem:=@List.mem_map_of_mem
theorem fE:type_of% @Go.Proofs.Tryz.underlying51:=@Go.Proofs.Tryz.underlying51
theorem fI:type_of% @List.getElem?_eq_none:=@List.getElem?_eq_none
theorem fJ:type_of% @List.getElem?_toArray:=@List.getElem?_toArray
theorem fN:type_of% @List.pairwise_cons:=@List.pairwise_cons
theorem fU:type_of% @Go.K.Part.snd:=@Go.K.Part.snd
theorem fZ:type_of% @Go.Proofs.Tryz.underlying167:=@Go.Proofs.Tryz.underlying167
theorem gm:type_of% @List.length_eq_zero_iff:=@List.length_eq_zero_iff
theorem gq:type_of% @List.mem_zipIdx_iff_getElem?:=@List.mem_zipIdx_iff_getElem?
theorem gw:type_of% @Go.K.cd.load:=@Go.K.cd.load
theorem gG:type_of% @Go.K.T.iff:=@Go.K.T.iff
theorem gN:type_of% @Go.K.Rg.jZ:=@Go.K.Rg.jZ
theorem gO:type_of% @Go.K.Rg.gy:=@Go.K.Rg.gy
theorem gP:type_of% @List.contains_iff_mem:=@List.contains_iff_mem
theorem gV:type_of% @Go.Proofs.Tryz.underlying0:=@Go.Proofs.Tryz.underlying0
theorem gX:type_of% @Go.Proofs.Tryz.underlying4:=@Go.Proofs.Tryz.underlying4
theorem ic:type_of% @List.length_nil:=@List.length_nil
theorem iq:type_of% @Go.IntWalk.i64_in:=@Go.IntWalk.i64_in
theorem ir:type_of% @Nat.lt_trichotomy:=@Nat.lt_trichotomy
theorem iw:type_of% @Go.K.Rg.makeFunc:=@Go.K.Rg.makeFunc
theorem ix:type_of% @Go.K.Rg.fP:=@Go.K.Rg.fP
theorem iy:type_of% @Nat.lt_irrefl:=@Nat.lt_irrefl
theorem iz:type_of% @Bool.and_true:=@Bool.and_true
theorem iM:type_of% @Go.K.gr.all:=@Go.K.gr.all
theorem iN:type_of% @Go.Proofs.Tryz.underlying98:=@Go.Proofs.Tryz.underlying98
theorem iO:type_of% @List.takeWhile_cons:=@List.takeWhile_cons
theorem iP:type_of% @Go.Proofs.Tryz.underlying75:=@Go.Proofs.Tryz.underlying75
theorem iQ:type_of% @Go.Proofs.Tryz.underlying49:=@Go.Proofs.Tryz.underlying49
theorem iR:type_of% @Go.Proofs.Tryz.underlying68:=@Go.Proofs.Tryz.underlying68
theorem iT:type_of% @List.cons_append:=@List.cons_append
theorem iU:type_of% @Go.Proofs.Tryz.zeroValue0:=@Go.Proofs.Tryz.zeroValue0
theorem iV:type_of% @Go.Proofs.Tryz.zeroValue3:=@Go.Proofs.Tryz.zeroValue3
theorem iW:type_of% @Go.Proofs.Tryz.zeroValue9:=@Go.Proofs.Tryz.zeroValue9
theorem jw:type_of% @List.drop_of_length_le:=@List.drop_of_length_le
theorem jx:type_of% @Nat.eq_or_lt_of_le:=@Nat.eq_or_lt_of_le
theorem jy:type_of% @Go.K.cd.move:=@Go.K.cd.move
theorem jJ:type_of% @List.nil_append:=@List.nil_append
theorem jK:type_of% @Nat.not_lt_zero:=@Nat.not_lt_zero
theorem jV:type_of% @Go.Proofs.Tryz.underlying227:=@Go.Proofs.Tryz.underlying227
theorem jW:type_of% @Go.Proofs.Tryz.underlying165:=@Go.Proofs.Tryz.underlying165
theorem jX:type_of% @Go.Proofs.Tryz.underlying195:=@Go.Proofs.Tryz.underlying195
theorem kC:type_of% @List.ext_getElem?:=@List.ext_getElem?
theorem kF:type_of% @Go.K.Part.fst:=@Go.K.Part.fst
theorem kG:type_of% @Go.K.eB.refl:=@Go.K.eB.refl
theorem kV:type_of% @Nat.pow_le_pow_right:=@Nat.pow_le_pow_right
theorem kW:type_of% @List.mem_append_left:=@List.mem_append_left
theorem lp:type_of% @Nat.mod_eq_of_lt:=@Nat.mod_eq_of_lt
theorem lR:type_of% @List.take_succ_cons:=@List.take_succ_cons
theorem lS:type_of% @List.length_pos_iff:=@List.length_pos_iff
theorem lT:type_of% @Go.K.T.pZ:=@Go.K.T.pZ
theorem mz:type_of% @Go.K.Rg.iZ:=@Go.K.Rg.iZ
theorem mA:type_of% @Go.K.cd.field:=@Go.K.cd.field
theorem mL:type_of% @Go.K.Rg.uH:=@Go.K.Rg.uH
theorem mY:type_of% @List.mem_filter:=@List.mem_filter
theorem nf:type_of% @Nat.lt_of_lt_of_le:=@Nat.lt_of_lt_of_le
theorem ng:type_of% @BitVec.toNat_ofInt:=@BitVec.toNat_ofInt
theorem oB:type_of% @Go.Proofs.Tryz.sizeOf0:=@Go.Proofs.Tryz.sizeOf0
theorem oC:type_of% @Go.Proofs.Tryz.sizeOf3:=@Go.Proofs.Tryz.sizeOf3
theorem oD:type_of% @Go.Proofs.Tryz.sizeOf9:=@Go.Proofs.Tryz.sizeOf9
theorem oE:type_of% @List.foldl_append:=@List.foldl_append
theorem oF:type_of% @Bool.not_eq_true':=@Bool.not_eq_true'
theorem o7:type_of% @Go.Proofs.Tryz.zeroValue4:=@Go.Proofs.Tryz.zeroValue4
theorem o8:type_of% @Go.K.Rg.box:=@Go.K.Rg.box
theorem pX:type_of% @List.take_eq_take_iff:=@List.take_eq_take_iff
theorem pY:type_of% @Array.getElem?_modify:=@Array.getElem?_modify
theorem p9:type_of% @List.any_eq_true:=@List.any_eq_true
theorem qa:type_of% @List.zipIdx_cons:=@List.zipIdx_cons
theorem qG:type_of% @Go.K.qM.nil:=@Go.K.qM.nil
theorem qH:type_of% @Go.Proofs.Tryz.underlying26:=@Go.Proofs.Tryz.underlying26
theorem rq:type_of% @Go.K.Rg.not:=@Go.K.Rg.not
theorem rT:type_of% @Nat.min_eq_left:=@Nat.min_eq_left
theorem rU:type_of% @Option.map_none:=@Option.map_none
theorem rV:type_of% @Go.Proofs.Tryz.isAgg0:=@Go.Proofs.Tryz.isAgg0
theorem rW:type_of% @Go.Proofs.Tryz.isAgg3:=@Go.Proofs.Tryz.isAgg3
theorem rX:type_of% @Go.Proofs.Tryz.isAgg9:=@Go.Proofs.Tryz.isAgg9
theorem rY:type_of% @List.append_nil:=@List.append_nil
theorem rZ:type_of% @List.nodup_cons:=@List.nodup_cons
theorem uB:type_of% @Int.toNat_of_nonneg:=@Int.toNat_of_nonneg
theorem uF:type_of% @Go.K.Rg.conv:=@Go.K.Rg.conv
namespace Go.K
def put (n:Nat):List UInt8:=if n<128 then[UInt8.ofNat n]else UInt8.ofNat (128+n%128)::put (n/128)
termination_by n
decreasing_by omega
theorem sJ {n:Nat} (h:n<128):put n=[UInt8.ofNat n]:=by rw[put,if_pos h]
theorem A9 {n:Nat} (h:128≤n):put n=UInt8.ofNat (128+n%128)::put (n/128):=by rw[put,if_neg (by omega)]
theorem IG (n:Nat):0<(put n).length:=by rw[put];split<;>simp
theorem IH {k:Nat}:∀{n:Nat},n<128^(k+1)→(put n).length≤k+1:=by
 induction k with
 |zero=>intro n h;rw[sJ (by simpa using h)];simp
 |succ k ih=>
  intro n h;by_cases h1:n<128
  ·rw[sJ h1];simp
  ·rw[A9 (by omega)];have:=ih (n:=n/128) (by rw[Nat.pow_succ]at h;omega);simp;omega
theorem jo {n:Nat} (h:n≤9223372036854775807):(put n).length≤9:=IH (k:=8) (by omega)
def lB:List UInt8→Nat→Nat→Option (Nat×Nat)
 |[],_,_=>none
 |c::cs,i,n=>if c.toNat<128 then(if c.toNat=0∧0<i then none else some (n+c.toNat%128*128^i,i+1))else lB cs (i+1) (n+c.toNat%128*128^i)
def get (b:List UInt8) (at_:Int):Int×Int×Int:=
 if at_<0∨(b.length:Int)<at_ then(0,0,1)
 else match lB ((b.drop at_.toNat).take 9) 0 0 with
  |some (n,k)=>(n,at_+k,0)
  |none=>(0,0,2)
theorem lC {bs:List UInt8} {k:Nat} {c:UInt8} (h:bs[k]? =some c) (n:Nat):lB (bs.drop k) k n=
  if c.toNat<128 then(if c.toNat=0∧0<k then none else some (n+c.toNat%128*128^k,k+1))else lB (bs.drop (k+1)) (k+1) (n+c.toNat%128*128^k):=by
 obtain⟨dC,he⟩:=av.1 h;rw[dB dC,lB,he]
theorem L6 (b:List UInt8) (i:Nat):(b.take (min b.length (i+9))).drop i=(b.drop i).take 9:=by
 rw[List.drop_take,pX];simp;omega
def val:List UInt8→Nat
 |[]=>0
 |c::cs=>c.toNat%128+128*val cs
def ey:Int→List Int→Bool
 |_,[]=>true
 |last,x::l=>decide (last<x)&&ey x l
def jM:Int→List Int→List UInt8
 |_,[]=>[]
 |last,x::l=>put (x-last-1).toNat++jM x l
def dI (l:List Int):List UInt8:=put l.length++jM (-1) l
def KC:Int→List Int→List Int
 |_,[]=>[]
 |last,x::l=>let m:=if x<0 then-(x+1)else x;(last+1+m%1000)::KC (last+1+m%1000) l
def good (l:List Int) (most:Nat):List Int:=KC (-1) (l.take most)
theorem qj {b:List UInt8} {at_:Int} (h:(get b at_).2.2=0):0≤at_∧at_<(get b at_).2.1∧(get b at_).2.1≤b.length∧0≤(get b at_).1∧(get b at_).1<9223372036854775808:=by
 unfold get at h ⊢
 split at h
 ·simp at h
 rename_i hr
 rw[if_neg hr]at*
 have key:∀(bs:List UInt8) (i n m k:Nat),lB bs i n=some (m,k)→bs.length+i≤9→n<128^i→i<k∧k≤i+bs.length∧m<128^k:=by
  intro bs
  induction bs with
  |nil=>intro i n m k h;simp[lB]at h
  |cons c cs ih=>
   intro i n m k h hl hn
   have hd:n+c.toNat%128*128^i<128^(i+1):=by
    have:=Nat.mul_le_mul_right (128^i) (show c.toNat%128≤127 from by omega);rw[Nat.pow_succ];omega
   simp only[lB]at h
   split at h
   ·split at h
    ·cases h
    ·cases h;exact⟨by omega,by simp,hd⟩
   ·obtain⟨h1,h2,h3⟩:=ih (i+1) _ m k h (by simp at hl;omega) hd;exact⟨by omega,by simp;omega,h3⟩
 cases hg:lB ((b.drop at_.toNat).take 9) 0 0 with
 |none=>simp[hg]at h
 |some p=>
  obtain⟨m,k⟩:=p;have hlen:((b.drop at_.toNat).take 9).length≤9∧((b.drop at_.toNat).take 9).length≤b.length-at_.toNat:=by rw[bG,cW];omega
  obtain⟨h1,h2,h3⟩:=key _ 0 0 m k hg (by omega) (by decide);have hp:128^k≤128^9:=kV (by decide) (by omega);simp only;omega
def fX (b:List UInt8):Nat→Int→Int→Int×List Int×Int
 |0,at_,_=>(0,[],at_)
 |k+1,at_,last=>
  if(get b at_).2.2≠0 then((get b at_).2.2,[],0)
  else if 4611686018427387904-last-1<(get b at_).1 then(2,[],0)
  else if(fX b k (get b at_).2.1 (last+1+(get b at_).1)).1≠0 then((fX b k (get b at_).2.1 (last+1+(get b at_).1)).1,[],0)
  else(0,(last+1+(get b at_).1)::(fX b k (get b at_).2.1 (last+1+(get b at_).1)).2.1,(fX b k (get b at_).2.1 (last+1+(get b at_).1)).2.2)
def fv (b:List UInt8) (at_:Int):Int×List Int×Int:=
 if(get b at_).2.2≠0 then((get b at_).2.2,[],0)else fX b (get b at_).1.toNat (get b at_).2.1 (-1)
theorem fc {l:List Int} {k:Nat} {x:Int} (h:l[k]? =some x) (last:Int):ey last (l.drop k)=(decide (last<x)&&ey x (l.drop (k+1))):=by
 obtain⟨dC,he⟩:=av.1 h;rw[dB dC,ey,he]
theorem Dy {l:List Int} {k:Nat} {x:Int} (h:l[k]? =some x) (last:Int):jM last (l.drop k)=put (x-last-1).toNat++jM x (l.drop (k+1)):=by
 obtain⟨dC,he⟩:=av.1 h;rw[dB dC,jM,he]
theorem sK:∀(l:List Int) (last:Int),-1≤last→(∀x∈l,x≤9223372036854775807)→ey last l=true→(jM last l).length≤9*l.length
 |[],_,_,_,_=>by simp[jM]
 |x::l,last,h1,h2,h3=>by
  simp only[ey,bD,decide_eq_true_eq]at h3;have hx:=h2 x (bW ..);have h4:=sK l x (by omega) (fun y hy=>h2 y (cq _ hy)) h3.2;have h5:=jo (n:=(x-last-1).toNat) (by omega);simp only[jM,bP,cA];omega
theorem sL (b:List UInt8) (a last:Int):fX b 0 a last=(0,[],a):=rfl
theorem oL {b:List UInt8} {k:Nat} {a last:Int} (h:(get b a).2.2≠0):fX b (k+1) a last=((get b a).2.2,[],0):=by rw[fX,if_pos h]
theorem qk {b:List UInt8} {k:Nat} {a last:Int} (h:(get b a).2.2=0) (h2:4611686018427387904-last-1<(get b a).1):fX b (k+1) a last=(2,[],0):=by
 rw[fX,if_neg (by simpa using h),if_pos h2]
theorem sM {b:List UInt8} {k:Nat} {a last:Int} (h:(get b a).2.2=0) (h2: ¬4611686018427387904-last-1<(get b a).1):fX b (k+1) a last=
  if(fX b k (get b a).2.1 (last+1+(get b a).1)).1≠0 then((fX b k (get b a).2.1 (last+1+(get b a).1)).1,[],0)
  else(0,(last+1+(get b a).1)::(fX b k (get b a).2.1 (last+1+(get b a).1)).2.1,(fX b k (get b a).2.1 (last+1+(get b a).1)).2.2):=by
 rw[fX,if_neg (by simpa using h),if_neg h2]
def andThen (acc:List Int) (r:Int×List Int×Int):Int×List Int×Int:=if r.1≠0 then(r.1,[],0)else(0,acc++r.2.1,r.2.2)
theorem l0 {b:List UInt8} {k:Nat} {a last:Int} (acc:List Int) (h:(get b a).2.2=0) (h2: ¬4611686018427387904-last-1<(get b a).1):
  andThen acc (fX b (k+1) a last)=andThen (acc++[last+1+(get b a).1]) (fX b k (get b a).2.1 (last+1+(get b a).1)):=by
 rw[sM h h2];unfold andThen;by_cases h3:(fX b k (get b a).2.1 (last+1+(get b a).1)).1=0<;>simp[h3]
theorem yY (r:Int×List Int×Int) (h:r.1≠0→r.2=([],0)):andThen [] r=r:=by
 unfold andThen;by_cases h3:r.1=0
 ·rw[if_neg (by simpa using h3)];ext<;>simp[h3]
 ·rw[if_pos h3,←h h3]
theorem Dz (b:List UInt8):∀(k:Nat) (a last:Int),(fX b k a last).1≠0→(fX b k a last).2=([],0)
 |0,a,last,h=>by simp[fX]at h
 |k+1,a,last,h=>by
  rw[fX]at h ⊢
  split
  ·rfl
  ·rename_i h1;rw[if_neg h1]at h
   split
   ·rfl
   ·rename_i h2;rw[if_neg h2]at h
    split
    ·rfl
    ·rename_i h3;rw[if_neg h3]at h;simp at h
theorem l1 (b:List UInt8) (a:Int):0≤(get b a).1∧0≤(get b a).2.2∧(get b a).2.2≤2∧((get b a).2.2≠0→(get b a).1=0∧(get b a).2.1=0):=by
 unfold get
 split
 ·simp
 ·split<;>simp<;>omega
theorem vS (b:List UInt8) (a:Int):(get b a).1≤9223372036854775807:=by
 by_cases h:(get b a).2.2=0
 ·have:=qj h;omega
 ·have:=(l1 b a).2.2.2 h;omega
theorem Fa:∀(k m i acc:Nat) (post:List UInt8),m<128^(k+1)→(0<i→m≠0)→lB ((put m++post).take (k+1)) i acc=some (acc+m*128^i,i+(put m).length):=by
 intro k
 induction k with
 |zero=>
  intro m i acc post h h0;have hm:m<128:=by simpa using h
  have e:(UInt8.ofNat m).toNat=m:=by rw[UInt8.toNat_ofNat'];omega
  rw[sJ hm];simp only[iT,jJ,lR,lB,e];rw[if_pos hm,if_neg (by omega),lp hm];rfl
 |succ k ih=>
  intro m i acc post h h0;by_cases hm:m<128
  ·have e:(UInt8.ofNat m).toNat=m:=by rw[UInt8.toNat_ofNat'];omega
   rw[sJ hm];simp only[iT,jJ,lR,lB,e];rw[if_pos hm,if_neg (by omega),lp hm];rfl
  ·have e:(UInt8.ofNat (128+m%128)).toNat=128+m%128:=by rw[UInt8.toNat_ofNat'];omega
   rw[A9 (by omega)];simp only[iT,lR,lB,e];rw[if_neg (by omega),ih (m/128) (i+1) _ post (by rw[Nat.pow_succ]at h;omega) (by omega)];have h2:(128+m%128)%128=m%128:=by omega
   rw[h2,Nat.pow_succ];congr 2
   ·have h3:m=m%128+128*(m/128):=by omega
    have h4:m*128^i=(m%128)*128^i+(m/128)*(128^i*128):=by
     conv=>lhs;rw[h3]
     rw[Nat.add_mul,Nat.mul_comm 128 (m/128),Nat.mul_assoc,Nat.mul_comm 128 (128^i)]
    omega
   ·simp;omega
theorem xw (pre post:List UInt8) {n:Nat} (hn:n≤9223372036854775807):get (pre++put n++post) pre.length=((n:Int),((pre.length+(put n).length:Nat):Int),0):=by
 unfold get;rw[if_neg (by simp;omega)]
 have h1:((pre++put n++post).drop (pre.length:Int).toNat).take 9=(put n++post).take (8+1):=by
  rw[aw,List.append_assoc,List.drop_left]
 rw[h1,Fa 8 n 0 0 post (by omega) (by omega)];simp
theorem vT:∀(l:List Int) (pre post:List UInt8) (last:Int),-1≤last→ey last l=true→(∀x∈l,x≤4611686018427387904)→
  fX (pre++jM last l++post) l.length pre.length last=(0,l,((pre.length+(jM last l).length:Nat):Int))
 |[],pre,post,last,_,_,_=>by simp[jM,fX]
 |x::l,pre,post,last,h1,h2,h3=>by
  simp only[ey,bD,decide_eq_true_eq]at h2;have hx:=h3 x (bW ..);have e0:pre++jM last (x::l)++post=pre++put (x-last-1).toNat++(jM x l++post):=by simp[jM]
  have e1:=xw pre (jM x l++post) (n:=(x-last-1).toNat) (by omega);have e2:pre++put (x-last-1).toNat++(jM x l++post)=(pre++put (x-last-1).toNat)++jM x l++post:=by simp
  have ih:=vT l (pre++put (x-last-1).toNat) post x (by omega) h2.2 (fun y hy=>h3 y (cq _ hy));rw[e0,cA,sM (by rw[e1]) (by rw[e1];simp only;omega),e1];simp only;have e3:last+1+(((x-last-1).toNat:Nat):Int)=x:=by omega
  rw[e3,e2,show((pre.length+(put (x-last-1).toNat).length:Nat):Int)=((pre++put (x-last-1).toNat).length:Int)from by simp,ih];simp[jM];omega
theorem uK (pre post:List UInt8) {l:List Int} (hr:ey (-1) l=true) (h3:∀x∈l,x≤4611686018427387904) (hl:l.length≤9223372036854775807):
  fv (pre++dI l++post) pre.length=(0,l,((pre.length+(dI l).length:Nat):Int)):=by
 have e0:pre++dI l++post=pre++put l.length++(jM (-1) l++post):=by simp[dI]
 have e1:=xw pre (jM (-1) l++post) (n:=l.length) hl;have e2:pre++put l.length++(jM (-1) l++post)=(pre++put l.length)++jM (-1) l++post:=by simp
 unfold fv;rw[e0,e1,if_neg (by simp)];simp only;have:=vT l (pre++put l.length) post (-1) (by omega) hr h3;rw[e2,show((pre.length+(put l.length).length:Nat):Int)=((pre++put l.length).length:Int)from by simp,aw,this];simp[dI];omega
end Go.K
namespace Go.K
abbrev Po:=Int×List Int
abbrev Bl:=Int×Int×Int×Int
abbrev Li:=List UInt8×List Bl×Int
abbrev RT.po:RT Po:=RT.pair (RT.int .i64) ((RT.int .i64).sl)
abbrev RT.bl:RT Bl:=RT.pair (RT.int .i64) (RT.pair (RT.int .i64) (RT.pair (RT.int .i64) (RT.int .i64)))
abbrev RT.li:RT Li:=RT.pair (RT.u8.sl) (RT.pair ((RT.bl).sl) (RT.int .i64))
theorem Ic:Part RT.po (RT.int .i64) (fun p=>p.1) 0:=kF _ _
theorem PR:Part RT.po ((RT.int .i64).sl) (fun p=>p.2) 1:=fU _ _
theorem bl0:Part RT.bl (RT.int .i64) (fun b=>b.1) 0:=kF _ _
theorem bl1:Part RT.bl (RT.int .i64) (fun b=>b.2.1) 1:=(fU _ _).trans (kF _ _)
theorem bl2:Part RT.bl (RT.int .i64) (fun b=>b.2.2.1) 2:=(fU _ _).trans ((fU _ _).trans (kF _ _))
theorem bl3:Part RT.bl (RT.int .i64) (fun b=>b.2.2.2) 3:=(fU _ _).trans ((fU _ _).trans (fU _ _))
theorem li0:Part RT.li (RT.u8.sl) (fun x=>x.1) 0:=kF _ _
theorem TY:Part RT.li ((RT.bl).sl) (fun x=>x.2.1) 1:=(fU _ _).trans (kF _ _)
def Fb (n:Nat) (k:Int):Bool:=decide (0≤k∧k<n)
def yZ (bs:List Bl) (k:Int):Int:=if Fb bs.length k then(bs.getD k.toNat (0,0,0,0)).2.2.1 else-1
def dy:Int→List Po→List UInt8
 |_,[]=>[]
 |last,(d,ps)::l=>put (d-last-1).toNat++dI ps++dy d l
def b8:Int→List Po→Int
 |last,[]=>last
 |_,(d,_)::l=>b8 d l
def gA (l:List Po):Int:=(l.map fun p=>(p.2.length:Int)).sum
theorem pw (l l':List Po) (last:Int):dy last (l++l')=dy last l++dy (b8 last l) l':=by
 induction l generalizing last with
 |nil=>rfl
 |cons p l ih=>obtain⟨d,ps⟩:=p;simp[dy,b8,ih]
theorem uL (l l':List Po) (last:Int):b8 last (l++l')=b8 (b8 last l) l':=by
 induction l generalizing last with
 |nil=>rfl
 |cons p l ih=>obtain⟨d,ps⟩:=p;simp[b8,ih]
theorem px (l l':List Po):gA (l++l')=gA l+gA l':=by simp[gA]
def py (l:List Po) (k:Nat):Bl:=((dy (-1) (l.take (8*k))).length,b8 (-1) (l.take (8*k)),b8 (-1) (l.take (8*k+8)),((l.drop (8*k)).take 8).length)
def mO (l:List Po) (m:Nat):List Bl:=(List.range m).map (py l)
def hU (l:List Po):Li:=(dy (-1) l,mO l ((l.length+7)/8),gA l)
def l2 (l:List Int):Bool:=ey (-1) l&&l.all (fun n=>decide (n<2147483648))
def dR:Int→List Po→Bool
 |_,[]=>true
 |last,(d,ps)::l=>decide (last<d)&&decide (d<2147483648)&& !ps.isEmpty&&l2 ps&&dR d l
theorem np:∀{l:List Po} {i:Nat} {last d:Int} {ps:List Int},dR last l=true→l[i]? =some (d,ps)→
  b8 last (l.take i)<d∧d<2147483648∧ps≠[]∧l2 ps=true∧b8 last (l.take (i+1))=d∧last≤b8 last (l.take i)
 |[],i,_,_,_,_,h=>by simp at h
 |(d0,p0)::l,0,last,d,ps,hm,h=>by
  simp only[List.getElem?_cons_zero,Option.some.injEq,Prod.mk.injEq]at h;obtain⟨rfl,rfl⟩:=h;simp only[dR,bD,decide_eq_true_eq]at hm;obtain⟨⟨⟨⟨h1,h2⟩,h3⟩,h4⟩,h5⟩:=hm;refine⟨h1,h2,?_,h4,by simp[b8],by simp[b8]⟩;rintro rfl;simp at h3
 |(d0,p0)::l,i+1,last,d,ps,hm,h=>by
  simp only[dR,bD,decide_eq_true_eq]at hm;obtain⟨⟨⟨⟨h1,h2⟩,h3⟩,h4⟩,h5⟩:=hm;obtain⟨a1,a2,a3,a4,a5,a6⟩:=np (i:=i) h5 (by simpa using h);refine⟨by simpa[b8]using a1,a2,a3,a4,by simpa[b8]using a5,?_⟩;simp only[lR,b8];omega
theorem sN {l:List Po} {i:Nat} {d:Int} {ps:List Int} (last:Int) (h:l[i]? =some (d,ps)):
  dy last (l.take (i+1))=dy last (l.take i)++put (d-b8 last (l.take i)-1).toNat++dI ps:=by
 obtain⟨h1,h2⟩:=av.1 h;rw[fm h1,h2,pw];simp[dy]
theorem nq {l:List Po} {i:Nat} (last:Int):dy last l=dy last (l.take i)++dy (b8 last (l.take i)) (l.drop i):=by
 conv=>lhs;rw[←List.take_append_drop i l]
 exact pw _ _ _
theorem l3 {l:List Int}:l2 l=true↔ey (-1) l=true∧∀x∈l,x<2147483648:=by
 simp[l2]
def og (b:List UInt8) (at_ ahead:Int):Po×Int×Int:=
 if(get b at_).2.2≠0 then((0,[]),0,(get b at_).2.2)
 else((IntKind.i64.wrap (IntKind.i64.wrap (ahead+1)+(get b at_).1),(fv b (get b at_).2.1).2.1),(fv b (get b at_).2.1).2.2,(fv b (get b at_).2.1).1)
theorem Fc {l:List Po} {i:Nat} {d:Int} {ps:List Int} (hm:dR (-1) l=true) (h:l[i]? =some (d,ps)) (hl:ps.length≤1099511627776):
  og (dy (-1) l) (((dy (-1) (l.take i)).length:Nat):Int) (b8 (-1) (l.take i))=((d,ps),(((dy (-1) (l.take (i+1))).length:Nat):Int),0):=by
 obtain⟨h1,h2,h3,h4,h5,h6⟩:=np hm h;obtain⟨h7,h8⟩:=l3.1 h4;have e1:=nq (l:=l) (i:=i+1) (-1);have e2:=sN (-1) h;generalize hla:b8 (-1) (l.take i)=last at h1 h6 e2 ⊢;generalize Dm:dy (-1) (l.take i)=pre at e2 ⊢;generalize dy (b8 (-1) (l.take (i+1))) (l.drop (i+1))=post at e1;rw[e2]at e1 ⊢;have g1:=xw pre (dI ps++post) (n:=(d-last-1).toNat) (by omega);have g2:=uK (pre++put (d-last-1).toNat) post h7 (fun x hx=>by have:=h8 x hx;omega) (by omega);rw[show pre++put (d-last-1).toNat++(dI ps++post)=dy (-1) l from by rw[e1];simp]at g1;rw[←e1]at g2;unfold og;rw[g1];simp only[ne_eq,not_true_eq_false,if_false];have yT:((pre.length+(put (d-last-1).toNat).length:Nat):Int)=((pre++put (d-last-1).toNat).length:Int):=by simp
 rw[yT,g2];refine Prod.ext (Prod.ext ?_ rfl) (Prod.ext ?_ rfl)
 ·simp only;rw[iq (last+1) (by omega),iq _ (by omega)];omega
 ·simp;omega
theorem nr {l:List Int} {k:Nat} {x:Int} (p:Int→Bool) (h:l[k]? =some x):(l.drop k).all p=(p x&&(l.drop (k+1)).all p):=by
 obtain⟨h1,h2⟩:=av.1 h;rw[dB h1,h2,List.all_cons]
theorem kd {l:List Po} {k:Nat} {d:Int} {ps:List Int} (h:l[k]? =some (d,ps)) (last:Int):
  dR last (l.drop k)=(decide (last<d)&&decide (d<2147483648)&& !ps.isEmpty&&l2 ps&&dR d (l.drop (k+1))):=by
 obtain⟨h1,h2⟩:=av.1 h;rw[dB h1,h2,dR]
theorem sO {l:List Po} {i:Nat} {d:Int} {ps:List Int} (h:l[i]? =some (d,ps)):gA (l.take (i+1))=gA (l.take i)+ps.length:=by
 obtain⟨h1,h2⟩:=av.1 h;rw[fm h1,h2,px];simp[gA]
theorem l4 (l:List Po):0≤gA l:=by
 induction l with
 |nil=>simp[gA]
 |cons p l ih=>simp only[gA,fj,List.sum_cons]at ih ⊢;omega
theorem y2 (l:List Po) (i:Nat):0≤gA (l.take i)∧gA (l.take i)≤gA l:=by
 refine⟨l4 _,?_⟩
 conv=>rhs;rw[←List.take_append_drop i l,px]
 have:=l4 (l.drop i);omega
theorem k4 (l:List Po) (i:Nat):(dy (-1) (l.take i)).length≤(dy (-1) l).length:=by
 rw[nq (l:=l) (i:=i) (-1)];simp
theorem DA (l:List Po) (k:Nat):mO l (k+1)=mO l k++[py l k]:=by simp[mO,List.range_succ]
theorem ja:∀(l:List Po) (last:Int),dR last l=true→last<2147483648→∀n:Nat,last≤b8 last (l.take n)∧b8 last (l.take n)<2147483648
 |[],last,_,h,n=>by simp[b8];exact h
 |(d,ps)::l,last,hm,h,0=>by simp[b8];exact h
 |(d,ps)::l,last,hm,h,n+1=>by
  simp only[dR,bD,decide_eq_true_eq]at hm;obtain⟨⟨⟨⟨h1,h2⟩,h3⟩,h4⟩,h5⟩:=hm;have:=ja l d h5 h2 n;simp only[lR,b8];omega
theorem U9 {M:aB} {w:World} {a b c d:Int} (ha: -9223372036854775808≤a∧a≤9223372036854775807) (hb: -9223372036854775808≤b∧b≤9223372036854775807) (hc: -9223372036854775808≤c∧c≤9223372036854775807) (hd: -9223372036854775808≤d∧d≤9223372036854775807):
  RT.bl.V M w (a,b,c,d) (.agg [.int .i64 a,.int .i64 b,.int .i64 c,.int .i64 d].toArray):=
 ⟨_,⟨[.int .i64 a],[.int .i64 b,.int .i64 c,.int .i64 d],rfl,⟨rfl,ha⟩,[.int .i64 b],[.int .i64 c,.int .i64 d],rfl,⟨rfl,hb⟩,[.int .i64 c],[.int .i64 d],rfl,⟨rfl,hc⟩,⟨rfl,hd⟩⟩,rfl⟩
theorem PS {M:aB} {w:World} {bx:Nat} {b:List UInt8} {ks:List Bl} {tot:Int} {vb vk:Value} {e:TypeId} {fr:Nat×Nat} (hx:w.heap[bx]? =some (.cells #[vb,vk,.int .i64 tot] e fr)) (hm: ¬M bx) (hb:(RT.u8.sl).V M w b vb) (hk:((RT.bl).sl).V M w ks vk) (ht: -9223372036854775808≤tot∧tot≤9223372036854775807):
  cp RT.li M w (.pointer (some ⟨bx,0,none⟩)) (b,ks,tot):=
 ⟨bx,0,[vb,vk,.int .i64 tot],rfl,hm,⟨[vb],[vk,.int .i64 tot],rfl,kc hb rfl rfl,[vk],[.int .i64 tot],rfl,kc hk rfl rfl,⟨rfl,ht⟩⟩,fun j v hj=>gH hx (by simpa using hj)⟩
theorem Fe {l:List Po} {i:Nat} (h8:i%8=0) (hi:i<l.length):mO l ((i+7)/8)++[(((dy (-1) (l.take i)).length:Int),b8 (-1) (l.take i),b8 (-1) (l.take (min (i+8) l.length)),(((l.drop i).take 8).length:Int))]=mO l ((min (i+8) l.length+7)/8):=by
 rw[show(min (i+8) l.length+7)/8=(i+7)/8+1 from by omega,DA];have e:8*((i+7)/8)=i:=by omega
 have e2:l.take (i+8)=l.take (min (i+8) l.length):=by rw[pX];omega
 simp only[py,e,e2]
theorem nt:∀(l:List Po) (last:Int) (n m:Nat),dR last l=true→last<2147483648→n≤m→b8 last (l.take n)≤b8 last (l.take m)
 |[],last,n,m,_,_,_=>by simp
 |(d,ps)::l,last,0,m,hm,h,_=>by
  have:=(ja ((d,ps)::l) last hm h m).1;simpa[b8]using this
 |(d,ps)::l,last,n+1,0,_,_,h=>by omega
 |(d,ps)::l,last,n+1,m+1,hm,h,Va=>by
  simp only[dR,bD,decide_eq_true_eq]at hm;obtain⟨⟨⟨⟨h1,h2⟩,h3⟩,h4⟩,h5⟩:=hm;simpa[b8]using nt l d n m h5 h2 (by omega)
theorem y3 {g:List Po} {k:Nat} (hk:k<(g.length+7)/8):yZ (hU g).2.1 (k:Int)=b8 (-1) (g.take (8*k+8)):=by
 have hl:(hU g).2.1.length=(g.length+7)/8:=by simp[hU,mO]
 have hb:(hU g).2.1[k]? =some (py g k):=by simp only[hU,mO,cy];rw[List.getElem?_range hk];rfl
 unfold yZ Fb;rw[if_pos (by rw[hl];simp;omega),aw,bT,hb];rfl
end Go.K
namespace Go.K
section
variable {P:Program} {r:Option Nat} {n:Nat} {L:Sl} {ds:List Deferred} {w:World} {K:Kt} {ops:Array Oper} {rest:List Oper} {d:Nat} {x y:Operand} {ty:TypeId} {pos:String} {af:Array Edge}
theorem Rg.y4 {t t' e:TypeId} {p:Option Addr} (ht:P.underlying t=some (.pointer e)) (hx:ev L x=some (.pointer p)) (hy:ev L y=some (.pointer none)) (hd:Nat.blt d n=true)
  (k:Rg P r n ops rest ((d,.bool (decide (p=none)))::L) ds w K):
  Rg P r n ops ({dst:=some d,op:= .binOp .eql t x y t',type:=ty,pos,after:=af,guard:=none}::rest) L ds w K:=
 .op (fun _ h=>by cases h) rfl rfl hd _ w (fun ρ h=>by
  have U8:P.underlying t=some (.pointer (P.pointee t)):=by simp[Program.pointee,ht]
  have he:=run_equal_pointer_nil (P:=P) w t p U8;simp only[execOp];rw[h x _ hx,h y _ hy]
  cases p<;>simp[eqGuard,binOp,run_underlying ht,he]) k
end
end Go.K
namespace Go.K
def idx:List Po→Int→Nat
 |[],_=>0
 |p::l,to=>if p.1<to then idx l to+1 else 0
theorem Ff:∀(l:List Po) (to:Int),idx l to≤l.length
 |[],_=>a7 _
 |p::l,to=>by
  have:=Ff l to;simp only[idx,cA];split<;>omega
theorem Ba:∀{l:List Po} {to:Int} {j:Nat} {p:Po},j<idx l to→l[j]? =some p→p.1<to
 |[],_,_,_,h,_=>by simp[idx]at h
 |q::l,to,j,p,h,hp=>by
  simp only[idx]at h
  split at h
  ·cases j with
   |zero=>simp at hp;subst hp;assumption
   |succ j=>exact Ba (l:=l) (j:=j) (by omega) (by simpa using hp)
  ·omega
theorem xx:∀{l:List Po} {to:Int} {p:Po},l[idx l to]? =some p→to≤p.1
 |[],_,_,h=>by simp[idx]at h
 |q::l,to,p,h=>by
  simp only[idx]at h
  split at h
  ·exact xx (by simpa using h)
  ·simp at h;subst h;omega
theorem CD:∀{l:List Po} {to:Int} {e:Nat} {p:Po},l[e]? =some p→to≤p.1→idx l to≤e
 |[],_,_,_,h,_=>by simp at h
 |q::l,to,e,p,h,hp=>by
  simp only[idx]
  split
  ·cases e with
   |zero=>simp at h;subst h;omega
   |succ e=>have:=CD (l:=l) (e:=e) (by simpa using h) hp;omega
  ·omega
theorem idx_eq {l:List Po} {to:Int} {i:Nat} (h1:∀j,j<i→∀p,l[j]? =some p→p.1<to) (h2:∀p,l[i]? =some p→to≤p.1) (h3:i≤l.length):idx l to=i:=by
 rcases ir (idx l to) i with h|h|h
 ·have hx:l[idx l to]? =some l[idx l to]:=aD (by omega);have:=xx hx;have:=h1 _ h _ hx;omega
 ·exact h
 ·have:=Ff l to;have hx:l[i]? =some l[i]:=aD (by omega);have:=Ba h hx;have:=h2 _ hx;omega
def eG (l:List Po) (i:Int):Int:=if i<0 then-1 else match l[i.toNat]? with|some p=>p.1|none=>2147483648
def lD (l:List Po) (i:Int):List Int:=if i<0 then[]else match l[i.toNat]? with|some p=>p.2|none=>[]
def jB (l:List Po) (i:Int):List Po:=if i<0 then[]else(l.drop i.toNat).take (8-i.toNat%8)
def ql (l:List Po) (i to:Int):Int:=if to≤eG l i then i else idx l to
theorem l5 {l:List Po} {i:Nat} {d:Int} {ps:List Int} (hm:dR (-1) l=true) (h:l[i]? =some (d,ps)):0≤d∧d<2147483648:=by
 obtain⟨f1,f2,f3,f4,f5,f6⟩:=np hm h;omega
theorem ig {l:List Po} {i:Nat} {d:Int} {ps:List Int} (h:l[i]? =some (d,ps)):eG l (i:Int)=d:=by
 unfold eG;rw[if_neg (by omega),aw,h]
theorem DB {l:List Po} {i:Int} (h:i<0):eG l i= -1:=by unfold eG;rw[if_pos h]
theorem qm {l:List Po} {i:Int} (h:(l.length:Int)≤i):eG l i=2147483648:=by
 unfold eG;rw[if_neg (by omega),fI (by omega)]
theorem jq (l:List Po) (i:Int):(i<0∧eG l i= -1∧lD l i=[])∨(∃j:Nat,∃d ps,i=j∧l[j]? =some (d,ps)∧eG l i=d∧lD l i=ps)∨((l.length:Int)≤i∧eG l i=2147483648∧lD l i=[]):=by
 by_cases h0:i<0
 ·exact .inl ⟨h0,DB h0,by unfold lD;rw[if_pos h0]⟩
 ·by_cases h1:(l.length:Int)≤i
  ·exact .inr (.inr ⟨h1,qm h1,by unfold lD;rw[if_neg h0,fI (by omega)]⟩)
  ·obtain⟨j,rfl⟩:∃j:Nat,i=j:=⟨i.toNat,by omega⟩;obtain⟨⟨d,ps⟩,hx⟩:∃x,l[j]? =some x:=⟨_,aD (by omega)⟩;exact .inr (.inl ⟨j,d,ps,rfl,hx,ig hx,by unfold lD;rw[if_neg h0,aw,hx]⟩)
theorem vU {l:List Po} (hm:dR (-1) l=true) (i:Int): -1≤eG l i∧eG l i≤2147483648:=by
 rcases jq l i with⟨_,h,_⟩|⟨j,d,ps,rfl,hx,h,_⟩|⟨_,h,_⟩
 ·omega
 ·have:=l5 hm hx;omega
 ·omega
theorem vV {g:List Po} {i:Nat} {d:Int} {ps:List Int} (h:g[i]? =some (d,ps)) (last:Int):b8 last (g.take (i+1))=d:=by
 obtain⟨h1,h2⟩:=av.1 h;rw[fm h1,h2,uL];rfl
theorem xy {l:List Po} (hm:dR (-1) l=true) {t s:Nat} {p:Po} (hp:l[t]? =some p) (E4:t<s):p.1≤b8 (-1) (l.take s):=by
 obtain⟨d,ps⟩:=p;rw[←vV hp (-1)];exact nt l (-1) (t+1) s hm (by decide) E4
theorem CE {l:List Po} (hm:dR (-1) l=true) {t s:Nat} {p q:Po} (hp:l[t]? =some p) (hq:l[s]? =some q) (E4:t<s):p.1<q.1:=by
 obtain⟨e,qs⟩:=q;have h1:=xy hm hp E4;have h2:=(np hm hq).1;omega
theorem vW {l lf:List Po} (hm:dR (-1) l=true) {s k:Nat} {to:Int} (h1:8*k≤s) (h2:s<8*k+8) (hs:s<l.length) (Fg:b8 (-1) (l.take s)<to) (PT:to≤b8 (-1) (l.take (8*k+8)))
  (L7:lf=(l.drop s).take (8*k+8-s)):idx l to=s+idx lf to∧idx lf to<lf.length∧idx l to<l.length∧idx l to/8=k∧lf.drop (idx lf to)=jB l (idx l to:Nat):=by
 have OS:s≤idx l to:=by
  rcases cU (idx l to) s with h|h
  ·have hx:l[idx l to]? =some l[idx l to]:=aD (by omega);have:=xx hx;have:=xy hm hx h;omega
  ·exact h
 obtain⟨⟨d,ps⟩,he⟩:∃x,l[min (8*k+8) l.length-1]? =some x:=⟨_,aD (by omega)⟩
 have hde:b8 (-1) (l.take (8*k+8))=d:=by
  rw[←vV he (-1),show l.take (8*k+8)=l.take (min (8*k+8) l.length-1+1)from by rw[pX];omega]
 have qi:=CD he (to:=to) (by simp only;omega);have Iw:lf.length=min (8*k+8-s) (l.length-s):=by rw[L7,bG,cW]
 have gh:∀t,t<lf.length→lf[t]? =l[s+t]? :=fun t ht=>by rw[L7,dG,if_pos (by omega),List.getElem?_drop]
 have TV:idx lf to=idx l to-s:=by
  refine idx_eq (fun j hj p hp=>?_) (fun p hp=>?_) (by omega)
  ·have o2:=(av.1 hp).1;rw[gh j o2]at hp;exact Ba (by omega) hp
  ·have o2:=(av.1 hp).1;rw[gh _ o2,show s+(idx l to-s)=idx l to from by omega]at hp;exact xx hp
 refine⟨by omega,by omega,by omega,by omega,?_⟩;unfold jB;rw[if_neg (by omega),aw,TV,L7,List.drop_take,List.drop_drop,show s+(idx l to-s)=idx l to from by omega,pX,cW];omega
theorem II {l:List Po} (hm:dR (-1) l=true) {to:Int} {n:Nat} (hn:l.length≤n) (Fg:b8 (-1) (l.take n)<to):idx l to=l.length:=by
 refine idx_eq (fun j hj p hp=>?_) (fun p hp=>?_) (a7 _)
 ·have:=xy hm hp (s:=n) (by omega);omega
 ·simp at hp
theorem DC {l:List Po} (hm:dR (-1) l=true) {i k to:Int} (hi: -1≤i∧i≤l.length) (hk: -1≤k∧k<((l.length+7)/8:Nat)) (PU:i<0→k= -1) (p6:0≤i→i<l.length→k=i/8) (PM:eG l i<to):
  b8 (-1) (l.take (8*(max k 0).toNat))<to:=by
 rcases jq l i with⟨h0,h,_⟩|⟨j,d,ps,rfl,hx,h,_⟩|⟨h0,h,_⟩
 ·rw[PU h0];simp only[show(max (-1:Int) 0).toNat=0 from by decide,Nat.mul_zero,List.take_zero,b8];omega
 ·have hj:=(av.1 hx).1;have yS:=p6 (by omega) (by omega);have h2:=(np hm hx).1;have h3:=nt l (-1) (8*(max k 0).toNat) j hm (by decide) (by omega);omega
 ·have:=(ja l (-1) hm (by decide) (8*(max k 0).toNat)).2;omega
def Cu (T:TypeId) (l:List Po) (i:Int) (M:aB) (w:World) (bc:Nat):Prop:=
 ∃(p u:Value) (k Ez:Int),M bc∧w.heap[bc]? =some (.cells #[p,.int .i64 k,u,.int .i64 (eG l i),.int .i64 Ez] T (0,0))∧cp RT.li M w p (hU l)∧((RT.po).sl).V M w (jB l i) u∧
  (-1≤i∧i≤l.length)∧(-1≤k∧k<((l.length+7)/8:Nat))∧(i<0→k= -1)∧(0≤i→i<l.length→k=i/8)
theorem Cu.step {T:TypeId} {l:List Po} {i:Int} {M M' N:aB} {w w':World} {bc:Nat} (h:Cu T l i M w bc) (s:Step M w M' w' N) (hn: ¬N bc):Cu T l i M' w' bc:=by
 obtain⟨p,u,k,Ez,h1,h2,h3,h4,h5⟩:=h;exact⟨p,u,k,Ez,(s.mem bc (ak h2)).2 h1,s.bJ h2 hn,h3.le (by decide) s.le,h4.le s.le,h5⟩
theorem L8 {M:aB} {w:World} {d:Int} {ps:List Int} {v:Value} (h:RT.po.V M w (d,ps) v):∃u,v= .agg #[.int .i64 d,u]∧u.oneCell'=true∧(-9223372036854775808≤d∧d≤9223372036854775807):=by
 obtain⟨vs,⟨va,vb,rfl,⟨rfl,hd⟩,hb⟩,rfl⟩:=h;obtain⟨a,cap,rfl,_⟩:=hb;exact⟨_,rfl,rfl,hd⟩
end Go.K
namespace Go.K
section
variable {P:Program} {r:Option Nat} {n:Nat} {L:Sl} {ds:List Deferred} {w:World}
theorem xz {fn:Func} {Q:Value→World→Prop} {c t b:Nat} {vs:List Value} {fs:TypeDesc} {e:TypeId} {fr:Nat×Nat} {zv:Value} {size bytes:Nat} (hr:fn.results= #[.cell c t]) (hc:lk L c=some (.pointer (some ⟨b,0,none⟩))) (hu:P.underlying t=some fs) (hf:fs.isRow=true) (hi:TI P t zv size bytes) (hl:vs.length=size)
  (hb:w.heap[b]? =some (.cells vs.toArray e fr)) (h:Q (.agg vs.toArray) w):sh P fn Q .ret L [] w:=
 ⟨rfl,fun a ha=>⟨_,by
  obtain⟨i,vH,_,AV,_⟩:=hi.get;have L5:w.rangeAt b 0 vs:=fun j v hj=>gH hb (by simpa using hj)
  have:=run_loadVar_mid (P:=P) w b 0 t vs fs L5 hu hf (by simp[vH,AV,hl]);simp[results,hr,ha _ _ hc,asAddr,this,db],h⟩⟩
end
end Go.K
namespace Go.K
section
variable {P:Program} {r:Option Nat} {n:Nat} {L:Sl} {ds:List Deferred} {w:World} {K:Kt} {ops:Array Oper} {rest:List Oper} {d:Nat} {x y i:Operand} {ty:TypeId} {pos:String} {af:Array Edge}
theorem Rg.uM {t e:TypeId} {κ:IntKind} {j:Int} {b len cap bytes:Nat} {zv:Value} (ht:P.underlying t=some (.slice e)) (hi:TI P e zv 1 bytes) (hx:ev L x=some (.slice (some ⟨b,0,none⟩) len cap)) (EO:ev L i=some (.int κ j)) (hd:Nat.blt d n=true) (hj:0≤j∧j<len)
  (k:Rg P r n ops rest ((d,.pointer (some ⟨b,j.toNat,none⟩))::L) ds w K):
  Rg P r n ops ({dst:=some d,op:= .indexAddr t x i,type:=ty,pos,after:=af,guard:=none}::rest) L ds w K:=
 .op (fun _ h=>by cases h) rfl rfl hd _ w (fun ρ h=>by
  simp only[execOp,h x _ hx,h i _ EO];simp[Instr.indexAt,run_underlying ht,asIntOf,hj,hi.sizeOf,Addr.add_mid]) k
theorem Rg.L9 {t e:TypeId} {κ:IntKind} {j:Int} {b len bytes:Nat} {zv:Value} (ht:P.underlying t=some (.array len e)) (hi:TI P e zv 1 bytes) (hx:ev L x=some (.pointer (some ⟨b,0,none⟩))) (EO:ev L i=some (.int κ j)) (hd:Nat.blt d n=true) (hj:0≤j∧j<len)
  (k:Rg P r n ops rest ((d,.pointer (some ⟨b,j.toNat,none⟩))::L) ds w K):
  Rg P r n ops ({dst:=some d,op:= .indexAddr t x i,type:=ty,pos,after:=af,guard:=none}::rest) L ds w K:=
 .op (fun _ h=>by cases h) rfl rfl hd _ w (fun ρ h=>by
  simp only[execOp,h x _ hx,h i _ EO];simp[Instr.indexAt,run_underlying ht,asIntOf,hj,hi.sizeOf,Addr.add_mid,Instr.sureAddr]) k
theorem Rg.mk0 {t e:TypeId} {len:Nat} {bytes:Nat} {zv:Value} (M:aB) (ht:P.underlying t=some (.slice e)) (hi:TI P e zv 1 bytes) (hz:zv.cells= #[zv]) (hx:ev L x=some (.int .i64 len)) (hy:ev L y=some (.int .i64 len)) (hd:Nat.blt d n=true) (hb:bytes*len≤140737488355328) (hl:len≤9223372036854775807)
  (k:∀b w',w.heap.size≤b→b<w'.heap.size→w'.heap[b]? =some (.cells (List.replicate len zv).toArray e (0,0))→Step M w (ins M b) w' aA→Rg P r n ops rest ((d,.slice (some ⟨b,0,none⟩) len len)::L) ds w' K):
  Rg P r n ops ({dst:=some d,op:= .makeSlice t x y,type:=ty,pos,after:=af,guard:=none}::rest) L ds w K:=by
 obtain⟨inf,i1,i2,i3,i4⟩:=hi.get
 have hm:madeCells zv.cells (len*1)=(List.replicate len zv).toArray:=by
  apply Array.ext
  ·simp[madeCells]
  ·intro j h1 h2;simp[madeCells,hz,Nat.mod_one]
 refine .op (fun _ h=>by cases h) rfl rfl hd (.slice (some ⟨w.heap.size,0,none⟩) len len) (w.alloc (.cells (List.replicate len zv).toArray e)) (fun ρ hρ=>?_) (k w.heap.size _ (a7 _) (by simp) (cz w _) ((dg M w _).own (a7 _) (by simp)))
 have hbc:(inf.bytes:Int)*(len:Int)≤281474976710656:=by
  rw[i4];have h1:((bytes*len:Nat):Int)≤281474976710656:=by omega
  rwa [Int.natCast_mul]at h1
 have hr:=run_make (P:=P) w t e inf zv ht i1 i2 .i64 .i64 (len:Int) (len:Int) (by omega) (Int.le_refl _) hbc (by omega);simp only[aw,i3,hm]at hr;simp only[execOp,hρ x _ hx,hρ y _ hy];simp[db,hr]
theorem Rg.PV {xt:TypeId} {p:Nat} (hx:ev L x=some (.int .u64 p)) (hd:Nat.blt d n=true) (hp:p<2^64) (k:Rg P r n ops rest ((d,.int .u64 ((2^64-1-p:Nat):Int))::L) ds w K):
  Rg P r n ops ({dst:=some d,op:= .unOp .xor xt x,type:=ty,pos,after:=af,guard:=none}::rest) L ds w K:=by
 refine .op (fun _ h=>by cases h) rfl rfl hd _ w (fun ρ h=>?_) k
 have e:(2^64-1:Nat)^^^p=2^64-1-p:=by
  apply Nat.eq_of_testBit_eq;intro j;have h1:=Nat.testBit_two_pow_sub_succ (x:=p) (n:=64) hp j;rw[show 2^64-1-p=2^64-(p+1)from by omega,h1,Nat.testBit_xor,Nat.testBit_two_pow_sub_one];by_cases hj:j<64
  ·simp[hj]
  ·have:p.testBit j=false:=Nat.testBit_lt_two_pow (nf hp (kV (by decide) (by omega)));simp[hj,this]
 simp only[execOp,h x _ hx]
 have hb:(BitVec.ofInt IntKind.u64.bits IntKind.u64.max^^^BitVec.ofInt IntKind.u64.bits (p:Int)).toNat=2^64-1-p:=by
  rw[BitVec.toNat_xor,ng,ng];have h1:(IntKind.u64.max%((2^IntKind.u64.bits:Nat):Int)).toNat=2^64-1:=by decide
  have h2:((p:Int)%((2^IntKind.u64.bits:Nat):Int)).toNat=p:=by
   change((p:Int)%((18446744073709551616:Nat):Int)).toNat=p;omega
  rw[h1,h2,e]
 have hw:IntKind.u64.wrap ((2^64-1-p:Nat):Int)=((2^64-1-p:Nat):Int):=IntWalk.u64_in _ (by omega)
 have hu:(Op.unary .xor (.int .u64 (p:Int))).run P w= .ok (.int .u64 ((2^64-1-p:Nat):Int)) w:=by
  change(Op.intBits .xor .u64 IntKind.u64.max (p:Int)).run P w=_;unfold Op.intBits;simp only[];rw[hb,hw];simp
 simp[hu]
theorem Rg.Vb {xt:TypeId} {κ:IntKind} {p:Int} (hx:ev L x=some (.int κ p)) (hd:Nat.blt d n=true) (k:Rg P r n ops rest ((d,.int κ (κ.wrap (0-p)))::L) ds w K):
  Rg P r n ops ({dst:=some d,op:= .unOp .neg xt x,type:=ty,pos,after:=af,guard:=none}::rest) L ds w K:=by
 refine .op (fun _ h=>by cases h) rfl rfl hd _ w (fun ρ h=>?_) k;simp only[execOp,h x _ hx];simp[Op.unary,Op.intArith]
theorem Bb (p q:Nat) (hp:p<2^64) (hq:q<2^64):IntKind.u64.wrap (BitVec.ofInt IntKind.u64.bits (p:Int)&&&BitVec.ofInt IntKind.u64.bits (q:Int)).toNat=((p&&&q:Nat):Int):=by
 have h:∀z:Nat,z<2^64→((z:Int)%((2^IntKind.u64.bits:Nat):Int)).toNat=z:=fun z hz=>by
  change((z:Int)%((18446744073709551616:Nat):Int)).toNat=z;omega
 rw[BitVec.toNat_and,ng,ng,h p hp,h q hq];exact IntWalk.u64_in _ (by have:=Nat.and_le_left (n:=p) (m:=q);omega)
theorem PW (p q:Nat) (hp:p<2^64) (hq:q<2^64):IntKind.u64.wrap (BitVec.ofInt IntKind.u64.bits (p:Int)^^^BitVec.ofInt IntKind.u64.bits (q:Int)).toNat=((p^^^q:Nat):Int):=by
 have h:∀z:Nat,z<2^64→((z:Int)%((2^IntKind.u64.bits:Nat):Int)).toNat=z:=fun z hz=>by
  change((z:Int)%((18446744073709551616:Nat):Int)).toNat=z;omega
 rw[BitVec.toNat_xor,ng,ng,h p hp,h q hq];exact IntWalk.u64_in _ (by have:=Nat.xor_lt_two_pow hp hq;omega)
end
def bit (ws:List Nat) (i:Nat):Bool:=(ws.getD (i/64) 0).testBit (i%64)
def Words (ws:List Nat):Prop:=∀x∈ws,x<2^64
theorem Words.get {ws:List Nat} (h:Words ws) (k:Nat):ws.getD k 0<2^64:=by
 rw[bT]
 cases hx:ws[k]? with
 |none=>simp
 |some x=>exact h x (aI hx)
theorem y5 (ws:List Nat) (k j x:Nat) (hk:k<ws.length):(ws.set k x).getD j 0=if j=k then x else ws.getD j 0:=by
 rw[bT,bT,dJ];by_cases h:k=j
 ·subst h;simp[hk]
 ·rw[if_neg h,if_neg (fun e=>h e.symm)]
theorem Words.set {ws:List Nat} (h:Words ws) {k x:Nat} (hx:x<2^64):Words (ws.set k x):=fun y hy=>by
 rcases List.mem_or_eq_of_mem_set hy with h1|h1
 ·exact h y h1
 ·rw[h1];exact hx
theorem Fh {ws:List Nat} (hw:Words ws) {i:Nat} (hi:i/64<ws.length) (j:Nat):bit (ws.set (i/64) (ws.getD (i/64) 0^^^2^(i%64))) j=(bit ws j ^^ decide (j=i)):=by
 unfold bit;rw[y5 _ _ _ _ hi];by_cases h:j/64=i/64
 ·rw[if_pos h,Nat.testBit_xor,Nat.testBit_two_pow,h];congr 1;exact decide_eq_decide.2 (by omega)
 ·rw[if_neg h,decide_eq_false (by intro e;rw[e]at h;exact h rfl),Bool.xor_false]
theorem y6 (x i t:Nat):(x/2^i).testBit t=x.testBit (t+i):=Nat.testBit_div_two_pow x t
theorem Fi:∀x:Nat,0<x→∃k m,x=2^k*(2*m+1):=by
 intro x
 induction x using Nat.strongRecOn with
 |_ x ih=>
  intro h;by_cases h2:x%2=1
  ·exact⟨0,x/2,by omega⟩
  ·obtain⟨k,m,e⟩:=ih (x/2) (by omega) (by omega);refine⟨k+1,m,?_⟩;rw[Nat.pow_succ,Nat.mul_right_comm,←e];omega
theorem Fj (m:Nat):(2*m+1).testBit 0=true:=by rw[Nat.testBit_zero];exact decide_eq_true (by omega)
theorem IK (m:Nat):(2*m).testBit 0=false:=by rw[Nat.testBit_zero];exact decide_eq_false (by omega)
theorem xA {k m:Nat}:(2^k*(2*m+1)).testBit k=true∧∀t,t<k→(2^k*(2*m+1)).testBit t=false:=by
 have h:=fun j=>Nat.testBit_two_pow_mul_add (2*m+1) (b:=0) (i:=k) (Nat.two_pow_pos k) j
 simp only[Nat.add_zero]at h;constructor
 ·rw[h k,if_neg (by omega),Nat.sub_self,Fj]
 ·intro t ht;rw[h t,if_pos ht,Nat.zero_testBit]
theorem IL {k m:Nat} (hx:2^k*(2*m+1)<2^64):(2^k*(2*m+1))&&&(2^64-2^k*(2*m+1))=2^k:=by
 have hp:=Nat.two_pow_pos k;have xi:0<2^k*(2*m+1):=Nat.mul_pos hp (by omega)
 have e1:2^64-2^k*(2*m+1)=2^64-((2^k*(2*m)+(2^k-1))+1):=by
  have:2^k*(2*m+1)=2^k*(2*m)+2^k:=by rw[Nat.mul_add,Nat.mul_one]
  omega
 apply Nat.eq_of_testBit_eq;intro j
 have e2:2^k*(2*m)+(2^k-1)<2^64:=by
  have:2^k*(2*m+1)=2^k*(2*m)+2^k:=by rw[Nat.mul_add,Nat.mul_one]
  omega
 rw[Nat.testBit_and,e1,Nat.testBit_two_pow_sub_succ e2,Nat.testBit_two_pow_mul_add _ (by omega),Nat.testBit_two_pow_sub_one,Nat.testBit_two_pow];have h:=Nat.testBit_two_pow_mul_add (2*m+1) (b:=0) (i:=k) hp j;simp only[Nat.add_zero]at h;rw[h];rcases ir j k with h1|h1|h1
 ·rw[if_pos h1,Nat.zero_testBit,eH,decide_eq_false (by omega)]
 ·subst h1
  have hj:j<64:=by
   rcases cU j 64 with h2|h2
   ·exact h2
   ·have:=kV (n:=2) (by decide) h2;have:2^j*1≤2^j*(2*m+1):=Nat.mul_le_mul_left _ (by omega);omega
  rw[if_neg (iy _),if_neg (iy _),Nat.sub_self,Fj,IK,decide_eq_true hj,decide_eq_true rfl];rfl
 ·rw[if_neg (by omega),if_neg (by omega),decide_eq_false (show¬k=j by omega)];obtain⟨t,rfl⟩:∃t,j=k+(t+1):=⟨j-k-1,by omega⟩;rw[show k+(t+1)-k=t+1 from by omega,Nat.testBit_succ,Nat.testBit_succ,show(2*m+1)/2=m from by omega,show 2*m/2=m from by omega]
  cases m.testBit t<;>simp
def Fk:List Nat:=[0,1,56,2,57,49,28,3,61,58,42,50,38,29,17,4,62,47,59,36,45,43,51,22,53,39,33,30,24,18,12,5,63,55,48,27,60,41,37,16,46,35,44,21,52,32,23,11,54,26,40,15,34,20,31,10,25,14,19,9,13,8,7,6]
theorem Mc:∀k,k<64→(2^k*285870213051353865)%2^64/2^58<64∧Fk[(2^k*285870213051353865)%2^64/2^58]? =some k:=by decide+kernel
theorem xB (n:Nat):IntKind.u64.wrap (n:Int)=((n%2^64:Nat):Int):=by
 have:IntKind.u64.wrap (n:Int)=(n:Int)%18446744073709551616:=by simp[IntKind.wrap,IntKind.bits,IntKind.signed]
 rw[this];omega
theorem Md (x t:Nat) (ht:t<64):((x:Int)).fdiv (2^min ((t:Int)).toNat IntKind.u64.bits)=((x/2^t:Nat):Int):=by
 rw[aw,show min t IntKind.u64.bits=t from rT (show t≤64 by omega),show(2:Int)^t=((2^t:Nat):Int)from by simp,Int.fdiv_eq_ediv_of_nonneg _ (Int.natCast_nonneg _)];rfl
theorem PX (t:Nat) (ht:t<64):IntKind.u64.wrap (1*2^min ((t:Int)).toNat IntKind.u64.bits)=((2^t:Nat):Int):=by
 have h:(2:Nat)^t<2^64:=Nat.pow_lt_pow_right (by decide) ht;rw[aw,show min t IntKind.u64.bits=t from rT (show t≤64 by omega),Int.one_mul,show(2:Int)^t=((2^t:Nat):Int)from by simp,xB,lp h]
def l6 (ws:List Nat):Array Value:=(ws.map fun(x:Nat)=>Value.int .u64 (x:Int)).toArray
theorem gB {ws:List Nat} {k:Nat} (hk:k<ws.length):(l6 ws)[k]? =some (.int .u64 (ws.getD k 0:Nat)):=by
 simp[l6,bT,aD hk]
theorem oM (ws:List Nat) (k x:Nat):(l6 ws).setIfInBounds k (.int .u64 (x:Int))=l6 (ws.set k x):=by
 simp[l6,List.map_set]
structure fQ (Ts Tw:TypeId) (n:Nat) (ws:List Nat) (M:aB) (w:World) (bs bw:Nat):Prop where
 ms:M bs
 mw:M bw
 ne:bs≠bw
 s:w.heap[bs]? =some (.cells #[.int .i64 n,.slice (some ⟨bw,0,none⟩) ws.length ws.length] Ts (0,0))
 w:w.heap[bw]? =some (.cells (l6 ws) Tw (0,0))
 len:ws.length=(n+63)/64
 ok:Words ws
 nn:n≤1099511627776
theorem fQ.step {Ts Tw:TypeId} {n:Nat} {ws:List Nat} {M M' N:aB} {w w':World} {bs bw:Nat} (h:fQ Ts Tw n ws M w bs bw) (s:Step M w M' w' N) (h1: ¬N bs) (h2: ¬N bw):fQ Ts Tw n ws M' w' bs bw:=
 ⟨(s.mem bs (ak h.s)).2 h.ms,(s.mem bw (ak h.w)).2 h.mw,h.ne,s.bJ h.s h1,s.bJ h.w h2,h.len,h.ok,h.nn⟩
theorem fQ.put {Ts Tw:TypeId} {n:Nat} {ws qR:List Nat} {M:aB} {w w':World} {bs bw:Nat} (h:fQ Ts Tw n ws M w bs bw) (s:Step M w M w' (fun b=>b=bw)) (hl:qR.length=ws.length) (hw:w'.heap[bw]? =some (.cells (l6 qR) Tw (0,0))) (ok:Words qR):fQ Ts Tw n qR M w' bs bw:=
 ⟨h.ms,h.mw,h.ne,by rw[hl];exact s.bJ h.s h.ne,hw,by rw[hl];exact h.len,ok,h.nn⟩
def KD (n:Nat) (ws:List Nat) (i:Int):Bool:=decide (0≤i∧i<n)&&bit ws i.toNat
section
variable {P:Program} {r:Option Nat} {n:Nat} {L:Sl} {ds:List Deferred} {w:World} {K:Kt} {ops:Array Oper} {rest:List Oper} {d:Nat} {x:Operand} {ty:TypeId} {pos:String} {af:Array Edge}
theorem Rg.xC {t e:TypeId} {a:Option Addr} {l c:Nat} (ht:P.underlying t=some (.slice e)) (hx:ev L x=some (.slice a l c)) (hd:Nat.blt d n=true)
  (k:Rg P r n ops rest ((d,.int .i64 (l:Int))::L) ds w K):
  Rg P r n ops ({dst:=some d,op:= .call {callee:= .builtin .len,args:= #[x],argTypes:= #[t]},type:=ty,pos,after:=af,guard:=none}::rest) L ds w K:=by
 refine .op (fun _ h=>by cases h) rfl rfl hd _ w (fun ρ h=>?_) k;simp[execOp,resolve,invoke,builtin,h x _ hx,Builtin.len_,run_underlying ht,goInt]
end
theorem xD (ws:List Nat) {k x:Nat} (hk:k<ws.length) (j:Nat):bit (ws.set k x) j=if j/64=k then x.testBit (j%64)else bit ws j:=by
 unfold bit;rw[y5 _ _ _ _ hk]
 split<;>rfl
theorem Fl {x t:Nat} (hx:x<2^64) (ht:t<64):(2^64-1-x).testBit t= !x.testBit t:=by
 rw[show 2^64-1-x=2^64-(x+1)from by omega,Nat.testBit_two_pow_sub_succ hx,decide_eq_true ht,cZ]
theorem IM {ws:List Nat} {j:Nat} (h:ws.length≤j/64):bit ws j=false:=by
 unfold bit;rw[bT,fI h];simp
theorem y7 (k j:Nat):bit (List.replicate k 0) j=false:=by
 unfold bit;rw[bT,List.getElem?_replicate]
 split<;>simp
def KE (ws:List Nat) (p:Nat) (r:Int):Prop:=(∃j:Nat,r=j∧p≤j∧bit ws j=true∧∀t,p≤t→t<j→bit ws t=false)∨(r= -1∧∀t,p≤t→bit ws t=false)
theorem sT {ws:List Nat} {i t:Nat} (h:i%64+t<64):bit ws (i+t)=(ws.getD (i/64) 0/2^(i%64)).testBit t:=by
 unfold bit;rw[y6,show(i+t)/64=i/64 from by omega,show(i+t)%64=t+i%64 from by omega]
theorem y8 {x i:Nat} (hx:x<2^64) (hi:i<64) {k m:Nat} (h:x/2^i=2^k*(2*m+1)):i+k<64:=by
 rcases cU (i+k) 64 with h1|h1
 ·exact h1
 ·exfalso;have h2:(x/2^i).testBit k=true:=by rw[h];exact xA.1
  rw[y6]at h2;have:=Nat.testBit_lt_two_pow (nf hx (kV (n:=2) (by decide) (show 64≤k+i by omega)));rw[this]at h2;cases h2
end Go.K
namespace Go.K
abbrev Tw:=Int×Int×Int
end Go.K
namespace Go.K
open Go.RowKit (Below)
open Go.Maps (Keyed)
open Go.ChangeMaps (putKey delKey notKey)
abbrev DU:=DataW Unit
structure Me (P:Program) (k:TypeId) (R:Value→Option (DU×List MemPlace)) (M:aB) (w:World) (b:Nat) (m:List (Lit×DU)):Prop where
 mut_:M b
 own:w.ownsMap P k R b m.length (.map m)
section
variable {P:Program} {r:Option Nat} {n:Nat} {L:Sl} {ds:List Deferred} {w:World} {K:Kt} {ops:Array Oper} {rest:List Oper} {d:Nat} {x y z:Operand} {ty:TypeId} {pos:String} {af:Array Edge}
variable {kt:TypeId} {R:Value→Option (DU×List MemPlace)} {M:aB} {b:Nat} {m:List (Lit×DU)}
theorem Step.sU {w w':World} (h:Below w.heap.size w w') (M:aB):Step M w M w' aA:=
 ⟨fun h0 b hb=>nf (h0 b hb) h.size,h.os,h.tape,h.output,h.size,fun _ _=>Iff.rfl,fun b hb _=>h.block b hb,fun _ h=>h.elim⟩
end
end Go.K
namespace Go.K
def allM:aB:=fun _=>True
theorem Step.all {M M' N:aB} {w w':World} (s:Step M w M' w' N):Step allM w allM w' N:=⟨fun h=>absurd (h w.heap.size trivial) (iy _),s.os,s.tape,s.output,s.size,fun _ _=>Iff.rfl,s.same,fun _ _=>trivial⟩
theorem Step.toAny {M M':aB} {w w':World} (s:Step M w M' w' aA) (M1:aB):Step M1 w M1 w' aA:=s.any M1
theorem eA.int {κ:IntKind} {M M':aB} {w w':World}:∀{xs:List Int} {C:List Value},eA (RT.int κ) M w xs C→eA (RT.int κ) M' w' xs C
 |[],_,h=>h
 |x::xs,C,h=>by
  obtain⟨vs,r,h1,h2,h3⟩:=h;exact⟨vs,r,h1,h2,eA.int h3⟩
theorem Own.IN {κ:IntKind} {e:TypeId} {M:aB} {w:World} {base:Nat} {v:Value} {xs:List Int} (h:Own (RT.int κ) e M w base v xs) {M':aB} (hm:∀b,v.ownBlock=some b→M' b):Own (RT.int κ) e M' w base v xs:=by
 obtain⟨⟨C,h1,h2⟩,_⟩:=h;exact⟨⟨C,h1,eA.int h2⟩,hm⟩
theorem Own.PY {κ:IntKind} {e:TypeId} {N:aB} {w w':World} {base:Nat} {v:Value} {xs:List Int} (h:Own (RT.int κ) e allM w base v xs) (s:Step allM w allM w' N) (hn:∀b,v.ownBlock=some b→¬N b):Own (RT.int κ) e allM w' base v xs:=by
 obtain⟨⟨C,h1,h2⟩,_⟩:=h;refine⟨⟨C,⟨h1.1,?_⟩,eA.int h2⟩,fun _ _=>trivial⟩;rcases h1.2 with h3|⟨g,cap,cur,h3,h4,h5,h6,h7,h8⟩
 ·exact .inl h3
 ·exact .inr ⟨g,cap,cur,h3,h4,by rw[s.same g (ak h5) (hn g (by rw[h3];rfl))];exact h5,h6,h7,h8⟩
def nX (v:Value):aB:=fun b=>v.ownBlock=some b
theorem Own.lone {κ:IntKind} {e:TypeId} {M:aB} {w:World} {base:Nat} {v:Value} {xs:List Int} (h:Own (RT.int κ) e M w base v xs):Own (RT.int κ) e (nX v) w base v xs:=h.IN fun _ h=>h
end Go.K
namespace Go.K
def y9 (at':Nat→Nat) (cont:Nat→Bool):Nat×Nat:=
 if at' 0<0x80 then(at' 0,1)
 else if at' 0/32==6&&cont 1 then
  if(at' 0%32)*64+at' 1%64≥0x80 then((at' 0%32)*64+at' 1%64,2)else(65533,1)
 else if at' 0/16==14&&cont 1&&cont 2 then
  if(at' 0%16)*4096+(at' 1%64)*64+at' 2%64≥0x800&&Utf8.valid ((at' 0%16)*4096+(at' 1%64)*64+at' 2%64:Nat)then((at' 0%16)*4096+(at' 1%64)*64+at' 2%64,3)else(65533,1)
 else if at' 0/8==30&&cont 1&&cont 2&&cont 3 then
  if(at' 0%8)*262144+(at' 1%64)*4096+(at' 2%64)*64+at' 3%64≥0x10000&&Utf8.valid ((at' 0%8)*262144+(at' 1%64)*4096+(at' 2%64)*64+at' 3%64:Nat)then((at' 0%8)*262144+(at' 1%64)*4096+(at' 2%64)*64+at' 3%64,4)else(65533,1)
 else(65533,1)
theorem DD (s:ByteArray) (i:Nat):Utf8.decode s i=y9 (fun k=>(s.get! (i+k)).toNat) (fun k=>decide (i+k<s.size)&&(s.get! (i+k)).toNat/64==2):=rfl
def iv (l:List UInt8) (k:Nat):Nat:=(l.getD k 0).toNat
def ij (l:List UInt8) (k:Nat):Bool:=decide (k<l.length)&&iv l k/64==2
def dec (l:List UInt8):Nat×Nat:=y9 (iv l) (ij l)
theorem DE (l:List UInt8) (j:Nat):(⟨l.toArray⟩:ByteArray).get! j=l.getD j 0:=by
 show l.toArray[j]! =_;rw[bT,getElem!_def];simp only[fJ]
 cases l[j]? <;>rfl
theorem Bc (l:List UInt8) (pos:Nat):Utf8.decode ⟨l.toArray⟩ pos=dec (l.drop pos):=by
 rw[DD,dec]
 have h1:(fun k=>((⟨l.toArray⟩:ByteArray).get! (pos+k)).toNat)=iv (l.drop pos):=by
  funext k;rw[DE,iv,bT,bT,List.getElem?_drop]
 have h2:(fun k=>decide (pos+k<(⟨l.toArray⟩:ByteArray).size)&&((⟨l.toArray⟩:ByteArray).get! (pos+k)).toNat/64==2)=ij (l.drop pos):=by
  funext k;have:=congrFun h1 k;rw[this,ij,cW];congr 1;have hs:(⟨l.toArray⟩:ByteArray).size=l.length:=by simp[ByteArray.size]
  rw[hs];exact decide_eq_decide.2 (by omega)
 rw[h1,h2]
theorem sV {l:List UInt8} {k:Nat} (h:ij l k=true):k<l.length:=by
 simp only[ij,bD,decide_eq_true_eq]at h;exact h.1
theorem jS {l:List UInt8} (hl:l≠[]):1≤(dec l).2∧(dec l).2≤l.length:=by
 have h0:0<l.length:=lS.2 hl;unfold dec y9
 split
 ·exact⟨a7 _,h0⟩
 ·split
  ·rename_i h
   simp only[bD]at h;have:=sV h.2
   split<;>(simp only;omega)
  ·split
   ·rename_i h
    simp only[bD]at h;have:=sV h.2
    split<;>(simp only;omega)
   ·split
    ·rename_i h
     simp only[bD]at h;have:=sV h.2
     split<;>(simp only;omega)
    ·exact⟨a7 _,h0⟩
theorem l7 (l:List UInt8) (k:Nat):iv l k<256:=by unfold iv;exact UInt8.toNat_lt _
theorem qn (l:List UInt8):(dec l).1≤1114111:=by
 unfold dec y9
 split
 ·simp only;omega
 ·split
  ·have:=l7 l 0
   split<;>(simp only;omega)
  ·split
   ·have:=l7 l 0
    split<;>(simp only;omega)
   ·split
    ·split
     ·rename_i h
      simp only[bD,Utf8.valid,Bool.or_eq_true,decide_eq_true_eq]at h;simp only;omega
     ·simp only;omega
    ·simp only;omega
def dZ (l:List UInt8):List Int:=match l with
 |[]=>[]
 |c::r=>((dec (c::r)).1:Int)::dZ ((c::r).drop (dec (c::r)).2)
termination_by l.length
decreasing_by
 have:=(jS (l:=c::r) (by simp)).1;simp only[cW,cA];omega
theorem nT:dZ []=[]:=by unfold dZ;rfl
theorem l8 {l:List UInt8} (h:l≠[]):dZ l=((dec l).1:Int)::dZ (l.drop (dec l).2):=by
 cases l with
 |nil=>exact absurd rfl h
 |cons c r=>rw[dZ]
theorem gp (l:List UInt8):(dZ l).length≤l.length:=by
 induction hn:l.length using Nat.strongRecOn generalizing l with
 |_ n ih=>
  by_cases h:l=[]
  ·subst h;rw[nT];simp
  ·rw[l8 h,cA];have hw:=jS h;have:=ih _ (by rw[cW];omega) (l.drop (dec l).2) rfl;rw[cW]at this;omega
section
variable {P:Program} {r:Option Nat} {n:Nat} {L:Sl} {ds:List Deferred} {w:World} {K:Kt} {ops:Array Oper} {rest:List Oper} {d:Nat} {x:Operand} {ty:TypeId} {pos:String} {af:Array Edge}
theorem Rg.Fm {t:TypeId} {l:List UInt8} (M:aB) (ht:P.underlying t=some .string) (hx:ev L x=some (.string ⟨l.toArray⟩)) (hd:Nat.blt d n=true)
  (k:∀b w',w.heap.size≤b→b<w'.heap.size→w'.heap[b]? =some (.stringIter ⟨l.toArray⟩ 0)→Step M w (ins M b) w' aA→Rg P r n ops rest ((d,.pointer (some ⟨b,0,none⟩))::L) ds w' K):
  Rg P r n ops ({dst:=some d,op:= .range t x,type:=ty,pos,after:=af,guard:=none}::rest) L ds w K:=by
 refine .op (fun _ h=>by cases h) rfl rfl hd (.pointer (some ⟨w.heap.size,0,none⟩)) (w.alloc (.stringIter ⟨l.toArray⟩ 0)) (fun ρ hρ=>?_) (k w.heap.size _ (a7 _) (by simp) (cz w _) ((dg M w _).own (a7 _) (by simp)));simp only[execOp,hρ x _ hx];simp[Instr.range,db,run_underlying ht,newObj,Sem.run]
theorem gC (M:aB) {b:Nat} {o:Obj} (hm:M b):Step M w M {w with heap:=w.heap.setIfInBounds b o} (fun k=>k=b):=
 ⟨fun h b hb=>by simpa using h b hb,rfl,rfl,rfl,by simp,fun _ _=>Iff.rfl,fun k _ hn=>by simp[cT,Ne.symm hn],fun k hk=>by subst hk;exact hm⟩
theorem nu {b p:Nat} {s:ByteArray} (hb:w.heap[b]? =some (.stringIter s p)):(getObj b).run P w= .ok (.stringIter s p) w:=by simp[getObj,Sem.run,hb]
theorem Rg.IP {l:List UInt8} {b p:Nat} {M:aB} (hx:ev L x=some (.pointer (some ⟨b,0,none⟩))) (hb:w.heap[b]? =some (.stringIter ⟨l.toArray⟩ p)) (hm:M b) (hd:Nat.blt d n=true)
  (k1:p<l.length→∀w',w'.heap[b]? =some (.stringIter ⟨l.toArray⟩ (p+(dec (l.drop p)).2))→Step M w M w' (fun k=>k=b)→Rg P r n ops rest ((d,.tuple #[.bool true,.int .i64 p,.int .i32 ((dec (l.drop p)).1:Nat)])::L) ds w' K)
  (k2: ¬p<l.length→Rg P r n ops rest ((d,.tuple #[.bool false])::L) ds w K):
  Rg P r n ops ({dst:=some d,op:= .next x true,type:=ty,pos,after:=af,guard:=none}::rest) L ds w K:=by
 have hs:(⟨l.toArray⟩:ByteArray).size=l.length:=by simp[ByteArray.size]
 have dC:=ak hb;by_cases h:p<l.length
 ·have key:=k1 h {w with heap:=w.heap.setIfInBounds b (.stringIter ⟨l.toArray⟩ (p+(dec (l.drop p)).2))} (by simp[cT,dC]) (gC M hm);refine .op (fun _ h=>by cases h) rfl rfl hd _ _ (fun ρ hρ=>?_) key;simp only[execOp,hρ x _ hx,Instr.next,db,nu hb,dw];rw[if_pos (by rw[hs];exact h)];simp[Bc,setObj,Sem.run,goInt,hb]
 ·refine .op (fun _ h=>by cases h) rfl rfl hd _ w (fun ρ hρ=>?_) (k2 h);simp only[execOp,hρ x _ hx,Instr.next,db,nu hb,dw];rw[if_neg (by rw[hs];exact h)];simp
theorem Rg.CF {t:TypeId} {i:Operand} {l:List UInt8} {κ:IntKind} {j:Int} {c:UInt8} (ht:P.underlying t=some .string) (hx:ev L x=some (.string ⟨l.toArray⟩)) (hi:ev L i=some (.int κ j)) (hd:Nat.blt d n=true) (hj:0≤j) (hc:l[j.toNat]? =some c)
  (k:Rg P r n ops rest ((d,.int .u8 (c.toNat:Int))::L) ds w K):
  Rg P r n ops ({dst:=some d,op:= .index t x i,type:=ty,pos,after:=af,guard:=none}::rest) L ds w K:=by
 have dC:=(av.1 hc).1;have hs:(⟨l.toArray⟩:ByteArray).size=l.length:=by simp[ByteArray.size]
 have hg:(⟨l.toArray⟩:ByteArray)[j.toNat]? =some c:=by
  rw[getElem?_pos _ _ (by rw[hs];exact dC)];congr 1;have:=(av.1 hc).2;rw[←this];rfl
 refine .op (fun _ h=>by cases h) rfl rfl hd _ w (fun ρ hρ=>?_) k;simp only[execOp,hρ x _ hx,hρ i _ hi,Instr.index,db,asIntOf,Sem.run_pure,dw,run_underlying ht];simp[hj,hg]
theorem oh (l:List UInt8) (a b:Nat):(⟨l.toArray⟩:ByteArray).extract a b=⟨((l.take b).drop a).toArray⟩:=by
 have:((⟨l.toArray⟩:ByteArray).extract a b).data=((l.take b).drop a).toArray:=by
  rw[ByteArray.data_extract];apply Array.toList_inj.1;rw[Array.toList_extract,List.extract_eq_take_drop,List.drop_take]
 exact congrArg ByteArray.mk this
theorem Rg.IQ {t:TypeId} {i:Operand} {l:List UInt8} {κ:IntKind} {j:Int} (ht:P.underlying t=some .string) (hx:ev L x=some (.string ⟨l.toArray⟩)) (hi:ev L i=some (.int κ j)) (hd:Nat.blt d n=true) (hj:0≤j∧j≤l.length)
  (k:Rg P r n ops rest ((d,.string ⟨(l.drop j.toNat).toArray⟩)::L) ds w K):
  Rg P r n ops ({dst:=some d,op:= .slice t x (some i) none none,type:=ty,pos,after:=af,guard:=none}::rest) L ds w K:=by
 have hs:(⟨l.toArray⟩:ByteArray).size=l.length:=by simp[ByteArray.size]
 refine .op (fun _ h=>by cases h) rfl rfl hd _ w (fun ρ hρ=>?_) k;simp only[execOp,hρ x _ hx,dN,rU,hρ i _ hi];rw[db,run_sliceAt_string _ _ _ _ _ _ ht,run_slice_string_l _ _ _ ht _ _ hj.1 (by rw[hs];exact hj.2),oh,hs,List.take_length];simp
theorem Rg.KF {t:TypeId} {i:Operand} {l:List UInt8} {κ:IntKind} {j:Int} (ht:P.underlying t=some .string) (hx:ev L x=some (.string ⟨l.toArray⟩)) (hi:ev L i=some (.int κ j)) (hd:Nat.blt d n=true) (hj:0≤j∧j≤l.length)
  (k:Rg P r n ops rest ((d,.string ⟨(l.take j.toNat).toArray⟩)::L) ds w K):
  Rg P r n ops ({dst:=some d,op:= .slice t x none (some i) none,type:=ty,pos,after:=af,guard:=none}::rest) L ds w K:=by
 have hs:(⟨l.toArray⟩:ByteArray).size=l.length:=by simp[ByteArray.size]
 refine .op (fun _ h=>by cases h) rfl rfl hd _ w (fun ρ hρ=>?_) k;simp only[execOp,hρ x _ hx,dN,rU,hρ i _ hi];rw[db,run_sliceAt_string _ _ _ _ _ _ ht,run_slice_string_h _ _ _ ht _ _ hj.1 (by rw[hs];exact hj.2),oh,List.drop_zero];simp
end
theorem Own.dE {α:Type} {A:RT α} {e:TypeId} {M:aB} {w:World} {base b p:Nat} {s:ByteArray} {v:Value} {xs:List α} (h:Own A e M w base v xs) (hb:w.heap[b]? =some (.stringIter s p)):v.ownBlock≠some b:=fun hv=>by
 obtain⟨⟨C,h1,_⟩,_⟩:=h;rcases h1.2 with⟨h2,_⟩|⟨g,cap,cur,h2,_,h3,_⟩
 ·rw[h2]at hv;cases hv
 ·rw[h2]at hv;cases hv;rw[h3]at hb;cases hb
theorem Own.iG {α β:Type} {A:RT α} {B:RT β} {e e':TypeId} {M M':aB} {w:World} {base Cw:Nat} {v u:Value} {xs:List α} {ys:List β} (h:Own A e M w base v xs) (h':Own B e' M' w Cw u ys) (ht:e≠e') {b:Nat} (hb:v.ownBlock=some b):u.ownBlock≠some b:=fun hu=>by
 obtain⟨⟨C,h1,_⟩,_⟩:=h;obtain⟨⟨C',KB,_⟩,_⟩:=h';rcases h1.2 with⟨h2,_⟩|⟨g,cap,cur,h2,_,h3,_⟩
 ·rw[h2]at hb;cases hb
 ·rcases KB.2 with⟨xm,_⟩|⟨g',Pw,Px,xm,_,h3',_⟩
  ·rw[xm]at hu;cases hu
  ·rw[h2]at hb;rw[xm]at hu;cases hb;cases hu;rw[h3]at h3';cases h3';exact ht rfl
theorem Own.eR {α:Type} {A:RT α} {e t:TypeId} {M:aB} {w:World} {base b:Nat} {v:Value} {xs:List α} {cs:Array Value} {fr:Nat×Nat} (h:Own A e M w base v xs) (hb:w.heap[b]? =some (.cells cs t fr)) (ht:t≠e):v.ownBlock≠some b:=fun hv=>by
 obtain⟨⟨C,h1,_⟩,_⟩:=h;rcases h1.2 with⟨h2,_⟩|⟨g,cap,cur,h2,_,h3,_⟩
 ·rw[h2]at hv;cases hv
 ·rw[h2]at hv;cases hv;rw[h3]at hb;cases hb;exact ht rfl
end Go.K
namespace Go.K
open Go.Proofs
theorem I3:TI Tryz.prog 3 (.int .i64 0) 1 8:=by unfold TI;kernel_rfl
theorem I5:TI Tryz.prog 5 (.int .u8 0) 1 1:=by unfold TI;kernel_rfl
theorem I9:TI Tryz.prog 9 (.string ⟨#[]⟩) 1 16:=by unfold TI;kernel_rfl
theorem TZ:TI Tryz.prog 26 (.int .i64 0) 1 8:=by unfold TI;kernel_rfl
theorem nY:TI Tryz.prog 32 (.slice none 0 0) 1 24:=by unfold TI;kernel_rfl
theorem o3:TI Tryz.prog 39 (.slice none 0 0) 1 24:=by unfold TI;kernel_rfl
theorem kE:TI Tryz.prog 41 (.agg #[(.int .i64 0),(.slice none 0 0)]) 2 32:=by unfold TI;kernel_rfl
theorem uD:TI Tryz.prog 43 (.agg #[(.int .i64 0),(.slice none 0 0),(.int .i64 0)]) 3 40:=by unfold TI;kernel_rfl
theorem o4:TI Tryz.prog 47 (.agg #[(.string ⟨#[]⟩),(.string ⟨#[]⟩)]) 2 32:=by unfold TI;kernel_rfl
theorem Ie:TI Tryz.prog 55 (.slice none 0 0) 1 24:=by unfold TI;kernel_rfl
theorem I98:TI Tryz.prog 98 (.slice none 0 0) 1 24:=by unfold TI;kernel_rfl
theorem gQ:TI Tryz.prog 127 (.agg #[(.string ⟨#[]⟩),(.string ⟨#[]⟩)]) 2 32:=by unfold TI;kernel_rfl
theorem oN:TI Tryz.prog 129 (.pointer none) 1 8:=by unfold TI;kernel_rfl
theorem za:TI Tryz.prog 147 (.slice none 0 0) 1 24:=by unfold TI;kernel_rfl
theorem gD:TI Tryz.prog 153 (.agg #[(.int .i64 0),(.slice none 0 0)]) 2 32:=by unfold TI;kernel_rfl
theorem Bd:TI Tryz.prog 191 (.slice none 0 0) 1 24:=by unfold TI;kernel_rfl
theorem Vc:TI Tryz.prog 193 (.agg #[(.slice none 0 0),(.slice none 0 0),(.int .i64 0)]) 3 56:=by unfold TI;kernel_rfl
theorem uN:TI Tryz.prog 195 (.agg #[(.int .i64 0),(.int .i64 0),(.int .i64 0),(.int .i64 0)]) 4 32:=by unfold TI;kernel_rfl
theorem DF:TI Tryz.prog 256 (.agg #[(.string ⟨#[]⟩),(.int .i64 0)]) 2 24:=by unfold TI;kernel_rfl
theorem Vd:TI Tryz.prog 309 (.agg #[(.pointer none),(.slice none 0 0)]) 2 32:=by unfold TI;kernel_rfl
theorem PZ:placesOf Tryz.prog 41=[(0,1),(1,1)].map some:=by kernel_rfl
theorem T0:placesOf Tryz.prog 43=[(0,2),(2,1)].map some:=by kernel_rfl
theorem B47:placesOf Tryz.prog 47=[(0,1),(1,1)].map some:=by kernel_rfl
theorem IS:placesOf Tryz.prog 153=[(0,1),(1,1)].map some:=by kernel_rfl
theorem Ve:placesOf Tryz.prog 193=[(0,1),(1,1),(2,1)].map some:=by kernel_rfl
theorem Vf:placesOf Tryz.prog 195=[(0,1),(1,1),(2,1),(3,1)].map some:=by kernel_rfl
theorem P0:placesOf Tryz.prog 256=[(0,1),(1,1)].map some:=by kernel_rfl
theorem mixed:Tryz.prog.follows .mixedOrders=true:=by kernel_rfl
theorem E65:Enters Tryz.prog 65:=enters Tryz.func65 rfl (by decide)
theorem T1:Enters Tryz.prog 74:=enters Tryz.func74 rfl (by decide)
theorem P1:Enters Tryz.prog 116:=enters Tryz.func116 rfl (by decide)
theorem P2:Enters Tryz.prog 117:=enters Tryz.func117 rfl (by decide)
theorem Vg:Enters Tryz.prog 150:=enters Tryz.func150 rfl (by decide)
theorem Vh:Enters Tryz.prog 151:=enters Tryz.func151 rfl (by decide)
theorem Vi:Enters Tryz.prog 152:=enters Tryz.func152 rfl (by decide)
theorem Vj:Enters Tryz.prog 153:=enters Tryz.func153 rfl (by decide)
theorem P3:Enters Tryz.prog 154:=enters Tryz.func154 rfl (by decide)
theorem Vk:Enters Tryz.prog 158:=enters Tryz.func158 rfl (by decide)
theorem Vl:Enters Tryz.prog 159:=enters Tryz.func159 rfl (by decide)
theorem Vm:Enters Tryz.prog 160:=enters Tryz.func160 rfl (by decide)
theorem Vn:Enters Tryz.prog 161:=enters Tryz.func161 rfl (by decide)
theorem Vo:Enters Tryz.prog 167:=enters Tryz.func167 rfl (by decide)
theorem Vp:Enters Tryz.prog 171:=enters Tryz.func171 rfl (by decide)
theorem Vq:Enters Tryz.prog 172:=enters Tryz.func172 rfl (by decide)
theorem Mf:Enters Tryz.prog 173:=enters Tryz.func173 rfl (by decide)
theorem Vr:Enters Tryz.prog 174:=enters Tryz.func174 rfl (by decide)
theorem P4:Enters Tryz.prog 191:=enters Tryz.func191 rfl (by decide)
theorem P5:Enters Tryz.prog 192:=enters Tryz.func192 rfl (by decide)
theorem Vs:Enters Tryz.prog 193:=enters Tryz.func193 rfl (by decide)
theorem Vt:Enters Tryz.prog 194:=enters Tryz.func194 rfl (by decide)
theorem Vu:Enters Tryz.prog 195:=enters Tryz.func195 rfl (by decide)
theorem Vv:Enters Tryz.prog 196:=enters Tryz.func196 rfl (by decide)
theorem Vw:Enters Tryz.prog 197:=enters Tryz.func197 rfl (by decide)
theorem Vx:Enters Tryz.prog 199:=enters Tryz.func199 rfl (by decide)
theorem Vy:Enters Tryz.prog 212:=enters Tryz.func212 rfl (by decide)
theorem Vz:Enters Tryz.prog 213:=enters Tryz.func213 rfl (by decide)
theorem P7:Enters Tryz.prog 214:=enters Tryz.func214 rfl (by decide)
theorem VA:Enters Tryz.prog 215:=enters Tryz.func215 rfl (by decide)
theorem VB:Enters Tryz.prog 216:=enters Tryz.func216 rfl (by decide)
theorem P8:Enters Tryz.prog 217:=enters Tryz.func217 rfl (by decide)
theorem VC:Enters Tryz.prog 218:=enters Tryz.func218 rfl (by decide)
theorem P9:Enters Tryz.prog 219:=enters Tryz.func219 rfl (by decide)
theorem Qa:Enters Tryz.prog 220:=enters Tryz.func220 rfl (by decide)
theorem VD:Enters Tryz.prog 221:=enters Tryz.func221 rfl (by decide)
theorem VE:Enters Tryz.prog 222:=enters Tryz.func222 rfl (by decide)
theorem Qb:Enters Tryz.prog 223:=enters Tryz.func223 rfl (by decide)
theorem VF:Enters Tryz.prog 224:=enters Tryz.func224 rfl (by decide)
theorem VG:Enters Tryz.prog 225:=enters Tryz.func225 rfl (by decide)
theorem VH:Enters Tryz.prog 233:=enters Tryz.func233 rfl (by decide)
theorem Qd:Enters Tryz.prog 250:=enters Tryz.func250 rfl (by decide)
theorem VI:Enters Tryz.prog 251:=enters Tryz.func251 rfl (by decide)
theorem VJ:Enters Tryz.prog 252:=enters Tryz.func252 rfl (by decide)
theorem VK:Enters Tryz.prog 253:=enters Tryz.func253 rfl (by decide)
theorem VL:Enters Tryz.prog 254:=enters Tryz.func254 rfl (by decide)
theorem VM:Enters Tryz.prog 255:=enters Tryz.func255 rfl (by decide)
theorem VN:Enters Tryz.prog 256:=enters Tryz.func256 rfl (by decide)
theorem Qe:Enters Tryz.prog 274:=enters Tryz.func274 rfl (by decide)
theorem VO:Enters Tryz.prog 277:=enters Tryz.func277 rfl (by decide)
end Go.K
namespace Go.K
open Go.Proofs
set_option maxRecDepth 10000
def eC (c:Int):Bool:=decide ((97≤c∧c≤122)∨(65≤c∧c≤90)∨(192≤c∧c≤591∧c≠215∧c≠247))
def k5 (c:Int):Bool:=decide (48≤c∧c≤57)
def ez (c:Int):Int:=if(65≤c∧c≤90)∨(192≤c∧c≤222∧c≠215)then c+32 else c
theorem zb (c:Int) (w0:World):
  Spec Tryz.prog 221 #[.int .i64 c] w0 (fun v w=>v= .bool (eC c)∧w=w0):=by
 refine aZ (args:=[_]) (fn:=Tryz.f221) Tryz.func221 rfl (n:=33) Tryz.ntmps221 (aj (ah (ai rfl rfl (ad (aj (ah (ae rfl rfl (dz rfl rfl rfl (ae rfl rfl ?_)))))))));refine aJ (g:=5) rfl (fun fR=>?_) (fun fR=>?_)
 ·refine al rfl rfl (ae rfl rfl (al rfl rfl (eV rfl rfl rfl (aR rfl rfl rfl (ae rfl rfl ?_)))));refine aJ (g:=9) rfl (fun xE=>?_) (fun xE=>?_)
  ·refine aq rfl rfl rfl rfl (aq rfl rfl rfl rfl (aq rfl rfl rfl rfl (cj rfl rfl rfl (cj rfl rfl rfl (aq rfl rfl rfl rfl (aR rfl rfl rfl (ae rfl rfl (aq rfl rfl rfl rfl (aq rfl rfl rfl rfl (aq rfl rfl rfl rfl (cj rfl rfl rfl ?_)))))))))));refine cj rfl rfl rfl (aq rfl rfl rfl rfl (aq rfl rfl rfl rfl (cj rfl rfl rfl (cj rfl rfl rfl (aq rfl rfl rfl rfl (aq rfl rfl rfl rfl (cj rfl rfl rfl (cj rfl rfl rfl (aq rfl rfl rfl rfl (aR rfl rfl rfl (ai rfl rfl ?_)))))))))));refine ad (aL ?_);exact aO rfl rfl ⟨by simp only[eC];first|rfl|(congr 1;first|(exact(decide_eq_true (by omega)).symm)|(exact(decide_eq_false (by omega)).symm)|(exact decide_eq_decide.2 (by omega))),rfl⟩
  ·refine al rfl rfl (ae rfl rfl (al rfl rfl (dz rfl rfl rfl (al rfl rfl (ae rfl rfl ?_)))));refine aJ (g:=12) rfl (fun oO=>?_) (fun oO=>?_)
   ·refine al rfl rfl (ae rfl rfl (al rfl rfl (eV rfl rfl rfl (al rfl rfl (aR rfl rfl rfl (az rfl rfl rfl (ae rfl rfl ?_)))))));refine aJ (g:=17) rfl (fun sY=>?_) (fun sY=>?_)
    ·refine aq rfl rfl rfl rfl (aq rfl rfl rfl rfl (aq rfl rfl rfl rfl (cj rfl rfl rfl (cj rfl rfl rfl (aq rfl rfl rfl rfl (aq rfl rfl rfl rfl (cj rfl rfl rfl (cj rfl rfl rfl (aq rfl rfl rfl rfl (aq rfl rfl rfl rfl (cj rfl rfl rfl ?_)))))))))));refine cj rfl rfl rfl (aq rfl rfl rfl rfl (aR rfl rfl rfl (ai rfl rfl (ad (aL ?_)))));exact aO rfl rfl ⟨by simp only[eC];first|rfl|(congr 1;first|(exact(decide_eq_true (by omega)).symm)|(exact(decide_eq_false (by omega)).symm)|(exact decide_eq_decide.2 (by omega))),rfl⟩
    ·refine al rfl rfl (ae rfl rfl (al rfl rfl (dz rfl rfl rfl (al rfl rfl (ae rfl rfl ?_)))));refine aJ (g:=20) rfl (fun ke=>?_) (fun ke=>?_)
     ·refine al rfl rfl (ae rfl rfl (al rfl rfl (eV rfl rfl rfl (al rfl rfl (aR rfl rfl rfl (al rfl rfl (ae rfl rfl ?_)))))));refine aJ (g:=24) rfl (fun ta=>?_) (fun ta=>?_)
      ·refine al rfl rfl (ae rfl rfl (al rfl rfl (eW rfl rfl rfl (al rfl rfl (aR rfl rfl rfl (al rfl rfl (ae rfl rfl ?_)))))));refine aJ (g:=28) rfl (fun tb=>?_) (fun tb=>?_)
       ·refine al rfl rfl (ae rfl rfl (al rfl rfl (eW rfl rfl rfl (al rfl rfl (aR rfl rfl rfl (az rfl rfl rfl (ai rfl rfl (ad (aL ?_)))))))));exact aO rfl rfl ⟨by simp only[eC];first|rfl|(congr 1;first|(exact(decide_eq_true (by omega)).symm)|(exact(decide_eq_false (by omega)).symm)|(exact decide_eq_decide.2 (by omega))),rfl⟩
       ·refine aq rfl rfl rfl rfl (aq rfl rfl rfl rfl (al rfl rfl (az rfl rfl rfl (az rfl rfl rfl (ai rfl rfl (ad (aL ?_)))))));exact aO rfl rfl ⟨by simp only[eC];first|rfl|(congr 1;first|(exact(decide_eq_true (by omega)).symm)|(exact(decide_eq_false (by omega)).symm)|(exact decide_eq_decide.2 (by omega))),rfl⟩
      ·refine aq rfl rfl rfl rfl (aq rfl rfl rfl rfl (al rfl rfl (az rfl rfl rfl (al rfl rfl (ae rfl rfl (aq rfl rfl rfl rfl (aq rfl rfl rfl rfl (al rfl rfl (az rfl rfl rfl (az rfl rfl rfl (ai rfl rfl ?_)))))))))));refine ad (aL ?_);exact aO rfl rfl ⟨by simp only[eC];first|rfl|(congr 1;first|(exact(decide_eq_true (by omega)).symm)|(exact(decide_eq_false (by omega)).symm)|(exact decide_eq_decide.2 (by omega))),rfl⟩
     ·refine aq rfl rfl rfl rfl (aq rfl rfl rfl rfl (al rfl rfl (az rfl rfl rfl (al rfl rfl (ae rfl rfl (aq rfl rfl rfl rfl (aq rfl rfl rfl rfl (al rfl rfl (az rfl rfl rfl (al rfl rfl (ae rfl rfl ?_)))))))))));refine aq rfl rfl rfl rfl (aq rfl rfl rfl rfl (al rfl rfl (az rfl rfl rfl (az rfl rfl rfl (ai rfl rfl (ad (aL ?_)))))));exact aO rfl rfl ⟨by simp only[eC];first|rfl|(congr 1;first|(exact(decide_eq_true (by omega)).symm)|(exact(decide_eq_false (by omega)).symm)|(exact decide_eq_decide.2 (by omega))),rfl⟩
   ·refine aq rfl rfl rfl rfl (aq rfl rfl rfl rfl (al rfl rfl (az rfl rfl rfl (az rfl rfl rfl (ae rfl rfl (al rfl rfl (ae rfl rfl (al rfl rfl (dz rfl rfl rfl (al rfl rfl (ae rfl rfl ?_)))))))))));refine aJ (g:=20) rfl (fun ke=>?_) (fun ke=>?_)
    ·refine al rfl rfl (ae rfl rfl (al rfl rfl (eV rfl rfl rfl (al rfl rfl (aR rfl rfl rfl (al rfl rfl (ae rfl rfl ?_)))))));refine aJ (g:=24) rfl (fun ta=>?_) (fun ta=>?_)
     ·refine al rfl rfl (ae rfl rfl (al rfl rfl (eW rfl rfl rfl (al rfl rfl (aR rfl rfl rfl (al rfl rfl (ae rfl rfl ?_)))))));refine aJ (g:=28) rfl (fun tb=>?_) (fun tb=>?_)
      ·refine al rfl rfl (ae rfl rfl (al rfl rfl (eW rfl rfl rfl (al rfl rfl (aR rfl rfl rfl (az rfl rfl rfl (ai rfl rfl (ad (aL ?_)))))))));exact aO rfl rfl ⟨by simp only[eC];first|rfl|(congr 1;first|(exact(decide_eq_true (by omega)).symm)|(exact(decide_eq_false (by omega)).symm)|(exact decide_eq_decide.2 (by omega))),rfl⟩
      ·refine aq rfl rfl rfl rfl (aq rfl rfl rfl rfl (al rfl rfl (az rfl rfl rfl (az rfl rfl rfl (ai rfl rfl (ad (aL ?_)))))));exact aO rfl rfl ⟨by simp only[eC];first|rfl|(congr 1;first|(exact(decide_eq_true (by omega)).symm)|(exact(decide_eq_false (by omega)).symm)|(exact decide_eq_decide.2 (by omega))),rfl⟩
     ·refine aq rfl rfl rfl rfl (aq rfl rfl rfl rfl (al rfl rfl (az rfl rfl rfl (al rfl rfl (ae rfl rfl (aq rfl rfl rfl rfl (aq rfl rfl rfl rfl (al rfl rfl (az rfl rfl rfl (az rfl rfl rfl (ai rfl rfl ?_)))))))))));refine ad (aL ?_);exact aO rfl rfl ⟨by simp only[eC];first|rfl|(congr 1;first|(exact(decide_eq_true (by omega)).symm)|(exact(decide_eq_false (by omega)).symm)|(exact decide_eq_decide.2 (by omega))),rfl⟩
    ·refine aq rfl rfl rfl rfl (aq rfl rfl rfl rfl (al rfl rfl (az rfl rfl rfl (al rfl rfl (ae rfl rfl (aq rfl rfl rfl rfl (aq rfl rfl rfl rfl (al rfl rfl (az rfl rfl rfl (al rfl rfl (ae rfl rfl ?_)))))))))));refine aq rfl rfl rfl rfl (aq rfl rfl rfl rfl (al rfl rfl (az rfl rfl rfl (az rfl rfl rfl (ai rfl rfl (ad (aL ?_)))))));exact aO rfl rfl ⟨by simp only[eC];first|rfl|(congr 1;first|(exact(decide_eq_true (by omega)).symm)|(exact(decide_eq_false (by omega)).symm)|(exact decide_eq_decide.2 (by omega))),rfl⟩
 ·refine aq rfl rfl rfl rfl (aq rfl rfl rfl rfl (az rfl rfl rfl (ae rfl rfl (al rfl rfl (ae rfl rfl (al rfl rfl (dz rfl rfl rfl (al rfl rfl (ae rfl rfl ?_)))))))));refine aJ (g:=12) rfl (fun oO=>?_) (fun oO=>?_)
  ·refine al rfl rfl (ae rfl rfl (al rfl rfl (eV rfl rfl rfl (al rfl rfl (aR rfl rfl rfl (az rfl rfl rfl (ae rfl rfl ?_)))))));refine aJ (g:=17) rfl (fun sY=>?_) (fun sY=>?_)
   ·refine aq rfl rfl rfl rfl (aq rfl rfl rfl rfl (aq rfl rfl rfl rfl (cj rfl rfl rfl (cj rfl rfl rfl (aq rfl rfl rfl rfl (aq rfl rfl rfl rfl (cj rfl rfl rfl (cj rfl rfl rfl (aq rfl rfl rfl rfl (aq rfl rfl rfl rfl (cj rfl rfl rfl ?_)))))))))));refine cj rfl rfl rfl (aq rfl rfl rfl rfl (aR rfl rfl rfl (ai rfl rfl (ad (aL ?_)))));exact aO rfl rfl ⟨by simp only[eC];first|rfl|(congr 1;first|(exact(decide_eq_true (by omega)).symm)|(exact(decide_eq_false (by omega)).symm)|(exact decide_eq_decide.2 (by omega))),rfl⟩
   ·refine al rfl rfl (ae rfl rfl (al rfl rfl (dz rfl rfl rfl (al rfl rfl (ae rfl rfl ?_)))));refine aJ (g:=20) rfl (fun ke=>?_) (fun ke=>?_)
    ·refine al rfl rfl (ae rfl rfl (al rfl rfl (eV rfl rfl rfl (al rfl rfl (aR rfl rfl rfl (al rfl rfl (ae rfl rfl ?_)))))));refine aJ (g:=24) rfl (fun ta=>?_) (fun ta=>?_)
     ·refine al rfl rfl (ae rfl rfl (al rfl rfl (eW rfl rfl rfl (al rfl rfl (aR rfl rfl rfl (al rfl rfl (ae rfl rfl ?_)))))));refine aJ (g:=28) rfl (fun tb=>?_) (fun tb=>?_)
      ·refine al rfl rfl (ae rfl rfl (al rfl rfl (eW rfl rfl rfl (al rfl rfl (aR rfl rfl rfl (az rfl rfl rfl (ai rfl rfl (ad (aL ?_)))))))));exact aO rfl rfl ⟨by simp only[eC];first|rfl|(congr 1;first|(exact(decide_eq_true (by omega)).symm)|(exact(decide_eq_false (by omega)).symm)|(exact decide_eq_decide.2 (by omega))),rfl⟩
      ·refine aq rfl rfl rfl rfl (aq rfl rfl rfl rfl (al rfl rfl (az rfl rfl rfl (az rfl rfl rfl (ai rfl rfl (ad (aL ?_)))))));exact aO rfl rfl ⟨by simp only[eC];first|rfl|(congr 1;first|(exact(decide_eq_true (by omega)).symm)|(exact(decide_eq_false (by omega)).symm)|(exact decide_eq_decide.2 (by omega))),rfl⟩
     ·refine aq rfl rfl rfl rfl (aq rfl rfl rfl rfl (al rfl rfl (az rfl rfl rfl (al rfl rfl (ae rfl rfl (aq rfl rfl rfl rfl (aq rfl rfl rfl rfl (al rfl rfl (az rfl rfl rfl (az rfl rfl rfl (ai rfl rfl ?_)))))))))));refine ad (aL ?_);exact aO rfl rfl ⟨by simp only[eC];first|rfl|(congr 1;first|(exact(decide_eq_true (by omega)).symm)|(exact(decide_eq_false (by omega)).symm)|(exact decide_eq_decide.2 (by omega))),rfl⟩
    ·refine aq rfl rfl rfl rfl (aq rfl rfl rfl rfl (al rfl rfl (az rfl rfl rfl (al rfl rfl (ae rfl rfl (aq rfl rfl rfl rfl (aq rfl rfl rfl rfl (al rfl rfl (az rfl rfl rfl (al rfl rfl (ae rfl rfl ?_)))))))))));refine aq rfl rfl rfl rfl (aq rfl rfl rfl rfl (al rfl rfl (az rfl rfl rfl (az rfl rfl rfl (ai rfl rfl (ad (aL ?_)))))));exact aO rfl rfl ⟨by simp only[eC];first|rfl|(congr 1;first|(exact(decide_eq_true (by omega)).symm)|(exact(decide_eq_false (by omega)).symm)|(exact decide_eq_decide.2 (by omega))),rfl⟩
  ·refine aq rfl rfl rfl rfl (aq rfl rfl rfl rfl (al rfl rfl (az rfl rfl rfl (az rfl rfl rfl (ae rfl rfl (al rfl rfl (ae rfl rfl (al rfl rfl (dz rfl rfl rfl (al rfl rfl (ae rfl rfl ?_)))))))))));refine aJ (g:=20) rfl (fun ke=>?_) (fun ke=>?_)
   ·refine al rfl rfl (ae rfl rfl (al rfl rfl (eV rfl rfl rfl (al rfl rfl (aR rfl rfl rfl (al rfl rfl (ae rfl rfl ?_)))))));refine aJ (g:=24) rfl (fun ta=>?_) (fun ta=>?_)
    ·refine al rfl rfl (ae rfl rfl (al rfl rfl (eW rfl rfl rfl (al rfl rfl (aR rfl rfl rfl (al rfl rfl (ae rfl rfl ?_)))))));refine aJ (g:=28) rfl (fun tb=>?_) (fun tb=>?_)
     ·refine al rfl rfl (ae rfl rfl (al rfl rfl (eW rfl rfl rfl (al rfl rfl (aR rfl rfl rfl (az rfl rfl rfl (ai rfl rfl (ad (aL ?_)))))))));exact aO rfl rfl ⟨by simp only[eC];first|rfl|(congr 1;first|(exact(decide_eq_true (by omega)).symm)|(exact(decide_eq_false (by omega)).symm)|(exact decide_eq_decide.2 (by omega))),rfl⟩
     ·refine aq rfl rfl rfl rfl (aq rfl rfl rfl rfl (al rfl rfl (az rfl rfl rfl (az rfl rfl rfl (ai rfl rfl (ad (aL ?_)))))));exact aO rfl rfl ⟨by simp only[eC];first|rfl|(congr 1;first|(exact(decide_eq_true (by omega)).symm)|(exact(decide_eq_false (by omega)).symm)|(exact decide_eq_decide.2 (by omega))),rfl⟩
    ·refine aq rfl rfl rfl rfl (aq rfl rfl rfl rfl (al rfl rfl (az rfl rfl rfl (al rfl rfl (ae rfl rfl (aq rfl rfl rfl rfl (aq rfl rfl rfl rfl (al rfl rfl (az rfl rfl rfl (az rfl rfl rfl (ai rfl rfl ?_)))))))))));refine ad (aL ?_);exact aO rfl rfl ⟨by simp only[eC];first|rfl|(congr 1;first|(exact(decide_eq_true (by omega)).symm)|(exact(decide_eq_false (by omega)).symm)|(exact decide_eq_decide.2 (by omega))),rfl⟩
   ·refine aq rfl rfl rfl rfl (aq rfl rfl rfl rfl (al rfl rfl (az rfl rfl rfl (al rfl rfl (ae rfl rfl (aq rfl rfl rfl rfl (aq rfl rfl rfl rfl (al rfl rfl (az rfl rfl rfl (al rfl rfl (ae rfl rfl ?_)))))))))));refine aq rfl rfl rfl rfl (aq rfl rfl rfl rfl (al rfl rfl (az rfl rfl rfl (az rfl rfl rfl (ai rfl rfl (ad (aL ?_)))))));exact aO rfl rfl ⟨by simp only[eC];first|rfl|(congr 1;first|(exact(decide_eq_true (by omega)).symm)|(exact(decide_eq_false (by omega)).symm)|(exact decide_eq_decide.2 (by omega))),rfl⟩
theorem Be (c:Int) (w0:World):
  Spec Tryz.prog 222 #[.int .i64 c] w0 (fun v w=>v= .bool (k5 c)∧w=w0):=by
 refine aZ (args:=[_]) (fn:=Tryz.f222) Tryz.func222 rfl (n:=9) Tryz.ntmps222 (aj (ah (ai rfl rfl (ad (aj (ah (ae rfl rfl (dz rfl rfl rfl (ae rfl rfl ?_)))))))));refine aJ (g:=5) rfl (fun fR=>?_) (fun fR=>?_)
 ·refine al rfl rfl (ae rfl rfl (al rfl rfl (eV rfl rfl rfl (aR rfl rfl rfl (ai rfl rfl (ad (aL ?_)))))));exact aO rfl rfl ⟨by simp only[k5];first|rfl|(congr 1;first|(exact(decide_eq_true (by omega)).symm)|(exact(decide_eq_false (by omega)).symm)|(exact decide_eq_decide.2 (by omega))),rfl⟩
 ·refine aq rfl rfl rfl rfl (aq rfl rfl rfl rfl (az rfl rfl rfl (ai rfl rfl (ad (aL ?_)))));exact aO rfl rfl ⟨by simp only[k5];first|rfl|(congr 1;first|(exact(decide_eq_true (by omega)).symm)|(exact(decide_eq_false (by omega)).symm)|(exact decide_eq_decide.2 (by omega))),rfl⟩
theorem vX (c:Int) (w0:World) (hc:0≤c∧c≤1114111):
  Spec Tryz.prog 223 #[.int .i64 c] w0 (fun v w=>v= .int .i64 (ez c)∧w=w0):=by
 refine aZ (args:=[_]) (fn:=Tryz.f223) Tryz.func223 rfl (n:=24) Tryz.ntmps223 (aj (ah (ai rfl rfl (ad (aj (aj (ah (ae rfl rfl (dz rfl rfl rfl (ae rfl rfl ?_))))))))));refine aJ (g:=5) rfl (fun fR=>?_) (fun fR=>?_)
 ·refine al rfl rfl (ae rfl rfl (al rfl rfl (eV rfl rfl rfl (aR rfl rfl rfl (ae rfl rfl ?_)))));refine aJ (g:=9) rfl (fun xE=>?_) (fun xE=>?_)
  ·refine aq rfl rfl rfl rfl (aq rfl rfl rfl rfl (aq rfl rfl rfl rfl (cj rfl rfl rfl (cj rfl rfl rfl (aq rfl rfl rfl rfl (aq rfl rfl rfl rfl (cj rfl rfl rfl (cj rfl rfl rfl (aq rfl rfl rfl rfl (aR rfl rfl rfl (ad ?_)))))))))));refine lT rfl (aj (ah (ae rfl rfl (bu rfl rfl rfl (by omega) (ai rfl rfl (ad (aL ?_)))))));exact aO rfl rfl ⟨by rw[ez,if_pos (by omega)],rfl⟩
  ·refine al rfl rfl (ae rfl rfl (al rfl rfl (dz rfl rfl rfl (al rfl rfl (ae rfl rfl ?_)))));refine aJ (g:=12) rfl (fun oO=>?_) (fun oO=>?_)
   ·refine al rfl rfl (ae rfl rfl (al rfl rfl (eV rfl rfl rfl (al rfl rfl (aR rfl rfl rfl (al rfl rfl (ae rfl rfl ?_)))))));refine aJ (g:=16) rfl (fun Fo=>?_) (fun Fo=>?_)
    ·refine al rfl rfl (ae rfl rfl (al rfl rfl (eW rfl rfl rfl (al rfl rfl (aR rfl rfl rfl (az rfl rfl rfl (ad ?_)))))));refine bH rfl (fun c1=>?_) (fun c1=>?_)
     ·refine aj (ah (ae rfl rfl (bu rfl rfl rfl (by omega) (ai rfl rfl (ad (aL ?_))))));exact aO rfl rfl ⟨by rw[ez,if_pos (by omega)],rfl⟩
     ·refine aS (aj (ah (ae rfl rfl (ai rfl rfl (ad (aL ?_))))));exact aO rfl rfl ⟨by rw[ez,if_neg (by omega)],rfl⟩
    ·refine aq rfl rfl rfl rfl (aq rfl rfl rfl rfl (al rfl rfl (az rfl rfl rfl (az rfl rfl rfl (ad (gG rfl (aS (aj (ah (ae rfl rfl (ai rfl rfl ?_)))))))))));refine ad (aL ?_);exact aO rfl rfl ⟨by rw[ez,if_neg (by omega)],rfl⟩
   ·refine aq rfl rfl rfl rfl (aq rfl rfl rfl rfl (al rfl rfl (az rfl rfl rfl (al rfl rfl (ae rfl rfl (aq rfl rfl rfl rfl (aq rfl rfl rfl rfl (al rfl rfl (az rfl rfl rfl (az rfl rfl rfl (ad ?_)))))))))));refine gG rfl (aS (aj (ah (ae rfl rfl (ai rfl rfl (ad (aL ?_)))))));exact aO rfl rfl ⟨by rw[ez,if_neg (by omega)],rfl⟩
 ·refine aq rfl rfl rfl rfl (aq rfl rfl rfl rfl (az rfl rfl rfl (ae rfl rfl (al rfl rfl (ae rfl rfl (al rfl rfl (dz rfl rfl rfl (al rfl rfl (ae rfl rfl ?_)))))))));refine aJ (g:=12) rfl (fun oO=>?_) (fun oO=>?_)
  ·refine al rfl rfl (ae rfl rfl (al rfl rfl (eV rfl rfl rfl (al rfl rfl (aR rfl rfl rfl (al rfl rfl (ae rfl rfl ?_)))))));refine aJ (g:=16) rfl (fun Fo=>?_) (fun Fo=>?_)
   ·refine al rfl rfl (ae rfl rfl (al rfl rfl (eW rfl rfl rfl (al rfl rfl (aR rfl rfl rfl (az rfl rfl rfl (ad ?_)))))));refine bH rfl (fun c1=>?_) (fun c1=>?_)
    ·refine aj (ah (ae rfl rfl (bu rfl rfl rfl (by omega) (ai rfl rfl (ad (aL ?_))))));exact aO rfl rfl ⟨by rw[ez,if_pos (by omega)],rfl⟩
    ·refine aS (aj (ah (ae rfl rfl (ai rfl rfl (ad (aL ?_))))));exact aO rfl rfl ⟨by rw[ez,if_neg (by omega)],rfl⟩
   ·refine aq rfl rfl rfl rfl (aq rfl rfl rfl rfl (al rfl rfl (az rfl rfl rfl (az rfl rfl rfl (ad (gG rfl (aS (aj (ah (ae rfl rfl (ai rfl rfl ?_)))))))))));refine ad (aL ?_);exact aO rfl rfl ⟨by rw[ez,if_neg (by omega)],rfl⟩
  ·refine aq rfl rfl rfl rfl (aq rfl rfl rfl rfl (al rfl rfl (az rfl rfl rfl (al rfl rfl (ae rfl rfl (aq rfl rfl rfl rfl (aq rfl rfl rfl rfl (al rfl rfl (az rfl rfl rfl (az rfl rfl rfl (ad ?_)))))))))));refine gG rfl (aS (aj (ah (ae rfl rfl (ai rfl rfl (ad (aL ?_)))))));exact aO rfl rfl ⟨by rw[ez,if_neg (by omega)],rfl⟩
end Go.K
namespace Go.Proofs
open Go.Shelf
def Tryz.qS:Go.Shelf.Ren:=⟨fun|169=>256|n=>n,fun|70=>307|9=>9|0=>0|72=>309|37=>147|127=>331|3=>3|5=>5|n=>n,fun|n=>n⟩
theorem Tryz.IT:Go.Proofs.Lays.n169 Tryz.prog Tryz.qS:={
 mixed:=by kernel_rfl
 f169:=Tryz.func256.trans (congrArg some (by kernel_rfl))
 t0:=gV
 a0:=rV
 z0:=oB
 v0:=iU
 t3:=ar
 a3:=rW
 z3:=oC
 v3:=iV
 t9:=aC
 a9:=rX
 z9:=oD
 v9:=iW
 t37:=br
 a37:=Tryz.isAgg147
 z37:=Tryz.sizeOf147
 v37:=Tryz.zeroValue147
 t70:=Tryz.underlying307
 a70:=Tryz.isAgg307
 z70:=Tryz.sizeOf307
 v70:=Tryz.zeroValue307
 t72:=Tryz.underlying309
 a72:=Tryz.isAgg309
 z72:=Tryz.sizeOf309
 v72:=Tryz.zeroValue309
 t127:=Tryz.underlying331
 a127:=Tryz.isAgg331
 z127:=Tryz.sizeOf331
 v127:=Tryz.zeroValue331}
def Tryz.zc:Go.Shelf.Ren:=⟨fun|119=>277|n=>n,fun|21=>21|4=>4|n=>n,fun|n=>n⟩
theorem Tryz.IU:Go.Proofs.Lays.n119 Tryz.prog Tryz.zc:={
 mixed:=by kernel_rfl
 f119:=Tryz.func277.trans (congrArg some (by kernel_rfl))
 t4:=gX
 a4:=Tryz.isAgg4
 z4:=Tryz.sizeOf4
 v4:=o7
 t21:=Tryz.underlying21
 a21:=Tryz.isAgg21
 z21:=Tryz.sizeOf21
 v21:=Tryz.zeroValue21}
def Tryz.zd:Go.Shelf.Ren:=⟨fun|106=>159|213=>198|265=>235|n=>n,fun|9=>9|3=>3|n=>n,fun|n=>n⟩
theorem Tryz.IV:Go.Proofs.Lays.n106 Tryz.prog Tryz.zd:={
 mixed:=by kernel_rfl
 f106:=Tryz.func159.trans (congrArg some (by kernel_rfl))
 f213:=Tryz.func198.trans (congrArg some (by kernel_rfl))
 f265:=Tryz.func235.trans (congrArg some (by kernel_rfl))
 t3:=ar
 a3:=rW
 z3:=oC
 v3:=iV
 t9:=aC
 a9:=rX
 z9:=oD
 v9:=iW}
theorem Tryz.pz:Builder.Extra Tryz.prog Tryz.qS:={
 sizeBuilder:=by kernel_rfl
 liesBuilder:=by kernel_rfl
 t5:=cf
 a5:=Tryz.isAgg5
 z5:=Tryz.sizeOf5
 v5:=Tryz.zeroValue5
 infoByte:=by kernel_rfl
 cellsByte:=by kernel_rfl
 sizeByte:=by kernel_rfl
 neB5:=by decide}
def Tryz.qT:Go.Shelf.Ren:=⟨fun|168=>254|240=>275|242=>276|276=>285|278=>286|n=>n,fun|0=>0|3=>3|4=>4|5=>5|9=>9|20=>20|21=>21|37=>147|46=>183|51=>273|70=>307|72=>309|75=>311|80=>315|164=>336|n=>n,fun|n=>n⟩
theorem Tryz.IW:Go.Proofs.Lays.n168 Tryz.prog Tryz.qT:={
 mixed:=by kernel_rfl
 f168:=Tryz.func254.trans (congrArg some (by kernel_rfl))
 f240:=Tryz.func275.trans (congrArg some (by kernel_rfl))
 f242:=Tryz.func276.trans (congrArg some (by kernel_rfl))
 f276:=Tryz.func285.trans (congrArg some (by kernel_rfl))
 f278:=Tryz.func286.trans (congrArg some (by kernel_rfl))
 t0:=gV
 a0:=rV
 z0:=oB
 v0:=iU
 t3:=ar
 a3:=rW
 z3:=oC
 v3:=iV
 t4:=gX
 a4:=Tryz.isAgg4
 z4:=Tryz.sizeOf4
 v4:=o7
 t5:=cf
 a5:=Tryz.isAgg5
 z5:=Tryz.sizeOf5
 v5:=Tryz.zeroValue5
 t9:=aC
 a9:=rX
 z9:=oD
 v9:=iW
 t20:=Tryz.underlying20
 a20:=Tryz.isAgg20
 z20:=Tryz.sizeOf20
 v20:=Tryz.zeroValue20
 t21:=Tryz.underlying21
 a21:=Tryz.isAgg21
 z21:=Tryz.sizeOf21
 v21:=Tryz.zeroValue21
 t37:=br
 a37:=Tryz.isAgg147
 z37:=Tryz.sizeOf147
 v37:=Tryz.zeroValue147
 t46:=Tryz.underlying183
 a46:=Tryz.isAgg183
 z46:=Tryz.sizeOf183
 v46:=Tryz.zeroValue183
 t51:=Tryz.underlying273
 a51:=Tryz.isAgg273
 z51:=Tryz.sizeOf273
 v51:=Tryz.zeroValue273
 t70:=Tryz.underlying307
 a70:=Tryz.isAgg307
 z70:=Tryz.sizeOf307
 v70:=Tryz.zeroValue307
 t72:=Tryz.underlying309
 a72:=Tryz.isAgg309
 z72:=Tryz.sizeOf309
 v72:=Tryz.zeroValue309
 t75:=Tryz.underlying311
 a75:=Tryz.isAgg311
 z75:=Tryz.sizeOf311
 v75:=Tryz.zeroValue311
 t164:=Tryz.underlying336
 a164:=Tryz.isAgg336
 z164:=Tryz.sizeOf336
 v164:=Tryz.zeroValue336}
theorem Tryz.pA:Builder.Extra Tryz.prog Tryz.qT where
 sizeBuilder:=by kernel_rfl
 liesBuilder:=by kernel_rfl
 t5:=cf
 a5:=Tryz.isAgg5
 z5:=Tryz.sizeOf5
 v5:=Tryz.zeroValue5
 infoByte:=by kernel_rfl
 cellsByte:=by kernel_rfl
 sizeByte:=by kernel_rfl
 neB5:=by decide
end Go.Proofs
namespace Go.K
open Go.Proofs
set_option maxRecDepth 10000
open Go.RowKit Go.Shelf
theorem Bf (r:Int) (w:World):Spec Tryz.prog 277 #[.int .i32 r] w (fun v w'=>v= .bool (Lib.validRune r)∧w'=w):=(Any.utf8_ValidRune Tryz.IU r w).mono fun e w' ⟨h1,h2⟩=>⟨_,h1,rfl,h2⟩
theorem DG {B b:Nat} {bs:List Value} {r:Int} (w:World) (hr: -2147483648≤r∧r≤2147483647) (h:Lib.IsBuilderF 309 5 B b bs w) (hl:bs.length+4≤140737488355328) (hB:B≤w.heap.size):
  Spec Tryz.prog 254 #[.pointer (some ⟨b,0,none⟩),.int .i32 r] w (fun v w'=>Lib.IsBuilderF 309 5 B b (bs++Lib.runeCells r) w'∧Below B w w'):=
 (Any.Builder_WriteRune_k Tryz.IW Tryz.pA B b bs r hr.1 hr.2 w h hl hB).mono fun e w' ⟨h1,h2,h3,_⟩=>⟨_,h1,.inr h2,h3⟩
theorem Fp {B b:Nat} {l:List UInt8} (w:World) (h:Lib.IsBuilderF 309 5 B b (Lib.byteCells l) w) (hB:B≤w.heap.size):
  Spec Tryz.prog 256 #[.pointer (some ⟨b,0,none⟩)] w (fun v w'=>v= .string ⟨l.toArray⟩∧Below B w w'):=
 (Any.Builder_String_any_k Tryz.IT Tryz.pz B b l w h hB).mono fun e w' ⟨h1,_,h3,_⟩=>⟨_,h1,rfl,h3⟩
theorem wrap32 {c:Int} (h:0≤c∧c≤1114111):IntKind.i32.wrap c=c:=by
 show(if(true&&decide (c%4294967296≥2147483648))=true then c%4294967296-4294967296 else c%4294967296)=c;rw[if_neg (by simp only[cZ,decide_eq_true_eq];omega)];omega
def oP (c:Int):Int:=if c<0∨c>1114111∨Lib.validRune c=false then 65533 else c
theorem CG (c:Int):0≤oP c∧oP c≤1114111:=by unfold oP;split<;>omega
def ik (l:List Int):List UInt8:=l.flatMap fun c=>Lib.encodeRune (oP c)
theorem kf (l:List Int) (c:Int):ik (l++[c])=ik l++Lib.encodeRune (oP c):=by simp[ik]
theorem IX (r:Int):(Lib.encodeRune r).length≤4:=by have:=(Lib.encodeRuneZ_length r).2;simpa[Lib.encodeRune]using this
theorem eZ (l:List Int):(ik l).length≤4*l.length:=by
 induction l with
 |nil=>simp[ik]
 |cons c l ih=>
  have:=IX (oP c);simp only[ik,List.flatMap_cons,bP,cA]at ih ⊢;omega
theorem tc (l:List Int) (c:Int):Lib.byteCells (ik l)++Lib.runeCells (oP c)=Lib.byteCells (ik (l++[c])):=by
 rw[kf,←Lib.byteCells_encodeRune];simp[Lib.byteCells]
theorem Fq (c:Int) (w0:World):
  Spec Tryz.prog 255 #[.int .i64 c] w0 (fun v w=>v= .int .i32 (oP c)∧w=w0):=by
 refine aZ (args:=[_]) (fn:=Tryz.f255) Tryz.func255 rfl (n:=17) Tryz.ntmps255 (aj (ah (ai rfl rfl (ad (aj (aj (ah (ae rfl rfl (b4 rfl rfl rfl (ae rfl rfl ?_))))))))));refine aJ (g:=5) rfl (fun fR=>?_) (fun fR=>?_)
 ·refine aq rfl rfl rfl rfl (aq rfl rfl rfl rfl (aR rfl rfl rfl (ae rfl rfl (aq rfl rfl rfl rfl (aq rfl rfl rfl rfl (aq rfl rfl rfl rfl (aq rfl rfl rfl rfl (aR rfl rfl rfl (ad (lT rfl (aj ?_)))))))))));refine ah (ai rfl rfl (ad (aL ?_)));exact aO rfl rfl ⟨by rw[oP,if_pos (by first|exact .inl (by omega)|exact .inr (.inl (by omega))|exact .inr (.inr (by assumption)))],rfl⟩
 ·refine al rfl rfl (ae rfl rfl (al rfl rfl (mL rfl rfl rfl (az rfl rfl rfl (ae rfl rfl ?_)))));refine aJ (g:=9) rfl (fun xE=>?_) (fun xE=>?_)
  ·refine aq rfl rfl rfl rfl (aq rfl rfl rfl rfl (aq rfl rfl rfl rfl (aq rfl rfl rfl rfl (aR rfl rfl rfl (ad (lT rfl (aj (ah (ai rfl rfl (ad (aL ?_)))))))))));exact aO rfl rfl ⟨by rw[oP,if_pos (by first|exact .inl (by omega)|exact .inr (.inl (by omega))|exact .inr (.inr (by assumption)))],rfl⟩
  ·refine al rfl rfl (ae rfl rfl (al rfl rfl (uF ar Tryz.underlying21 rfl rfl (bz (v':= .int .i32 c) (congrArg (Value.int .i32) (wrap32 (by omega))) (al rfl rfl ?_)))));refine aQ rfl rfl VO (Bf _ _) (fun r wc hc=>?_);obtain⟨rfl,rfl⟩:=hc;refine al rfl rfl (rq rfl rfl (bz (v':= .bool (decide (Lib.validRune c=false))) (by cases Lib.validRune c<;>rfl) (az rfl rfl rfl (ad ?_))));refine bH rfl (fun c1=>?_) (fun c1=>?_)
   ·refine aj (ah (ai rfl rfl (ad (aL ?_))));exact aO rfl rfl ⟨by rw[oP,if_pos (by first|exact .inl (by omega)|exact .inr (.inl (by omega))|exact .inr (.inr (by assumption)))],rfl⟩
   ·refine aS (aj (ah (ae rfl rfl (uF ar Tryz.underlying21 rfl rfl (bz (v':= .int .i32 c) (congrArg (Value.int .i32) (wrap32 (by omega))) (ai rfl rfl (ad (aL ?_))))))));exact aO rfl rfl ⟨by rw[oP,if_neg (by rintro(h|h|h)<;>first|omega|exact absurd h (by assumption))],rfl⟩
theorem DH {M:aB} {xs:List Int} {v0:Value} (w0:World) (hM:Lt M w0) (hv:((RT.int .i64).sl).V M w0 xs v0) (hl:xs.length≤1000000):
  Spec Tryz.prog 224 #[v0] w0 (fun v w=>v= .string ⟨(ik xs).toArray⟩∧Step M w0 M w aA):=by
 refine aZ (args:=[_]) (fn:=Tryz.f224) Tryz.func224 rfl (n:=17) Tryz.ntmps224 (aj (ah (ai rfl rfl (ad (aj (ah ?_))))));refine fh M Vd rfl (fun b w1 p1 q1 g1 s1=>?_);have rC:Lib.IsBuilderF 309 5 w0.heap.size b (Lib.byteCells (ik (xs.take 0))) w1:= .of (.inl ⟨p1,.slice none 0 0,g1,World.ownsRow_nil _ _ _ _,by simp[Value.ownBlock]⟩);have S1:Below w0.heap.size w0 w1:=s1.below;refine ad (aj (aj (ah (ae rfl rfl (bM au rfl hv rfl (ae rfl rfl (ad (aY ?_))))))));refine dr (σ:=Nat) (fun k=>[(3,.pointer (some ⟨b,0,none⟩)),(6,v0),(7,.int .i64 (xs.length:Int)),(8,.int .i64 (k:Int))]) (fun k w=>Lib.IsBuilderF 309 5 w0.heap.size b (Lib.byteCells (ik (xs.take k))) w∧Below w0.heap.size w0 w∧k≤xs.length) (fun k=>xs.length-k) 0 (.cons rfl (.cons rfl (.cons rfl (.cons rfl .nil)))) ?_ ?_
 ·exact⟨rC,S1,bB _⟩
 ·rintro k w ⟨hb,S,hk⟩;refine aj (ah (b4 rfl rfl rfl (ad (aj ?_))));refine bH rfl (fun c3=>?_) (fun c3=>?_)
  ·refine aS (aj (aY (aj (ah ?_))));refine cK (M:=M) au I3 rfl rfl rfl hv (Step.sU S M).le (by omega) (fun u4 c Bg vY=>?_);refine bV (M:=M) ar rfl rfl vY (ao _ _) (fun in4=>?_);refine ai rfl rfl (ad (ah (ae rfl rfl ?_)));refine aQ rfl rfl VM (Fq c _) (fun r wc hc=>?_);obtain⟨rfl,rfl⟩:=hc;refine aQ rfl rfl VL (DG _ (by have:=CG c;omega) hb (by rw[Lib.byteCells_length];have:=eZ (xs.take k);rw[bG]at this;omega) S.size) (fun r5 w5 hc=>?_);obtain⟨OT,S5⟩:=hc;have tk:xs.take (k+1)=xs.take k++[c]:=by rw[bN];simp only[aw]at Bg;rw[Bg];rfl
   rw[tc,←tk]at OT;have S6:=S.trans S5;refine ad (ah (bu rfl rfl rfl (by omega) (ae rfl rfl (ad ?_))));refine⟨rfl,k+1,(.cons rfl (.cons rfl (.cons rfl (.cons rfl .nil)))),?_,?_⟩
   ·exact⟨OT,S6,by omega⟩
   ·omega
  ·refine cG (aj (ah ?_));refine aQ rfl rfl VN (Fp _ hb S.size) (fun r7 w7 hc=>?_);obtain⟨rfl,S7⟩:=hc;refine ai rfl rfl (ad (aL ?_));have e:xs.take k=xs:=aW (by omega);rw[e];exact aO rfl rfl ⟨rfl,Step.sU (S.trans S7) M⟩
end Go.K
namespace Go.K
def nO (c:Int):Int:=if 194≤c∧c<224 then 2 else if 224≤c∧c<240 then 3 else if 240≤c∧c<245 then 4 else 0
def fD (c:Int):Int:=if 194≤c∧c<224 then 128 else if 224≤c∧c<240 then 2048 else if 240≤c∧c<245 then 65536 else 0
def qo (c:Int):Int:=if 194≤c∧c<224 then c-192 else if 224≤c∧c<240 then c-224 else if 240≤c∧c<245 then c-240 else 0
def vO (l:List UInt8):Nat→Int
 |0=>qo (iv l 0)
 |k+1=>64*vO l k+iv l (k+1)-128
theorem fw {l:List UInt8} {k:Nat}:ij l k=true↔k<l.length∧128≤iv l k∧iv l k<192:=by
 unfold ij;simp only[bD,decide_eq_true_eq,beq_iff_eq];omega
theorem vZ {n:Nat}:Utf8.valid (n:Int)=true↔(n<55296∨(57344≤n∧n≤1114111)):=by
 simp only[Utf8.valid,Bool.or_eq_true,bD,decide_eq_true_eq];omega
theorem Qf {l:List UInt8} (h:(iv l 0:Int)<128):dec l=(iv l 0,1):=by
 unfold dec y9;rw[if_pos (by omega)]
theorem CH {l:List UInt8} (h0:128≤(iv l 0:Int)) (h:nO (iv l 0)=0∨∃k:Nat,1≤k∧(k:Int)<nO (iv l 0)∧ij l k=false):dec l=(65533,1):=by
 have hb:=l7 l 0;unfold dec y9;rw[if_neg (by omega)]
 have hk:nO (iv l 0)=0∨(2≤nO (iv l 0)∧ij l 1=false)∨(3≤nO (iv l 0)∧ij l 2=false)∨(4≤nO (iv l 0)∧ij l 3=false):=by
  rcases h with h|⟨k,h1,h2,h3⟩
  ·exact .inl h
  ·have:nO (iv l 0)≤4:=by
    unfold nO
    split
    ·omega
    ·split
     ·omega
     ·split<;>omega
   have hk:k=1∨k=2∨k=3:=by omega
   rcases hk with rfl|rfl|rfl
   ·exact .inr (.inl ⟨by omega,h3⟩)
   ·exact .inr (.inr (.inl ⟨by omega,h3⟩))
   ·exact .inr (.inr (.inr ⟨by omega,h3⟩))
 simp only[beq_iff_eq,bD,decide_eq_true_eq,ge_iff_le,vZ];have hn:nO (iv l 0)=if 194≤(iv l 0:Int)∧(iv l 0:Int)<224 then 2 else if 224≤(iv l 0:Int)∧(iv l 0:Int)<240 then 3 else if 240≤(iv l 0:Int)∧(iv l 0:Int)<245 then 4 else 0:=rfl
 rw[hn]at hk
 split
 ·rename_i hc
  obtain⟨T2,Ig⟩:=hc
  split
  ·rename_i hv
   exfalso;by_cases adR:194≤(iv l 0:Int)
   ·rw[if_pos (by omega)]at hk;rcases hk with hk|⟨_,hk⟩|⟨hk,_⟩|⟨hk,_⟩
    ·omega
    ·rw[hk]at Ig;cases Ig
    ·omega
    ·omega
   ·omega
  ·rfl
 ·split
  ·rename_i hc
   obtain⟨⟨T2,Ig⟩,Qg⟩:=hc
   split
   ·exfalso;rw[if_neg (by omega),if_pos (by omega)]at hk;rcases hk with hk|⟨_,hk⟩|⟨_,hk⟩|⟨hk,_⟩
    ·omega
    ·rw[hk]at Ig;cases Ig
    ·rw[hk]at Qg;cases Qg
    ·omega
   ·rfl
  ·split
   ·rename_i hc
    obtain⟨⟨⟨T2,Ig⟩,Qg⟩,hc4⟩:=hc
    split
    ·rename_i hv
     exfalso;by_cases adS:(iv l 0:Int)<245
     ·rw[if_neg (by omega),if_neg (by omega),if_pos (by omega)]at hk;rcases hk with hk|⟨_,hk⟩|⟨_,hk⟩|⟨_,hk⟩
      ·omega
      ·rw[hk]at Ig;cases Ig
      ·rw[hk]at Qg;cases Qg
      ·rw[hk]at hc4;cases hc4
     ·omega
    ·rfl
   ·rfl
theorem lE {c:Int} (h:nO c≠0):(nO c=2∧fD c=128∧qo c=c-192∧194≤c∧c<224)∨(nO c=3∧fD c=2048∧qo c=c-224∧224≤c∧c<240)∨(nO c=4∧fD c=65536∧qo c=c-240∧240≤c∧c<245):=by
 by_cases h1:194≤c∧c<224
 ·exact .inl ⟨if_pos h1,if_pos h1,if_pos h1,h1.1,h1.2⟩
 ·by_cases h2:224≤c∧c<240
  ·exact .inr (.inl ⟨(if_neg h1).trans (if_pos h2),(if_neg h1).trans (if_pos h2),(if_neg h1).trans (if_pos h2),h2.1,h2.2⟩)
  ·by_cases h3:240≤c∧c<245
   ·exact .inr (.inr ⟨(if_neg h1).trans ((if_neg h2).trans (if_pos h3)),(if_neg h1).trans ((if_neg h2).trans (if_pos h3)),(if_neg h1).trans ((if_neg h2).trans (if_pos h3)),h3.1,h3.2⟩)
   ·exact absurd ((if_neg h1).trans ((if_neg h2).trans (if_neg h3))) h
theorem ze {l:List UInt8} (hn:nO (iv l 0)≠0) (hc:∀k:Nat,1≤k→(k:Int)<nO (iv l 0)→ij l k=true) (v:Int) (hv:v=vO l (nO (iv l 0)-1).toNat):
  dec l=if v<fD (iv l 0)∨v>1114111∨(55296≤v∧v≤57343)then(65533,1)else(v.toNat,(nO (iv l 0)).toNat):=by
 have hb:=l7 l 0;have b1:=l7 l 1;have b2:=l7 l 2;have b3:=l7 l 3;unfold dec y9;simp only[beq_iff_eq,bD,decide_eq_true_eq,ge_iff_le,vZ];rcases lE hn with⟨e1,e2,e3,e4,e5⟩|⟨e1,e2,e3,e4,e5⟩|⟨e1,e2,e3,e4,e5⟩
 ·have c1:=hc 1 (by omega) (by omega);have d1:=fw.1 c1;rw[e1]at hv;have xF:v=64*((iv l 0:Int)-192)+iv l 1-128:=by rw[hv];show 64*qo (iv l 0)+_-_=_;rw[e3]
  rw[if_neg (by omega),if_pos ⟨by omega,c1⟩,e2,e1];by_cases hx:v<128∨v>1114111∨(55296≤v∧v≤57343)
  ·rw[if_pos hx,if_neg (by omega)]
  ·rw[if_neg hx,if_pos (by omega)];simp only[Prod.mk.injEq];omega
 ·have c1:=hc 1 (by omega) (by omega);have c2:=hc 2 (by omega) (by omega);have d1:=fw.1 c1;have d2:=fw.1 c2;rw[e1]at hv;have xF:v=64*(64*((iv l 0:Int)-224)+iv l 1-128)+iv l 2-128:=by rw[hv];show 64*(64*qo (iv l 0)+_-_)+_-_=_;rw[e3]
  rw[if_neg (by omega),if_neg (by omega),if_pos ⟨⟨by omega,c1⟩,c2⟩,e2,e1];by_cases hx:v<2048∨v>1114111∨(55296≤v∧v≤57343)
  ·rw[if_pos hx,if_neg (by omega)]
  ·rw[if_neg hx,if_pos (by omega)];simp only[Prod.mk.injEq];omega
 ·have c1:=hc 1 (by omega) (by omega);have c2:=hc 2 (by omega) (by omega);have c3:=hc 3 (by omega) (by omega);have d1:=fw.1 c1;have d2:=fw.1 c2;have d3:=fw.1 c3;rw[e1]at hv;have xF:v=64*(64*(64*((iv l 0:Int)-240)+iv l 1-128)+iv l 2-128)+iv l 3-128:=by rw[hv];show 64*(64*(64*qo (iv l 0)+_-_)+_-_)+_-_=_;rw[e3]
  rw[if_neg (by omega),if_neg (by omega),if_neg (by omega),if_pos ⟨⟨⟨by omega,c1⟩,c2⟩,c3⟩,e2,e1];by_cases hx:v<65536∨v>1114111∨(55296≤v∧v≤57343)
  ·rw[if_pos hx,if_neg (by omega)]
  ·rw[if_neg hx,if_pos (by omega)];simp only[Prod.mk.injEq];omega
end Go.K
namespace Go.K
open Go.Proofs
set_option maxRecDepth 10000
theorem xG (c:Int) (w0:World):
  Spec Tryz.prog 253 #[.int .i64 c] w0 (fun v w=>v= .bool (eC c)∧w=w0):=by
 refine aZ (args:=[_]) (fn:=Tryz.f253) Tryz.func253 rfl (n:=31) Tryz.ntmps253 (aj (ah (ai rfl rfl (ad (aj (aj (ah (ae rfl rfl (dz rfl rfl rfl (ae rfl rfl ?_))))))))));refine aJ (g:=5) rfl (fun fR=>?_) (fun fR=>?_)
 ·refine al rfl rfl (ae rfl rfl (al rfl rfl (eV rfl rfl rfl (aR rfl rfl rfl (ae rfl rfl ?_)))));refine aJ (g:=9) rfl (fun xE=>?_) (fun xE=>?_)
  ·refine aq rfl rfl rfl rfl (aq rfl rfl rfl rfl (aq rfl rfl rfl rfl (cj rfl rfl rfl (cj rfl rfl rfl (aq rfl rfl rfl rfl (aR rfl rfl rfl (ad (lT rfl (aj (ah (ai rfl rfl ?_)))))))))));refine ad (aL ?_);exact aO rfl rfl ⟨by simp only[eC];first|rfl|(congr 1;first|(exact(decide_eq_true (by omega)).symm)|(exact(decide_eq_false (by omega)).symm)|(exact decide_eq_decide.2 (by omega))),rfl⟩
  ·refine al rfl rfl (ae rfl rfl (al rfl rfl (dz rfl rfl rfl (al rfl rfl (ae rfl rfl ?_)))));refine aJ (g:=12) rfl (fun oO=>?_) (fun oO=>?_)
   ·refine al rfl rfl (ae rfl rfl (al rfl rfl (eV rfl rfl rfl (al rfl rfl (aR rfl rfl rfl (az rfl rfl rfl (ad ?_)))))));refine bH rfl (fun c1=>?_) (fun c1=>?_)
    ·refine aj (ah (ai rfl rfl (ad (aL ?_))));exact aO rfl rfl ⟨by simp only[eC];first|rfl|(congr 1;first|(exact(decide_eq_true (by omega)).symm)|(exact(decide_eq_false (by omega)).symm)|(exact decide_eq_decide.2 (by omega))),rfl⟩
    ·refine aS (aj (ah (ae rfl rfl (dz rfl rfl rfl (ae rfl rfl ?_)))));refine aJ (g:=19) rfl (fun Bh=>?_) (fun Bh=>?_)
     ·refine al rfl rfl (ae rfl rfl (al rfl rfl (eV rfl rfl rfl (aR rfl rfl rfl (ae rfl rfl ?_)))));refine aJ (g:=23) rfl (fun Bi=>?_) (fun Bi=>?_)
      ·refine al rfl rfl (ae rfl rfl (al rfl rfl (eW rfl rfl rfl (aR rfl rfl rfl (ae rfl rfl ?_)))));refine aJ (g:=27) rfl (fun td=>?_) (fun td=>?_)
       ·refine al rfl rfl (ae rfl rfl (al rfl rfl (eW rfl rfl rfl (aR rfl rfl rfl (ai rfl rfl (ad (aL ?_)))))));exact aO rfl rfl ⟨by simp only[eC];first|rfl|(congr 1;first|(exact(decide_eq_true (by omega)).symm)|(exact(decide_eq_false (by omega)).symm)|(exact decide_eq_decide.2 (by omega))),rfl⟩
       ·refine aq rfl rfl rfl rfl (aq rfl rfl rfl rfl (az rfl rfl rfl (ai rfl rfl (ad (aL ?_)))));exact aO rfl rfl ⟨by simp only[eC];first|rfl|(congr 1;first|(exact(decide_eq_true (by omega)).symm)|(exact(decide_eq_false (by omega)).symm)|(exact decide_eq_decide.2 (by omega))),rfl⟩
      ·refine aq rfl rfl rfl rfl (aq rfl rfl rfl rfl (az rfl rfl rfl (ae rfl rfl (aq rfl rfl rfl rfl (aq rfl rfl rfl rfl (az rfl rfl rfl (ai rfl rfl (ad (aL ?_)))))))));exact aO rfl rfl ⟨by simp only[eC];first|rfl|(congr 1;first|(exact(decide_eq_true (by omega)).symm)|(exact(decide_eq_false (by omega)).symm)|(exact decide_eq_decide.2 (by omega))),rfl⟩
     ·refine aq rfl rfl rfl rfl (aq rfl rfl rfl rfl (az rfl rfl rfl (ae rfl rfl (aq rfl rfl rfl rfl (aq rfl rfl rfl rfl (az rfl rfl rfl (ae rfl rfl (aq rfl rfl rfl rfl (aq rfl rfl rfl rfl (az rfl rfl rfl (ai rfl rfl ?_)))))))))));refine ad (aL ?_);exact aO rfl rfl ⟨by simp only[eC];first|rfl|(congr 1;first|(exact(decide_eq_true (by omega)).symm)|(exact(decide_eq_false (by omega)).symm)|(exact decide_eq_decide.2 (by omega))),rfl⟩
   ·refine aq rfl rfl rfl rfl (aq rfl rfl rfl rfl (al rfl rfl (az rfl rfl rfl (az rfl rfl rfl (ad (gG rfl (aS (aj (ah (ae rfl rfl (dz rfl rfl rfl ?_)))))))))));refine ae rfl rfl ?_;refine aJ (g:=19) rfl (fun Bh=>?_) (fun Bh=>?_)
    ·refine al rfl rfl (ae rfl rfl (al rfl rfl (eV rfl rfl rfl (aR rfl rfl rfl (ae rfl rfl ?_)))));refine aJ (g:=23) rfl (fun Bi=>?_) (fun Bi=>?_)
     ·refine al rfl rfl (ae rfl rfl (al rfl rfl (eW rfl rfl rfl (aR rfl rfl rfl (ae rfl rfl ?_)))));refine aJ (g:=27) rfl (fun td=>?_) (fun td=>?_)
      ·refine al rfl rfl (ae rfl rfl (al rfl rfl (eW rfl rfl rfl (aR rfl rfl rfl (ai rfl rfl (ad (aL ?_)))))));exact aO rfl rfl ⟨by simp only[eC];first|rfl|(congr 1;first|(exact(decide_eq_true (by omega)).symm)|(exact(decide_eq_false (by omega)).symm)|(exact decide_eq_decide.2 (by omega))),rfl⟩
      ·refine aq rfl rfl rfl rfl (aq rfl rfl rfl rfl (az rfl rfl rfl (ai rfl rfl (ad (aL ?_)))));exact aO rfl rfl ⟨by simp only[eC];first|rfl|(congr 1;first|(exact(decide_eq_true (by omega)).symm)|(exact(decide_eq_false (by omega)).symm)|(exact decide_eq_decide.2 (by omega))),rfl⟩
     ·refine aq rfl rfl rfl rfl (aq rfl rfl rfl rfl (az rfl rfl rfl (ae rfl rfl (aq rfl rfl rfl rfl (aq rfl rfl rfl rfl (az rfl rfl rfl (ai rfl rfl (ad (aL ?_)))))))));exact aO rfl rfl ⟨by simp only[eC];first|rfl|(congr 1;first|(exact(decide_eq_true (by omega)).symm)|(exact(decide_eq_false (by omega)).symm)|(exact decide_eq_decide.2 (by omega))),rfl⟩
    ·refine aq rfl rfl rfl rfl (aq rfl rfl rfl rfl (az rfl rfl rfl (ae rfl rfl (aq rfl rfl rfl rfl (aq rfl rfl rfl rfl (az rfl rfl rfl (ae rfl rfl (aq rfl rfl rfl rfl (aq rfl rfl rfl rfl (az rfl rfl rfl (ai rfl rfl ?_)))))))))));refine ad (aL ?_);exact aO rfl rfl ⟨by simp only[eC];first|rfl|(congr 1;first|(exact(decide_eq_true (by omega)).symm)|(exact(decide_eq_false (by omega)).symm)|(exact decide_eq_decide.2 (by omega))),rfl⟩
 ·refine aq rfl rfl rfl rfl (aq rfl rfl rfl rfl (az rfl rfl rfl (ae rfl rfl (al rfl rfl (ae rfl rfl (al rfl rfl (dz rfl rfl rfl (al rfl rfl (ae rfl rfl ?_)))))))));refine aJ (g:=12) rfl (fun oO=>?_) (fun oO=>?_)
  ·refine al rfl rfl (ae rfl rfl (al rfl rfl (eV rfl rfl rfl (al rfl rfl (aR rfl rfl rfl (az rfl rfl rfl (ad ?_)))))));refine bH rfl (fun c1=>?_) (fun c1=>?_)
   ·refine aj (ah (ai rfl rfl (ad (aL ?_))));exact aO rfl rfl ⟨by simp only[eC];first|rfl|(congr 1;first|(exact(decide_eq_true (by omega)).symm)|(exact(decide_eq_false (by omega)).symm)|(exact decide_eq_decide.2 (by omega))),rfl⟩
   ·refine aS (aj (ah (ae rfl rfl (dz rfl rfl rfl (ae rfl rfl ?_)))));refine aJ (g:=19) rfl (fun Bh=>?_) (fun Bh=>?_)
    ·refine al rfl rfl (ae rfl rfl (al rfl rfl (eV rfl rfl rfl (aR rfl rfl rfl (ae rfl rfl ?_)))));refine aJ (g:=23) rfl (fun Bi=>?_) (fun Bi=>?_)
     ·refine al rfl rfl (ae rfl rfl (al rfl rfl (eW rfl rfl rfl (aR rfl rfl rfl (ae rfl rfl ?_)))));refine aJ (g:=27) rfl (fun td=>?_) (fun td=>?_)
      ·refine al rfl rfl (ae rfl rfl (al rfl rfl (eW rfl rfl rfl (aR rfl rfl rfl (ai rfl rfl (ad (aL ?_)))))));exact aO rfl rfl ⟨by simp only[eC];first|rfl|(congr 1;first|(exact(decide_eq_true (by omega)).symm)|(exact(decide_eq_false (by omega)).symm)|(exact decide_eq_decide.2 (by omega))),rfl⟩
      ·refine aq rfl rfl rfl rfl (aq rfl rfl rfl rfl (az rfl rfl rfl (ai rfl rfl (ad (aL ?_)))));exact aO rfl rfl ⟨by simp only[eC];first|rfl|(congr 1;first|(exact(decide_eq_true (by omega)).symm)|(exact(decide_eq_false (by omega)).symm)|(exact decide_eq_decide.2 (by omega))),rfl⟩
     ·refine aq rfl rfl rfl rfl (aq rfl rfl rfl rfl (az rfl rfl rfl (ae rfl rfl (aq rfl rfl rfl rfl (aq rfl rfl rfl rfl (az rfl rfl rfl (ai rfl rfl (ad (aL ?_)))))))));exact aO rfl rfl ⟨by simp only[eC];first|rfl|(congr 1;first|(exact(decide_eq_true (by omega)).symm)|(exact(decide_eq_false (by omega)).symm)|(exact decide_eq_decide.2 (by omega))),rfl⟩
    ·refine aq rfl rfl rfl rfl (aq rfl rfl rfl rfl (az rfl rfl rfl (ae rfl rfl (aq rfl rfl rfl rfl (aq rfl rfl rfl rfl (az rfl rfl rfl (ae rfl rfl (aq rfl rfl rfl rfl (aq rfl rfl rfl rfl (az rfl rfl rfl (ai rfl rfl ?_)))))))))));refine ad (aL ?_);exact aO rfl rfl ⟨by simp only[eC];first|rfl|(congr 1;first|(exact(decide_eq_true (by omega)).symm)|(exact(decide_eq_false (by omega)).symm)|(exact decide_eq_decide.2 (by omega))),rfl⟩
  ·refine aq rfl rfl rfl rfl (aq rfl rfl rfl rfl (al rfl rfl (az rfl rfl rfl (az rfl rfl rfl (ad (gG rfl (aS (aj (ah (ae rfl rfl (dz rfl rfl rfl ?_)))))))))));refine ae rfl rfl ?_;refine aJ (g:=19) rfl (fun Bh=>?_) (fun Bh=>?_)
   ·refine al rfl rfl (ae rfl rfl (al rfl rfl (eV rfl rfl rfl (aR rfl rfl rfl (ae rfl rfl ?_)))));refine aJ (g:=23) rfl (fun Bi=>?_) (fun Bi=>?_)
    ·refine al rfl rfl (ae rfl rfl (al rfl rfl (eW rfl rfl rfl (aR rfl rfl rfl (ae rfl rfl ?_)))));refine aJ (g:=27) rfl (fun td=>?_) (fun td=>?_)
     ·refine al rfl rfl (ae rfl rfl (al rfl rfl (eW rfl rfl rfl (aR rfl rfl rfl (ai rfl rfl (ad (aL ?_)))))));exact aO rfl rfl ⟨by simp only[eC];first|rfl|(congr 1;first|(exact(decide_eq_true (by omega)).symm)|(exact(decide_eq_false (by omega)).symm)|(exact decide_eq_decide.2 (by omega))),rfl⟩
     ·refine aq rfl rfl rfl rfl (aq rfl rfl rfl rfl (az rfl rfl rfl (ai rfl rfl (ad (aL ?_)))));exact aO rfl rfl ⟨by simp only[eC];first|rfl|(congr 1;first|(exact(decide_eq_true (by omega)).symm)|(exact(decide_eq_false (by omega)).symm)|(exact decide_eq_decide.2 (by omega))),rfl⟩
    ·refine aq rfl rfl rfl rfl (aq rfl rfl rfl rfl (az rfl rfl rfl (ae rfl rfl (aq rfl rfl rfl rfl (aq rfl rfl rfl rfl (az rfl rfl rfl (ai rfl rfl (ad (aL ?_)))))))));exact aO rfl rfl ⟨by simp only[eC];first|rfl|(congr 1;first|(exact(decide_eq_true (by omega)).symm)|(exact(decide_eq_false (by omega)).symm)|(exact decide_eq_decide.2 (by omega))),rfl⟩
   ·refine aq rfl rfl rfl rfl (aq rfl rfl rfl rfl (az rfl rfl rfl (ae rfl rfl (aq rfl rfl rfl rfl (aq rfl rfl rfl rfl (az rfl rfl rfl (ae rfl rfl (aq rfl rfl rfl rfl (aq rfl rfl rfl rfl (az rfl rfl rfl (ai rfl rfl ?_)))))))))));refine ad (aL ?_);exact aO rfl rfl ⟨by simp only[eC];first|rfl|(congr 1;first|(exact(decide_eq_true (by omega)).symm)|(exact(decide_eq_false (by omega)).symm)|(exact decide_eq_decide.2 (by omega))),rfl⟩
theorem Bj (c:Int) (w0:World) (hc:0≤c∧c≤1114111):
  Spec Tryz.prog 218 #[.int .i64 c] w0 (fun v w=>v= .int .i64 (ez c)∧w=w0):=by
 refine aZ (args:=[_]) (fn:=Tryz.f218) Tryz.func218 rfl (n:=28) Tryz.ntmps218 (aj (ah (ai rfl rfl (ad (aj (aj (ah (ae rfl rfl (dz rfl rfl rfl (ae rfl rfl ?_))))))))));refine aJ (g:=5) rfl (fun fR=>?_) (fun fR=>?_)
 ·refine al rfl rfl (ae rfl rfl (al rfl rfl (eV rfl rfl rfl (aR rfl rfl rfl (ae rfl rfl ?_)))));refine aJ (g:=9) rfl (fun xE=>?_) (fun xE=>?_)
  ·refine aq rfl rfl rfl rfl (aq rfl rfl rfl rfl (aq rfl rfl rfl rfl (cj rfl rfl rfl (cj rfl rfl rfl (aq rfl rfl rfl rfl (aR rfl rfl rfl (ae rfl rfl (aq rfl rfl rfl rfl (aq rfl rfl rfl rfl (aq rfl rfl rfl rfl (cj rfl rfl rfl ?_)))))))))));refine cj rfl rfl rfl (aq rfl rfl rfl rfl (aR rfl rfl rfl (ad (lT rfl (aj (ah (ae rfl rfl (bu rfl rfl rfl (by omega) (ai rfl rfl (ad (aL ?_)))))))))));exact aO rfl rfl ⟨by rw[ez,if_pos (by omega)],rfl⟩
  ·refine al rfl rfl (ae rfl rfl (al rfl rfl (dz rfl rfl rfl (al rfl rfl (ae rfl rfl ?_)))));refine aJ (g:=12) rfl (fun oO=>?_) (fun oO=>?_)
   ·refine al rfl rfl (ae rfl rfl (al rfl rfl (eV rfl rfl rfl (al rfl rfl (aR rfl rfl rfl (az rfl rfl rfl (ae rfl rfl ?_)))))));refine aJ (g:=17) rfl (fun sY=>?_) (fun sY=>?_)
    ·refine aq rfl rfl rfl rfl (aq rfl rfl rfl rfl (aq rfl rfl rfl rfl (cj rfl rfl rfl (cj rfl rfl rfl (aq rfl rfl rfl rfl (aR rfl rfl rfl (ad (lT rfl (aj (ah (ae rfl rfl ?_)))))))))));refine bu rfl rfl rfl (by omega) (ai rfl rfl (ad (aL ?_)));exact aO rfl rfl ⟨by rw[ez,if_pos (by omega)],rfl⟩
    ·refine al rfl rfl (ae rfl rfl (al rfl rfl (dz rfl rfl rfl (al rfl rfl (ae rfl rfl ?_)))));refine aJ (g:=20) rfl (fun ke=>?_) (fun ke=>?_)
     ·refine al rfl rfl (ae rfl rfl (al rfl rfl (eV rfl rfl rfl (al rfl rfl (aR rfl rfl rfl (az rfl rfl rfl (ad ?_)))))));refine bH rfl (fun c1=>?_) (fun c1=>?_)
      ·refine aj (ah (ae rfl rfl (bu rfl rfl rfl (by omega) (ai rfl rfl (ad (aL ?_))))));exact aO rfl rfl ⟨by rw[ez,if_pos (by omega)],rfl⟩
      ·refine aS (aj (ah (ae rfl rfl (ai rfl rfl (ad (aL ?_))))));exact aO rfl rfl ⟨by rw[ez,if_neg (by omega)],rfl⟩
     ·refine aq rfl rfl rfl rfl (aq rfl rfl rfl rfl (al rfl rfl (az rfl rfl rfl (az rfl rfl rfl (ad (gG rfl (aS (aj (ah (ae rfl rfl (ai rfl rfl ?_)))))))))));refine ad (aL ?_);exact aO rfl rfl ⟨by rw[ez,if_neg (by omega)],rfl⟩
   ·refine aq rfl rfl rfl rfl (aq rfl rfl rfl rfl (al rfl rfl (az rfl rfl rfl (az rfl rfl rfl (ae rfl rfl (al rfl rfl (ae rfl rfl (al rfl rfl (dz rfl rfl rfl (al rfl rfl (ae rfl rfl ?_)))))))))));refine aJ (g:=20) rfl (fun ke=>?_) (fun ke=>?_)
    ·refine al rfl rfl (ae rfl rfl (al rfl rfl (eV rfl rfl rfl (al rfl rfl (aR rfl rfl rfl (az rfl rfl rfl (ad ?_)))))));refine bH rfl (fun c1=>?_) (fun c1=>?_)
     ·refine aj (ah (ae rfl rfl (bu rfl rfl rfl (by omega) (ai rfl rfl (ad (aL ?_))))));exact aO rfl rfl ⟨by rw[ez,if_pos (by omega)],rfl⟩
     ·refine aS (aj (ah (ae rfl rfl (ai rfl rfl (ad (aL ?_))))));exact aO rfl rfl ⟨by rw[ez,if_neg (by omega)],rfl⟩
    ·refine aq rfl rfl rfl rfl (aq rfl rfl rfl rfl (al rfl rfl (az rfl rfl rfl (az rfl rfl rfl (ad (gG rfl (aS (aj (ah (ae rfl rfl (ai rfl rfl ?_)))))))))));refine ad (aL ?_);exact aO rfl rfl ⟨by rw[ez,if_neg (by omega)],rfl⟩
 ·refine aq rfl rfl rfl rfl (aq rfl rfl rfl rfl (az rfl rfl rfl (ae rfl rfl (al rfl rfl (ae rfl rfl (al rfl rfl (dz rfl rfl rfl (al rfl rfl (ae rfl rfl ?_)))))))));refine aJ (g:=12) rfl (fun oO=>?_) (fun oO=>?_)
  ·refine al rfl rfl (ae rfl rfl (al rfl rfl (eV rfl rfl rfl (al rfl rfl (aR rfl rfl rfl (az rfl rfl rfl (ae rfl rfl ?_)))))));refine aJ (g:=17) rfl (fun sY=>?_) (fun sY=>?_)
   ·refine aq rfl rfl rfl rfl (aq rfl rfl rfl rfl (aq rfl rfl rfl rfl (cj rfl rfl rfl (cj rfl rfl rfl (aq rfl rfl rfl rfl (aR rfl rfl rfl (ad (lT rfl (aj (ah (ae rfl rfl ?_)))))))))));refine bu rfl rfl rfl (by omega) (ai rfl rfl (ad (aL ?_)));exact aO rfl rfl ⟨by rw[ez,if_pos (by omega)],rfl⟩
   ·refine al rfl rfl (ae rfl rfl (al rfl rfl (dz rfl rfl rfl (al rfl rfl (ae rfl rfl ?_)))));refine aJ (g:=20) rfl (fun ke=>?_) (fun ke=>?_)
    ·refine al rfl rfl (ae rfl rfl (al rfl rfl (eV rfl rfl rfl (al rfl rfl (aR rfl rfl rfl (az rfl rfl rfl (ad ?_)))))));refine bH rfl (fun c1=>?_) (fun c1=>?_)
     ·refine aj (ah (ae rfl rfl (bu rfl rfl rfl (by omega) (ai rfl rfl (ad (aL ?_))))));exact aO rfl rfl ⟨by rw[ez,if_pos (by omega)],rfl⟩
     ·refine aS (aj (ah (ae rfl rfl (ai rfl rfl (ad (aL ?_))))));exact aO rfl rfl ⟨by rw[ez,if_neg (by omega)],rfl⟩
    ·refine aq rfl rfl rfl rfl (aq rfl rfl rfl rfl (al rfl rfl (az rfl rfl rfl (az rfl rfl rfl (ad (gG rfl (aS (aj (ah (ae rfl rfl (ai rfl rfl ?_)))))))))));refine ad (aL ?_);exact aO rfl rfl ⟨by rw[ez,if_neg (by omega)],rfl⟩
  ·refine aq rfl rfl rfl rfl (aq rfl rfl rfl rfl (al rfl rfl (az rfl rfl rfl (az rfl rfl rfl (ae rfl rfl (al rfl rfl (ae rfl rfl (al rfl rfl (dz rfl rfl rfl (al rfl rfl (ae rfl rfl ?_)))))))))));refine aJ (g:=20) rfl (fun ke=>?_) (fun ke=>?_)
   ·refine al rfl rfl (ae rfl rfl (al rfl rfl (eV rfl rfl rfl (al rfl rfl (aR rfl rfl rfl (az rfl rfl rfl (ad ?_)))))));refine bH rfl (fun c1=>?_) (fun c1=>?_)
    ·refine aj (ah (ae rfl rfl (bu rfl rfl rfl (by omega) (ai rfl rfl (ad (aL ?_))))));exact aO rfl rfl ⟨by rw[ez,if_pos (by omega)],rfl⟩
    ·refine aS (aj (ah (ae rfl rfl (ai rfl rfl (ad (aL ?_))))));exact aO rfl rfl ⟨by rw[ez,if_neg (by omega)],rfl⟩
   ·refine aq rfl rfl rfl rfl (aq rfl rfl rfl rfl (al rfl rfl (az rfl rfl rfl (az rfl rfl rfl (ad (gG rfl (aS (aj (ah (ae rfl rfl (ai rfl rfl ?_)))))))))));refine ad (aL ?_);exact aO rfl rfl ⟨by rw[ez,if_neg (by omega)],rfl⟩
def rM (c:Int):Bool:=decide (eC c=true∨k5 c=true)
theorem zf (c:Int) (w0:World):
  Spec Tryz.prog 217 #[.int .i64 c] w0 (fun v w=>v= .bool (rM c)∧w=w0):=by
 refine aZ (args:=[_]) (fn:=Tryz.f217) Tryz.func217 rfl (n:=13) Tryz.ntmps217 (aj (ah (ai rfl rfl (ad (aj (ah (ae rfl rfl ?_)))))));refine aQ rfl rfl VK (xG _ _) (fun r wc hc=>?_);obtain⟨rfl,rfl⟩:=hc;refine bz (v':= .bool (decide (eC c=true))) (by cases eC c<;>rfl) (ae rfl rfl ?_);refine aJ (g:=5) rfl (fun fR=>?_) (fun fR=>?_)
 ·refine aq rfl rfl rfl rfl (aq rfl rfl rfl rfl (aq rfl rfl rfl rfl (cj rfl rfl rfl (cj rfl rfl rfl (aq rfl rfl rfl rfl (aR rfl rfl rfl (ai rfl rfl (ad (aL ?_)))))))));have e:(k5 c=true)=(48≤c∧c≤57):=by simp[k5]
  exact aO rfl rfl ⟨by simp only[rM,e];first|(congr 1;first|(exact(decide_eq_true (.inl (by assumption))).symm)|(exact(decide_eq_true (.inr (by omega))).symm)|(exact(decide_eq_false (by rintro(h|h)<;>first|exact absurd h (by assumption)|omega)).symm)|(exact decide_eq_decide.2 ⟨fun h=> .inr (by omega),fun h=>h.elim (fun h=>absurd h (by assumption)) (fun h=>by omega)⟩)),rfl⟩
 ·refine al rfl rfl (ae rfl rfl (al rfl rfl (dz rfl rfl rfl (al rfl rfl (ae rfl rfl ?_)))));refine aJ (g:=8) rfl (fun l9=>?_) (fun l9=>?_)
  ·refine al rfl rfl (ae rfl rfl (al rfl rfl (eV rfl rfl rfl (al rfl rfl (aR rfl rfl rfl (az rfl rfl rfl (ai rfl rfl (ad (aL ?_)))))))));have e:(k5 c=true)=(48≤c∧c≤57):=by simp[k5]
   exact aO rfl rfl ⟨by simp only[rM,e];first|(congr 1;first|(exact(decide_eq_true (.inl (by assumption))).symm)|(exact(decide_eq_true (.inr (by omega))).symm)|(exact(decide_eq_false (by rintro(h|h)<;>first|exact absurd h (by assumption)|omega)).symm)|(exact decide_eq_decide.2 ⟨fun h=> .inr (by omega),fun h=>h.elim (fun h=>absurd h (by assumption)) (fun h=>by omega)⟩)),rfl⟩
  ·refine aq rfl rfl rfl rfl (aq rfl rfl rfl rfl (al rfl rfl (az rfl rfl rfl (az rfl rfl rfl (ai rfl rfl (ad (aL ?_)))))));have e:(k5 c=true)=(48≤c∧c≤57):=by simp[k5]
   exact aO rfl rfl ⟨by simp only[rM,e];first|(congr 1;first|(exact(decide_eq_true (.inl (by assumption))).symm)|(exact(decide_eq_true (.inr (by omega))).symm)|(exact(decide_eq_false (by rintro(h|h)<;>first|exact absurd h (by assumption)|omega)).symm)|(exact decide_eq_decide.2 ⟨fun h=> .inr (by omega),fun h=>h.elim (fun h=>absurd h (by assumption)) (fun h=>by omega)⟩)),rfl⟩
theorem Mg {l:List UInt8} {c:Int} (hc:c=(iv l 0:Int)) (hn:nO c≠0):∀{k:Nat},(∀j:Nat,1≤j→j<k+1→ij l j=true)→k≤3→0≤vO l k∧vO l k≤100000000:=by
 have key:∀k:Nat,(∀j:Nat,1≤j→j<k+1→ij l j=true)→0≤vO l k∧vO l k≤33*64^k-1:=by
  intro k
  induction k with
  |zero=>
   intro _;have:=lE hn;show 0≤qo (iv l 0:Int)∧qo (iv l 0:Int)≤33*64^0-1;rw[←hc];simp only[Int.pow_zero];omega
  |succ k ih=>
   intro h;have h1:=ih fun j h2 h3=>h j h2 (by omega)
   have h2:=fw.1 (h (k+1) (by omega) (by omega));show 0≤64*vO l k+_-128∧64*vO l k+_-128≤_;rw[Int.pow_succ];omega
 intro k h hk;have:=key k h
 have h3:(64:Int)^k≤262144:=by
  rcases(show k=0∨k=1∨k=2∨k=3 by omega)with rfl|rfl|rfl|rfl<;>decide
 omega
theorem Fs {l:List UInt8} (w0:World) (hl:l≠[]) (hlen:l.length≤1000000):
  Spec Tryz.prog 252 #[.string ⟨l.toArray⟩] w0 (fun v w=>v= .tuple #[.int .i64 ((dec l).1:Int),.int .i64 ((dec l).2:Int)]∧w=w0):=by
 have xi:0<l.length:=lS.2 hl;have hb0:=l7 l 0;obtain⟨c,hc⟩:∃c:Int,c=(iv l 0:Int):=⟨_,rfl⟩;have hcr:0≤c∧c<256:=by omega
 refine aZ (args:=[_]) (fn:=Tryz.f252) Tryz.func252 rfl (n:=85) Tryz.ntmps252 (aj (ah (ai rfl rfl (ai rfl rfl (ad (aj (ah (ae rfl rfl ?_))))))));refine Rg.CF (c:=l.getD 0 0) aC rfl rfl rfl (by decide) (by rw[bT];show l[0]? =_;rw[aD xi];rfl) ?_;refine bz (v':= .int .u8 c) (by rw[hc];rfl) (Rg.sm cf ar rfl rfl (by omega) (ai rfl rfl (ad (aj (aj (ah (ae rfl rfl (b4 rfl rfl rfl (ad ?_)))))))));refine bH rfl (fun c2=>?_) (fun c2=>?_)
 ·refine aj (ah (ae rfl rfl (ai rfl rfl (ai rfl rfl (ad (aL ?_))))));exact eN rfl rfl rfl ⟨by rw[Qf (by omega),hc];rfl,rfl⟩
 ·refine aS (aj (ah (ai rfl rfl (ad (aj (ah (ai rfl rfl (ad (aj (ah (ai rfl rfl ?_)))))))))));refine ad ?_;refine T.CB [(0,.string ⟨l.toArray⟩),(4,.int .i64 c),(5,.int .i64 (nO c)),(6,.int .i64 (fD c)),(7,.int .i64 (qo c))] ?_ ?_
  ·refine aj (ah (ae rfl rfl (dz rfl rfl rfl (ae rfl rfl ?_))));refine aJ (g:=18) rfl (fun VP=>?_) (fun VP=>?_)
   ·refine al rfl rfl (ae rfl rfl (al rfl rfl (b4 rfl rfl rfl (aR rfl rfl rfl (ad ?_)))));refine bH rfl (fun c7=>?_) (fun c7=>?_)
    ·refine aj (ah (ai rfl rfl (ad (aj (ah (ai rfl rfl (ad (ah (ae rfl rfl (gN rfl rfl rfl (by omega) (ai rfl rfl ?_)))))))))));refine ad ?_;exact⟨rfl,rfl,rfl,.cons rfl (.cons rfl (.cons (congrArg (fun z=>some (Value.int .i64 z)) (by first|(exfalso;omega)|(unfold nO;repeat (first|rw[if_pos (by omega)]|rw[if_neg (by omega)])))) (.cons (congrArg (fun z=>some (Value.int .i64 z)) (by first|(exfalso;omega)|(unfold fD;repeat (first|rw[if_pos (by omega)]|rw[if_neg (by omega)])))) (.cons (congrArg (fun z=>some (Value.int .i64 z)) (by first|(exfalso;omega)|(unfold qo;repeat (first|rw[if_pos (by omega)]|rw[if_neg (by omega)])))) (.nil)))))⟩
    ·refine aj (ah (ae rfl rfl (dz rfl rfl rfl (ae rfl rfl ?_))));refine aJ (g:=26) rfl (fun Ft=>?_) (fun Ft=>?_)
     ·refine al rfl rfl (ae rfl rfl (al rfl rfl (b4 rfl rfl rfl (aR rfl rfl rfl (ad ?_)))));refine bH rfl (fun Mh=>?_) (fun Mh=>?_)
      ·refine aj (ah (ai rfl rfl (ad (aj (ah (ai rfl rfl (ad (ah (ae rfl rfl (gN rfl rfl rfl (by omega) (ai rfl rfl ?_)))))))))));refine ad ?_;exact⟨rfl,rfl,rfl,.cons rfl (.cons rfl (.cons (congrArg (fun z=>some (Value.int .i64 z)) (by first|(exfalso;omega)|(unfold nO;repeat (first|rw[if_pos (by omega)]|rw[if_neg (by omega)])))) (.cons (congrArg (fun z=>some (Value.int .i64 z)) (by first|(exfalso;omega)|(unfold fD;repeat (first|rw[if_pos (by omega)]|rw[if_neg (by omega)])))) (.cons (congrArg (fun z=>some (Value.int .i64 z)) (by first|(exfalso;omega)|(unfold qo;repeat (first|rw[if_pos (by omega)]|rw[if_neg (by omega)])))) (.nil)))))⟩
      ·refine aj (ah (ae rfl rfl (dz rfl rfl rfl (ae rfl rfl ?_))));refine aJ (g:=34) rfl (fun te=>?_) (fun te=>?_)
       ·refine al rfl rfl (ae rfl rfl (al rfl rfl (b4 rfl rfl rfl (aR rfl rfl rfl (ad ?_)))));refine bH rfl (fun Mi=>?_) (fun Mi=>?_)
        ·refine aj (ah (ai rfl rfl (ad (aj (ah (ai rfl rfl (ad (ah (ae rfl rfl (gN rfl rfl rfl (by omega) (ai rfl rfl ?_)))))))))));refine ad ?_;exact⟨rfl,rfl,rfl,.cons rfl (.cons rfl (.cons (congrArg (fun z=>some (Value.int .i64 z)) (by first|(exfalso;omega)|(unfold nO;repeat (first|rw[if_pos (by omega)]|rw[if_neg (by omega)])))) (.cons (congrArg (fun z=>some (Value.int .i64 z)) (by first|(exfalso;omega)|(unfold fD;repeat (first|rw[if_pos (by omega)]|rw[if_neg (by omega)])))) (.cons (congrArg (fun z=>some (Value.int .i64 z)) (by first|(exfalso;omega)|(unfold qo;repeat (first|rw[if_pos (by omega)]|rw[if_neg (by omega)])))) (.nil)))))⟩
        ·refine aS ?_;exact⟨rfl,rfl,rfl,.cons rfl (.cons rfl (.cons (congrArg (fun z=>some (Value.int .i64 z)) (by first|(exfalso;omega)|(unfold nO;repeat (first|rw[if_pos (by omega)]|rw[if_neg (by omega)])))) (.cons (congrArg (fun z=>some (Value.int .i64 z)) (by first|(exfalso;omega)|(unfold fD;repeat (first|rw[if_pos (by omega)]|rw[if_neg (by omega)])))) (.cons (congrArg (fun z=>some (Value.int .i64 z)) (by first|(exfalso;omega)|(unfold qo;repeat (first|rw[if_pos (by omega)]|rw[if_neg (by omega)])))) (.nil)))))⟩
       ·refine aq rfl rfl rfl rfl (aq rfl rfl rfl rfl (az rfl rfl rfl (ad (gG rfl (aS ?_)))));exact⟨rfl,rfl,rfl,.cons rfl (.cons rfl (.cons (congrArg (fun z=>some (Value.int .i64 z)) (by first|(exfalso;omega)|(unfold nO;repeat (first|rw[if_pos (by omega)]|rw[if_neg (by omega)])))) (.cons (congrArg (fun z=>some (Value.int .i64 z)) (by first|(exfalso;omega)|(unfold fD;repeat (first|rw[if_pos (by omega)]|rw[if_neg (by omega)])))) (.cons (congrArg (fun z=>some (Value.int .i64 z)) (by first|(exfalso;omega)|(unfold qo;repeat (first|rw[if_pos (by omega)]|rw[if_neg (by omega)])))) (.nil)))))⟩
     ·refine aq rfl rfl rfl rfl (aq rfl rfl rfl rfl (az rfl rfl rfl (ad (gG rfl (aj (ah (ae rfl rfl (dz rfl rfl rfl (ae rfl rfl ?_)))))))));refine aJ (g:=34) rfl (fun te=>?_) (fun te=>?_)
      ·refine al rfl rfl (ae rfl rfl (al rfl rfl (b4 rfl rfl rfl (aR rfl rfl rfl (ad ?_)))));refine bH rfl (fun Mi=>?_) (fun Mi=>?_)
       ·refine aj (ah (ai rfl rfl (ad (aj (ah (ai rfl rfl (ad (ah (ae rfl rfl (gN rfl rfl rfl (by omega) (ai rfl rfl ?_)))))))))));refine ad ?_;exact⟨rfl,rfl,rfl,.cons rfl (.cons rfl (.cons (congrArg (fun z=>some (Value.int .i64 z)) (by first|(exfalso;omega)|(unfold nO;repeat (first|rw[if_pos (by omega)]|rw[if_neg (by omega)])))) (.cons (congrArg (fun z=>some (Value.int .i64 z)) (by first|(exfalso;omega)|(unfold fD;repeat (first|rw[if_pos (by omega)]|rw[if_neg (by omega)])))) (.cons (congrArg (fun z=>some (Value.int .i64 z)) (by first|(exfalso;omega)|(unfold qo;repeat (first|rw[if_pos (by omega)]|rw[if_neg (by omega)])))) (.nil)))))⟩
       ·refine aS ?_;exact⟨rfl,rfl,rfl,.cons rfl (.cons rfl (.cons (congrArg (fun z=>some (Value.int .i64 z)) (by first|(exfalso;omega)|(unfold nO;repeat (first|rw[if_pos (by omega)]|rw[if_neg (by omega)])))) (.cons (congrArg (fun z=>some (Value.int .i64 z)) (by first|(exfalso;omega)|(unfold fD;repeat (first|rw[if_pos (by omega)]|rw[if_neg (by omega)])))) (.cons (congrArg (fun z=>some (Value.int .i64 z)) (by first|(exfalso;omega)|(unfold qo;repeat (first|rw[if_pos (by omega)]|rw[if_neg (by omega)])))) (.nil)))))⟩
      ·refine aq rfl rfl rfl rfl (aq rfl rfl rfl rfl (az rfl rfl rfl (ad (gG rfl (aS ?_)))));exact⟨rfl,rfl,rfl,.cons rfl (.cons rfl (.cons (congrArg (fun z=>some (Value.int .i64 z)) (by first|(exfalso;omega)|(unfold nO;repeat (first|rw[if_pos (by omega)]|rw[if_neg (by omega)])))) (.cons (congrArg (fun z=>some (Value.int .i64 z)) (by first|(exfalso;omega)|(unfold fD;repeat (first|rw[if_pos (by omega)]|rw[if_neg (by omega)])))) (.cons (congrArg (fun z=>some (Value.int .i64 z)) (by first|(exfalso;omega)|(unfold qo;repeat (first|rw[if_pos (by omega)]|rw[if_neg (by omega)])))) (.nil)))))⟩
   ·refine aq rfl rfl rfl rfl (aq rfl rfl rfl rfl (az rfl rfl rfl (ad (gG rfl (aj (ah (ae rfl rfl (dz rfl rfl rfl (ae rfl rfl ?_)))))))));refine aJ (g:=26) rfl (fun Ft=>?_) (fun Ft=>?_)
    ·refine al rfl rfl (ae rfl rfl (al rfl rfl (b4 rfl rfl rfl (aR rfl rfl rfl (ad ?_)))));refine bH rfl (fun Mh=>?_) (fun Mh=>?_)
     ·refine aj (ah (ai rfl rfl (ad (aj (ah (ai rfl rfl (ad (ah (ae rfl rfl (gN rfl rfl rfl (by omega) (ai rfl rfl ?_)))))))))));refine ad ?_;exact⟨rfl,rfl,rfl,.cons rfl (.cons rfl (.cons (congrArg (fun z=>some (Value.int .i64 z)) (by first|(exfalso;omega)|(unfold nO;repeat (first|rw[if_pos (by omega)]|rw[if_neg (by omega)])))) (.cons (congrArg (fun z=>some (Value.int .i64 z)) (by first|(exfalso;omega)|(unfold fD;repeat (first|rw[if_pos (by omega)]|rw[if_neg (by omega)])))) (.cons (congrArg (fun z=>some (Value.int .i64 z)) (by first|(exfalso;omega)|(unfold qo;repeat (first|rw[if_pos (by omega)]|rw[if_neg (by omega)])))) (.nil)))))⟩
     ·refine aj (ah (ae rfl rfl (dz rfl rfl rfl (ae rfl rfl ?_))));refine aJ (g:=34) rfl (fun te=>?_) (fun te=>?_)
      ·refine al rfl rfl (ae rfl rfl (al rfl rfl (b4 rfl rfl rfl (aR rfl rfl rfl (ad ?_)))));refine bH rfl (fun Mi=>?_) (fun Mi=>?_)
       ·refine aj (ah (ai rfl rfl (ad (aj (ah (ai rfl rfl (ad (ah (ae rfl rfl (gN rfl rfl rfl (by omega) (ai rfl rfl ?_)))))))))));refine ad ?_;exact⟨rfl,rfl,rfl,.cons rfl (.cons rfl (.cons (congrArg (fun z=>some (Value.int .i64 z)) (by first|(exfalso;omega)|(unfold nO;repeat (first|rw[if_pos (by omega)]|rw[if_neg (by omega)])))) (.cons (congrArg (fun z=>some (Value.int .i64 z)) (by first|(exfalso;omega)|(unfold fD;repeat (first|rw[if_pos (by omega)]|rw[if_neg (by omega)])))) (.cons (congrArg (fun z=>some (Value.int .i64 z)) (by first|(exfalso;omega)|(unfold qo;repeat (first|rw[if_pos (by omega)]|rw[if_neg (by omega)])))) (.nil)))))⟩
       ·refine aS ?_;exact⟨rfl,rfl,rfl,.cons rfl (.cons rfl (.cons (congrArg (fun z=>some (Value.int .i64 z)) (by first|(exfalso;omega)|(unfold nO;repeat (first|rw[if_pos (by omega)]|rw[if_neg (by omega)])))) (.cons (congrArg (fun z=>some (Value.int .i64 z)) (by first|(exfalso;omega)|(unfold fD;repeat (first|rw[if_pos (by omega)]|rw[if_neg (by omega)])))) (.cons (congrArg (fun z=>some (Value.int .i64 z)) (by first|(exfalso;omega)|(unfold qo;repeat (first|rw[if_pos (by omega)]|rw[if_neg (by omega)])))) (.nil)))))⟩
      ·refine aq rfl rfl rfl rfl (aq rfl rfl rfl rfl (az rfl rfl rfl (ad (gG rfl (aS ?_)))));exact⟨rfl,rfl,rfl,.cons rfl (.cons rfl (.cons (congrArg (fun z=>some (Value.int .i64 z)) (by first|(exfalso;omega)|(unfold nO;repeat (first|rw[if_pos (by omega)]|rw[if_neg (by omega)])))) (.cons (congrArg (fun z=>some (Value.int .i64 z)) (by first|(exfalso;omega)|(unfold fD;repeat (first|rw[if_pos (by omega)]|rw[if_neg (by omega)])))) (.cons (congrArg (fun z=>some (Value.int .i64 z)) (by first|(exfalso;omega)|(unfold qo;repeat (first|rw[if_pos (by omega)]|rw[if_neg (by omega)])))) (.nil)))))⟩
    ·refine aq rfl rfl rfl rfl (aq rfl rfl rfl rfl (az rfl rfl rfl (ad (gG rfl (aj (ah (ae rfl rfl (dz rfl rfl rfl (ae rfl rfl ?_)))))))));refine aJ (g:=34) rfl (fun te=>?_) (fun te=>?_)
     ·refine al rfl rfl (ae rfl rfl (al rfl rfl (b4 rfl rfl rfl (aR rfl rfl rfl (ad ?_)))));refine bH rfl (fun Mi=>?_) (fun Mi=>?_)
      ·refine aj (ah (ai rfl rfl (ad (aj (ah (ai rfl rfl (ad (ah (ae rfl rfl (gN rfl rfl rfl (by omega) (ai rfl rfl ?_)))))))))));refine ad ?_;exact⟨rfl,rfl,rfl,.cons rfl (.cons rfl (.cons (congrArg (fun z=>some (Value.int .i64 z)) (by first|(exfalso;omega)|(unfold nO;repeat (first|rw[if_pos (by omega)]|rw[if_neg (by omega)])))) (.cons (congrArg (fun z=>some (Value.int .i64 z)) (by first|(exfalso;omega)|(unfold fD;repeat (first|rw[if_pos (by omega)]|rw[if_neg (by omega)])))) (.cons (congrArg (fun z=>some (Value.int .i64 z)) (by first|(exfalso;omega)|(unfold qo;repeat (first|rw[if_pos (by omega)]|rw[if_neg (by omega)])))) (.nil)))))⟩
      ·refine aS ?_;exact⟨rfl,rfl,rfl,.cons rfl (.cons rfl (.cons (congrArg (fun z=>some (Value.int .i64 z)) (by first|(exfalso;omega)|(unfold nO;repeat (first|rw[if_pos (by omega)]|rw[if_neg (by omega)])))) (.cons (congrArg (fun z=>some (Value.int .i64 z)) (by first|(exfalso;omega)|(unfold fD;repeat (first|rw[if_pos (by omega)]|rw[if_neg (by omega)])))) (.cons (congrArg (fun z=>some (Value.int .i64 z)) (by first|(exfalso;omega)|(unfold qo;repeat (first|rw[if_pos (by omega)]|rw[if_neg (by omega)])))) (.nil)))))⟩
     ·refine aq rfl rfl rfl rfl (aq rfl rfl rfl rfl (az rfl rfl rfl (ad (gG rfl (aS ?_)))));exact⟨rfl,rfl,rfl,.cons rfl (.cons rfl (.cons (congrArg (fun z=>some (Value.int .i64 z)) (by first|(exfalso;omega)|(unfold nO;repeat (first|rw[if_pos (by omega)]|rw[if_neg (by omega)])))) (.cons (congrArg (fun z=>some (Value.int .i64 z)) (by first|(exfalso;omega)|(unfold fD;repeat (first|rw[if_pos (by omega)]|rw[if_neg (by omega)])))) (.cons (congrArg (fun z=>some (Value.int .i64 z)) (by first|(exfalso;omega)|(unfold qo;repeat (first|rw[if_pos (by omega)]|rw[if_neg (by omega)])))) (.nil)))))⟩
  ·refine aj (aj (ah (ae rfl rfl (Rg.AZ rfl rfl rfl (ae rfl rfl ?_)))));refine aJ (g:=42) rfl (fun Qh=>?_) (fun Qh=>?_)
   ·refine aq rfl rfl rfl rfl (aq rfl rfl rfl rfl (aq rfl rfl rfl rfl (aq rfl rfl rfl rfl (aR rfl rfl rfl (ad (lT rfl (aj (ah (ai rfl rfl (ai rfl rfl (ad ?_)))))))))));refine aL ?_
    have hx:nO (iv l 0:Int)=0∨∃k:Nat,1≤k∧(k:Int)<nO (iv l 0:Int)∧ij l k=false:=by
     rw[←hc];by_cases h0:nO c=0
     ·exact .inl h0
     ·have UM:=lE h0;exact .inr ⟨(nO c).toNat-1,by omega,by omega,dX.2 fun h=>by have:=(fw.1 h).1;omega⟩
    have e:dec l=(65533,1):=CH (by omega) hx;exact eN rfl rfl rfl ⟨by rw[e];rfl,rfl⟩
   ·refine al rfl rfl (ae rfl rfl (al rfl rfl (Rg.k3 aC rfl rfl (bz (v':= .int .i64 (l.length:Int)) (by simp[ByteArray.size]) (al rfl rfl (ae rfl rfl (al rfl rfl (b4 rfl rfl rfl (az rfl rfl rfl (ad ?_))))))))));refine bH rfl (fun VQ=>?_) (fun VQ=>?_)
    ·refine aj (ah (ai rfl rfl (ai rfl rfl (ad (aL ?_)))))
     have hx:nO (iv l 0:Int)=0∨∃k:Nat,1≤k∧(k:Int)<nO (iv l 0:Int)∧ij l k=false:=by
      rw[←hc];by_cases h0:nO c=0
      ·exact .inl h0
      ·have UM:=lE h0;exact .inr ⟨(nO c).toNat-1,by omega,by omega,dX.2 fun h=>by have:=(fw.1 h).1;omega⟩
     have e:dec l=(65533,1):=CH (by omega) hx;exact eN rfl rfl rfl ⟨by rw[e];rfl,rfl⟩
    ·refine aS (aj (aj (ah (ai rfl rfl (ad (aY ?_))))));refine dr (σ:=Nat) (fun i=>[(0,.string ⟨l.toArray⟩),(5,.int .i64 (nO c)),(6,.int .i64 (fD c)),(7,.int .i64 (vO l (i-1))),(8,.int .i64 (i:Int))]) (fun i w=>w=w0∧1≤i∧(i:Int)≤nO c∧∀k:Nat,1≤k→k<i→ij l k=true) (fun i=>(nO c).toNat-i) 1 (.cons rfl (.cons rfl (.cons rfl (.cons (congrArg (fun z=>some (Value.int .i64 z)) (by show qo c=qo (iv l 0:Int);rw[hc])) (.cons rfl .nil))))) ?_ ?_
     ·exact⟨rfl,a7 _,by have:=lE (c:=c) (by omega);omega,fun k h1 h2=>by omega⟩
     ·rintro i w ⟨rfl,vH,AV,eO⟩;have UM:=lE (c:=c) (by omega)
      have hvr:0≤vO l (i-1)∧vO l (i-1)≤100000000:=by
       exact Mg (l:=l) (c:=c) (k:=i-1) hc (by omega) (fun j h1 h2=>eO j h1 (by omega)) (by omega)
      refine aj (aj (ah (ae rfl rfl (ae rfl rfl (b4 rfl rfl rfl (ad ?_))))));refine bH rfl (fun c22=>?_) (fun c22=>?_)
      ·refine aS (aj (aY (aj (ah (ae rfl rfl (ae rfl rfl ?_))))));have lQ:i<l.length:=by omega
       refine Rg.CF (c:=l.getD i 0) aC rfl rfl rfl (by omega) (by rw[bT,aw,aD lQ];rfl) ?_;refine bz (v':= .int .u8 (iv l i:Int)) rfl ?_;have OU:=l7 l i;refine Rg.sm cf ar rfl rfl (by omega) (ai rfl rfl (ad (aj (aj (ah (ae rfl rfl (b4 rfl rfl rfl (ae rfl rfl ?_))))))));refine aJ (g:=59) rfl (fun Qi=>?_) (fun Qi=>?_)
       ·refine aq rfl rfl rfl rfl (aq rfl rfl rfl rfl (aR rfl rfl rfl (ad (lT rfl (aj (ah (ai rfl rfl (ai rfl rfl (ad (aL ?_))))))))))
        have hx:nO (iv l 0:Int)=0∨∃k:Nat,1≤k∧(k:Int)<nO (iv l 0:Int)∧ij l k=false:=by
         rw[←hc];exact .inr ⟨i,vH,by omega,dX.2 fun h=>by have:=fw.1 h;omega⟩
        have e:dec l=(65533,1):=CH (by omega) hx;exact eN rfl rfl rfl ⟨by rw[e];rfl,rfl⟩
       ·refine al rfl rfl (ae rfl rfl (al rfl rfl (dz rfl rfl rfl (az rfl rfl rfl (ad ?_)))));refine bH rfl (fun c25=>?_) (fun c25=>?_)
        ·refine aj (ah (ai rfl rfl (ai rfl rfl (ad (aL ?_)))))
         have hx:nO (iv l 0:Int)=0∨∃k:Nat,1≤k∧(k:Int)<nO (iv l 0:Int)∧ij l k=false:=by
          rw[←hc];exact .inr ⟨i,vH,by omega,dX.2 fun h=>by have:=fw.1 h;omega⟩
         have e:dec l=(65533,1):=CH (by omega) hx;exact eN rfl rfl rfl ⟨by rw[e];rfl,rfl⟩
        ·refine aS (ah (ae rfl rfl (Rg.LI rfl rfl rfl (by omega) (ae rfl rfl (bu rfl rfl rfl (by omega) (gN rfl rfl rfl (by omega) (ai rfl rfl (ad (ah (ae rfl rfl (bu rfl rfl rfl (by omega) ?_)))))))))));refine ai rfl rfl (ad ?_);refine⟨rfl,i+1,(.cons rfl (.cons rfl (.cons rfl (.cons (congrArg (fun z=>some (Value.int .i64 z)) (by obtain⟨q,rfl⟩:∃q,i=q+1:=⟨i-1,by omega⟩;rfl)) (.cons rfl .nil))))),?_,?_⟩
         ·exact⟨rfl,by omega,by omega,fun k h1 h2=>by
           rcases cU k i with h|h
           ·exact eO k h1 h
           ·obtain rfl:k=i:=by omega
            exact fw.2 (by omega)⟩
         ·omega
      ·refine cG (aj (aj (ah (ae rfl rfl (ae rfl rfl (b4 rfl rfl rfl (ae rfl rfl ?_)))))));refine aJ (g:=71) rfl (fun Qj=>?_) (fun Qj=>?_)
       ·refine aq rfl rfl rfl rfl (aq rfl rfl rfl rfl (aR rfl rfl rfl (ae rfl rfl (aq rfl rfl rfl rfl (aq rfl rfl rfl rfl (aq rfl rfl rfl rfl (cj rfl rfl rfl (cj rfl rfl rfl (aq rfl rfl rfl rfl (aR rfl rfl rfl (ad ?_)))))))))));refine lT rfl (aj (ah (ai rfl rfl (ai rfl rfl (ad (aL ?_))))));have e:=ze (l:=l) (by rw[←hc];omega) (by rw[←hc];exact fun k h1 h2=>eO k h1 (by omega)) (vO l (i-1)) (by rw[←hc];congr 1;omega);rw[←hc,if_pos (by omega)]at e;exact eN rfl rfl rfl ⟨by rw[e];rfl,rfl⟩
       ·refine al rfl rfl (ae rfl rfl (al rfl rfl (mL rfl rfl rfl (az rfl rfl rfl (ae rfl rfl ?_)))));refine aJ (g:=75) rfl (fun Qk=>?_) (fun Qk=>?_)
        ·refine aq rfl rfl rfl rfl (aq rfl rfl rfl rfl (aq rfl rfl rfl rfl (cj rfl rfl rfl (cj rfl rfl rfl (aq rfl rfl rfl rfl (aR rfl rfl rfl (ad (lT rfl (aj (ah (ai rfl rfl ?_)))))))))));refine ai rfl rfl (ad (aL ?_));have e:=ze (l:=l) (by rw[←hc];omega) (by rw[←hc];exact fun k h1 h2=>eO k h1 (by omega)) (vO l (i-1)) (by rw[←hc];congr 1;omega);rw[←hc,if_pos (by omega)]at e;exact eN rfl rfl rfl ⟨by rw[e];rfl,rfl⟩
        ·refine al rfl rfl (ae rfl rfl (al rfl rfl (dz rfl rfl rfl (al rfl rfl (ae rfl rfl ?_)))));refine aJ (g:=78) rfl (fun Mj=>?_) (fun Mj=>?_)
         ·refine al rfl rfl (ae rfl rfl (al rfl rfl (eV rfl rfl rfl (al rfl rfl (aR rfl rfl rfl (az rfl rfl rfl (ad ?_)))))));refine bH rfl (fun c28=>?_) (fun c28=>?_)
          ·refine aj (ah (ai rfl rfl (ai rfl rfl (ad (aL ?_)))));have e:=ze (l:=l) (by rw[←hc];omega) (by rw[←hc];exact fun k h1 h2=>eO k h1 (by omega)) (vO l (i-1)) (by rw[←hc];congr 1;omega);rw[←hc,if_pos (by omega)]at e;exact eN rfl rfl rfl ⟨by rw[e];rfl,rfl⟩
          ·refine aS (aj (ah (ae rfl rfl (ae rfl rfl (ai rfl rfl (ai rfl rfl (ad (aL ?_))))))));have e:=ze (l:=l) (by rw[←hc];omega) (by rw[←hc];exact fun k h1 h2=>eO k h1 (by omega)) (vO l (i-1)) (by rw[←hc];congr 1;omega);rw[←hc,if_neg (by omega)]at e;exact eN rfl rfl rfl ⟨by rw[e];simp only[];rw[uB hvr.1,uB (by omega)],rfl⟩
         ·refine aq rfl rfl rfl rfl (aq rfl rfl rfl rfl (al rfl rfl (az rfl rfl rfl (az rfl rfl rfl (ad (gG rfl (aS (aj (ah (ae rfl rfl (ae rfl rfl ?_)))))))))));refine ai rfl rfl (ai rfl rfl (ad (aL ?_)));have e:=ze (l:=l) (by rw[←hc];omega) (by rw[←hc];exact fun k h1 h2=>eO k h1 (by omega)) (vO l (i-1)) (by rw[←hc];congr 1;omega);rw[←hc,if_neg (by omega)]at e;exact eN rfl rfl rfl ⟨by rw[e];simp only[];rw[uB hvr.1,uB (by omega)],rfl⟩
theorem zg {M:aB} {l:List UInt8} (w0:World) (hM:Lt M w0) (hl:l.length≤1000000):
  Spec Tryz.prog 216 #[.string ⟨l.toArray⟩] w0 (fun v w=>((RT.int .i64).sl).V M w (dZ l) v∧Step M w0 M w aA):=by
 have iL:=hM;refine aZ (args:=[_]) (fn:=Tryz.f216) Tryz.func216 rfl (n:=22) Tryz.ntmps216 ?_;have S:Step M w0 M w0 aA:=(an _ _).ca (fun _ h=>h.elim) (fun _ h=>h.elim);refine aj (ah (ai rfl rfl (ad (aj (ah (ai rfl rfl (ad (aj (aY ?_)))))))));refine dr (σ:=Nat×List Int×Value) (fun q=>[(0,.string ⟨(l.drop q.1).toArray⟩),(3,q.2.2)]) (fun q w=>∃M',Lt M' w∧Step M w0 M' w aA∧Own (RT.int .i64) 3 M' w w0.heap.size q.2.2 q.2.1∧dZ l=q.2.1++dZ (l.drop q.1)∧q.1≤l.length) (fun q=>l.length-q.1) (0,[],.slice none 0 0) (.cons rfl (.cons rfl .nil)) ?_ ?_
 ·exact⟨M,hM,S,dK _ _ _ _ _,by simp,by simp⟩
 ·rintro⟨p,xs,u⟩ w ⟨M1,hM,S,ho,xH,hp⟩;dsimp only at ho xH hp ⊢;refine aj (aj (ah (ae rfl rfl (Rg.k3 aC rfl rfl (bz (v':= .int .i64 ((l.drop p).length:Int)) (by simp[ByteArray.size]) (mL rfl rfl rfl (ad ?_)))))));refine bH rfl (fun c2=>?_) (fun c2=>?_)
  ·refine aS (aY (aj (ah (ae rfl rfl ?_))));have eI:l.drop p≠[]:=by intro h;rw[h]at c2;simp at c2
   have yT:p<l.length:=by have:=lS.2 eI;rw[cW]at this;omega
   have VR:=jS eI;refine aQ rfl rfl VJ (Fs (l:=l.drop p) _ eI (by rw[cW];omega)) (fun r3 w3 hc=>?_);obtain⟨rfl,rfl⟩:=hc;refine ae rfl rfl (bU rfl rfl rfl (bU rfl rfl rfl (ai rfl rfl (ai rfl rfl (ad (aj (ah (ae rfl rfl (ae rfl rfl ?_)))))))));refine eh (A:=RT.int .i64) (hn:=by decide) (M:=M1) au I3 (by decide) rfl rfl hM (fW (by have:=qn (l.drop p);omega)) (.inr ⟨rfl,rfl⟩) (fun Ql Qm lF pB=>?_);replace ho:=ho.bh pB;replace hM:=pB.lt hM;have:=S.size;replace S:=S.ax pB;refine cR (M:=M1) (base:=w0.heap.size) au I3 rfl rfl rfl rfl ho lF (ao _ _) (by simp;have:=gp l;rw[xH]at this;simp at this;omega) (by simp;have:=gp l;rw[xH]at this;simp at this;omega) (S.size) (fun Qn VS adX Qo Mk=>?_);replace lF:=lF.le Mk.le;replace hM:=Mk.lt hM;have:=S.size;replace S:=S.dd Mk ho (a7 _);replace ho:=Qo;refine ai rfl rfl (ad (ah (ae rfl rfl (ae rfl rfl (Rg.IQ aC rfl rfl rfl (by omega) (bz (v':= .string ⟨(l.drop (p+(dec (l.drop p)).2)).toArray⟩) (by rw[List.drop_drop];simp) (ai rfl rfl (ad ?_))))))));refine⟨rfl,(p+(dec (l.drop p)).2,xs++[((dec (l.drop p)).1:Int)],Qn),(.cons rfl (.cons rfl .nil)),?_,?_⟩
   ·refine⟨VS,hM,S,ho,?_,?_⟩
    ·rw[xH,l8 eI,List.drop_drop];simp
    ·have:=VR.2;rw[cW]at this;dsimp only;omega
   ·have:=VR.1;have:=VR.2;rw[cW]at this;dsimp only;omega
  ·refine cG (aj (ah (ae rfl rfl (ai rfl rfl (ad (aL ?_))))));have e:dZ l=xs:=by rw[xH,jw (by simp at c2;omega),nT];simp
   rw[e];have:=gp l;rw[e]at this;exact aO rfl rfl ⟨ho.close iL S (by omega),S.back⟩
theorem om {M:aB} {w:World} {x:Int} (h:0≤x∧x<256):RT.u8.V M w x.toNat.toUInt8 (.int .u8 (IntKind.u8.wrap x)):=by
 have e1:IntKind.u8.wrap x=x:=by
  show(if(false&&decide (x%256≥128))=true then x%256-256 else x%256)=x;rw[if_neg (by simp)];omega
 have e2:((x.toNat.toUInt8).toNat:Int)=x:=by
  have:x.toNat.toUInt8.toNat=x.toNat%256:=UInt8.toNat_ofNat' ..;omega
 rw[e1];exact⟨[.int .u8 x],by show _=_;rw[e2],rfl⟩
theorem VT {r:Int} (h:0≤r∧r<128):Lib.encodeRune r=[r.toNat.toUInt8]:=by rw[Lib.encodeRune,Lib.encodeRuneZ_one h.1 (by omega)];rfl
theorem VU {r:Int} (h:128≤r∧r<2048):Lib.encodeRune r=[(192+r/64).toNat.toUInt8,(128+r%64).toNat.toUInt8]:=by rw[Lib.encodeRune,Lib.encodeRuneZ_two h.1 (by omega)];rfl
theorem DI (c:Int):oP c<55296∨57343<oP c:=by
 unfold oP
 split
 ·omega
 ·rename_i h
  have h2:Lib.validRune c=true:=by
   cases hv:Lib.validRune c with
   |true=>rfl
   |false=>exact absurd (.inr (.inr hv)) h
  simp only[Lib.validRune,decide_eq_true_eq]at h2;omega
theorem VV {r:Int} (h:2048≤r∧r<65536) (h2:r<55296∨57343<r):Lib.encodeRune r=[(224+r/4096).toNat.toUInt8,(128+r/64%64).toNat.toUInt8,(128+r%64).toNat.toUInt8]:=by rw[Lib.encodeRune,Lib.encodeRuneZ_three (by omega)];rfl
theorem VW {r:Int} (h:65536≤r∧r≤1114111):Lib.encodeRune r=[(240+r/262144).toNat.toUInt8,(128+r/4096%64).toNat.toUInt8,(128+r/64%64).toNat.toUInt8,(128+r%64).toNat.toUInt8]:=by rw[Lib.encodeRune,Lib.encodeRuneZ_four h.1 h.2];rfl
theorem pC {c:Int} (h:c<0∨c>1114111∨(55296≤c∧c≤57343)):oP c=65533:=by
 rw[oP,if_pos];rcases h with h|h|h
 ·exact .inl h
 ·exact .inr (.inl h)
 ·refine .inr (.inr ?_);simp only[Lib.validRune,decide_eq_false_iff_not];omega
theorem nv {c:Int} (h: ¬(c<0∨c>1114111∨(55296≤c∧c≤57343))):oP c=c:=by
 rw[oP,if_neg];rintro(h1|h1|h1)
 ·omega
 ·omega
 ·simp only[Lib.validRune,decide_eq_false_iff_not]at h1;omega
theorem tf {M:aB} {xs:List Int} {v0:Value} (w0:World) (hM:Lt M w0) (hv:((RT.int .i64).sl).V M w0 xs v0) (hl:xs.length≤1000000):
  Spec Tryz.prog 219 #[v0] w0 (fun v w=>v= .string ⟨(ik xs).toArray⟩∧Step M w0 M w aA):=by
 have iL:=hM;refine aZ (args:=[_]) (fn:=Tryz.f219) Tryz.func219 rfl (n:=91) Tryz.ntmps219 ?_;have S:Step M w0 M w0 aA:=(an _ _).ca (fun _ h=>h.elim) (fun _ h=>h.elim);refine aj (ah (ai rfl rfl (ad (aj (ah (ai rfl rfl (ad (aj (aj (ah (ai rfl rfl ?_)))))))))));refine ad (aY ?_);refine dr (σ:=Nat×Value) (fun q=>[(0,v0),(3,q.2),(4,.int .i64 (q.1:Int))]) (fun q w=>∃M',Lt M' w∧Step M w0 M' w aA∧Own RT.u8 5 M' w w0.heap.size q.2 (ik (xs.take q.1))∧((RT.int .i64).sl).V M' w xs v0∧q.1≤xs.length) (fun q=>xs.length-q.1) (0,.slice none 0 0) (.cons rfl (.cons rfl (.cons rfl .nil))) ?_ ?_
 ·exact⟨M,hM,S,dK _ _ _ _ _,hv,bB _⟩
 ·rintro⟨k,u⟩ w ⟨M1,hM,S,ho,hv,hk⟩;dsimp only at ho hk ⊢;refine aj (aj (ah (ae rfl rfl (ae rfl rfl (bM au rfl hv rfl (b4 rfl rfl rfl (ad ?_)))))));refine bH rfl (fun c3=>?_) (fun c3=>?_)
  ·refine aS (aj (aY (aj (ah (ae rfl rfl (ae rfl rfl ?_))))));refine cK (M:=M1) au I3 rfl rfl rfl hv (ao _ _) (by omega) (fun u5 c DJ Bk=>?_);refine bV (M:=M1) ar rfl rfl Bk (ao _ _) (fun in5=>?_);have tk:xs.take (k+1)=xs.take k++[c]:=by rw[bN];simp only[aw]at DJ;rw[DJ];rfl
   have hsr:=CG c;have hsc:=DI c;refine ai rfl rfl (ad ?_);refine T.CB [(0,v0),(3,u),(4,.int .i64 (k:Int)),(5,.int .i64 (oP c))] ?_ ?_
   ·refine aj (ah (ae rfl rfl (b4 rfl rfl rfl (ae rfl rfl ?_))));refine aJ (g:=18) rfl (fun Ml=>?_) (fun Ml=>?_)
    ·refine aq rfl rfl rfl rfl (aq rfl rfl rfl rfl (aR rfl rfl rfl (ae rfl rfl (aq rfl rfl rfl rfl (aq rfl rfl rfl rfl (aq rfl rfl rfl rfl (cj rfl rfl rfl (cj rfl rfl rfl (aq rfl rfl rfl rfl (aR rfl rfl rfl (ad ?_)))))))))));refine lT rfl (ah (ai rfl rfl (ad ?_)));exact⟨rfl,rfl,rfl,.cons rfl (.cons rfl (.cons rfl (.cons (congrArg (fun z=>some (Value.int .i64 z)) (by first|exact(pC (by omega)).symm|exact(nv (by omega)).symm)) (.nil))))⟩
    ·refine al rfl rfl (ae rfl rfl (al rfl rfl (mL rfl rfl rfl (az rfl rfl rfl (ae rfl rfl ?_)))));refine aJ (g:=22) rfl (fun VX=>?_) (fun VX=>?_)
     ·refine aq rfl rfl rfl rfl (aq rfl rfl rfl rfl (aq rfl rfl rfl rfl (cj rfl rfl rfl (cj rfl rfl rfl (aq rfl rfl rfl rfl (aR rfl rfl rfl (ad (lT rfl (ah (ai rfl rfl (ad ?_)))))))))));exact⟨rfl,rfl,rfl,.cons rfl (.cons rfl (.cons rfl (.cons (congrArg (fun z=>some (Value.int .i64 z)) (by first|exact(pC (by omega)).symm|exact(nv (by omega)).symm)) (.nil))))⟩
     ·refine al rfl rfl (ae rfl rfl (al rfl rfl (dz rfl rfl rfl (al rfl rfl (ae rfl rfl ?_)))));refine aJ (g:=25) rfl (fun VY=>?_) (fun VY=>?_)
      ·refine al rfl rfl (ae rfl rfl (al rfl rfl (eV rfl rfl rfl (al rfl rfl (aR rfl rfl rfl (az rfl rfl rfl (ad ?_)))))));refine bH rfl (fun c6=>?_) (fun c6=>?_)
       ·refine ah (ai rfl rfl (ad ?_));exact⟨rfl,rfl,rfl,.cons rfl (.cons rfl (.cons rfl (.cons (congrArg (fun z=>some (Value.int .i64 z)) (by first|exact(pC (by omega)).symm|exact(nv (by omega)).symm)) (.nil))))⟩
       ·refine aS ?_;exact⟨rfl,rfl,rfl,.cons rfl (.cons rfl (.cons rfl (.cons (congrArg (fun z=>some (Value.int .i64 z)) (by first|exact(pC (by omega)).symm|exact(nv (by omega)).symm)) (.nil))))⟩
      ·refine aq rfl rfl rfl rfl (aq rfl rfl rfl rfl (al rfl rfl (az rfl rfl rfl (az rfl rfl rfl (ad (gG rfl (aS ?_)))))));exact⟨rfl,rfl,rfl,.cons rfl (.cons rfl (.cons rfl (.cons (congrArg (fun z=>some (Value.int .i64 z)) (by first|exact(pC (by omega)).symm|exact(nv (by omega)).symm)) (.nil))))⟩
   ·refine aj (ah (ae rfl rfl (b4 rfl rfl rfl (ad ?_))));refine bH rfl (fun c8=>?_) (fun c8=>?_)
    ·refine ah (ae rfl rfl (ae rfl rfl (uF ar cf rfl rfl ?_)));refine eh (A:=RT.u8) (hn:=by decide) (M:=M1) br I5 (by decide) rfl rfl hM (om (by omega)) (.inr ⟨rfl,rfl⟩) (fun adZ Qp Fu nw=>?_);replace hv:=hv.le nw.le;replace ho:=ho.bh nw;replace hM:=nw.lt hM;have:=S.size;replace S:=S.ax nw;refine cR (M:=M1) (base:=w0.heap.size) br I5 rfl rfl rfl rfl ho Fu (ao _ _) (by have:=eZ (xs.take k);rw[bG]at this;simp;omega) (by have:=eZ (xs.take k);rw[bG]at this;simp;omega) (S.size) (fun Qq VZ V0 Qr uO=>?_);replace hv:=hv.le uO.le;replace Fu:=Fu.le uO.le;replace hM:=uO.lt hM;have:=S.size;replace S:=S.dd uO ho (a7 _);replace ho:=Qr;refine ai rfl rfl (ad (ah (ae rfl rfl (bu rfl rfl rfl (by omega) (ai rfl rfl (ad ?_))))));refine⟨rfl,(k+1,Qq),(.cons rfl (.cons rfl (.cons rfl .nil))),?_,?_⟩
     ·exact⟨VZ,hM,S,by rw[tk,kf,VT (by omega)];exact ho,hv,by dsimp only;omega⟩
     ·dsimp only;omega
    ·refine aj (ah (ae rfl rfl (b4 rfl rfl rfl (ad ?_))));refine bH rfl (fun Mm=>?_) (fun Mm=>?_)
     ·refine ah (ae rfl rfl (ae rfl rfl (Rg.si rfl rfl rfl (by omega) (bu rfl rfl rfl (by omega) (uF ar cf rfl rfl (ae rfl rfl (Rg.sk rfl rfl rfl (by omega) (bu rfl rfl rfl (by omega) (uF ar cf rfl rfl ?_)))))))));refine Rg.Pt (A:=RT.u8) (hn:=by decide) (M:=M1) (xs:=[(192+oP c/64).toNat.toUInt8,(128+oP c%64).toNat.toUInt8]) br I5 rfl (by decide) rfl ⟨_,_,_,rfl,rfl,rfl,om (by omega),_,_,_,rfl,rfl,rfl,om (by omega),rfl⟩ rfl hM (.inr ⟨rfl,rfl⟩) (by decide) (fun aaU aaV Bm CI=>?_);replace hv:=hv.le CI.le;replace ho:=ho.bh CI;replace hM:=CI.lt hM;have:=S.size;replace S:=S.ax CI;refine cR (M:=M1) (base:=w0.heap.size) br I5 rfl rfl rfl rfl ho Bm (ao _ _) (by have:=eZ (xs.take k);rw[bG]at this;simp;omega) (by have:=eZ (xs.take k);rw[bG]at this;simp;omega) (S.size) (fun Mn Mo V1 IY xI=>?_);replace hv:=hv.le xI.le;replace Bm:=Bm.le xI.le;replace hM:=xI.lt hM;have:=S.size;replace S:=S.dd xI ho (a7 _);replace ho:=IY;refine ai rfl rfl (ad (ah (ae rfl rfl (bu rfl rfl rfl (by omega) (ai rfl rfl (ad ?_))))));refine⟨rfl,(k+1,Mn),(.cons rfl (.cons rfl (.cons rfl .nil))),?_,?_⟩
      ·exact⟨Mo,hM,S,by rw[tk,kf,VU (by omega)];exact ho,hv,by dsimp only;omega⟩
      ·dsimp only;omega
     ·refine aj (ah (ae rfl rfl (b4 rfl rfl rfl (ad ?_))));refine bH rfl (fun Qs=>?_) (fun Qs=>?_)
      ·refine ah (ae rfl rfl (ae rfl rfl (Rg.si rfl rfl rfl (by omega) (bu rfl rfl rfl (by omega) (uF ar cf rfl rfl (ae rfl rfl (Rg.si rfl rfl rfl (by omega) (Rg.sk rfl rfl rfl (by omega) (bu rfl rfl rfl (by omega) (uF ar cf rfl rfl (ae rfl rfl ?_)))))))))));refine Rg.sk rfl rfl rfl (by omega) (bu rfl rfl rfl (by omega) (uF ar cf rfl rfl ?_));refine Rg.Pt (A:=RT.u8) (hn:=by decide) (M:=M1) (xs:=[(224+oP c/4096).toNat.toUInt8,(128+oP c/64%64).toNat.toUInt8,(128+oP c%64).toNat.toUInt8]) br I5 rfl (by decide) rfl ⟨_,_,_,rfl,rfl,rfl,om (by omega),_,_,_,rfl,rfl,rfl,om (by omega),_,_,_,rfl,rfl,rfl,om (by omega),rfl⟩ rfl hM (.inr ⟨rfl,rfl⟩) (by decide) (fun V2 V3 xJ xK=>?_);replace hv:=hv.le xK.le;replace ho:=ho.bh xK;replace hM:=xK.lt hM;have:=S.size;replace S:=S.ax xK;refine cR (M:=M1) (base:=w0.heap.size) br I5 rfl rfl rfl rfl ho xJ (ao _ _) (by have:=eZ (xs.take k);rw[bG]at this;simp;omega) (by have:=eZ (xs.take k);rw[bG]at this;simp;omega) (S.size) (fun Mp Ms V4 IZ xL=>?_);replace hv:=hv.le xL.le;replace xJ:=xJ.le xL.le;replace hM:=xL.lt hM;have:=S.size;replace S:=S.dd xL ho (a7 _);replace ho:=IZ;refine ai rfl rfl (ad (ah (ae rfl rfl (bu rfl rfl rfl (by omega) (ai rfl rfl (ad ?_))))));refine⟨rfl,(k+1,Mp),(.cons rfl (.cons rfl (.cons rfl .nil))),?_,?_⟩
       ·exact⟨Ms,hM,S,by rw[tk,kf,VV (by omega) hsc];exact ho,hv,by dsimp only;omega⟩
       ·dsimp only;omega
      ·refine ah (ae rfl rfl (ae rfl rfl (Rg.si rfl rfl rfl (by omega) (bu rfl rfl rfl (by omega) (uF ar cf rfl rfl (ae rfl rfl (Rg.si rfl rfl rfl (by omega) (Rg.sk rfl rfl rfl (by omega) (bu rfl rfl rfl (by omega) (uF ar cf rfl rfl (ae rfl rfl ?_)))))))))));refine Rg.si rfl rfl rfl (by omega) (Rg.sk rfl rfl rfl (by omega) (bu rfl rfl rfl (by omega) (uF ar cf rfl rfl (ae rfl rfl (Rg.sk rfl rfl rfl (by omega) (bu rfl rfl rfl (by omega) (uF ar cf rfl rfl ?_)))))));refine Rg.Pt (A:=RT.u8) (hn:=by decide) (M:=M1) (xs:=[(240+oP c/262144).toNat.toUInt8,(128+oP c/4096%64).toNat.toUInt8,(128+oP c/64%64).toNat.toUInt8,(128+oP c%64).toNat.toUInt8]) br I5 rfl (by decide) rfl ⟨_,_,_,rfl,rfl,rfl,om (by omega),_,_,_,rfl,rfl,rfl,om (by omega),_,_,_,rfl,rfl,rfl,om (by omega),_,_,_,rfl,rfl,rfl,om (by omega),rfl⟩ rfl hM (.inr ⟨rfl,rfl⟩) (by decide) (fun V5 V6 xM xN=>?_);replace hv:=hv.le xN.le;replace ho:=ho.bh xN;replace hM:=xN.lt hM;have:=S.size;replace S:=S.ax xN;refine cR (M:=M1) (base:=w0.heap.size) br I5 rfl rfl rfl rfl ho xM (ao _ _) (by have:=eZ (xs.take k);rw[bG]at this;simp;omega) (by have:=eZ (xs.take k);rw[bG]at this;simp;omega) (S.size) (fun Mt Mu V7 I0 xO=>?_);replace hv:=hv.le xO.le;replace xM:=xM.le xO.le;replace hM:=xO.lt hM;have:=S.size;replace S:=S.dd xO ho (a7 _);replace ho:=I0;refine ai rfl rfl (ad (ah (ae rfl rfl (bu rfl rfl rfl (by omega) (ai rfl rfl (ad ?_))))));refine⟨rfl,(k+1,Mt),(.cons rfl (.cons rfl (.cons rfl .nil))),?_,?_⟩
       ·exact⟨Mu,hM,S,by rw[tk,kf,VW (by omega)];exact ho,hv,by dsimp only;omega⟩
       ·dsimp only;omega
  ·refine cG (aj (ah (ae rfl rfl (Rg.b2s (hn:=by decide) (M:=M) br cf aC rfl rfl (ho.close iL S (by have:=eZ (xs.take k);rw[bG]at this;omega)) (ao _ _) (ai rfl rfl (ad (aL ?_)))))));have e:xs.take k=xs:=aW (by omega);rw[e];exact aO rfl rfl ⟨rfl,S.back⟩
end Go.K
namespace Go.K
open Go.Proofs
set_option maxRecDepth 10000
theorem Bn {M:aB} {l:List UInt8} (w0:World) (hM:Lt M w0) (hl:l.length≤1000000):
  Spec Tryz.prog 225 #[.string ⟨l.toArray⟩] w0 (fun v w=>((RT.int .i64).sl).V M w (dZ l) v∧Step M w0 M w aA):=by
 have iL:=hM;refine aZ (args:=[_]) (fn:=Tryz.f225) Tryz.func225 rfl (n:=17) Tryz.ntmps225 ?_;have S:Step M w0 M w0 aA:=(an _ _).ca (fun _ h=>h.elim) (fun _ h=>h.elim);refine aj (ah (ai rfl rfl (ad (aj (ah (ai rfl rfl (ad (aj (aj (ah (ae rfl rfl ?_)))))))))));refine Rg.Fm M aC rfl rfl (fun Fv ad0 ad1 ad2 V8 Mv=>?_);obtain⟨KG,Fw⟩:∃M',M'=ins M Fv:=⟨_,rfl⟩;rw[←Fw]at Mv;have Mw:KG Fv:=by rw[Fw];exact .inl rfl
 replace hM:=Mv.lt hM;have:=S.size;replace S:=S.ax Mv;refine ad (aY ?_);refine dr (σ:=Nat×List Int×Value) (fun q=>[(3,q.2.2),(7,.pointer (some ⟨Fv,0,none⟩))]) (fun q w=>∃M',Lt M' w∧Step M w0 M' w aA∧w.heap[Fv]? =some (.stringIter ⟨l.toArray⟩ q.1)∧M' Fv∧Own (RT.int .i64) 3 M' w w0.heap.size q.2.2 q.2.1∧dZ l=q.2.1++dZ (l.drop q.1)∧q.1≤l.length) (fun q=>l.length-q.1) (0,[],.slice none 0 0) (.cons rfl (.cons rfl .nil)) ?_ ?_
 ·exact⟨KG,hM,S,V8,Mw,dK _ _ _ _ _,by simp,by simp⟩
 ·rintro⟨p,xs,u⟩ w ⟨M1,hM,S,g,wa,ho,xH,hp⟩;dsimp only at g ho xH hp ⊢;refine aj (ah ?_);refine Rg.IP (M:=M1) rfl g wa rfl (fun V9 ad3 Wa Fx=>?_) (fun V9=>?_)
  ·have:=ak g;replace wa:=(Fx.mem _ this).2 wa;replace ho:=ho.step Fx (fun b hb hk=>ho.dE g (hk▸hb));replace hM:=Fx.lt hM;have:=S.size;replace S:=S.trans Fx (fun k hk h=>by have h:_=_:=h;subst h;first|(exfalso;omega)|(show _≤_;omega)|exact⟨by first|omega|assumption,(S.mem _ hk).1 ((Fx.mem _ (ak g)).1 wa)⟩|exact .inl rfl|exact .inr rfl|exact .inr (.inl rfl)|exact .inr (.inr rfl)|exact rfl);have g_:=Wa;clear g;have g:=g_;clear g_;refine bU rfl rfl rfl (ad (aj (lT rfl (aS (aY (aj (ah (bU rfl rfl rfl (ai rfl rfl (ad (ah ?_)))))))))));refine ae rfl rfl (ae rfl rfl (Rg.sm Tryz.underlying21 ar rfl rfl (by have:=qn (l.drop p);omega) ?_));refine eh (A:=RT.int .i64) (hn:=by decide) (M:=M1) au I3 (by decide) rfl rfl hM (fW (by have:=qn (l.drop p);omega)) (.inr ⟨rfl,rfl⟩) (fun Wb ad4 CJ Fy=>?_);have:=ak g;replace wa:=(Fy.mem _ this).2 wa;replace g:=Fy.aM g;replace ho:=ho.bh Fy;replace hM:=Fy.lt hM;have:=S.size;replace S:=S.ax Fy;refine cR (M:=M1) (base:=w0.heap.size) au I3 rfl rfl rfl rfl ho CJ (ao _ _) (by simp;have:=gp l;rw[xH]at this;simp at this;omega) (by simp;have:=gp l;rw[xH]at this;simp at this;omega) (S.size) (fun Wc Wd ad5 Qt Fz=>?_);have:=ak g;replace wa:=(Fz.mem _ this).2 wa;replace g:=Fz.bJ g (fun h=>by first|exact ho.dE g h|exact ho.eR g (by decide) h|(have:=(ho.base _ h).1;omega));replace CJ:=CJ.le Fz.le;replace hM:=Fz.lt hM;have:=S.size;replace S:=S.dd Fz ho (a7 _);replace ho:=Qt;refine ai rfl rfl (ad ?_);have eI:l.drop p≠[]:=by intro h;have:=congrArg List.length h;simp at this;omega
   refine⟨rfl,(p+(dec (l.drop p)).2,xs++[((dec (l.drop p)).1:Int)],Wc),(.cons rfl (.cons rfl .nil)),?_,?_⟩
   ·refine⟨Wd,hM,S,g,wa,ho,?_,?_⟩
    ·rw[xH,l8 eI,List.drop_drop];simp
    ·have:=(jS eI).2;rw[cW]at this;dsimp only;omega
   ·have:=(jS eI).1;have:=(jS eI).2;rw[cW]at this;dsimp only;omega
  ·refine bU rfl rfl rfl (ad (aj (gG rfl (cG (aj (ah (ae rfl rfl (ai rfl rfl (ad (aL ?_))))))))));have e:dZ l=xs:=by rw[xH,jw (by omega),nT];simp
   rw[e];have:=gp l;rw[e]at this;exact aO rfl rfl ⟨ho.close iL S (by omega),S.back⟩
def ek (p:List Int×List (List UInt8)) (c:Int):List Int×List (List UInt8):=
 if eC c=true∨k5 c=true then(p.1++[ez c],p.2)else if 0<p.1.length then([],p.2++[ik p.1])else([],p.2)
structure FA (M:aB) (w:World) (B bo bs:Nat) (p:List Int×List (List UInt8)):Prop where
 a:∃u,w.heap[bo]? =some (.cells #[u] 32 (0,0))∧Own (RT.int .i64) 3 M w B u p.1
 b:∃u,w.heap[bs]? =some (.cells #[u] 55 (0,0))∧Own RT.str 9 M w B u p.2
 m:M bo∧M bs∧B≤bo∧B≤bs
theorem ny {c:Int} (h:eC c=true∨k5 c=true):0≤c∧c≤1114111:=by
 simp only[eC,k5,decide_eq_true_eq]at h;omega
theorem tg {M:aB} {B bo bs:Nat} {p:List Int×List (List UInt8)} (w0:World) (hM:Lt M w0) (c:Int) (ht:FA M w0 B bo bs p) (hl:p.1.length≤1000000∧p.2.length≤1000000):
  Spec Tryz.prog 220 #[.int .i64 c,.pointer (some ⟨bo,0,none⟩),.pointer (some ⟨bs,0,none⟩)] w0 (fun v w=>∃M',Lt M' w∧FA M' w B bo bs (ek p c)∧Step M w0 M' w (jL M B)):=by
 obtain⟨⟨uo,go,ho⟩,⟨us,gs,hs⟩,fz,gj,OV,OW⟩:=ht;obtain⟨own,out⟩:=p;dsimp only at ho hs hl ⊢;have eI:bo≠bs:=fun e=>by subst e;rw[go]at gs;cases gs
 refine aZ (args:=[_,_,_]) (fn:=Tryz.f220) Tryz.func220 rfl (n:=23) Tryz.ntmps220 ?_;have S:Step M w0 M w0 (jL M B):=(an _ _).ca (fun _ h=>h.elim) (fun _ h=>h.2);refine aj (aj (ah (ae rfl rfl ?_)));refine aQ rfl rfl VD (zb _ _) (fun r wc hc=>?_);obtain⟨rfl,rfl⟩:=hc;refine bz (v':= .bool (decide (eC c=true))) (by cases eC c<;>rfl) (ae rfl rfl ?_);refine aJ (g:=6) rfl (fun We=>?_) (fun We=>?_)
 ·refine aq rfl rfl rfl rfl (aq rfl rfl rfl rfl (aR rfl rfl rfl (ad (lT rfl (aj ?_)))));apply T.ni 2 [0] 2 aA mixed rfl rfl rfl rfl;intro FB I1;have kH:=I1 M;have:=ak go;replace fz:=(kH.mem _ this).2 fz;replace go:=kH.aM go;have:=ak gs;replace gj:=(kH.mem _ this).2 gj;replace gs:=kH.aM gs;replace ho:=ho.bh kH;replace hs:=hs.bh kH;replace hM:=kH.lt hM;have:=S.size;replace S:=S.ax kH;refine aH au rfl rfl rfl (by first|assumption|exact cc kH (by assumption)) rfl ?_;refine ad ⟨rfl,rfl,rfl,?_⟩;refine ae rfl rfl ?_;refine ad ⟨rfl,rfl,rfl,?_⟩;refine fa ?_;refine⟨iM ⟨gw rfl (by assumption) (by first|assumption|exact fun h=>h|(intro h;have h:_=_:=h;omega)),trivial⟩,?_⟩;have kp:=kG aA FB;have Bo:eC c=true∨k5 c=true:=by first|exact .inl (by assumption)|exact .inr (by assumption)
  refine aQ rfl rfl Qb (vX c _ (ny Bo)) (fun r wc hc=>?_);obtain⟨rfl,rfl⟩:=hc;refine(fun(kp:eB _ _ _)=>ad ⟨rfl,rfl,fun _=>kp,?_⟩) (by first|exact kp|exact kp.rA (by assumption)|exact kp.goN (by assumption)|exact kp.go (by assumption) (fun _ _ h=>by first|exact h|exact h.elim));refine eh (A:=RT.int .i64) (hn:=by decide) (M:=M) au I3 (by decide) rfl rfl hM (fW (by have:=ny Bo;unfold ez;split<;>omega)) (.inr ⟨rfl,rfl⟩) (fun FC xQ fH s1_3=>?_);have:=ak go;replace fz:=(s1_3.mem _ this).2 fz;replace go:=s1_3.aM go;have:=ak gs;replace gj:=(s1_3.mem _ this).2 gj;replace gs:=s1_3.aM gs;replace ho:=ho.bh s1_3;replace hs:=hs.bh s1_3;replace hM:=s1_3.lt hM;have:=S.size;replace S:=S.ax s1_3;refine(fun(kp:eB _ _ _)=>ad ⟨rfl,rfl,fun _=>kp,?_⟩) (by first|exact kp|exact kp.rA (by assumption)|exact kp.goN (by assumption)|exact kp.go (by assumption) (fun _ _ h=>by first|exact h|exact h.elim));refine cR (M:=M) (base:=B) au I3 rfl rfl rfl rfl ho fH (ao _ _) (by simp;omega) (by simp;omega) (by have:=ak go;omega) (fun Mx FD I2 FE hY=>?_);have:=ak go;replace fz:=(hY.mem _ this).2 fz;replace go:=hY.bJ go (fun h=>by first|exact ho.dE go h|exact ho.eR go (by decide) h|(have:=(ho.base _ h).1;omega));have:=ak gs;replace gj:=(hY.mem _ this).2 gj;replace gs:=hY.bJ gs (fun h=>by first|exact ho.dE gs h|exact ho.eR gs (by decide) h|(have:=(ho.base _ h).1;omega));replace fH:=fH.le hY.le;replace hs:=hs.step hY (fun b h1 h2=>hs.iG ho (by decide) h1 h2);replace hM:=hY.lt hM;have:=S.size;replace S:=S.trans hY (fun b hb h=>⟨(ho.base b h).1,(S.mem b hb).1 (ho.mut_ b h)⟩);replace ho:=FE;refine ad ⟨rfl,rfl,fun h=>absurd rfl h,?_⟩;refine bS (M:=FD) nY rfl rfl go rfl ((by obtain⟨_,_,he,_⟩:=ho.isSlice;rw[he];rfl)) fz (fun My l9 ma=>?_);change My.heap[_]? =some (Obj.cells #[Mx] _ _)at l9
  have:=ak go;replace fz:=(ma.mem _ this).2 fz;have:=ak gs;replace gj:=(ma.mem _ this).2 gj;replace gs:=ma.bJ gs (fun hk=>by have hk:_=_:=hk;omega);replace fH:=fH.le ma.le;replace ho:=ho.step ma (fun b hb hk=>by have hk:b=_:=hk;subst hk;first|exact absurd hb (ho.eR go (by decide))|exact absurd hb (ho.eR gs (by decide)));replace hs:=hs.step ma (fun b hb hk=>by have hk:b=_:=hk;subst hk;first|exact absurd hb (hs.eR go (by decide))|exact absurd hb (hs.eR gs (by decide)));replace hM:=ma.lt hM;have:=S.size;replace S:=S.trans ma (fun k hk h=>by have h:_=_:=h;subst h;first|(exfalso;omega)|(show _≤_;omega)|exact⟨by first|omega|assumption,(S.mem _ hk).1 ((ma.mem _ (ak go)).1 fz)⟩|exact .inl rfl|exact .inr rfl|exact .inr (.inl rfl)|exact .inr (.inr rfl)|exact rfl);have FF:=l9;clear go;have go:=FF;clear FF;refine ad ⟨rfl,rfl,fun h=>absurd rfl h,?_⟩;refine qG (aL ?_);rw[show ek (own,out) c=(own++[ez c],out)from if_pos Bo];exact Cs rfl ⟨FD,hM,⟨⟨_,go,ho⟩,⟨_,gs,hs⟩,fz,gj,OV,OW⟩,S⟩
 ·refine al rfl rfl (ae rfl rfl (al rfl rfl ?_));refine aQ rfl rfl VE (Be _ _) (fun r wc hc=>?_);obtain⟨rfl,rfl⟩:=hc;refine bz (v':= .bool (decide (k5 c=true))) (by cases k5 c<;>rfl) (az rfl rfl rfl (ad ?_));refine bH rfl (fun c0=>?_) (fun c0=>?_)
  ·refine aj ?_;apply T.ni 2 [0] 2 aA mixed rfl rfl rfl rfl;intro FB I1;have kH:=I1 M;have:=ak go;replace fz:=(kH.mem _ this).2 fz;replace go:=kH.aM go;have:=ak gs;replace gj:=(kH.mem _ this).2 gj;replace gs:=kH.aM gs;replace ho:=ho.bh kH;replace hs:=hs.bh kH;replace hM:=kH.lt hM;have:=S.size;replace S:=S.ax kH;refine aH au rfl rfl rfl (by first|assumption|exact cc kH (by assumption)) rfl ?_;refine ad ⟨rfl,rfl,rfl,?_⟩;refine ae rfl rfl ?_;refine ad ⟨rfl,rfl,rfl,?_⟩;refine fa ?_;refine⟨iM ⟨gw rfl (by assumption) (by first|assumption|exact fun h=>h|(intro h;have h:_=_:=h;omega)),trivial⟩,?_⟩;have kp:=kG aA FB;have Bo:eC c=true∨k5 c=true:=by first|exact .inl (by assumption)|exact .inr (by assumption)
   refine aQ rfl rfl Qb (vX c _ (ny Bo)) (fun r wc hc=>?_);obtain⟨rfl,rfl⟩:=hc;refine(fun(kp:eB _ _ _)=>ad ⟨rfl,rfl,fun _=>kp,?_⟩) (by first|exact kp|exact kp.rA (by assumption)|exact kp.goN (by assumption)|exact kp.go (by assumption) (fun _ _ h=>by first|exact h|exact h.elim));refine eh (A:=RT.int .i64) (hn:=by decide) (M:=M) au I3 (by decide) rfl rfl hM (fW (by have:=ny Bo;unfold ez;split<;>omega)) (.inr ⟨rfl,rfl⟩) (fun FC xQ fH s1_3=>?_);have:=ak go;replace fz:=(s1_3.mem _ this).2 fz;replace go:=s1_3.aM go;have:=ak gs;replace gj:=(s1_3.mem _ this).2 gj;replace gs:=s1_3.aM gs;replace ho:=ho.bh s1_3;replace hs:=hs.bh s1_3;replace hM:=s1_3.lt hM;have:=S.size;replace S:=S.ax s1_3;refine(fun(kp:eB _ _ _)=>ad ⟨rfl,rfl,fun _=>kp,?_⟩) (by first|exact kp|exact kp.rA (by assumption)|exact kp.goN (by assumption)|exact kp.go (by assumption) (fun _ _ h=>by first|exact h|exact h.elim));refine cR (M:=M) (base:=B) au I3 rfl rfl rfl rfl ho fH (ao _ _) (by simp;omega) (by simp;omega) (by have:=ak go;omega) (fun Mx FD I2 FE hY=>?_);have:=ak go;replace fz:=(hY.mem _ this).2 fz;replace go:=hY.bJ go (fun h=>by first|exact ho.dE go h|exact ho.eR go (by decide) h|(have:=(ho.base _ h).1;omega));have:=ak gs;replace gj:=(hY.mem _ this).2 gj;replace gs:=hY.bJ gs (fun h=>by first|exact ho.dE gs h|exact ho.eR gs (by decide) h|(have:=(ho.base _ h).1;omega));replace fH:=fH.le hY.le;replace hs:=hs.step hY (fun b h1 h2=>hs.iG ho (by decide) h1 h2);replace hM:=hY.lt hM;have:=S.size;replace S:=S.trans hY (fun b hb h=>⟨(ho.base b h).1,(S.mem b hb).1 (ho.mut_ b h)⟩);replace ho:=FE;refine ad ⟨rfl,rfl,fun h=>absurd rfl h,?_⟩;refine bS (M:=FD) nY rfl rfl go rfl ((by obtain⟨_,_,he,_⟩:=ho.isSlice;rw[he];rfl)) fz (fun My l9 ma=>?_);change My.heap[_]? =some (Obj.cells #[Mx] _ _)at l9
   have:=ak go;replace fz:=(ma.mem _ this).2 fz;have:=ak gs;replace gj:=(ma.mem _ this).2 gj;replace gs:=ma.bJ gs (fun hk=>by have hk:_=_:=hk;omega);replace fH:=fH.le ma.le;replace ho:=ho.step ma (fun b hb hk=>by have hk:b=_:=hk;subst hk;first|exact absurd hb (ho.eR go (by decide))|exact absurd hb (ho.eR gs (by decide)));replace hs:=hs.step ma (fun b hb hk=>by have hk:b=_:=hk;subst hk;first|exact absurd hb (hs.eR go (by decide))|exact absurd hb (hs.eR gs (by decide)));replace hM:=ma.lt hM;have:=S.size;replace S:=S.trans ma (fun k hk h=>by have h:_=_:=h;subst h;first|(exfalso;omega)|(show _≤_;omega)|exact⟨by first|omega|assumption,(S.mem _ hk).1 ((ma.mem _ (ak go)).1 fz)⟩|exact .inl rfl|exact .inr rfl|exact .inr (.inl rfl)|exact .inr (.inr rfl)|exact rfl);have FF:=l9;clear go;have go:=FF;clear FF;refine ad ⟨rfl,rfl,fun h=>absurd rfl h,?_⟩;refine qG (aL ?_);rw[show ek (own,out) c=(own++[ez c],out)from if_pos Bo];exact Cs rfl ⟨FD,hM,⟨⟨_,go,ho⟩,⟨_,gs,hs⟩,fz,gj,OV,OW⟩,S⟩
  ·refine aS (aj (aj (ah (aH au rfl rfl rfl (by assumption) rfl (gO au rfl ho rfl (mL rfl rfl rfl (ad ?_)))))));refine bH rfl (fun c2=>?_) (fun c2=>?_)
   ·apply T.ni 2 [0] 2 aA mixed rfl rfl rfl rfl;intro Qu Qv;have mP:=Qv M;have:=ak go;replace fz:=(mP.mem _ this).2 fz;replace go:=mP.aM go;have:=ak gs;replace gj:=(mP.mem _ this).2 gj;replace gs:=mP.aM gs;replace ho:=ho.bh mP;replace hs:=hs.bh mP;replace hM:=mP.lt hM;have:=S.size;replace S:=S.ax mP;refine aH a8 rfl rfl rfl (by first|assumption|exact cc mP (by assumption)) rfl ?_;refine ad ⟨rfl,rfl,rfl,?_⟩;refine aH au rfl rfl rfl (by first|assumption|exact cc mP (by assumption)) rfl ?_;refine ad ⟨rfl,rfl,rfl,?_⟩;refine fa ?_;refine⟨iM ⟨gw rfl (by assumption) (by first|assumption|exact fun h=>h|(intro h;have h:_=_:=h;omega)),trivial⟩,?_⟩;have kp:=kG aA Qu;refine aQ rfl rfl VF (DH (M:=rm M uo) _ (fun b hb=>hM b hb.1) (ho.view (by omega)) (by omega)) (fun r3 w3 hc=>?_);obtain⟨rfl,s3⟩:=hc;replace s3:=s3.any M;have:=ak go;replace fz:=(s3.mem _ this).2 fz;replace go:=s3.aM go;have:=ak gs;replace gj:=(s3.mem _ this).2 gj;replace gs:=s3.aM gs;replace ho:=ho.bh s3;replace hs:=hs.bh s3;replace hM:=s3.lt hM;have:=S.size;replace S:=S.ax s3;refine(fun(kp:eB _ _ _)=>ad ⟨rfl,rfl,fun _=>kp,?_⟩) (by first|exact kp|exact kp.rA (by assumption)|exact kp.goN (by assumption)|exact kp.go (by assumption) (fun _ _ h=>by first|exact h|exact h.elim));refine eh (A:=RT.str) (hn:=by decide) (M:=M) a8 I9 (by decide) rfl rfl hM (jY.2 ⟨rfl,by have:=eZ own;omega⟩) (.inr ⟨rfl,rfl⟩) (fun ad6 ad7 th zh=>?_);have:=ak go;replace fz:=(zh.mem _ this).2 fz;replace go:=zh.aM go;have:=ak gs;replace gj:=(zh.mem _ this).2 gj;replace gs:=zh.aM gs;replace ho:=ho.bh zh;replace hs:=hs.bh zh;replace hM:=zh.lt hM;have:=S.size;replace S:=S.ax zh;refine(fun(kp:eB _ _ _)=>ad ⟨rfl,rfl,fun _=>kp,?_⟩) (by first|exact kp|exact kp.rA (by assumption)|exact kp.goN (by assumption)|exact kp.go (by assumption) (fun _ _ h=>by first|exact h|exact h.elim))
    refine cR (M:=M) (base:=B) a8 I9 rfl rfl rfl rfl hs th (ao _ _) (by simp;omega) (by simp;omega) (by have:=ak go;omega) (fun Wf Qw ad8 Qx zi=>?_);have:=ak go;replace fz:=(zi.mem _ this).2 fz;replace go:=zi.bJ go (fun h=>by first|exact hs.dE go h|exact hs.eR go (by decide) h|(have:=(hs.base _ h).1;omega));have:=ak gs;replace gj:=(zi.mem _ this).2 gj;replace gs:=zi.bJ gs (fun h=>by first|exact hs.dE gs h|exact hs.eR gs (by decide) h|(have:=(hs.base _ h).1;omega));replace th:=th.le zi.le;replace ho:=ho.step zi (fun b h1 h2=>ho.iG hs (by decide) h1 h2);replace hM:=zi.lt hM;have:=S.size;replace S:=S.trans zi (fun b hb h=>⟨(hs.base b h).1,(S.mem b hb).1 (hs.mut_ b h)⟩);replace hs:=Qx;refine ad ⟨rfl,rfl,fun h=>absurd rfl h,?_⟩;refine bS (M:=Qw) Ie rfl rfl gs rfl ((by obtain⟨_,_,he,_⟩:=hs.isSlice;rw[he];rfl)) gj (fun Wg Qy xR=>?_);change Wg.heap[_]? =some (Obj.cells #[Wf] _ _)at Qy;have:=ak go;replace fz:=(xR.mem _ this).2 fz;replace go:=xR.bJ go (fun hk=>by have hk:_=_:=hk;omega);have:=ak gs;replace gj:=(xR.mem _ this).2 gj;replace th:=th.le xR.le;replace ho:=ho.step xR (fun b hb hk=>by have hk:b=_:=hk;subst hk;first|exact absurd hb (ho.eR go (by decide))|exact absurd hb (ho.eR gs (by decide)));replace hs:=hs.step xR (fun b hb hk=>by have hk:b=_:=hk;subst hk;first|exact absurd hb (hs.eR go (by decide))|exact absurd hb (hs.eR gs (by decide)));replace hM:=xR.lt hM;have:=S.size;replace S:=S.trans xR (fun k hk h=>by have h:_=_:=h;subst h;first|(exfalso;omega)|(show _≤_;omega)|exact⟨by first|omega|assumption,(S.mem _ hk).1 ((xR.mem _ (ak gs)).1 gj)⟩|exact .inl rfl|exact .inr rfl|exact .inr (.inl rfl)|exact .inr (.inr rfl)|exact rfl);have gs_:=Qy;clear gs;have gs:=gs_;clear gs_;refine ad ⟨rfl,rfl,fun h=>absurd rfl h,?_⟩;refine qG (ah ?_);refine bS (M:=Qw) nY rfl rfl go rfl (rfl) fz (fun FG zj jC=>?_)
    change FG.heap[_]? =some (Obj.cells #[.slice none 0 0] _ _)at zj;have:=ak go;replace fz:=(jC.mem _ this).2 fz;have:=ak gs;replace gj:=(jC.mem _ this).2 gj;replace gs:=jC.bJ gs (fun hk=>by have hk:_=_:=hk;omega);replace th:=th.le jC.le;replace ho:=ho.step jC (fun b hb hk=>by have hk:b=_:=hk;subst hk;first|exact absurd hb (ho.eR go (by decide))|exact absurd hb (ho.eR gs (by decide)));replace hs:=hs.step jC (fun b hb hk=>by have hk:b=_:=hk;subst hk;first|exact absurd hb (hs.eR go (by decide))|exact absurd hb (hs.eR gs (by decide)));replace hM:=jC.lt hM;have:=S.size;replace S:=S.trans jC (fun k hk h=>by have h:_=_:=h;subst h;first|(exfalso;omega)|(show _≤_;omega)|exact⟨by first|omega|assumption,(S.mem _ hk).1 ((jC.mem _ (ak go)).1 fz)⟩|exact .inl rfl|exact .inr rfl|exact .inr (.inl rfl)|exact .inr (.inr rfl)|exact rfl);have FF:=zj;clear go;have go:=FF;clear FF;refine ad ?_
    first|refine fL.nil ?_|simp+decide only[sc,kX,if_true,if_false]|skip
    have OX: ¬(eC c=true∨k5 c=true):=by rintro(h|h)<;>exact absurd h (by assumption)
    first
    |rw[show ek (own,out) c=([],out++[ik own])from(if_neg OX).trans (if_pos (by show 0<own.length;omega))]
     exact gZ rfl ⟨_,hM,⟨⟨_,go,dK _ _ _ _ _⟩,⟨_,gs,hs⟩,fz,gj,OV,OW⟩,S⟩
    |rw[show ek (own,out) c=([],out)from(if_neg OX).trans (if_neg (by show¬0<own.length;omega))]
     exact gZ rfl ⟨_,hM,⟨⟨_,go,dK _ _ _ _ _⟩,⟨_,gs,hs⟩,fz,gj,OV,OW⟩,S⟩
   ·refine aS (ah ?_);refine bS (M:=M) nY rfl rfl go rfl (rfl) fz (fun FG zj jC=>?_);change FG.heap[_]? =some (Obj.cells #[.slice none 0 0] _ _)at zj;have:=ak go;replace fz:=(jC.mem _ this).2 fz;have:=ak gs;replace gj:=(jC.mem _ this).2 gj;replace gs:=jC.bJ gs (fun hk=>by have hk:_=_:=hk;omega);replace ho:=ho.step jC (fun b hb hk=>by have hk:b=_:=hk;subst hk;first|exact absurd hb (ho.eR go (by decide))|exact absurd hb (ho.eR gs (by decide)));replace hs:=hs.step jC (fun b hb hk=>by have hk:b=_:=hk;subst hk;first|exact absurd hb (hs.eR go (by decide))|exact absurd hb (hs.eR gs (by decide)));replace hM:=jC.lt hM;have:=S.size;replace S:=S.trans jC (fun k hk h=>by have h:_=_:=h;subst h;first|(exfalso;omega)|(show _≤_;omega)|exact⟨by first|omega|assumption,(S.mem _ hk).1 ((jC.mem _ (ak go)).1 fz)⟩|exact .inl rfl|exact .inr rfl|exact .inr (.inl rfl)|exact .inr (.inr rfl)|exact rfl);have FF:=zj;clear go;have go:=FF;clear FF;refine ad ?_
    first|refine fL.nil ?_|simp+decide only[sc,kX,if_true,if_false]|skip
    have OX: ¬(eC c=true∨k5 c=true):=by rintro(h|h)<;>exact absurd h (by assumption)
    first
    |rw[show ek (own,out) c=([],out++[ik own])from(if_neg OX).trans (if_pos (by show 0<own.length;omega))]
     exact gZ rfl ⟨_,hM,⟨⟨_,go,dK _ _ _ _ _⟩,⟨_,gs,hs⟩,fz,gj,OV,OW⟩,S⟩
    |rw[show ek (own,out) c=([],out)from(if_neg OX).trans (if_neg (by show¬0<own.length;omega))]
     exact gZ rfl ⟨_,hM,⟨⟨_,go,dK _ _ _ _ _⟩,⟨_,gs,hs⟩,fz,gj,OV,OW⟩,S⟩
theorem lG (l:List Int):∀p,(l.foldl ek p).1.length≤p.1.length+l.length∧(l.foldl ek p).2.length≤p.2.length+l.length:=by
 induction l with
 |nil=>intro p;simp
 |cons c l ih=>
  intro p;have:=ih (ek p c)
  have h1:(ek p c).1.length≤p.1.length+1∧(ek p c).2.length≤p.2.length+1:=by
   unfold ek
   split
   ·simp
   ·split<;>simp
  simp only[List.foldl_cons,cA];omega
def words (l:List UInt8):List (List UInt8):=((dZ l++[32]).foldl ek ([],[])).2
theorem lH (l:List UInt8):(words l).length≤l.length+1:=by
 have h:=(lG (dZ l++[32]) ([],[])).2;have h2:=gp l;rw[bP]at h;have h3:([]:List (List UInt8)).length=0:=rfl;have h4: [(32:Int)].length=1:=rfl;unfold words;simp only[h3,h4]at h;omega
theorem ti {M:aB} {l:List UInt8} (w0:World) (hM:Lt M w0) (hl:l.length≤900000):
  Spec Tryz.prog 192 #[.string ⟨l.toArray⟩] w0 (fun v w=>(RT.str.sl).V M w (words l) v∧Step M w0 M w aA):=by
 have iL:=hM;refine aZ (args:=[_]) (fn:=Tryz.f192) Tryz.func192 rfl (n:=23) Tryz.ntmps192 ?_;have S:Step M w0 M w0 aA:=(an _ _).ca (fun _ h=>h.elim) (fun _ h=>h.elim);refine aj (ah (ai rfl rfl (ad (aj (ah ?_)))));refine fh M Ie rfl (fun mQ DK Qz QA jD nZ=>?_);obtain⟨nz,nA⟩:∃M',M'=ins M mQ:=⟨_,rfl⟩;rw[←nA]at nZ;have ia:nz mQ:=by rw[nA];exact .inl rfl
 change DK.heap[mQ]? =some (.cells #[.slice none 0 0] _ _)at jD;replace hM:=nZ.lt hM;have:=S.size;replace S:=S.ax nZ;refine ad (aj (ah ?_));refine fh nz nY rfl (fun fi I6 Wh Wi zk tj=>?_);obtain⟨FH,tn⟩:∃M',M'=ins nz fi:=⟨_,rfl⟩;rw[←tn]at tj;have tp:FH fi:=by rw[tn];exact .inl rfl
 change I6.heap[fi]? =some (.cells #[.slice none 0 0] _ _)at zk;have:=ak jD;replace ia:=(tj.mem _ this).2 ia;replace jD:=tj.aM jD;replace hM:=tj.lt hM;have:=S.size;replace S:=S.ax tj;refine ad (aj (ah (iw (xs:=[]) (ys:=[.tmp 4,.tmp 3]) rfl rfl rfl (ai rfl rfl (ad (aj (aj (ah (ae rfl rfl ?_)))))))));refine aQ rfl rfl VG (Bn _ hM (by omega)) (fun v4 w4 hc=>?_);obtain⟨xH,s4⟩:=hc;have:=ak jD;replace ia:=(s4.mem _ this).2 ia;replace jD:=s4.aM jD;have:=ak zk;replace tp:=(s4.mem _ this).2 tp;replace zk:=s4.aM zk;replace hM:=s4.lt hM;have:=S.size;replace S:=S.ax s4;refine bM au rfl xH rfl (ae rfl rfl (ad (aY ?_)));refine dr (σ:=Nat) (fun k=>[(3,.pointer (some ⟨mQ,0,none⟩)),(5,.func (.func 220) #[] #[.pointer (some ⟨fi,0,none⟩),.pointer (some ⟨mQ,0,none⟩)]),(10,v4),(11,.int .i64 ((dZ l).length:Int)),(12,.int .i64 (k:Int))]) (fun k w=>∃M',Lt M' w∧Step M w0 M' w aA∧FA M' w w0.heap.size fi mQ (((dZ l).take k).foldl ek ([],[]))∧((RT.int .i64).sl).V M' w (dZ l) v4∧k≤(dZ l).length) (fun k=>(dZ l).length-k) 0 (.cons rfl (.cons rfl (.cons rfl (.cons rfl (.cons rfl .nil))))) ?_ ?_
 ·exact⟨_,hM,S,⟨⟨_,zk,dK _ _ _ _ _⟩,⟨_,jD,dK _ _ _ _ _⟩,tp,ia,by omega,by omega⟩,xH,bB _⟩
 ·rintro k w ⟨M1,hM,S,ht,xH,hk⟩;refine aj (ah (b4 rfl rfl rfl (ad (aj ?_))));refine bH rfl (fun c5=>?_) (fun c5=>?_)
  ·refine aS (aj (aY (aj (ah ?_))));refine cK (M:=M1) au I3 rfl rfl rfl xH (ao _ _) (by omega) (fun u6 c EA MA=>?_);refine bV (M:=M1) ar rfl rfl MA (ao _ _) (fun in6=>?_);refine ai rfl rfl (ad (ah (ae rfl rfl (ae rfl rfl ?_))));have oH:=gp l;have Ex:=lG ((dZ l).take k) ([],[]);rw[bG]at Ex;refine Rg.o9 (first:=[]) (captured:=[.pointer (some ⟨fi,0,none⟩),.pointer (some ⟨mQ,0,none⟩)]) rfl rfl rfl Qa (tg (B:=w0.heap.size) _ hM c ht (by simp at Ex;omega)) (fun r7 w7 hc=>?_);obtain⟨M2,KH,I7,s7⟩:=hc;have tk:(dZ l).take (k+1)=(dZ l).take k++[c]:=by rw[bN];simp only[aw]at EA;rw[EA];rfl
   refine ad (ah (bu rfl rfl rfl (by omega) (ae rfl rfl (ad ?_))));refine⟨rfl,k+1,(.cons rfl (.cons rfl (.cons rfl (.cons rfl (.cons rfl .nil))))),?_,?_⟩
   ·exact⟨M2,KH,S.j0 s7 (a7 _),by rw[tk,oE];exact I7,xH.le s7.le,by omega⟩
   ·omega
  ·refine cG (aj (ah (ae rfl rfl ?_)));have oH:=gp l;have Ex:=lG ((dZ l).take k) ([],[]);rw[bG]at Ex;refine Rg.o9 (first:=[]) (captured:=[.pointer (some ⟨fi,0,none⟩),.pointer (some ⟨mQ,0,none⟩)]) rfl rfl rfl Qa (tg (B:=w0.heap.size) _ hM 32 ht (by simp at Ex;omega)) (fun r9 w9 hc=>?_);obtain⟨M2,KH,I7,s9⟩:=hc;have e9:ek (((dZ l).take k).foldl ek ([],[])) 32=(dZ l++[32]).foldl ek ([],[]):=by rw[oE,aW (by omega)];rfl
   rw[e9]at I7;obtain⟨_,⟨us,gs,hs⟩,_⟩:=I7;replace S:=S.j0 s9 (a7 _);refine ad (aj (ah (aH a8 rfl rfl rfl gs rfl (ai rfl rfl (ad (aL ?_))))));exact aO rfl rfl ⟨Own.close iL S hs (by have:=lH l;omega),S.back⟩
end Go.K
namespace Go.K
open Go.Proofs
set_option maxRecDepth 10000
theorem FI {p:List Int×List (List UInt8)} {c:Int} (h:rM c=true):ek p c=(p.1++[ez c],p.2):=if_pos (by simpa[rM]using h)
theorem nU {p:List Int×List (List UInt8)} {c:Int} (h:rM c=false):ek p c=if 0<p.1.length then([],p.2++[ik p.1])else([],p.2):=if_neg (by simpa[rM]using h)
def EB (sg:List Int) (i:Nat) (ws:List (List UInt8)):Prop:=(i≤sg.length∧(sg.take i).foldl ek ([],[])=([],ws))∨(i=sg.length+1∧((sg++[32]).foldl ek ([],[])).2=ws)
theorem FJ {c:Int} (h:rM c=true):0≤c∧c≤1114111:=ny (by simpa[rM]using h)
theorem QB:rM 32=false:=by decide
theorem qp {sg:List Int} {i:Nat} {c:Int} (h:sg[i]? =some c) (p:List Int×List (List UInt8)):(sg.take (i+1)).foldl ek p=ek ((sg.take i).foldl ek p) c:=by
 rw[bN,h,ck,oE];rfl
theorem EB.skip {sg:List Int} {i:Nat} {ws:List (List UInt8)} {c:Int} (h:EB sg i ws) (hc:sg[i]? =some c) (hi:rM c=false):EB sg (i+1) ws:=by
 have dC:=(av.1 hc).1;rcases h with⟨_,h⟩|⟨h,_⟩
 ·exact .inl ⟨dC,by rw[qp hc,h,nU hi];rfl⟩
 ·omega
theorem EB.word {sg:List Int} {j:Nat} {own:List Int} {ws:List (List UInt8)} (h:(sg.take j).foldl ek ([],[])=(own,ws)) (ho:0<own.length) (hj:j≤sg.length) (hn:∀c,sg[j]? =some c→rM c=false):EB sg (j+1) (ws++[ik own]):=by
 rcases jx hj with e|dC
 ·refine .inr ⟨by omega,?_⟩;rw[e,List.take_length]at h;rw[oE,h];show(ek (own,ws) 32).2=_;rw[nU QB,if_pos ho]
 ·have hc:sg[j]? =some sg[j]:=aD dC;exact .inl ⟨dC,by rw[qp hc,h,nU (hn _ hc),if_pos ho]⟩
theorem EB.done {sg:List Int} {i:Nat} {ws:List (List UInt8)} (h:EB sg i ws) (hi:sg.length≤i):((sg++[32]).foldl ek ([],[])).2=ws:=by
 rcases h with⟨h1,h⟩|⟨_,h⟩
 ·rw[aW (by omega)]at h;rw[oE,h];show(ek ([],ws) 32).2=_;rw[nU QB];rfl
 ·exact h
theorem EB.len {sg:List Int} {i:Nat} {ws:List (List UInt8)} (h:EB sg i ws):ws.length≤sg.length+1:=by
 rcases h with⟨_,h⟩|⟨_,h⟩
 ·have:=(lG (sg.take i) ([],[])).2;rw[h,bG]at this;simp only[ic]at this;have e:(([]:List Int),([]:List (List UInt8))).2.length=0:=rfl;omega
 ·have:=(lG (sg++[32]) ([],[])).2;rw[h,bP]at this;have e:(([]:List Int),([]:List (List UInt8))).2.length=0:=rfl;have e2: [(32:Int)].length=1:=rfl;omega
theorem fy {sg:List Int} {j:Nat} {own:List Int} {ws:List (List UInt8)} (h:(sg.take j).foldl ek ([],[])=(own,ws)):own.length≤sg.length∧ws.length≤sg.length:=by
 have:=lG (sg.take j) ([],[]);rw[h,bG]at this;simp only[ic]at this;have e:(([]:List Int),([]:List (List UInt8))).1.length=0:=rfl;have e2:(([]:List Int),([]:List (List UInt8))).2.length=0:=rfl;omega
theorem qU {M:aB} {l:List UInt8} (w0:World) (hM:Lt M w0) (hl:l.length≤900000):
  Spec Tryz.prog 191 #[.string ⟨l.toArray⟩] w0 (fun v w=>(RT.str.sl).V M w (words l) v∧Step M w0 M w aA):=by
 have iL:=hM;have oH:=gp l;refine aZ (args:=[_]) (fn:=Tryz.f191) Tryz.func191 rfl (n:=50) Tryz.ntmps191 ?_;have S:Step M w0 M w0 aA:=(an _ _).ca (fun _ h=>h.elim) (fun _ h=>h.elim);refine aj (ah (ai rfl rfl (ad (aj (ah (ae rfl rfl ?_))))));refine aQ rfl rfl VB (zg _ hM (by omega)) (fun v1 w1 hc=>?_);obtain⟨hv,s1⟩:=hc;replace hM:=s1.lt hM;have:=S.size;replace S:=S.ax s1;refine ai rfl rfl (ad (aj (ah (ai rfl rfl (ad (aj (aj (ah (ai rfl rfl (ad (aY ?_)))))))))));refine dr (σ:=Nat×Value) (fun q=>[(3,v1),(4,q.2),(5,.int .i64 (q.1:Int))]) (fun q w=>∃M' ws,Lt M' w∧Step M w0 M' w aA∧Own RT.str 9 M' w w0.heap.size q.2 ws∧((RT.int .i64).sl).V M' w (dZ l) v1∧EB (dZ l) q.1 ws) (fun q=>(dZ l).length+1-q.1) (0,.slice none 0 0) (.cons rfl (.cons rfl (.cons rfl .nil))) ?_ ?_
 ·exact⟨M,[],hM,S,dK _ _ _ _ _,hv,.inl ⟨bB _,rfl⟩⟩
 ·rintro⟨i,u4⟩ w ⟨M1,ws,hM,S,pD,hv,QC⟩;dsimp only at pD QC ⊢;refine aj (aj (ah (ae rfl rfl (ae rfl rfl (bM au rfl hv rfl (b4 rfl rfl rfl (ad ?_)))))));refine bH rfl (fun c4=>?_) (fun c4=>?_)
  ·refine aS (aj (aY (aj (ah (ae rfl rfl (ae rfl rfl ?_))))));refine cK (M:=M1) au I3 rfl rfl rfl hv (ao _ _) (by omega) (fun I8 c T3 huc=>?_);refine bV (M:=M1) ar rfl rfl huc (ao _ _) (fun inc=>?_);rw[aw]at T3;refine aQ rfl rfl P8 (zf c _) (fun r wc hc=>?_);obtain⟨rfl,rfl⟩:=hc;refine bz (v':= .bool (decide (rM c=true))) (by cases rM c<;>rfl) (ai rfl rfl (ad (aj (aj (ah (ae rfl rfl (rq rfl rfl (bz (v':= .bool (decide (rM c=false))) (by cases rM c<;>rfl) (ad ?_)))))))));refine bH rfl (fun c7=>?_) (fun c7=>?_)
   ·refine cG (ah (ae rfl rfl (bu rfl rfl rfl (by omega) (ai rfl rfl (ad ?_)))));refine⟨rfl,(i+1,u4),(.cons rfl (.cons rfl (.cons rfl .nil))),?_,?_⟩
    ·exact⟨M1,ws,hM,S,pD,hv,QC.skip T3 (by assumption)⟩
    ·dsimp only;omega
   ·refine aS (aj (ah (ai rfl rfl (ad (aj (aY ?_))))));refine dr (σ:=Nat×List Int×Value) (fun q=>[(3,v1),(4,u4),(5,.int .i64 (q.1:Int)),(7,q.2.2)]) (fun q w=>∃M',Lt M' w∧Step M w0 M' w aA∧Own RT.str 9 M' w w0.heap.size u4 ws∧Own (RT.int .i64) 3 M' w w0.heap.size q.2.2 q.2.1∧((RT.int .i64).sl).V M' w (dZ l) v1∧((dZ l).take q.1).foldl ek ([],[])=(q.2.1,ws)∧i≤q.1∧q.1≤(dZ l).length∧(i<q.1→0<q.2.1.length)) (fun q=>(dZ l).length-q.1) (i,[],.slice none 0 0) (.cons rfl (.cons rfl (.cons rfl (.cons rfl .nil)))) ?_ ?_
    ·have Wj:((dZ l).take i).foldl ek ([],[])=([],ws):=by
      rcases QC with⟨_,h⟩|⟨h,_⟩
      ·exact h
      ·omega
     exact⟨M1,hM,S,pD,dK _ _ _ _ _,hv,Wj,a7 _,by dsimp only;omega,fun h=>absurd h (iy _)⟩
    ·rintro⟨j,own,u7⟩ w ⟨M2,hM,S,pD,rN,hv,hf,OS,qi,qg⟩;dsimp only at rN hf OS qi qg ⊢;refine aj (aj (ah (ae rfl rfl (ae rfl rfl (bM au rfl hv rfl (b4 rfl rfl rfl (ae rfl rfl ?_)))))));refine aJ (g:=27) rfl (fun Wk=>?_) (fun Wk=>?_)
     ·refine al rfl rfl (ae rfl rfl (al rfl rfl (ae rfl rfl (al rfl rfl ?_))));refine cK (M:=M2) au I3 rfl rfl rfl hv (ao _ _) (by omega) (fun aea d tq hud=>?_);refine al rfl rfl ?_;refine bV (M:=M2) ar rfl rfl hud (ao _ _) (fun ind=>?_);rw[aw]at tq;refine al rfl rfl ?_;refine aQ rfl rfl P8 (zf d _) (fun r wc hc=>?_);obtain⟨rfl,rfl⟩:=hc;refine bz (v':= .bool (decide (rM d=true))) (by cases rM d<;>rfl) (aR rfl rfl rfl (ad ?_));refine bH rfl (fun c9=>?_) (fun c9=>?_)
      ·refine aS (aY (aj (ah (ae rfl rfl (ae rfl rfl (ae rfl rfl ?_))))));refine cK (M:=M2) au I3 rfl rfl rfl hv (ao _ _) (by omega) (fun QD e kZ hue=>?_);refine bV (M:=M2) ar rfl rfl hue (ao _ _) (fun mM=>?_);rw[aw]at kZ;have MB:rM e=true:=by rw[tq]at kZ;cases kZ;assumption
       refine aQ rfl rfl VC (Bj e _ (FJ MB)) (fun r wc hc=>?_);obtain⟨rfl,rfl⟩:=hc;refine eh (A:=RT.int .i64) (hn:=by decide) (M:=M2) au I3 (by decide) rfl rfl hM (fW (by have:=FJ MB;unfold ez;split<;>omega)) (.inr ⟨rfl,rfl⟩) (fun aaX aaY Bp zm=>?_);replace hv:=hv.le zm.le;replace pD:=pD.bh zm;replace rN:=rN.bh zm;replace hM:=zm.lt hM;have:=S.size;replace S:=S.ax zm;refine cR (M:=M2) (base:=w0.heap.size) au I3 rfl rfl rfl rfl rN Bp (ao _ _) (by have:=fy hf;simp;omega) (by have:=fy hf;simp;omega) (S.size) (fun KI QE QF MC mF=>?_);replace hv:=hv.le mF.le;replace Bp:=Bp.le mF.le;replace pD:=pD.step mF (fun b h1 h2=>pD.iG rN (by decide) h1 h2);replace hM:=mF.lt hM;have:=S.size;replace S:=S.dd mF rN (a7 _);replace rN:=MC;refine ai rfl rfl (ad (ah (ae rfl rfl (bu rfl rfl rfl (by omega) (ai rfl rfl (ad ?_))))));refine⟨rfl,(j+1,own++[ez e],KI),(.cons rfl (.cons rfl (.cons rfl (.cons rfl .nil)))),?_,?_⟩
       ·exact⟨QE,hM,S,pD,rN,hv,by rw[qp kZ,hf,FI MB],by dsimp only;omega,by dsimp only;omega,fun _=>by simp⟩
       ·dsimp only;omega
      ·refine cG (ah (ae rfl rfl (ae rfl rfl ?_)));refine aQ rfl rfl P9 (tf (M:=rm M2 u7) _ (fun b hb=>hM b hb.1) (rN.view (by have:=fy hf;omega)) (by have:=fy hf;omega)) (fun r12 Ja MD=>?_);obtain⟨rfl,n0⟩:=MD;replace n0:=n0.any M2;replace hv:=hv.le n0.le;replace pD:=pD.bh n0;replace rN:=rN.bh n0;replace hM:=n0.lt hM;have:=S.size;replace S:=S.ax n0;refine eh (A:=RT.str) (hn:=by decide) (M:=M2) a8 I9 (by decide) rfl rfl hM (jY.2 ⟨rfl,by have:=eZ own;have:=fy hf;omega⟩) (.inr ⟨rfl,rfl⟩) (fun QG QH oQ nB=>?_);replace hv:=hv.le nB.le;replace pD:=pD.bh nB;replace rN:=rN.bh nB;replace hM:=nB.lt hM;have:=S.size;replace S:=S.ax nB;refine cR (M:=M2) (base:=w0.heap.size) a8 I9 rfl rfl rfl rfl pD oQ (ao _ _) (by have:=fy hf;simp;omega) (by have:=fy hf;simp;omega) (S.size) (fun tt nC FK oR dS=>?_);replace hv:=hv.le dS.le;replace oQ:=oQ.le dS.le;replace rN:=rN.step dS (fun b h1 h2=>rN.iG pD (by decide) h1 h2);replace hM:=dS.lt hM;have:=S.size;replace S:=S.dd dS pD (a7 _);replace pD:=oR;refine ai rfl rfl (ad (ah (ae rfl rfl (bu rfl rfl rfl (by omega) (ai rfl rfl (ad ?_))))))
       have qg:0<own.length:=by
        rcases jx OS with e|h
        ·exfalso;subst e
         first|omega|(rw[T3]at tq;cases tq;exact c9 (by cases hq:rM c with|true=>rfl|false=>exact absurd hq (by assumption)))
        ·exact qg h
       have Wl:∀c,(dZ l)[j]? =some c→rM c=false:=fun c hc=>by
        first|(rw[fI (by omega)]at hc;cases hc)|(rw[tq]at hc;cases hc;exact dX.2 c9)
       refine⟨rfl,(j+1,tt),(.cons rfl (.cons rfl (.cons rfl .nil))),?_,?_⟩
       ·exact⟨nC,_,hM,S,pD,hv,EB.word hf qg qi Wl⟩
       ·dsimp only;omega
     ·refine aq rfl rfl rfl rfl (aq rfl rfl rfl rfl (aq rfl rfl rfl rfl (aq rfl rfl rfl rfl (aq rfl rfl rfl rfl (az rfl rfl rfl (ad (gG rfl (cG (ah (ae rfl rfl (ae rfl rfl ?_)))))))))));refine aQ rfl rfl P9 (tf (M:=rm M2 u7) _ (fun b hb=>hM b hb.1) (rN.view (by have:=fy hf;omega)) (by have:=fy hf;omega)) (fun r12 Ja MD=>?_);obtain⟨rfl,n0⟩:=MD;replace n0:=n0.any M2;replace hv:=hv.le n0.le;replace pD:=pD.bh n0;replace rN:=rN.bh n0;replace hM:=n0.lt hM;have:=S.size;replace S:=S.ax n0;refine eh (A:=RT.str) (hn:=by decide) (M:=M2) a8 I9 (by decide) rfl rfl hM (jY.2 ⟨rfl,by have:=eZ own;have:=fy hf;omega⟩) (.inr ⟨rfl,rfl⟩) (fun QG QH oQ nB=>?_);replace hv:=hv.le nB.le;replace pD:=pD.bh nB;replace rN:=rN.bh nB;replace hM:=nB.lt hM;have:=S.size;replace S:=S.ax nB;refine cR (M:=M2) (base:=w0.heap.size) a8 I9 rfl rfl rfl rfl pD oQ (ao _ _) (by have:=fy hf;simp;omega) (by have:=fy hf;simp;omega) (S.size) (fun tt nC FK oR dS=>?_);replace hv:=hv.le dS.le;replace oQ:=oQ.le dS.le;replace rN:=rN.step dS (fun b h1 h2=>rN.iG pD (by decide) h1 h2);replace hM:=dS.lt hM;have:=S.size;replace S:=S.dd dS pD (a7 _);replace pD:=oR;refine ai rfl rfl (ad (ah (ae rfl rfl (bu rfl rfl rfl (by omega) (ai rfl rfl (ad ?_))))))
      have qg:0<own.length:=by
       rcases jx OS with e|h
       ·exfalso;subst e
        first|omega|(rw[T3]at tq;cases tq;exact c9 (by cases hq:rM c with|true=>rfl|false=>exact absurd hq (by assumption)))
       ·exact qg h
      have Wl:∀c,(dZ l)[j]? =some c→rM c=false:=fun c hc=>by
       first|(rw[fI (by omega)]at hc;cases hc)|(rw[tq]at hc;cases hc;exact dX.2 c9)
      refine⟨rfl,(j+1,tt),(.cons rfl (.cons rfl (.cons rfl .nil))),?_,?_⟩
      ·exact⟨nC,_,hM,S,pD,hv,EB.word hf qg qi Wl⟩
      ·dsimp only;omega
  ·refine cG (aj (ah (ae rfl rfl (ai rfl rfl (ad (aL ?_))))));have e:=QC.done (by omega);have e2:words l=ws:=e;rw[e2];exact aO rfl rfl ⟨pD.close iL S (by have:=QC.len;omega),S.back⟩
end Go.K
namespace Go.K
open Go.Proofs
set_option maxRecDepth 10000
def kg:Nat→List (List UInt8)→Int
 |_,[]=>0
 |i,w::ws=>if 30<w.length then 3 else if 500≤i then 7 else kg (i+1) ws
theorem CK {i k:Nat} {ws:List (List UInt8)} {x:List UInt8} (h:ws[k]? =some x):kg i (ws.drop k)=if 30<x.length then 3 else if 500≤i then 7 else kg (i+1) (ws.drop (k+1)):=by
 have dC:=(av.1 h).1;rw[dB dC,(av.1 h).2];rfl
theorem eD {M:aB} {w:World} {x:List UInt8} {v:Value} (h:RT.str.V M w x v):v= .string ⟨x.toArray⟩:=(jY.1 h).1
theorem DL {M:aB} {l:List UInt8} (w0:World) (hM:Lt M w0) (hl:l.length≤900000):
  Spec Tryz.prog 150 #[.string ⟨l.toArray⟩] w0 (fun v w=>(∃u,v= .tuple #[u,.int .i64 (kg 0 (words l))]∧(kg 0 (words l)=0→∃a cap,u= .slice a (words l).length cap))∧Step M w0 M w aA):=by
 have iL:=hM;refine aZ (args:=[_]) (fn:=Tryz.f150) Tryz.func150 rfl (n:=30) Tryz.ntmps150 ?_;have S:Step M w0 M w0 aA:=(an _ _).ca (fun _ h=>h.elim) (fun _ h=>h.elim);refine aj (ah (ai rfl rfl (ai rfl rfl (ad (aj (ah (ai rfl rfl (ad (aj (aj (ah ?_)))))))))));refine ae rfl rfl ?_;refine aQ rfl rfl P5 (ti _ hM hl) (fun v1 w1 hc=>?_);obtain⟨hv,s1⟩:=hc;replace hM:=s1.lt hM;have:=S.size;replace S:=S.ax s1;refine bM a8 rfl hv rfl (ae rfl rfl (ad (aY ?_)));refine dr (σ:=Nat×Value) (fun q=>[(8,v1),(4,q.2),(9,.int .i64 ((words l).length:Int)),(10,.int .i64 (q.1:Int))]) (fun q w=>(∃M' xs,Lt M' w∧Step M w0 M' w aA∧Own (RT.pair RT.str (RT.int .i64)) 256 M' w w0.heap.size q.2 xs∧xs.length=q.1∧(RT.str.sl).V M' w (words l) v1)∧kg 0 (words l)=kg q.1 ((words l).drop q.1)∧q.1≤(words l).length∧q.1≤500) (fun q=>(words l).length-q.1) (0,.slice none 0 0) (.cons rfl (.cons rfl (.cons rfl (.cons rfl .nil)))) ?_ ?_
 ·exact⟨⟨M,[],hM,S,dK _ _ _ _ _,rfl,hv⟩,rfl,bB _,bB _⟩
 ·rintro⟨i,u⟩ w ⟨⟨M1,xs,hM,S,ho,vL,hv⟩,Dw,hi,Wm⟩;dsimp only at ho vL Dw hi Wm ⊢;refine aj (ah (b4 rfl rfl rfl (ad (aj ?_))));refine bH rfl (fun c3=>?_) (fun c3=>?_)
  ·refine aS (aj (aY (aj (ah (ae rfl rfl ?_)))));refine cK (M:=M1) a8 I9 rfl rfl rfl hv (ao _ _) (by omega) (fun Wn x OY Wo=>?_);refine bY (M:=M1) aC rfl rfl rfl rfl rfl Wo (ao _ _) (fun vx tu=>?_);rw[aw]at OY;obtain rfl:=eD tu;have ht:=CK (i:=i) OY;refine ai rfl rfl (ai rfl rfl (ad (aj (aY (aj (ah (ae rfl rfl (Rg.k3 aC rfl rfl (bz (v':= .int .i64 (x.length:Int)) (by simp[ByteArray.size]) (mL rfl rfl rfl (ai rfl rfl ?_)))))))))));refine ad ?_;refine bH rfl (fun c5=>?_) (fun c5=>?_)
   ·refine aj (ah (ai rfl rfl (ai rfl rfl (ad (aL ?_)))));rw[Dw,ht,if_pos (by omega)];exact eN rfl rfl rfl ⟨⟨_,rfl,fun h=>by cases h⟩,S.back⟩
   ·refine aj (ah (ae rfl rfl (Rg.AZ rfl rfl rfl (ai rfl rfl (ad ?_)))));refine bH rfl (fun c7=>?_) (fun c7=>?_)
    ·refine aj (ah (ai rfl rfl (ai rfl rfl (ad (aL ?_)))));rw[Dw,ht,if_neg (by omega),if_pos (by omega)];exact eN rfl rfl rfl ⟨⟨_,rfl,fun h=>by cases h⟩,S.back⟩
    ·refine aS (ah (ae rfl rfl (ae rfl rfl (ae rfl rfl (dU (places:=[(0,1),(1,1)]) Tryz.underlying256 DF P0 rfl ⟨_,_,rfl,rfl,_,_,rfl,rfl,rfl⟩ (out:=[_,_]) ⟨0,[_],rfl,rfl,by simp[Value.cells],1,[_],rfl,rfl,by simp[Value.cells],rfl⟩ ?_)))));refine eh (A:=(RT.pair RT.str (RT.int .i64))) (hn:=by decide) (M:=M1) Tryz.underlying222 DF (by decide) rfl rfl hM (ef tu (fW (x:=(i:Int)) (by omega)) rfl rfl rfl rfl) (.inl rfl) (fun Qq V0 FL uO=>?_);replace hv:=hv.le uO.le;replace tu:=tu.le uO.le;replace ho:=ho.bh uO;replace hM:=uO.lt hM;have:=S.size;replace S:=S.ax uO;refine cR (M:=M1) (base:=w0.heap.size) Tryz.underlying222 DF rfl rfl rfl rfl ho FL (ao _ _) (by simp;omega) (by simp;omega) (S.size) (fun Wp Wq QI QK nD=>?_);replace hv:=hv.le nD.le;replace tu:=tu.le nD.le;replace FL:=FL.le nD.le;replace hM:=nD.lt hM;have:=S.size;replace S:=S.dd nD ho (a7 _);replace ho:=QK;refine ai rfl rfl (ad (ah (bu rfl rfl rfl (by omega) (ae rfl rfl (ad ?_)))));refine⟨rfl,(i+1,Wp),(.cons rfl (.cons rfl (.cons rfl (.cons rfl .nil)))),?_,?_⟩
     ·exact⟨⟨Wq,_,hM,S,ho,by simp[vL],hv⟩,by rw[Dw,ht,if_neg (by omega),if_neg (by omega)],by dsimp only;omega,by dsimp only;omega⟩
     ·dsimp only;omega
  ·refine cG (aj (ah (ae rfl rfl (ai rfl rfl (ai rfl rfl (ad (aL ?_)))))));have e:kg 0 (words l)=0:=by rw[Dw,jw (by omega)];rfl
   rw[e];obtain⟨a,cap,he,_⟩:=ho.isSlice;exact eN rfl rfl rfl ⟨⟨u,rfl,fun _=>⟨a,cap,by rw[he,vL];congr 1;omega⟩⟩,S.back⟩
theorem Bq {M:aB} {l:List UInt8} (w0:World) (hM:Lt M w0) (hl:l.length≤900000):
  Spec Tryz.prog 167 #[.string ⟨l.toArray⟩] w0 (fun v w=>(∃u,v= .tuple #[u,.int .i64 (kg 0 (words l))]∧(kg 0 (words l)=0→∃a cap,u= .slice a (words l).length cap))∧Step M w0 M w aA):=by
 have iL:=hM;refine aZ (args:=[_]) (fn:=Tryz.f167) Tryz.func167 rfl (n:=33) Tryz.ntmps167 ?_;have S:Step M w0 M w0 aA:=(an _ _).ca (fun _ h=>h.elim) (fun _ h=>h.elim);refine aj (ah (ai rfl rfl (ai rfl rfl (ad (aj (ah (ae rfl rfl ?_)))))));refine aQ rfl rfl P4 (qU _ hM hl) (fun v1 w1 hc=>?_);obtain⟨hv,s1⟩:=hc;replace hM:=s1.lt hM;have:=S.size;replace S:=S.ax s1;refine ai rfl rfl (ad (aj (ah (ai rfl rfl (ad (aj (aj (ah (ai rfl rfl (ad (aY ?_)))))))))));refine dr (σ:=Nat×Value) (fun q=>[(4,v1),(5,q.2),(6,.int .i64 (q.1:Int))]) (fun q w=>(∃M' xs,Lt M' w∧Step M w0 M' w aA∧Own (RT.pair RT.str (RT.int .i64)) 256 M' w w0.heap.size q.2 xs∧xs.length=q.1∧(RT.str.sl).V M' w (words l) v1)∧kg 0 (words l)=kg q.1 ((words l).drop q.1)∧q.1≤(words l).length∧q.1≤500) (fun q=>(words l).length-q.1) (0,.slice none 0 0) (.cons rfl (.cons rfl (.cons rfl .nil))) ?_ ?_
 ·exact⟨⟨M,[],hM,S,dK _ _ _ _ _,rfl,hv⟩,rfl,bB _,bB _⟩
 ·rintro⟨i,u⟩ w ⟨⟨M1,xs,hM,S,ho,vL,hv⟩,Dw,hi,Wm⟩;dsimp only at ho vL Dw hi Wm ⊢;refine aj (aj (ah (ae rfl rfl (ae rfl rfl (bM a8 rfl hv rfl (b4 rfl rfl rfl (ad ?_)))))));refine bH rfl (fun c4=>?_) (fun c4=>?_)
  ·refine aS (aj (aY (aj (aj (ah (ae rfl rfl (ae rfl rfl ?_)))))));refine cK (M:=M1) a8 I9 rfl rfl rfl hv (ao _ _) (by omega) (fun I8 x OY Wo=>?_);refine bY (M:=M1) aC rfl rfl rfl rfl rfl Wo (ao _ _) (fun vx tu=>?_);rw[aw]at OY;obtain rfl:=eD tu;have ht:=CK (i:=i) OY;refine Rg.k3 aC rfl rfl (bz (v':= .int .i64 (x.length:Int)) (by simp[ByteArray.size]) (mL rfl rfl rfl (ad ?_)));refine bH rfl (fun c6=>?_) (fun c6=>?_)
   ·refine aj (ah (ai rfl rfl (ai rfl rfl (ad (aL ?_)))));rw[Dw,ht,if_pos (by omega)];exact eN rfl rfl rfl ⟨⟨_,rfl,fun h=>by cases h⟩,S.back⟩
   ·refine aS (aj (aj (ah (ae rfl rfl (dz rfl rfl rfl (ad ?_))))));refine bH rfl (fun c8=>?_) (fun c8=>?_)
    ·refine aj (ah (ai rfl rfl (ai rfl rfl (ad (aL ?_)))));rw[Dw,ht,if_neg (by omega),if_pos (by omega)];exact eN rfl rfl rfl ⟨⟨_,rfl,fun h=>by cases h⟩,S.back⟩
    ·refine aS (ah (ae rfl rfl (ae rfl rfl (ae rfl rfl ?_))));refine cK (M:=M1) a8 I9 rfl rfl rfl hv (ao _ _) (by omega) (fun QD y Wr huy=>?_);refine bY (M:=M1) aC rfl rfl rfl rfl rfl huy (ao _ _) (fun vy OZ=>?_);rw[aw]at Wr;obtain rfl:=eD OZ;obtain rfl:x=y:=by rw[OY]at Wr;exact bp Wr
     refine ae rfl rfl (dU (places:=[(0,1),(1,1)]) Tryz.underlying256 DF P0 rfl ⟨_,_,rfl,rfl,_,_,rfl,rfl,rfl⟩ (out:=[_,_]) ⟨0,[_],rfl,rfl,by simp[Value.cells],1,[_],rfl,rfl,by simp[Value.cells],rfl⟩ ?_);refine eh (A:=(RT.pair RT.str (RT.int .i64))) (hn:=by decide) (M:=M1) Tryz.underlying222 DF (by decide) rfl rfl hM (ef OZ (fW (x:=(i:Int)) (by omega)) rfl rfl rfl rfl) (.inl rfl) (fun KI QF Br mF=>?_);replace hv:=hv.le mF.le;replace tu:=tu.le mF.le;replace OZ:=OZ.le mF.le;replace ho:=ho.bh mF;replace hM:=mF.lt hM;have:=S.size;replace S:=S.ax mF;refine cR (M:=M1) (base:=w0.heap.size) Tryz.underlying222 DF rfl rfl rfl rfl ho Br (ao _ _) (by simp;omega) (by simp;omega) (S.size) (fun QL QM CL ME fk=>?_);replace hv:=hv.le fk.le;replace tu:=tu.le fk.le;replace OZ:=OZ.le fk.le;replace Br:=Br.le fk.le;replace hM:=fk.lt hM;have:=S.size;replace S:=S.dd fk ho (a7 _);replace ho:=ME;refine ai rfl rfl (ad (ah (ae rfl rfl (bu rfl rfl rfl (by omega) (ai rfl rfl (ad ?_))))));refine⟨rfl,(i+1,QL),(.cons rfl (.cons rfl (.cons rfl .nil))),?_,?_⟩
     ·exact⟨⟨QM,_,hM,S,ho,by simp[vL],hv⟩,by rw[Dw,ht,if_neg (by omega),if_neg (by omega)],by dsimp only;omega,by dsimp only;omega⟩
     ·dsimp only;omega
  ·refine cG (aj (ah (ae rfl rfl (ai rfl rfl (ai rfl rfl (ad (aL ?_)))))));have e:kg 0 (words l)=0:=by rw[Dw,jw (by omega)];rfl
   rw[e];obtain⟨a,cap,he,_⟩:=ho.isSlice;exact eN rfl rfl rfl ⟨⟨u,rfl,fun _=>⟨a,cap,by rw[he,vL];congr 1;omega⟩⟩,S.back⟩
end Go.K
namespace Go.K
abbrev Fd:=List UInt8×List UInt8
abbrev Dc:=Int×List Fd
abbrev En:=Dc×Int
abbrev RT.fd:RT Fd:=RT.pair RT.str RT.str
abbrev RT.dc:RT Dc:=RT.pair (RT.int .i64) (RT.fd.sl)
abbrev RT.en:RT En:=RT.pair RT.dc (RT.int .i64)
theorem Jb:Part RT.fd RT.str (fun p=>p.1) 0:=kF _ _
theorem O0:Part RT.fd RT.str (fun p=>p.2) 1:=fU _ _
theorem QN:Part RT.dc (RT.int .i64) (fun p=>p.1) 0:=kF _ _
theorem AW:Part RT.dc (RT.fd.sl) (fun p=>p.2) 1:=fU _ _
theorem O1:Part RT.en RT.dc (fun p=>p.1) 0:=kF _ _
theorem O2:Part RT.en (RT.int .i64) (fun p=>p.2) 2:=fU _ _
theorem xS {M:aB} {w:World} {p:Dc} {v:Value} (h:RT.dc.V M w p v):∃u,v= .agg #[.int .i64 p.1,u]:=by
 obtain⟨vs,⟨va,vb,rfl,⟨rfl,_⟩,hb⟩,rfl⟩:=h;have:=(RT.fd.sl (by decide)).len hb
 match vb,this with
 |[u],_=>exact⟨u,rfl⟩
theorem CM {M:aB} {w:World} {p:Dc} {u:Value} {s:Int} (h:RT.dc.V M w p (.agg #[.int .i64 p.1,u])) (hs: -9223372036854775808≤s∧s≤9223372036854775807):RT.en.V M w (p,s) (.agg [.int .i64 p.1,u,.int .i64 s].toArray):=by
 obtain⟨vs,h1,h2⟩:=h
 have h3:vs=[.int .i64 p.1,u]:=by
  have:Value.agg #[.int .i64 p.1,u]= .agg vs.toArray:=h2;injection this with this
  simpa using(congrArg Array.toList this).symm
 subst h3;exact⟨_,⟨[.int .i64 p.1,u],[.int .i64 s],rfl,h1,rfl,hs.1,hs.2⟩,rfl⟩
theorem Own.KJ {α:Type} (A:RT α) (e:TypeId) (base:Nat) {M:aB} {w:World} (h:Lt M w):Own A e M w base (.slice none 0 0) []:=dK _ _ _ _ _
section
variable {P:Program} {r:Option Nat} {n:Nat} {L:Sl} {ds:List Deferred} {w:World} {K:Kt} {ops:Array Oper} {rest:List Oper} {d:Nat} {x:Operand} {ty:TypeId} {pos:String} {af:Array Edge}
theorem Rg.jr {α:Type} {A:RT α} {e:TypeId} {v:Value} {a:α} {M:aB} (hx:ev L x=some v) (hd:Nat.blt d n=true) (hM:Lt M w) (hv:A.V M w a v) (hg:A.agg=true)
  (k:∀u w',cp A M w' u a→Step M w M w' aA→w.heap.size≤w'.heap.size→Rg P r n ops rest ((d,u)::L) ds w' K):
  Rg P r n ops ({dst:=some d,op:= .box e x,type:=ty,pos,after:=af,guard:=none}::rest) L ds w K:=by
 refine o8 M hx hd (fun b w' h1 h2 hb s=>?_);obtain⟨vs,h3,h4⟩:=hv;have hc:v.cells=vs.toArray:=by subst h4;simp[RT.val,hg,Value.cells]
 rw[hc]at hb;refine k _ w' ⟨b,0,vs,rfl,fun hm=>?_,A.le s.back.le h3,fun j u hj=>?_⟩ s.back s.size
 ·have:=hM b hm;omega
 ·rw[Nat.zero_add];exact gH hb (by simpa using hj)
end
end Go.K
namespace Go.Proofs
open Go.Shelf
def Tryz.zn:Go.Shelf.Ren:=⟨fun|160=>193|232=>227|231=>226|227=>228|234=>230|233=>229|236=>232|235=>231|228=>257|271=>260|151=>259|197=>258|120=>280|152=>279|260=>278|137=>287|119=>277|224=>288|225=>289|217=>291|266=>292|n=>n,fun|9=>9|4=>4|3=>3|5=>5|117=>283|116=>282|0=>0|124=>286|21=>21|105=>317|46=>183|119=>338|139=>341|138=>340|n=>n,fun|3=>2|4=>3|n=>n⟩
theorem Tryz.Jc:Go.Proofs.Lays.n160 Tryz.prog Tryz.zn:={
 mixed:=by kernel_rfl
 f119:=Tryz.func277.trans (congrArg some (by kernel_rfl))
 f120:=Tryz.func280.trans (congrArg some (by kernel_rfl))
 f137:=Tryz.func287.trans (congrArg some (by kernel_rfl))
 f151:=Tryz.func259.trans (congrArg some (by kernel_rfl))
 f152:=Tryz.func279.trans (congrArg some (by kernel_rfl))
 f160:=Tryz.func193.trans (congrArg some (by kernel_rfl))
 f197:=Tryz.func258.trans (congrArg some (by kernel_rfl))
 f217:=Tryz.func291.trans (congrArg some (by kernel_rfl))
 f224:=Tryz.func288.trans (congrArg some (by kernel_rfl))
 f225:=Tryz.func289.trans (congrArg some (by kernel_rfl))
 f227:=Tryz.func228.trans (congrArg some (by kernel_rfl))
 f228:=Tryz.func257.trans (congrArg some (by kernel_rfl))
 f231:=Tryz.func226.trans (congrArg some (by kernel_rfl))
 f232:=Tryz.func227.trans (congrArg some (by kernel_rfl))
 f233:=Tryz.func229.trans (congrArg some (by kernel_rfl))
 f234:=Tryz.func230.trans (congrArg some (by kernel_rfl))
 f235:=Tryz.func231.trans (congrArg some (by kernel_rfl))
 f236:=Tryz.func232.trans (congrArg some (by kernel_rfl))
 f260:=Tryz.func278.trans (congrArg some (by kernel_rfl))
 f266:=Tryz.func292.trans (congrArg some (by kernel_rfl))
 f271:=Tryz.func260.trans (congrArg some (by kernel_rfl))
 t0:=gV
 a0:=rV
 z0:=oB
 v0:=iU
 t3:=ar
 a3:=rW
 z3:=oC
 v3:=iV
 t4:=gX
 a4:=Tryz.isAgg4
 z4:=Tryz.sizeOf4
 v4:=o7
 t5:=cf
 a5:=Tryz.isAgg5
 z5:=Tryz.sizeOf5
 v5:=Tryz.zeroValue5
 t9:=aC
 a9:=rX
 z9:=oD
 v9:=iW
 t21:=Tryz.underlying21
 a21:=Tryz.isAgg21
 z21:=Tryz.sizeOf21
 v21:=Tryz.zeroValue21
 t46:=Tryz.underlying183
 a46:=Tryz.isAgg183
 z46:=Tryz.sizeOf183
 v46:=Tryz.zeroValue183
 t105:=Tryz.underlying317
 a105:=Tryz.isAgg317
 z105:=Tryz.sizeOf317
 v105:=Tryz.zeroValue317
 t116:=Tryz.underlying282
 a116:=Tryz.isAgg282
 z116:=Tryz.sizeOf282
 t117:=Tryz.underlying283
 a117:=Tryz.isAgg283
 z117:=Tryz.sizeOf283
 v117:=Tryz.zeroValue283
 t119:=Tryz.underlying338
 a119:=Tryz.isAgg338
 z119:=Tryz.sizeOf338
 t124:=Tryz.underlying286
 a124:=Tryz.isAgg286
 z124:=Tryz.sizeOf286
 v124:=Tryz.zeroValue286
 t138:=Tryz.underlying340
 a138:=Tryz.isAgg340
 z138:=Tryz.sizeOf340
 v138:=Tryz.zeroValue340
 t139:=Tryz.underlying341
 a139:=Tryz.isAgg341
 z139:=Tryz.sizeOf341
 v139:=Tryz.zeroValue341
 g3:=by kernel_rfl
 g4:=by kernel_rfl}
end Go.Proofs
namespace Go.K
open Go.Proofs
set_option maxRecDepth 10000
open Go.RowKit Go.Shelf
def jN:List UInt8:=[97,98,99,100,101,102,103,104,105,106,107,108,109,110,111,112,113,114,115,116,117,118,119,120,121,122]
def fS (b:UInt8):Bool:=decide (97≤b.toNat∧b.toNat≤122)
def eS (s:List UInt8):Bool:=decide (1≤s.length∧s.length≤12)&&s.all fS
theorem zo (b:UInt8):jN.contains b=fS b:=by
 have key:∀n:Fin 256,jN.contains (UInt8.ofNat n)=fS (UInt8.ofNat n):=by decide
 have:=key ⟨b.toNat,UInt8.toNat_lt b⟩;simpa using this
theorem drop_nil {α:Type} (p:α→Bool):∀l:List α,l.dropWhile p=[]↔∀x∈l,p x=true
 |[]=>by simp
 |x::l=>by
  rw[List.dropWhile_cons];by_cases h:p x=true
  ·rw[if_pos h,drop_nil p l];simp[h]
  ·rw[if_neg h];simp[h]
theorem tv (s:List UInt8):Lib.trimS s jN=[]↔s.all fS=true:=by
 have e:(fun b=>jN.contains b)=fS:=funext zo;unfold Lib.trimS Lib.trimLeftS Lib.trimRightS;rw[e,drop_nil,ep];constructor
 ·intro h
  have h2:s.reverse.dropWhile fS=[]:=by
   cases hd:s.reverse.dropWhile fS with
   |nil=>rfl
   |cons x r=>
    have h3:=h x (by rw[hd];simp);have h4:=List.head?_dropWhile_not fS s.reverse;rw[hd]at h4;simp[h3]at h4
  intro x hx;exact(drop_nil _ _).1 h2 x (List.mem_reverse.2 hx)
 ·intro h x hx;rw[(drop_nil fS s.reverse).2 (fun y hy=>h y (List.mem_reverse.1 hy))]at hx
  cases hx
theorem DM (s:List UInt8) (hs:s.length≤140737488355328) (w:World):Spec Tryz.prog 193 #[.string ⟨s.toArray⟩,.string ⟨jN.toArray⟩] w (fun v w'=>v= .string ⟨(Lib.trimS s jN).toArray⟩∧∀M,Step M w M w' aA):=
 (Any.strings_Trim_ascii Tryz.Jc Tryz.zeroValue282 (by kernel_rfl) ⟨s.toArray⟩ ⟨jN.toArray⟩ w (by simp[ByteArray.size];omega) (by decide) (fun j b hj=>by
  have hm:b∈jN:=aI hj;have:=zo b;rw[gP.2 hm]at this;have h2:97≤b.toNat∧b.toNat≤122:=by simpa[fS]using this.symm
  omega)).mono fun e w' ⟨h1,h2⟩=>⟨_,h1,rfl,fun M=> .sU h2 M⟩
theorem DN (s:List UInt8) (hs:s.length≤140737488355328) (w0:World):
  Spec Tryz.prog 151 #[.string ⟨s.toArray⟩] w0 (fun v w=>v= .bool (eS s)∧∀M,Step M w0 M w aA):=by
 refine aZ (args:=[_]) (fn:=Tryz.f151) Tryz.func151 rfl (n:=15) Tryz.ntmps151 (aj (ah (ai rfl rfl (ad (aj (ah (ae rfl rfl (Rg.Pr (p:=s) (q:=[]) rfl rfl rfl (ae rfl rfl ?_)))))))));refine aJ (g:=5) rfl (fun fR=>?_) (fun fR=>?_)
 ·refine al rfl rfl (ae rfl rfl (al rfl rfl (Rg.k3 aC rfl rfl (bz (v':= .int .i64 (s.length:Int)) (by simp[ByteArray.size]) (al rfl rfl (eV rfl rfl rfl (aR rfl rfl rfl (ae rfl rfl ?_))))))));refine aJ (g:=10) rfl (fun Ws=>?_) (fun Ws=>?_)
  ·refine al rfl rfl (ae rfl rfl (al rfl rfl ?_));refine aQ rfl rfl Vs (DM s hs _) (fun r w9 hc=>?_);obtain⟨rfl,s9⟩:=hc;refine al rfl rfl (Rg.vG (p:=Lib.trimS s jN) (q:=[]) rfl rfl rfl (aR rfl rfl rfl (ai rfl rfl (ad (aL ?_)))))
   first
   |exact aO rfl rfl ⟨by rw[eS,decide_eq_true (p:=1≤s.length∧s.length≤12) ⟨lS.2 fR,by omega⟩,cZ];exact congrArg Value.bool (by rw[Bool.eq_iff_iff,decide_eq_true_eq];exact tv s),s9⟩
   |exact aO rfl rfl ⟨by rw[eS,decide_eq_false (p:=1≤s.length∧s.length≤12) (by omega),eH],fun M=>an _ _⟩
   |(have MF:s=[]:=Classical.not_not.1 fR
     subst MF;exact aO rfl rfl ⟨rfl,fun M=>an _ _⟩)
  ·refine aq rfl rfl rfl rfl (aq rfl rfl rfl rfl (aq rfl rfl rfl rfl (az rfl rfl rfl (ai rfl rfl (ad (aL ?_))))))
   first
   |exact aO rfl rfl ⟨by rw[eS,decide_eq_true (p:=1≤s.length∧s.length≤12) ⟨lS.2 fR,by omega⟩,cZ];exact congrArg Value.bool (by rw[Bool.eq_iff_iff,decide_eq_true_eq];exact tv s),s9⟩
   |exact aO rfl rfl ⟨by rw[eS,decide_eq_false (p:=1≤s.length∧s.length≤12) (by omega),eH],fun M=>an _ _⟩
   |(have MF:s=[]:=Classical.not_not.1 fR
     subst MF;exact aO rfl rfl ⟨rfl,fun M=>an _ _⟩)
 ·refine aq rfl rfl rfl rfl (aq rfl rfl rfl rfl (aq rfl rfl rfl rfl (az rfl rfl rfl (ae rfl rfl (aq rfl rfl rfl rfl (aq rfl rfl rfl rfl (aq rfl rfl rfl rfl (az rfl rfl rfl (ai rfl rfl (ad (aL ?_)))))))))))
  first
  |exact aO rfl rfl ⟨by rw[eS,decide_eq_true (p:=1≤s.length∧s.length≤12) ⟨lS.2 fR,by omega⟩,cZ];exact congrArg Value.bool (by rw[Bool.eq_iff_iff,decide_eq_true_eq];exact tv s),s9⟩
  |exact aO rfl rfl ⟨by rw[eS,decide_eq_false (p:=1≤s.length∧s.length≤12) (by omega),eH],fun M=>an _ _⟩
  |(have MF:s=[]:=Classical.not_not.1 fR
    subst MF;exact aO rfl rfl ⟨rfl,fun M=>an _ _⟩)
theorem FM {s:List UInt8} (h:∀(k:Nat) c,s[k]? =some c→fS c=true):s.all fS=true:=ep.2 fun c hc=>by
 obtain⟨k,hk⟩:=bF.1 hc;exact h k c hk
theorem pE {s:List UInt8} {i:Nat} (h:i<s.length):s[i]? =some (s.getD i 0):=by rw[bT,aD h];rfl
theorem kh {M:aB} {w:World} {p:Fd} {v:Value} (h:RT.fd.V M w p v):v= .agg #[.string ⟨p.1.toArray⟩,.string ⟨p.2.toArray⟩]:=by
 obtain⟨vs,⟨va,vb,rfl,⟨rfl,_⟩,⟨rfl,_⟩⟩,rfl⟩:=h;rfl
theorem xT {M:aB} {w:World} {p:Fd} {v:Value} (h:RT.fd.V M w p v):p.1.length≤140737488355328∧p.2.length≤140737488355328:=by
 obtain⟨vs,⟨va,vb,rfl,⟨rfl,h1⟩,⟨rfl,h2⟩⟩,_⟩:=h;exact⟨h1,h2⟩
def tw:List Fd→List Fd→Nat→Int
 |_,[],n=>if 500<n then 7 else 0
 |seen,f::fs,n=>if eS f.1=false then 4 else if(seen.any fun g=>decide (g.1=f.1))=true then 5 else if kg 0 (words f.2)≠0 then kg 0 (words f.2)else tw (seen++[f]) fs (n+(words f.2).length)
def kI (d:Dc):Int:=if 8<d.2.length then 7 else tw [] d.2 0
theorem CN {fs:List Fd} {i n:Nat} {x:Fd} (h:fs[i]? =some x):tw (fs.take i) (fs.drop i) n=if eS x.1=false then 4 else if((fs.take i).any fun g=>decide (g.1=x.1))=true then 5 else if kg 0 (words x.2)≠0 then kg 0 (words x.2)else tw (fs.take (i+1)) (fs.drop (i+1)) (n+(words x.2).length):=by
 have dC:=(av.1 h).1;rw[dB dC,(av.1 h).2,bN,h];rfl
theorem pF {fs:List Fd} {i n:Nat} (h:fs.length≤i):tw (fs.take i) (fs.drop i) n=if 500<n then 7 else 0:=by
 rw[jw h];rfl
theorem tx (s:List UInt8) (hs:s.length≤140737488355328) (w0:World):
  Spec Tryz.prog 116 #[.string ⟨s.toArray⟩] w0 (fun v w=>v= .bool (eS s)∧w=w0):=by
 refine aZ (args:=[_]) (fn:=Tryz.f116) Tryz.func116 rfl (n:=28) Tryz.ntmps116 (aj (ah (ai rfl rfl (ad (aj (aj (ah (ai rfl rfl (ad (aY ?_))))))))));refine dr (σ:=Nat) (fun i=>[(0,.string ⟨s.toArray⟩),(3,.int .i64 (i:Int))]) (fun i w=>w=w0∧i≤s.length∧∀k c,k<i→s[k]? =some c→fS c=true) (fun i=>s.length-i) 0 (.cons rfl (.cons rfl .nil)) ?_ ?_
 ·exact⟨rfl,bB _,fun k c h=>absurd h (jK k)⟩
 ·rintro i w ⟨rfl,hi,eO⟩;refine aj (aj (ah (ae rfl rfl (ae rfl rfl (Rg.k3 aC rfl rfl (bz (v':= .int .i64 (s.length:Int)) (by simp[ByteArray.size]) (b4 rfl rfl rfl (ad ?_))))))));refine bH rfl (fun c2=>?_) (fun c2=>?_)
  ·refine aS (aj (aY (aj (ah (ae rfl rfl (ae rfl rfl (Rg.CF (c:=s.getD i 0) aC rfl rfl rfl (by omega) (by rw[aw];exact pE (by omega)) (b4 rfl rfl rfl (ae rfl rfl ?_)))))))));refine aJ (g:=14) rfl (fun Wt=>?_) (fun Wt=>?_)
   ·refine aq rfl rfl rfl rfl (aq rfl rfl rfl rfl (aq rfl rfl rfl rfl (aq rfl rfl rfl rfl (aR rfl rfl rfl (ad (lT rfl (aj (ah (ai rfl rfl (ad (aL ?_)))))))))))
    have hx:s.all fS=false:=dX.2 fun h=>by
     have h2:=ep.1 h _ (aI (pE (s:=s) (i:=i) (by omega)));simp only[fS,decide_eq_true_eq]at h2;omega
    exact aO rfl rfl ⟨by rw[eS,hx,Bool.and_false],rfl⟩
   ·refine al rfl rfl (ae rfl rfl (al rfl rfl (ae rfl rfl (al rfl rfl (Rg.CF (c:=s.getD i 0) aC rfl rfl rfl (by omega) (by rw[aw];exact pE (by omega)) (al rfl rfl (mL rfl rfl rfl (az rfl rfl rfl (ad ?_)))))))));refine bH rfl (fun c4=>?_) (fun c4=>?_)
    ·refine aj (ah (ai rfl rfl (ad (aL ?_))))
     have hx:s.all fS=false:=dX.2 fun h=>by
      have h2:=ep.1 h _ (aI (pE (s:=s) (i:=i) (by omega)));simp only[fS,decide_eq_true_eq]at h2;omega
     exact aO rfl rfl ⟨by rw[eS,hx,Bool.and_false],rfl⟩
    ·refine aS (ah (ae rfl rfl (bu rfl rfl rfl (by omega) (ai rfl rfl (ad ?_)))));refine⟨rfl,i+1,(.cons rfl (.cons rfl .nil)),?_,?_⟩
     ·exact⟨rfl,by omega,fun k c h hc=>by
       rcases cU k i with h2|h2
       ·exact eO k c h2 hc
       ·obtain rfl:k=i:=by omega
        rw[pE (by omega)]at hc;cases hc;simp only[fS,decide_eq_true_eq];omega⟩
     ·omega
  ·refine cG (aj (ah (ae rfl rfl (Rg.k3 aC rfl rfl (bz (v':= .int .i64 (s.length:Int)) (by simp[ByteArray.size]) (dz rfl rfl rfl (ae rfl rfl ?_)))))));refine aJ (g:=23) rfl (fun mR=>?_) (fun mR=>?_)
   ·refine al rfl rfl (ae rfl rfl (al rfl rfl (Rg.k3 aC rfl rfl (bz (v':= .int .i64 (s.length:Int)) (by simp[ByteArray.size]) (al rfl rfl (eV rfl rfl rfl (aR rfl rfl rfl (ai rfl rfl (ad (aL ?_))))))))));have ha:s.all fS=true:=FM fun k c hc=>eO k c (by have:=(av.1 hc).1;omega) hc
    first
    |exact aO rfl rfl ⟨by rw[eS,ha,iz];exact congrArg Value.bool (decide_eq_decide.2 (by omega)),rfl⟩
    |exact aO rfl rfl ⟨by rw[eS,ha,iz];exact congrArg Value.bool (decide_eq_false (by omega)).symm,rfl⟩
   ·refine aq rfl rfl rfl rfl (aq rfl rfl rfl rfl (aq rfl rfl rfl rfl (az rfl rfl rfl (ai rfl rfl (ad (aL ?_))))));have ha:s.all fS=true:=FM fun k c hc=>eO k c (by have:=(av.1 hc).1;omega) hc
    first
    |exact aO rfl rfl ⟨by rw[eS,ha,iz];exact congrArg Value.bool (decide_eq_decide.2 (by omega)),rfl⟩
    |exact aO rfl rfl ⟨by rw[eS,ha,iz];exact congrArg Value.bool (decide_eq_false (by omega)).symm,rfl⟩
theorem DO {M:aB} {o:Fd} {v0:Value} (w0:World) (hM:Lt M w0) (hv:RT.fd.V M w0 o v0) {nm:List UInt8} {t:Value} {bf:Nat} (g:w0.heap[bf]? =some (.cells #[.string ⟨nm.toArray⟩,t] 127 (0,0))) (wa:M bf):
  Spec Tryz.prog 153 #[v0,.pointer (some ⟨bf,0,none⟩)] w0 (fun v w=>v= .bool (decide (o.1=nm))∧Step M w0 M w aA):=by
 refine aZ (args:=[_,_]) (fn:=Tryz.f153) Tryz.func153 rfl (n:=9) Tryz.ntmps153 ?_;have S:Step M w0 M w0 aA:=(an _ _).ca (fun _ h=>h.elim) (fun _ h=>h.elim);refine aj (ah ?_);refine Rg.jr (A:=RT.fd) rfl rfl hM hv rfl (fun u0 w1 cv s0 _=>?_);have:=ak g;replace wa:=(s0.mem _ this).2 wa;replace g:=s0.aM g;replace hM:=s0.lt hM;have:=S.size;replace S:=S.ax s0;refine ai rfl rfl (ad (aj (ah ?_)));refine aF (M:=M) (A:=RT.fd) (B:=RT.str) bQ rfl rfl I9 (by decide) (Jb) rfl rfl (by decide) (by assumption) (by repeat (first|exact ao _ _|refine aT (bj (by assumption)) ?_)) (fun uP jI=>?_);refine bY (M:=M) aC rfl rfl rfl rfl rfl jI (ao _ _) (fun v1 k7=>?_);obtain rfl:=eD k7;refine aV (o':=0) bQ rfl rfl I9 (by decide) rfl rfl (aH aC rfl rfl rfl (by assumption) rfl (Rg.vG (p:=o.1) (q:=nm) rfl rfl rfl (ai rfl rfl (ad (aL ?_)))));exact aO rfl rfl ⟨rfl,S⟩
theorem Bs {M:aB} {fs:List Fd} {v0:Value} (w0:World) (hM:Lt M w0) (hv:(RT.fd.sl).V M w0 fs v0) {nm:List UInt8} {t:Value} {bf:Nat} (g:w0.heap[bf]? =some (.cells #[.string ⟨nm.toArray⟩,t] 127 (0,0))) (wa:M bf):
  Spec Tryz.prog 194 #[v0,.func (.func 153) #[] #[.pointer (some ⟨bf,0,none⟩)]] w0 (fun v w=>(∃k:Int,v= .int .i64 k∧(0≤k↔(fs.any fun g=>decide (g.1=nm))=true)∧ -1≤k∧k≤9223372036854775807)∧Step M w0 M w aA):=by
 have Cx:=ei hv;refine aZ (args:=[_,_]) (fn:=Tryz.f194) Tryz.func194 rfl (n:=19) Tryz.ntmps194 ?_;have S:Step M w0 M w0 aA:=(an _ _).ca (fun _ h=>h.elim) (fun _ h=>h.elim);refine aj (ah (ai rfl rfl (ad (aj (aj (ah (ae rfl rfl (bM aP rfl hv rfl (ae rfl rfl (ad (aY ?_)))))))))));refine dr (σ:=Nat) (fun i=>[(0,v0),(1,.func (.func 153) #[] #[.pointer (some ⟨bf,0,none⟩)]),(6,v0),(7,.int .i64 (fs.length:Int)),(8,.int .i64 (i:Int))]) (fun i w=>Lt M w∧Step M w0 M w aA∧(w.heap[bf]? =some (.cells #[.string ⟨nm.toArray⟩,t] 127 (0,0)))∧(RT.fd.sl).V M w fs v0∧i≤fs.length∧∀k o,k<i→fs[k]? =some o→o.1≠nm) (fun i=>fs.length-i) 0 (.cons rfl (.cons rfl (.cons rfl (.cons rfl (.cons rfl .nil))))) ?_ ?_
 ·exact⟨hM,S,g,hv,bB _,fun k c h=>absurd h (jK k)⟩
 ·rintro i w ⟨hM,S,g,hv,hi,eO⟩;refine aj (ah (b4 rfl rfl rfl (ad (aj ?_))));refine bH rfl (fun c2=>?_) (fun c2=>?_)
  ·refine aS (aj (aY (aj (ah (ae rfl rfl (ai rfl rfl (ad (aj (ah (ae rfl rfl (ae rfl rfl ?_)))))))))));refine ae rfl rfl ?_;refine cK (M:=M) aP gQ rfl rfl rfl hv (ao _ _) (by omega) (fun u4 o Bg vY=>?_);refine b5 (M:=M) (A:=RT.fd) bQ rfl gQ (by decide) rfl rfl rfl vY (ao _ _) (fun v4 qq=>?_);rw[aw]at Bg;refine Rg.o9 (first:=[]) (captured:=[.pointer (some ⟨bf,0,none⟩)]) rfl rfl rfl Vj (DO _ hM qq g wa) (fun r5 w5 hc=>?_);obtain⟨rfl,s5⟩:=hc;have:=ak g;replace wa:=(s5.mem _ this).2 wa;replace g:=s5.aM g;replace hv:=hv.le s5.le;replace hM:=s5.lt hM;have:=S.size;replace S:=S.ax s5;refine ad ?_;refine bH rfl (fun c4=>?_) (fun c4=>?_)
   ·refine aj (ah (ae rfl rfl (ai rfl rfl (ad (aL ?_)))));exact aO rfl rfl ⟨⟨_,rfl,⟨fun _=>p9.2 ⟨o,aI Bg,by simpa using(by assumption)⟩,fun _=>by omega⟩,by omega,by omega⟩,S.back⟩
   ·refine aS (ah (bu rfl rfl rfl (by omega) (ae rfl rfl (ad ?_))));refine⟨rfl,i+1,(.cons rfl (.cons rfl (.cons rfl (.cons rfl (.cons rfl .nil))))),?_,?_⟩
    ·exact⟨hM,S,g,hv,by omega,fun k o' h hc=>by
      rcases cU k i with h2|h2
      ·exact eO k o' h2 hc
      ·obtain rfl:k=i:=by omega
       rw[Bg]at hc;cases hc;assumption⟩
    ·omega
  ·refine cG (aj (ah (ai rfl rfl (ad (aL ?_)))))
   exact aO rfl rfl ⟨⟨-1,rfl,⟨fun h=>by omega,fun h=>by
    obtain⟨o,ho,he⟩:=p9.1 h;obtain⟨k,hk⟩:=bF.1 ho;exact absurd (by simpa using he) (eO k o (by have:=(av.1 hk).1;omega) hk)⟩,by omega,by omega⟩,S.back⟩
theorem zp {M:aB} {fs:List Fd} {v0:Value} (w0:World) (hM:Lt M w0) (hv:(RT.fd.sl).V M w0 fs v0) {nm:List UInt8} {t:Value} {bf:Nat} (g:w0.heap[bf]? =some (.cells #[.string ⟨nm.toArray⟩,t] 127 (0,0))) (wa:M bf):
  Spec Tryz.prog 152 #[v0,.func (.func 153) #[] #[.pointer (some ⟨bf,0,none⟩)]] w0 (fun v w=>v= .bool (fs.any fun g=>decide (g.1=nm))∧Step M w0 M w aA):=by
 refine aZ (args:=[_,_]) (fn:=Tryz.f152) Tryz.func152 rfl (n:=9) Tryz.ntmps152 ?_;have S:Step M w0 M w0 aA:=(an _ _).ca (fun _ h=>h.elim) (fun _ h=>h.elim);refine aj (ah (ai rfl rfl (ad (aj (ah (ae rfl rfl (ae rfl rfl ?_)))))));refine aQ rfl rfl Vt (Bs _ hM hv g wa) (fun r1 w1 hc=>?_);obtain⟨⟨k,rfl,hk,_⟩,s1⟩:=hc;have:=ak g;replace wa:=(s1.mem _ this).2 wa;replace g:=s1.aM g;replace hv:=hv.le s1.le;replace hM:=s1.lt hM;have:=S.size;replace S:=S.ax s1;refine dz rfl rfl rfl (ai rfl rfl (ad (aL ?_)));exact aO rfl rfl ⟨congrArg Value.bool (by rw[Bool.eq_iff_iff,decide_eq_true_eq];exact hk),S⟩
theorem FN {M:aB} {d:Dc} {v0:Value} (w0:World) (hM:Lt M w0) (hv:RT.dc.V M w0 d v0) (hl:∀f∈d.2,f.1.length≤900000∧f.2.length≤900000):
  Spec Tryz.prog 107 #[v0] w0 (fun v w=>v= .int .i64 (kI d)∧Step M w0 M w aA):=by
 have iL:=hM;refine aZ (args:=[_]) (fn:=Tryz.f107) Tryz.func107 rfl (n:=49) Tryz.ntmps107 ?_;have S:Step M w0 M w0 aA:=(an _ _).ca (fun _ h=>h.elim) (fun _ h=>h.elim);refine aj (ah ?_);refine Rg.jr (A:=RT.dc) rfl rfl hM hv rfl (fun u0 w1 cv s0 _=>?_);replace hM:=s0.lt hM;have:=S.size;replace S:=S.ax s0;refine ai rfl rfl (ad (aj (aj (ah ?_))));refine aF (M:=M) (A:=RT.dc) (B:=(RT.fd).sl) aK rfl rfl o3 (by decide) (AW) rfl rfl (by decide) (by assumption) (by repeat (first|exact ao _ _|refine aT (bj (by assumption)) ?_)) (fun uP jI=>?_);refine bY (M:=M) aP rfl rfl rfl rfl rfl (by assumption) (by repeat (first|exact ao _ _|refine aT (bj (by assumption)) ?_)) (fun uQ kQ=>?_);refine bM aP rfl kQ rfl (mL rfl rfl rfl (ad ?_));refine bH rfl (fun c1=>?_) (fun c1=>?_)
 ·refine aj (ah (ai rfl rfl (ad (aL ?_))));exact aO rfl rfl ⟨by rw[kI,if_pos (by omega)],S.back⟩
 ·refine aS (aj (ah (ai rfl rfl (ad (aj (aj (ah ?_)))))));refine aF (M:=M) (A:=RT.dc) (B:=(RT.fd).sl) aK rfl rfl o3 (by decide) (AW) rfl rfl (by decide) (by assumption) (by repeat (first|exact ao _ _|refine aT (bj (by assumption)) ?_)) (fun MG CO=>?_);refine bY (M:=M) aP rfl rfl rfl rfl rfl (by assumption) (by repeat (first|exact ao _ _|refine aT (bj (by assumption)) ?_)) (fun MH FO=>?_);refine bM aP rfl FO rfl (ae rfl rfl (ad (aY ?_)));refine dr (σ:=Nat×Nat) (fun q=>[(1,u0),(3,.int .i64 (q.2:Int)),(13,MH),(14,.int .i64 (d.2.length:Int)),(15,.int .i64 (q.1:Int))]) (fun q w=>∃M',Lt M' w∧Step M w0 M' w aA∧cp RT.dc M' w u0 d∧(RT.fd.sl).V M' w d.2 MH∧kI d=tw (d.2.take q.1) (d.2.drop q.1) q.2∧q.1≤d.2.length∧q.2≤900001*q.1) (fun q=>d.2.length-q.1) (0,0) (.cons rfl (.cons rfl (.cons rfl (.cons rfl (.cons rfl .nil))))) ?_ ?_
  ·exact⟨M,hM,S,cv,FO,by rw[kI,if_neg (by omega)];rfl,bB _,a7 _⟩
  ·rintro⟨i,n⟩ w ⟨M1,hM,S,cv,mB,Bt,hi,hn⟩;dsimp only at Bt hi hn ⊢;refine aj (ah (b4 rfl rfl rfl (ad (aj ?_))));refine bH rfl (fun c5=>?_) (fun c5=>?_)
   ·refine aS (aj (aY (aj (ah (ae rfl rfl ?_)))));refine cK (M:=M1) aP gQ rfl rfl rfl mB (ao _ _) (by omega) (fun u6 x EA MA=>?_);refine b5 (M:=M1) (A:=RT.fd) bQ rfl gQ (by decide) rfl rfl rfl MA (ao _ _) (fun v6 ot=>?_);rw[aw]at EA;obtain rfl:=kh ot;have iK:=CN (n:=n) EA;have vL:=hl _ (aI EA);refine fh M1 gQ rfl (fun MI QO aee aef mR uR=>?_);obtain⟨zq,FP⟩:∃M',M'=ins M1 MI:=⟨_,rfl⟩;rw[←FP]at uR;have ki:zq MI:=by rw[FP];exact .inl rfl
    change QO.heap[MI]? =some (.cells #[.string ⟨#[]⟩,.string ⟨#[]⟩] _ _)at mR;replace cv:=cv.le (by decide) uR.le;replace mB:=mB.le uR.le;replace hM:=uR.lt hM;have:=S.size;replace S:=S.ax uR;refine ai rfl rfl ?_;refine fo (M:=zq) (vs:=[.string ⟨x.1.toArray⟩,.string ⟨x.2.toArray⟩]) gQ rfl rfl (by intro u hu;simp at hu;rcases hu with rfl|rfl<;>rfl) rfl rfl mR ki (fun w6 g6 s6=>?_);have:=ak mR;replace ki:=(s6.mem _ this).2 ki;replace cv:=cv.le (by decide) s6.le;replace mB:=mB.le s6.le;replace hM:=s6.lt hM;have:=S.size;replace S:=S.trans s6 (fun k hk h=>by have h:_=_:=h;subst h;first|(exfalso;omega)|(show _≤_;omega)|exact⟨by first|omega|assumption,(S.mem _ hk).1 ((s6.mem _ (ak mR)).1 ki)⟩|exact .inl rfl|exact .inr rfl|exact .inr (.inl rfl)|exact .inr (.inr rfl)|exact rfl);have KK:=g6;clear mR;have mR:=KK;clear KK;refine ad (aj (ah (aV (o':=1) bQ rfl rfl I9 (by decide) rfl rfl (aH aC rfl rfl rfl (by assumption) rfl ?_))));refine aQ rfl rfl Vg (DL _ hM vL.2) (fun r7 w7 hc=>?_);obtain⟨⟨u7,rfl,hu7⟩,s7⟩:=hc;have:=ak mR;replace ki:=(s7.mem _ this).2 ki;replace mR:=s7.aM mR;replace cv:=cv.le (by decide) s7.le;replace mB:=mB.le s7.le;replace hM:=s7.lt hM;have:=S.size;replace S:=S.ax s7;refine ae rfl rfl (bU rfl rfl rfl (bU rfl rfl rfl (ai rfl rfl (ai rfl rfl (ad (aj (aY (aj (ah (aV (o':=0) bQ rfl rfl I9 (by decide) rfl rfl (aH aC rfl rfl rfl (by assumption) rfl ?_)))))))))));refine aQ rfl rfl Vh (DN x.1 (by omega) _) (fun r8 w8 hc=>?_);obtain⟨rfl,s8_⟩:=hc;have s8:=s8_ zq;have:=ak mR;replace ki:=(s8.mem _ this).2 ki;replace mR:=s8.aM mR;replace cv:=cv.le (by decide) s8.le;replace mB:=mB.le s8.le;replace hM:=s8.lt hM;have:=S.size;replace S:=S.ax s8
    refine rq rfl rfl (bz (v':= .bool (decide (eS x.1=false))) (by cases eS x.1<;>rfl) (ai rfl rfl (ad ?_)));refine bH rfl (fun c8=>?_) (fun c8=>?_)
    ·refine aj (ah (ai rfl rfl (ad (aL ?_))));exact aO rfl rfl ⟨by rw[Bt,iK,if_pos (by assumption)],S.back⟩
    ·refine aj (ah ?_);refine aF (M:=zq) (A:=RT.dc) (B:=(RT.fd).sl) aK rfl rfl o3 (by decide) (AW) rfl rfl (by decide) (by assumption) (by repeat (first|exact ao _ _|refine aT (bj (by assumption)) ?_)) (fun QP MJ=>?_);refine bY (M:=zq) aP rfl rfl rfl rfl rfl (by assumption) (by repeat (first|exact ao _ _|refine aT (bj (by assumption)) ?_)) (fun QQ FQ=>?_);refine ae rfl rfl ?_;refine Rg.Is aP gQ rfl rfl rfl FQ (by omega) (fun QR Jd=>?_);rw[aw]at Jd;refine iw (xs:=[]) (ys:=[.tmp 5]) rfl rfl rfl ?_;refine aQ rfl rfl Vi (zp _ hM Jd mR ki) (fun r10 Wu hc=>?_);obtain⟨rfl,p8⟩:=hc;have:=ak mR;replace ki:=(p8.mem _ this).2 ki;replace mR:=p8.aM mR;replace cv:=cv.le (by decide) p8.le;replace mB:=mB.le p8.le;replace hM:=p8.lt hM;have:=S.size;replace S:=S.ax p8;refine ai rfl rfl (bz (v':= .bool (decide (((d.2.take i).any fun g=>decide (g.1=x.1))=true))) (by cases((d.2.take i).any fun g=>decide (g.1=x.1))<;>rfl) (ad ?_));refine bH rfl (fun Mm=>?_) (fun Mm=>?_)
     ·refine aj (ah (ai rfl rfl (ad (aL ?_))));exact aO rfl rfl ⟨by rw[Bt,iK,if_neg (by assumption),if_pos (by assumption)],S.back⟩
     ·refine aj (ah (ae rfl rfl (eW rfl rfl rfl (ai rfl rfl (ad ?_)))));refine bH rfl (fun Qs=>?_) (fun Qs=>?_)
      ·refine aj (ah (ae rfl rfl (ai rfl rfl (ad (aL ?_)))));exact aO rfl rfl ⟨by rw[Bt,iK,if_neg (by assumption),if_neg (by assumption),if_pos (by assumption)];rfl,S.back⟩
      ·refine aS (ah (ae rfl rfl ?_));have QS:kg 0 (words x.2)=0:=Classical.not_not.1 Qs;obtain⟨a,cap,rfl⟩:=hu7 QS;have Wv:=lH x.2;refine ae rfl rfl (Rg.xC Tryz.underlying222 rfl rfl (bu rfl rfl rfl (by omega) (ai rfl rfl (ad (ah (bu rfl rfl rfl (by omega) (ae rfl rfl (ad ?_))))))));refine⟨rfl,(i+1,n+(words x.2).length),(.cons rfl (.cons rfl (.cons rfl (.cons rfl (.cons rfl .nil))))),?_,?_⟩
       ·exact⟨_,hM,S,cv,mB,by rw[Bt,iK,if_neg (by assumption),if_neg (by assumption),if_neg Qs],by dsimp only;omega,by dsimp only;omega⟩
       ·dsimp only;omega
   ·refine cG (aj (aj (ah (ae rfl rfl (mL rfl rfl rfl (ad ?_))))));refine bH rfl (fun O3=>?_) (fun O3=>?_)
    ·refine aj (ah (ai rfl rfl (ad (aL ?_))));exact aO rfl rfl ⟨by rw[Bt,pF (by omega),if_pos (by omega)],S.back⟩
    ·refine aS (aj (ah (ai rfl rfl (ad (aL ?_)))));exact aO rfl rfl ⟨by rw[Bt,pF (by omega),if_neg (by omega)],S.back⟩
end Go.K

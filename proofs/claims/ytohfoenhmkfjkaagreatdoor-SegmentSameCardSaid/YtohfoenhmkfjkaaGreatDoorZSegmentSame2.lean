/- What the law 'SegmentSame' needs of walks and plain Lean, part 2: nothing is assumed beyond the texts that it imports. -/
import Derived.ChangeKeysEq
import Derived.Ground.Names2Prog
import Derived.KernelRfl
import Derived.Laws.IdiomCopy
import Derived.Laws.MakeOwn
import Derived.Laws.StructEq
import Derived.Lib.RuneBytes
import Derived.Lib.SliceRun
import Derived.Maps.OwnSet
import Derived.Shelf.SlGeneric
import Derived.Shelf.Slices.SearchI
import Derived.Shelf.Small.Strs
import Derived.Shelf.Small.Utf8
import Derived.Shelf.Strings.Builder1
import Derived.Shelf.Strings.BuilderRune
import Derived.Shelf.Strings.SlTrimAscii
import Derived.Test.YtohfoenhmkfjkaaGreatDoorProg
import Derived.Test.YtohfoenhmkfjkaaGreatDoorZSegmentSame1
set_option linter.unusedVariables false
set_option linter.unusedSimpArgs false
theorem ad:type_of% @Go.K.Rg.nil:=@Go.K.Rg.nil
theorem ae:type_of% @Go.K.Rg.move:=@Go.K.Rg.move
theorem ah:type_of% @Go.K.Rg.assign:=@Go.K.Rg.assign
theorem aj:type_of% @Go.K.T.region:=@Go.K.T.region
theorem ak:type_of% @Go.K.T.seq:=@Go.K.T.seq
theorem an:type_of% @Go.K.Rg.aG:=@Go.K.Rg.aG
theorem ao:type_of% @Go.K.Le.refl:=@Go.K.Le.refl
theorem aq:type_of% @Go.K.Rg.bB:=@Go.K.Rg.bB
theorem ar:type_of% @Go.K.Step.refl:=@Go.K.Step.refl
theorem au:type_of% @Go.Proofs.Tryz.underlying32:=@Go.Proofs.Tryz.underlying32
theorem av:type_of% @List.getElem?_eq_some_iff:=@List.getElem?_eq_some_iff
theorem ax:type_of% @Go.K.Rg.fieldAddr:=@Go.K.Rg.fieldAddr
theorem ay:type_of% @Go.Proofs.Tryz.underlying3:=@Go.Proofs.Tryz.underlying3
theorem aA:type_of% @Go.Proofs.Tryz.underlying9:=@Go.Proofs.Tryz.underlying9
theorem aB:type_of% @Int.toNat_natCast:=@Int.toNat_natCast
theorem aC:type_of% @Go.Proofs.Tryz.underlying55:=@Go.Proofs.Tryz.underlying55
theorem aE:type_of% @Go.K.Rg.bj:=@Go.K.Rg.bj
theorem aF:type_of% @List.getElem?_eq_getElem:=@List.getElem?_eq_getElem
theorem aH:type_of% @List.mem_of_getElem?:=@List.mem_of_getElem?
theorem aJ:type_of% @Go.Proofs.Tryz.underlying41:=@Go.Proofs.Tryz.underlying41
theorem aK:type_of% @List.take_of_length_le:=@List.take_of_length_le
theorem aL:type_of% @Go.K.Rg.bg:=@Go.K.Rg.bg
theorem aM:type_of% @Go.K.T.ret:=@Go.K.T.ret
theorem aO:type_of% @Go.Proofs.Tryz.underlying39:=@Go.Proofs.Tryz.underlying39
theorem aP:type_of% @Go.K.Rg.bN:=@Go.K.Rg.bN
theorem aQ:type_of% @Option.some.inj:=@Option.some.inj
theorem aR:type_of% @Go.Proofs.Tryz.underlying107:=@Go.Proofs.Tryz.underlying107
theorem aT:type_of% @Go.K.Rg.call:=@Go.K.Rg.call
theorem aU:type_of% @Go.K.T.skip:=@Go.K.T.skip
theorem aV:type_of% @Go.K.Le.trans:=@Go.K.Le.trans
theorem aW:type_of% @Go.K.T.block:=@Go.K.T.block
theorem aX:type_of% @Go.K.Rg.bW:=@Go.K.Rg.bW
theorem aY:type_of% @Go.K.cy.cons:=@Go.K.cy.cons
theorem a8:type_of% @Nat.le_refl:=@Nat.le_refl
theorem bc:type_of% @List.take_add_one:=@List.take_add_one
theorem bm:type_of% @Go.Proofs.Tryz.underlying153:=@Go.Proofs.Tryz.underlying153
theorem br:type_of% @Go.K.Step.le:=@Go.K.Step.le
theorem bu:type_of% @Go.K.cg.cons:=@Go.K.cg.cons
theorem bw:type_of% @Go.K.Rg.load:=@Go.K.Rg.load
theorem bz:type_of% @Go.K.Rg.cn:=@Go.K.Rg.cn
theorem bA:type_of% @Go.Proofs.Tryz.underlying47:=@Go.Proofs.Tryz.underlying47
theorem bC:type_of% @Nat.zero_le:=@Nat.zero_le
theorem bD:type_of% @Go.Proofs.Tryz.underlying147:=@Go.Proofs.Tryz.underlying147
theorem bE:type_of% @Go.K.Rg.cW:=@Go.K.Rg.cW
theorem bF:type_of% @List.length_take:=@List.length_take
theorem bG:type_of% @Go.Proofs.Tryz.underlying98:=@Go.Proofs.Tryz.underlying98
theorem bH:type_of% @Go.K.Rg.cd:=@Go.K.Rg.cd
theorem bI:type_of% @Go.K.Rg.eqv:=@Go.K.Rg.eqv
theorem bK:type_of% @Go.K.T.dv:=@Go.K.T.dv
theorem bL:type_of% @Go.Proofs.Tryz.underlying58:=@Go.Proofs.Tryz.underlying58
theorem bO:type_of% @List.length_append:=@List.length_append
theorem bQ:type_of% @Go.Proofs.Tryz.underlying127:=@Go.Proofs.Tryz.underlying127
theorem bR:type_of% @Go.K.Rg.extract:=@Go.K.Rg.extract
theorem bS:type_of% @Go.Proofs.Tryz.underlying56:=@Go.Proofs.Tryz.underlying56
theorem bT:type_of% @List.mem_iff_getElem?:=@List.mem_iff_getElem?
theorem bU:type_of% @Bool.and_eq_true:=@Bool.and_eq_true
theorem bX:type_of% @List.mem_cons_self:=@List.mem_cons_self
theorem bY:type_of% @Option.toList_some:=@Option.toList_some
theorem bZ:type_of% @Go.K.Rg.nilCheck:=@Go.K.Rg.nilCheck
theorem b4:type_of% @Go.K.Rg.cI:=@Go.K.Rg.cI
theorem b5:type_of% @Decidable.not_not:=@Decidable.not_not
theorem b7:type_of% @Go.K.Rg.cL:=@Go.K.Rg.cL
theorem b8:type_of% @Go.Proofs.Tryz.underlying62:=@Go.Proofs.Tryz.underlying62
theorem cb:type_of% @Go.K.Rg.idx:=@Go.K.Rg.idx
theorem ch:type_of% @Go.K.Rg.append:=@Go.K.Rg.append
theorem cj:type_of% @Go.K.Rg.fW:=@Go.K.Rg.fW
theorem ck:type_of% @Go.K.Rg.dT:=@Go.K.Rg.dT
theorem cq:type_of% @List.mem_map:=@List.mem_map
theorem cr:type_of% @Go.Sem.run_bind:=@Go.Sem.run_bind
theorem cu:type_of% @Go.K.Rg.dg:=@Go.K.Rg.dg
theorem cv:type_of% @List.mem_cons_of_mem:=@List.mem_cons_of_mem
theorem cw:type_of% @Go.Proofs.Tryz.underlying5:=@Go.Proofs.Tryz.underlying5
theorem cx:type_of% @List.length_map:=@List.length_map
theorem cA:type_of% @Go.Proofs.Tryz.underlying43:=@Go.Proofs.Tryz.underlying43
theorem cD:type_of% @List.mem_singleton:=@List.mem_singleton
theorem cK:type_of% @Go.K.T.exit:=@Go.K.T.exit
theorem cM:type_of% @List.length_cons:=@List.length_cons
theorem cP:type_of% @List.length_drop:=@List.length_drop
theorem cQ:type_of% @Go.K.Step.aN:=@Go.K.Step.aN
theorem cU:type_of% @Array.getElem?_setIfInBounds:=@Array.getElem?_setIfInBounds
theorem cV:type_of% @Go.Result.andThen_ok:=@Go.Result.andThen_ok
theorem cX:type_of% @Go.K.T.loop:=@Go.K.T.loop
theorem cY:type_of% @List.mem_append:=@List.mem_append
theorem cZ:type_of% @Go.Proofs.Tryz.underlying37:=@Go.Proofs.Tryz.underlying37
theorem dm:type_of% @List.drop_eq_getElem_cons:=@List.drop_eq_getElem_cons
theorem dn:type_of% @Go.Proofs.Tryz.underlying169:=@Go.Proofs.Tryz.underlying169
theorem dr:type_of% @Go.K.iL.nil:=@Go.K.iL.nil
theorem du:type_of% @List.pairwise_map:=@List.pairwise_map
theorem dw:type_of% @Go.K.Own.nil:=@Go.K.Own.nil
theorem dx:type_of% @Go.K.Rg.dq:=@Go.K.Rg.dq
theorem dz:type_of% @Go.Proofs.Tryz.underlying188:=@Go.Proofs.Tryz.underlying188
theorem dA:type_of% @Go.Proofs.Tryz.underlying193:=@Go.Proofs.Tryz.underlying193
theorem dF:type_of% @List.map_append:=@List.map_append
theorem dG:type_of% @List.take_succ_eq_append_getElem:=@List.take_succ_eq_append_getElem
theorem dJ:type_of% @Go.Proofs.Tryz.underlying191:=@Go.Proofs.Tryz.underlying191
theorem dL:type_of% @Go.K.Rg.alloc:=@Go.K.Rg.alloc
theorem dN:type_of% @Go.K.Rg.kM:=@Go.K.Rg.kM
theorem dP:type_of% @List.mem_cons:=@List.mem_cons
theorem dQ:type_of% @Go.K.Rg.kN:=@Go.K.Rg.kN
theorem dS:type_of% @Go.K.bJ.load:=@Go.K.bJ.load
theorem dV:type_of% @Go.Proofs.Tryz.underlying129:=@Go.Proofs.Tryz.underlying129
theorem dW:type_of% @Go.K.Rg.kU:=@Go.K.Rg.kU
theorem ef:type_of% @Bool.eq_false_iff:=@Bool.eq_false_iff
theorem eg:type_of% @List.getElem?_set:=@List.getElem?_set
theorem ei:type_of% @Eq.symm:=@Eq.symm
theorem ek:type_of% @List.getD_eq_getElem?_getD:=@List.getD_eq_getElem?_getD
theorem eo:type_of% @List.getElem?_take:=@List.getElem?_take
theorem eu:type_of% @List.nil_append:=@List.nil_append
theorem ew:type_of% @List.all_eq_true:=@List.all_eq_true
theorem ez:type_of% @List.mem_map_of_mem:=@List.mem_map_of_mem
theorem eJ:type_of% @Nat.le_trans:=@Nat.le_trans
theorem eM:type_of% @Go.K.Rg.build:=@Go.K.Rg.build
theorem eV:type_of% @Go.K.eZ.all:=@Go.K.eZ.all
theorem eX:type_of% @Go.K.Rg.eB:=@Go.K.Rg.eB
theorem eY:type_of% @Go.Proofs.Tryz.underlying123:=@Go.Proofs.Tryz.underlying123
theorem fh:type_of% @Go.K.Rg.nr:=@Go.K.Rg.nr
theorem fm:type_of% @Bool.true_and:=@Bool.true_and
theorem fv:type_of% @List.append_assoc:=@List.append_assoc
theorem fw:type_of% @Nat.lt_or_ge:=@Nat.lt_or_ge
theorem fy:type_of% @Go.K.bJ.move:=@Go.K.bJ.move
theorem fz:type_of% @List.drop_eq_nil_of_le:=@List.drop_eq_nil_of_le
theorem fI:type_of% @Option.map_some:=@Option.map_some
theorem fK:type_of% @Go.Proofs.Tryz.underlying25:=@Go.Proofs.Tryz.underlying25
theorem fV:type_of% @Go.K.bJ.field:=@Go.K.bJ.field
theorem fY:type_of% @Go.K.dO.refl:=@Go.K.dO.refl
theorem ga:type_of% @Go.Proofs.Tryz.underlying167:=@Go.Proofs.Tryz.underlying167
theorem gg:type_of% @Go.Proofs.Tryz.underlying125:=@Go.Proofs.Tryz.underlying125
theorem gr:type_of% @List.length_eq_zero_iff:=@List.length_eq_zero_iff
theorem gN:type_of% @List.map_cons:=@List.map_cons
theorem hU:type_of% @List.pairwise_cons:=@List.pairwise_cons
theorem ic:type_of% @Go.K.Rg.j6:=@Go.K.Rg.j6
theorem ie:type_of% @Go.K.Rg.gB:=@Go.K.Rg.gB
theorem ig:type_of% @Go.K.Own.close:=@Go.K.Own.close
theorem ij:type_of% @List.getElem?_eq_none:=@List.getElem?_eq_none
theorem ik:type_of% @List.contains_iff_mem:=@List.contains_iff_mem
theorem iv:type_of% @Go.K.Part.snd:=@Go.K.Part.snd
theorem iw:type_of% @Go.Proofs.Tryz.underlying0:=@Go.Proofs.Tryz.underlying0
theorem ix:type_of% @Go.Proofs.Tryz.underlying190:=@Go.Proofs.Tryz.underlying190
theorem iy:type_of% @Go.Proofs.Tryz.underlying195:=@Go.Proofs.Tryz.underlying195
theorem iC:type_of% @List.length_nil:=@List.length_nil
theorem iG:type_of% @Go.IntWalk.i64_in:=@Go.IntWalk.i64_in
theorem iV:type_of% @Go.K.T.iff:=@Go.K.T.iff
theorem je:type_of% @List.cons_append:=@List.cons_append
theorem jf:type_of% @Go.Proofs.Tryz.zeroValue0:=@Go.Proofs.Tryz.zeroValue0
theorem jg:type_of% @Go.Proofs.Tryz.zeroValue3:=@Go.Proofs.Tryz.zeroValue3
theorem jh:type_of% @Go.Proofs.Tryz.zeroValue9:=@Go.Proofs.Tryz.zeroValue9
theorem jx:type_of% @Go.K.Rg.not:=@Go.K.Rg.not
theorem jH:type_of% @Go.K.T.oF:=@Go.K.T.oF
theorem jI:type_of% @List.drop_of_length_le:=@List.drop_of_length_le
theorem jJ:type_of% @Go.K.pb.nil:=@Go.K.pb.nil
theorem jK:type_of% @Go.K.T.gE:=@Go.K.T.gE
theorem jS:type_of% @Go.Proofs.Tryz.underlying4:=@Go.Proofs.Tryz.underlying4
theorem jT:type_of% @List.append_nil:=@List.append_nil
theorem j4:type_of% @Go.Proofs.Tryz.underlying227:=@Go.Proofs.Tryz.underlying227
theorem kK:type_of% @List.foldl_append:=@List.foldl_append
theorem kL:type_of% @List.ext_getElem?:=@List.ext_getElem?
theorem la:type_of% @Prod.ext:=@Prod.ext
theorem lf:type_of% @List.mem_append_left:=@List.mem_append_left
theorem lg:type_of% @List.mem_of_mem_take:=@List.mem_of_mem_take
theorem lD:type_of% @Go.K.Rg.makeFunc:=@Go.K.Rg.makeFunc
theorem lF:type_of% @Go.K.Rg.uU:=@Go.K.Rg.uU
theorem lY:type_of% @List.take_succ_cons:=@List.take_succ_cons
theorem lZ:type_of% @List.length_pos_iff:=@List.length_pos_iff
theorem mW:type_of% @Nat.lt_irrefl:=@Nat.lt_irrefl
theorem ni:type_of% @Option.map_none:=@Option.map_none
theorem np:type_of% @Nat.eq_or_lt_of_le:=@Nat.eq_or_lt_of_le
theorem nX:type_of% @List.filter_cons_of_pos:=@List.filter_cons_of_pos
theorem om:type_of% @Go.K.Part.fst:=@Go.K.Part.fst
theorem oW:type_of% @Go.Proofs.Tryz.sizeOf0:=@Go.Proofs.Tryz.sizeOf0
theorem oX:type_of% @Go.Proofs.Tryz.sizeOf3:=@Go.Proofs.Tryz.sizeOf3
theorem oY:type_of% @Go.Proofs.Tryz.sizeOf9:=@Go.Proofs.Tryz.sizeOf9
theorem oZ:type_of% @Nat.lt_trichotomy:=@Nat.lt_trichotomy
theorem o0:type_of% @Bool.not_eq_true':=@Bool.not_eq_true'
theorem o2:type_of% @List.getElem?_map:=@List.getElem?_map
theorem pG:type_of% @Go.Proofs.Tryz.zeroValue4:=@Go.Proofs.Tryz.zeroValue4
theorem qp:type_of% @List.getElem?_toArray:=@List.getElem?_toArray
theorem qq:type_of% @Array.getElem?_modify:=@Array.getElem?_modify
theorem qx:type_of% @List.take_length:=@List.take_length
theorem qy:type_of% @List.any_eq_true:=@List.any_eq_true
theorem rl:type_of% @Go.Proofs.Tryz.underlying26:=@Go.Proofs.Tryz.underlying26
theorem rT:type_of% @Go.K.Rg.yo:=@Go.K.Rg.yo
theorem sm:type_of% @Go.K.Rg.kj:=@Go.K.Rg.kj
theorem sH:type_of% @Go.Proofs.Tryz.isAgg0:=@Go.Proofs.Tryz.isAgg0
theorem sI:type_of% @Go.Proofs.Tryz.isAgg3:=@Go.Proofs.Tryz.isAgg3
theorem sJ:type_of% @Go.Proofs.Tryz.isAgg9:=@Go.Proofs.Tryz.isAgg9
theorem sK:type_of% @Nat.not_lt_zero:=@Nat.not_lt_zero
theorem uQ:type_of% @Int.toNat_of_nonneg:=@Int.toNat_of_nonneg
theorem uR:type_of% @List.getD_cons_zero:=@List.getD_cons_zero
theorem uT:type_of% @List.getD_cons_succ:=@List.getD_cons_succ
theorem vh:type_of% @Go.K.Rg.conv:=@Go.K.Rg.conv
theorem vq:type_of% @Go.K.T.kZ:=@Go.K.T.kZ
theorem vr:type_of% @List.map_map:=@List.map_map
namespace Go.K
def put (n:Nat):List UInt8:=if n<128 then[UInt8.ofNat n]else UInt8.ofNat (128+n%128)::put (n/128)
termination_by n
decreasing_by omega
theorem tg {n:Nat} (h:n<128):put n=[UInt8.ofNat n]:=by rw[put,if_pos h]
theorem AQ {n:Nat} (h:128≤n):put n=UInt8.ofNat (128+n%128)::put (n/128):=by rw[put,if_neg (by omega)]
theorem HZ (n:Nat):0<(put n).length:=by rw[put];split<;>simp
theorem H0 {k:Nat}:∀{n:Nat},n<128^(k+1)→(put n).length≤k+1:=by
 induction k with
 |zero=>intro n h;rw[tg (by simpa using h)];simp
 |succ k ih=>
  intro n h;by_cases h1:n<128
  ·rw[tg h1];simp
  ·rw[AQ (by omega)];have:=ih (n:=n/128) (by rw[Nat.pow_succ]at h;omega);simp;omega
theorem jD {n:Nat} (h:n≤9223372036854775807):(put n).length≤9:=H0 (k:=8) (by omega)
def lL:List UInt8→Nat→Nat→Option (Nat×Nat)
 |[],_,_=>none
 |c::cs,i,n=>if c.toNat<128 then(if c.toNat=0∧0<i then none else some (n+c.toNat%128*128^i,i+1))else lL cs (i+1) (n+c.toNat%128*128^i)
def get (b:List UInt8) (at_:Int):Int×Int×Int:=
 if at_<0∨(b.length:Int)<at_ then(0,0,1)
 else match lL ((b.drop at_.toNat).take 9) 0 0 with
  |some (n,k)=>(n,at_+k,0)
  |none=>(0,0,2)
theorem lM {bs:List UInt8} {k:Nat} {c:UInt8} (h:bs[k]? =some c) (n:Nat):lL (bs.drop k) k n=
  if c.toNat<128 then(if c.toNat=0∧0<k then none else some (n+c.toNat%128*128^k,k+1))else lL (bs.drop (k+1)) (k+1) (n+c.toNat%128*128^k):=by
 obtain⟨dD,he⟩:=av.1 h;rw[dm dD,lL,he]
theorem K4 (b:List UInt8) (i:Nat):(b.take (min b.length (i+9))).drop i=(b.drop i).take 9:=by
 rw[List.drop_take,List.take_eq_take_iff];simp;omega
def val:List UInt8→Nat
 |[]=>0
 |c::cs=>c.toNat%128+128*val cs
def eG:Int→List Int→Bool
 |_,[]=>true
 |last,x::l=>decide (last<x)&&eG x l
def jV:Int→List Int→List UInt8
 |_,[]=>[]
 |last,x::l=>put (x-last-1).toNat++jV x l
def dM (l:List Int):List UInt8:=put l.length++jV (-1) l
def JE:Int→List Int→List Int
 |_,[]=>[]
 |last,x::l=>let m:=if x<0 then-(x+1)else x;(last+1+m%1000)::JE (last+1+m%1000) l
def good (l:List Int) (most:Nat):List Int:=JE (-1) (l.take most)
theorem qJ {b:List UInt8} {at_:Int} (h:(get b at_).2.2=0):0≤at_∧at_<(get b at_).2.1∧(get b at_).2.1≤b.length∧0≤(get b at_).1∧(get b at_).1<9223372036854775808:=by
 unfold get at h ⊢
 split at h
 ·simp at h
 rename_i hr
 rw[if_neg hr]at*
 have key:∀(bs:List UInt8) (i n m k:Nat),lL bs i n=some (m,k)→bs.length+i≤9→n<128^i→i<k∧k≤i+bs.length∧m<128^k:=by
  intro bs
  induction bs with
  |nil=>intro i n m k h;simp[lL]at h
  |cons c cs ih=>
   intro i n m k h hl hn
   have hd:n+c.toNat%128*128^i<128^(i+1):=by
    have:=Nat.mul_le_mul_right (128^i) (show c.toNat%128≤127 from by omega);rw[Nat.pow_succ];omega
   simp only[lL]at h
   split at h
   ·split at h
    ·cases h
    ·cases h;exact⟨by omega,by simp,hd⟩
   ·obtain⟨h1,h2,h3⟩:=ih (i+1) _ m k h (by simp at hl;omega) hd;exact⟨by omega,by simp;omega,h3⟩
 cases hg:lL ((b.drop at_.toNat).take 9) 0 0 with
 |none=>simp[hg]at h
 |some p=>
  obtain⟨m,k⟩:=p;have hlen:((b.drop at_.toNat).take 9).length≤9∧((b.drop at_.toNat).take 9).length≤b.length-at_.toNat:=by rw[bF,cP];omega
  obtain⟨h1,h2,h3⟩:=key _ 0 0 m k hg (by omega) (by decide);have hp:128^k≤128^9:=Nat.pow_le_pow_right (by decide) (by omega);simp only;omega
def fZ (b:List UInt8):Nat→Int→Int→Int×List Int×Int
 |0,at_,_=>(0,[],at_)
 |k+1,at_,last=>
  if(get b at_).2.2≠0 then((get b at_).2.2,[],0)
  else if 4611686018427387904-last-1<(get b at_).1 then(2,[],0)
  else if(fZ b k (get b at_).2.1 (last+1+(get b at_).1)).1≠0 then((fZ b k (get b at_).2.1 (last+1+(get b at_).1)).1,[],0)
  else(0,(last+1+(get b at_).1)::(fZ b k (get b at_).2.1 (last+1+(get b at_).1)).2.1,(fZ b k (get b at_).2.1 (last+1+(get b at_).1)).2.2)
def fB (b:List UInt8) (at_:Int):Int×List Int×Int:=
 if(get b at_).2.2≠0 then((get b at_).2.2,[],0)else fZ b (get b at_).1.toNat (get b at_).2.1 (-1)
theorem fa {l:List Int} {k:Nat} {x:Int} (h:l[k]? =some x) (last:Int):eG last (l.drop k)=(decide (last<x)&&eG x (l.drop (k+1))):=by
 obtain⟨dD,he⟩:=av.1 h;rw[dm dD,eG,he]
theorem CZ {l:List Int} {k:Nat} {x:Int} (h:l[k]? =some x) (last:Int):jV last (l.drop k)=put (x-last-1).toNat++jV x (l.drop (k+1)):=by
 obtain⟨dD,he⟩:=av.1 h;rw[dm dD,jV,he]
theorem th:∀(l:List Int) (last:Int),-1≤last→(∀x∈l,x≤9223372036854775807)→eG last l=true→(jV last l).length≤9*l.length
 |[],_,_,_,_=>by simp[jV]
 |x::l,last,h1,h2,h3=>by
  simp only[eG,bU,decide_eq_true_eq]at h3;have hx:=h2 x (bX ..);have h4:=th l x (by omega) (fun y hy=>h2 y (cv _ hy)) h3.2;have h5:=jD (n:=(x-last-1).toNat) (by omega);simp only[jV,bO,cM];omega
theorem ti (b:List UInt8) (a last:Int):fZ b 0 a last=(0,[],a):=rfl
theorem pg {b:List UInt8} {k:Nat} {a last:Int} (h:(get b a).2.2≠0):fZ b (k+1) a last=((get b a).2.2,[],0):=by rw[fZ,if_pos h]
theorem qK {b:List UInt8} {k:Nat} {a last:Int} (h:(get b a).2.2=0) (h2:4611686018427387904-last-1<(get b a).1):fZ b (k+1) a last=(2,[],0):=by
 rw[fZ,if_neg (by simpa using h),if_pos h2]
theorem tj {b:List UInt8} {k:Nat} {a last:Int} (h:(get b a).2.2=0) (h2: ¬4611686018427387904-last-1<(get b a).1):fZ b (k+1) a last=
  if(fZ b k (get b a).2.1 (last+1+(get b a).1)).1≠0 then((fZ b k (get b a).2.1 (last+1+(get b a).1)).1,[],0)
  else(0,(last+1+(get b a).1)::(fZ b k (get b a).2.1 (last+1+(get b a).1)).2.1,(fZ b k (get b a).2.1 (last+1+(get b a).1)).2.2):=by
 rw[fZ,if_neg (by simpa using h),if_neg h2]
def andThen (acc:List Int) (r:Int×List Int×Int):Int×List Int×Int:=if r.1≠0 then(r.1,[],0)else(0,acc++r.2.1,r.2.2)
theorem l7 {b:List UInt8} {k:Nat} {a last:Int} (acc:List Int) (h:(get b a).2.2=0) (h2: ¬4611686018427387904-last-1<(get b a).1):
  andThen acc (fZ b (k+1) a last)=andThen (acc++[last+1+(get b a).1]) (fZ b k (get b a).2.1 (last+1+(get b a).1)):=by
 rw[tj h h2];unfold andThen;by_cases h3:(fZ b k (get b a).2.1 (last+1+(get b a).1)).1=0<;>simp[h3]
theorem yS (r:Int×List Int×Int) (h:r.1≠0→r.2=([],0)):andThen [] r=r:=by
 unfold andThen;by_cases h3:r.1=0
 ·rw[if_neg (by simpa using h3)];ext<;>simp[h3]
 ·rw[if_pos h3,←h h3]
theorem C0 (b:List UInt8):∀(k:Nat) (a last:Int),(fZ b k a last).1≠0→(fZ b k a last).2=([],0)
 |0,a,last,h=>by simp[fZ]at h
 |k+1,a,last,h=>by
  rw[fZ]at h ⊢
  split
  ·rfl
  ·rename_i h1;rw[if_neg h1]at h
   split
   ·rfl
   ·rename_i h2;rw[if_neg h2]at h
    split
    ·rfl
    ·rename_i h3;rw[if_neg h3]at h;simp at h
theorem l8 (b:List UInt8) (a:Int):0≤(get b a).1∧0≤(get b a).2.2∧(get b a).2.2≤2∧((get b a).2.2≠0→(get b a).1=0∧(get b a).2.1=0):=by
 unfold get
 split
 ·simp
 ·split<;>simp<;>omega
theorem wG (b:List UInt8) (a:Int):(get b a).1≤9223372036854775807:=by
 by_cases h:(get b a).2.2=0
 ·have:=qJ h;omega
 ·have:=(l8 b a).2.2.2 h;omega
theorem EB:∀(k m i acc:Nat) (post:List UInt8),m<128^(k+1)→(0<i→m≠0)→lL ((put m++post).take (k+1)) i acc=some (acc+m*128^i,i+(put m).length):=by
 intro k
 induction k with
 |zero=>
  intro m i acc post h h0;have hm:m<128:=by simpa using h
  have e:(UInt8.ofNat m).toNat=m:=by rw[UInt8.toNat_ofNat'];omega
  rw[tg hm];simp only[je,eu,lY,lL,e];rw[if_pos hm,if_neg (by omega),Nat.mod_eq_of_lt hm];rfl
 |succ k ih=>
  intro m i acc post h h0;by_cases hm:m<128
  ·have e:(UInt8.ofNat m).toNat=m:=by rw[UInt8.toNat_ofNat'];omega
   rw[tg hm];simp only[je,eu,lY,lL,e];rw[if_pos hm,if_neg (by omega),Nat.mod_eq_of_lt hm];rfl
  ·have e:(UInt8.ofNat (128+m%128)).toNat=128+m%128:=by rw[UInt8.toNat_ofNat'];omega
   rw[AQ (by omega)];simp only[je,lY,lL,e];rw[if_neg (by omega),ih (m/128) (i+1) _ post (by rw[Nat.pow_succ]at h;omega) (by omega)];have h2:(128+m%128)%128=m%128:=by omega
   rw[h2,Nat.pow_succ];congr 2
   ·have h3:m=m%128+128*(m/128):=by omega
    have h4:m*128^i=(m%128)*128^i+(m/128)*(128^i*128):=by
     conv=>lhs;rw[h3]
     rw[Nat.add_mul,Nat.mul_comm 128 (m/128),Nat.mul_assoc,Nat.mul_comm 128 (128^i)]
    omega
   ·simp;omega
theorem xH (pre post:List UInt8) {n:Nat} (hn:n≤9223372036854775807):get (pre++put n++post) pre.length=((n:Int),((pre.length+(put n).length:Nat):Int),0):=by
 unfold get;rw[if_neg (by simp;omega)]
 have h1:((pre++put n++post).drop (pre.length:Int).toNat).take 9=(put n++post).take (8+1):=by
  rw[aB,fv,List.drop_left]
 rw[h1,EB 8 n 0 0 post (by omega) (by omega)];simp
theorem wH:∀(l:List Int) (pre post:List UInt8) (last:Int),-1≤last→eG last l=true→(∀x∈l,x≤4611686018427387904)→
  fZ (pre++jV last l++post) l.length pre.length last=(0,l,((pre.length+(jV last l).length:Nat):Int))
 |[],pre,post,last,_,_,_=>by simp[jV,fZ]
 |x::l,pre,post,last,h1,h2,h3=>by
  simp only[eG,bU,decide_eq_true_eq]at h2;have hx:=h3 x (bX ..);have e0:pre++jV last (x::l)++post=pre++put (x-last-1).toNat++(jV x l++post):=by simp[jV]
  have e1:=xH pre (jV x l++post) (n:=(x-last-1).toNat) (by omega);have e2:pre++put (x-last-1).toNat++(jV x l++post)=(pre++put (x-last-1).toNat)++jV x l++post:=by simp
  have ih:=wH l (pre++put (x-last-1).toNat) post x (by omega) h2.2 (fun y hy=>h3 y (cv _ hy));rw[e0,cM,tj (by rw[e1]) (by rw[e1];simp only;omega),e1];simp only;have e3:last+1+(((x-last-1).toNat:Nat):Int)=x:=by omega
  rw[e3,e2,show((pre.length+(put (x-last-1).toNat).length:Nat):Int)=((pre++put (x-last-1).toNat).length:Int)from by simp,ih];simp[jV];omega
theorem vC (pre post:List UInt8) {l:List Int} (hr:eG (-1) l=true) (h3:∀x∈l,x≤4611686018427387904) (hl:l.length≤9223372036854775807):
  fB (pre++dM l++post) pre.length=(0,l,((pre.length+(dM l).length:Nat):Int)):=by
 have e0:pre++dM l++post=pre++put l.length++(jV (-1) l++post):=by simp[dM]
 have e1:=xH pre (jV (-1) l++post) (n:=l.length) hl;have e2:pre++put l.length++(jV (-1) l++post)=(pre++put l.length)++jV (-1) l++post:=by simp
 unfold fB;rw[e0,e1,if_neg (by simp)];simp only;have:=wH l (pre++put l.length) post (-1) (by omega) hr h3;rw[e2,show((pre.length+(put l.length).length:Nat):Int)=((pre++put l.length).length:Int)from by simp,aB,this];simp[dM];omega
end Go.K
namespace Go.K
abbrev Po:=Int×List Int
abbrev Bl:=Int×Int×Int×Int
abbrev Li:=List UInt8×List Bl×Int
abbrev RT.po:RT Po:=RT.pair (RT.int .i64) ((RT.int .i64).sl)
abbrev RT.bl:RT Bl:=RT.pair (RT.int .i64) (RT.pair (RT.int .i64) (RT.pair (RT.int .i64) (RT.int .i64)))
abbrev RT.li:RT Li:=RT.pair (RT.u8.sl) (RT.pair ((RT.bl).sl) (RT.int .i64))
theorem B6:Part RT.po (RT.int .i64) (fun p=>p.1) 0:=om _ _
theorem H2:Part RT.po ((RT.int .i64).sl) (fun p=>p.2) 1:=iv _ _
theorem bl0:Part RT.bl (RT.int .i64) (fun b=>b.1) 0:=om _ _
theorem bl1:Part RT.bl (RT.int .i64) (fun b=>b.2.1) 1:=(iv _ _).trans (om _ _)
theorem bl3:Part RT.bl (RT.int .i64) (fun b=>b.2.2.2) 3:=(iv _ _).trans ((iv _ _).trans (iv _ _))
theorem li0:Part RT.li (RT.u8.sl) (fun x=>x.1) 0:=om _ _
theorem Tk:Part RT.li ((RT.bl).sl) (fun x=>x.2.1) 1:=(iv _ _).trans (om _ _)
def Oc (n:Nat) (k:Int):Bool:=decide (0≤k∧k<n)
def ph (bs:List Bl):Int:=(bs.map fun b=>b.2.2.2).sum
theorem wI (bs:List Bl) (b:Bl):ph (bs++[b])=ph bs+b.2.2.2:=by simp[ph]
theorem C1 {bs:List Bl} {k:Nat} {b:Bl} (h:bs[k]? =some b):ph (bs.take (k+1))=ph (bs.take k)+b.2.2.2:=by
 obtain⟨h1,h2⟩:=av.1 h;rw[dG h1,h2,wI]
theorem H3 (bs:List Bl) (h:∀b∈bs,0≤b.2.2.2∧b.2.2.2≤8):0≤ph bs∧ph bs≤8*bs.length:=by
 induction bs with
 |nil=>simp[ph]
 |cons b bs ih=>
  have:=ih fun c hc=>h c (cv _ hc)
  have h0:=h b (bX ..);simp only[ph,gN,List.sum_cons,cM]at this ⊢;omega
def dy:Int→List Po→List UInt8
 |_,[]=>[]
 |last,(d,ps)::l=>put (d-last-1).toNat++dM ps++dy d l
def cO:Int→List Po→Int
 |last,[]=>last
 |_,(d,_)::l=>cO d l
def gG (l:List Po):Int:=(l.map fun p=>(p.2.length:Int)).sum
theorem pQ (l l':List Po) (last:Int):dy last (l++l')=dy last l++dy (cO last l) l':=by
 induction l generalizing last with
 |nil=>rfl
 |cons p l ih=>obtain⟨d,ps⟩:=p;simp[dy,cO,ih]
theorem pR (l l':List Po):gG (l++l')=gG l+gG l':=by simp[gG]
def oJ (l:List Po) (k:Nat):Bl:=((dy (-1) (l.take (8*k))).length,cO (-1) (l.take (8*k)),cO (-1) (l.take (8*k+8)),((l.drop (8*k)).take 8).length)
def ll (l:List Po) (m:Nat):List Bl:=(List.range m).map (oJ l)
def kP (l:List Po):Li:=(dy (-1) l,ll l ((l.length+7)/8),gG l)
def l9 (l:List Int):Bool:=eG (-1) l&&l.all (fun n=>decide (n<2147483648))
def eR:Int→List Po→Bool
 |_,[]=>true
 |last,(d,ps)::l=>decide (last<d)&&decide (d<2147483648)&& !ps.isEmpty&&l9 ps&&eR d l
theorem xI:∀{l:List Po} {i:Nat} {last d:Int} {ps:List Int},eR last l=true→l[i]? =some (d,ps)→
  cO last (l.take i)<d∧d<2147483648∧ps≠[]∧l9 ps=true∧cO last (l.take (i+1))=d∧last≤cO last (l.take i)
 |[],i,_,_,_,_,h=>by simp at h
 |(d0,p0)::l,0,last,d,ps,hm,h=>by
  simp only[List.getElem?_cons_zero,Option.some.injEq,Prod.mk.injEq]at h;obtain⟨rfl,rfl⟩:=h;simp only[eR,bU,decide_eq_true_eq]at hm;obtain⟨⟨⟨⟨h1,h2⟩,h3⟩,h4⟩,h5⟩:=hm;refine⟨h1,h2,?_,h4,by simp[cO],by simp[cO]⟩;rintro rfl;simp at h3
 |(d0,p0)::l,i+1,last,d,ps,hm,h=>by
  simp only[eR,bU,decide_eq_true_eq]at hm;obtain⟨⟨⟨⟨h1,h2⟩,h3⟩,h4⟩,h5⟩:=hm;obtain⟨a1,a2,a3,a4,a5,a6⟩:=xI (i:=i) h5 (by simpa using h);refine⟨by simpa[cO]using a1,a2,a3,a4,by simpa[cO]using a5,?_⟩;simp only[lY,cO];omega
theorem tn {l:List Po} {i:Nat} {d:Int} {ps:List Int} (last:Int) (h:l[i]? =some (d,ps)):
  dy last (l.take (i+1))=dy last (l.take i)++put (d-cO last (l.take i)-1).toNat++dM ps:=by
 obtain⟨h1,h2⟩:=av.1 h;rw[dG h1,h2,pQ];simp[dy]
theorem nw {l:List Po} {i:Nat} (last:Int):dy last l=dy last (l.take i)++dy (cO last (l.take i)) (l.drop i):=by
 conv=>lhs;rw[←List.take_append_drop i l]
 exact pQ _ _ _
theorem ma {l:List Int}:l9 l=true↔eG (-1) l=true∧∀x∈l,x<2147483648:=by
 simp[l9]
def oK (b:List UInt8) (at_ ahead:Int):Po×Int×Int:=
 if(get b at_).2.2≠0 then((0,[]),0,(get b at_).2.2)
 else((IntKind.i64.wrap (IntKind.i64.wrap (ahead+1)+(get b at_).1),(fB b (get b at_).2.1).2.1),(fB b (get b at_).2.1).2.2,(fB b (get b at_).2.1).1)
theorem EC {l:List Po} {i:Nat} {d:Int} {ps:List Int} (hm:eR (-1) l=true) (h:l[i]? =some (d,ps)) (hl:ps.length≤1099511627776):
  oK (dy (-1) l) (((dy (-1) (l.take i)).length:Nat):Int) (cO (-1) (l.take i))=((d,ps),(((dy (-1) (l.take (i+1))).length:Nat):Int),0):=by
 obtain⟨h1,h2,h3,h4,h5,h6⟩:=xI hm h;obtain⟨h7,h8⟩:=ma.1 h4;have e1:=nw (l:=l) (i:=i+1) (-1);have e2:=tn (-1) h;generalize K5:cO (-1) (l.take i)=last at h1 h6 e2 ⊢;generalize CN:dy (-1) (l.take i)=pre at e2 ⊢;generalize dy (cO (-1) (l.take (i+1))) (l.drop (i+1))=post at e1;rw[e2]at e1 ⊢;have g1:=xH pre (dM ps++post) (n:=(d-last-1).toNat) (by omega);have g2:=vC (pre++put (d-last-1).toNat) post h7 (fun x hx=>by have:=h8 x hx;omega) (by omega);rw[show pre++put (d-last-1).toNat++(dM ps++post)=dy (-1) l from by rw[e1];simp]at g1;rw[←e1]at g2;unfold oK;rw[g1];simp only[ne_eq,not_true_eq_false,if_false];have yv:((pre.length+(put (d-last-1).toNat).length:Nat):Int)=((pre++put (d-last-1).toNat).length:Int):=by simp
 rw[yv,g2];refine la (la ?_ rfl) (la ?_ rfl)
 ·simp only;rw[iG (last+1) (by omega),iG _ (by omega)];omega
 ·simp;omega
theorem ny {l:List Int} {k:Nat} {x:Int} (p:Int→Bool) (h:l[k]? =some x):(l.drop k).all p=(p x&&(l.drop (k+1)).all p):=by
 obtain⟨h1,h2⟩:=av.1 h;rw[dm h1,h2,List.all_cons]
theorem kn {l:List Po} {k:Nat} {d:Int} {ps:List Int} (h:l[k]? =some (d,ps)) (last:Int):
  eR last (l.drop k)=(decide (last<d)&&decide (d<2147483648)&& !ps.isEmpty&&l9 ps&&eR d (l.drop (k+1))):=by
 obtain⟨h1,h2⟩:=av.1 h;rw[dm h1,h2,eR]
theorem tp {l:List Po} {i:Nat} {d:Int} {ps:List Int} (h:l[i]? =some (d,ps)):gG (l.take (i+1))=gG (l.take i)+ps.length:=by
 obtain⟨h1,h2⟩:=av.1 h;rw[dG h1,h2,pR];simp[gG]
theorem mc (l:List Po):0≤gG l:=by
 induction l with
 |nil=>simp[gG]
 |cons p l ih=>simp only[gG,gN,List.sum_cons]at ih ⊢;omega
theorem yT (l:List Po) (i:Nat):0≤gG (l.take i)∧gG (l.take i)≤gG l:=by
 refine⟨mc _,?_⟩
 conv=>rhs;rw[←List.take_append_drop i l,pR]
 have:=mc (l.drop i);omega
theorem lp (l:List Po) (i:Nat):(dy (-1) (l.take i)).length≤(dy (-1) l).length:=by
 rw[nw (l:=l) (i:=i) (-1)];simp
theorem wJ (l:List Po) (k:Nat):ll l (k+1)=ll l k++[oJ l k]:=by simp[ll,List.range_succ]
theorem pj:∀(l:List Po) (last:Int),eR last l=true→last<2147483648→∀n:Nat,last≤cO last (l.take n)∧cO last (l.take n)<2147483648
 |[],last,_,h,n=>by simp[cO];exact h
 |(d,ps)::l,last,hm,h,0=>by simp[cO];exact h
 |(d,ps)::l,last,hm,h,n+1=>by
  simp only[eR,bU,decide_eq_true_eq]at hm;obtain⟨⟨⟨⟨h1,h2⟩,h3⟩,h4⟩,h5⟩:=hm;have:=pj l d h5 h2 n;simp only[lY,cO];omega
theorem UC {M:aI} {w:World} {a b c d:Int} (ha: -9223372036854775808≤a∧a≤9223372036854775807) (hb: -9223372036854775808≤b∧b≤9223372036854775807) (hc: -9223372036854775808≤c∧c≤9223372036854775807) (hd: -9223372036854775808≤d∧d≤9223372036854775807):
  RT.bl.V M w (a,b,c,d) (.agg [.int .i64 a,.int .i64 b,.int .i64 c,.int .i64 d].toArray):=
 ⟨_,⟨[.int .i64 a],[.int .i64 b,.int .i64 c,.int .i64 d],rfl,⟨rfl,ha⟩,[.int .i64 b],[.int .i64 c,.int .i64 d],rfl,⟨rfl,hb⟩,[.int .i64 c],[.int .i64 d],rfl,⟨rfl,hc⟩,⟨rfl,hd⟩⟩,rfl⟩
theorem Pb {M:aI} {w:World} {bx:Nat} {b:List UInt8} {ks:List Bl} {tot:Int} {vb vk:Value} {e:TypeId} {fr:Nat×Nat} (hx:w.heap[bx]? =some (.cells #[vb,vk,.int .i64 tot] e fr)) (hm: ¬M bx) (hb:(RT.u8.sl).V M w b vb) (hk:((RT.bl).sl).V M w ks vk) (ht: -9223372036854775808≤tot∧tot≤9223372036854775807):
  cf RT.li M w (.pointer (some ⟨bx,0,none⟩)) (b,ks,tot):=
 ⟨bx,0,[vb,vk,.int .i64 tot],rfl,hm,⟨[vb],[vk,.int .i64 tot],rfl,km hb rfl rfl,[vk],[.int .i64 tot],rfl,km hk rfl rfl,⟨rfl,ht⟩⟩,fun j v hj=>gQ hx (by simpa using hj)⟩
theorem ED {l:List Po} {i:Nat} (h8:i%8=0) (hi:i<l.length):ll l ((i+7)/8)++[(((dy (-1) (l.take i)).length:Int),cO (-1) (l.take i),cO (-1) (l.take (min (i+8) l.length)),(((l.drop i).take 8).length:Int))]=ll l ((min (i+8) l.length+7)/8):=by
 rw[show(min (i+8) l.length+7)/8=(i+7)/8+1 from by omega,wJ];have e:8*((i+7)/8)=i:=by omega
 have e2:l.take (i+8)=l.take (min (i+8) l.length):=by rw[List.take_eq_take_iff];omega
 simp only[oJ,e,e2]
theorem wK (l:List Po):∀m:Nat,ph (ll l m)=((min (8*m) l.length:Nat):Int)
 |0=>by simp[ph,ll]
 |m+1=>by
  rw[wJ,wI,wK l m];simp only[oJ,bF,cP];omega
theorem C2 (l:List Po) (m:Nat):∀b∈ll l m,0≤b.2.2.2∧b.2.2.2≤8:=fun b hb=>by
 simp only[ll,cq]at hb;obtain⟨k,_,rfl⟩:=hb;simp only[oJ,bF,cP];omega
end Go.K
namespace Go.K
section
variable {P:Program} {r:Option Nat} {n:Nat} {L:Sl} {ds:List Deferred} {w:World} {K:Kt} {ops:Array Oper} {rest:List Oper} {d:Nat} {x y:Operand} {ty:TypeId} {pos:String} {af:Array Edge}
theorem Rg.pS {t t' e:TypeId} {p:Option Addr} (ht:P.underlying t=some (.pointer e)) (hx:ev L x=some (.pointer p)) (hy:ev L y=some (.pointer none)) (hd:Nat.blt d n=true)
  (k:Rg P r n ops rest ((d,.bool (decide (p=none)))::L) ds w K):
  Rg P r n ops ({dst:=some d,op:= .binOp .eql t x y t',type:=ty,pos,after:=af,guard:=none}::rest) L ds w K:=
 .op (fun _ h=>by cases h) rfl rfl hd _ w (fun ρ h=>by
  have UD:P.underlying t=some (.pointer (P.pointee t)):=by simp[Program.pointee,ht]
  have he:=run_equal_pointer_nil (P:=P) w t p UD;simp only[execOp];rw[h x _ hx,h y _ hy]
  cases p<;>simp[eqGuard,binOp,run_underlying ht,he]) k
end
end Go.K
namespace Go.K
theorem EE {M:aI} {w:World} {d:Int} {ps:List Int} {v:Value} (h:RT.po.V M w (d,ps) v):∃u,v= .agg #[.int .i64 d,u]∧u.oneCell'=true∧(-9223372036854775808≤d∧d≤9223372036854775807):=by
 obtain⟨vs,⟨va,vb,rfl,⟨rfl,hd⟩,hb⟩,rfl⟩:=h;obtain⟨a,cap,rfl,_⟩:=hb;exact⟨_,rfl,rfl,hd⟩
end Go.K
namespace Go.K
section
variable {P:Program} {r:Option Nat} {n:Nat} {L:Sl} {ds:List Deferred} {w:World}
theorem tq {fn:Func} {Q:Value→World→Prop} {c t b:Nat} {vs:List Value} {fs:TypeDesc} {e:TypeId} {fr:Nat×Nat} {zv:Value} {size bytes:Nat} (hr:fn.results= #[.cell c t]) (hc:lk L c=some (.pointer (some ⟨b,0,none⟩))) (hu:P.underlying t=some fs) (hf:fs.isRow=true) (hi:TI P t zv size bytes) (hl:vs.length=size)
  (hb:w.heap[b]? =some (.cells vs.toArray e fr)) (h:Q (.agg vs.toArray) w):vv P fn Q .ret L [] w:=
 ⟨rfl,fun a ha=>⟨_,by
  obtain⟨i,wg,_,yq,_⟩:=hi.get;have Ez:w.rangeAt b 0 vs:=fun j v hj=>gQ hb (by simpa using hj)
  have:=run_loadVar_mid (P:=P) w b 0 t vs fs Ez hu hf (by simp[wg,yq,hl]);simp[results,hr,ha _ _ hc,asAddr,this,cr],h⟩⟩
end
end Go.K
namespace Go.K
section
variable {P:Program} {r:Option Nat} {n:Nat} {L:Sl} {ds:List Deferred} {w:World} {K:Kt} {ops:Array Oper} {rest:List Oper} {d:Nat} {x:Operand} {ty:TypeId} {pos:String} {af:Array Edge}
theorem Rg.EF {t e:TypeId} {a:Option Addr} {l c:Nat} (ht:P.underlying t=some (.slice e)) (hx:ev L x=some (.slice a l c)) (hd:Nat.blt d n=true)
  (k:Rg P r n ops rest ((d,.int .i64 (l:Int))::L) ds w K):
  Rg P r n ops ({dst:=some d,op:= .call {callee:= .builtin .len,args:= #[x],argTypes:= #[t]},type:=ty,pos,after:=af,guard:=none}::rest) L ds w K:=by
 refine .op (fun _ h=>by cases h) rfl rfl hd _ w (fun ρ h=>?_) k;simp[execOp,resolve,invoke,builtin,h x _ hx,Builtin.len_,run_underlying ht,goInt]
end
end Go.K
namespace Go.K
open Go.RowKit (Below)
open Go.Maps (Keyed)
open Go.ChangeMaps (putKey delKey notKey)
abbrev DU:=DataW Unit
structure K6 (P:Program) (k:TypeId) (R:Value→Option (DU×List MemPlace)) (M:aI) (w:World) (b:Nat) (m:List (Lit×DU)):Prop where
 mut_:M b
 own:w.ownsMap P k R b m.length (.map m)
section
variable {P:Program} {r:Option Nat} {n:Nat} {L:Sl} {ds:List Deferred} {w:World} {K:Kt} {ops:Array Oper} {rest:List Oper} {d:Nat} {x y z:Operand} {ty:TypeId} {pos:String} {af:Array Edge}
variable {kt:TypeId} {R:Value→Option (DU×List MemPlace)} {M:aI} {b:Nat} {m:List (Lit×DU)}
theorem Step.tt {w w':World} (h:Below w.heap.size w w') (M:aI):Step M w M w' aD:=
 ⟨fun h0 b hb=>Nat.lt_of_lt_of_le (h0 b hb) h.size,h.os,h.tape,h.output,h.size,fun _ _=>Iff.rfl,fun b hb _=>h.block b hb,fun _ h=>h.elim⟩
end
end Go.K
namespace Go.K
def allM:aI:=fun _=>True
theorem Step.all {M M' N:aI} {w w':World} (s:Step M w M' w' N):Step allM w allM w' N:=⟨fun h=>absurd (h w.heap.size trivial) (mW _),s.os,s.tape,s.output,s.size,fun _ _=>Iff.rfl,s.same,fun _ _=>trivial⟩
theorem Step.toAny {M M':aI} {w w':World} (s:Step M w M' w' aD) (M1:aI):Step M1 w M1 w' aD:=s.any M1
theorem eK.int {κ:IntKind} {M M':aI} {w w':World}:∀{xs:List Int} {C:List Value},eK (RT.int κ) M w xs C→eK (RT.int κ) M' w' xs C
 |[],_,h=>h
 |x::xs,C,h=>by
  obtain⟨vs,r,h1,h2,h3⟩:=h;exact⟨vs,r,h1,h2,eK.int h3⟩
theorem Own.H4 {κ:IntKind} {e:TypeId} {M:aI} {w:World} {base:Nat} {v:Value} {xs:List Int} (h:Own (RT.int κ) e M w base v xs) {M':aI} (hm:∀b,v.ownBlock=some b→M' b):Own (RT.int κ) e M' w base v xs:=by
 obtain⟨⟨C,h1,h2⟩,_⟩:=h;exact⟨⟨C,h1,eK.int h2⟩,hm⟩
theorem Own.Pc {κ:IntKind} {e:TypeId} {N:aI} {w w':World} {base:Nat} {v:Value} {xs:List Int} (h:Own (RT.int κ) e allM w base v xs) (s:Step allM w allM w' N) (hn:∀b,v.ownBlock=some b→¬N b):Own (RT.int κ) e allM w' base v xs:=by
 obtain⟨⟨C,h1,h2⟩,_⟩:=h;refine⟨⟨C,⟨h1.1,?_⟩,eK.int h2⟩,fun _ _=>trivial⟩;rcases h1.2 with h3|⟨g,cap,cur,h3,h4,h5,h6,h7,h8⟩
 ·exact .inl h3
 ·exact .inr ⟨g,cap,cur,h3,h4,by rw[s.same g (al h5) (hn g (by rw[h3];rfl))];exact h5,h6,h7,h8⟩
def ov (v:Value):aI:=fun b=>v.ownBlock=some b
theorem Own.lone {κ:IntKind} {e:TypeId} {M:aI} {w:World} {base:Nat} {v:Value} {xs:List Int} (h:Own (RT.int κ) e M w base v xs):Own (RT.int κ) e (ov v) w base v xs:=h.H4 fun _ h=>h
end Go.K
namespace Go.K
def yU (at':Nat→Nat) (cont:Nat→Bool):Nat×Nat:=
 if at' 0<0x80 then(at' 0,1)
 else if at' 0/32==6&&cont 1 then
  if(at' 0%32)*64+at' 1%64≥0x80 then((at' 0%32)*64+at' 1%64,2)else(65533,1)
 else if at' 0/16==14&&cont 1&&cont 2 then
  if(at' 0%16)*4096+(at' 1%64)*64+at' 2%64≥0x800&&Utf8.valid ((at' 0%16)*4096+(at' 1%64)*64+at' 2%64:Nat)then((at' 0%16)*4096+(at' 1%64)*64+at' 2%64,3)else(65533,1)
 else if at' 0/8==30&&cont 1&&cont 2&&cont 3 then
  if(at' 0%8)*262144+(at' 1%64)*4096+(at' 2%64)*64+at' 3%64≥0x10000&&Utf8.valid ((at' 0%8)*262144+(at' 1%64)*4096+(at' 2%64)*64+at' 3%64:Nat)then((at' 0%8)*262144+(at' 1%64)*4096+(at' 2%64)*64+at' 3%64,4)else(65533,1)
 else(65533,1)
theorem C3 (s:ByteArray) (i:Nat):Utf8.decode s i=yU (fun k=>(s.get! (i+k)).toNat) (fun k=>decide (i+k<s.size)&&(s.get! (i+k)).toNat/64==2):=rfl
def iJ (l:List UInt8) (k:Nat):Nat:=(l.getD k 0).toNat
def iE (l:List UInt8) (k:Nat):Bool:=decide (k<l.length)&&iJ l k/64==2
def dec (l:List UInt8):Nat×Nat:=yU (iJ l) (iE l)
theorem C4 (l:List UInt8) (j:Nat):(⟨l.toArray⟩:ByteArray).get! j=l.getD j 0:=by
 show l.toArray[j]! =_;rw[ek,getElem!_def];simp only[qp]
 cases l[j]? <;>rfl
theorem AR (l:List UInt8) (pos:Nat):Utf8.decode ⟨l.toArray⟩ pos=dec (l.drop pos):=by
 rw[C3,dec]
 have h1:(fun k=>((⟨l.toArray⟩:ByteArray).get! (pos+k)).toNat)=iJ (l.drop pos):=by
  funext k;rw[C4,iJ,ek,ek,List.getElem?_drop]
 have h2:(fun k=>decide (pos+k<(⟨l.toArray⟩:ByteArray).size)&&((⟨l.toArray⟩:ByteArray).get! (pos+k)).toNat/64==2)=iE (l.drop pos):=by
  funext k;have:=congrFun h1 k;rw[this,iE,cP];congr 1;have hs:(⟨l.toArray⟩:ByteArray).size=l.length:=by simp[ByteArray.size]
  rw[hs];exact decide_eq_decide.2 (by omega)
 rw[h1,h2]
theorem tu {l:List UInt8} {k:Nat} (h:iE l k=true):k<l.length:=by
 simp only[iE,bU,decide_eq_true_eq]at h;exact h.1
theorem j1 {l:List UInt8} (hl:l≠[]):1≤(dec l).2∧(dec l).2≤l.length:=by
 have h0:0<l.length:=lZ.2 hl;unfold dec yU
 split
 ·exact⟨a8 _,h0⟩
 ·split
  ·rename_i h
   simp only[bU]at h;have:=tu h.2
   split<;>(simp only;omega)
  ·split
   ·rename_i h
    simp only[bU]at h;have:=tu h.2
    split<;>(simp only;omega)
   ·split
    ·rename_i h
     simp only[bU]at h;have:=tu h.2
     split<;>(simp only;omega)
    ·exact⟨a8 _,h0⟩
theorem me (l:List UInt8) (k:Nat):iJ l k<256:=by unfold iJ;exact UInt8.toNat_lt _
theorem qL (l:List UInt8):(dec l).1≤1114111:=by
 unfold dec yU
 split
 ·simp only;omega
 ·split
  ·have:=me l 0
   split<;>(simp only;omega)
  ·split
   ·have:=me l 0
    split<;>(simp only;omega)
   ·split
    ·split
     ·rename_i h
      simp only[bU,Utf8.valid,Bool.or_eq_true,decide_eq_true_eq]at h;simp only;omega
     ·simp only;omega
    ·simp only;omega
def eh (l:List UInt8):List Int:=match l with
 |[]=>[]
 |c::r=>((dec (c::r)).1:Int)::eh ((c::r).drop (dec (c::r)).2)
termination_by l.length
decreasing_by
 have:=(j1 (l:=c::r) (by simp)).1;simp only[cP,cM];omega
theorem n4:eh []=[]:=by unfold eh;rfl
theorem mf {l:List UInt8} (h:l≠[]):eh l=((dec l).1:Int)::eh (l.drop (dec l).2):=by
 cases l with
 |nil=>exact absurd rfl h
 |cons c r=>rw[eh]
theorem gu (l:List UInt8):(eh l).length≤l.length:=by
 induction hn:l.length using Nat.strongRecOn generalizing l with
 |_ n ih=>
  by_cases h:l=[]
  ·subst h;rw[n4];simp
  ·rw[mf h,cM];have hw:=j1 h;have:=ih _ (by rw[cP];omega) (l.drop (dec l).2) rfl;rw[cP]at this;omega
section
variable {P:Program} {r:Option Nat} {n:Nat} {L:Sl} {ds:List Deferred} {w:World} {K:Kt} {ops:Array Oper} {rest:List Oper} {d:Nat} {x:Operand} {ty:TypeId} {pos:String} {af:Array Edge}
theorem Rg.EG {t:TypeId} {l:List UInt8} (M:aI) (ht:P.underlying t=some .string) (hx:ev L x=some (.string ⟨l.toArray⟩)) (hd:Nat.blt d n=true)
  (k:∀b w',w.heap.size≤b→b<w'.heap.size→w'.heap[b]? =some (.stringIter ⟨l.toArray⟩ 0)→Step M w (ins M b) w' aD→Rg P r n ops rest ((d,.pointer (some ⟨b,0,none⟩))::L) ds w' K):
  Rg P r n ops ({dst:=some d,op:= .range t x,type:=ty,pos,after:=af,guard:=none}::rest) L ds w K:=by
 refine .op (fun _ h=>by cases h) rfl rfl hd (.pointer (some ⟨w.heap.size,0,none⟩)) (w.alloc (.stringIter ⟨l.toArray⟩ 0)) (fun ρ hρ=>?_) (k w.heap.size _ (a8 _) (by simp) (cz w _) ((db M w _).own (a8 _) (by simp)));simp only[execOp,hρ x _ hx];simp[Instr.range,cr,run_underlying ht,newObj,Sem.run]
theorem gH (M:aI) {b:Nat} {o:Obj} (hm:M b):Step M w M {w with heap:=w.heap.setIfInBounds b o} (fun k=>k=b):=
 ⟨fun h b hb=>by simpa using h b hb,rfl,rfl,rfl,by simp,fun _ _=>Iff.rfl,fun k _ hn=>by simp[cU,Ne.symm hn],fun k hk=>by subst hk;exact hm⟩
theorem nz {b p:Nat} {s:ByteArray} (hb:w.heap[b]? =some (.stringIter s p)):(getObj b).run P w= .ok (.stringIter s p) w:=by simp[getObj,Sem.run,hb]
theorem Rg.H5 {l:List UInt8} {b p:Nat} {M:aI} (hx:ev L x=some (.pointer (some ⟨b,0,none⟩))) (hb:w.heap[b]? =some (.stringIter ⟨l.toArray⟩ p)) (hm:M b) (hd:Nat.blt d n=true)
  (k1:p<l.length→∀w',w'.heap[b]? =some (.stringIter ⟨l.toArray⟩ (p+(dec (l.drop p)).2))→Step M w M w' (fun k=>k=b)→Rg P r n ops rest ((d,.tuple #[.bool true,.int .i64 p,.int .i32 ((dec (l.drop p)).1:Nat)])::L) ds w' K)
  (k2: ¬p<l.length→Rg P r n ops rest ((d,.tuple #[.bool false])::L) ds w K):
  Rg P r n ops ({dst:=some d,op:= .next x true,type:=ty,pos,after:=af,guard:=none}::rest) L ds w K:=by
 have hs:(⟨l.toArray⟩:ByteArray).size=l.length:=by simp[ByteArray.size]
 have dD:=al hb;by_cases h:p<l.length
 ·have key:=k1 h {w with heap:=w.heap.setIfInBounds b (.stringIter ⟨l.toArray⟩ (p+(dec (l.drop p)).2))} (by simp[cU,dD]) (gH M hm);refine .op (fun _ h=>by cases h) rfl rfl hd _ _ (fun ρ hρ=>?_) key;simp only[execOp,hρ x _ hx,Instr.next,cr,nz hb,cV];rw[if_pos (by rw[hs];exact h)];simp[AR,setObj,Sem.run,goInt,hb]
 ·refine .op (fun _ h=>by cases h) rfl rfl hd _ w (fun ρ hρ=>?_) (k2 h);simp only[execOp,hρ x _ hx,Instr.next,cr,nz hb,cV];rw[if_neg (by rw[hs];exact h)];simp
theorem Rg.B7 {t:TypeId} {i:Operand} {l:List UInt8} {κ:IntKind} {j:Int} {c:UInt8} (ht:P.underlying t=some .string) (hx:ev L x=some (.string ⟨l.toArray⟩)) (hi:ev L i=some (.int κ j)) (hd:Nat.blt d n=true) (hj:0≤j) (hc:l[j.toNat]? =some c)
  (k:Rg P r n ops rest ((d,.int .u8 (c.toNat:Int))::L) ds w K):
  Rg P r n ops ({dst:=some d,op:= .index t x i,type:=ty,pos,after:=af,guard:=none}::rest) L ds w K:=by
 have dD:=(av.1 hc).1;have hs:(⟨l.toArray⟩:ByteArray).size=l.length:=by simp[ByteArray.size]
 have hg:(⟨l.toArray⟩:ByteArray)[j.toNat]? =some c:=by
  rw[getElem?_pos _ _ (by rw[hs];exact dD)];congr 1;have:=(av.1 hc).2;rw[←this];rfl
 refine .op (fun _ h=>by cases h) rfl rfl hd _ w (fun ρ hρ=>?_) k;simp only[execOp,hρ x _ hx,hρ i _ hi,Instr.index,cr,asIntOf,Sem.run_pure,cV,run_underlying ht];simp[hj,hg]
theorem oL (l:List UInt8) (a b:Nat):(⟨l.toArray⟩:ByteArray).extract a b=⟨((l.take b).drop a).toArray⟩:=by
 have:((⟨l.toArray⟩:ByteArray).extract a b).data=((l.take b).drop a).toArray:=by
  rw[ByteArray.data_extract];apply Array.toList_inj.1;rw[Array.toList_extract,List.extract_eq_take_drop,List.drop_take]
 exact congrArg ByteArray.mk this
theorem Rg.H6 {t:TypeId} {i:Operand} {l:List UInt8} {κ:IntKind} {j:Int} (ht:P.underlying t=some .string) (hx:ev L x=some (.string ⟨l.toArray⟩)) (hi:ev L i=some (.int κ j)) (hd:Nat.blt d n=true) (hj:0≤j∧j≤l.length)
  (k:Rg P r n ops rest ((d,.string ⟨(l.drop j.toNat).toArray⟩)::L) ds w K):
  Rg P r n ops ({dst:=some d,op:= .slice t x (some i) none none,type:=ty,pos,after:=af,guard:=none}::rest) L ds w K:=by
 have hs:(⟨l.toArray⟩:ByteArray).size=l.length:=by simp[ByteArray.size]
 refine .op (fun _ h=>by cases h) rfl rfl hd _ w (fun ρ hρ=>?_) k;simp only[execOp,hρ x _ hx,fI,ni,hρ i _ hi];rw[cr,run_sliceAt_string _ _ _ _ _ _ ht,run_slice_string_l _ _ _ ht _ _ hj.1 (by rw[hs];exact hj.2),oL,hs,qx];simp
theorem Rg.JF {t:TypeId} {i:Operand} {l:List UInt8} {κ:IntKind} {j:Int} (ht:P.underlying t=some .string) (hx:ev L x=some (.string ⟨l.toArray⟩)) (hi:ev L i=some (.int κ j)) (hd:Nat.blt d n=true) (hj:0≤j∧j≤l.length)
  (k:Rg P r n ops rest ((d,.string ⟨(l.take j.toNat).toArray⟩)::L) ds w K):
  Rg P r n ops ({dst:=some d,op:= .slice t x none (some i) none,type:=ty,pos,after:=af,guard:=none}::rest) L ds w K:=by
 have hs:(⟨l.toArray⟩:ByteArray).size=l.length:=by simp[ByteArray.size]
 refine .op (fun _ h=>by cases h) rfl rfl hd _ w (fun ρ hρ=>?_) k;simp only[execOp,hρ x _ hx,fI,ni,hρ i _ hi];rw[cr,run_sliceAt_string _ _ _ _ _ _ ht,run_slice_string_h _ _ _ ht _ _ hj.1 (by rw[hs];exact hj.2),oL,List.drop_zero];simp
end
theorem Own.dE {α:Type} {A:RT α} {e:TypeId} {M:aI} {w:World} {base b p:Nat} {s:ByteArray} {v:Value} {xs:List α} (h:Own A e M w base v xs) (hb:w.heap[b]? =some (.stringIter s p)):v.ownBlock≠some b:=fun hv=>by
 obtain⟨⟨C,h1,_⟩,_⟩:=h;rcases h1.2 with⟨h2,_⟩|⟨g,cap,cur,h2,_,h3,_⟩
 ·rw[h2]at hv;cases hv
 ·rw[h2]at hv;cases hv;rw[h3]at hb;cases hb
theorem Own.ia {α β:Type} {A:RT α} {B:RT β} {e e':TypeId} {M M':aI} {w:World} {base B0:Nat} {v u:Value} {xs:List α} {ys:List β} (h:Own A e M w base v xs) (h':Own B e' M' w B0 u ys) (ht:e≠e') {b:Nat} (hb:v.ownBlock=some b):u.ownBlock≠some b:=fun hu=>by
 obtain⟨⟨C,h1,_⟩,_⟩:=h;obtain⟨⟨C',O9,_⟩,_⟩:=h';rcases h1.2 with⟨h2,_⟩|⟨g,cap,cur,h2,_,h3,_⟩
 ·rw[h2]at hb;cases hb
 ·rcases O9.2 with⟨xy,_⟩|⟨g',OM,ON,xy,_,h3',_⟩
  ·rw[xy]at hu;cases hu
  ·rw[h2]at hb;rw[xy]at hu;cases hb;cases hu;rw[h3]at h3';cases h3';exact ht rfl
theorem Own.ep {α:Type} {A:RT α} {e t:TypeId} {M:aI} {w:World} {base b:Nat} {v:Value} {xs:List α} {cs:Array Value} {fr:Nat×Nat} (h:Own A e M w base v xs) (hb:w.heap[b]? =some (.cells cs t fr)) (ht:t≠e):v.ownBlock≠some b:=fun hv=>by
 obtain⟨⟨C,h1,_⟩,_⟩:=h;rcases h1.2 with⟨h2,_⟩|⟨g,cap,cur,h2,_,h3,_⟩
 ·rw[h2]at hv;cases hv
 ·rw[h2]at hv;cases hv;rw[h3]at hb;cases hb;exact ht rfl
end Go.K
namespace Go.K
open Go.Proofs
theorem I3:TI Tryz.prog 3 (.int .i64 0) 1 8:=by unfold TI;kernel_rfl
theorem I5:TI Tryz.prog 5 (.int .u8 0) 1 1:=by unfold TI;kernel_rfl
theorem I9:TI Tryz.prog 9 (.string ⟨#[]⟩) 1 16:=by unfold TI;kernel_rfl
theorem Tl:TI Tryz.prog 26 (.int .i64 0) 1 8:=by unfold TI;kernel_rfl
theorem jE:TI Tryz.prog 32 (.slice none 0 0) 1 24:=by unfold TI;kernel_rfl
theorem ow:TI Tryz.prog 39 (.slice none 0 0) 1 24:=by unfold TI;kernel_rfl
theorem jW:TI Tryz.prog 41 (.agg #[(.int .i64 0),(.slice none 0 0)]) 2 32:=by unfold TI;kernel_rfl
theorem vD:TI Tryz.prog 43 (.agg #[(.int .i64 0),(.slice none 0 0),(.int .i64 0)]) 3 40:=by unfold TI;kernel_rfl
theorem ja:TI Tryz.prog 47 (.agg #[(.string ⟨#[]⟩),(.string ⟨#[]⟩)]) 2 32:=by unfold TI;kernel_rfl
theorem uY:TI Tryz.prog 55 (.slice none 0 0) 1 24:=by unfold TI;kernel_rfl
theorem I98:TI Tryz.prog 98 (.slice none 0 0) 1 24:=by unfold TI;kernel_rfl
theorem gU:TI Tryz.prog 127 (.agg #[(.string ⟨#[]⟩),(.string ⟨#[]⟩)]) 2 32:=by unfold TI;kernel_rfl
theorem vE:TI Tryz.prog 129 (.pointer none) 1 8:=by unfold TI;kernel_rfl
theorem yV:TI Tryz.prog 147 (.slice none 0 0) 1 24:=by unfold TI;kernel_rfl
theorem eN:TI Tryz.prog 153 (.agg #[(.int .i64 0),(.slice none 0 0)]) 2 32:=by unfold TI;kernel_rfl
theorem AS:TI Tryz.prog 191 (.slice none 0 0) 1 24:=by unfold TI;kernel_rfl
theorem UE:TI Tryz.prog 193 (.agg #[(.slice none 0 0),(.slice none 0 0),(.int .i64 0)]) 3 56:=by unfold TI;kernel_rfl
theorem rW:TI Tryz.prog 195 (.agg #[(.int .i64 0),(.int .i64 0),(.int .i64 0),(.int .i64 0)]) 4 32:=by unfold TI;kernel_rfl
theorem C5:TI Tryz.prog 256 (.agg #[(.string ⟨#[]⟩),(.int .i64 0)]) 2 24:=by unfold TI;kernel_rfl
theorem UF:TI Tryz.prog 309 (.agg #[(.pointer none),(.slice none 0 0)]) 2 32:=by unfold TI;kernel_rfl
theorem Pd:placesOf Tryz.prog 41=[(0,1),(1,1)].map some:=by kernel_rfl
theorem UG:placesOf Tryz.prog 43=[(0,2),(2,1)].map some:=by kernel_rfl
theorem UH:placesOf Tryz.prog 47=[(0,1),(1,1)].map some:=by kernel_rfl
theorem EH:placesOf Tryz.prog 153=[(0,1),(1,1)].map some:=by kernel_rfl
theorem UI:placesOf Tryz.prog 193=[(0,1),(1,1),(2,1)].map some:=by kernel_rfl
theorem UJ:placesOf Tryz.prog 195=[(0,1),(1,1),(2,1),(3,1)].map some:=by kernel_rfl
theorem Pe:placesOf Tryz.prog 256=[(0,1),(1,1)].map some:=by kernel_rfl
theorem mixed:Tryz.prog.follows .mixedOrders=true:=by kernel_rfl
theorem E65:Enters Tryz.prog 65:=enters Tryz.func65 rfl (by decide)
theorem Tn:Enters Tryz.prog 74:=enters Tryz.func74 rfl (by decide)
theorem Pf:Enters Tryz.prog 116:=enters Tryz.func116 rfl (by decide)
theorem Pg:Enters Tryz.prog 117:=enters Tryz.func117 rfl (by decide)
theorem UK:Enters Tryz.prog 150:=enters Tryz.func150 rfl (by decide)
theorem UL:Enters Tryz.prog 151:=enters Tryz.func151 rfl (by decide)
theorem UM:Enters Tryz.prog 152:=enters Tryz.func152 rfl (by decide)
theorem UN:Enters Tryz.prog 153:=enters Tryz.func153 rfl (by decide)
theorem Ph:Enters Tryz.prog 154:=enters Tryz.func154 rfl (by decide)
theorem UO:Enters Tryz.prog 158:=enters Tryz.func158 rfl (by decide)
theorem UP:Enters Tryz.prog 159:=enters Tryz.func159 rfl (by decide)
theorem UQ:Enters Tryz.prog 160:=enters Tryz.func160 rfl (by decide)
theorem UR:Enters Tryz.prog 161:=enters Tryz.func161 rfl (by decide)
theorem US:Enters Tryz.prog 167:=enters Tryz.func167 rfl (by decide)
theorem UT:Enters Tryz.prog 171:=enters Tryz.func171 rfl (by decide)
theorem UU:Enters Tryz.prog 172:=enters Tryz.func172 rfl (by decide)
theorem K7:Enters Tryz.prog 173:=enters Tryz.func173 rfl (by decide)
theorem UW:Enters Tryz.prog 174:=enters Tryz.func174 rfl (by decide)
theorem Pj:Enters Tryz.prog 191:=enters Tryz.func191 rfl (by decide)
theorem Pk:Enters Tryz.prog 192:=enters Tryz.func192 rfl (by decide)
theorem UX:Enters Tryz.prog 193:=enters Tryz.func193 rfl (by decide)
theorem UY:Enters Tryz.prog 194:=enters Tryz.func194 rfl (by decide)
theorem UZ:Enters Tryz.prog 195:=enters Tryz.func195 rfl (by decide)
theorem U0:Enters Tryz.prog 196:=enters Tryz.func196 rfl (by decide)
theorem U1:Enters Tryz.prog 197:=enters Tryz.func197 rfl (by decide)
theorem U2:Enters Tryz.prog 199:=enters Tryz.func199 rfl (by decide)
theorem U3:Enters Tryz.prog 212:=enters Tryz.func212 rfl (by decide)
theorem U4:Enters Tryz.prog 213:=enters Tryz.func213 rfl (by decide)
theorem U5:Enters Tryz.prog 214:=enters Tryz.func214 rfl (by decide)
theorem U6:Enters Tryz.prog 215:=enters Tryz.func215 rfl (by decide)
theorem U7:Enters Tryz.prog 216:=enters Tryz.func216 rfl (by decide)
theorem Pl:Enters Tryz.prog 217:=enters Tryz.func217 rfl (by decide)
theorem U8:Enters Tryz.prog 218:=enters Tryz.func218 rfl (by decide)
theorem Pm:Enters Tryz.prog 219:=enters Tryz.func219 rfl (by decide)
theorem Pn:Enters Tryz.prog 220:=enters Tryz.func220 rfl (by decide)
theorem U9:Enters Tryz.prog 221:=enters Tryz.func221 rfl (by decide)
theorem Va:Enters Tryz.prog 222:=enters Tryz.func222 rfl (by decide)
theorem Pp:Enters Tryz.prog 223:=enters Tryz.func223 rfl (by decide)
theorem Vb:Enters Tryz.prog 224:=enters Tryz.func224 rfl (by decide)
theorem Vc:Enters Tryz.prog 225:=enters Tryz.func225 rfl (by decide)
theorem Vd:Enters Tryz.prog 233:=enters Tryz.func233 rfl (by decide)
theorem Pq:Enters Tryz.prog 250:=enters Tryz.func250 rfl (by decide)
theorem Ve:Enters Tryz.prog 251:=enters Tryz.func251 rfl (by decide)
theorem Vf:Enters Tryz.prog 252:=enters Tryz.func252 rfl (by decide)
theorem Vg:Enters Tryz.prog 253:=enters Tryz.func253 rfl (by decide)
theorem Vh:Enters Tryz.prog 254:=enters Tryz.func254 rfl (by decide)
theorem Vi:Enters Tryz.prog 255:=enters Tryz.func255 rfl (by decide)
theorem Vj:Enters Tryz.prog 256:=enters Tryz.func256 rfl (by decide)
theorem Pr:Enters Tryz.prog 274:=enters Tryz.func274 rfl (by decide)
theorem Vk:Enters Tryz.prog 277:=enters Tryz.func277 rfl (by decide)
end Go.K
namespace Go.K
open Go.Proofs
set_option maxRecDepth 10000
def eF (c:Int):Bool:=decide ((97≤c∧c≤122)∨(65≤c∧c≤90)∨(192≤c∧c≤591∧c≠215∧c≠247))
def mg (c:Int):Bool:=decide (48≤c∧c≤57)
def eH (c:Int):Int:=if(65≤c∧c≤90)∨(192≤c∧c≤222∧c≠215)then c+32 else c
theorem yW (c:Int) (w0:World):
  Spec Tryz.prog 221 #[.int .i64 c] w0 (fun v w=>v= .bool (eF c)∧w=w0):=by
 refine bh (args:=[_]) (fn:=Tryz.f221) Tryz.func221 rfl (n:=33) Tryz.ntmps221 (ak (aj (ah rfl rfl (ad (ak (aj (ae rfl rfl (dN rfl rfl rfl (ae rfl rfl ?_)))))))));refine aL (g:=5) rfl (fun fX=>?_) (fun fX=>?_)
 ·refine an rfl rfl (ae rfl rfl (an rfl rfl (fh rfl rfl rfl (aP rfl rfl rfl (ae rfl rfl ?_)))));refine aL (g:=9) rfl (fun xJ=>?_) (fun xJ=>?_)
  ·refine aq rfl rfl rfl rfl (aq rfl rfl rfl rfl (aq rfl rfl rfl rfl (ck rfl rfl rfl (ck rfl rfl rfl (aq rfl rfl rfl rfl (aP rfl rfl rfl (ae rfl rfl (aq rfl rfl rfl rfl (aq rfl rfl rfl rfl (aq rfl rfl rfl rfl (ck rfl rfl rfl ?_)))))))))));refine ck rfl rfl rfl (aq rfl rfl rfl rfl (aq rfl rfl rfl rfl (ck rfl rfl rfl (ck rfl rfl rfl (aq rfl rfl rfl rfl (aq rfl rfl rfl rfl (ck rfl rfl rfl (ck rfl rfl rfl (aq rfl rfl rfl rfl (aP rfl rfl rfl (ah rfl rfl ?_)))))))))));refine ad (aM ?_);exact aS rfl rfl ⟨by simp only[eF];first|rfl|(congr 1;first|(exact(decide_eq_true (by omega)).symm)|(exact(decide_eq_false (by omega)).symm)|(exact decide_eq_decide.2 (by omega))),rfl⟩
  ·refine an rfl rfl (ae rfl rfl (an rfl rfl (dN rfl rfl rfl (an rfl rfl (ae rfl rfl ?_)))));refine aL (g:=12) rfl (fun pq=>?_) (fun pq=>?_)
   ·refine an rfl rfl (ae rfl rfl (an rfl rfl (fh rfl rfl rfl (an rfl rfl (aP rfl rfl rfl (aE rfl rfl rfl (ae rfl rfl ?_)))))));refine aL (g:=17) rfl (fun tv=>?_) (fun tv=>?_)
    ·refine aq rfl rfl rfl rfl (aq rfl rfl rfl rfl (aq rfl rfl rfl rfl (ck rfl rfl rfl (ck rfl rfl rfl (aq rfl rfl rfl rfl (aq rfl rfl rfl rfl (ck rfl rfl rfl (ck rfl rfl rfl (aq rfl rfl rfl rfl (aq rfl rfl rfl rfl (ck rfl rfl rfl ?_)))))))))));refine ck rfl rfl rfl (aq rfl rfl rfl rfl (aP rfl rfl rfl (ah rfl rfl (ad (aM ?_)))));exact aS rfl rfl ⟨by simp only[eF];first|rfl|(congr 1;first|(exact(decide_eq_true (by omega)).symm)|(exact(decide_eq_false (by omega)).symm)|(exact decide_eq_decide.2 (by omega))),rfl⟩
    ·refine an rfl rfl (ae rfl rfl (an rfl rfl (dN rfl rfl rfl (an rfl rfl (ae rfl rfl ?_)))));refine aL (g:=20) rfl (fun ko=>?_) (fun ko=>?_)
     ·refine an rfl rfl (ae rfl rfl (an rfl rfl (fh rfl rfl rfl (an rfl rfl (aP rfl rfl rfl (an rfl rfl (ae rfl rfl ?_)))))));refine aL (g:=24) rfl (fun tw=>?_) (fun tw=>?_)
      ·refine an rfl rfl (ae rfl rfl (an rfl rfl (dW rfl rfl rfl (an rfl rfl (aP rfl rfl rfl (an rfl rfl (ae rfl rfl ?_)))))));refine aL (g:=28) rfl (fun tx=>?_) (fun tx=>?_)
       ·refine an rfl rfl (ae rfl rfl (an rfl rfl (dW rfl rfl rfl (an rfl rfl (aP rfl rfl rfl (aE rfl rfl rfl (ah rfl rfl (ad (aM ?_)))))))));exact aS rfl rfl ⟨by simp only[eF];first|rfl|(congr 1;first|(exact(decide_eq_true (by omega)).symm)|(exact(decide_eq_false (by omega)).symm)|(exact decide_eq_decide.2 (by omega))),rfl⟩
       ·refine aq rfl rfl rfl rfl (aq rfl rfl rfl rfl (an rfl rfl (aE rfl rfl rfl (aE rfl rfl rfl (ah rfl rfl (ad (aM ?_)))))));exact aS rfl rfl ⟨by simp only[eF];first|rfl|(congr 1;first|(exact(decide_eq_true (by omega)).symm)|(exact(decide_eq_false (by omega)).symm)|(exact decide_eq_decide.2 (by omega))),rfl⟩
      ·refine aq rfl rfl rfl rfl (aq rfl rfl rfl rfl (an rfl rfl (aE rfl rfl rfl (an rfl rfl (ae rfl rfl (aq rfl rfl rfl rfl (aq rfl rfl rfl rfl (an rfl rfl (aE rfl rfl rfl (aE rfl rfl rfl (ah rfl rfl ?_)))))))))));refine ad (aM ?_);exact aS rfl rfl ⟨by simp only[eF];first|rfl|(congr 1;first|(exact(decide_eq_true (by omega)).symm)|(exact(decide_eq_false (by omega)).symm)|(exact decide_eq_decide.2 (by omega))),rfl⟩
     ·refine aq rfl rfl rfl rfl (aq rfl rfl rfl rfl (an rfl rfl (aE rfl rfl rfl (an rfl rfl (ae rfl rfl (aq rfl rfl rfl rfl (aq rfl rfl rfl rfl (an rfl rfl (aE rfl rfl rfl (an rfl rfl (ae rfl rfl ?_)))))))))));refine aq rfl rfl rfl rfl (aq rfl rfl rfl rfl (an rfl rfl (aE rfl rfl rfl (aE rfl rfl rfl (ah rfl rfl (ad (aM ?_)))))));exact aS rfl rfl ⟨by simp only[eF];first|rfl|(congr 1;first|(exact(decide_eq_true (by omega)).symm)|(exact(decide_eq_false (by omega)).symm)|(exact decide_eq_decide.2 (by omega))),rfl⟩
   ·refine aq rfl rfl rfl rfl (aq rfl rfl rfl rfl (an rfl rfl (aE rfl rfl rfl (aE rfl rfl rfl (ae rfl rfl (an rfl rfl (ae rfl rfl (an rfl rfl (dN rfl rfl rfl (an rfl rfl (ae rfl rfl ?_)))))))))));refine aL (g:=20) rfl (fun ko=>?_) (fun ko=>?_)
    ·refine an rfl rfl (ae rfl rfl (an rfl rfl (fh rfl rfl rfl (an rfl rfl (aP rfl rfl rfl (an rfl rfl (ae rfl rfl ?_)))))));refine aL (g:=24) rfl (fun tw=>?_) (fun tw=>?_)
     ·refine an rfl rfl (ae rfl rfl (an rfl rfl (dW rfl rfl rfl (an rfl rfl (aP rfl rfl rfl (an rfl rfl (ae rfl rfl ?_)))))));refine aL (g:=28) rfl (fun tx=>?_) (fun tx=>?_)
      ·refine an rfl rfl (ae rfl rfl (an rfl rfl (dW rfl rfl rfl (an rfl rfl (aP rfl rfl rfl (aE rfl rfl rfl (ah rfl rfl (ad (aM ?_)))))))));exact aS rfl rfl ⟨by simp only[eF];first|rfl|(congr 1;first|(exact(decide_eq_true (by omega)).symm)|(exact(decide_eq_false (by omega)).symm)|(exact decide_eq_decide.2 (by omega))),rfl⟩
      ·refine aq rfl rfl rfl rfl (aq rfl rfl rfl rfl (an rfl rfl (aE rfl rfl rfl (aE rfl rfl rfl (ah rfl rfl (ad (aM ?_)))))));exact aS rfl rfl ⟨by simp only[eF];first|rfl|(congr 1;first|(exact(decide_eq_true (by omega)).symm)|(exact(decide_eq_false (by omega)).symm)|(exact decide_eq_decide.2 (by omega))),rfl⟩
     ·refine aq rfl rfl rfl rfl (aq rfl rfl rfl rfl (an rfl rfl (aE rfl rfl rfl (an rfl rfl (ae rfl rfl (aq rfl rfl rfl rfl (aq rfl rfl rfl rfl (an rfl rfl (aE rfl rfl rfl (aE rfl rfl rfl (ah rfl rfl ?_)))))))))));refine ad (aM ?_);exact aS rfl rfl ⟨by simp only[eF];first|rfl|(congr 1;first|(exact(decide_eq_true (by omega)).symm)|(exact(decide_eq_false (by omega)).symm)|(exact decide_eq_decide.2 (by omega))),rfl⟩
    ·refine aq rfl rfl rfl rfl (aq rfl rfl rfl rfl (an rfl rfl (aE rfl rfl rfl (an rfl rfl (ae rfl rfl (aq rfl rfl rfl rfl (aq rfl rfl rfl rfl (an rfl rfl (aE rfl rfl rfl (an rfl rfl (ae rfl rfl ?_)))))))))));refine aq rfl rfl rfl rfl (aq rfl rfl rfl rfl (an rfl rfl (aE rfl rfl rfl (aE rfl rfl rfl (ah rfl rfl (ad (aM ?_)))))));exact aS rfl rfl ⟨by simp only[eF];first|rfl|(congr 1;first|(exact(decide_eq_true (by omega)).symm)|(exact(decide_eq_false (by omega)).symm)|(exact decide_eq_decide.2 (by omega))),rfl⟩
 ·refine aq rfl rfl rfl rfl (aq rfl rfl rfl rfl (aE rfl rfl rfl (ae rfl rfl (an rfl rfl (ae rfl rfl (an rfl rfl (dN rfl rfl rfl (an rfl rfl (ae rfl rfl ?_)))))))));refine aL (g:=12) rfl (fun pq=>?_) (fun pq=>?_)
  ·refine an rfl rfl (ae rfl rfl (an rfl rfl (fh rfl rfl rfl (an rfl rfl (aP rfl rfl rfl (aE rfl rfl rfl (ae rfl rfl ?_)))))));refine aL (g:=17) rfl (fun tv=>?_) (fun tv=>?_)
   ·refine aq rfl rfl rfl rfl (aq rfl rfl rfl rfl (aq rfl rfl rfl rfl (ck rfl rfl rfl (ck rfl rfl rfl (aq rfl rfl rfl rfl (aq rfl rfl rfl rfl (ck rfl rfl rfl (ck rfl rfl rfl (aq rfl rfl rfl rfl (aq rfl rfl rfl rfl (ck rfl rfl rfl ?_)))))))))));refine ck rfl rfl rfl (aq rfl rfl rfl rfl (aP rfl rfl rfl (ah rfl rfl (ad (aM ?_)))));exact aS rfl rfl ⟨by simp only[eF];first|rfl|(congr 1;first|(exact(decide_eq_true (by omega)).symm)|(exact(decide_eq_false (by omega)).symm)|(exact decide_eq_decide.2 (by omega))),rfl⟩
   ·refine an rfl rfl (ae rfl rfl (an rfl rfl (dN rfl rfl rfl (an rfl rfl (ae rfl rfl ?_)))));refine aL (g:=20) rfl (fun ko=>?_) (fun ko=>?_)
    ·refine an rfl rfl (ae rfl rfl (an rfl rfl (fh rfl rfl rfl (an rfl rfl (aP rfl rfl rfl (an rfl rfl (ae rfl rfl ?_)))))));refine aL (g:=24) rfl (fun tw=>?_) (fun tw=>?_)
     ·refine an rfl rfl (ae rfl rfl (an rfl rfl (dW rfl rfl rfl (an rfl rfl (aP rfl rfl rfl (an rfl rfl (ae rfl rfl ?_)))))));refine aL (g:=28) rfl (fun tx=>?_) (fun tx=>?_)
      ·refine an rfl rfl (ae rfl rfl (an rfl rfl (dW rfl rfl rfl (an rfl rfl (aP rfl rfl rfl (aE rfl rfl rfl (ah rfl rfl (ad (aM ?_)))))))));exact aS rfl rfl ⟨by simp only[eF];first|rfl|(congr 1;first|(exact(decide_eq_true (by omega)).symm)|(exact(decide_eq_false (by omega)).symm)|(exact decide_eq_decide.2 (by omega))),rfl⟩
      ·refine aq rfl rfl rfl rfl (aq rfl rfl rfl rfl (an rfl rfl (aE rfl rfl rfl (aE rfl rfl rfl (ah rfl rfl (ad (aM ?_)))))));exact aS rfl rfl ⟨by simp only[eF];first|rfl|(congr 1;first|(exact(decide_eq_true (by omega)).symm)|(exact(decide_eq_false (by omega)).symm)|(exact decide_eq_decide.2 (by omega))),rfl⟩
     ·refine aq rfl rfl rfl rfl (aq rfl rfl rfl rfl (an rfl rfl (aE rfl rfl rfl (an rfl rfl (ae rfl rfl (aq rfl rfl rfl rfl (aq rfl rfl rfl rfl (an rfl rfl (aE rfl rfl rfl (aE rfl rfl rfl (ah rfl rfl ?_)))))))))));refine ad (aM ?_);exact aS rfl rfl ⟨by simp only[eF];first|rfl|(congr 1;first|(exact(decide_eq_true (by omega)).symm)|(exact(decide_eq_false (by omega)).symm)|(exact decide_eq_decide.2 (by omega))),rfl⟩
    ·refine aq rfl rfl rfl rfl (aq rfl rfl rfl rfl (an rfl rfl (aE rfl rfl rfl (an rfl rfl (ae rfl rfl (aq rfl rfl rfl rfl (aq rfl rfl rfl rfl (an rfl rfl (aE rfl rfl rfl (an rfl rfl (ae rfl rfl ?_)))))))))));refine aq rfl rfl rfl rfl (aq rfl rfl rfl rfl (an rfl rfl (aE rfl rfl rfl (aE rfl rfl rfl (ah rfl rfl (ad (aM ?_)))))));exact aS rfl rfl ⟨by simp only[eF];first|rfl|(congr 1;first|(exact(decide_eq_true (by omega)).symm)|(exact(decide_eq_false (by omega)).symm)|(exact decide_eq_decide.2 (by omega))),rfl⟩
  ·refine aq rfl rfl rfl rfl (aq rfl rfl rfl rfl (an rfl rfl (aE rfl rfl rfl (aE rfl rfl rfl (ae rfl rfl (an rfl rfl (ae rfl rfl (an rfl rfl (dN rfl rfl rfl (an rfl rfl (ae rfl rfl ?_)))))))))));refine aL (g:=20) rfl (fun ko=>?_) (fun ko=>?_)
   ·refine an rfl rfl (ae rfl rfl (an rfl rfl (fh rfl rfl rfl (an rfl rfl (aP rfl rfl rfl (an rfl rfl (ae rfl rfl ?_)))))));refine aL (g:=24) rfl (fun tw=>?_) (fun tw=>?_)
    ·refine an rfl rfl (ae rfl rfl (an rfl rfl (dW rfl rfl rfl (an rfl rfl (aP rfl rfl rfl (an rfl rfl (ae rfl rfl ?_)))))));refine aL (g:=28) rfl (fun tx=>?_) (fun tx=>?_)
     ·refine an rfl rfl (ae rfl rfl (an rfl rfl (dW rfl rfl rfl (an rfl rfl (aP rfl rfl rfl (aE rfl rfl rfl (ah rfl rfl (ad (aM ?_)))))))));exact aS rfl rfl ⟨by simp only[eF];first|rfl|(congr 1;first|(exact(decide_eq_true (by omega)).symm)|(exact(decide_eq_false (by omega)).symm)|(exact decide_eq_decide.2 (by omega))),rfl⟩
     ·refine aq rfl rfl rfl rfl (aq rfl rfl rfl rfl (an rfl rfl (aE rfl rfl rfl (aE rfl rfl rfl (ah rfl rfl (ad (aM ?_)))))));exact aS rfl rfl ⟨by simp only[eF];first|rfl|(congr 1;first|(exact(decide_eq_true (by omega)).symm)|(exact(decide_eq_false (by omega)).symm)|(exact decide_eq_decide.2 (by omega))),rfl⟩
    ·refine aq rfl rfl rfl rfl (aq rfl rfl rfl rfl (an rfl rfl (aE rfl rfl rfl (an rfl rfl (ae rfl rfl (aq rfl rfl rfl rfl (aq rfl rfl rfl rfl (an rfl rfl (aE rfl rfl rfl (aE rfl rfl rfl (ah rfl rfl ?_)))))))))));refine ad (aM ?_);exact aS rfl rfl ⟨by simp only[eF];first|rfl|(congr 1;first|(exact(decide_eq_true (by omega)).symm)|(exact(decide_eq_false (by omega)).symm)|(exact decide_eq_decide.2 (by omega))),rfl⟩
   ·refine aq rfl rfl rfl rfl (aq rfl rfl rfl rfl (an rfl rfl (aE rfl rfl rfl (an rfl rfl (ae rfl rfl (aq rfl rfl rfl rfl (aq rfl rfl rfl rfl (an rfl rfl (aE rfl rfl rfl (an rfl rfl (ae rfl rfl ?_)))))))))));refine aq rfl rfl rfl rfl (aq rfl rfl rfl rfl (an rfl rfl (aE rfl rfl rfl (aE rfl rfl rfl (ah rfl rfl (ad (aM ?_)))))));exact aS rfl rfl ⟨by simp only[eF];first|rfl|(congr 1;first|(exact(decide_eq_true (by omega)).symm)|(exact(decide_eq_false (by omega)).symm)|(exact decide_eq_decide.2 (by omega))),rfl⟩
theorem AT (c:Int) (w0:World):
  Spec Tryz.prog 222 #[.int .i64 c] w0 (fun v w=>v= .bool (mg c)∧w=w0):=by
 refine bh (args:=[_]) (fn:=Tryz.f222) Tryz.func222 rfl (n:=9) Tryz.ntmps222 (ak (aj (ah rfl rfl (ad (ak (aj (ae rfl rfl (dN rfl rfl rfl (ae rfl rfl ?_)))))))));refine aL (g:=5) rfl (fun fX=>?_) (fun fX=>?_)
 ·refine an rfl rfl (ae rfl rfl (an rfl rfl (fh rfl rfl rfl (aP rfl rfl rfl (ah rfl rfl (ad (aM ?_)))))));exact aS rfl rfl ⟨by simp only[mg];first|rfl|(congr 1;first|(exact(decide_eq_true (by omega)).symm)|(exact(decide_eq_false (by omega)).symm)|(exact decide_eq_decide.2 (by omega))),rfl⟩
 ·refine aq rfl rfl rfl rfl (aq rfl rfl rfl rfl (aE rfl rfl rfl (ah rfl rfl (ad (aM ?_)))));exact aS rfl rfl ⟨by simp only[mg];first|rfl|(congr 1;first|(exact(decide_eq_true (by omega)).symm)|(exact(decide_eq_false (by omega)).symm)|(exact decide_eq_decide.2 (by omega))),rfl⟩
theorem wL (c:Int) (w0:World) (hc:0≤c∧c≤1114111):
  Spec Tryz.prog 223 #[.int .i64 c] w0 (fun v w=>v= .int .i64 (eH c)∧w=w0):=by
 refine bh (args:=[_]) (fn:=Tryz.f223) Tryz.func223 rfl (n:=24) Tryz.ntmps223 (ak (aj (ah rfl rfl (ad (ak (ak (aj (ae rfl rfl (dN rfl rfl rfl (ae rfl rfl ?_))))))))));refine aL (g:=5) rfl (fun fX=>?_) (fun fX=>?_)
 ·refine an rfl rfl (ae rfl rfl (an rfl rfl (fh rfl rfl rfl (aP rfl rfl rfl (ae rfl rfl ?_)))));refine aL (g:=9) rfl (fun xJ=>?_) (fun xJ=>?_)
  ·refine aq rfl rfl rfl rfl (aq rfl rfl rfl rfl (aq rfl rfl rfl rfl (ck rfl rfl rfl (ck rfl rfl rfl (aq rfl rfl rfl rfl (aq rfl rfl rfl rfl (ck rfl rfl rfl (ck rfl rfl rfl (aq rfl rfl rfl rfl (aP rfl rfl rfl (ad ?_)))))))))));refine jH rfl (ak (aj (ae rfl rfl (bE rfl rfl rfl (by omega) (ah rfl rfl (ad (aM ?_)))))));exact aS rfl rfl ⟨by rw[eH,if_pos (by omega)],rfl⟩
  ·refine an rfl rfl (ae rfl rfl (an rfl rfl (dN rfl rfl rfl (an rfl rfl (ae rfl rfl ?_)))));refine aL (g:=12) rfl (fun pq=>?_) (fun pq=>?_)
   ·refine an rfl rfl (ae rfl rfl (an rfl rfl (fh rfl rfl rfl (an rfl rfl (aP rfl rfl rfl (an rfl rfl (ae rfl rfl ?_)))))));refine aL (g:=16) rfl (fun EI=>?_) (fun EI=>?_)
    ·refine an rfl rfl (ae rfl rfl (an rfl rfl (dW rfl rfl rfl (an rfl rfl (aP rfl rfl rfl (aE rfl rfl rfl (ad ?_)))))));refine bK rfl (fun c1=>?_) (fun c1=>?_)
     ·refine ak (aj (ae rfl rfl (bE rfl rfl rfl (by omega) (ah rfl rfl (ad (aM ?_))))));exact aS rfl rfl ⟨by rw[eH,if_pos (by omega)],rfl⟩
     ·refine aU (ak (aj (ae rfl rfl (ah rfl rfl (ad (aM ?_))))));exact aS rfl rfl ⟨by rw[eH,if_neg (by omega)],rfl⟩
    ·refine aq rfl rfl rfl rfl (aq rfl rfl rfl rfl (an rfl rfl (aE rfl rfl rfl (aE rfl rfl rfl (ad (iV rfl (aU (ak (aj (ae rfl rfl (ah rfl rfl ?_)))))))))));refine ad (aM ?_);exact aS rfl rfl ⟨by rw[eH,if_neg (by omega)],rfl⟩
   ·refine aq rfl rfl rfl rfl (aq rfl rfl rfl rfl (an rfl rfl (aE rfl rfl rfl (an rfl rfl (ae rfl rfl (aq rfl rfl rfl rfl (aq rfl rfl rfl rfl (an rfl rfl (aE rfl rfl rfl (aE rfl rfl rfl (ad ?_)))))))))));refine iV rfl (aU (ak (aj (ae rfl rfl (ah rfl rfl (ad (aM ?_)))))));exact aS rfl rfl ⟨by rw[eH,if_neg (by omega)],rfl⟩
 ·refine aq rfl rfl rfl rfl (aq rfl rfl rfl rfl (aE rfl rfl rfl (ae rfl rfl (an rfl rfl (ae rfl rfl (an rfl rfl (dN rfl rfl rfl (an rfl rfl (ae rfl rfl ?_)))))))));refine aL (g:=12) rfl (fun pq=>?_) (fun pq=>?_)
  ·refine an rfl rfl (ae rfl rfl (an rfl rfl (fh rfl rfl rfl (an rfl rfl (aP rfl rfl rfl (an rfl rfl (ae rfl rfl ?_)))))));refine aL (g:=16) rfl (fun EI=>?_) (fun EI=>?_)
   ·refine an rfl rfl (ae rfl rfl (an rfl rfl (dW rfl rfl rfl (an rfl rfl (aP rfl rfl rfl (aE rfl rfl rfl (ad ?_)))))));refine bK rfl (fun c1=>?_) (fun c1=>?_)
    ·refine ak (aj (ae rfl rfl (bE rfl rfl rfl (by omega) (ah rfl rfl (ad (aM ?_))))));exact aS rfl rfl ⟨by rw[eH,if_pos (by omega)],rfl⟩
    ·refine aU (ak (aj (ae rfl rfl (ah rfl rfl (ad (aM ?_))))));exact aS rfl rfl ⟨by rw[eH,if_neg (by omega)],rfl⟩
   ·refine aq rfl rfl rfl rfl (aq rfl rfl rfl rfl (an rfl rfl (aE rfl rfl rfl (aE rfl rfl rfl (ad (iV rfl (aU (ak (aj (ae rfl rfl (ah rfl rfl ?_)))))))))));refine ad (aM ?_);exact aS rfl rfl ⟨by rw[eH,if_neg (by omega)],rfl⟩
  ·refine aq rfl rfl rfl rfl (aq rfl rfl rfl rfl (an rfl rfl (aE rfl rfl rfl (an rfl rfl (ae rfl rfl (aq rfl rfl rfl rfl (aq rfl rfl rfl rfl (an rfl rfl (aE rfl rfl rfl (aE rfl rfl rfl (ad ?_)))))))))));refine iV rfl (aU (ak (aj (ae rfl rfl (ah rfl rfl (ad (aM ?_)))))));exact aS rfl rfl ⟨by rw[eH,if_neg (by omega)],rfl⟩
end Go.K
namespace Go.Proofs
open Go.Shelf
def Tryz.rz:Go.Shelf.Ren:=⟨fun|169=>256|n=>n,fun|70=>307|9=>9|0=>0|72=>309|37=>147|127=>331|3=>3|5=>5|n=>n,fun|n=>n⟩
theorem Tryz.H7:Go.Proofs.Lays.n169 Tryz.prog Tryz.rz:={
 mixed:=by kernel_rfl
 f169:=Tryz.func256.trans (congrArg some (by kernel_rfl))
 t0:=iw
 a0:=sH
 z0:=oW
 v0:=jf
 t3:=ay
 a3:=sI
 z3:=oX
 v3:=jg
 t9:=aA
 a9:=sJ
 z9:=oY
 v9:=jh
 t37:=bD
 a37:=Tryz.isAgg147
 z37:=Tryz.sizeOf147
 v37:=Tryz.zeroValue147
 t70:=Tryz.underlying307
 a70:=Tryz.isAgg307
 z70:=Tryz.sizeOf307
 v70:=Tryz.zeroValue307
 t72:=Tryz.underlying309
 a72:=Tryz.isAgg309
 z72:=Tryz.sizeOf309
 v72:=Tryz.zeroValue309
 t127:=Tryz.underlying331
 a127:=Tryz.isAgg331
 z127:=Tryz.sizeOf331
 v127:=Tryz.zeroValue331}
def Tryz.yX:Go.Shelf.Ren:=⟨fun|119=>277|n=>n,fun|21=>21|4=>4|n=>n,fun|n=>n⟩
theorem Tryz.H8:Go.Proofs.Lays.n119 Tryz.prog Tryz.yX:={
 mixed:=by kernel_rfl
 f119:=Tryz.func277.trans (congrArg some (by kernel_rfl))
 t4:=jS
 a4:=Tryz.isAgg4
 z4:=Tryz.sizeOf4
 v4:=pG
 t21:=Tryz.underlying21
 a21:=Tryz.isAgg21
 z21:=Tryz.sizeOf21
 v21:=Tryz.zeroValue21}
def Tryz.yY:Go.Shelf.Ren:=⟨fun|106=>159|213=>198|265=>235|n=>n,fun|9=>9|3=>3|n=>n,fun|n=>n⟩
theorem Tryz.H9:Go.Proofs.Lays.n106 Tryz.prog Tryz.yY:={
 mixed:=by kernel_rfl
 f106:=Tryz.func159.trans (congrArg some (by kernel_rfl))
 f213:=Tryz.func198.trans (congrArg some (by kernel_rfl))
 f265:=Tryz.func235.trans (congrArg some (by kernel_rfl))
 t3:=ay
 a3:=sI
 z3:=oX
 v3:=jg
 t9:=aA
 a9:=sJ
 z9:=oY
 v9:=jh}
theorem Tryz.pT:Builder.Extra Tryz.prog Tryz.rz:={
 sizeBuilder:=by kernel_rfl
 liesBuilder:=by kernel_rfl
 t5:=cw
 a5:=Tryz.isAgg5
 z5:=Tryz.sizeOf5
 v5:=Tryz.zeroValue5
 infoByte:=by kernel_rfl
 cellsByte:=by kernel_rfl
 sizeByte:=by kernel_rfl
 neB5:=by decide}
def Tryz.rA:Go.Shelf.Ren:=⟨fun|168=>254|240=>275|242=>276|276=>285|278=>286|n=>n,fun|0=>0|3=>3|4=>4|5=>5|9=>9|20=>20|21=>21|37=>147|46=>183|51=>273|70=>307|72=>309|75=>311|80=>315|164=>336|n=>n,fun|n=>n⟩
theorem Tryz.Ia:Go.Proofs.Lays.n168 Tryz.prog Tryz.rA:={
 mixed:=by kernel_rfl
 f168:=Tryz.func254.trans (congrArg some (by kernel_rfl))
 f240:=Tryz.func275.trans (congrArg some (by kernel_rfl))
 f242:=Tryz.func276.trans (congrArg some (by kernel_rfl))
 f276:=Tryz.func285.trans (congrArg some (by kernel_rfl))
 f278:=Tryz.func286.trans (congrArg some (by kernel_rfl))
 t0:=iw
 a0:=sH
 z0:=oW
 v0:=jf
 t3:=ay
 a3:=sI
 z3:=oX
 v3:=jg
 t4:=jS
 a4:=Tryz.isAgg4
 z4:=Tryz.sizeOf4
 v4:=pG
 t5:=cw
 a5:=Tryz.isAgg5
 z5:=Tryz.sizeOf5
 v5:=Tryz.zeroValue5
 t9:=aA
 a9:=sJ
 z9:=oY
 v9:=jh
 t20:=Tryz.underlying20
 a20:=Tryz.isAgg20
 z20:=Tryz.sizeOf20
 v20:=Tryz.zeroValue20
 t21:=Tryz.underlying21
 a21:=Tryz.isAgg21
 z21:=Tryz.sizeOf21
 v21:=Tryz.zeroValue21
 t37:=bD
 a37:=Tryz.isAgg147
 z37:=Tryz.sizeOf147
 v37:=Tryz.zeroValue147
 t46:=Tryz.underlying183
 a46:=Tryz.isAgg183
 z46:=Tryz.sizeOf183
 v46:=Tryz.zeroValue183
 t51:=Tryz.underlying273
 a51:=Tryz.isAgg273
 z51:=Tryz.sizeOf273
 v51:=Tryz.zeroValue273
 t70:=Tryz.underlying307
 a70:=Tryz.isAgg307
 z70:=Tryz.sizeOf307
 v70:=Tryz.zeroValue307
 t72:=Tryz.underlying309
 a72:=Tryz.isAgg309
 z72:=Tryz.sizeOf309
 v72:=Tryz.zeroValue309
 t75:=Tryz.underlying311
 a75:=Tryz.isAgg311
 z75:=Tryz.sizeOf311
 v75:=Tryz.zeroValue311
 t164:=Tryz.underlying336
 a164:=Tryz.isAgg336
 z164:=Tryz.sizeOf336
 v164:=Tryz.zeroValue336}
theorem Tryz.pU:Builder.Extra Tryz.prog Tryz.rA where
 sizeBuilder:=by kernel_rfl
 liesBuilder:=by kernel_rfl
 t5:=cw
 a5:=Tryz.isAgg5
 z5:=Tryz.sizeOf5
 v5:=Tryz.zeroValue5
 infoByte:=by kernel_rfl
 cellsByte:=by kernel_rfl
 sizeByte:=by kernel_rfl
 neB5:=by decide
end Go.Proofs
namespace Go.K
open Go.Proofs
set_option maxRecDepth 10000
open Go.RowKit Go.Shelf
theorem AU (r:Int) (w:World):Spec Tryz.prog 277 #[.int .i32 r] w (fun v w'=>v= .bool (Lib.validRune r)∧w'=w):=(Any.utf8_ValidRune Tryz.H8 r w).mono fun e w' ⟨h1,h2⟩=>⟨_,h1,rfl,h2⟩
theorem C6 {B b:Nat} {bs:List Value} {r:Int} (w:World) (hr: -2147483648≤r∧r≤2147483647) (h:Lib.IsBuilderF 309 5 B b bs w) (hl:bs.length+4≤140737488355328) (hB:B≤w.heap.size):
  Spec Tryz.prog 254 #[.pointer (some ⟨b,0,none⟩),.int .i32 r] w (fun v w'=>Lib.IsBuilderF 309 5 B b (bs++Lib.runeCells r) w'∧Below B w w'):=
 (Any.Builder_WriteRune_k Tryz.Ia Tryz.pU B b bs r hr.1 hr.2 w h hl hB).mono fun e w' ⟨h1,h2,h3,_⟩=>⟨_,h1,.inr h2,h3⟩
theorem EJ {B b:Nat} {l:List UInt8} (w:World) (h:Lib.IsBuilderF 309 5 B b (Lib.byteCells l) w) (hB:B≤w.heap.size):
  Spec Tryz.prog 256 #[.pointer (some ⟨b,0,none⟩)] w (fun v w'=>v= .string ⟨l.toArray⟩∧Below B w w'):=
 (Any.Builder_String_any_k Tryz.H7 Tryz.pT B b l w h hB).mono fun e w' ⟨h1,_,h3,_⟩=>⟨_,h1,rfl,h3⟩
theorem wrap32 {c:Int} (h:0≤c∧c≤1114111):IntKind.i32.wrap c=c:=by
 show(if(true&&decide (c%4294967296≥2147483648))=true then c%4294967296-4294967296 else c%4294967296)=c;rw[if_neg (by simp only[fm,decide_eq_true_eq];omega)];omega
def pV (c:Int):Int:=if c<0∨c>1114111∨Lib.validRune c=false then 65533 else c
theorem B8 (c:Int):0≤pV c∧pV c≤1114111:=by unfold pV;split<;>omega
def jb (l:List Int):List UInt8:=l.flatMap fun c=>Lib.encodeRune (pV c)
theorem kq (l:List Int) (c:Int):jb (l++[c])=jb l++Lib.encodeRune (pV c):=by simp[jb]
theorem Ib (r:Int):(Lib.encodeRune r).length≤4:=by have:=(Lib.encodeRuneZ_length r).2;simpa[Lib.encodeRune]using this
theorem eW (l:List Int):(jb l).length≤4*l.length:=by
 induction l with
 |nil=>simp[jb]
 |cons c l ih=>
  have:=Ib (pV c);simp only[jb,List.flatMap_cons,bO,cM]at ih ⊢;omega
theorem tz (l:List Int) (c:Int):Lib.byteCells (jb l)++Lib.runeCells (pV c)=Lib.byteCells (jb (l++[c])):=by
 rw[kq,←Lib.byteCells_encodeRune];simp[Lib.byteCells]
theorem EK (c:Int) (w0:World):
  Spec Tryz.prog 255 #[.int .i64 c] w0 (fun v w=>v= .int .i32 (pV c)∧w=w0):=by
 refine bh (args:=[_]) (fn:=Tryz.f255) Tryz.func255 rfl (n:=17) Tryz.ntmps255 (ak (aj (ah rfl rfl (ad (ak (ak (aj (ae rfl rfl (cj rfl rfl rfl (ae rfl rfl ?_))))))))));refine aL (g:=5) rfl (fun fX=>?_) (fun fX=>?_)
 ·refine aq rfl rfl rfl rfl (aq rfl rfl rfl rfl (aP rfl rfl rfl (ae rfl rfl (aq rfl rfl rfl rfl (aq rfl rfl rfl rfl (aq rfl rfl rfl rfl (aq rfl rfl rfl rfl (aP rfl rfl rfl (ad (jH rfl (ak ?_)))))))))));refine aj (ah rfl rfl (ad (aM ?_)));exact aS rfl rfl ⟨by rw[pV,if_pos (by first|exact .inl (by omega)|exact .inr (.inl (by omega))|exact .inr (.inr (by assumption)))],rfl⟩
 ·refine an rfl rfl (ae rfl rfl (an rfl rfl (lF rfl rfl rfl (aE rfl rfl rfl (ae rfl rfl ?_)))));refine aL (g:=9) rfl (fun xJ=>?_) (fun xJ=>?_)
  ·refine aq rfl rfl rfl rfl (aq rfl rfl rfl rfl (aq rfl rfl rfl rfl (aq rfl rfl rfl rfl (aP rfl rfl rfl (ad (jH rfl (ak (aj (ah rfl rfl (ad (aM ?_)))))))))));exact aS rfl rfl ⟨by rw[pV,if_pos (by first|exact .inl (by omega)|exact .inr (.inl (by omega))|exact .inr (.inr (by assumption)))],rfl⟩
  ·refine an rfl rfl (ae rfl rfl (an rfl rfl (vh ay Tryz.underlying21 rfl rfl (bI (v':= .int .i32 c) (congrArg (Value.int .i32) (wrap32 (by omega))) (an rfl rfl ?_)))));refine aT rfl rfl Vk (AU _ _) (fun r wc hc=>?_);obtain⟨rfl,rfl⟩:=hc;refine an rfl rfl (jx rfl rfl (bI (v':= .bool (decide (Lib.validRune c=false))) (by cases Lib.validRune c<;>rfl) (aE rfl rfl rfl (ad ?_))));refine bK rfl (fun c1=>?_) (fun c1=>?_)
   ·refine ak (aj (ah rfl rfl (ad (aM ?_))));exact aS rfl rfl ⟨by rw[pV,if_pos (by first|exact .inl (by omega)|exact .inr (.inl (by omega))|exact .inr (.inr (by assumption)))],rfl⟩
   ·refine aU (ak (aj (ae rfl rfl (vh ay Tryz.underlying21 rfl rfl (bI (v':= .int .i32 c) (congrArg (Value.int .i32) (wrap32 (by omega))) (ah rfl rfl (ad (aM ?_))))))));exact aS rfl rfl ⟨by rw[pV,if_neg (by rintro(h|h|h)<;>first|omega|exact absurd h (by assumption))],rfl⟩
theorem C7 {M:aI} {xs:List Int} {v0:Value} (w0:World) (hM:Lt M w0) (hv:((RT.int .i64).sl).V M w0 xs v0) (hl:xs.length≤1000000):
  Spec Tryz.prog 224 #[v0] w0 (fun v w=>v= .string ⟨(jb xs).toArray⟩∧Step M w0 M w aD):=by
 refine bh (args:=[_]) (fn:=Tryz.f224) Tryz.func224 rfl (n:=17) Tryz.ntmps224 (ak (aj (ah rfl rfl (ad (ak (aj ?_))))));refine dL M UF rfl (fun b w1 p1 q1 g1 s1=>?_);have nA:Lib.IsBuilderF 309 5 w0.heap.size b (Lib.byteCells (jb (xs.take 0))) w1:= .of (.inl ⟨p1,.slice none 0 0,g1,World.ownsRow_nil _ _ _ _,by simp[Value.ownBlock]⟩);have S1:Below w0.heap.size w0 w1:=s1.below;refine ad (ak (ak (aj (ae rfl rfl (bz au rfl hv rfl (ae rfl rfl (ad (aW ?_))))))));refine cX (σ:=Nat) (fun k=>[(3,.pointer (some ⟨b,0,none⟩)),(6,v0),(7,.int .i64 (xs.length:Int)),(8,.int .i64 (k:Int))]) (fun k w=>Lib.IsBuilderF 309 5 w0.heap.size b (Lib.byteCells (jb (xs.take k))) w∧Below w0.heap.size w0 w∧k≤xs.length) (fun k=>xs.length-k) 0 (.cons rfl (.cons rfl (.cons rfl (.cons rfl .nil)))) ?_ ?_
 ·exact⟨nA,S1,bC _⟩
 ·rintro k w ⟨hb,S,hk⟩;refine ak (aj (cj rfl rfl rfl (ad (ak ?_))));refine bK rfl (fun c3=>?_) (fun c3=>?_)
  ·refine aU (ak (aW (ak (aj ?_))));refine cb (M:=M) au I3 rfl rfl rfl hv (Step.tt S M).le (by omega) (fun u4 c yw Hz=>?_);refine b4 (M:=M) ay rfl rfl Hz (ao _ _) (fun in4=>?_);refine ah rfl rfl (ad (aj (ae rfl rfl ?_)));refine aT rfl rfl Vi (EK c _) (fun r wc hc=>?_);obtain⟨rfl,rfl⟩:=hc;refine aT rfl rfl Vh (C6 _ (by have:=B8 c;omega) hb (by rw[Lib.byteCells_length];have:=eW (xs.take k);rw[bF]at this;omega) S.size) (fun r5 w5 hc=>?_);obtain⟨JG,S5⟩:=hc;have tk:xs.take (k+1)=xs.take k++[c]:=by rw[bc];simp only[aB]at yw;rw[yw];rfl
   rw[tz,←tk]at JG;have S6:=S.trans S5;refine ad (aj (bE rfl rfl rfl (by omega) (ae rfl rfl (ad ?_))));refine⟨rfl,k+1,(.cons rfl (.cons rfl (.cons rfl (.cons rfl .nil)))),?_,?_⟩
   ·exact⟨JG,S6,by omega⟩
   ·omega
  ·refine cK (ak (aj ?_));refine aT rfl rfl Vj (EJ _ hb S.size) (fun r7 w7 hc=>?_);obtain⟨rfl,S7⟩:=hc;refine ah rfl rfl (ad (aM ?_));have e:xs.take k=xs:=aK (by omega);rw[e];exact aS rfl rfl ⟨rfl,Step.tt (S.trans S7) M⟩
end Go.K
namespace Go.K
def nO (c:Int):Int:=if 194≤c∧c<224 then 2 else if 224≤c∧c<240 then 3 else if 240≤c∧c<245 then 4 else 0
def fJ (c:Int):Int:=if 194≤c∧c<224 then 128 else if 224≤c∧c<240 then 2048 else if 240≤c∧c<245 then 65536 else 0
def qM (c:Int):Int:=if 194≤c∧c<224 then c-192 else if 224≤c∧c<240 then c-224 else if 240≤c∧c<245 then c-240 else 0
def vO (l:List UInt8):Nat→Int
 |0=>qM (iJ l 0)
 |k+1=>64*vO l k+iJ l (k+1)-128
theorem fC {l:List UInt8} {k:Nat}:iE l k=true↔k<l.length∧128≤iJ l k∧iJ l k<192:=by
 unfold iE;simp only[bU,decide_eq_true_eq,beq_iff_eq];omega
theorem wM {n:Nat}:Utf8.valid (n:Int)=true↔(n<55296∨(57344≤n∧n≤1114111)):=by
 simp only[Utf8.valid,Bool.or_eq_true,bU,decide_eq_true_eq];omega
theorem Ps {l:List UInt8} (h:(iJ l 0:Int)<128):dec l=(iJ l 0,1):=by
 unfold dec yU;rw[if_pos (by omega)]
theorem B9 {l:List UInt8} (h0:128≤(iJ l 0:Int)) (h:nO (iJ l 0)=0∨∃k:Nat,1≤k∧(k:Int)<nO (iJ l 0)∧iE l k=false):dec l=(65533,1):=by
 have hb:=me l 0;unfold dec yU;rw[if_neg (by omega)]
 have hk:nO (iJ l 0)=0∨(2≤nO (iJ l 0)∧iE l 1=false)∨(3≤nO (iJ l 0)∧iE l 2=false)∨(4≤nO (iJ l 0)∧iE l 3=false):=by
  rcases h with h|⟨k,h1,h2,h3⟩
  ·exact .inl h
  ·have:nO (iJ l 0)≤4:=by
    unfold nO
    split
    ·omega
    ·split
     ·omega
     ·split<;>omega
   have hk:k=1∨k=2∨k=3:=by omega
   rcases hk with rfl|rfl|rfl
   ·exact .inr (.inl ⟨by omega,h3⟩)
   ·exact .inr (.inr (.inl ⟨by omega,h3⟩))
   ·exact .inr (.inr (.inr ⟨by omega,h3⟩))
 simp only[beq_iff_eq,bU,decide_eq_true_eq,ge_iff_le,wM];have hn:nO (iJ l 0)=if 194≤(iJ l 0:Int)∧(iJ l 0:Int)<224 then 2 else if 224≤(iJ l 0:Int)∧(iJ l 0:Int)<240 then 3 else if 240≤(iJ l 0:Int)∧(iJ l 0:Int)<245 then 4 else 0:=rfl
 rw[hn]at hk
 split
 ·rename_i hc
  obtain⟨rX,pW⟩:=hc
  split
  ·rename_i hv
   exfalso;by_cases adB:194≤(iJ l 0:Int)
   ·rw[if_pos (by omega)]at hk;rcases hk with hk|⟨_,hk⟩|⟨hk,_⟩|⟨hk,_⟩
    ·omega
    ·rw[hk]at pW;cases pW
    ·omega
    ·omega
   ·omega
  ·rfl
 ·split
  ·rename_i hc
   obtain⟨⟨rX,pW⟩,Pt⟩:=hc
   split
   ·exfalso;rw[if_neg (by omega),if_pos (by omega)]at hk;rcases hk with hk|⟨_,hk⟩|⟨_,hk⟩|⟨hk,_⟩
    ·omega
    ·rw[hk]at pW;cases pW
    ·rw[hk]at Pt;cases Pt
    ·omega
   ·rfl
  ·split
   ·rename_i hc
    obtain⟨⟨⟨rX,pW⟩,Pt⟩,hc4⟩:=hc
    split
    ·rename_i hv
     exfalso;by_cases adC:(iJ l 0:Int)<245
     ·rw[if_neg (by omega),if_neg (by omega),if_pos (by omega)]at hk;rcases hk with hk|⟨_,hk⟩|⟨_,hk⟩|⟨_,hk⟩
      ·omega
      ·rw[hk]at pW;cases pW
      ·rw[hk]at Pt;cases Pt
      ·rw[hk]at hc4;cases hc4
     ·omega
    ·rfl
   ·rfl
theorem lN {c:Int} (h:nO c≠0):(nO c=2∧fJ c=128∧qM c=c-192∧194≤c∧c<224)∨(nO c=3∧fJ c=2048∧qM c=c-224∧224≤c∧c<240)∨(nO c=4∧fJ c=65536∧qM c=c-240∧240≤c∧c<245):=by
 by_cases h1:194≤c∧c<224
 ·exact .inl ⟨if_pos h1,if_pos h1,if_pos h1,h1.1,h1.2⟩
 ·by_cases h2:224≤c∧c<240
  ·exact .inr (.inl ⟨(if_neg h1).trans (if_pos h2),(if_neg h1).trans (if_pos h2),(if_neg h1).trans (if_pos h2),h2.1,h2.2⟩)
  ·by_cases h3:240≤c∧c<245
   ·exact .inr (.inr ⟨(if_neg h1).trans ((if_neg h2).trans (if_pos h3)),(if_neg h1).trans ((if_neg h2).trans (if_pos h3)),(if_neg h1).trans ((if_neg h2).trans (if_pos h3)),h3.1,h3.2⟩)
   ·exact absurd ((if_neg h1).trans ((if_neg h2).trans (if_neg h3))) h
theorem yZ {l:List UInt8} (hn:nO (iJ l 0)≠0) (hc:∀k:Nat,1≤k→(k:Int)<nO (iJ l 0)→iE l k=true) (v:Int) (hv:v=vO l (nO (iJ l 0)-1).toNat):
  dec l=if v<fJ (iJ l 0)∨v>1114111∨(55296≤v∧v≤57343)then(65533,1)else(v.toNat,(nO (iJ l 0)).toNat):=by
 have hb:=me l 0;have b1:=me l 1;have b2:=me l 2;have b3:=me l 3;unfold dec yU;simp only[beq_iff_eq,bU,decide_eq_true_eq,ge_iff_le,wM];rcases lN hn with⟨e1,e2,e3,e4,e5⟩|⟨e1,e2,e3,e4,e5⟩|⟨e1,e2,e3,e4,e5⟩
 ·have c1:=hc 1 (by omega) (by omega);have d1:=fC.1 c1;rw[e1]at hv;have qu:v=64*((iJ l 0:Int)-192)+iJ l 1-128:=by rw[hv];show 64*qM (iJ l 0)+_-_=_;rw[e3]
  rw[if_neg (by omega),if_pos ⟨by omega,c1⟩,e2,e1];by_cases hx:v<128∨v>1114111∨(55296≤v∧v≤57343)
  ·rw[if_pos hx,if_neg (by omega)]
  ·rw[if_neg hx,if_pos (by omega)];simp only[Prod.mk.injEq];omega
 ·have c1:=hc 1 (by omega) (by omega);have c2:=hc 2 (by omega) (by omega);have d1:=fC.1 c1;have d2:=fC.1 c2;rw[e1]at hv;have qu:v=64*(64*((iJ l 0:Int)-224)+iJ l 1-128)+iJ l 2-128:=by rw[hv];show 64*(64*qM (iJ l 0)+_-_)+_-_=_;rw[e3]
  rw[if_neg (by omega),if_neg (by omega),if_pos ⟨⟨by omega,c1⟩,c2⟩,e2,e1];by_cases hx:v<2048∨v>1114111∨(55296≤v∧v≤57343)
  ·rw[if_pos hx,if_neg (by omega)]
  ·rw[if_neg hx,if_pos (by omega)];simp only[Prod.mk.injEq];omega
 ·have c1:=hc 1 (by omega) (by omega);have c2:=hc 2 (by omega) (by omega);have c3:=hc 3 (by omega) (by omega);have d1:=fC.1 c1;have d2:=fC.1 c2;have d3:=fC.1 c3;rw[e1]at hv;have qu:v=64*(64*(64*((iJ l 0:Int)-240)+iJ l 1-128)+iJ l 2-128)+iJ l 3-128:=by rw[hv];show 64*(64*(64*qM (iJ l 0)+_-_)+_-_)+_-_=_;rw[e3]
  rw[if_neg (by omega),if_neg (by omega),if_neg (by omega),if_pos ⟨⟨⟨by omega,c1⟩,c2⟩,c3⟩,e2,e1];by_cases hx:v<65536∨v>1114111∨(55296≤v∧v≤57343)
  ·rw[if_pos hx,if_neg (by omega)]
  ·rw[if_neg hx,if_pos (by omega)];simp only[Prod.mk.injEq];omega
end Go.K
namespace Go.K
open Go.Proofs
set_option maxRecDepth 10000
theorem xK (c:Int) (w0:World):
  Spec Tryz.prog 253 #[.int .i64 c] w0 (fun v w=>v= .bool (eF c)∧w=w0):=by
 refine bh (args:=[_]) (fn:=Tryz.f253) Tryz.func253 rfl (n:=31) Tryz.ntmps253 (ak (aj (ah rfl rfl (ad (ak (ak (aj (ae rfl rfl (dN rfl rfl rfl (ae rfl rfl ?_))))))))));refine aL (g:=5) rfl (fun fX=>?_) (fun fX=>?_)
 ·refine an rfl rfl (ae rfl rfl (an rfl rfl (fh rfl rfl rfl (aP rfl rfl rfl (ae rfl rfl ?_)))));refine aL (g:=9) rfl (fun xJ=>?_) (fun xJ=>?_)
  ·refine aq rfl rfl rfl rfl (aq rfl rfl rfl rfl (aq rfl rfl rfl rfl (ck rfl rfl rfl (ck rfl rfl rfl (aq rfl rfl rfl rfl (aP rfl rfl rfl (ad (jH rfl (ak (aj (ah rfl rfl ?_)))))))))));refine ad (aM ?_);exact aS rfl rfl ⟨by simp only[eF];first|rfl|(congr 1;first|(exact(decide_eq_true (by omega)).symm)|(exact(decide_eq_false (by omega)).symm)|(exact decide_eq_decide.2 (by omega))),rfl⟩
  ·refine an rfl rfl (ae rfl rfl (an rfl rfl (dN rfl rfl rfl (an rfl rfl (ae rfl rfl ?_)))));refine aL (g:=12) rfl (fun pq=>?_) (fun pq=>?_)
   ·refine an rfl rfl (ae rfl rfl (an rfl rfl (fh rfl rfl rfl (an rfl rfl (aP rfl rfl rfl (aE rfl rfl rfl (ad ?_)))))));refine bK rfl (fun c1=>?_) (fun c1=>?_)
    ·refine ak (aj (ah rfl rfl (ad (aM ?_))));exact aS rfl rfl ⟨by simp only[eF];first|rfl|(congr 1;first|(exact(decide_eq_true (by omega)).symm)|(exact(decide_eq_false (by omega)).symm)|(exact decide_eq_decide.2 (by omega))),rfl⟩
    ·refine aU (ak (aj (ae rfl rfl (dN rfl rfl rfl (ae rfl rfl ?_)))));refine aL (g:=19) rfl (fun AV=>?_) (fun AV=>?_)
     ·refine an rfl rfl (ae rfl rfl (an rfl rfl (fh rfl rfl rfl (aP rfl rfl rfl (ae rfl rfl ?_)))));refine aL (g:=23) rfl (fun AW=>?_) (fun AW=>?_)
      ·refine an rfl rfl (ae rfl rfl (an rfl rfl (dW rfl rfl rfl (aP rfl rfl rfl (ae rfl rfl ?_)))));refine aL (g:=27) rfl (fun tA=>?_) (fun tA=>?_)
       ·refine an rfl rfl (ae rfl rfl (an rfl rfl (dW rfl rfl rfl (aP rfl rfl rfl (ah rfl rfl (ad (aM ?_)))))));exact aS rfl rfl ⟨by simp only[eF];first|rfl|(congr 1;first|(exact(decide_eq_true (by omega)).symm)|(exact(decide_eq_false (by omega)).symm)|(exact decide_eq_decide.2 (by omega))),rfl⟩
       ·refine aq rfl rfl rfl rfl (aq rfl rfl rfl rfl (aE rfl rfl rfl (ah rfl rfl (ad (aM ?_)))));exact aS rfl rfl ⟨by simp only[eF];first|rfl|(congr 1;first|(exact(decide_eq_true (by omega)).symm)|(exact(decide_eq_false (by omega)).symm)|(exact decide_eq_decide.2 (by omega))),rfl⟩
      ·refine aq rfl rfl rfl rfl (aq rfl rfl rfl rfl (aE rfl rfl rfl (ae rfl rfl (aq rfl rfl rfl rfl (aq rfl rfl rfl rfl (aE rfl rfl rfl (ah rfl rfl (ad (aM ?_)))))))));exact aS rfl rfl ⟨by simp only[eF];first|rfl|(congr 1;first|(exact(decide_eq_true (by omega)).symm)|(exact(decide_eq_false (by omega)).symm)|(exact decide_eq_decide.2 (by omega))),rfl⟩
     ·refine aq rfl rfl rfl rfl (aq rfl rfl rfl rfl (aE rfl rfl rfl (ae rfl rfl (aq rfl rfl rfl rfl (aq rfl rfl rfl rfl (aE rfl rfl rfl (ae rfl rfl (aq rfl rfl rfl rfl (aq rfl rfl rfl rfl (aE rfl rfl rfl (ah rfl rfl ?_)))))))))));refine ad (aM ?_);exact aS rfl rfl ⟨by simp only[eF];first|rfl|(congr 1;first|(exact(decide_eq_true (by omega)).symm)|(exact(decide_eq_false (by omega)).symm)|(exact decide_eq_decide.2 (by omega))),rfl⟩
   ·refine aq rfl rfl rfl rfl (aq rfl rfl rfl rfl (an rfl rfl (aE rfl rfl rfl (aE rfl rfl rfl (ad (iV rfl (aU (ak (aj (ae rfl rfl (dN rfl rfl rfl ?_)))))))))));refine ae rfl rfl ?_;refine aL (g:=19) rfl (fun AV=>?_) (fun AV=>?_)
    ·refine an rfl rfl (ae rfl rfl (an rfl rfl (fh rfl rfl rfl (aP rfl rfl rfl (ae rfl rfl ?_)))));refine aL (g:=23) rfl (fun AW=>?_) (fun AW=>?_)
     ·refine an rfl rfl (ae rfl rfl (an rfl rfl (dW rfl rfl rfl (aP rfl rfl rfl (ae rfl rfl ?_)))));refine aL (g:=27) rfl (fun tA=>?_) (fun tA=>?_)
      ·refine an rfl rfl (ae rfl rfl (an rfl rfl (dW rfl rfl rfl (aP rfl rfl rfl (ah rfl rfl (ad (aM ?_)))))));exact aS rfl rfl ⟨by simp only[eF];first|rfl|(congr 1;first|(exact(decide_eq_true (by omega)).symm)|(exact(decide_eq_false (by omega)).symm)|(exact decide_eq_decide.2 (by omega))),rfl⟩
      ·refine aq rfl rfl rfl rfl (aq rfl rfl rfl rfl (aE rfl rfl rfl (ah rfl rfl (ad (aM ?_)))));exact aS rfl rfl ⟨by simp only[eF];first|rfl|(congr 1;first|(exact(decide_eq_true (by omega)).symm)|(exact(decide_eq_false (by omega)).symm)|(exact decide_eq_decide.2 (by omega))),rfl⟩
     ·refine aq rfl rfl rfl rfl (aq rfl rfl rfl rfl (aE rfl rfl rfl (ae rfl rfl (aq rfl rfl rfl rfl (aq rfl rfl rfl rfl (aE rfl rfl rfl (ah rfl rfl (ad (aM ?_)))))))));exact aS rfl rfl ⟨by simp only[eF];first|rfl|(congr 1;first|(exact(decide_eq_true (by omega)).symm)|(exact(decide_eq_false (by omega)).symm)|(exact decide_eq_decide.2 (by omega))),rfl⟩
    ·refine aq rfl rfl rfl rfl (aq rfl rfl rfl rfl (aE rfl rfl rfl (ae rfl rfl (aq rfl rfl rfl rfl (aq rfl rfl rfl rfl (aE rfl rfl rfl (ae rfl rfl (aq rfl rfl rfl rfl (aq rfl rfl rfl rfl (aE rfl rfl rfl (ah rfl rfl ?_)))))))))));refine ad (aM ?_);exact aS rfl rfl ⟨by simp only[eF];first|rfl|(congr 1;first|(exact(decide_eq_true (by omega)).symm)|(exact(decide_eq_false (by omega)).symm)|(exact decide_eq_decide.2 (by omega))),rfl⟩
 ·refine aq rfl rfl rfl rfl (aq rfl rfl rfl rfl (aE rfl rfl rfl (ae rfl rfl (an rfl rfl (ae rfl rfl (an rfl rfl (dN rfl rfl rfl (an rfl rfl (ae rfl rfl ?_)))))))));refine aL (g:=12) rfl (fun pq=>?_) (fun pq=>?_)
  ·refine an rfl rfl (ae rfl rfl (an rfl rfl (fh rfl rfl rfl (an rfl rfl (aP rfl rfl rfl (aE rfl rfl rfl (ad ?_)))))));refine bK rfl (fun c1=>?_) (fun c1=>?_)
   ·refine ak (aj (ah rfl rfl (ad (aM ?_))));exact aS rfl rfl ⟨by simp only[eF];first|rfl|(congr 1;first|(exact(decide_eq_true (by omega)).symm)|(exact(decide_eq_false (by omega)).symm)|(exact decide_eq_decide.2 (by omega))),rfl⟩
   ·refine aU (ak (aj (ae rfl rfl (dN rfl rfl rfl (ae rfl rfl ?_)))));refine aL (g:=19) rfl (fun AV=>?_) (fun AV=>?_)
    ·refine an rfl rfl (ae rfl rfl (an rfl rfl (fh rfl rfl rfl (aP rfl rfl rfl (ae rfl rfl ?_)))));refine aL (g:=23) rfl (fun AW=>?_) (fun AW=>?_)
     ·refine an rfl rfl (ae rfl rfl (an rfl rfl (dW rfl rfl rfl (aP rfl rfl rfl (ae rfl rfl ?_)))));refine aL (g:=27) rfl (fun tA=>?_) (fun tA=>?_)
      ·refine an rfl rfl (ae rfl rfl (an rfl rfl (dW rfl rfl rfl (aP rfl rfl rfl (ah rfl rfl (ad (aM ?_)))))));exact aS rfl rfl ⟨by simp only[eF];first|rfl|(congr 1;first|(exact(decide_eq_true (by omega)).symm)|(exact(decide_eq_false (by omega)).symm)|(exact decide_eq_decide.2 (by omega))),rfl⟩
      ·refine aq rfl rfl rfl rfl (aq rfl rfl rfl rfl (aE rfl rfl rfl (ah rfl rfl (ad (aM ?_)))));exact aS rfl rfl ⟨by simp only[eF];first|rfl|(congr 1;first|(exact(decide_eq_true (by omega)).symm)|(exact(decide_eq_false (by omega)).symm)|(exact decide_eq_decide.2 (by omega))),rfl⟩
     ·refine aq rfl rfl rfl rfl (aq rfl rfl rfl rfl (aE rfl rfl rfl (ae rfl rfl (aq rfl rfl rfl rfl (aq rfl rfl rfl rfl (aE rfl rfl rfl (ah rfl rfl (ad (aM ?_)))))))));exact aS rfl rfl ⟨by simp only[eF];first|rfl|(congr 1;first|(exact(decide_eq_true (by omega)).symm)|(exact(decide_eq_false (by omega)).symm)|(exact decide_eq_decide.2 (by omega))),rfl⟩
    ·refine aq rfl rfl rfl rfl (aq rfl rfl rfl rfl (aE rfl rfl rfl (ae rfl rfl (aq rfl rfl rfl rfl (aq rfl rfl rfl rfl (aE rfl rfl rfl (ae rfl rfl (aq rfl rfl rfl rfl (aq rfl rfl rfl rfl (aE rfl rfl rfl (ah rfl rfl ?_)))))))))));refine ad (aM ?_);exact aS rfl rfl ⟨by simp only[eF];first|rfl|(congr 1;first|(exact(decide_eq_true (by omega)).symm)|(exact(decide_eq_false (by omega)).symm)|(exact decide_eq_decide.2 (by omega))),rfl⟩
  ·refine aq rfl rfl rfl rfl (aq rfl rfl rfl rfl (an rfl rfl (aE rfl rfl rfl (aE rfl rfl rfl (ad (iV rfl (aU (ak (aj (ae rfl rfl (dN rfl rfl rfl ?_)))))))))));refine ae rfl rfl ?_;refine aL (g:=19) rfl (fun AV=>?_) (fun AV=>?_)
   ·refine an rfl rfl (ae rfl rfl (an rfl rfl (fh rfl rfl rfl (aP rfl rfl rfl (ae rfl rfl ?_)))));refine aL (g:=23) rfl (fun AW=>?_) (fun AW=>?_)
    ·refine an rfl rfl (ae rfl rfl (an rfl rfl (dW rfl rfl rfl (aP rfl rfl rfl (ae rfl rfl ?_)))));refine aL (g:=27) rfl (fun tA=>?_) (fun tA=>?_)
     ·refine an rfl rfl (ae rfl rfl (an rfl rfl (dW rfl rfl rfl (aP rfl rfl rfl (ah rfl rfl (ad (aM ?_)))))));exact aS rfl rfl ⟨by simp only[eF];first|rfl|(congr 1;first|(exact(decide_eq_true (by omega)).symm)|(exact(decide_eq_false (by omega)).symm)|(exact decide_eq_decide.2 (by omega))),rfl⟩
     ·refine aq rfl rfl rfl rfl (aq rfl rfl rfl rfl (aE rfl rfl rfl (ah rfl rfl (ad (aM ?_)))));exact aS rfl rfl ⟨by simp only[eF];first|rfl|(congr 1;first|(exact(decide_eq_true (by omega)).symm)|(exact(decide_eq_false (by omega)).symm)|(exact decide_eq_decide.2 (by omega))),rfl⟩
    ·refine aq rfl rfl rfl rfl (aq rfl rfl rfl rfl (aE rfl rfl rfl (ae rfl rfl (aq rfl rfl rfl rfl (aq rfl rfl rfl rfl (aE rfl rfl rfl (ah rfl rfl (ad (aM ?_)))))))));exact aS rfl rfl ⟨by simp only[eF];first|rfl|(congr 1;first|(exact(decide_eq_true (by omega)).symm)|(exact(decide_eq_false (by omega)).symm)|(exact decide_eq_decide.2 (by omega))),rfl⟩
   ·refine aq rfl rfl rfl rfl (aq rfl rfl rfl rfl (aE rfl rfl rfl (ae rfl rfl (aq rfl rfl rfl rfl (aq rfl rfl rfl rfl (aE rfl rfl rfl (ae rfl rfl (aq rfl rfl rfl rfl (aq rfl rfl rfl rfl (aE rfl rfl rfl (ah rfl rfl ?_)))))))))));refine ad (aM ?_);exact aS rfl rfl ⟨by simp only[eF];first|rfl|(congr 1;first|(exact(decide_eq_true (by omega)).symm)|(exact(decide_eq_false (by omega)).symm)|(exact decide_eq_decide.2 (by omega))),rfl⟩
theorem AX (c:Int) (w0:World) (hc:0≤c∧c≤1114111):
  Spec Tryz.prog 218 #[.int .i64 c] w0 (fun v w=>v= .int .i64 (eH c)∧w=w0):=by
 refine bh (args:=[_]) (fn:=Tryz.f218) Tryz.func218 rfl (n:=28) Tryz.ntmps218 (ak (aj (ah rfl rfl (ad (ak (ak (aj (ae rfl rfl (dN rfl rfl rfl (ae rfl rfl ?_))))))))));refine aL (g:=5) rfl (fun fX=>?_) (fun fX=>?_)
 ·refine an rfl rfl (ae rfl rfl (an rfl rfl (fh rfl rfl rfl (aP rfl rfl rfl (ae rfl rfl ?_)))));refine aL (g:=9) rfl (fun xJ=>?_) (fun xJ=>?_)
  ·refine aq rfl rfl rfl rfl (aq rfl rfl rfl rfl (aq rfl rfl rfl rfl (ck rfl rfl rfl (ck rfl rfl rfl (aq rfl rfl rfl rfl (aP rfl rfl rfl (ae rfl rfl (aq rfl rfl rfl rfl (aq rfl rfl rfl rfl (aq rfl rfl rfl rfl (ck rfl rfl rfl ?_)))))))))));refine ck rfl rfl rfl (aq rfl rfl rfl rfl (aP rfl rfl rfl (ad (jH rfl (ak (aj (ae rfl rfl (bE rfl rfl rfl (by omega) (ah rfl rfl (ad (aM ?_)))))))))));exact aS rfl rfl ⟨by rw[eH,if_pos (by omega)],rfl⟩
  ·refine an rfl rfl (ae rfl rfl (an rfl rfl (dN rfl rfl rfl (an rfl rfl (ae rfl rfl ?_)))));refine aL (g:=12) rfl (fun pq=>?_) (fun pq=>?_)
   ·refine an rfl rfl (ae rfl rfl (an rfl rfl (fh rfl rfl rfl (an rfl rfl (aP rfl rfl rfl (aE rfl rfl rfl (ae rfl rfl ?_)))))));refine aL (g:=17) rfl (fun tv=>?_) (fun tv=>?_)
    ·refine aq rfl rfl rfl rfl (aq rfl rfl rfl rfl (aq rfl rfl rfl rfl (ck rfl rfl rfl (ck rfl rfl rfl (aq rfl rfl rfl rfl (aP rfl rfl rfl (ad (jH rfl (ak (aj (ae rfl rfl ?_)))))))))));refine bE rfl rfl rfl (by omega) (ah rfl rfl (ad (aM ?_)));exact aS rfl rfl ⟨by rw[eH,if_pos (by omega)],rfl⟩
    ·refine an rfl rfl (ae rfl rfl (an rfl rfl (dN rfl rfl rfl (an rfl rfl (ae rfl rfl ?_)))));refine aL (g:=20) rfl (fun ko=>?_) (fun ko=>?_)
     ·refine an rfl rfl (ae rfl rfl (an rfl rfl (fh rfl rfl rfl (an rfl rfl (aP rfl rfl rfl (aE rfl rfl rfl (ad ?_)))))));refine bK rfl (fun c1=>?_) (fun c1=>?_)
      ·refine ak (aj (ae rfl rfl (bE rfl rfl rfl (by omega) (ah rfl rfl (ad (aM ?_))))));exact aS rfl rfl ⟨by rw[eH,if_pos (by omega)],rfl⟩
      ·refine aU (ak (aj (ae rfl rfl (ah rfl rfl (ad (aM ?_))))));exact aS rfl rfl ⟨by rw[eH,if_neg (by omega)],rfl⟩
     ·refine aq rfl rfl rfl rfl (aq rfl rfl rfl rfl (an rfl rfl (aE rfl rfl rfl (aE rfl rfl rfl (ad (iV rfl (aU (ak (aj (ae rfl rfl (ah rfl rfl ?_)))))))))));refine ad (aM ?_);exact aS rfl rfl ⟨by rw[eH,if_neg (by omega)],rfl⟩
   ·refine aq rfl rfl rfl rfl (aq rfl rfl rfl rfl (an rfl rfl (aE rfl rfl rfl (aE rfl rfl rfl (ae rfl rfl (an rfl rfl (ae rfl rfl (an rfl rfl (dN rfl rfl rfl (an rfl rfl (ae rfl rfl ?_)))))))))));refine aL (g:=20) rfl (fun ko=>?_) (fun ko=>?_)
    ·refine an rfl rfl (ae rfl rfl (an rfl rfl (fh rfl rfl rfl (an rfl rfl (aP rfl rfl rfl (aE rfl rfl rfl (ad ?_)))))));refine bK rfl (fun c1=>?_) (fun c1=>?_)
     ·refine ak (aj (ae rfl rfl (bE rfl rfl rfl (by omega) (ah rfl rfl (ad (aM ?_))))));exact aS rfl rfl ⟨by rw[eH,if_pos (by omega)],rfl⟩
     ·refine aU (ak (aj (ae rfl rfl (ah rfl rfl (ad (aM ?_))))));exact aS rfl rfl ⟨by rw[eH,if_neg (by omega)],rfl⟩
    ·refine aq rfl rfl rfl rfl (aq rfl rfl rfl rfl (an rfl rfl (aE rfl rfl rfl (aE rfl rfl rfl (ad (iV rfl (aU (ak (aj (ae rfl rfl (ah rfl rfl ?_)))))))))));refine ad (aM ?_);exact aS rfl rfl ⟨by rw[eH,if_neg (by omega)],rfl⟩
 ·refine aq rfl rfl rfl rfl (aq rfl rfl rfl rfl (aE rfl rfl rfl (ae rfl rfl (an rfl rfl (ae rfl rfl (an rfl rfl (dN rfl rfl rfl (an rfl rfl (ae rfl rfl ?_)))))))));refine aL (g:=12) rfl (fun pq=>?_) (fun pq=>?_)
  ·refine an rfl rfl (ae rfl rfl (an rfl rfl (fh rfl rfl rfl (an rfl rfl (aP rfl rfl rfl (aE rfl rfl rfl (ae rfl rfl ?_)))))));refine aL (g:=17) rfl (fun tv=>?_) (fun tv=>?_)
   ·refine aq rfl rfl rfl rfl (aq rfl rfl rfl rfl (aq rfl rfl rfl rfl (ck rfl rfl rfl (ck rfl rfl rfl (aq rfl rfl rfl rfl (aP rfl rfl rfl (ad (jH rfl (ak (aj (ae rfl rfl ?_)))))))))));refine bE rfl rfl rfl (by omega) (ah rfl rfl (ad (aM ?_)));exact aS rfl rfl ⟨by rw[eH,if_pos (by omega)],rfl⟩
   ·refine an rfl rfl (ae rfl rfl (an rfl rfl (dN rfl rfl rfl (an rfl rfl (ae rfl rfl ?_)))));refine aL (g:=20) rfl (fun ko=>?_) (fun ko=>?_)
    ·refine an rfl rfl (ae rfl rfl (an rfl rfl (fh rfl rfl rfl (an rfl rfl (aP rfl rfl rfl (aE rfl rfl rfl (ad ?_)))))));refine bK rfl (fun c1=>?_) (fun c1=>?_)
     ·refine ak (aj (ae rfl rfl (bE rfl rfl rfl (by omega) (ah rfl rfl (ad (aM ?_))))));exact aS rfl rfl ⟨by rw[eH,if_pos (by omega)],rfl⟩
     ·refine aU (ak (aj (ae rfl rfl (ah rfl rfl (ad (aM ?_))))));exact aS rfl rfl ⟨by rw[eH,if_neg (by omega)],rfl⟩
    ·refine aq rfl rfl rfl rfl (aq rfl rfl rfl rfl (an rfl rfl (aE rfl rfl rfl (aE rfl rfl rfl (ad (iV rfl (aU (ak (aj (ae rfl rfl (ah rfl rfl ?_)))))))))));refine ad (aM ?_);exact aS rfl rfl ⟨by rw[eH,if_neg (by omega)],rfl⟩
  ·refine aq rfl rfl rfl rfl (aq rfl rfl rfl rfl (an rfl rfl (aE rfl rfl rfl (aE rfl rfl rfl (ae rfl rfl (an rfl rfl (ae rfl rfl (an rfl rfl (dN rfl rfl rfl (an rfl rfl (ae rfl rfl ?_)))))))))));refine aL (g:=20) rfl (fun ko=>?_) (fun ko=>?_)
   ·refine an rfl rfl (ae rfl rfl (an rfl rfl (fh rfl rfl rfl (an rfl rfl (aP rfl rfl rfl (aE rfl rfl rfl (ad ?_)))))));refine bK rfl (fun c1=>?_) (fun c1=>?_)
    ·refine ak (aj (ae rfl rfl (bE rfl rfl rfl (by omega) (ah rfl rfl (ad (aM ?_))))));exact aS rfl rfl ⟨by rw[eH,if_pos (by omega)],rfl⟩
    ·refine aU (ak (aj (ae rfl rfl (ah rfl rfl (ad (aM ?_))))));exact aS rfl rfl ⟨by rw[eH,if_neg (by omega)],rfl⟩
   ·refine aq rfl rfl rfl rfl (aq rfl rfl rfl rfl (an rfl rfl (aE rfl rfl rfl (aE rfl rfl rfl (ad (iV rfl (aU (ak (aj (ae rfl rfl (ah rfl rfl ?_)))))))))));refine ad (aM ?_);exact aS rfl rfl ⟨by rw[eH,if_neg (by omega)],rfl⟩
def sx (c:Int):Bool:=decide (eF c=true∨mg c=true)
theorem y2 (c:Int) (w0:World):
  Spec Tryz.prog 217 #[.int .i64 c] w0 (fun v w=>v= .bool (sx c)∧w=w0):=by
 refine bh (args:=[_]) (fn:=Tryz.f217) Tryz.func217 rfl (n:=13) Tryz.ntmps217 (ak (aj (ah rfl rfl (ad (ak (aj (ae rfl rfl ?_)))))));refine aT rfl rfl Vg (xK _ _) (fun r wc hc=>?_);obtain⟨rfl,rfl⟩:=hc;refine bI (v':= .bool (decide (eF c=true))) (by cases eF c<;>rfl) (ae rfl rfl ?_);refine aL (g:=5) rfl (fun fX=>?_) (fun fX=>?_)
 ·refine aq rfl rfl rfl rfl (aq rfl rfl rfl rfl (aq rfl rfl rfl rfl (ck rfl rfl rfl (ck rfl rfl rfl (aq rfl rfl rfl rfl (aP rfl rfl rfl (ah rfl rfl (ad (aM ?_)))))))));have e:(mg c=true)=(48≤c∧c≤57):=by simp[mg]
  exact aS rfl rfl ⟨by simp only[sx,e];first|(congr 1;first|(exact(decide_eq_true (.inl (by assumption))).symm)|(exact(decide_eq_true (.inr (by omega))).symm)|(exact(decide_eq_false (by rintro(h|h)<;>first|exact absurd h (by assumption)|omega)).symm)|(exact decide_eq_decide.2 ⟨fun h=> .inr (by omega),fun h=>h.elim (fun h=>absurd h (by assumption)) (fun h=>by omega)⟩)),rfl⟩
 ·refine an rfl rfl (ae rfl rfl (an rfl rfl (dN rfl rfl rfl (an rfl rfl (ae rfl rfl ?_)))));refine aL (g:=8) rfl (fun mh=>?_) (fun mh=>?_)
  ·refine an rfl rfl (ae rfl rfl (an rfl rfl (fh rfl rfl rfl (an rfl rfl (aP rfl rfl rfl (aE rfl rfl rfl (ah rfl rfl (ad (aM ?_)))))))));have e:(mg c=true)=(48≤c∧c≤57):=by simp[mg]
   exact aS rfl rfl ⟨by simp only[sx,e];first|(congr 1;first|(exact(decide_eq_true (.inl (by assumption))).symm)|(exact(decide_eq_true (.inr (by omega))).symm)|(exact(decide_eq_false (by rintro(h|h)<;>first|exact absurd h (by assumption)|omega)).symm)|(exact decide_eq_decide.2 ⟨fun h=> .inr (by omega),fun h=>h.elim (fun h=>absurd h (by assumption)) (fun h=>by omega)⟩)),rfl⟩
  ·refine aq rfl rfl rfl rfl (aq rfl rfl rfl rfl (an rfl rfl (aE rfl rfl rfl (aE rfl rfl rfl (ah rfl rfl (ad (aM ?_)))))));have e:(mg c=true)=(48≤c∧c≤57):=by simp[mg]
   exact aS rfl rfl ⟨by simp only[sx,e];first|(congr 1;first|(exact(decide_eq_true (.inl (by assumption))).symm)|(exact(decide_eq_true (.inr (by omega))).symm)|(exact(decide_eq_false (by rintro(h|h)<;>first|exact absurd h (by assumption)|omega)).symm)|(exact decide_eq_decide.2 ⟨fun h=> .inr (by omega),fun h=>h.elim (fun h=>absurd h (by assumption)) (fun h=>by omega)⟩)),rfl⟩
theorem K8 {l:List UInt8} {c:Int} (hc:c=(iJ l 0:Int)) (hn:nO c≠0):∀{k:Nat},(∀j:Nat,1≤j→j<k+1→iE l j=true)→k≤3→0≤vO l k∧vO l k≤100000000:=by
 have key:∀k:Nat,(∀j:Nat,1≤j→j<k+1→iE l j=true)→0≤vO l k∧vO l k≤33*64^k-1:=by
  intro k
  induction k with
  |zero=>
   intro _;have:=lN hn;show 0≤qM (iJ l 0:Int)∧qM (iJ l 0:Int)≤33*64^0-1;rw[←hc];simp only[Int.pow_zero];omega
  |succ k ih=>
   intro h;have h1:=ih fun j h2 h3=>h j h2 (by omega)
   have h2:=fC.1 (h (k+1) (by omega) (by omega));show 0≤64*vO l k+_-128∧64*vO l k+_-128≤_;rw[Int.pow_succ];omega
 intro k h hk;have:=key k h
 have h3:(64:Int)^k≤262144:=by
  rcases(show k=0∨k=1∨k=2∨k=3 by omega)with rfl|rfl|rfl|rfl<;>decide
 omega
theorem EL {l:List UInt8} (w0:World) (hl:l≠[]) (hlen:l.length≤1000000):
  Spec Tryz.prog 252 #[.string ⟨l.toArray⟩] w0 (fun v w=>v= .tuple #[.int .i64 ((dec l).1:Int),.int .i64 ((dec l).2:Int)]∧w=w0):=by
 have AH:0<l.length:=lZ.2 hl;have Vl:=me l 0;obtain⟨c,hc⟩:∃c:Int,c=(iJ l 0:Int):=⟨_,rfl⟩;have hcr:0≤c∧c<256:=by omega
 refine bh (args:=[_]) (fn:=Tryz.f252) Tryz.func252 rfl (n:=85) Tryz.ntmps252 (ak (aj (ah rfl rfl (ah rfl rfl (ad (ak (aj (ae rfl rfl ?_))))))));refine Rg.B7 (c:=l.getD 0 0) aA rfl rfl rfl (by decide) (by rw[ek];show l[0]? =_;rw[aF AH];rfl) ?_;refine bI (v':= .int .u8 c) (by rw[hc];rfl) (Rg.xw cw ay rfl rfl (by omega) (ah rfl rfl (ad (ak (ak (aj (ae rfl rfl (cj rfl rfl rfl (ad ?_)))))))));refine bK rfl (fun c2=>?_) (fun c2=>?_)
 ·refine ak (aj (ae rfl rfl (ah rfl rfl (ah rfl rfl (ad (aM ?_))))));exact eA rfl rfl rfl ⟨by rw[Ps (by omega),hc];rfl,rfl⟩
 ·refine aU (ak (aj (ah rfl rfl (ad (ak (aj (ah rfl rfl (ad (ak (aj (ah rfl rfl ?_)))))))))));refine ad ?_;refine T.B4 [(0,.string ⟨l.toArray⟩),(4,.int .i64 c),(5,.int .i64 (nO c)),(6,.int .i64 (fJ c)),(7,.int .i64 (qM c))] ?_ ?_
  ·refine ak (aj (ae rfl rfl (dN rfl rfl rfl (ae rfl rfl ?_))));refine aL (g:=18) rfl (fun Vm=>?_) (fun Vm=>?_)
   ·refine an rfl rfl (ae rfl rfl (an rfl rfl (cj rfl rfl rfl (aP rfl rfl rfl (ad ?_)))));refine bK rfl (fun c7=>?_) (fun c7=>?_)
    ·refine ak (aj (ah rfl rfl (ad (ak (aj (ah rfl rfl (ad (aj (ae rfl rfl (ic rfl rfl rfl (by omega) (ah rfl rfl ?_)))))))))));refine ad ?_;exact⟨rfl,rfl,rfl,.cons rfl (.cons rfl (.cons (congrArg (fun z=>some (Value.int .i64 z)) (by first|(exfalso;omega)|(unfold nO;repeat (first|rw[if_pos (by omega)]|rw[if_neg (by omega)])))) (.cons (congrArg (fun z=>some (Value.int .i64 z)) (by first|(exfalso;omega)|(unfold fJ;repeat (first|rw[if_pos (by omega)]|rw[if_neg (by omega)])))) (.cons (congrArg (fun z=>some (Value.int .i64 z)) (by first|(exfalso;omega)|(unfold qM;repeat (first|rw[if_pos (by omega)]|rw[if_neg (by omega)])))) (.nil)))))⟩
    ·refine ak (aj (ae rfl rfl (dN rfl rfl rfl (ae rfl rfl ?_))));refine aL (g:=26) rfl (fun EM=>?_) (fun EM=>?_)
     ·refine an rfl rfl (ae rfl rfl (an rfl rfl (cj rfl rfl rfl (aP rfl rfl rfl (ad ?_)))));refine bK rfl (fun Pu=>?_) (fun Pu=>?_)
      ·refine ak (aj (ah rfl rfl (ad (ak (aj (ah rfl rfl (ad (aj (ae rfl rfl (ic rfl rfl rfl (by omega) (ah rfl rfl ?_)))))))))));refine ad ?_;exact⟨rfl,rfl,rfl,.cons rfl (.cons rfl (.cons (congrArg (fun z=>some (Value.int .i64 z)) (by first|(exfalso;omega)|(unfold nO;repeat (first|rw[if_pos (by omega)]|rw[if_neg (by omega)])))) (.cons (congrArg (fun z=>some (Value.int .i64 z)) (by first|(exfalso;omega)|(unfold fJ;repeat (first|rw[if_pos (by omega)]|rw[if_neg (by omega)])))) (.cons (congrArg (fun z=>some (Value.int .i64 z)) (by first|(exfalso;omega)|(unfold qM;repeat (first|rw[if_pos (by omega)]|rw[if_neg (by omega)])))) (.nil)))))⟩
      ·refine ak (aj (ae rfl rfl (dN rfl rfl rfl (ae rfl rfl ?_))));refine aL (g:=34) rfl (fun tB=>?_) (fun tB=>?_)
       ·refine an rfl rfl (ae rfl rfl (an rfl rfl (cj rfl rfl rfl (aP rfl rfl rfl (ad ?_)))));refine bK rfl (fun K9=>?_) (fun K9=>?_)
        ·refine ak (aj (ah rfl rfl (ad (ak (aj (ah rfl rfl (ad (aj (ae rfl rfl (ic rfl rfl rfl (by omega) (ah rfl rfl ?_)))))))))));refine ad ?_;exact⟨rfl,rfl,rfl,.cons rfl (.cons rfl (.cons (congrArg (fun z=>some (Value.int .i64 z)) (by first|(exfalso;omega)|(unfold nO;repeat (first|rw[if_pos (by omega)]|rw[if_neg (by omega)])))) (.cons (congrArg (fun z=>some (Value.int .i64 z)) (by first|(exfalso;omega)|(unfold fJ;repeat (first|rw[if_pos (by omega)]|rw[if_neg (by omega)])))) (.cons (congrArg (fun z=>some (Value.int .i64 z)) (by first|(exfalso;omega)|(unfold qM;repeat (first|rw[if_pos (by omega)]|rw[if_neg (by omega)])))) (.nil)))))⟩
        ·refine aU ?_;exact⟨rfl,rfl,rfl,.cons rfl (.cons rfl (.cons (congrArg (fun z=>some (Value.int .i64 z)) (by first|(exfalso;omega)|(unfold nO;repeat (first|rw[if_pos (by omega)]|rw[if_neg (by omega)])))) (.cons (congrArg (fun z=>some (Value.int .i64 z)) (by first|(exfalso;omega)|(unfold fJ;repeat (first|rw[if_pos (by omega)]|rw[if_neg (by omega)])))) (.cons (congrArg (fun z=>some (Value.int .i64 z)) (by first|(exfalso;omega)|(unfold qM;repeat (first|rw[if_pos (by omega)]|rw[if_neg (by omega)])))) (.nil)))))⟩
       ·refine aq rfl rfl rfl rfl (aq rfl rfl rfl rfl (aE rfl rfl rfl (ad (iV rfl (aU ?_)))));exact⟨rfl,rfl,rfl,.cons rfl (.cons rfl (.cons (congrArg (fun z=>some (Value.int .i64 z)) (by first|(exfalso;omega)|(unfold nO;repeat (first|rw[if_pos (by omega)]|rw[if_neg (by omega)])))) (.cons (congrArg (fun z=>some (Value.int .i64 z)) (by first|(exfalso;omega)|(unfold fJ;repeat (first|rw[if_pos (by omega)]|rw[if_neg (by omega)])))) (.cons (congrArg (fun z=>some (Value.int .i64 z)) (by first|(exfalso;omega)|(unfold qM;repeat (first|rw[if_pos (by omega)]|rw[if_neg (by omega)])))) (.nil)))))⟩
     ·refine aq rfl rfl rfl rfl (aq rfl rfl rfl rfl (aE rfl rfl rfl (ad (iV rfl (ak (aj (ae rfl rfl (dN rfl rfl rfl (ae rfl rfl ?_)))))))));refine aL (g:=34) rfl (fun tB=>?_) (fun tB=>?_)
      ·refine an rfl rfl (ae rfl rfl (an rfl rfl (cj rfl rfl rfl (aP rfl rfl rfl (ad ?_)))));refine bK rfl (fun K9=>?_) (fun K9=>?_)
       ·refine ak (aj (ah rfl rfl (ad (ak (aj (ah rfl rfl (ad (aj (ae rfl rfl (ic rfl rfl rfl (by omega) (ah rfl rfl ?_)))))))))));refine ad ?_;exact⟨rfl,rfl,rfl,.cons rfl (.cons rfl (.cons (congrArg (fun z=>some (Value.int .i64 z)) (by first|(exfalso;omega)|(unfold nO;repeat (first|rw[if_pos (by omega)]|rw[if_neg (by omega)])))) (.cons (congrArg (fun z=>some (Value.int .i64 z)) (by first|(exfalso;omega)|(unfold fJ;repeat (first|rw[if_pos (by omega)]|rw[if_neg (by omega)])))) (.cons (congrArg (fun z=>some (Value.int .i64 z)) (by first|(exfalso;omega)|(unfold qM;repeat (first|rw[if_pos (by omega)]|rw[if_neg (by omega)])))) (.nil)))))⟩
       ·refine aU ?_;exact⟨rfl,rfl,rfl,.cons rfl (.cons rfl (.cons (congrArg (fun z=>some (Value.int .i64 z)) (by first|(exfalso;omega)|(unfold nO;repeat (first|rw[if_pos (by omega)]|rw[if_neg (by omega)])))) (.cons (congrArg (fun z=>some (Value.int .i64 z)) (by first|(exfalso;omega)|(unfold fJ;repeat (first|rw[if_pos (by omega)]|rw[if_neg (by omega)])))) (.cons (congrArg (fun z=>some (Value.int .i64 z)) (by first|(exfalso;omega)|(unfold qM;repeat (first|rw[if_pos (by omega)]|rw[if_neg (by omega)])))) (.nil)))))⟩
      ·refine aq rfl rfl rfl rfl (aq rfl rfl rfl rfl (aE rfl rfl rfl (ad (iV rfl (aU ?_)))));exact⟨rfl,rfl,rfl,.cons rfl (.cons rfl (.cons (congrArg (fun z=>some (Value.int .i64 z)) (by first|(exfalso;omega)|(unfold nO;repeat (first|rw[if_pos (by omega)]|rw[if_neg (by omega)])))) (.cons (congrArg (fun z=>some (Value.int .i64 z)) (by first|(exfalso;omega)|(unfold fJ;repeat (first|rw[if_pos (by omega)]|rw[if_neg (by omega)])))) (.cons (congrArg (fun z=>some (Value.int .i64 z)) (by first|(exfalso;omega)|(unfold qM;repeat (first|rw[if_pos (by omega)]|rw[if_neg (by omega)])))) (.nil)))))⟩
   ·refine aq rfl rfl rfl rfl (aq rfl rfl rfl rfl (aE rfl rfl rfl (ad (iV rfl (ak (aj (ae rfl rfl (dN rfl rfl rfl (ae rfl rfl ?_)))))))));refine aL (g:=26) rfl (fun EM=>?_) (fun EM=>?_)
    ·refine an rfl rfl (ae rfl rfl (an rfl rfl (cj rfl rfl rfl (aP rfl rfl rfl (ad ?_)))));refine bK rfl (fun Pu=>?_) (fun Pu=>?_)
     ·refine ak (aj (ah rfl rfl (ad (ak (aj (ah rfl rfl (ad (aj (ae rfl rfl (ic rfl rfl rfl (by omega) (ah rfl rfl ?_)))))))))));refine ad ?_;exact⟨rfl,rfl,rfl,.cons rfl (.cons rfl (.cons (congrArg (fun z=>some (Value.int .i64 z)) (by first|(exfalso;omega)|(unfold nO;repeat (first|rw[if_pos (by omega)]|rw[if_neg (by omega)])))) (.cons (congrArg (fun z=>some (Value.int .i64 z)) (by first|(exfalso;omega)|(unfold fJ;repeat (first|rw[if_pos (by omega)]|rw[if_neg (by omega)])))) (.cons (congrArg (fun z=>some (Value.int .i64 z)) (by first|(exfalso;omega)|(unfold qM;repeat (first|rw[if_pos (by omega)]|rw[if_neg (by omega)])))) (.nil)))))⟩
     ·refine ak (aj (ae rfl rfl (dN rfl rfl rfl (ae rfl rfl ?_))));refine aL (g:=34) rfl (fun tB=>?_) (fun tB=>?_)
      ·refine an rfl rfl (ae rfl rfl (an rfl rfl (cj rfl rfl rfl (aP rfl rfl rfl (ad ?_)))));refine bK rfl (fun K9=>?_) (fun K9=>?_)
       ·refine ak (aj (ah rfl rfl (ad (ak (aj (ah rfl rfl (ad (aj (ae rfl rfl (ic rfl rfl rfl (by omega) (ah rfl rfl ?_)))))))))));refine ad ?_;exact⟨rfl,rfl,rfl,.cons rfl (.cons rfl (.cons (congrArg (fun z=>some (Value.int .i64 z)) (by first|(exfalso;omega)|(unfold nO;repeat (first|rw[if_pos (by omega)]|rw[if_neg (by omega)])))) (.cons (congrArg (fun z=>some (Value.int .i64 z)) (by first|(exfalso;omega)|(unfold fJ;repeat (first|rw[if_pos (by omega)]|rw[if_neg (by omega)])))) (.cons (congrArg (fun z=>some (Value.int .i64 z)) (by first|(exfalso;omega)|(unfold qM;repeat (first|rw[if_pos (by omega)]|rw[if_neg (by omega)])))) (.nil)))))⟩
       ·refine aU ?_;exact⟨rfl,rfl,rfl,.cons rfl (.cons rfl (.cons (congrArg (fun z=>some (Value.int .i64 z)) (by first|(exfalso;omega)|(unfold nO;repeat (first|rw[if_pos (by omega)]|rw[if_neg (by omega)])))) (.cons (congrArg (fun z=>some (Value.int .i64 z)) (by first|(exfalso;omega)|(unfold fJ;repeat (first|rw[if_pos (by omega)]|rw[if_neg (by omega)])))) (.cons (congrArg (fun z=>some (Value.int .i64 z)) (by first|(exfalso;omega)|(unfold qM;repeat (first|rw[if_pos (by omega)]|rw[if_neg (by omega)])))) (.nil)))))⟩
      ·refine aq rfl rfl rfl rfl (aq rfl rfl rfl rfl (aE rfl rfl rfl (ad (iV rfl (aU ?_)))));exact⟨rfl,rfl,rfl,.cons rfl (.cons rfl (.cons (congrArg (fun z=>some (Value.int .i64 z)) (by first|(exfalso;omega)|(unfold nO;repeat (first|rw[if_pos (by omega)]|rw[if_neg (by omega)])))) (.cons (congrArg (fun z=>some (Value.int .i64 z)) (by first|(exfalso;omega)|(unfold fJ;repeat (first|rw[if_pos (by omega)]|rw[if_neg (by omega)])))) (.cons (congrArg (fun z=>some (Value.int .i64 z)) (by first|(exfalso;omega)|(unfold qM;repeat (first|rw[if_pos (by omega)]|rw[if_neg (by omega)])))) (.nil)))))⟩
    ·refine aq rfl rfl rfl rfl (aq rfl rfl rfl rfl (aE rfl rfl rfl (ad (iV rfl (ak (aj (ae rfl rfl (dN rfl rfl rfl (ae rfl rfl ?_)))))))));refine aL (g:=34) rfl (fun tB=>?_) (fun tB=>?_)
     ·refine an rfl rfl (ae rfl rfl (an rfl rfl (cj rfl rfl rfl (aP rfl rfl rfl (ad ?_)))));refine bK rfl (fun K9=>?_) (fun K9=>?_)
      ·refine ak (aj (ah rfl rfl (ad (ak (aj (ah rfl rfl (ad (aj (ae rfl rfl (ic rfl rfl rfl (by omega) (ah rfl rfl ?_)))))))))));refine ad ?_;exact⟨rfl,rfl,rfl,.cons rfl (.cons rfl (.cons (congrArg (fun z=>some (Value.int .i64 z)) (by first|(exfalso;omega)|(unfold nO;repeat (first|rw[if_pos (by omega)]|rw[if_neg (by omega)])))) (.cons (congrArg (fun z=>some (Value.int .i64 z)) (by first|(exfalso;omega)|(unfold fJ;repeat (first|rw[if_pos (by omega)]|rw[if_neg (by omega)])))) (.cons (congrArg (fun z=>some (Value.int .i64 z)) (by first|(exfalso;omega)|(unfold qM;repeat (first|rw[if_pos (by omega)]|rw[if_neg (by omega)])))) (.nil)))))⟩
      ·refine aU ?_;exact⟨rfl,rfl,rfl,.cons rfl (.cons rfl (.cons (congrArg (fun z=>some (Value.int .i64 z)) (by first|(exfalso;omega)|(unfold nO;repeat (first|rw[if_pos (by omega)]|rw[if_neg (by omega)])))) (.cons (congrArg (fun z=>some (Value.int .i64 z)) (by first|(exfalso;omega)|(unfold fJ;repeat (first|rw[if_pos (by omega)]|rw[if_neg (by omega)])))) (.cons (congrArg (fun z=>some (Value.int .i64 z)) (by first|(exfalso;omega)|(unfold qM;repeat (first|rw[if_pos (by omega)]|rw[if_neg (by omega)])))) (.nil)))))⟩
     ·refine aq rfl rfl rfl rfl (aq rfl rfl rfl rfl (aE rfl rfl rfl (ad (iV rfl (aU ?_)))));exact⟨rfl,rfl,rfl,.cons rfl (.cons rfl (.cons (congrArg (fun z=>some (Value.int .i64 z)) (by first|(exfalso;omega)|(unfold nO;repeat (first|rw[if_pos (by omega)]|rw[if_neg (by omega)])))) (.cons (congrArg (fun z=>some (Value.int .i64 z)) (by first|(exfalso;omega)|(unfold fJ;repeat (first|rw[if_pos (by omega)]|rw[if_neg (by omega)])))) (.cons (congrArg (fun z=>some (Value.int .i64 z)) (by first|(exfalso;omega)|(unfold qM;repeat (first|rw[if_pos (by omega)]|rw[if_neg (by omega)])))) (.nil)))))⟩
  ·refine ak (ak (aj (ae rfl rfl (rT rfl rfl rfl (ae rfl rfl ?_)))));refine aL (g:=42) rfl (fun Pv=>?_) (fun Pv=>?_)
   ·refine aq rfl rfl rfl rfl (aq rfl rfl rfl rfl (aq rfl rfl rfl rfl (aq rfl rfl rfl rfl (aP rfl rfl rfl (ad (jH rfl (ak (aj (ah rfl rfl (ah rfl rfl (ad ?_)))))))))));refine aM ?_
    have hx:nO (iJ l 0:Int)=0∨∃k:Nat,1≤k∧(k:Int)<nO (iJ l 0:Int)∧iE l k=false:=by
     rw[←hc];by_cases h0:nO c=0
     ·exact .inl h0
     ·have Uh:=lN h0;exact .inr ⟨(nO c).toNat-1,by omega,by omega,ef.2 fun h=>by have:=(fC.1 h).1;omega⟩
    have e:dec l=(65533,1):=B9 (by omega) hx;exact eA rfl rfl rfl ⟨by rw[e];rfl,rfl⟩
   ·refine an rfl rfl (ae rfl rfl (an rfl rfl (Rg.lh aA rfl rfl (bI (v':= .int .i64 (l.length:Int)) (by simp[ByteArray.size]) (an rfl rfl (ae rfl rfl (an rfl rfl (cj rfl rfl rfl (aE rfl rfl rfl (ad ?_))))))))));refine bK rfl (fun Vn=>?_) (fun Vn=>?_)
    ·refine ak (aj (ah rfl rfl (ah rfl rfl (ad (aM ?_)))))
     have hx:nO (iJ l 0:Int)=0∨∃k:Nat,1≤k∧(k:Int)<nO (iJ l 0:Int)∧iE l k=false:=by
      rw[←hc];by_cases h0:nO c=0
      ·exact .inl h0
      ·have Uh:=lN h0;exact .inr ⟨(nO c).toNat-1,by omega,by omega,ef.2 fun h=>by have:=(fC.1 h).1;omega⟩
     have e:dec l=(65533,1):=B9 (by omega) hx;exact eA rfl rfl rfl ⟨by rw[e];rfl,rfl⟩
    ·refine aU (ak (ak (aj (ah rfl rfl (ad (aW ?_))))));refine cX (σ:=Nat) (fun i=>[(0,.string ⟨l.toArray⟩),(5,.int .i64 (nO c)),(6,.int .i64 (fJ c)),(7,.int .i64 (vO l (i-1))),(8,.int .i64 (i:Int))]) (fun i w=>w=w0∧1≤i∧(i:Int)≤nO c∧∀k:Nat,1≤k→k<i→iE l k=true) (fun i=>(nO c).toNat-i) 1 (.cons rfl (.cons rfl (.cons rfl (.cons (congrArg (fun z=>some (Value.int .i64 z)) (by show qM c=qM (iJ l 0:Int);rw[hc])) (.cons rfl .nil))))) ?_ ?_
     ·exact⟨rfl,a8 _,by have:=lN (c:=c) (by omega);omega,fun k h1 h2=>by omega⟩
     ·rintro i w ⟨rfl,wg,yq,hok⟩;have Uh:=lN (c:=c) (by omega)
      have hvr:0≤vO l (i-1)∧vO l (i-1)≤100000000:=by
       exact K8 (l:=l) (c:=c) (k:=i-1) hc (by omega) (fun j h1 h2=>hok j h1 (by omega)) (by omega)
      refine ak (ak (aj (ae rfl rfl (ae rfl rfl (cj rfl rfl rfl (ad ?_))))));refine bK rfl (fun c22=>?_) (fun c22=>?_)
      ·refine aU (ak (aW (ak (aj (ae rfl rfl (ae rfl rfl ?_))))));have mO:i<l.length:=by omega
       refine Rg.B7 (c:=l.getD i 0) aA rfl rfl rfl (by omega) (by rw[ek,aB,aF mO];rfl) ?_;refine bI (v':= .int .u8 (iJ l i:Int)) rfl ?_;have hbi:=me l i;refine Rg.xw cw ay rfl rfl (by omega) (ah rfl rfl (ad (ak (ak (aj (ae rfl rfl (cj rfl rfl rfl (ae rfl rfl ?_))))))));refine aL (g:=59) rfl (fun Pw=>?_) (fun Pw=>?_)
       ·refine aq rfl rfl rfl rfl (aq rfl rfl rfl rfl (aP rfl rfl rfl (ad (jH rfl (ak (aj (ah rfl rfl (ah rfl rfl (ad (aM ?_))))))))))
        have hx:nO (iJ l 0:Int)=0∨∃k:Nat,1≤k∧(k:Int)<nO (iJ l 0:Int)∧iE l k=false:=by
         rw[←hc];exact .inr ⟨i,wg,by omega,ef.2 fun h=>by have:=fC.1 h;omega⟩
        have e:dec l=(65533,1):=B9 (by omega) hx;exact eA rfl rfl rfl ⟨by rw[e];rfl,rfl⟩
       ·refine an rfl rfl (ae rfl rfl (an rfl rfl (dN rfl rfl rfl (aE rfl rfl rfl (ad ?_)))));refine bK rfl (fun c25=>?_) (fun c25=>?_)
        ·refine ak (aj (ah rfl rfl (ah rfl rfl (ad (aM ?_)))))
         have hx:nO (iJ l 0:Int)=0∨∃k:Nat,1≤k∧(k:Int)<nO (iJ l 0:Int)∧iE l k=false:=by
          rw[←hc];exact .inr ⟨i,wg,by omega,ef.2 fun h=>by have:=fC.1 h;omega⟩
         have e:dec l=(65533,1):=B9 (by omega) hx;exact eA rfl rfl rfl ⟨by rw[e];rfl,rfl⟩
        ·refine aU (aj (ae rfl rfl (Rg.KJ rfl rfl rfl (by omega) (ae rfl rfl (bE rfl rfl rfl (by omega) (ic rfl rfl rfl (by omega) (ah rfl rfl (ad (aj (ae rfl rfl (bE rfl rfl rfl (by omega) ?_)))))))))));refine ah rfl rfl (ad ?_);refine⟨rfl,i+1,(.cons rfl (.cons rfl (.cons rfl (.cons (congrArg (fun z=>some (Value.int .i64 z)) (by obtain⟨q,rfl⟩:∃q,i=q+1:=⟨i-1,by omega⟩;rfl)) (.cons rfl .nil))))),?_,?_⟩
         ·exact⟨rfl,by omega,by omega,fun k h1 h2=>by
           rcases fw k i with h|h
           ·exact hok k h1 h
           ·obtain rfl:k=i:=by omega
            exact fC.2 (by omega)⟩
         ·omega
      ·refine cK (ak (ak (aj (ae rfl rfl (ae rfl rfl (cj rfl rfl rfl (ae rfl rfl ?_)))))));refine aL (g:=71) rfl (fun Px=>?_) (fun Px=>?_)
       ·refine aq rfl rfl rfl rfl (aq rfl rfl rfl rfl (aP rfl rfl rfl (ae rfl rfl (aq rfl rfl rfl rfl (aq rfl rfl rfl rfl (aq rfl rfl rfl rfl (ck rfl rfl rfl (ck rfl rfl rfl (aq rfl rfl rfl rfl (aP rfl rfl rfl (ad ?_)))))))))));refine jH rfl (ak (aj (ah rfl rfl (ah rfl rfl (ad (aM ?_))))));have e:=yZ (l:=l) (by rw[←hc];omega) (by rw[←hc];exact fun k h1 h2=>hok k h1 (by omega)) (vO l (i-1)) (by rw[←hc];congr 1;omega);rw[←hc,if_pos (by omega)]at e;exact eA rfl rfl rfl ⟨by rw[e];rfl,rfl⟩
       ·refine an rfl rfl (ae rfl rfl (an rfl rfl (lF rfl rfl rfl (aE rfl rfl rfl (ae rfl rfl ?_)))));refine aL (g:=75) rfl (fun Py=>?_) (fun Py=>?_)
        ·refine aq rfl rfl rfl rfl (aq rfl rfl rfl rfl (aq rfl rfl rfl rfl (ck rfl rfl rfl (ck rfl rfl rfl (aq rfl rfl rfl rfl (aP rfl rfl rfl (ad (jH rfl (ak (aj (ah rfl rfl ?_)))))))))));refine ah rfl rfl (ad (aM ?_));have e:=yZ (l:=l) (by rw[←hc];omega) (by rw[←hc];exact fun k h1 h2=>hok k h1 (by omega)) (vO l (i-1)) (by rw[←hc];congr 1;omega);rw[←hc,if_pos (by omega)]at e;exact eA rfl rfl rfl ⟨by rw[e];rfl,rfl⟩
        ·refine an rfl rfl (ae rfl rfl (an rfl rfl (dN rfl rfl rfl (an rfl rfl (ae rfl rfl ?_)))));refine aL (g:=78) rfl (fun La=>?_) (fun La=>?_)
         ·refine an rfl rfl (ae rfl rfl (an rfl rfl (fh rfl rfl rfl (an rfl rfl (aP rfl rfl rfl (aE rfl rfl rfl (ad ?_)))))));refine bK rfl (fun c28=>?_) (fun c28=>?_)
          ·refine ak (aj (ah rfl rfl (ah rfl rfl (ad (aM ?_)))));have e:=yZ (l:=l) (by rw[←hc];omega) (by rw[←hc];exact fun k h1 h2=>hok k h1 (by omega)) (vO l (i-1)) (by rw[←hc];congr 1;omega);rw[←hc,if_pos (by omega)]at e;exact eA rfl rfl rfl ⟨by rw[e];rfl,rfl⟩
          ·refine aU (ak (aj (ae rfl rfl (ae rfl rfl (ah rfl rfl (ah rfl rfl (ad (aM ?_))))))));have e:=yZ (l:=l) (by rw[←hc];omega) (by rw[←hc];exact fun k h1 h2=>hok k h1 (by omega)) (vO l (i-1)) (by rw[←hc];congr 1;omega);rw[←hc,if_neg (by omega)]at e;exact eA rfl rfl rfl ⟨by rw[e];simp only[];rw[uQ hvr.1,uQ (by omega)],rfl⟩
         ·refine aq rfl rfl rfl rfl (aq rfl rfl rfl rfl (an rfl rfl (aE rfl rfl rfl (aE rfl rfl rfl (ad (iV rfl (aU (ak (aj (ae rfl rfl (ae rfl rfl ?_)))))))))));refine ah rfl rfl (ah rfl rfl (ad (aM ?_)));have e:=yZ (l:=l) (by rw[←hc];omega) (by rw[←hc];exact fun k h1 h2=>hok k h1 (by omega)) (vO l (i-1)) (by rw[←hc];congr 1;omega);rw[←hc,if_neg (by omega)]at e;exact eA rfl rfl rfl ⟨by rw[e];simp only[];rw[uQ hvr.1,uQ (by omega)],rfl⟩
theorem y3 {M:aI} {l:List UInt8} (w0:World) (hM:Lt M w0) (hl:l.length≤1000000):
  Spec Tryz.prog 216 #[.string ⟨l.toArray⟩] w0 (fun v w=>((RT.int .i64).sl).V M w (eh l) v∧Step M w0 M w aD):=by
 have fR:=hM;refine bh (args:=[_]) (fn:=Tryz.f216) Tryz.func216 rfl (n:=22) Tryz.ntmps216 ?_;have S:Step M w0 M w0 aD:=(ar _ _).b9 (fun _ h=>h.elim) (fun _ h=>h.elim);refine ak (aj (ah rfl rfl (ad (ak (aj (ah rfl rfl (ad (ak (aW ?_)))))))));refine cX (σ:=Nat×List Int×Value) (fun q=>[(0,.string ⟨(l.drop q.1).toArray⟩),(3,q.2.2)]) (fun q w=>∃M',Lt M' w∧Step M w0 M' w aD∧Own (RT.int .i64) 3 M' w w0.heap.size q.2.2 q.2.1∧eh l=q.2.1++eh (l.drop q.1)∧q.1≤l.length) (fun q=>l.length-q.1) (0,[],.slice none 0 0) (.cons rfl (.cons rfl .nil)) ?_ ?_
 ·exact⟨M,hM,S,dw _ _ _ _ _,by simp,by simp⟩
 ·rintro⟨p,xs,u⟩ w ⟨M1,hM,S,ho,xL,hp⟩;dsimp only at ho xL hp ⊢;refine ak (ak (aj (ae rfl rfl (Rg.lh aA rfl rfl (bI (v':= .int .i64 ((l.drop p).length:Int)) (by simp[ByteArray.size]) (lF rfl rfl rfl (ad ?_)))))));refine bK rfl (fun c2=>?_) (fun c2=>?_)
  ·refine aU (aW (ak (aj (ae rfl rfl ?_))));have eE:l.drop p≠[]:=by intro h;rw[h]at c2;simp at c2
   have yv:p<l.length:=by have:=lZ.2 eE;rw[cP]at this;omega
   have Vo:=j1 eE;refine aT rfl rfl Vf (EL (l:=l.drop p) _ eE (by rw[cP];omega)) (fun r3 w3 hc=>?_);obtain⟨rfl,rfl⟩:=hc;refine ae rfl rfl (bR rfl rfl rfl (bR rfl rfl rfl (ah rfl rfl (ah rfl rfl (ad (ak (aj (ae rfl rfl (ae rfl rfl ?_)))))))));refine dQ (A:=RT.int .i64) (hn:=by decide) (M:=M1) au I3 (by decide) rfl rfl hM (fO (by have:=qL (l.drop p);omega)) (.inr ⟨rfl,rfl⟩) (fun Lb Lc k3 ox=>?_);replace ho:=ho.a7 ox;replace hM:=ox.lt hM;have:=S.size;replace S:=S.aw ox;refine ch (M:=M1) (base:=w0.heap.size) au I3 rfl rfl rfl rfl ho k3 (ao _ _) (by simp;have:=gu l;rw[xL]at this;simp at this;omega) (by simp;have:=gu l;rw[xL]at this;simp at this;omega) (S.size) (fun Vp Vq adG Pz Ld=>?_);replace k3:=k3.le Ld.le;replace hM:=Ld.lt hM;have:=S.size;replace S:=S.cF Ld ho (a8 _);replace ho:=Pz;refine ah rfl rfl (ad (aj (ae rfl rfl (ae rfl rfl (Rg.H6 aA rfl rfl rfl (by omega) (bI (v':= .string ⟨(l.drop (p+(dec (l.drop p)).2)).toArray⟩) (by rw[List.drop_drop];simp) (ah rfl rfl (ad ?_))))))));refine⟨rfl,(p+(dec (l.drop p)).2,xs++[((dec (l.drop p)).1:Int)],Vp),(.cons rfl (.cons rfl .nil)),?_,?_⟩
   ·refine⟨Vq,hM,S,ho,?_,?_⟩
    ·rw[xL,mf eE,List.drop_drop];simp
    ·have:=Vo.2;rw[cP]at this;dsimp only;omega
   ·have:=Vo.1;have:=Vo.2;rw[cP]at this;dsimp only;omega
  ·refine cK (ak (aj (ae rfl rfl (ah rfl rfl (ad (aM ?_))))));have e:eh l=xs:=by rw[xL,jI (by simp at c2;omega),n4];simp
   rw[e];have:=gu l;rw[e]at this;exact aS rfl rfl ⟨ho.close fR S (by omega),S.back⟩
theorem oM {M:aI} {w:World} {x:Int} (h:0≤x∧x<256):RT.u8.V M w x.toNat.toUInt8 (.int .u8 (IntKind.u8.wrap x)):=by
 have e1:IntKind.u8.wrap x=x:=by
  show(if(false&&decide (x%256≥128))=true then x%256-256 else x%256)=x;rw[if_neg (by simp)];omega
 have e2:((x.toNat.toUInt8).toNat:Int)=x:=by
  have:x.toNat.toUInt8.toNat=x.toNat%256:=UInt8.toNat_ofNat' ..;omega
 rw[e1];exact⟨[.int .u8 x],by show _=_;rw[e2],rfl⟩
theorem Vr {r:Int} (h:0≤r∧r<128):Lib.encodeRune r=[r.toNat.toUInt8]:=by rw[Lib.encodeRune,Lib.encodeRuneZ_one h.1 (by omega)];rfl
theorem Vs {r:Int} (h:128≤r∧r<2048):Lib.encodeRune r=[(192+r/64).toNat.toUInt8,(128+r%64).toNat.toUInt8]:=by rw[Lib.encodeRune,Lib.encodeRuneZ_two h.1 (by omega)];rfl
theorem C8 (c:Int):pV c<55296∨57343<pV c:=by
 unfold pV
 split
 ·omega
 ·rename_i h
  have h2:Lib.validRune c=true:=by
   cases hv:Lib.validRune c with
   |true=>rfl
   |false=>exact absurd (.inr (.inr hv)) h
  simp only[Lib.validRune,decide_eq_true_eq]at h2;omega
theorem Vt {r:Int} (h:2048≤r∧r<65536) (h2:r<55296∨57343<r):Lib.encodeRune r=[(224+r/4096).toNat.toUInt8,(128+r/64%64).toNat.toUInt8,(128+r%64).toNat.toUInt8]:=by rw[Lib.encodeRune,Lib.encodeRuneZ_three (by omega)];rfl
theorem Vu {r:Int} (h:65536≤r∧r≤1114111):Lib.encodeRune r=[(240+r/262144).toNat.toUInt8,(128+r/4096%64).toNat.toUInt8,(128+r/64%64).toNat.toUInt8,(128+r%64).toNat.toUInt8]:=by rw[Lib.encodeRune,Lib.encodeRuneZ_four h.1 h.2];rfl
theorem pX {c:Int} (h:c<0∨c>1114111∨(55296≤c∧c≤57343)):pV c=65533:=by
 rw[pV,if_pos];rcases h with h|h|h
 ·exact .inl h
 ·exact .inr (.inl h)
 ·refine .inr (.inr ?_);simp only[Lib.validRune,decide_eq_false_iff_not];omega
theorem nB {c:Int} (h: ¬(c<0∨c>1114111∨(55296≤c∧c≤57343))):pV c=c:=by
 rw[pV,if_neg];rintro(h1|h1|h1)
 ·omega
 ·omega
 ·simp only[Lib.validRune,decide_eq_false_iff_not]at h1;omega
theorem tC {M:aI} {xs:List Int} {v0:Value} (w0:World) (hM:Lt M w0) (hv:((RT.int .i64).sl).V M w0 xs v0) (hl:xs.length≤1000000):
  Spec Tryz.prog 219 #[v0] w0 (fun v w=>v= .string ⟨(jb xs).toArray⟩∧Step M w0 M w aD):=by
 have fR:=hM;refine bh (args:=[_]) (fn:=Tryz.f219) Tryz.func219 rfl (n:=91) Tryz.ntmps219 ?_;have S:Step M w0 M w0 aD:=(ar _ _).b9 (fun _ h=>h.elim) (fun _ h=>h.elim);refine ak (aj (ah rfl rfl (ad (ak (aj (ah rfl rfl (ad (ak (ak (aj (ah rfl rfl ?_)))))))))));refine ad (aW ?_);refine cX (σ:=Nat×Value) (fun q=>[(0,v0),(3,q.2),(4,.int .i64 (q.1:Int))]) (fun q w=>∃M',Lt M' w∧Step M w0 M' w aD∧Own RT.u8 5 M' w w0.heap.size q.2 (jb (xs.take q.1))∧((RT.int .i64).sl).V M' w xs v0∧q.1≤xs.length) (fun q=>xs.length-q.1) (0,.slice none 0 0) (.cons rfl (.cons rfl (.cons rfl .nil))) ?_ ?_
 ·exact⟨M,hM,S,dw _ _ _ _ _,hv,bC _⟩
 ·rintro⟨k,u⟩ w ⟨M1,hM,S,ho,hv,hk⟩;dsimp only at ho hk ⊢;refine ak (ak (aj (ae rfl rfl (ae rfl rfl (bz au rfl hv rfl (cj rfl rfl rfl (ad ?_)))))));refine bK rfl (fun c3=>?_) (fun c3=>?_)
  ·refine aU (ak (aW (ak (aj (ae rfl rfl (ae rfl rfl ?_))))));refine cb (M:=M1) au I3 rfl rfl rfl hv (ao _ _) (by omega) (fun u5 c C9 Da=>?_);refine b4 (M:=M1) ay rfl rfl Da (ao _ _) (fun in5=>?_);have tk:xs.take (k+1)=xs.take k++[c]:=by rw[bc];simp only[aB]at C9;rw[C9];rfl
   have hsr:=B8 c;have hsc:=C8 c;refine ah rfl rfl (ad ?_);refine T.B4 [(0,v0),(3,u),(4,.int .i64 (k:Int)),(5,.int .i64 (pV c))] ?_ ?_
   ·refine ak (aj (ae rfl rfl (cj rfl rfl rfl (ae rfl rfl ?_))));refine aL (g:=18) rfl (fun Lg=>?_) (fun Lg=>?_)
    ·refine aq rfl rfl rfl rfl (aq rfl rfl rfl rfl (aP rfl rfl rfl (ae rfl rfl (aq rfl rfl rfl rfl (aq rfl rfl rfl rfl (aq rfl rfl rfl rfl (ck rfl rfl rfl (ck rfl rfl rfl (aq rfl rfl rfl rfl (aP rfl rfl rfl (ad ?_)))))))))));refine jH rfl (aj (ah rfl rfl (ad ?_)));exact⟨rfl,rfl,rfl,.cons rfl (.cons rfl (.cons rfl (.cons (congrArg (fun z=>some (Value.int .i64 z)) (by first|exact(pX (by omega)).symm|exact(nB (by omega)).symm)) (.nil))))⟩
    ·refine an rfl rfl (ae rfl rfl (an rfl rfl (lF rfl rfl rfl (aE rfl rfl rfl (ae rfl rfl ?_)))));refine aL (g:=22) rfl (fun Vv=>?_) (fun Vv=>?_)
     ·refine aq rfl rfl rfl rfl (aq rfl rfl rfl rfl (aq rfl rfl rfl rfl (ck rfl rfl rfl (ck rfl rfl rfl (aq rfl rfl rfl rfl (aP rfl rfl rfl (ad (jH rfl (aj (ah rfl rfl (ad ?_)))))))))));exact⟨rfl,rfl,rfl,.cons rfl (.cons rfl (.cons rfl (.cons (congrArg (fun z=>some (Value.int .i64 z)) (by first|exact(pX (by omega)).symm|exact(nB (by omega)).symm)) (.nil))))⟩
     ·refine an rfl rfl (ae rfl rfl (an rfl rfl (dN rfl rfl rfl (an rfl rfl (ae rfl rfl ?_)))));refine aL (g:=25) rfl (fun Vw=>?_) (fun Vw=>?_)
      ·refine an rfl rfl (ae rfl rfl (an rfl rfl (fh rfl rfl rfl (an rfl rfl (aP rfl rfl rfl (aE rfl rfl rfl (ad ?_)))))));refine bK rfl (fun c6=>?_) (fun c6=>?_)
       ·refine aj (ah rfl rfl (ad ?_));exact⟨rfl,rfl,rfl,.cons rfl (.cons rfl (.cons rfl (.cons (congrArg (fun z=>some (Value.int .i64 z)) (by first|exact(pX (by omega)).symm|exact(nB (by omega)).symm)) (.nil))))⟩
       ·refine aU ?_;exact⟨rfl,rfl,rfl,.cons rfl (.cons rfl (.cons rfl (.cons (congrArg (fun z=>some (Value.int .i64 z)) (by first|exact(pX (by omega)).symm|exact(nB (by omega)).symm)) (.nil))))⟩
      ·refine aq rfl rfl rfl rfl (aq rfl rfl rfl rfl (an rfl rfl (aE rfl rfl rfl (aE rfl rfl rfl (ad (iV rfl (aU ?_)))))));exact⟨rfl,rfl,rfl,.cons rfl (.cons rfl (.cons rfl (.cons (congrArg (fun z=>some (Value.int .i64 z)) (by first|exact(pX (by omega)).symm|exact(nB (by omega)).symm)) (.nil))))⟩
   ·refine ak (aj (ae rfl rfl (cj rfl rfl rfl (ad ?_))));refine bK rfl (fun c8=>?_) (fun c8=>?_)
    ·refine aj (ae rfl rfl (ae rfl rfl (vh ay cw rfl rfl ?_)));refine dQ (A:=RT.u8) (hn:=by decide) (M:=M1) bD I5 (by decide) rfl rfl hM (oM (by omega)) (.inr ⟨rfl,rfl⟩) (fun adI PA EN nC=>?_);replace hv:=hv.le nC.le;replace ho:=ho.a7 nC;replace hM:=nC.lt hM;have:=S.size;replace S:=S.aw nC;refine ch (M:=M1) (base:=w0.heap.size) bD I5 rfl rfl rfl rfl ho EN (ao _ _) (by have:=eW (xs.take k);rw[bF]at this;simp;omega) (by have:=eW (xs.take k);rw[bF]at this;simp;omega) (S.size) (fun EO Ic Ie tD iW=>?_);replace hv:=hv.le iW.le;replace EN:=EN.le iW.le;replace hM:=iW.lt hM;have:=S.size;replace S:=S.cF iW ho (a8 _);replace ho:=tD;refine ah rfl rfl (ad (aj (ae rfl rfl (bE rfl rfl rfl (by omega) (ah rfl rfl (ad ?_))))));refine⟨rfl,(k+1,EO),(.cons rfl (.cons rfl (.cons rfl .nil))),?_,?_⟩
     ·exact⟨Ic,hM,S,by rw[tk,kq,Vr (by omega)];exact ho,hv,by dsimp only;omega⟩
     ·dsimp only;omega
    ·refine ak (aj (ae rfl rfl (cj rfl rfl rfl (ad ?_))));refine bK rfl (fun Lh=>?_) (fun Lh=>?_)
     ·refine aj (ae rfl rfl (ae rfl rfl (Rg.AI rfl rfl rfl (by omega) (bE rfl rfl rfl (by omega) (vh ay cw rfl rfl (ae rfl rfl (Rg.CG rfl rfl rfl (by omega) (bE rfl rfl rfl (by omega) (vh ay cw rfl rfl ?_)))))))));refine Rg.Ta (A:=RT.u8) (hn:=by decide) (M:=M1) (xs:=[(192+pV c/64).toNat.toUInt8,(128+pV c%64).toNat.toUInt8]) bD I5 rfl (by decide) rfl ⟨_,_,_,rfl,rfl,rfl,oM (by omega),_,_,_,rfl,rfl,rfl,oM (by omega),rfl⟩ rfl hM (.inr ⟨rfl,rfl⟩) (by decide) (fun PB PC mi kr=>?_);replace hv:=hv.le kr.le;replace ho:=ho.a7 kr;replace hM:=kr.lt hM;have:=S.size;replace S:=S.aw kr;refine ch (M:=M1) (base:=w0.heap.size) bD I5 rfl rfl rfl rfl ho mi (ao _ _) (by have:=eW (xs.take k);rw[bF]at this;simp;omega) (by have:=eW (xs.take k);rw[bF]at this;simp;omega) (S.size) (fun xM AY Lj xN iz=>?_);replace hv:=hv.le iz.le;replace mi:=mi.le iz.le;replace hM:=iz.lt hM;have:=S.size;replace S:=S.cF iz ho (a8 _);replace ho:=xN;refine ah rfl rfl (ad (aj (ae rfl rfl (bE rfl rfl rfl (by omega) (ah rfl rfl (ad ?_))))));refine⟨rfl,(k+1,xM),(.cons rfl (.cons rfl (.cons rfl .nil))),?_,?_⟩
      ·exact⟨AY,hM,S,by rw[tk,kq,Vs (by omega)];exact ho,hv,by dsimp only;omega⟩
      ·dsimp only;omega
     ·refine ak (aj (ae rfl rfl (cj rfl rfl rfl (ad ?_))));refine bK rfl (fun PD=>?_) (fun PD=>?_)
      ·refine aj (ae rfl rfl (ae rfl rfl (Rg.AI rfl rfl rfl (by omega) (bE rfl rfl rfl (by omega) (vh ay cw rfl rfl (ae rfl rfl (Rg.AI rfl rfl rfl (by omega) (Rg.CG rfl rfl rfl (by omega) (bE rfl rfl rfl (by omega) (vh ay cw rfl rfl (ae rfl rfl ?_)))))))))));refine Rg.CG rfl rfl rfl (by omega) (bE rfl rfl rfl (by omega) (vh ay cw rfl rfl ?_));refine Rg.Ta (A:=RT.u8) (hn:=by decide) (M:=M1) (xs:=[(224+pV c/4096).toNat.toUInt8,(128+pV c/64%64).toNat.toUInt8,(128+pV c%64).toNat.toUInt8]) bD I5 rfl (by decide) rfl ⟨_,_,_,rfl,rfl,rfl,oM (by omega),_,_,_,rfl,rfl,rfl,oM (by omega),_,_,_,rfl,rfl,rfl,oM (by omega),rfl⟩ rfl hM (.inr ⟨rfl,rfl⟩) (by decide) (fun Vx Vy xO xQ=>?_);replace hv:=hv.le xQ.le;replace ho:=ho.a7 xQ;replace hM:=xQ.lt hM;have:=S.size;replace S:=S.aw xQ;refine ch (M:=M1) (base:=w0.heap.size) bD I5 rfl rfl rfl rfl ho xO (ao _ _) (by have:=eW (xs.take k);rw[bF]at this;simp;omega) (by have:=eW (xs.take k);rw[bF]at this;simp;omega) (S.size) (fun Lk Ll Vz Ig xR=>?_);replace hv:=hv.le xR.le;replace xO:=xO.le xR.le;replace hM:=xR.lt hM;have:=S.size;replace S:=S.cF xR ho (a8 _);replace ho:=Ig;refine ah rfl rfl (ad (aj (ae rfl rfl (bE rfl rfl rfl (by omega) (ah rfl rfl (ad ?_))))));refine⟨rfl,(k+1,Lk),(.cons rfl (.cons rfl (.cons rfl .nil))),?_,?_⟩
       ·exact⟨Ll,hM,S,by rw[tk,kq,Vt (by omega) hsc];exact ho,hv,by dsimp only;omega⟩
       ·dsimp only;omega
      ·refine aj (ae rfl rfl (ae rfl rfl (Rg.AI rfl rfl rfl (by omega) (bE rfl rfl rfl (by omega) (vh ay cw rfl rfl (ae rfl rfl (Rg.AI rfl rfl rfl (by omega) (Rg.CG rfl rfl rfl (by omega) (bE rfl rfl rfl (by omega) (vh ay cw rfl rfl (ae rfl rfl ?_)))))))))));refine Rg.AI rfl rfl rfl (by omega) (Rg.CG rfl rfl rfl (by omega) (bE rfl rfl rfl (by omega) (vh ay cw rfl rfl (ae rfl rfl (Rg.CG rfl rfl rfl (by omega) (bE rfl rfl rfl (by omega) (vh ay cw rfl rfl ?_)))))));refine Rg.Ta (A:=RT.u8) (hn:=by decide) (M:=M1) (xs:=[(240+pV c/262144).toNat.toUInt8,(128+pV c/4096%64).toNat.toUInt8,(128+pV c/64%64).toNat.toUInt8,(128+pV c%64).toNat.toUInt8]) bD I5 rfl (by decide) rfl ⟨_,_,_,rfl,rfl,rfl,oM (by omega),_,_,_,rfl,rfl,rfl,oM (by omega),_,_,_,rfl,rfl,rfl,oM (by omega),_,_,_,rfl,rfl,rfl,oM (by omega),rfl⟩ rfl hM (.inr ⟨rfl,rfl⟩) (by decide) (fun VA VB xS xT=>?_);replace hv:=hv.le xT.le;replace ho:=ho.a7 xT;replace hM:=xT.lt hM;have:=S.size;replace S:=S.aw xT;refine ch (M:=M1) (base:=w0.heap.size) bD I5 rfl rfl rfl rfl ho xS (ao _ _) (by have:=eW (xs.take k);rw[bF]at this;simp;omega) (by have:=eW (xs.take k);rw[bF]at this;simp;omega) (S.size) (fun Ln Lo VC Ih xU=>?_);replace hv:=hv.le xU.le;replace xS:=xS.le xU.le;replace hM:=xU.lt hM;have:=S.size;replace S:=S.cF xU ho (a8 _);replace ho:=Ih;refine ah rfl rfl (ad (aj (ae rfl rfl (bE rfl rfl rfl (by omega) (ah rfl rfl (ad ?_))))));refine⟨rfl,(k+1,Ln),(.cons rfl (.cons rfl (.cons rfl .nil))),?_,?_⟩
       ·exact⟨Lo,hM,S,by rw[tk,kq,Vu (by omega)];exact ho,hv,by dsimp only;omega⟩
       ·dsimp only;omega
  ·refine cK (ak (aj (ae rfl rfl (Rg.b2s (hn:=by decide) (M:=M) bD cw aA rfl rfl (ho.close fR S (by have:=eW (xs.take k);rw[bF]at this;omega)) (ao _ _) (ah rfl rfl (ad (aM ?_)))))));have e:xs.take k=xs:=aK (by omega);rw[e];exact aS rfl rfl ⟨rfl,S.back⟩
end Go.K
namespace Go.K
open Go.Proofs
set_option maxRecDepth 10000
theorem AZ {M:aI} {l:List UInt8} (w0:World) (hM:Lt M w0) (hl:l.length≤1000000):
  Spec Tryz.prog 225 #[.string ⟨l.toArray⟩] w0 (fun v w=>((RT.int .i64).sl).V M w (eh l) v∧Step M w0 M w aD):=by
 have fR:=hM;refine bh (args:=[_]) (fn:=Tryz.f225) Tryz.func225 rfl (n:=17) Tryz.ntmps225 ?_;have S:Step M w0 M w0 aD:=(ar _ _).b9 (fun _ h=>h.elim) (fun _ h=>h.elim);refine ak (aj (ah rfl rfl (ad (ak (aj (ah rfl rfl (ad (ak (ak (aj (ae rfl rfl ?_)))))))))));refine Rg.EG M aA rfl rfl (fun EP VD adJ adK VE A0=>?_);obtain⟨JH,ER⟩:∃M',M'=ins M EP:=⟨_,rfl⟩;rw[←ER]at A0;have Lq:JH EP:=by rw[ER];exact .inl rfl
 replace hM:=A0.lt hM;have:=S.size;replace S:=S.aw A0;refine ad (aW ?_);refine cX (σ:=Nat×List Int×Value) (fun q=>[(3,q.2.2),(7,.pointer (some ⟨EP,0,none⟩))]) (fun q w=>∃M',Lt M' w∧Step M w0 M' w aD∧w.heap[EP]? =some (.stringIter ⟨l.toArray⟩ q.1)∧M' EP∧Own (RT.int .i64) 3 M' w w0.heap.size q.2.2 q.2.1∧eh l=q.2.1++eh (l.drop q.1)∧q.1≤l.length) (fun q=>l.length-q.1) (0,[],.slice none 0 0) (.cons rfl (.cons rfl .nil)) ?_ ?_
 ·exact⟨JH,hM,S,VE,Lq,dw _ _ _ _ _,by simp,by simp⟩
 ·rintro⟨p,xs,u⟩ w ⟨M1,hM,S,g,wN,ho,xL,hp⟩;dsimp only at g ho xL hp ⊢;refine ak (aj ?_);refine Rg.H5 (M:=M1) rfl g wN rfl (fun VF adL VG ES=>?_) (fun VF=>?_)
  ·have:=al g;replace wN:=(ES.mem _ this).2 wN;replace ho:=ho.step ES (fun b hb hk=>ho.dE g (hk▸hb));replace hM:=ES.lt hM;have:=S.size;replace S:=S.trans ES (fun k hk h=>by have h:_=_:=h;subst h;first|(exfalso;omega)|(show _≤_;omega)|exact⟨by first|omega|assumption,(S.mem _ hk).1 ((ES.mem _ (al g)).1 wN)⟩|exact .inl rfl|exact .inr rfl|exact .inr (.inl rfl)|exact .inr (.inr rfl)|exact rfl);have g_:=VG;clear g;have g:=g_;clear g_;refine bR rfl rfl rfl (ad (ak (jH rfl (aU (aW (ak (aj (bR rfl rfl rfl (ah rfl rfl (ad (aj ?_)))))))))));refine ae rfl rfl (ae rfl rfl (Rg.xw Tryz.underlying21 ay rfl rfl (by have:=qL (l.drop p);omega) ?_));refine dQ (A:=RT.int .i64) (hn:=by decide) (M:=M1) au I3 (by decide) rfl rfl hM (fO (by have:=qL (l.drop p);omega)) (.inr ⟨rfl,rfl⟩) (fun VH PE Ca rY=>?_);have:=al g;replace wN:=(rY.mem _ this).2 wN;replace g:=rY.aN g;replace ho:=ho.a7 rY;replace hM:=rY.lt hM;have:=S.size;replace S:=S.aw rY;refine ch (M:=M1) (base:=w0.heap.size) au I3 rfl rfl rfl rfl ho Ca (ao _ _) (by simp;have:=gu l;rw[xL]at this;simp at this;omega) (by simp;have:=gu l;rw[xL]at this;simp at this;omega) (S.size) (fun VI VJ adM PF ET=>?_);have:=al g;replace wN:=(ET.mem _ this).2 wN;replace g:=ET.bM g (fun h=>by first|exact ho.dE g h|exact ho.ep g (by decide) h|(have:=(ho.base _ h).1;omega));replace Ca:=Ca.le ET.le;replace hM:=ET.lt hM;have:=S.size;replace S:=S.cF ET ho (a8 _);replace ho:=PF;refine ah rfl rfl (ad ?_);have eE:l.drop p≠[]:=by intro h;have:=congrArg List.length h;simp at this;omega
   refine⟨rfl,(p+(dec (l.drop p)).2,xs++[((dec (l.drop p)).1:Int)],VI),(.cons rfl (.cons rfl .nil)),?_,?_⟩
   ·refine⟨VJ,hM,S,g,wN,ho,?_,?_⟩
    ·rw[xL,mf eE,List.drop_drop];simp
    ·have:=(j1 eE).2;rw[cP]at this;dsimp only;omega
   ·have:=(j1 eE).1;have:=(j1 eE).2;rw[cP]at this;dsimp only;omega
  ·refine bR rfl rfl rfl (ad (ak (iV rfl (cK (ak (aj (ae rfl rfl (ah rfl rfl (ad (aM ?_))))))))));have e:eh l=xs:=by rw[xL,jI (by omega),n4];simp
   rw[e];have:=gu l;rw[e]at this;exact aS rfl rfl ⟨ho.close fR S (by omega),S.back⟩
def eL (p:List Int×List (List UInt8)) (c:Int):List Int×List (List UInt8):=
 if eF c=true∨mg c=true then(p.1++[eH c],p.2)else if 0<p.1.length then([],p.2++[jb p.1])else([],p.2)
structure EU (M:aI) (w:World) (B bo bs:Nat) (p:List Int×List (List UInt8)):Prop where
 a:∃u,w.heap[bo]? =some (.cells #[u] 32 (0,0))∧Own (RT.int .i64) 3 M w B u p.1
 b:∃u,w.heap[bs]? =some (.cells #[u] 55 (0,0))∧Own RT.str 9 M w B u p.2
 m:M bo∧M bs∧B≤bo∧B≤bs
theorem nD {c:Int} (h:eF c=true∨mg c=true):0≤c∧c≤1114111:=by
 simp only[eF,mg,decide_eq_true_eq]at h;omega
theorem tF {M:aI} {B bo bs:Nat} {p:List Int×List (List UInt8)} (w0:World) (hM:Lt M w0) (c:Int) (ht:EU M w0 B bo bs p) (hl:p.1.length≤1000000∧p.2.length≤1000000):
  Spec Tryz.prog 220 #[.int .i64 c,.pointer (some ⟨bo,0,none⟩),.pointer (some ⟨bs,0,none⟩)] w0 (fun v w=>∃M',Lt M' w∧EU M' w B bo bs (eL p c)∧Step M w0 M' w (jU M B)):=by
 obtain⟨⟨uo,go,ho⟩,⟨us,gs,hs⟩,fF,gm,Od,Oe⟩:=ht;obtain⟨own,out⟩:=p;dsimp only at ho hs hl ⊢;have eE:bo≠bs:=fun e=>by subst e;rw[go]at gs;cases gs
 refine bh (args:=[_,_,_]) (fn:=Tryz.f220) Tryz.func220 rfl (n:=23) Tryz.ntmps220 ?_;have S:Step M w0 M w0 (jU M B):=(ar _ _).b9 (fun _ h=>h.elim) (fun _ h=>h.2);refine ak (ak (aj (ae rfl rfl ?_)));refine aT rfl rfl U9 (yW _ _) (fun r wc hc=>?_);obtain⟨rfl,rfl⟩:=hc;refine bI (v':= .bool (decide (eF c=true))) (by cases eF c<;>rfl) (ae rfl rfl ?_);refine aL (g:=6) rfl (fun VK=>?_) (fun VK=>?_)
 ·refine aq rfl rfl rfl rfl (aq rfl rfl rfl rfl (aP rfl rfl rfl (ad (jH rfl (ak ?_)))));apply vq 2 [0] 2 aD mixed rfl rfl rfl rfl;intro A1 Ii;have lr:=Ii M;have:=al go;replace fF:=(lr.mem _ this).2 fF;replace go:=lr.aN go;have:=al gs;replace gm:=(lr.mem _ this).2 gm;replace gs:=lr.aN gs;replace ho:=ho.a7 lr;replace hs:=hs.a7 lr;replace hM:=lr.lt hM;have:=S.size;replace S:=S.aw lr;refine aX au rfl rfl rfl (by first|assumption|exact cQ lr (by assumption)) rfl ?_;refine ad ⟨rfl,rfl,rfl,?_⟩;refine ae rfl rfl ?_;refine ad ⟨rfl,rfl,rfl,?_⟩;refine dr ?_;refine⟨eV ⟨dS rfl (by assumption) (by first|assumption|exact fun h=>h|(intro h;have h:_=_:=h;omega)),trivial⟩,?_⟩;have kp:=fY aD A1;have A2:eF c=true∨mg c=true:=by first|exact .inl (by assumption)|exact .inr (by assumption)
  refine aT rfl rfl Pp (wL c _ (nD A2)) (fun r wc hc=>?_);obtain⟨rfl,rfl⟩:=hc;refine(fun(kp:dO _ _ _)=>ad ⟨rfl,rfl,fun _=>kp,?_⟩) (by first|exact kp|exact kp.nZ (by assumption)|exact kp.goN (by assumption)|exact kp.go (by assumption) (fun _ _ h=>by first|exact h|exact h.elim));refine dQ (A:=RT.int .i64) (hn:=by decide) (M:=M) au I3 (by decide) rfl rfl hM (fO (by have:=nD A2;unfold eH;split<;>omega)) (.inr ⟨rfl,rfl⟩) (fun EV Db im s1_3=>?_);have:=al go;replace fF:=(s1_3.mem _ this).2 fF;replace go:=s1_3.aN go;have:=al gs;replace gm:=(s1_3.mem _ this).2 gm;replace gs:=s1_3.aN gs;replace ho:=ho.a7 s1_3;replace hs:=hs.a7 s1_3;replace hM:=s1_3.lt hM;have:=S.size;replace S:=S.aw s1_3;refine(fun(kp:dO _ _ _)=>ad ⟨rfl,rfl,fun _=>kp,?_⟩) (by first|exact kp|exact kp.nZ (by assumption)|exact kp.goN (by assumption)|exact kp.go (by assumption) (fun _ _ h=>by first|exact h|exact h.elim));refine ch (M:=M) (base:=B) au I3 rfl rfl rfl rfl ho im (ao _ _) (by simp;omega) (by simp;omega) (by have:=al go;omega) (fun Lr EW Ls EX ku=>?_);have:=al go;replace fF:=(ku.mem _ this).2 fF;replace go:=ku.bM go (fun h=>by first|exact ho.dE go h|exact ho.ep go (by decide) h|(have:=(ho.base _ h).1;omega));have:=al gs;replace gm:=(ku.mem _ this).2 gm;replace gs:=ku.bM gs (fun h=>by first|exact ho.dE gs h|exact ho.ep gs (by decide) h|(have:=(ho.base _ h).1;omega));replace im:=im.le ku.le;replace hs:=hs.step ku (fun b h1 h2=>hs.ia ho (by decide) h1 h2);replace hM:=ku.lt hM;have:=S.size;replace S:=S.trans ku (fun b hb h=>⟨(ho.base b h).1,(S.mem b hb).1 (ho.mut_ b h)⟩);replace ho:=EX;refine ad ⟨rfl,rfl,fun h=>absurd rfl h,?_⟩;refine cu (M:=EW) jE rfl rfl go rfl ((by obtain⟨_,_,he,_⟩:=ho.isSlice;rw[he];rfl)) fF (fun Lu mh mj=>?_);change Lu.heap[_]? =some (Obj.cells #[Lr] _ _)at mh
  have:=al go;replace fF:=(mj.mem _ this).2 fF;have:=al gs;replace gm:=(mj.mem _ this).2 gm;replace gs:=mj.bM gs (fun hk=>by have hk:_=_:=hk;omega);replace im:=im.le mj.le;replace ho:=ho.step mj (fun b hb hk=>by have hk:b=_:=hk;subst hk;first|exact absurd hb (ho.ep go (by decide))|exact absurd hb (ho.ep gs (by decide)));replace hs:=hs.step mj (fun b hb hk=>by have hk:b=_:=hk;subst hk;first|exact absurd hb (hs.ep go (by decide))|exact absurd hb (hs.ep gs (by decide)));replace hM:=mj.lt hM;have:=S.size;replace S:=S.trans mj (fun k hk h=>by have h:_=_:=h;subst h;first|(exfalso;omega)|(show _≤_;omega)|exact⟨by first|omega|assumption,(S.mem _ hk).1 ((mj.mem _ (al go)).1 fF)⟩|exact .inl rfl|exact .inr rfl|exact .inr (.inl rfl)|exact .inr (.inr rfl)|exact rfl);have EY:=mh;clear go;have go:=EY;clear EY;refine ad ⟨rfl,rfl,fun h=>absurd rfl h,?_⟩;refine jJ (aM ?_);rw[show eL (own,out) c=(own++[eH c],out)from if_pos A2];exact yC rfl ⟨EW,hM,⟨⟨_,go,ho⟩,⟨_,gs,hs⟩,fF,gm,Od,Oe⟩,S⟩
 ·refine an rfl rfl (ae rfl rfl (an rfl rfl ?_));refine aT rfl rfl Va (AT _ _) (fun r wc hc=>?_);obtain⟨rfl,rfl⟩:=hc;refine bI (v':= .bool (decide (mg c=true))) (by cases mg c<;>rfl) (aE rfl rfl rfl (ad ?_));refine bK rfl (fun c0=>?_) (fun c0=>?_)
  ·refine ak ?_;apply vq 2 [0] 2 aD mixed rfl rfl rfl rfl;intro A1 Ii;have lr:=Ii M;have:=al go;replace fF:=(lr.mem _ this).2 fF;replace go:=lr.aN go;have:=al gs;replace gm:=(lr.mem _ this).2 gm;replace gs:=lr.aN gs;replace ho:=ho.a7 lr;replace hs:=hs.a7 lr;replace hM:=lr.lt hM;have:=S.size;replace S:=S.aw lr;refine aX au rfl rfl rfl (by first|assumption|exact cQ lr (by assumption)) rfl ?_;refine ad ⟨rfl,rfl,rfl,?_⟩;refine ae rfl rfl ?_;refine ad ⟨rfl,rfl,rfl,?_⟩;refine dr ?_;refine⟨eV ⟨dS rfl (by assumption) (by first|assumption|exact fun h=>h|(intro h;have h:_=_:=h;omega)),trivial⟩,?_⟩;have kp:=fY aD A1;have A2:eF c=true∨mg c=true:=by first|exact .inl (by assumption)|exact .inr (by assumption)
   refine aT rfl rfl Pp (wL c _ (nD A2)) (fun r wc hc=>?_);obtain⟨rfl,rfl⟩:=hc;refine(fun(kp:dO _ _ _)=>ad ⟨rfl,rfl,fun _=>kp,?_⟩) (by first|exact kp|exact kp.nZ (by assumption)|exact kp.goN (by assumption)|exact kp.go (by assumption) (fun _ _ h=>by first|exact h|exact h.elim));refine dQ (A:=RT.int .i64) (hn:=by decide) (M:=M) au I3 (by decide) rfl rfl hM (fO (by have:=nD A2;unfold eH;split<;>omega)) (.inr ⟨rfl,rfl⟩) (fun EV Db im s1_3=>?_);have:=al go;replace fF:=(s1_3.mem _ this).2 fF;replace go:=s1_3.aN go;have:=al gs;replace gm:=(s1_3.mem _ this).2 gm;replace gs:=s1_3.aN gs;replace ho:=ho.a7 s1_3;replace hs:=hs.a7 s1_3;replace hM:=s1_3.lt hM;have:=S.size;replace S:=S.aw s1_3;refine(fun(kp:dO _ _ _)=>ad ⟨rfl,rfl,fun _=>kp,?_⟩) (by first|exact kp|exact kp.nZ (by assumption)|exact kp.goN (by assumption)|exact kp.go (by assumption) (fun _ _ h=>by first|exact h|exact h.elim));refine ch (M:=M) (base:=B) au I3 rfl rfl rfl rfl ho im (ao _ _) (by simp;omega) (by simp;omega) (by have:=al go;omega) (fun Lr EW Ls EX ku=>?_);have:=al go;replace fF:=(ku.mem _ this).2 fF;replace go:=ku.bM go (fun h=>by first|exact ho.dE go h|exact ho.ep go (by decide) h|(have:=(ho.base _ h).1;omega));have:=al gs;replace gm:=(ku.mem _ this).2 gm;replace gs:=ku.bM gs (fun h=>by first|exact ho.dE gs h|exact ho.ep gs (by decide) h|(have:=(ho.base _ h).1;omega));replace im:=im.le ku.le;replace hs:=hs.step ku (fun b h1 h2=>hs.ia ho (by decide) h1 h2);replace hM:=ku.lt hM;have:=S.size;replace S:=S.trans ku (fun b hb h=>⟨(ho.base b h).1,(S.mem b hb).1 (ho.mut_ b h)⟩);replace ho:=EX;refine ad ⟨rfl,rfl,fun h=>absurd rfl h,?_⟩;refine cu (M:=EW) jE rfl rfl go rfl ((by obtain⟨_,_,he,_⟩:=ho.isSlice;rw[he];rfl)) fF (fun Lu mh mj=>?_);change Lu.heap[_]? =some (Obj.cells #[Lr] _ _)at mh
   have:=al go;replace fF:=(mj.mem _ this).2 fF;have:=al gs;replace gm:=(mj.mem _ this).2 gm;replace gs:=mj.bM gs (fun hk=>by have hk:_=_:=hk;omega);replace im:=im.le mj.le;replace ho:=ho.step mj (fun b hb hk=>by have hk:b=_:=hk;subst hk;first|exact absurd hb (ho.ep go (by decide))|exact absurd hb (ho.ep gs (by decide)));replace hs:=hs.step mj (fun b hb hk=>by have hk:b=_:=hk;subst hk;first|exact absurd hb (hs.ep go (by decide))|exact absurd hb (hs.ep gs (by decide)));replace hM:=mj.lt hM;have:=S.size;replace S:=S.trans mj (fun k hk h=>by have h:_=_:=h;subst h;first|(exfalso;omega)|(show _≤_;omega)|exact⟨by first|omega|assumption,(S.mem _ hk).1 ((mj.mem _ (al go)).1 fF)⟩|exact .inl rfl|exact .inr rfl|exact .inr (.inl rfl)|exact .inr (.inr rfl)|exact rfl);have EY:=mh;clear go;have go:=EY;clear EY;refine ad ⟨rfl,rfl,fun h=>absurd rfl h,?_⟩;refine jJ (aM ?_);rw[show eL (own,out) c=(own++[eH c],out)from if_pos A2];exact yC rfl ⟨EW,hM,⟨⟨_,go,ho⟩,⟨_,gs,hs⟩,fF,gm,Od,Oe⟩,S⟩
  ·refine aU (ak (ak (aj (aX au rfl rfl rfl (by assumption) rfl (ie au rfl ho rfl (lF rfl rfl rfl (ad ?_)))))));refine bK rfl (fun c2=>?_) (fun c2=>?_)
   ·apply vq 2 [0] 2 aD mixed rfl rfl rfl rfl;intro PG JI;have oa:=JI M;have:=al go;replace fF:=(oa.mem _ this).2 fF;replace go:=oa.aN go;have:=al gs;replace gm:=(oa.mem _ this).2 gm;replace gs:=oa.aN gs;replace ho:=ho.a7 oa;replace hs:=hs.a7 oa;replace hM:=oa.lt hM;have:=S.size;replace S:=S.aw oa;refine aX aC rfl rfl rfl (by first|assumption|exact cQ oa (by assumption)) rfl ?_;refine ad ⟨rfl,rfl,rfl,?_⟩;refine aX au rfl rfl rfl (by first|assumption|exact cQ oa (by assumption)) rfl ?_;refine ad ⟨rfl,rfl,rfl,?_⟩;refine dr ?_;refine⟨eV ⟨dS rfl (by assumption) (by first|assumption|exact fun h=>h|(intro h;have h:_=_:=h;omega)),trivial⟩,?_⟩;have kp:=fY aD PG;refine aT rfl rfl Vb (C7 (M:=rm M uo) _ (fun b hb=>hM b hb.1) (ho.view (by omega)) (by omega)) (fun r3 w3 hc=>?_);obtain⟨rfl,s3⟩:=hc;replace s3:=s3.any M;have:=al go;replace fF:=(s3.mem _ this).2 fF;replace go:=s3.aN go;have:=al gs;replace gm:=(s3.mem _ this).2 gm;replace gs:=s3.aN gs;replace ho:=ho.a7 s3;replace hs:=hs.a7 s3;replace hM:=s3.lt hM;have:=S.size;replace S:=S.aw s3;refine(fun(kp:dO _ _ _)=>ad ⟨rfl,rfl,fun _=>kp,?_⟩) (by first|exact kp|exact kp.nZ (by assumption)|exact kp.goN (by assumption)|exact kp.go (by assumption) (fun _ _ h=>by first|exact h|exact h.elim));refine dQ (A:=RT.str) (hn:=by decide) (M:=M) aC I9 (by decide) rfl rfl hM (iM.2 ⟨rfl,by have:=eW own;omega⟩) (.inr ⟨rfl,rfl⟩) (fun adN adO tG y4=>?_);have:=al go;replace fF:=(y4.mem _ this).2 fF;replace go:=y4.aN go;have:=al gs;replace gm:=(y4.mem _ this).2 gm;replace gs:=y4.aN gs;replace ho:=ho.a7 y4;replace hs:=hs.a7 y4;replace hM:=y4.lt hM;have:=S.size;replace S:=S.aw y4;refine(fun(kp:dO _ _ _)=>ad ⟨rfl,rfl,fun _=>kp,?_⟩) (by first|exact kp|exact kp.nZ (by assumption)|exact kp.goN (by assumption)|exact kp.go (by assumption) (fun _ _ h=>by first|exact h|exact h.elim))
    refine ch (M:=M) (base:=B) aC I9 rfl rfl rfl rfl hs tG (ao _ _) (by simp;omega) (by simp;omega) (by have:=al go;omega) (fun VL PH PI PJ kQ=>?_);have:=al go;replace fF:=(kQ.mem _ this).2 fF;replace go:=kQ.bM go (fun h=>by first|exact hs.dE go h|exact hs.ep go (by decide) h|(have:=(hs.base _ h).1;omega));have:=al gs;replace gm:=(kQ.mem _ this).2 gm;replace gs:=kQ.bM gs (fun h=>by first|exact hs.dE gs h|exact hs.ep gs (by decide) h|(have:=(hs.base _ h).1;omega));replace tG:=tG.le kQ.le;replace ho:=ho.step kQ (fun b h1 h2=>ho.ia hs (by decide) h1 h2);replace hM:=kQ.lt hM;have:=S.size;replace S:=S.trans kQ (fun b hb h=>⟨(hs.base b h).1,(S.mem b hb).1 (hs.mut_ b h)⟩);replace hs:=PJ;refine ad ⟨rfl,rfl,fun h=>absurd rfl h,?_⟩;refine cu (M:=PH) uY rfl rfl gs rfl ((by obtain⟨_,_,he,_⟩:=hs.isSlice;rw[he];rfl)) gm (fun Lv iX jN=>?_);change Lv.heap[_]? =some (Obj.cells #[VL] _ _)at iX;have:=al go;replace fF:=(jN.mem _ this).2 fF;replace go:=jN.bM go (fun hk=>by have hk:_=_:=hk;omega);have:=al gs;replace gm:=(jN.mem _ this).2 gm;replace tG:=tG.le jN.le;replace ho:=ho.step jN (fun b hb hk=>by have hk:b=_:=hk;subst hk;first|exact absurd hb (ho.ep go (by decide))|exact absurd hb (ho.ep gs (by decide)));replace hs:=hs.step jN (fun b hb hk=>by have hk:b=_:=hk;subst hk;first|exact absurd hb (hs.ep go (by decide))|exact absurd hb (hs.ep gs (by decide)));replace hM:=jN.lt hM;have:=S.size;replace S:=S.trans jN (fun k hk h=>by have h:_=_:=h;subst h;first|(exfalso;omega)|(show _≤_;omega)|exact⟨by first|omega|assumption,(S.mem _ hk).1 ((jN.mem _ (al gs)).1 gm)⟩|exact .inl rfl|exact .inr rfl|exact .inr (.inl rfl)|exact .inr (.inr rfl)|exact rfl);have gs_:=iX;clear gs;have gs:=gs_;clear gs_;refine ad ⟨rfl,rfl,fun h=>absurd rfl h,?_⟩;refine jJ (aj ?_);refine cu (M:=PH) jE rfl rfl go rfl (rfl) fF (fun EZ y5 jO=>?_)
    change EZ.heap[_]? =some (Obj.cells #[.slice none 0 0] _ _)at y5;have:=al go;replace fF:=(jO.mem _ this).2 fF;have:=al gs;replace gm:=(jO.mem _ this).2 gm;replace gs:=jO.bM gs (fun hk=>by have hk:_=_:=hk;omega);replace tG:=tG.le jO.le;replace ho:=ho.step jO (fun b hb hk=>by have hk:b=_:=hk;subst hk;first|exact absurd hb (ho.ep go (by decide))|exact absurd hb (ho.ep gs (by decide)));replace hs:=hs.step jO (fun b hb hk=>by have hk:b=_:=hk;subst hk;first|exact absurd hb (hs.ep go (by decide))|exact absurd hb (hs.ep gs (by decide)));replace hM:=jO.lt hM;have:=S.size;replace S:=S.trans jO (fun k hk h=>by have h:_=_:=h;subst h;first|(exfalso;omega)|(show _≤_;omega)|exact⟨by first|omega|assumption,(S.mem _ hk).1 ((jO.mem _ (al go)).1 fF)⟩|exact .inl rfl|exact .inr rfl|exact .inr (.inl rfl)|exact .inr (.inr rfl)|exact rfl);have EY:=y5;clear go;have go:=EY;clear EY;refine ad ?_
    first|refine fP.nil ?_|simp+decide only[xu,l0,if_true,if_false]|skip
    have Of: ¬(eF c=true∨mg c=true):=by rintro(h|h)<;>exact absurd h (by assumption)
    first
    |rw[show eL (own,out) c=([],out++[jb own])from(if_neg Of).trans (if_pos (by show 0<own.length;omega))]
     exact kh rfl ⟨_,hM,⟨⟨_,go,dw _ _ _ _ _⟩,⟨_,gs,hs⟩,fF,gm,Od,Oe⟩,S⟩
    |rw[show eL (own,out) c=([],out)from(if_neg Of).trans (if_neg (by show¬0<own.length;omega))]
     exact kh rfl ⟨_,hM,⟨⟨_,go,dw _ _ _ _ _⟩,⟨_,gs,hs⟩,fF,gm,Od,Oe⟩,S⟩
   ·refine aU (aj ?_);refine cu (M:=M) jE rfl rfl go rfl (rfl) fF (fun EZ y5 jO=>?_);change EZ.heap[_]? =some (Obj.cells #[.slice none 0 0] _ _)at y5;have:=al go;replace fF:=(jO.mem _ this).2 fF;have:=al gs;replace gm:=(jO.mem _ this).2 gm;replace gs:=jO.bM gs (fun hk=>by have hk:_=_:=hk;omega);replace ho:=ho.step jO (fun b hb hk=>by have hk:b=_:=hk;subst hk;first|exact absurd hb (ho.ep go (by decide))|exact absurd hb (ho.ep gs (by decide)));replace hs:=hs.step jO (fun b hb hk=>by have hk:b=_:=hk;subst hk;first|exact absurd hb (hs.ep go (by decide))|exact absurd hb (hs.ep gs (by decide)));replace hM:=jO.lt hM;have:=S.size;replace S:=S.trans jO (fun k hk h=>by have h:_=_:=h;subst h;first|(exfalso;omega)|(show _≤_;omega)|exact⟨by first|omega|assumption,(S.mem _ hk).1 ((jO.mem _ (al go)).1 fF)⟩|exact .inl rfl|exact .inr rfl|exact .inr (.inl rfl)|exact .inr (.inr rfl)|exact rfl);have EY:=y5;clear go;have go:=EY;clear EY;refine ad ?_
    first|refine fP.nil ?_|simp+decide only[xu,l0,if_true,if_false]|skip
    have Of: ¬(eF c=true∨mg c=true):=by rintro(h|h)<;>exact absurd h (by assumption)
    first
    |rw[show eL (own,out) c=([],out++[jb own])from(if_neg Of).trans (if_pos (by show 0<own.length;omega))]
     exact kh rfl ⟨_,hM,⟨⟨_,go,dw _ _ _ _ _⟩,⟨_,gs,hs⟩,fF,gm,Od,Oe⟩,S⟩
    |rw[show eL (own,out) c=([],out)from(if_neg Of).trans (if_neg (by show¬0<own.length;omega))]
     exact kh rfl ⟨_,hM,⟨⟨_,go,dw _ _ _ _ _⟩,⟨_,gs,hs⟩,fF,gm,Od,Oe⟩,S⟩
theorem lO (l:List Int):∀p,(l.foldl eL p).1.length≤p.1.length+l.length∧(l.foldl eL p).2.length≤p.2.length+l.length:=by
 induction l with
 |nil=>intro p;simp
 |cons c l ih=>
  intro p;have:=ih (eL p c)
  have h1:(eL p c).1.length≤p.1.length+1∧(eL p c).2.length≤p.2.length+1:=by
   unfold eL
   split
   ·simp
   ·split<;>simp
  simp only[List.foldl_cons,cM];omega
def words (l:List UInt8):List (List UInt8):=((eh l++[32]).foldl eL ([],[])).2
theorem j2 (l:List UInt8):(words l).length≤l.length+1:=by
 have h:=(lO (eh l++[32]) ([],[])).2;have h2:=gu l;rw[bO]at h;have h3:([]:List (List UInt8)).length=0:=rfl;have h4: [(32:Int)].length=1:=rfl;unfold words;simp only[h3,h4]at h;omega
theorem tH {M:aI} {l:List UInt8} (w0:World) (hM:Lt M w0) (hl:l.length≤900000):
  Spec Tryz.prog 192 #[.string ⟨l.toArray⟩] w0 (fun v w=>(RT.str.sl).V M w (words l) v∧Step M w0 M w aD):=by
 have fR:=hM;refine bh (args:=[_]) (fn:=Tryz.f192) Tryz.func192 rfl (n:=23) Tryz.ntmps192 ?_;have S:Step M w0 M w0 aD:=(ar _ _).b9 (fun _ h=>h.elim) (fun _ h=>h.elim);refine ak (aj (ah rfl rfl (ad (ak (aj ?_)))));refine dL M uY rfl (fun gv y6 Lw Lx iY kR=>?_);obtain⟨kx,ky⟩:∃M',M'=ins M gv:=⟨_,rfl⟩;rw[←ky]at kR;have gI:kx gv:=by rw[ky];exact .inl rfl
 change y6.heap[gv]? =some (.cells #[.slice none 0 0] _ _)at iY;replace hM:=kR.lt hM;have:=S.size;replace S:=S.aw kR;refine ad (ak (aj ?_));refine dL kx jE rfl (fun fj Ly VM VN y7 tI=>?_);obtain⟨E0,tJ⟩:∃M',M'=ins kx fj:=⟨_,rfl⟩;rw[←tJ]at tI;have tK:E0 fj:=by rw[tJ];exact .inl rfl
 change Ly.heap[fj]? =some (.cells #[.slice none 0 0] _ _)at y7;have:=al iY;replace gI:=(tI.mem _ this).2 gI;replace iY:=tI.aN iY;replace hM:=tI.lt hM;have:=S.size;replace S:=S.aw tI;refine ad (ak (aj (lD (xs:=[]) (ys:=[.tmp 4,.tmp 3]) rfl rfl rfl (ah rfl rfl (ad (ak (ak (aj (ae rfl rfl ?_)))))))));refine aT rfl rfl Vc (AZ _ hM (by omega)) (fun v4 w4 hc=>?_);obtain⟨xL,s4⟩:=hc;have:=al iY;replace gI:=(s4.mem _ this).2 gI;replace iY:=s4.aN iY;have:=al y7;replace tK:=(s4.mem _ this).2 tK;replace y7:=s4.aN y7;replace hM:=s4.lt hM;have:=S.size;replace S:=S.aw s4;refine bz au rfl xL rfl (ae rfl rfl (ad (aW ?_)));refine cX (σ:=Nat) (fun k=>[(3,.pointer (some ⟨gv,0,none⟩)),(5,.func (.func 220) #[] #[.pointer (some ⟨fj,0,none⟩),.pointer (some ⟨gv,0,none⟩)]),(10,v4),(11,.int .i64 ((eh l).length:Int)),(12,.int .i64 (k:Int))]) (fun k w=>∃M',Lt M' w∧Step M w0 M' w aD∧EU M' w w0.heap.size fj gv (((eh l).take k).foldl eL ([],[]))∧((RT.int .i64).sl).V M' w (eh l) v4∧k≤(eh l).length) (fun k=>(eh l).length-k) 0 (.cons rfl (.cons rfl (.cons rfl (.cons rfl (.cons rfl .nil))))) ?_ ?_
 ·exact⟨_,hM,S,⟨⟨_,y7,dw _ _ _ _ _⟩,⟨_,iY,dw _ _ _ _ _⟩,tK,gI,by omega,by omega⟩,xL,bC _⟩
 ·rintro k w ⟨M1,hM,S,ht,xL,hk⟩;refine ak (aj (cj rfl rfl rfl (ad (ak ?_))));refine bK rfl (fun c5=>?_) (fun c5=>?_)
  ·refine aU (ak (aW (ak (aj ?_))));refine cb (M:=M1) au I3 rfl rfl rfl xL (ao _ _) (by omega) (fun u6 c DW Ij=>?_);refine b4 (M:=M1) ay rfl rfl Ij (ao _ _) (fun in6=>?_);refine ah rfl rfl (ad (aj (ae rfl rfl (ae rfl rfl ?_))));have ou:=gu l;have HP:=lO ((eh l).take k) ([],[]);rw[bF]at HP;refine Rg.oH (first:=[]) (captured:=[.pointer (some ⟨fj,0,none⟩),.pointer (some ⟨gv,0,none⟩)]) rfl rfl rfl Pn (tF (B:=w0.heap.size) _ hM c ht (by simp at HP;omega)) (fun r7 w7 hc=>?_);obtain⟨M2,Lz,E1,s7⟩:=hc;have tk:(eh l).take (k+1)=(eh l).take k++[c]:=by rw[bc];simp only[aB]at DW;rw[DW];rfl
   refine ad (aj (bE rfl rfl rfl (by omega) (ae rfl rfl (ad ?_))));refine⟨rfl,k+1,(.cons rfl (.cons rfl (.cons rfl (.cons rfl (.cons rfl .nil))))),?_,?_⟩
   ·exact⟨M2,Lz,S.j7 s7 (a8 _),by rw[tk,kK];exact E1,xL.le s7.le,by omega⟩
   ·omega
  ·refine cK (ak (aj (ae rfl rfl ?_)));have ou:=gu l;have HP:=lO ((eh l).take k) ([],[]);rw[bF]at HP;refine Rg.oH (first:=[]) (captured:=[.pointer (some ⟨fj,0,none⟩),.pointer (some ⟨gv,0,none⟩)]) rfl rfl rfl Pn (tF (B:=w0.heap.size) _ hM 32 ht (by simp at HP;omega)) (fun r9 w9 hc=>?_);obtain⟨M2,Lz,E1,s9⟩:=hc;have e9:eL (((eh l).take k).foldl eL ([],[])) 32=(eh l++[32]).foldl eL ([],[]):=by rw[kK,aK (by omega)];rfl
   rw[e9]at E1;obtain⟨_,⟨us,gs,hs⟩,_⟩:=E1;replace S:=S.j7 s9 (a8 _);refine ad (ak (aj (aX aC rfl rfl rfl gs rfl (ah rfl rfl (ad (aM ?_))))));exact aS rfl rfl ⟨ig fR S hs (by have:=j2 l;omega),S.back⟩
end Go.K
namespace Go.K
open Go.Proofs
set_option maxRecDepth 10000
theorem E2 {p:List Int×List (List UInt8)} {c:Int} (h:sx c=true):eL p c=(p.1++[eH c],p.2):=if_pos (by simpa[sx]using h)
theorem oc {p:List Int×List (List UInt8)} {c:Int} (h:sx c=false):eL p c=if 0<p.1.length then([],p.2++[jb p.1])else([],p.2):=if_neg (by simpa[sx]using h)
def DX (sg:List Int) (i:Nat) (ws:List (List UInt8)):Prop:=(i≤sg.length∧(sg.take i).foldl eL ([],[])=([],ws))∨(i=sg.length+1∧((sg++[32]).foldl eL ([],[])).2=ws)
theorem E3 {c:Int} (h:sx c=true):0≤c∧c≤1114111:=nD (by simpa[sx]using h)
theorem PK:sx 32=false:=by decide
theorem qN {sg:List Int} {i:Nat} {c:Int} (h:sg[i]? =some c) (p:List Int×List (List UInt8)):(sg.take (i+1)).foldl eL p=eL ((sg.take i).foldl eL p) c:=by
 rw[bc,h,bY,kK];rfl
theorem DX.skip {sg:List Int} {i:Nat} {ws:List (List UInt8)} {c:Int} (h:DX sg i ws) (hc:sg[i]? =some c) (hi:sx c=false):DX sg (i+1) ws:=by
 have dD:=(av.1 hc).1;rcases h with⟨_,h⟩|⟨h,_⟩
 ·exact .inl ⟨dD,by rw[qN hc,h,oc hi];rfl⟩
 ·omega
theorem DX.word {sg:List Int} {j:Nat} {own:List Int} {ws:List (List UInt8)} (h:(sg.take j).foldl eL ([],[])=(own,ws)) (ho:0<own.length) (hj:j≤sg.length) (hn:∀c,sg[j]? =some c→sx c=false):DX sg (j+1) (ws++[jb own]):=by
 rcases np hj with e|dD
 ·refine .inr ⟨by omega,?_⟩;rw[e,qx]at h;rw[kK,h];show(eL (own,ws) 32).2=_;rw[oc PK,if_pos ho]
 ·have hc:sg[j]? =some sg[j]:=aF dD;exact .inl ⟨dD,by rw[qN hc,h,oc (hn _ hc),if_pos ho]⟩
theorem DX.done {sg:List Int} {i:Nat} {ws:List (List UInt8)} (h:DX sg i ws) (hi:sg.length≤i):((sg++[32]).foldl eL ([],[])).2=ws:=by
 rcases h with⟨h1,h⟩|⟨_,h⟩
 ·rw[aK (by omega)]at h;rw[kK,h];show(eL ([],ws) 32).2=_;rw[oc PK];rfl
 ·exact h
theorem DX.len {sg:List Int} {i:Nat} {ws:List (List UInt8)} (h:DX sg i ws):ws.length≤sg.length+1:=by
 rcases h with⟨_,h⟩|⟨_,h⟩
 ·have:=(lO (sg.take i) ([],[])).2;rw[h,bF]at this;simp only[iC]at this;have e:(([]:List Int),([]:List (List UInt8))).2.length=0:=rfl;omega
 ·have:=(lO (sg++[32]) ([],[])).2;rw[h,bO]at this;have e:(([]:List Int),([]:List (List UInt8))).2.length=0:=rfl;have e2: [(32:Int)].length=1:=rfl;omega
theorem fD {sg:List Int} {j:Nat} {own:List Int} {ws:List (List UInt8)} (h:(sg.take j).foldl eL ([],[])=(own,ws)):own.length≤sg.length∧ws.length≤sg.length:=by
 have:=lO (sg.take j) ([],[]);rw[h,bF]at this;simp only[iC]at this;have e:(([]:List Int),([]:List (List UInt8))).1.length=0:=rfl;have e2:(([]:List Int),([]:List (List UInt8))).2.length=0:=rfl;omega
theorem rB {M:aI} {l:List UInt8} (w0:World) (hM:Lt M w0) (hl:l.length≤900000):
  Spec Tryz.prog 191 #[.string ⟨l.toArray⟩] w0 (fun v w=>(RT.str.sl).V M w (words l) v∧Step M w0 M w aD):=by
 have fR:=hM;have ou:=gu l;refine bh (args:=[_]) (fn:=Tryz.f191) Tryz.func191 rfl (n:=50) Tryz.ntmps191 ?_;have S:Step M w0 M w0 aD:=(ar _ _).b9 (fun _ h=>h.elim) (fun _ h=>h.elim);refine ak (aj (ah rfl rfl (ad (ak (aj (ae rfl rfl ?_))))));refine aT rfl rfl U7 (y3 _ hM (by omega)) (fun v1 w1 hc=>?_);obtain⟨hv,s1⟩:=hc;replace hM:=s1.lt hM;have:=S.size;replace S:=S.aw s1;refine ah rfl rfl (ad (ak (aj (ah rfl rfl (ad (ak (ak (aj (ah rfl rfl (ad (aW ?_)))))))))));refine cX (σ:=Nat×Value) (fun q=>[(3,v1),(4,q.2),(5,.int .i64 (q.1:Int))]) (fun q w=>∃M' ws,Lt M' w∧Step M w0 M' w aD∧Own RT.str 9 M' w w0.heap.size q.2 ws∧((RT.int .i64).sl).V M' w (eh l) v1∧DX (eh l) q.1 ws) (fun q=>(eh l).length+1-q.1) (0,.slice none 0 0) (.cons rfl (.cons rfl (.cons rfl .nil))) ?_ ?_
 ·exact⟨M,[],hM,S,dw _ _ _ _ _,hv,.inl ⟨bC _,rfl⟩⟩
 ·rintro⟨i,u4⟩ w ⟨M1,ws,hM,S,pY,hv,PL⟩;dsimp only at pY PL ⊢;refine ak (ak (aj (ae rfl rfl (ae rfl rfl (bz au rfl hv rfl (cj rfl rfl rfl (ad ?_)))))));refine bK rfl (fun c4=>?_) (fun c4=>?_)
  ·refine aU (ak (aW (ak (aj (ae rfl rfl (ae rfl rfl ?_))))));refine cb (M:=M1) au I3 rfl rfl rfl hv (ao _ _) (by omega) (fun Ik c To huc=>?_);refine b4 (M:=M1) ay rfl rfl huc (ao _ _) (fun inc=>?_);rw[aB]at To;refine aT rfl rfl Pl (y2 c _) (fun r wc hc=>?_);obtain⟨rfl,rfl⟩:=hc;refine bI (v':= .bool (decide (sx c=true))) (by cases sx c<;>rfl) (ah rfl rfl (ad (ak (ak (aj (ae rfl rfl (jx rfl rfl (bI (v':= .bool (decide (sx c=false))) (by cases sx c<;>rfl) (ad ?_)))))))));refine bK rfl (fun c7=>?_) (fun c7=>?_)
   ·refine cK (aj (ae rfl rfl (bE rfl rfl rfl (by omega) (ah rfl rfl (ad ?_)))));refine⟨rfl,(i+1,u4),(.cons rfl (.cons rfl (.cons rfl .nil))),?_,?_⟩
    ·exact⟨M1,ws,hM,S,pY,hv,PL.skip To (by assumption)⟩
    ·dsimp only;omega
   ·refine aU (ak (aj (ah rfl rfl (ad (ak (aW ?_))))));refine cX (σ:=Nat×List Int×Value) (fun q=>[(3,v1),(4,u4),(5,.int .i64 (q.1:Int)),(7,q.2.2)]) (fun q w=>∃M',Lt M' w∧Step M w0 M' w aD∧Own RT.str 9 M' w w0.heap.size u4 ws∧Own (RT.int .i64) 3 M' w w0.heap.size q.2.2 q.2.1∧((RT.int .i64).sl).V M' w (eh l) v1∧((eh l).take q.1).foldl eL ([],[])=(q.2.1,ws)∧i≤q.1∧q.1≤(eh l).length∧(i<q.1→0<q.2.1.length)) (fun q=>(eh l).length-q.1) (i,[],.slice none 0 0) (.cons rfl (.cons rfl (.cons rfl (.cons rfl .nil)))) ?_ ?_
    ·have VO:((eh l).take i).foldl eL ([],[])=([],ws):=by
      rcases PL with⟨_,h⟩|⟨h,_⟩
      ·exact h
      ·omega
     exact⟨M1,hM,S,pY,dw _ _ _ _ _,hv,VO,a8 _,by dsimp only;omega,fun h=>absurd h (mW _)⟩
    ·rintro⟨j,own,u7⟩ w ⟨M2,hM,S,pY,qO,hv,hf,PM,xF,qE⟩;dsimp only at qO hf PM xF qE ⊢;refine ak (ak (aj (ae rfl rfl (ae rfl rfl (bz au rfl hv rfl (cj rfl rfl rfl (ae rfl rfl ?_)))))));refine aL (g:=27) rfl (fun VP=>?_) (fun VP=>?_)
     ·refine an rfl rfl (ae rfl rfl (an rfl rfl (ae rfl rfl (an rfl rfl ?_))));refine cb (M:=M2) au I3 rfl rfl rfl hv (ao _ _) (by omega) (fun adQ d qP hud=>?_);refine an rfl rfl ?_;refine b4 (M:=M2) ay rfl rfl hud (ao _ _) (fun ind=>?_);rw[aB]at qP;refine an rfl rfl ?_;refine aT rfl rfl Pl (y2 d _) (fun r wc hc=>?_);obtain⟨rfl,rfl⟩:=hc;refine bI (v':= .bool (decide (sx d=true))) (by cases sx d<;>rfl) (aP rfl rfl rfl (ad ?_));refine bK rfl (fun c9=>?_) (fun c9=>?_)
      ·refine aU (aW (ak (aj (ae rfl rfl (ae rfl rfl (ae rfl rfl ?_))))));refine cb (M:=M2) au I3 rfl rfl rfl hv (ao _ _) (by omega) (fun PN e il hue=>?_);refine b4 (M:=M2) ay rfl rfl hue (ao _ _) (fun kU=>?_);rw[aB]at il;have LA:sx e=true:=by rw[qP]at il;cases il;assumption
       refine aT rfl rfl U8 (AX e _ (E3 LA)) (fun r wc hc=>?_);obtain⟨rfl,rfl⟩:=hc;refine dQ (A:=RT.int .i64) (hn:=by decide) (M:=M2) au I3 (by decide) rfl rfl hM (fO (by have:=E3 LA;unfold eH;split<;>omega)) (.inr ⟨rfl,rfl⟩) (fun aaw aax A3 y8=>?_);replace hv:=hv.le y8.le;replace pY:=pY.a7 y8;replace qO:=qO.a7 y8;replace hM:=y8.lt hM;have:=S.size;replace S:=S.aw y8;refine ch (M:=M2) (base:=w0.heap.size) au I3 rfl rfl rfl rfl qO A3 (ao _ _) (by have:=fD hf;simp;omega) (by have:=fD hf;simp;omega) (S.size) (fun JJ PO PQ LB mP=>?_);replace hv:=hv.le mP.le;replace A3:=A3.le mP.le;replace pY:=pY.step mP (fun b h1 h2=>pY.ia qO (by decide) h1 h2);replace hM:=mP.lt hM;have:=S.size;replace S:=S.cF mP qO (a8 _);replace qO:=LB;refine ah rfl rfl (ad (aj (ae rfl rfl (bE rfl rfl rfl (by omega) (ah rfl rfl (ad ?_))))));refine⟨rfl,(j+1,own++[eH e],JJ),(.cons rfl (.cons rfl (.cons rfl (.cons rfl .nil)))),?_,?_⟩
       ·exact⟨PO,hM,S,pY,qO,hv,by rw[qN il,hf,E2 LA],by dsimp only;omega,by dsimp only;omega,fun _=>by simp⟩
       ·dsimp only;omega
      ·refine cK (aj (ae rfl rfl (ae rfl rfl ?_)));refine aT rfl rfl Pm (tC (M:=rm M2 u7) _ (fun b hb=>hM b hb.1) (qO.view (by have:=fD hf;omega)) (by have:=fD hf;omega)) (fun r12 Tp LC=>?_);obtain⟨rfl,yx⟩:=LC;replace yx:=yx.any M2;replace hv:=hv.le yx.le;replace pY:=pY.a7 yx;replace qO:=qO.a7 yx;replace hM:=yx.lt hM;have:=S.size;replace S:=S.aw yx;refine dQ (A:=RT.str) (hn:=by decide) (M:=M2) aC I9 (by decide) rfl rfl hM (iM.2 ⟨rfl,by have:=eW own;have:=fD hf;omega⟩) (.inr ⟨rfl,rfl⟩) (fun PR PS pv nE=>?_);replace hv:=hv.le nE.le;replace pY:=pY.a7 nE;replace qO:=qO.a7 nE;replace hM:=nE.lt hM;have:=S.size;replace S:=S.aw nE;refine ch (M:=M2) (base:=w0.heap.size) aC I9 rfl rfl rfl rfl pY pv (ao _ _) (by have:=fD hf;simp;omega) (by have:=fD hf;simp;omega) (S.size) (fun tL nF E4 pw dX=>?_);replace hv:=hv.le dX.le;replace pv:=pv.le dX.le;replace qO:=qO.step dX (fun b h1 h2=>qO.ia pY (by decide) h1 h2);replace hM:=dX.lt hM;have:=S.size;replace S:=S.cF dX pY (a8 _);replace pY:=pw;refine ah rfl rfl (ad (aj (ae rfl rfl (bE rfl rfl rfl (by omega) (ah rfl rfl (ad ?_))))))
       have qE:0<own.length:=by
        rcases np PM with e|h
        ·exfalso;subst e
         first|omega|(rw[To]at qP;cases qP;exact c9 (by cases hq:sx c with|true=>rfl|false=>exact absurd hq (by assumption)))
        ·exact qE h
       have VQ:∀c,(eh l)[j]? =some c→sx c=false:=fun c hc=>by
        first|(rw[ij (by omega)]at hc;cases hc)|(rw[qP]at hc;cases hc;exact ef.2 c9)
       refine⟨rfl,(j+1,tL),(.cons rfl (.cons rfl (.cons rfl .nil))),?_,?_⟩
       ·exact⟨nF,_,hM,S,pY,hv,DX.word hf qE xF VQ⟩
       ·dsimp only;omega
     ·refine aq rfl rfl rfl rfl (aq rfl rfl rfl rfl (aq rfl rfl rfl rfl (aq rfl rfl rfl rfl (aq rfl rfl rfl rfl (aE rfl rfl rfl (ad (iV rfl (cK (aj (ae rfl rfl (ae rfl rfl ?_)))))))))));refine aT rfl rfl Pm (tC (M:=rm M2 u7) _ (fun b hb=>hM b hb.1) (qO.view (by have:=fD hf;omega)) (by have:=fD hf;omega)) (fun r12 Tp LC=>?_);obtain⟨rfl,yx⟩:=LC;replace yx:=yx.any M2;replace hv:=hv.le yx.le;replace pY:=pY.a7 yx;replace qO:=qO.a7 yx;replace hM:=yx.lt hM;have:=S.size;replace S:=S.aw yx;refine dQ (A:=RT.str) (hn:=by decide) (M:=M2) aC I9 (by decide) rfl rfl hM (iM.2 ⟨rfl,by have:=eW own;have:=fD hf;omega⟩) (.inr ⟨rfl,rfl⟩) (fun PR PS pv nE=>?_);replace hv:=hv.le nE.le;replace pY:=pY.a7 nE;replace qO:=qO.a7 nE;replace hM:=nE.lt hM;have:=S.size;replace S:=S.aw nE;refine ch (M:=M2) (base:=w0.heap.size) aC I9 rfl rfl rfl rfl pY pv (ao _ _) (by have:=fD hf;simp;omega) (by have:=fD hf;simp;omega) (S.size) (fun tL nF E4 pw dX=>?_);replace hv:=hv.le dX.le;replace pv:=pv.le dX.le;replace qO:=qO.step dX (fun b h1 h2=>qO.ia pY (by decide) h1 h2);replace hM:=dX.lt hM;have:=S.size;replace S:=S.cF dX pY (a8 _);replace pY:=pw;refine ah rfl rfl (ad (aj (ae rfl rfl (bE rfl rfl rfl (by omega) (ah rfl rfl (ad ?_))))))
      have qE:0<own.length:=by
       rcases np PM with e|h
       ·exfalso;subst e
        first|omega|(rw[To]at qP;cases qP;exact c9 (by cases hq:sx c with|true=>rfl|false=>exact absurd hq (by assumption)))
       ·exact qE h
      have VQ:∀c,(eh l)[j]? =some c→sx c=false:=fun c hc=>by
       first|(rw[ij (by omega)]at hc;cases hc)|(rw[qP]at hc;cases hc;exact ef.2 c9)
      refine⟨rfl,(j+1,tL),(.cons rfl (.cons rfl (.cons rfl .nil))),?_,?_⟩
      ·exact⟨nF,_,hM,S,pY,hv,DX.word hf qE xF VQ⟩
      ·dsimp only;omega
  ·refine cK (ak (aj (ae rfl rfl (ah rfl rfl (ad (aM ?_))))));have e:=PL.done (by omega);have e2:words l=ws:=e;rw[e2];exact aS rfl rfl ⟨pY.close fR S (by have:=PL.len;omega),S.back⟩
end Go.K
namespace Go.K
open Go.Proofs
set_option maxRecDepth 10000
def kz:Nat→List (List UInt8)→Int
 |_,[]=>0
 |i,w::ws=>if 30<w.length then 3 else if 500≤i then 7 else kz (i+1) ws
theorem Cb {i k:Nat} {ws:List (List UInt8)} {x:List UInt8} (h:ws[k]? =some x):kz i (ws.drop k)=if 30<x.length then 3 else if 500≤i then 7 else kz (i+1) (ws.drop (k+1)):=by
 have dD:=(av.1 h).1;rw[dm dD,(av.1 h).2];rfl
theorem dB {M:aI} {w:World} {x:List UInt8} {v:Value} (h:RT.str.V M w x v):v= .string ⟨x.toArray⟩:=(iM.1 h).1
theorem Dd {M:aI} {l:List UInt8} (w0:World) (hM:Lt M w0) (hl:l.length≤900000):
  Spec Tryz.prog 150 #[.string ⟨l.toArray⟩] w0 (fun v w=>(∃u,v= .tuple #[u,.int .i64 (kz 0 (words l))]∧(kz 0 (words l)=0→∃a cap,u= .slice a (words l).length cap))∧Step M w0 M w aD):=by
 have fR:=hM;refine bh (args:=[_]) (fn:=Tryz.f150) Tryz.func150 rfl (n:=30) Tryz.ntmps150 ?_;have S:Step M w0 M w0 aD:=(ar _ _).b9 (fun _ h=>h.elim) (fun _ h=>h.elim);refine ak (aj (ah rfl rfl (ah rfl rfl (ad (ak (aj (ah rfl rfl (ad (ak (ak (aj ?_)))))))))));refine ae rfl rfl ?_;refine aT rfl rfl Pk (tH _ hM hl) (fun v1 w1 hc=>?_);obtain⟨hv,s1⟩:=hc;replace hM:=s1.lt hM;have:=S.size;replace S:=S.aw s1;refine bz aC rfl hv rfl (ae rfl rfl (ad (aW ?_)));refine cX (σ:=Nat×Value) (fun q=>[(8,v1),(4,q.2),(9,.int .i64 ((words l).length:Int)),(10,.int .i64 (q.1:Int))]) (fun q w=>(∃M' xs,Lt M' w∧Step M w0 M' w aD∧Own (RT.pair RT.str (RT.int .i64)) 256 M' w w0.heap.size q.2 xs∧xs.length=q.1∧(RT.str.sl).V M' w (words l) v1)∧kz 0 (words l)=kz q.1 ((words l).drop q.1)∧q.1≤(words l).length∧q.1≤500) (fun q=>(words l).length-q.1) (0,.slice none 0 0) (.cons rfl (.cons rfl (.cons rfl (.cons rfl .nil)))) ?_ ?_
 ·exact⟨⟨M,[],hM,S,dw _ _ _ _ _,rfl,hv⟩,rfl,bC _,bC _⟩
 ·rintro⟨i,u⟩ w ⟨⟨M1,xs,hM,S,ho,xz,hv⟩,CW,hi,VR⟩;dsimp only at ho xz CW hi VR ⊢;refine ak (aj (cj rfl rfl rfl (ad (ak ?_))));refine bK rfl (fun c3=>?_) (fun c3=>?_)
  ·refine aU (ak (aW (ak (aj (ae rfl rfl ?_)))));refine cb (M:=M1) aC I9 rfl rfl rfl hv (ao _ _) (by omega) (fun VS x pD VT=>?_);refine bw (M:=M1) aA rfl rfl rfl rfl rfl VT (ao _ _) (fun vx rZ=>?_);rw[aB]at pD;obtain rfl:=dB rZ;have ht:=Cb (i:=i) pD;refine ah rfl rfl (ah rfl rfl (ad (ak (aW (ak (aj (ae rfl rfl (Rg.lh aA rfl rfl (bI (v':= .int .i64 (x.length:Int)) (by simp[ByteArray.size]) (lF rfl rfl rfl (ah rfl rfl ?_)))))))))));refine ad ?_;refine bK rfl (fun c5=>?_) (fun c5=>?_)
   ·refine ak (aj (ah rfl rfl (ah rfl rfl (ad (aM ?_)))));rw[CW,ht,if_pos (by omega)];exact eA rfl rfl rfl ⟨⟨_,rfl,fun h=>by cases h⟩,S.back⟩
   ·refine ak (aj (ae rfl rfl (rT rfl rfl rfl (ah rfl rfl (ad ?_)))));refine bK rfl (fun c7=>?_) (fun c7=>?_)
    ·refine ak (aj (ah rfl rfl (ah rfl rfl (ad (aM ?_)))));rw[CW,ht,if_neg (by omega),if_pos (by omega)];exact eA rfl rfl rfl ⟨⟨_,rfl,fun h=>by cases h⟩,S.back⟩
    ·refine aU (aj (ae rfl rfl (ae rfl rfl (ae rfl rfl (eM (places:=[(0,1),(1,1)]) Tryz.underlying256 C5 Pe rfl ⟨_,_,rfl,rfl,_,_,rfl,rfl,rfl⟩ (out:=[_,_]) ⟨0,[_],rfl,rfl,by simp[Value.cells],1,[_],rfl,rfl,by simp[Value.cells],rfl⟩ ?_)))));refine dQ (A:=(RT.pair RT.str (RT.int .i64))) (hn:=by decide) (M:=M1) Tryz.underlying222 C5 (by decide) rfl rfl hM (dR rZ (fO (x:=(i:Int)) (by omega)) rfl rfl rfl rfl) (.inl rfl) (fun EO Ie E5 iW=>?_);replace hv:=hv.le iW.le;replace rZ:=rZ.le iW.le;replace ho:=ho.a7 iW;replace hM:=iW.lt hM;have:=S.size;replace S:=S.aw iW;refine ch (M:=M1) (base:=w0.heap.size) Tryz.underlying222 C5 rfl rfl rfl rfl ho E5 (ao _ _) (by simp;omega) (by simp;omega) (S.size) (fun VU VV PT PU nG=>?_);replace hv:=hv.le nG.le;replace rZ:=rZ.le nG.le;replace E5:=E5.le nG.le;replace hM:=nG.lt hM;have:=S.size;replace S:=S.cF nG ho (a8 _);replace ho:=PU;refine ah rfl rfl (ad (aj (bE rfl rfl rfl (by omega) (ae rfl rfl (ad ?_)))));refine⟨rfl,(i+1,VU),(.cons rfl (.cons rfl (.cons rfl (.cons rfl .nil)))),?_,?_⟩
     ·exact⟨⟨VV,_,hM,S,ho,by simp[xz],hv⟩,by rw[CW,ht,if_neg (by omega),if_neg (by omega)],by dsimp only;omega,by dsimp only;omega⟩
     ·dsimp only;omega
  ·refine cK (ak (aj (ae rfl rfl (ah rfl rfl (ah rfl rfl (ad (aM ?_)))))));have e:kz 0 (words l)=0:=by rw[CW,jI (by omega)];rfl
   rw[e];obtain⟨a,cap,he,_⟩:=ho.isSlice;exact eA rfl rfl rfl ⟨⟨u,rfl,fun _=>⟨a,cap,by rw[he,xz];congr 1;omega⟩⟩,S.back⟩
theorem A4 {M:aI} {l:List UInt8} (w0:World) (hM:Lt M w0) (hl:l.length≤900000):
  Spec Tryz.prog 167 #[.string ⟨l.toArray⟩] w0 (fun v w=>(∃u,v= .tuple #[u,.int .i64 (kz 0 (words l))]∧(kz 0 (words l)=0→∃a cap,u= .slice a (words l).length cap))∧Step M w0 M w aD):=by
 have fR:=hM;refine bh (args:=[_]) (fn:=Tryz.f167) Tryz.func167 rfl (n:=33) Tryz.ntmps167 ?_;have S:Step M w0 M w0 aD:=(ar _ _).b9 (fun _ h=>h.elim) (fun _ h=>h.elim);refine ak (aj (ah rfl rfl (ah rfl rfl (ad (ak (aj (ae rfl rfl ?_)))))));refine aT rfl rfl Pj (rB _ hM hl) (fun v1 w1 hc=>?_);obtain⟨hv,s1⟩:=hc;replace hM:=s1.lt hM;have:=S.size;replace S:=S.aw s1;refine ah rfl rfl (ad (ak (aj (ah rfl rfl (ad (ak (ak (aj (ah rfl rfl (ad (aW ?_)))))))))));refine cX (σ:=Nat×Value) (fun q=>[(4,v1),(5,q.2),(6,.int .i64 (q.1:Int))]) (fun q w=>(∃M' xs,Lt M' w∧Step M w0 M' w aD∧Own (RT.pair RT.str (RT.int .i64)) 256 M' w w0.heap.size q.2 xs∧xs.length=q.1∧(RT.str.sl).V M' w (words l) v1)∧kz 0 (words l)=kz q.1 ((words l).drop q.1)∧q.1≤(words l).length∧q.1≤500) (fun q=>(words l).length-q.1) (0,.slice none 0 0) (.cons rfl (.cons rfl (.cons rfl .nil))) ?_ ?_
 ·exact⟨⟨M,[],hM,S,dw _ _ _ _ _,rfl,hv⟩,rfl,bC _,bC _⟩
 ·rintro⟨i,u⟩ w ⟨⟨M1,xs,hM,S,ho,xz,hv⟩,CW,hi,VR⟩;dsimp only at ho xz CW hi VR ⊢;refine ak (ak (aj (ae rfl rfl (ae rfl rfl (bz aC rfl hv rfl (cj rfl rfl rfl (ad ?_)))))));refine bK rfl (fun c4=>?_) (fun c4=>?_)
  ·refine aU (ak (aW (ak (ak (aj (ae rfl rfl (ae rfl rfl ?_)))))));refine cb (M:=M1) aC I9 rfl rfl rfl hv (ao _ _) (by omega) (fun Ik x pD VT=>?_);refine bw (M:=M1) aA rfl rfl rfl rfl rfl VT (ao _ _) (fun vx rZ=>?_);rw[aB]at pD;obtain rfl:=dB rZ;have ht:=Cb (i:=i) pD;refine Rg.lh aA rfl rfl (bI (v':= .int .i64 (x.length:Int)) (by simp[ByteArray.size]) (lF rfl rfl rfl (ad ?_)));refine bK rfl (fun c6=>?_) (fun c6=>?_)
   ·refine ak (aj (ah rfl rfl (ah rfl rfl (ad (aM ?_)))));rw[CW,ht,if_pos (by omega)];exact eA rfl rfl rfl ⟨⟨_,rfl,fun h=>by cases h⟩,S.back⟩
   ·refine aU (ak (ak (aj (ae rfl rfl (dN rfl rfl rfl (ad ?_))))));refine bK rfl (fun c8=>?_) (fun c8=>?_)
    ·refine ak (aj (ah rfl rfl (ah rfl rfl (ad (aM ?_)))));rw[CW,ht,if_neg (by omega),if_pos (by omega)];exact eA rfl rfl rfl ⟨⟨_,rfl,fun h=>by cases h⟩,S.back⟩
    ·refine aU (aj (ae rfl rfl (ae rfl rfl (ae rfl rfl ?_))));refine cb (M:=M1) aC I9 rfl rfl rfl hv (ao _ _) (by omega) (fun PN y mY huy=>?_);refine bw (M:=M1) aA rfl rfl rfl rfl rfl huy (ao _ _) (fun vy Og=>?_);rw[aB]at mY;obtain rfl:=dB Og;obtain rfl:x=y:=by rw[pD]at mY;exact aQ mY
     refine ae rfl rfl (eM (places:=[(0,1),(1,1)]) Tryz.underlying256 C5 Pe rfl ⟨_,_,rfl,rfl,_,_,rfl,rfl,rfl⟩ (out:=[_,_]) ⟨0,[_],rfl,rfl,by simp[Value.cells],1,[_],rfl,rfl,by simp[Value.cells],rfl⟩ ?_);refine dQ (A:=(RT.pair RT.str (RT.int .i64))) (hn:=by decide) (M:=M1) Tryz.underlying222 C5 (by decide) rfl rfl hM (dR Og (fO (x:=(i:Int)) (by omega)) rfl rfl rfl rfl) (.inl rfl) (fun JJ PQ A5 mP=>?_);replace hv:=hv.le mP.le;replace rZ:=rZ.le mP.le;replace Og:=Og.le mP.le;replace ho:=ho.a7 mP;replace hM:=mP.lt hM;have:=S.size;replace S:=S.aw mP;refine ch (M:=M1) (base:=w0.heap.size) Tryz.underlying222 C5 rfl rfl rfl rfl ho A5 (ao _ _) (by simp;omega) (by simp;omega) (S.size) (fun PV PW Cc LD fo=>?_);replace hv:=hv.le fo.le;replace rZ:=rZ.le fo.le;replace Og:=Og.le fo.le;replace A5:=A5.le fo.le;replace hM:=fo.lt hM;have:=S.size;replace S:=S.cF fo ho (a8 _);replace ho:=LD;refine ah rfl rfl (ad (aj (ae rfl rfl (bE rfl rfl rfl (by omega) (ah rfl rfl (ad ?_))))));refine⟨rfl,(i+1,PV),(.cons rfl (.cons rfl (.cons rfl .nil))),?_,?_⟩
     ·exact⟨⟨PW,_,hM,S,ho,by simp[xz],hv⟩,by rw[CW,ht,if_neg (by omega),if_neg (by omega)],by dsimp only;omega,by dsimp only;omega⟩
     ·dsimp only;omega
  ·refine cK (ak (aj (ae rfl rfl (ah rfl rfl (ah rfl rfl (ad (aM ?_)))))));have e:kz 0 (words l)=0:=by rw[CW,jI (by omega)];rfl
   rw[e];obtain⟨a,cap,he,_⟩:=ho.isSlice;exact eA rfl rfl rfl ⟨⟨u,rfl,fun _=>⟨a,cap,by rw[he,xz];congr 1;omega⟩⟩,S.back⟩
end Go.K
namespace Go.K
abbrev Fd:=List UInt8×List UInt8
abbrev Dc:=Int×List Fd
abbrev En:=Dc×Int
abbrev RT.fd:RT Fd:=RT.pair RT.str RT.str
abbrev RT.dc:RT Dc:=RT.pair (RT.int .i64) (RT.fd.sl)
abbrev RT.en:RT En:=RT.pair RT.dc (RT.int .i64)
theorem DY:Part RT.fd RT.str (fun p=>p.1) 0:=om _ _
theorem LF:Part RT.fd RT.str (fun p=>p.2) 1:=iv _ _
theorem Oh:Part RT.dc (RT.int .i64) (fun p=>p.1) 0:=om _ _
theorem xV:Part RT.dc (RT.fd.sl) (fun p=>p.2) 1:=iv _ _
theorem Il:Part RT.en RT.dc (fun p=>p.1) 0:=om _ _
theorem PX:Part RT.en (RT.int .i64) (fun p=>p.2) 2:=iv _ _
theorem E6 {M:aI} {w:World} {p:Dc} {v:Value} (h:RT.dc.V M w p v):∃u,v= .agg #[.int .i64 p.1,u]:=by
 obtain⟨vs,⟨va,vb,rfl,⟨rfl,_⟩,hb⟩,rfl⟩:=h;have:=(RT.fd.sl (by decide)).len hb
 match vb,this with
 |[u],_=>exact⟨u,rfl⟩
theorem E7 {M:aI} {w:World} {p:Dc} {u:Value} {s:Int} (h:RT.dc.V M w p (.agg #[.int .i64 p.1,u])) (hs: -9223372036854775808≤s∧s≤9223372036854775807):RT.en.V M w (p,s) (.agg [.int .i64 p.1,u,.int .i64 s].toArray):=by
 obtain⟨vs,h1,h2⟩:=h
 have h3:vs=[.int .i64 p.1,u]:=by
  have:Value.agg #[.int .i64 p.1,u]= .agg vs.toArray:=h2;injection this with this
  simpa using(congrArg Array.toList this).symm
 subst h3;exact⟨_,⟨[.int .i64 p.1,u],[.int .i64 s],rfl,h1,rfl,hs.1,hs.2⟩,rfl⟩
theorem Own.JK {α:Type} (A:RT α) (e:TypeId) (base:Nat) {M:aI} {w:World} (h:Lt M w):Own A e M w base (.slice none 0 0) []:=dw _ _ _ _ _
section
variable {P:Program} {r:Option Nat} {n:Nat} {L:Sl} {ds:List Deferred} {w:World} {K:Kt} {ops:Array Oper} {rest:List Oper} {d:Nat} {x:Operand} {ty:TypeId} {pos:String} {af:Array Edge}
theorem Rg.iR {α:Type} {A:RT α} {e:TypeId} {v:Value} {a:α} {M:aI} (hx:ev L x=some v) (hd:Nat.blt d n=true) (hM:Lt M w) (hv:A.V M w a v) (hg:A.agg=true)
  (k:∀u w',cf A M w' u a→Step M w M w' aD→w.heap.size≤w'.heap.size→Rg P r n ops rest ((d,u)::L) ds w' K):
  Rg P r n ops ({dst:=some d,op:= .box e x,type:=ty,pos,after:=af,guard:=none}::rest) L ds w K:=by
 refine Rg.box M hx hd (fun b w' h1 h2 hb s=>?_);obtain⟨vs,h3,h4⟩:=hv;have hc:v.cells=vs.toArray:=by subst h4;simp[RT.val,hg,Value.cells]
 rw[hc]at hb;refine k _ w' ⟨b,0,vs,rfl,fun hm=>?_,A.le s.back.le h3,fun j u hj=>?_⟩ s.back s.size
 ·have:=hM b hm;omega
 ·rw[Nat.zero_add];exact gQ hb (by simpa using hj)
end
end Go.K
namespace Go.Proofs
open Go.Shelf
def Tryz.y9:Go.Shelf.Ren:=⟨fun|160=>193|232=>227|231=>226|227=>228|234=>230|233=>229|236=>232|235=>231|228=>257|271=>260|151=>259|197=>258|120=>280|152=>279|260=>278|137=>287|119=>277|224=>288|225=>289|217=>291|266=>292|n=>n,fun|9=>9|4=>4|3=>3|5=>5|117=>283|116=>282|0=>0|124=>286|21=>21|105=>317|46=>183|119=>338|139=>341|138=>340|n=>n,fun|3=>2|4=>3|n=>n⟩
theorem Tryz.Im:Go.Proofs.Lays.n160 Tryz.prog Tryz.y9:={
 mixed:=by kernel_rfl
 f119:=Tryz.func277.trans (congrArg some (by kernel_rfl))
 f120:=Tryz.func280.trans (congrArg some (by kernel_rfl))
 f137:=Tryz.func287.trans (congrArg some (by kernel_rfl))
 f151:=Tryz.func259.trans (congrArg some (by kernel_rfl))
 f152:=Tryz.func279.trans (congrArg some (by kernel_rfl))
 f160:=Tryz.func193.trans (congrArg some (by kernel_rfl))
 f197:=Tryz.func258.trans (congrArg some (by kernel_rfl))
 f217:=Tryz.func291.trans (congrArg some (by kernel_rfl))
 f224:=Tryz.func288.trans (congrArg some (by kernel_rfl))
 f225:=Tryz.func289.trans (congrArg some (by kernel_rfl))
 f227:=Tryz.func228.trans (congrArg some (by kernel_rfl))
 f228:=Tryz.func257.trans (congrArg some (by kernel_rfl))
 f231:=Tryz.func226.trans (congrArg some (by kernel_rfl))
 f232:=Tryz.func227.trans (congrArg some (by kernel_rfl))
 f233:=Tryz.func229.trans (congrArg some (by kernel_rfl))
 f234:=Tryz.func230.trans (congrArg some (by kernel_rfl))
 f235:=Tryz.func231.trans (congrArg some (by kernel_rfl))
 f236:=Tryz.func232.trans (congrArg some (by kernel_rfl))
 f260:=Tryz.func278.trans (congrArg some (by kernel_rfl))
 f266:=Tryz.func292.trans (congrArg some (by kernel_rfl))
 f271:=Tryz.func260.trans (congrArg some (by kernel_rfl))
 t0:=iw
 a0:=sH
 z0:=oW
 v0:=jf
 t3:=ay
 a3:=sI
 z3:=oX
 v3:=jg
 t4:=jS
 a4:=Tryz.isAgg4
 z4:=Tryz.sizeOf4
 v4:=pG
 t5:=cw
 a5:=Tryz.isAgg5
 z5:=Tryz.sizeOf5
 v5:=Tryz.zeroValue5
 t9:=aA
 a9:=sJ
 z9:=oY
 v9:=jh
 t21:=Tryz.underlying21
 a21:=Tryz.isAgg21
 z21:=Tryz.sizeOf21
 v21:=Tryz.zeroValue21
 t46:=Tryz.underlying183
 a46:=Tryz.isAgg183
 z46:=Tryz.sizeOf183
 v46:=Tryz.zeroValue183
 t105:=Tryz.underlying317
 a105:=Tryz.isAgg317
 z105:=Tryz.sizeOf317
 v105:=Tryz.zeroValue317
 t116:=Tryz.underlying282
 a116:=Tryz.isAgg282
 z116:=Tryz.sizeOf282
 t117:=Tryz.underlying283
 a117:=Tryz.isAgg283
 z117:=Tryz.sizeOf283
 v117:=Tryz.zeroValue283
 t119:=Tryz.underlying338
 a119:=Tryz.isAgg338
 z119:=Tryz.sizeOf338
 t124:=Tryz.underlying286
 a124:=Tryz.isAgg286
 z124:=Tryz.sizeOf286
 v124:=Tryz.zeroValue286
 t138:=Tryz.underlying340
 a138:=Tryz.isAgg340
 z138:=Tryz.sizeOf340
 v138:=Tryz.zeroValue340
 t139:=Tryz.underlying341
 a139:=Tryz.isAgg341
 z139:=Tryz.sizeOf341
 v139:=Tryz.zeroValue341
 g3:=by kernel_rfl
 g4:=by kernel_rfl}
end Go.Proofs
namespace Go.K
open Go.Proofs
set_option maxRecDepth 10000
open Go.RowKit Go.Shelf
def jX:List UInt8:=[97,98,99,100,101,102,103,104,105,106,107,108,109,110,111,112,113,114,115,116,117,118,119,120,121,122]
def fS (b:UInt8):Bool:=decide (97≤b.toNat∧b.toNat≤122)
def eS (s:List UInt8):Bool:=decide (1≤s.length∧s.length≤12)&&s.all fS
theorem za (b:UInt8):jX.contains b=fS b:=by
 have key:∀n:Fin 256,jX.contains (UInt8.ofNat n)=fS (UInt8.ofNat n):=by decide
 have:=key ⟨b.toNat,UInt8.toNat_lt b⟩;simpa using this
theorem drop_nil {α:Type} (p:α→Bool):∀l:List α,l.dropWhile p=[]↔∀x∈l,p x=true
 |[]=>by simp
 |x::l=>by
  rw[List.dropWhile_cons];by_cases h:p x=true
  ·rw[if_pos h,drop_nil p l];simp[h]
  ·rw[if_neg h];simp[h]
theorem tM (s:List UInt8):Lib.trimS s jX=[]↔s.all fS=true:=by
 have e:(fun b=>jX.contains b)=fS:=funext za;unfold Lib.trimS Lib.trimLeftS Lib.trimRightS;rw[e,drop_nil,ew];constructor
 ·intro h
  have h2:s.reverse.dropWhile fS=[]:=by
   cases hd:s.reverse.dropWhile fS with
   |nil=>rfl
   |cons x r=>
    have h3:=h x (by rw[hd];simp);have h4:=List.head?_dropWhile_not fS s.reverse;rw[hd]at h4;simp[h3]at h4
  intro x hx;exact(drop_nil _ _).1 h2 x (List.mem_reverse.2 hx)
 ·intro h x hx;rw[(drop_nil fS s.reverse).2 (fun y hy=>h y (List.mem_reverse.1 hy))]at hx
  cases hx
theorem De (s:List UInt8) (hs:s.length≤140737488355328) (w:World):Spec Tryz.prog 193 #[.string ⟨s.toArray⟩,.string ⟨jX.toArray⟩] w (fun v w'=>v= .string ⟨(Lib.trimS s jX).toArray⟩∧∀M,Step M w M w' aD):=
 (Any.strings_Trim_ascii Tryz.Im Tryz.zeroValue282 (by kernel_rfl) ⟨s.toArray⟩ ⟨jX.toArray⟩ w (by simp[ByteArray.size];omega) (by decide) (fun j b hj=>by
  have hm:b∈jX:=aH hj;have:=za b;rw[ik.2 hm]at this;have h2:97≤b.toNat∧b.toNat≤122:=by simpa[fS]using this.symm
  omega)).mono fun e w' ⟨h1,h2⟩=>⟨_,h1,rfl,fun M=> .tt h2 M⟩
theorem Df (s:List UInt8) (hs:s.length≤140737488355328) (w0:World):
  Spec Tryz.prog 151 #[.string ⟨s.toArray⟩] w0 (fun v w=>v= .bool (eS s)∧∀M,Step M w0 M w aD):=by
 refine bh (args:=[_]) (fn:=Tryz.f151) Tryz.func151 rfl (n:=15) Tryz.ntmps151 (ak (aj (ah rfl rfl (ad (ak (aj (ae rfl rfl (Rg.D7 (p:=s) (q:=[]) rfl rfl rfl (ae rfl rfl ?_)))))))));refine aL (g:=5) rfl (fun fX=>?_) (fun fX=>?_)
 ·refine an rfl rfl (ae rfl rfl (an rfl rfl (Rg.lh aA rfl rfl (bI (v':= .int .i64 (s.length:Int)) (by simp[ByteArray.size]) (an rfl rfl (fh rfl rfl rfl (aP rfl rfl rfl (ae rfl rfl ?_))))))));refine aL (g:=10) rfl (fun VW=>?_) (fun VW=>?_)
  ·refine an rfl rfl (ae rfl rfl (an rfl rfl ?_));refine aT rfl rfl UX (De s hs _) (fun r w9 hc=>?_);obtain⟨rfl,s9⟩:=hc;refine an rfl rfl (Rg.rn (p:=Lib.trimS s jX) (q:=[]) rfl rfl rfl (aP rfl rfl rfl (ah rfl rfl (ad (aM ?_)))))
   first
   |exact aS rfl rfl ⟨by rw[eS,decide_eq_true (p:=1≤s.length∧s.length≤12) ⟨lZ.2 fX,by omega⟩,fm];exact congrArg Value.bool (by rw[Bool.eq_iff_iff,decide_eq_true_eq];exact tM s),s9⟩
   |exact aS rfl rfl ⟨by rw[eS,decide_eq_false (p:=1≤s.length∧s.length≤12) (by omega),Bool.false_and],fun M=>ar _ _⟩
   |(have PY:s=[]:=Classical.not_not.1 fX
     subst PY;exact aS rfl rfl ⟨rfl,fun M=>ar _ _⟩)
  ·refine aq rfl rfl rfl rfl (aq rfl rfl rfl rfl (aq rfl rfl rfl rfl (aE rfl rfl rfl (ah rfl rfl (ad (aM ?_))))))
   first
   |exact aS rfl rfl ⟨by rw[eS,decide_eq_true (p:=1≤s.length∧s.length≤12) ⟨lZ.2 fX,by omega⟩,fm];exact congrArg Value.bool (by rw[Bool.eq_iff_iff,decide_eq_true_eq];exact tM s),s9⟩
   |exact aS rfl rfl ⟨by rw[eS,decide_eq_false (p:=1≤s.length∧s.length≤12) (by omega),Bool.false_and],fun M=>ar _ _⟩
   |(have PY:s=[]:=Classical.not_not.1 fX
     subst PY;exact aS rfl rfl ⟨rfl,fun M=>ar _ _⟩)
 ·refine aq rfl rfl rfl rfl (aq rfl rfl rfl rfl (aq rfl rfl rfl rfl (aE rfl rfl rfl (ae rfl rfl (aq rfl rfl rfl rfl (aq rfl rfl rfl rfl (aq rfl rfl rfl rfl (aE rfl rfl rfl (ah rfl rfl (ad (aM ?_)))))))))))
  first
  |exact aS rfl rfl ⟨by rw[eS,decide_eq_true (p:=1≤s.length∧s.length≤12) ⟨lZ.2 fX,by omega⟩,fm];exact congrArg Value.bool (by rw[Bool.eq_iff_iff,decide_eq_true_eq];exact tM s),s9⟩
  |exact aS rfl rfl ⟨by rw[eS,decide_eq_false (p:=1≤s.length∧s.length≤12) (by omega),Bool.false_and],fun M=>ar _ _⟩
  |(have PY:s=[]:=Classical.not_not.1 fX
    subst PY;exact aS rfl rfl ⟨rfl,fun M=>ar _ _⟩)
theorem E8 {s:List UInt8} (h:∀(k:Nat) c,s[k]? =some c→fS c=true):s.all fS=true:=ew.2 fun c hc=>by
 obtain⟨k,hk⟩:=bT.1 hc;exact h k c hk
theorem pZ {s:List UInt8} {i:Nat} (h:i<s.length):s[i]? =some (s.getD i 0):=by rw[ek,aF h];rfl
theorem iS {M:aI} {w:World} {p:Fd} {v:Value} (h:RT.fd.V M w p v):v= .agg #[.string ⟨p.1.toArray⟩,.string ⟨p.2.toArray⟩]:=by
 obtain⟨vs,⟨va,vb,rfl,⟨rfl,_⟩,⟨rfl,_⟩⟩,rfl⟩:=h;rfl
theorem E9 {M:aI} {w:World} {p:Fd} {v:Value} (h:RT.fd.V M w p v):p.1.length≤140737488355328∧p.2.length≤140737488355328:=by
 obtain⟨vs,⟨va,vb,rfl,⟨rfl,h1⟩,⟨rfl,h2⟩⟩,_⟩:=h;exact⟨h1,h2⟩
def tN:List Fd→List Fd→Nat→Int
 |_,[],n=>if 500<n then 7 else 0
 |seen,f::fs,n=>if eS f.1=false then 4 else if(seen.any fun g=>decide (g.1=f.1))=true then 5 else if kz 0 (words f.2)≠0 then kz 0 (words f.2)else tN (seen++[f]) fs (n+(words f.2).length)
def lu (d:Dc):Int:=if 8<d.2.length then 7 else tN [] d.2 0
theorem Cd {fs:List Fd} {i n:Nat} {x:Fd} (h:fs[i]? =some x):tN (fs.take i) (fs.drop i) n=if eS x.1=false then 4 else if((fs.take i).any fun g=>decide (g.1=x.1))=true then 5 else if kz 0 (words x.2)≠0 then kz 0 (words x.2)else tN (fs.take (i+1)) (fs.drop (i+1)) (n+(words x.2).length):=by
 have dD:=(av.1 h).1;rw[dm dD,(av.1 h).2,bc,h];rfl
theorem p6 {fs:List Fd} {i n:Nat} (h:fs.length≤i):tN (fs.take i) (fs.drop i) n=if 500<n then 7 else 0:=by
 rw[jI h];rfl
theorem tO (s:List UInt8) (hs:s.length≤140737488355328) (w0:World):
  Spec Tryz.prog 116 #[.string ⟨s.toArray⟩] w0 (fun v w=>v= .bool (eS s)∧w=w0):=by
 refine bh (args:=[_]) (fn:=Tryz.f116) Tryz.func116 rfl (n:=28) Tryz.ntmps116 (ak (aj (ah rfl rfl (ad (ak (ak (aj (ah rfl rfl (ad (aW ?_))))))))));refine cX (σ:=Nat) (fun i=>[(0,.string ⟨s.toArray⟩),(3,.int .i64 (i:Int))]) (fun i w=>w=w0∧i≤s.length∧∀k c,k<i→s[k]? =some c→fS c=true) (fun i=>s.length-i) 0 (.cons rfl (.cons rfl .nil)) ?_ ?_
 ·exact⟨rfl,bC _,fun k c h=>absurd h (sK k)⟩
 ·rintro i w ⟨rfl,hi,hok⟩;refine ak (ak (aj (ae rfl rfl (ae rfl rfl (Rg.lh aA rfl rfl (bI (v':= .int .i64 (s.length:Int)) (by simp[ByteArray.size]) (cj rfl rfl rfl (ad ?_))))))));refine bK rfl (fun c2=>?_) (fun c2=>?_)
  ·refine aU (ak (aW (ak (aj (ae rfl rfl (ae rfl rfl (Rg.B7 (c:=s.getD i 0) aA rfl rfl rfl (by omega) (by rw[aB];exact pZ (by omega)) (cj rfl rfl rfl (ae rfl rfl ?_)))))))));refine aL (g:=14) rfl (fun VX=>?_) (fun VX=>?_)
   ·refine aq rfl rfl rfl rfl (aq rfl rfl rfl rfl (aq rfl rfl rfl rfl (aq rfl rfl rfl rfl (aP rfl rfl rfl (ad (jH rfl (ak (aj (ah rfl rfl (ad (aM ?_)))))))))))
    have hx:s.all fS=false:=ef.2 fun h=>by
     have h2:=ew.1 h _ (aH (pZ (s:=s) (i:=i) (by omega)));simp only[fS,decide_eq_true_eq]at h2;omega
    exact aS rfl rfl ⟨by rw[eS,hx,Bool.and_false],rfl⟩
   ·refine an rfl rfl (ae rfl rfl (an rfl rfl (ae rfl rfl (an rfl rfl (Rg.B7 (c:=s.getD i 0) aA rfl rfl rfl (by omega) (by rw[aB];exact pZ (by omega)) (an rfl rfl (lF rfl rfl rfl (aE rfl rfl rfl (ad ?_)))))))));refine bK rfl (fun c4=>?_) (fun c4=>?_)
    ·refine ak (aj (ah rfl rfl (ad (aM ?_))))
     have hx:s.all fS=false:=ef.2 fun h=>by
      have h2:=ew.1 h _ (aH (pZ (s:=s) (i:=i) (by omega)));simp only[fS,decide_eq_true_eq]at h2;omega
     exact aS rfl rfl ⟨by rw[eS,hx,Bool.and_false],rfl⟩
    ·refine aU (aj (ae rfl rfl (bE rfl rfl rfl (by omega) (ah rfl rfl (ad ?_)))));refine⟨rfl,i+1,(.cons rfl (.cons rfl .nil)),?_,?_⟩
     ·exact⟨rfl,by omega,fun k c h hc=>by
       rcases fw k i with h2|h2
       ·exact hok k c h2 hc
       ·obtain rfl:k=i:=by omega
        rw[pZ (by omega)]at hc;cases hc;simp only[fS,decide_eq_true_eq];omega⟩
     ·omega
  ·refine cK (ak (aj (ae rfl rfl (Rg.lh aA rfl rfl (bI (v':= .int .i64 (s.length:Int)) (by simp[ByteArray.size]) (dN rfl rfl rfl (ae rfl rfl ?_)))))));refine aL (g:=23) rfl (fun mZ=>?_) (fun mZ=>?_)
   ·refine an rfl rfl (ae rfl rfl (an rfl rfl (Rg.lh aA rfl rfl (bI (v':= .int .i64 (s.length:Int)) (by simp[ByteArray.size]) (an rfl rfl (fh rfl rfl rfl (aP rfl rfl rfl (ah rfl rfl (ad (aM ?_))))))))));have ha:s.all fS=true:=E8 fun k c hc=>hok k c (by have:=(av.1 hc).1;omega) hc
    first
    |exact aS rfl rfl ⟨by rw[eS,ha,Bool.and_true];exact congrArg Value.bool (decide_eq_decide.2 (by omega)),rfl⟩
    |exact aS rfl rfl ⟨by rw[eS,ha,Bool.and_true];exact congrArg Value.bool (decide_eq_false (by omega)).symm,rfl⟩
   ·refine aq rfl rfl rfl rfl (aq rfl rfl rfl rfl (aq rfl rfl rfl rfl (aE rfl rfl rfl (ah rfl rfl (ad (aM ?_))))));have ha:s.all fS=true:=E8 fun k c hc=>hok k c (by have:=(av.1 hc).1;omega) hc
    first
    |exact aS rfl rfl ⟨by rw[eS,ha,Bool.and_true];exact congrArg Value.bool (decide_eq_decide.2 (by omega)),rfl⟩
    |exact aS rfl rfl ⟨by rw[eS,ha,Bool.and_true];exact congrArg Value.bool (decide_eq_false (by omega)).symm,rfl⟩
theorem Dg {M:aI} {o:Fd} {v0:Value} (w0:World) (hM:Lt M w0) (hv:RT.fd.V M w0 o v0) {nm:List UInt8} {t:Value} {bf:Nat} (g:w0.heap[bf]? =some (.cells #[.string ⟨nm.toArray⟩,t] 127 (0,0))) (wN:M bf):
  Spec Tryz.prog 153 #[v0,.pointer (some ⟨bf,0,none⟩)] w0 (fun v w=>v= .bool (decide (o.1=nm))∧Step M w0 M w aD):=by
 refine bh (args:=[_,_]) (fn:=Tryz.f153) Tryz.func153 rfl (n:=9) Tryz.ntmps153 ?_;have S:Step M w0 M w0 aD:=(ar _ _).b9 (fun _ h=>h.elim) (fun _ h=>h.elim);refine ak (aj ?_);refine Rg.iR (A:=RT.fd) rfl rfl hM hv rfl (fun u0 w1 cG s0 _=>?_);have:=al g;replace wN:=(s0.mem _ this).2 wN;replace g:=s0.aN g;replace hM:=s0.lt hM;have:=S.size;replace S:=S.aw s0;refine ah rfl rfl (ad (ak (aj ?_)));refine ax (M:=M) (A:=RT.fd) (B:=RT.str) bQ rfl rfl I9 (by decide) (DY) rfl rfl (by decide) (by assumption) (by repeat (first|exact ao _ _|refine aV (br (by assumption)) ?_)) (fun tP jc=>?_);refine bw (M:=M) aA rfl rfl rfl rfl rfl jc (ao _ _) (fun v1 pE=>?_);obtain rfl:=dB pE;refine bH (o':=0) bQ rfl rfl I9 (by decide) rfl rfl (aX aA rfl rfl rfl (by assumption) rfl (Rg.rn (p:=o.1) (q:=nm) rfl rfl rfl (ah rfl rfl (ad (aM ?_)))));exact aS rfl rfl ⟨rfl,S⟩
theorem A6 {M:aI} {fs:List Fd} {v0:Value} (w0:World) (hM:Lt M w0) (hv:(RT.fd.sl).V M w0 fs v0) {nm:List UInt8} {t:Value} {bf:Nat} (g:w0.heap[bf]? =some (.cells #[.string ⟨nm.toArray⟩,t] 127 (0,0))) (wN:M bf):
  Spec Tryz.prog 194 #[v0,.func (.func 153) #[] #[.pointer (some ⟨bf,0,none⟩)]] w0 (fun v w=>(∃k:Int,v= .int .i64 k∧(0≤k↔(fs.any fun g=>decide (g.1=nm))=true)∧ -1≤k∧k≤9223372036854775807)∧Step M w0 M w aD):=by
 have B1:=dd hv;refine bh (args:=[_,_]) (fn:=Tryz.f194) Tryz.func194 rfl (n:=19) Tryz.ntmps194 ?_;have S:Step M w0 M w0 aD:=(ar _ _).b9 (fun _ h=>h.elim) (fun _ h=>h.elim);refine ak (aj (ah rfl rfl (ad (ak (ak (aj (ae rfl rfl (bz aO rfl hv rfl (ae rfl rfl (ad (aW ?_)))))))))));refine cX (σ:=Nat) (fun i=>[(0,v0),(1,.func (.func 153) #[] #[.pointer (some ⟨bf,0,none⟩)]),(6,v0),(7,.int .i64 (fs.length:Int)),(8,.int .i64 (i:Int))]) (fun i w=>Lt M w∧Step M w0 M w aD∧(w.heap[bf]? =some (.cells #[.string ⟨nm.toArray⟩,t] 127 (0,0)))∧(RT.fd.sl).V M w fs v0∧i≤fs.length∧∀k o,k<i→fs[k]? =some o→o.1≠nm) (fun i=>fs.length-i) 0 (.cons rfl (.cons rfl (.cons rfl (.cons rfl (.cons rfl .nil))))) ?_ ?_
 ·exact⟨hM,S,g,hv,bC _,fun k c h=>absurd h (sK k)⟩
 ·rintro i w ⟨hM,S,g,hv,hi,hok⟩;refine ak (aj (cj rfl rfl rfl (ad (ak ?_))));refine bK rfl (fun c2=>?_) (fun c2=>?_)
  ·refine aU (ak (aW (ak (aj (ae rfl rfl (ah rfl rfl (ad (ak (aj (ae rfl rfl (ae rfl rfl ?_)))))))))));refine ae rfl rfl ?_;refine cb (M:=M) aO gU rfl rfl rfl hv (ao _ _) (by omega) (fun u4 o yw Hz=>?_);refine b7 (M:=M) (A:=RT.fd) bQ rfl gU (by decide) rfl rfl rfl Hz (ao _ _) (fun v4 nk=>?_);rw[aB]at yw;refine Rg.oH (first:=[]) (captured:=[.pointer (some ⟨bf,0,none⟩)]) rfl rfl rfl UN (Dg _ hM nk g wN) (fun r5 w5 hc=>?_);obtain⟨rfl,s5⟩:=hc;have:=al g;replace wN:=(s5.mem _ this).2 wN;replace g:=s5.aN g;replace hv:=hv.le s5.le;replace hM:=s5.lt hM;have:=S.size;replace S:=S.aw s5;refine ad ?_;refine bK rfl (fun c4=>?_) (fun c4=>?_)
   ·refine ak (aj (ae rfl rfl (ah rfl rfl (ad (aM ?_)))));exact aS rfl rfl ⟨⟨_,rfl,⟨fun _=>qy.2 ⟨o,aH yw,by simpa using(by assumption)⟩,fun _=>by omega⟩,by omega,by omega⟩,S.back⟩
   ·refine aU (aj (bE rfl rfl rfl (by omega) (ae rfl rfl (ad ?_))));refine⟨rfl,i+1,(.cons rfl (.cons rfl (.cons rfl (.cons rfl (.cons rfl .nil))))),?_,?_⟩
    ·exact⟨hM,S,g,hv,by omega,fun k o' h hc=>by
      rcases fw k i with h2|h2
      ·exact hok k o' h2 hc
      ·obtain rfl:k=i:=by omega
       rw[yw]at hc;cases hc;assumption⟩
    ·omega
  ·refine cK (ak (aj (ah rfl rfl (ad (aM ?_)))))
   exact aS rfl rfl ⟨⟨-1,rfl,⟨fun h=>by omega,fun h=>by
    obtain⟨o,ho,he⟩:=qy.1 h;obtain⟨k,hk⟩:=bT.1 ho;exact absurd (by simpa using he) (hok k o (by have:=(av.1 hk).1;omega) hk)⟩,by omega,by omega⟩,S.back⟩
theorem zb {M:aI} {fs:List Fd} {v0:Value} (w0:World) (hM:Lt M w0) (hv:(RT.fd.sl).V M w0 fs v0) {nm:List UInt8} {t:Value} {bf:Nat} (g:w0.heap[bf]? =some (.cells #[.string ⟨nm.toArray⟩,t] 127 (0,0))) (wN:M bf):
  Spec Tryz.prog 152 #[v0,.func (.func 153) #[] #[.pointer (some ⟨bf,0,none⟩)]] w0 (fun v w=>v= .bool (fs.any fun g=>decide (g.1=nm))∧Step M w0 M w aD):=by
 refine bh (args:=[_,_]) (fn:=Tryz.f152) Tryz.func152 rfl (n:=9) Tryz.ntmps152 ?_;have S:Step M w0 M w0 aD:=(ar _ _).b9 (fun _ h=>h.elim) (fun _ h=>h.elim);refine ak (aj (ah rfl rfl (ad (ak (aj (ae rfl rfl (ae rfl rfl ?_)))))));refine aT rfl rfl UY (A6 _ hM hv g wN) (fun r1 w1 hc=>?_);obtain⟨⟨k,rfl,hk,_⟩,s1⟩:=hc;have:=al g;replace wN:=(s1.mem _ this).2 wN;replace g:=s1.aN g;replace hv:=hv.le s1.le;replace hM:=s1.lt hM;have:=S.size;replace S:=S.aw s1;refine dN rfl rfl rfl (ah rfl rfl (ad (aM ?_)));exact aS rfl rfl ⟨congrArg Value.bool (by rw[Bool.eq_iff_iff,decide_eq_true_eq];exact hk),S⟩
theorem Fa {M:aI} {d:Dc} {v0:Value} (w0:World) (hM:Lt M w0) (hv:RT.dc.V M w0 d v0) (hl:∀f∈d.2,f.1.length≤900000∧f.2.length≤900000):
  Spec Tryz.prog 107 #[v0] w0 (fun v w=>v= .int .i64 (lu d)∧Step M w0 M w aD):=by
 have fR:=hM;refine bh (args:=[_]) (fn:=Tryz.f107) Tryz.func107 rfl (n:=49) Tryz.ntmps107 ?_;have S:Step M w0 M w0 aD:=(ar _ _).b9 (fun _ h=>h.elim) (fun _ h=>h.elim);refine ak (aj ?_);refine Rg.iR (A:=RT.dc) rfl rfl hM hv rfl (fun u0 w1 cG s0 _=>?_);replace hM:=s0.lt hM;have:=S.size;replace S:=S.aw s0;refine ah rfl rfl (ad (ak (ak (aj ?_))));refine ax (M:=M) (A:=RT.dc) (B:=(RT.fd).sl) aJ rfl rfl ow (by decide) (xV) rfl rfl (by decide) (by assumption) (by repeat (first|exact ao _ _|refine aV (br (by assumption)) ?_)) (fun tP jc=>?_);refine bw (M:=M) aO rfl rfl rfl rfl rfl (by assumption) (by repeat (first|exact ao _ _|refine aV (br (by assumption)) ?_)) (fun vF k4=>?_);refine bz aO rfl k4 rfl (lF rfl rfl rfl (ad ?_));refine bK rfl (fun c1=>?_) (fun c1=>?_)
 ·refine ak (aj (ah rfl rfl (ad (aM ?_))));exact aS rfl rfl ⟨by rw[lu,if_pos (by omega)],S.back⟩
 ·refine aU (ak (aj (ah rfl rfl (ad (ak (ak (aj ?_)))))));refine ax (M:=M) (A:=RT.dc) (B:=(RT.fd).sl) aJ rfl rfl ow (by decide) (xV) rfl rfl (by decide) (by assumption) (by repeat (first|exact ao _ _|refine aV (br (by assumption)) ?_)) (fun Io zc=>?_);refine bw (M:=M) aO rfl rfl rfl rfl rfl (by assumption) (by repeat (first|exact ao _ _|refine aV (br (by assumption)) ?_)) (fun Ip Ce=>?_);refine bz aO rfl Ce rfl (ae rfl rfl (ad (aW ?_)));refine cX (σ:=Nat×Nat) (fun q=>[(1,u0),(3,.int .i64 (q.2:Int)),(13,Ip),(14,.int .i64 (d.2.length:Int)),(15,.int .i64 (q.1:Int))]) (fun q w=>∃M',Lt M' w∧Step M w0 M' w aD∧cf RT.dc M' w u0 d∧(RT.fd.sl).V M' w d.2 Ip∧lu d=tN (d.2.take q.1) (d.2.drop q.1) q.2∧q.1≤d.2.length∧q.2≤900001*q.1) (fun q=>d.2.length-q.1) (0,0) (.cons rfl (.cons rfl (.cons rfl (.cons rfl (.cons rfl .nil))))) ?_ ?_
  ·exact⟨M,hM,S,cG,Ce,by rw[lu,if_neg (by omega)];rfl,bC _,a8 _⟩
  ·rintro⟨i,n⟩ w ⟨M1,hM,S,cG,mJ,A7,hi,hn⟩;dsimp only at A7 hi hn ⊢;refine ak (aj (cj rfl rfl rfl (ad (ak ?_))));refine bK rfl (fun c5=>?_) (fun c5=>?_)
   ·refine aU (ak (aW (ak (aj (ae rfl rfl ?_)))));refine cb (M:=M1) aO gU rfl rfl rfl mJ (ao _ _) (by omega) (fun u6 x DW Ij=>?_);refine b7 (M:=M1) (A:=RT.fd) bQ rfl gU (by decide) rfl rfl rfl Ij (ao _ _) (fun v6 pF=>?_);rw[aB]at DW;obtain rfl:=iS pF;have jz:=Cd (n:=n) DW;have xz:=hl _ (aH DW);refine dL M1 gU rfl (fun LG PZ adV adW mZ vG=>?_);obtain⟨zd,Fb⟩:∃M',M'=ins M1 LG:=⟨_,rfl⟩;rw[←Fb]at vG;have kA:zd LG:=by rw[Fb];exact .inl rfl
    change PZ.heap[LG]? =some (.cells #[.string ⟨#[]⟩,.string ⟨#[]⟩] _ _)at mZ;replace cG:=cG.le (by decide) vG.le;replace mJ:=mJ.le vG.le;replace hM:=vG.lt hM;have:=S.size;replace S:=S.aw vG;refine ah rfl rfl ?_;refine dx (M:=zd) (vs:=[.string ⟨x.1.toArray⟩,.string ⟨x.2.toArray⟩]) gU rfl rfl (by intro u hu;simp at hu;rcases hu with rfl|rfl<;>rfl) rfl rfl mZ kA (fun w6 g6 s6=>?_);have:=al mZ;replace kA:=(s6.mem _ this).2 kA;replace cG:=cG.le (by decide) s6.le;replace mJ:=mJ.le s6.le;replace hM:=s6.lt hM;have:=S.size;replace S:=S.trans s6 (fun k hk h=>by have h:_=_:=h;subst h;first|(exfalso;omega)|(show _≤_;omega)|exact⟨by first|omega|assumption,(S.mem _ hk).1 ((s6.mem _ (al mZ)).1 kA)⟩|exact .inl rfl|exact .inr rfl|exact .inr (.inl rfl)|exact .inr (.inr rfl)|exact rfl);have JL:=g6;clear mZ;have mZ:=JL;clear JL;refine ad (ak (aj (bH (o':=1) bQ rfl rfl I9 (by decide) rfl rfl (aX aA rfl rfl rfl (by assumption) rfl ?_))));refine aT rfl rfl UK (Dd _ hM xz.2) (fun r7 w7 hc=>?_);obtain⟨⟨u7,rfl,hu7⟩,s7⟩:=hc;have:=al mZ;replace kA:=(s7.mem _ this).2 kA;replace mZ:=s7.aN mZ;replace cG:=cG.le (by decide) s7.le;replace mJ:=mJ.le s7.le;replace hM:=s7.lt hM;have:=S.size;replace S:=S.aw s7;refine ae rfl rfl (bR rfl rfl rfl (bR rfl rfl rfl (ah rfl rfl (ah rfl rfl (ad (ak (aW (ak (aj (bH (o':=0) bQ rfl rfl I9 (by decide) rfl rfl (aX aA rfl rfl rfl (by assumption) rfl ?_)))))))))));refine aT rfl rfl UL (Df x.1 (by omega) _) (fun r8 w8 hc=>?_);obtain⟨rfl,s8_⟩:=hc;have s8:=s8_ zd;have:=al mZ;replace kA:=(s8.mem _ this).2 kA;replace mZ:=s8.aN mZ;replace cG:=cG.le (by decide) s8.le;replace mJ:=mJ.le s8.le;replace hM:=s8.lt hM;have:=S.size;replace S:=S.aw s8
    refine jx rfl rfl (bI (v':= .bool (decide (eS x.1=false))) (by cases eS x.1<;>rfl) (ah rfl rfl (ad ?_)));refine bK rfl (fun c8=>?_) (fun c8=>?_)
    ·refine ak (aj (ah rfl rfl (ad (aM ?_))));exact aS rfl rfl ⟨by rw[A7,jz,if_pos (by assumption)],S.back⟩
    ·refine ak (aj ?_);refine ax (M:=zd) (A:=RT.dc) (B:=(RT.fd).sl) aJ rfl rfl ow (by decide) (xV) rfl rfl (by decide) (by assumption) (by repeat (first|exact ao _ _|refine aV (br (by assumption)) ?_)) (fun P0 LH=>?_);refine bw (M:=zd) aO rfl rfl rfl rfl rfl (by assumption) (by repeat (first|exact ao _ _|refine aV (br (by assumption)) ?_)) (fun P1 Fc=>?_);refine ae rfl rfl ?_;refine Rg.pJ aO gU rfl rfl rfl Fc (by omega) (fun u10 Dh=>?_);rw[aB]at Dh;refine lD (xs:=[]) (ys:=[.tmp 5]) rfl rfl rfl ?_;refine aT rfl rfl UM (zb _ hM Dh mZ kA) (fun VY VZ hc=>?_);obtain⟨rfl,p8⟩:=hc;have:=al mZ;replace kA:=(p8.mem _ this).2 kA;replace mZ:=p8.aN mZ;replace cG:=cG.le (by decide) p8.le;replace mJ:=mJ.le p8.le;replace hM:=p8.lt hM;have:=S.size;replace S:=S.aw p8;refine ah rfl rfl (bI (v':= .bool (decide (((d.2.take i).any fun g=>decide (g.1=x.1))=true))) (by cases((d.2.take i).any fun g=>decide (g.1=x.1))<;>rfl) (ad ?_));refine bK rfl (fun Lh=>?_) (fun Lh=>?_)
     ·refine ak (aj (ah rfl rfl (ad (aM ?_))));exact aS rfl rfl ⟨by rw[A7,jz,if_neg (by assumption),if_pos (by assumption)],S.back⟩
     ·refine ak (aj (ae rfl rfl (dW rfl rfl rfl (ah rfl rfl (ad ?_)))));refine bK rfl (fun PD=>?_) (fun PD=>?_)
      ·refine ak (aj (ae rfl rfl (ah rfl rfl (ad (aM ?_)))));exact aS rfl rfl ⟨by rw[A7,jz,if_neg (by assumption),if_neg (by assumption),if_pos (by assumption)];rfl,S.back⟩
      ·refine aU (aj (ae rfl rfl ?_));have P2:kz 0 (words x.2)=0:=Classical.not_not.1 PD;obtain⟨a,cap,rfl⟩:=hu7 P2;have Tq:=j2 x.2;refine ae rfl rfl (Rg.EF Tryz.underlying222 rfl rfl (bE rfl rfl rfl (by omega) (ah rfl rfl (ad (aj (bE rfl rfl rfl (by omega) (ae rfl rfl (ad ?_))))))));refine⟨rfl,(i+1,n+(words x.2).length),(.cons rfl (.cons rfl (.cons rfl (.cons rfl (.cons rfl .nil))))),?_,?_⟩
       ·exact⟨_,hM,S,cG,mJ,by rw[A7,jz,if_neg (by assumption),if_neg (by assumption),if_neg PD],by dsimp only;omega,by dsimp only;omega⟩
       ·dsimp only;omega
   ·refine cK (ak (ak (aj (ae rfl rfl (lF rfl rfl rfl (ad ?_))))));refine bK rfl (fun Oi=>?_) (fun Oi=>?_)
    ·refine ak (aj (ah rfl rfl (ad (aM ?_))));exact aS rfl rfl ⟨by rw[A7,p6 (by omega),if_pos (by omega)],S.back⟩
    ·refine aU (ak (aj (ah rfl rfl (ad (aM ?_)))));exact aS rfl rfl ⟨by rw[A7,p6 (by omega),if_neg (by omega)],S.back⟩
end Go.K
namespace Go.K
open Go.Proofs
set_option maxRecDepth 10000
theorem wO {M:aI} {d:Dc} {v0:Value} (w0:World) (hM:Lt M w0) (hv:RT.dc.V M w0 d v0) (hl:∀f∈d.2,f.1.length≤900000∧f.2.length≤900000):
  Spec Tryz.prog 117 #[v0] w0 (fun v w=>v= .int .i64 (lu d)∧Step M w0 M w aD):=by
 have fR:=hM;refine bh (args:=[_]) (fn:=Tryz.f117) Tryz.func117 rfl (n:=66) Tryz.ntmps117 ?_;have S:Step M w0 M w0 aD:=(ar _ _).b9 (fun _ h=>h.elim) (fun _ h=>h.elim);refine ak (aj ?_);refine Rg.iR (A:=RT.dc) rfl rfl hM hv rfl (fun u0 w1 cG s0 _=>?_);replace hM:=s0.lt hM;have:=S.size;replace S:=S.aw s0;refine ah rfl rfl (ad (ak (ak (aj ?_))));refine ax (M:=M) (A:=RT.dc) (B:=(RT.fd).sl) aJ rfl rfl ow (by decide) (xV) rfl rfl (by decide) (by assumption) (by repeat (first|exact ao _ _|refine aV (br (by assumption)) ?_)) (fun tP jc=>?_);refine bw (M:=M) aO rfl rfl rfl rfl rfl (by assumption) (by repeat (first|exact ao _ _|refine aV (br (by assumption)) ?_)) (fun vF k4=>?_);refine bz aO rfl k4 rfl (lF rfl rfl rfl (ad ?_));refine bK rfl (fun c1=>?_) (fun c1=>?_)
 ·refine ak (aj (ah rfl rfl (ad (aM ?_))));exact aS rfl rfl ⟨by rw[lu,if_pos (by omega)],S.back⟩
 ·refine aU (ak (aj (ah rfl rfl (ad (ak (ak (aj (ah rfl rfl (ad (aW ?_))))))))));refine cX (σ:=Nat×Nat) (fun q=>[(1,u0),(3,.int .i64 (q.2:Int)),(4,.int .i64 (q.1:Int))]) (fun q w=>Lt M w∧Step M w0 M w aD∧cf RT.dc M w u0 d∧lu d=tN (d.2.take q.1) (d.2.drop q.1) q.2∧q.1≤d.2.length∧q.2≤900001*q.1∧d.2.length≤8) (fun q=>d.2.length-q.1) (0,0) (.cons rfl (.cons rfl (.cons rfl .nil))) ?_ ?_
  ·exact⟨hM,S,cG,by rw[lu,if_neg (by omega)];rfl,bC _,a8 _,by omega⟩
  ·rintro⟨i,n⟩ w ⟨hM,S,cG,A7,hi,hn,Tr⟩;dsimp only at A7 hi hn ⊢;refine ak (ak (aj (ae rfl rfl ?_)));refine ax (M:=M) (A:=RT.dc) (B:=(RT.fd).sl) aJ rfl rfl ow (by decide) (xV) rfl rfl (by decide) (by assumption) (by repeat (first|exact ao _ _|refine aV (br (by assumption)) ?_)) (fun P3 Fe=>?_);refine bw (M:=M) aO rfl rfl rfl rfl rfl (by assumption) (by repeat (first|exact ao _ _|refine aV (br (by assumption)) ?_)) (fun V0 JM=>?_);refine bz aO rfl JM rfl (cj rfl rfl rfl (ad ?_));refine bK rfl (fun c5=>?_) (fun c5=>?_)
   ·refine aU (ak (aW (ak (aj ?_))));refine ax (M:=M) (A:=RT.dc) (B:=(RT.fd).sl) aJ rfl rfl ow (by decide) (xV) rfl rfl (by decide) (by assumption) (by repeat (first|exact ao _ _|refine aV (br (by assumption)) ?_)) (fun P4 Cf=>?_);refine bw (M:=M) aO rfl rfl rfl rfl rfl (by assumption) (by repeat (first|exact ao _ _|refine aV (br (by assumption)) ?_)) (fun V1 JN=>?_);refine ae rfl rfl ?_;refine cb (M:=M) aO gU rfl rfl rfl JN (ao _ _) (by omega) (fun P5 x ze aaz=>?_);rw[aB]at ze;refine ax (M:=M) (A:=RT.fd) (B:=RT.str) bQ rfl rfl I9 (by decide) (DY) rfl rfl (by decide) (by assumption) (by repeat (first|exact ao _ _|refine aV (br (by assumption)) ?_)) (fun V2 P7=>?_);refine bw (M:=M) aA rfl rfl rfl rfl rfl P7 (ao _ _) (fun adZ P8=>?_);obtain rfl:=dB P8;have jz:=Cd (n:=n) ze;have xz:=hl _ (aH ze);refine aT rfl rfl Pf (tO x.1 (by omega) _) (fun r7 w7 hc=>?_);obtain⟨rfl,rfl⟩:=hc;refine ah rfl rfl (ad (ak (ak (aj (ae rfl rfl (jx rfl rfl (bI (v':= .bool (decide (eS x.1=false))) (by cases eS x.1<;>rfl) (ad ?_))))))));refine bK rfl (fun c8=>?_) (fun c8=>?_)
    ·refine ak (aj (ah rfl rfl (ad (aM ?_))));exact aS rfl rfl ⟨by rw[A7,jz,if_pos (by assumption)],S.back⟩
    ·refine aU (ak (ak (aj (ah rfl rfl (ad (aW ?_))))));refine cX (σ:=Nat) (fun j=>[(1,u0),(3,.int .i64 (n:Int)),(4,.int .i64 (i:Int)),(6,.int .i64 (j:Int))]) (fun j w=>Lt M w∧Step M w0 M w aD∧cf RT.dc M w u0 d∧j≤i∧∀k y,k<j→d.2[k]? =some y→y.1≠x.1) (fun j=>i-j) 0 (.cons rfl (.cons rfl (.cons rfl (.cons rfl .nil)))) ?_ ?_
     ·exact⟨hM,S,cG,bC _,fun k c h=>absurd h (sK k)⟩
     ·rintro j w ⟨hM,S,cG,hj,jM⟩;refine ak (ak (aj (ae rfl rfl (ae rfl rfl (cj rfl rfl rfl (ad ?_))))));refine bK rfl (fun Pu=>?_) (fun Pu=>?_)
      ·refine aU (ak (aW (ak ?_)));apply jK mixed rfl rfl;intro LI LJ;have mn:=LJ M;replace cG:=cG.le (by decide) mn.le;replace hM:=mn.lt hM;have:=S.size;replace S:=S.aw mn;refine ax (M:=M) (A:=RT.dc) (B:=(RT.fd).sl) aJ rfl rfl ow (by decide) (xV) rfl rfl (by decide) (by assumption) (by repeat (first|exact ao _ _|refine aV (br (by assumption)) ?_)) (fun aaA V3=>?_);refine ad ⟨rfl,rfl,rfl,?_⟩;refine bw (M:=M) aO rfl rfl rfl rfl rfl (by assumption) (by repeat (first|exact ao _ _|refine aV (br (by assumption)) ?_)) (fun aaB LK=>?_);refine ad ⟨rfl,rfl,rfl,?_⟩;refine ae rfl rfl ?_;refine ad ⟨rfl,rfl,rfl,?_⟩;refine cb (M:=M) aO gU rfl rfl rfl LK (ao _ _) (by omega) (fun JO y A8 eO=>?_);rw[aB]at A8;refine ad ⟨rfl,rfl,rfl,?_⟩;refine ax (M:=M) (A:=RT.fd) (B:=RT.str) bQ rfl rfl I9 (by decide) (DY) rfl rfl (by decide) (by assumption) (by repeat (first|exact ao _ _|refine aV (br (by assumption)) ?_)) (fun eT LL=>?_);refine ad ⟨rfl,rfl,rfl,?_⟩;refine bw (M:=M) aA rfl rfl rfl rfl rfl LL (ao _ _) (fun JP xW=>?_);obtain rfl:=dB xW;refine ad ⟨rfl,rfl,rfl,?_⟩;refine ax (M:=M) (A:=RT.dc) (B:=(RT.fd).sl) aJ rfl rfl ow (by decide) (xV) rfl rfl (by decide) (by assumption) (by repeat (first|exact ao _ _|refine aV (br (by assumption)) ?_)) (fun aaC V4=>?_);refine ad ⟨rfl,rfl,rfl,?_⟩;refine bw (M:=M) aO rfl rfl rfl rfl rfl (by assumption) (by repeat (first|exact ao _ _|refine aV (br (by assumption)) ?_)) (fun aaD LM=>?_);refine ad ⟨rfl,rfl,rfl,?_⟩;refine ae rfl rfl ?_;refine ad ⟨rfl,rfl,rfl,?_⟩;refine cb (M:=M) aO gU rfl rfl rfl LM (ao _ _) (by omega) (fun aaE z Ff V5=>?_)
       rw[aB]at Ff;refine ad ⟨rfl,rfl,rfl,?_⟩;refine ax (M:=M) (A:=RT.fd) (B:=RT.str) bQ rfl rfl I9 (by decide) (DY) rfl rfl (by decide) (by assumption) (by repeat (first|exact ao _ _|refine aV (br (by assumption)) ?_)) (fun V6 Iq=>?_);refine ad ⟨rfl,rfl,rfl,?_⟩;refine bw (M:=M) aA rfl rfl rfl rfl rfl Iq (ao _ _) (fun V7 Ir=>?_);obtain rfl:=dB Ir;refine ad ⟨rfl,rfl,rfl,?_⟩;refine Rg.rn (p:=y.1) (q:=z.1) rfl rfl rfl ?_;obtain rfl:x=z:=aQ (ze.symm.trans Ff);refine ad ⟨rfl,rfl,rfl,?_⟩;refine dr ?_;refine bK rfl (fun Is=>?_) (fun Is=>?_)
       ·refine ak (aj (ah rfl rfl (ad (aM ?_))));have Fg:((d.2.take i).any fun g=>decide (g.1=x.1))=true:=qy.2 ⟨y,aH (i:=j) (by rw[eo,if_pos (by omega)];exact A8),by simpa using(by assumption)⟩;exact aS rfl rfl ⟨by rw[A7,jz,if_neg (by assumption),if_pos Fg],S.back⟩
       ·refine aU (aj (ae rfl rfl (bE rfl rfl rfl (by omega) (ah rfl rfl (ad ?_)))));refine⟨rfl,j+1,(.cons rfl (.cons rfl (.cons rfl (.cons rfl .nil)))),?_,?_⟩
        ·exact⟨hM,S,cG,by omega,fun k y' h hc=>by
          rcases fw k j with h2|h2
          ·exact jM k y' h2 hc
          ·obtain rfl:k=j:=by omega
           rw[A8]at hc;cases hc;assumption⟩
        ·omega
      ·refine cK (ak (aj ?_));refine ax (M:=M) (A:=RT.dc) (B:=(RT.fd).sl) aJ rfl rfl ow (by decide) (xV) rfl rfl (by decide) (by assumption) (by repeat (first|exact ao _ _|refine aV (br (by assumption)) ?_)) (fun aaF V8=>?_);refine bw (M:=M) aO rfl rfl rfl rfl rfl (by assumption) (by repeat (first|exact ao _ _|refine aV (br (by assumption)) ?_)) (fun aaG LN=>?_);refine ae rfl rfl ?_;refine cb (M:=M) aO gU rfl rfl rfl LN (ao _ _) (by omega) (fun aaH z Fh V9=>?_);rw[aB]at Fh;refine ax (M:=M) (A:=RT.fd) (B:=RT.str) bQ rfl rfl I9 (by decide) (LF) rfl rfl (by decide) (by assumption) (by repeat (first|exact ao _ _|refine aV (br (by assumption)) ?_)) (fun aaI LO=>?_);refine bw (M:=M) aA rfl rfl rfl rfl rfl LO (ao _ _) (fun aaJ LP=>?_);obtain rfl:=dB LP;obtain rfl:x=z:=aQ (ze.symm.trans Fh);refine aT rfl rfl US (A4 _ hM xz.2) (fun r15 w15 hc=>?_);obtain⟨⟨u15,rfl,Wa⟩,Dj⟩:=hc;replace cG:=cG.le (by decide) Dj.le;replace hM:=Dj.lt hM;have:=S.size;replace S:=S.aw Dj;refine ae rfl rfl (bR rfl rfl rfl (bR rfl rfl rfl (ah rfl rfl (ah rfl rfl (ad (ak (ak (aj (ae rfl rfl (dW rfl rfl rfl (ad ?_)))))))))));refine bK rfl (fun Oi=>?_) (fun Oi=>?_)
       ·refine ak (aj (ae rfl rfl (ah rfl rfl (ad (aM ?_)))))
        have Fg:((d.2.take i).any fun g=>decide (g.1=x.1))=false:=ef.2 fun h=>by
         obtain⟨y,hy,he⟩:=qy.1 h;obtain⟨k,hk⟩:=bT.1 hy;rw[eo]at hk
         split at hk
         ·exact jM k y (by omega) hk (by simpa using he)
         ·cases hk
        exact aS rfl rfl ⟨by rw[A7,jz,if_neg (by assumption),if_neg (by rw[Fg];simp),if_pos Oi];rfl,S.back⟩
       ·refine aU (aj (ae rfl rfl ?_));have P2:kz 0 (words x.2)=0:=Classical.not_not.1 Oi;obtain⟨a,cap,rfl⟩:=Wa P2;have Tq:=j2 x.2;refine ae rfl rfl (Rg.EF Tryz.underlying222 rfl rfl (bE rfl rfl rfl (by omega) (ah rfl rfl (ad (aj (ae rfl rfl (bE rfl rfl rfl (by omega) (ah rfl rfl (ad ?_)))))))))
        have Fg:((d.2.take i).any fun g=>decide (g.1=x.1))=false:=ef.2 fun h=>by
         obtain⟨y,hy,he⟩:=qy.1 h;obtain⟨k,hk⟩:=bT.1 hy;rw[eo]at hk
         split at hk
         ·exact jM k y (by omega) hk (by simpa using he)
         ·cases hk
        refine⟨rfl,(i+1,n+(words x.2).length),(.cons rfl (.cons rfl (.cons rfl .nil))),?_,?_⟩
        ·exact⟨hM,S,cG,by rw[A7,jz,if_neg (by assumption),if_neg (by rw[Fg];simp),if_neg Oi],by dsimp only;omega,by dsimp only;omega,Tr⟩
        ·dsimp only;omega
   ·refine cK (ak (ak (aj (ae rfl rfl (lF rfl rfl rfl (ad ?_))))));refine bK rfl (fun Vn=>?_) (fun Vn=>?_)
    ·refine ak (aj (ah rfl rfl (ad (aM ?_))));exact aS rfl rfl ⟨by rw[A7,p6 (by omega),if_pos (by omega)],S.back⟩
    ·refine aU (ak (aj (ah rfl rfl (ad (aM ?_)))));exact aS rfl rfl ⟨by rw[A7,p6 (by omega),if_neg (by omega)],S.back⟩
def zf:List (List UInt8):=[[116],[117],[118],[119]]
def fixF (i:Nat) (x:Fd):Fd:=(if eS x.1=true then x.1 else zf.getD i [],x.2.take 40)
def lP (id:Int):Nat→List Fd→List Fd→List Fd
 |_,out,[]=>out
 |i,out,x::fs=>if i<4 then(if lu (id,out++[fixF i x])=0 then lP id (i+1) (out++[fixF i x]) fs else lP id (i+1) out fs)else out
def mQ (d:Dc):Dc:=(d.1,lP d.1 0 [] d.2)
def px (l:List Fd):Prop:=∀x∈l,x.1.length≤12∧x.2.length≤40
theorem zg {s:List UInt8} (h:eS s=true):s.length≤12:=by
 simp only[eS,bU,decide_eq_true_eq]at h;omega
theorem tQ {i:Nat} (x:Fd) (hi:i<4):(fixF i x).1.length≤12∧(fixF i x).2.length≤40:=by
 refine⟨?_,by simp only[fixF,bF];omega⟩;unfold fixF;dsimp only
 split
 ·exact zg (by assumption)
 ·have h:i=0∨i=1∨i=2∨i=3:=by omega
  rcases h with rfl|rfl|rfl|rfl<;>decide
theorem px.snoc {l:List Fd} {x:Fd} (h:px l) (hx:x.1.length≤12∧x.2.length≤40):px (l++[x]):=fun y hy=>by
 rcases cY.1 hy with hy|hy
 ·exact h y hy
 ·rw[cD.1 hy];exact hx
theorem Fi {id:Int} {fs:List Fd} {i:Nat} {out:List Fd} {x:Fd} (h:fs[i]? =some x) (hi:i<4):lP id i out (fs.drop i)=if lu (id,out++[fixF i x])=0 then lP id (i+1) (out++[fixF i x]) (fs.drop (i+1))else lP id (i+1) out (fs.drop (i+1)):=by
 have dD:=(av.1 h).1;rw[dm dD,(av.1 h).2];show(if i<4 then _ else _)=_;rw[if_pos hi]
theorem wR {id:Int} {fs:List Fd} {i:Nat} {out:List Fd} (h:fs.length≤i∨4≤i):lP id i out (fs.drop i)=out:=by
 cases hd:fs.drop i with
 |nil=>rfl
 |cons x r=>
  show(if i<4 then _ else _)=_;rw[if_neg];rcases h with h|h
  ·rw[jI h]at hd;cases hd
  ·omega
theorem zh (l:List UInt8):l.take (min (l.length:Int) 40).toNat=l.take 40:=by
 by_cases h:l.length≤40
 ·rw[aK (by omega),aK h]
 ·congr 1;omega
theorem Dk {M:aI} {d:Dc} {v0:Value} (w0:World) (hM:Lt M w0) (hv:RT.dc.V M w0 d v0):
  Spec Tryz.prog 65 #[v0] w0 (fun v w=>RT.dc.V M w (mQ d) v∧Step M w0 M w aD):=by
 have fR:=hM
 have Ts: -9223372036854775808≤d.1∧d.1≤9223372036854775807:=by
  obtain⟨vs,⟨va,vb,_,⟨_,h1,h2⟩,_⟩,_⟩:=hv;exact⟨h1,h2⟩
 refine bh (args:=[_]) (fn:=Tryz.f65) Tryz.func65 rfl (n:=67) Tryz.ntmps65 ?_;have S:Step M w0 M w0 aD:=(ar _ _).b9 (fun _ h=>h.elim) (fun _ h=>h.elim);refine ak (aj ?_);refine Rg.iR (A:=RT.dc) rfl rfl hM hv rfl (fun u0 w1 cG s0 _=>?_);replace hM:=s0.lt hM;have:=S.size;replace S:=S.aw s0;refine dL M jW rfl (fun mq A9 LQ LR eP lv=>?_);obtain⟨ej,kB⟩:∃M',M'=ins M mq:=⟨_,rfl⟩;rw[←kB]at lv;have ec:ej mq:=by rw[kB];exact .inl rfl
 change A9.heap[mq]? =some (.cells #[.int .i64 0,.slice none 0 0] _ _)at eP;replace cG:=cG.le (by decide) lv.le;replace hM:=lv.lt hM;have:=S.size;replace S:=S.aw lv;refine ad (ak (aj ?_));refine ax (M:=ej) (A:=RT.dc) (B:=RT.int .i64) aJ rfl rfl I3 (by decide) (Oh) rfl rfl (by decide) (by assumption) (by repeat (first|exact ao _ _|refine aV (br (by assumption)) ?_)) (fun tP jc=>?_);refine b4 (M:=ej) ay rfl rfl (by assumption) (by repeat (first|exact ao _ _|refine aV (br (by assumption)) ?_)) (fun JQ=>?_);refine eM (places:=[(0,1),(1,1)]) aJ jW Pd rfl ⟨_,_,rfl,rfl,rfl⟩ (out:=[_,.slice none 0 0]) ⟨0,[_],rfl,rfl,by simp[Value.cells],rfl⟩ ?_;refine dL ej jW rfl (fun sc Db Wb Wc kS s1_3=>?_);obtain⟨k5,tR⟩:∃M',M'=ins ej sc:=⟨_,rfl⟩;rw[←tR]at s1_3;have iA:k5 sc:=by rw[tR];exact .inl rfl
 change Db.heap[sc]? =some (.cells #[.int .i64 0,.slice none 0 0] _ _)at kS;have:=al eP;replace ec:=(s1_3.mem _ this).2 ec;replace eP:=s1_3.aN eP;replace cG:=cG.le (by decide) s1_3.le;replace hM:=s1_3.lt hM;have:=S.size;replace S:=S.aw s1_3;refine dx (M:=k5) (vs:=[.int .i64 d.1,.slice none 0 0]) jW rfl rfl (by intro u hu;simp at hu;rcases hu with rfl|rfl<;>first|rfl|exact iZ (by assumption) rfl rfl) rfl rfl kS iA (fun w1b Wd LS=>?_);have:=al eP;replace ec:=(LS.mem _ this).2 ec;replace eP:=LS.bM eP (fun hk=>by have hk:_=_:=hk;omega);have:=al kS;replace iA:=(LS.mem _ this).2 iA;replace cG:=cG.le (by decide) LS.le;replace hM:=LS.lt hM;have:=S.size;replace S:=S.trans LS (fun k hk h=>by have h:_=_:=h;subst h;first|(exfalso;omega)|(show _≤_;omega)|exact⟨by first|omega|assumption,(S.mem _ hk).1 ((LS.mem _ (al kS)).1 iA)⟩|exact .inl rfl|exact .inr rfl|exact .inr (.inl rfl)|exact .inr (.inr rfl)|exact rfl);have zi:=Wd;clear kS;have kS:=zi;clear zi;refine ad (ak (aj ?_));refine Rg.Ta (A:=RT.str) (hn:=by decide) (M:=k5) (xs:=zf) aC I9 rfl (by decide) rfl ⟨_,_,_,rfl,rfl,rfl,iM.2 ⟨rfl,by decide⟩,_,_,_,rfl,rfl,rfl,iM.2 ⟨rfl,by decide⟩,_,_,_,rfl,rfl,rfl,iM.2 ⟨rfl,by decide⟩,_,_,_,rfl,rfl,rfl,iM.2 ⟨rfl,by decide⟩,rfl⟩ rfl hM (.inr ⟨rfl,rfl⟩) (by decide) (fun u2 w2 de s2=>?_);have:=al eP;replace ec:=(s2.mem _ this).2 ec;replace eP:=s2.aN eP;have:=al kS;replace iA:=(s2.mem _ this).2 iA;replace kS:=s2.aN kS;replace cG:=cG.le (by decide) s2.le;replace hM:=s2.lt hM;have:=S.size;replace S:=S.aw s2;refine ah rfl rfl (ad (ak (ak (aj (ah rfl rfl (ad (aW ?_)))))));refine cX (σ:=Nat×List Fd) (fun q=>[(1,u0),(2,.pointer (some ⟨mq,0,none⟩)),(3,.pointer (some ⟨sc,0,none⟩)),(4,u2),(5,.int .i64 (q.1:Int))]) (fun q w=>∃M' uo,Lt M' w∧Step M w0 M' w aD∧cf RT.dc M' w u0 d∧(RT.str.sl).V M' w zf u2∧w.heap[mq]? =some (.cells #[.int .i64 0,.slice none 0 0] 41 (0,0))∧M' mq∧w.heap[sc]? =some (.cells #[.int .i64 d.1,uo] 41 (0,0))∧M' sc∧(RT.fd.sl).V M' w q.2 uo∧lP d.1 0 [] d.2=lP d.1 q.1 q.2 (d.2.drop q.1)∧q.1≤d.2.length∧q.1≤4∧px q.2∧q.2.length≤q.1) (fun q=>d.2.length-q.1) (0,[]) (.cons rfl (.cons rfl (.cons rfl (.cons rfl (.cons rfl .nil))))) ?_ ?_
 ·exact⟨_,.slice none 0 0,hM,S,cG,de,eP,ec,kS,iA,j5,rfl,bC _,bC _,(fun x hx=>by cases hx),a8 _⟩
 ·rintro⟨i,out⟩ w ⟨M1,uo,hM,S,cG,de,g2,cc,g3,dY,iu,qP,hi,We,xx,jk⟩;dsimp only at g3 iu qP hi We xx jk ⊢;refine ak (ak (aj (ae rfl rfl ?_)));refine ax (M:=M1) (A:=RT.dc) (B:=(RT.fd).sl) aJ rfl rfl ow (by decide) (xV) rfl rfl (by decide) (by assumption) (by repeat (first|exact ao _ _|refine aV (br (by assumption)) ?_)) (fun VS aaK=>?_);refine bw (M:=M1) aO rfl rfl rfl rfl rfl (by assumption) (by repeat (first|exact ao _ _|refine aV (br (by assumption)) ?_)) (fun ad2 P9=>?_);refine bz aO rfl P9 rfl (cj rfl rfl rfl (ae rfl rfl ?_));refine aL (g:=18) rfl (fun qQ=>?_) (fun qQ=>?_)
  ·refine an rfl rfl (ae rfl rfl (an rfl rfl (cj rfl rfl rfl (aP rfl rfl rfl (ad ?_)))));refine bK rfl (fun c4=>?_) (fun c4=>?_)
   ·refine aU (ak (aW (ak (aj ?_))));refine ax (M:=M1) (A:=RT.dc) (B:=(RT.fd).sl) aJ rfl rfl ow (by decide) (xV) rfl rfl (by decide) (by assumption) (by repeat (first|exact ao _ _|refine aV (br (by assumption)) ?_)) (fun Qa Fj=>?_);refine bw (M:=M1) aO rfl rfl rfl rfl rfl (by assumption) (by repeat (first|exact ao _ _|refine aV (br (by assumption)) ?_)) (fun LU tS=>?_);refine ae rfl rfl ?_;refine cb (M:=M1) aO gU rfl rfl rfl tS (ao _ _) (by omega) (fun u6 x DW Ij=>?_);rw[aB]at DW;have S8:i<4:=by omega
    have Tt:=Fi (id:=d.1) (out:=out) DW S8;have JR:=tQ x S8;refine b7 (M:=M1) (A:=RT.fd) bQ rfl gU (by decide) rfl rfl rfl Ij (ao _ _) (fun v6 pF=>?_);obtain rfl:=iS pF;have hxb:=E9 pF;refine dL M1 gU rfl (fun LV Wf ad4 ad5 dh vH=>?_);obtain⟨kC,Fk⟩:∃M',M'=ins M1 LV:=⟨_,rfl⟩;rw[←Fk]at vH;have cJ:kC LV:=by rw[Fk];exact .inl rfl
    change Wf.heap[LV]? =some (.cells #[.string ⟨#[]⟩,.string ⟨#[]⟩] _ _)at dh;have:=al g2;replace cc:=(vH.mem _ this).2 cc;replace g2:=vH.aN g2;have:=al g3;replace dY:=(vH.mem _ this).2 dY;replace g3:=vH.aN g3;replace cG:=cG.le (by decide) vH.le;replace de:=de.le vH.le;replace iu:=iu.le vH.le;replace hM:=vH.lt hM;have:=S.size;replace S:=S.aw vH;refine dx (M:=kC) (vs:=[.string ⟨x.1.toArray⟩,.string ⟨x.2.toArray⟩]) gU rfl rfl (by intro u hu;simp at hu;rcases hu with rfl|rfl<;>first|rfl|exact iZ (by assumption) rfl rfl) rfl rfl dh cJ (fun w6b Wg Fl=>?_);have:=al g2;replace cc:=(Fl.mem _ this).2 cc;replace g2:=Fl.bM g2 (fun hk=>by have hk:_=_:=hk;omega);have:=al g3;replace dY:=(Fl.mem _ this).2 dY;replace g3:=Fl.bM g3 (fun hk=>by have hk:_=_:=hk;omega);have:=al dh;replace cJ:=(Fl.mem _ this).2 cJ;replace cG:=cG.le (by decide) Fl.le;replace de:=de.le Fl.le;replace iu:=iu.le Fl.le;replace hM:=Fl.lt hM;have:=S.size;replace S:=S.trans Fl (fun k hk h=>by have h:_=_:=h;subst h;first|(exfalso;omega)|(show _≤_;omega)|exact⟨by first|omega|assumption,(S.mem _ hk).1 ((Fl.mem _ (al dh)).1 cJ)⟩|exact .inl rfl|exact .inr rfl|exact .inr (.inl rfl)|exact .inr (.inr rfl)|exact rfl);have nH:=Wg;clear dh;have dh:=nH;clear nH;refine ad (ak (aj (bH (o':=0) bQ rfl rfl I9 (by decide) rfl rfl (aX aA rfl rfl rfl (by assumption) rfl ?_))));refine aT rfl rfl Pf (tO x.1 hxb.1 _) (fun r7 w7 hc=>?_);obtain⟨rfl,rfl⟩:=hc;refine ah rfl rfl (ad (ak (ak (aj (ae rfl rfl (jx rfl rfl (bI (v':= .bool (decide (eS x.1=false))) (by cases eS x.1<;>rfl) (ad ?_))))))));refine bK rfl (fun c8=>?_) (fun c8=>?_)
    ·refine aj (ae rfl rfl (ae rfl rfl ?_));refine cb (M:=kC) aC I9 rfl rfl rfl de (ao _ _) (by have:zf.length=4:=rfl;omega) (fun u9 y JS Wh=>?_);rw[aB]at JS;refine bw (M:=kC) aA rfl rfl rfl rfl rfl Wh (ao _ _) (fun v9 Az=>?_);obtain rfl:=dB Az
     obtain rfl:y=(fixF i x).1:=by
      show y=if eS x.1=true then x.1 else zf.getD i []
      rw[if_neg (by rw[c8];simp),ek,JS];rfl
     refine bH (o':=0) bQ rfl rfl I9 (by decide) rfl rfl ?_;refine cu (M:=kC) I9 rfl rfl dh rfl (rfl) cJ (fun PT Qb nG=>?_);change PT.heap[_]? =some (Obj.cells #[.string ⟨((fixF i x).1).toArray⟩,.string ⟨x.2.toArray⟩] _ _)at Qb;have:=al g2;replace cc:=(nG.mem _ this).2 cc;replace g2:=nG.bM g2 (fun hk=>by have hk:_=_:=hk;omega);have:=al g3;replace dY:=(nG.mem _ this).2 dY;replace g3:=nG.bM g3 (fun hk=>by have hk:_=_:=hk;omega);have:=al dh;replace cJ:=(nG.mem _ this).2 cJ;replace cG:=cG.le (by decide) nG.le;replace de:=de.le nG.le;replace iu:=iu.le nG.le;replace hM:=nG.lt hM;have:=S.size;replace S:=S.trans nG (fun k hk h=>by have h:_=_:=h;subst h;first|(exfalso;omega)|(show _≤_;omega)|exact⟨by first|omega|assumption,(S.mem _ hk).1 ((nG.mem _ (al dh)).1 cJ)⟩|exact .inl rfl|exact .inr rfl|exact .inr (.inl rfl)|exact .inr (.inr rfl)|exact rfl);have nH:=Qb;clear dh;have dh:=nH;clear nH;refine ad (ak (aj (bH (o':=1) bQ rfl rfl I9 (by decide) rfl rfl (aX aA rfl rfl rfl (by assumption) rfl (bH (o':=1) bQ rfl rfl I9 (by decide) rfl rfl (aX aA rfl rfl rfl (by assumption) rfl (Rg.lh aA rfl rfl (bI (v':= .int .i64 (x.2.length:Int)) (by simp[ByteArray.size]) (Rg.min2 rfl rfl rfl (Rg.JF aA rfl rfl rfl (by omega) (bI (v':= .string ⟨((fixF i x).2).toArray⟩) (by rw[zh];rfl) ?_)))))))))));refine bH (o':=1) bQ rfl rfl I9 (by decide) rfl rfl ?_;refine cu (M:=kC) I9 rfl rfl dh rfl (rfl) cJ (fun Cc zj fo=>?_);change Cc.heap[_]? =some (Obj.cells #[.string ⟨((fixF i x).1).toArray⟩,.string ⟨((fixF i x).2).toArray⟩] _ _)at zj;have:=al g2;replace cc:=(fo.mem _ this).2 cc;replace g2:=fo.bM g2 (fun hk=>by have hk:_=_:=hk;omega);have:=al g3
     replace dY:=(fo.mem _ this).2 dY;replace g3:=fo.bM g3 (fun hk=>by have hk:_=_:=hk;omega);have:=al dh;replace cJ:=(fo.mem _ this).2 cJ;replace cG:=cG.le (by decide) fo.le;replace de:=de.le fo.le;replace iu:=iu.le fo.le;replace hM:=fo.lt hM;have:=S.size;replace S:=S.trans fo (fun k hk h=>by have h:_=_:=h;subst h;first|(exfalso;omega)|(show _≤_;omega)|exact⟨by first|omega|assumption,(S.mem _ hk).1 ((fo.mem _ (al dh)).1 cJ)⟩|exact .inl rfl|exact .inr rfl|exact .inr (.inl rfl)|exact .inr (.inr rfl)|exact rfl);have nH:=zj;clear dh;have dh:=nH;clear nH;refine ad (ak (aj ?_));refine ax (M:=kC) (A:=RT.dc) (B:=RT.int .i64) aJ rfl rfl I3 (by decide) (Oh) rfl rfl (by decide) (by assumption) (by repeat (first|exact ao _ _|refine aV (br (by assumption)) ?_)) (fun JT Fm=>?_);refine b4 (M:=kC) ay rfl rfl (by assumption) (by repeat (first|exact ao _ _|refine aV (br (by assumption)) ?_)) (fun LW=>?_);refine eM (places:=[(0,1),(1,1)]) aJ jW Pd rfl ⟨_,_,rfl,rfl,rfl⟩ (out:=[_,.slice none 0 0]) ⟨0,[_],rfl,rfl,by simp[Value.cells],rfl⟩ ?_;refine dL kC jW rfl (fun tT zk Qd Qe cE eC=>?_);obtain⟨py,p9⟩:∃M',M'=ins kC tT:=⟨_,rfl⟩;rw[←p9]at eC;have cC:py tT:=by rw[p9];exact .inl rfl
     change zk.heap[tT]? =some (.cells #[.int .i64 0,.slice none 0 0] _ _)at cE;have:=al g2;replace cc:=(eC.mem _ this).2 cc;replace g2:=eC.aN g2;have:=al g3;replace dY:=(eC.mem _ this).2 dY;replace g3:=eC.aN g3;have:=al dh;replace cJ:=(eC.mem _ this).2 cJ;replace dh:=eC.aN dh;replace cG:=cG.le (by decide) eC.le;replace de:=de.le eC.le;replace iu:=iu.le eC.le;replace hM:=eC.lt hM;have:=S.size;replace S:=S.aw eC;refine dx (M:=py) (vs:=[.int .i64 d.1,.slice none 0 0]) jW rfl rfl (by intro u hu;simp at hu;rcases hu with rfl|rfl<;>first|rfl|exact iZ (by assumption) rfl rfl) rfl rfl cE cC (fun xX Fo jl=>?_);have:=al g2;replace cc:=(jl.mem _ this).2 cc;replace g2:=jl.bM g2 (fun hk=>by have hk:_=_:=hk;omega);have:=al g3;replace dY:=(jl.mem _ this).2 dY;replace g3:=jl.bM g3 (fun hk=>by have hk:_=_:=hk;omega);have:=al dh;replace cJ:=(jl.mem _ this).2 cJ;replace dh:=jl.bM dh (fun hk=>by have hk:_=_:=hk;omega);have:=al cE;replace cC:=(jl.mem _ this).2 cC;replace cG:=cG.le (by decide) jl.le;replace de:=de.le jl.le;replace iu:=iu.le jl.le;replace hM:=jl.lt hM;have:=S.size;replace S:=S.trans jl (fun k hk h=>by have h:_=_:=h;subst h;first|(exfalso;omega)|(show _≤_;omega)|exact⟨by first|omega|assumption,(S.mem _ hk).1 ((jl.mem _ (al cE)).1 cC)⟩|exact .inl rfl|exact .inr rfl|exact .inr (.inl rfl)|exact .inr (.inr rfl)|exact rfl);have gJ:=Fo;clear cE;have cE:=gJ;clear gJ;refine ad (ak (aj (bH (o':=1) aJ rfl rfl ow (by decide) rfl rfl (aX aO rfl rfl rfl (by assumption) rfl (bH (o':=1) aJ rfl rfl ow (by decide) rfl rfl (aX aO rfl rfl rfl (by assumption) rfl ?_))))));have cT:=Own.JK RT.fd 127 xX.heap.size hM
     have Wi:=al dh;have Fp:w0.heap.size≤xX.heap.size:=S.size;refine ch (M:=py) (base:=xX.heap.size) aO gU rfl rfl rfl rfl cT iu (ao _ _) (by simp;omega) (by simp;omega) (a8 _) (fun tL nF E4 pw dX=>?_);have:=al g2;replace cc:=(dX.mem _ this).2 cc;replace g2:=dX.bM g2 (fun h=>by first|exact cT.dE g2 h|exact cT.ep g2 (by decide) h|(have:=(cT.base _ h).1;omega));have:=al g3;replace dY:=(dX.mem _ this).2 dY;replace g3:=dX.bM g3 (fun h=>by first|exact cT.dE g3 h|exact cT.ep g3 (by decide) h|(have:=(cT.base _ h).1;omega));have:=al dh;replace cJ:=(dX.mem _ this).2 cJ;replace dh:=dX.bM dh (fun h=>by first|exact cT.dE dh h|exact cT.ep dh (by decide) h|(have:=(cT.base _ h).1;omega));have:=al cE;replace cC:=(dX.mem _ this).2 cC;replace cE:=dX.bM cE (fun h=>by first|exact cT.dE cE h|exact cT.ep cE (by decide) h|(have:=(cT.base _ h).1;omega));replace cG:=cG.le (by decide) dX.le;replace de:=de.le dX.le;replace iu:=iu.le dX.le;replace hM:=dX.lt hM;have:=S.size;replace S:=S.cF dX cT Fp;replace cT:=pw;refine bH (o':=1) aJ rfl rfl ow (by decide) rfl rfl ?_;refine cu (M:=nF) ow rfl rfl cE rfl ((by obtain⟨_,_,he,_⟩:=cT.isSlice;rw[he];rfl)) cC (fun Fq zm fc=>?_);change Fq.heap[_]? =some (Obj.cells #[.int .i64 d.1,tL] _ _)at zm;have:=al g2;replace cc:=(fc.mem _ this).2 cc;replace g2:=fc.bM g2 (fun hk=>by have hk:_=_:=hk;omega);have:=al g3;replace dY:=(fc.mem _ this).2 dY;replace g3:=fc.bM g3 (fun hk=>by have hk:_=_:=hk;omega);have:=al dh;replace cJ:=(fc.mem _ this).2 cJ;replace dh:=fc.bM dh (fun hk=>by have hk:_=_:=hk;omega);have:=al cE;replace cC:=(fc.mem _ this).2 cC
     replace cG:=cG.le (by decide) fc.le;replace de:=de.le fc.le;replace iu:=iu.le fc.le;replace cT:=cT.step fc (fun b hb hk=>by have hk:_=_:=hk;have:=(cT.base b hb);omega);replace hM:=fc.lt hM;have:=S.size;replace S:=S.trans fc (fun k hk h=>by have h:_=_:=h;subst h;first|(exfalso;omega)|(show _≤_;omega)|exact⟨by first|omega|assumption,(S.mem _ hk).1 ((fc.mem _ (al cE)).1 cC)⟩|exact .inl rfl|exact .inr rfl|exact .inr (.inl rfl)|exact .inr (.inr rfl)|exact rfl);have gJ:=zm;clear cE;have cE:=gJ;clear gJ;refine ad (ak (aj (bH (o':=1) aJ rfl rfl ow (by decide) rfl rfl (aX aO rfl rfl rfl (by assumption) rfl (eX (vs:=[.string ⟨((fixF i x).1).toArray⟩,.string ⟨((fixF i x).2).toArray⟩]) bQ rfl gU rfl rfl rfl dh ?_)))));refine dQ (A:=RT.fd) (hn:=by decide) (M:=nF) aO gU (by decide) rfl rfl hM (show RT.fd.V _ _ (fixF i x) _ from dR (iM.2 ⟨rfl,eJ JR.1 (by decide)⟩) (iM.2 ⟨rfl,eJ JR.2 (by decide)⟩) rfl rfl rfl rfl) (.inl rfl) (fun JO Qf eO fe=>?_);have:=al g2;replace cc:=(fe.mem _ this).2 cc;replace g2:=fe.aN g2;have:=al g3;replace dY:=(fe.mem _ this).2 dY;replace g3:=fe.aN g3;have:=al dh;replace cJ:=(fe.mem _ this).2 cJ;replace dh:=fe.aN dh;have:=al cE;replace cC:=(fe.mem _ this).2 cC;replace cE:=fe.aN cE;replace cG:=cG.le (by decide) fe.le;replace de:=de.le fe.le;replace iu:=iu.le fe.le;replace cT:=cT.a7 fe;replace hM:=fe.lt hM;have:=S.size;replace S:=S.aw fe;refine ch (M:=nF) (base:=xX.heap.size) aO gU rfl rfl rfl rfl cT eO (ao _ _) (by simp;omega) (by simp;omega) (by have:=dX.size;have:=fc.size;have:=fe.size;omega) (fun eT kD Qg Ba fG=>?_);have:=al g2
     replace cc:=(fG.mem _ this).2 cc;replace g2:=fG.bM g2 (fun h=>by first|exact cT.dE g2 h|exact cT.ep g2 (by decide) h|(have:=(cT.base _ h).1;omega));have:=al g3;replace dY:=(fG.mem _ this).2 dY;replace g3:=fG.bM g3 (fun h=>by first|exact cT.dE g3 h|exact cT.ep g3 (by decide) h|(have:=(cT.base _ h).1;omega));have:=al dh;replace cJ:=(fG.mem _ this).2 cJ;replace dh:=fG.bM dh (fun h=>by first|exact cT.dE dh h|exact cT.ep dh (by decide) h|(have:=(cT.base _ h).1;omega));have:=al cE;replace cC:=(fG.mem _ this).2 cC;replace cE:=fG.bM cE (fun h=>by first|exact cT.dE cE h|exact cT.ep cE (by decide) h|(have:=(cT.base _ h).1;omega));replace cG:=cG.le (by decide) fG.le;replace de:=de.le fG.le;replace iu:=iu.le fG.le;replace eO:=eO.le fG.le;replace hM:=fG.lt hM;have:=S.size;replace S:=S.cF fG cT Fp;replace cT:=Ba;refine bH (o':=1) aJ rfl rfl ow (by decide) rfl rfl ?_;refine cu (M:=kD) ow rfl rfl cE rfl ((by obtain⟨_,_,he,_⟩:=cT.isSlice;rw[he];rfl)) cC (fun Fs zn ff=>?_);change Fs.heap[_]? =some (Obj.cells #[.int .i64 d.1,eT] _ _)at zn;have:=al g2;replace cc:=(ff.mem _ this).2 cc;replace g2:=ff.bM g2 (fun hk=>by have hk:_=_:=hk;omega);have:=al g3;replace dY:=(ff.mem _ this).2 dY;replace g3:=ff.bM g3 (fun hk=>by have hk:_=_:=hk;omega);have:=al dh;replace cJ:=(ff.mem _ this).2 cJ;replace dh:=ff.bM dh (fun hk=>by have hk:_=_:=hk;omega);have:=al cE;replace cC:=(ff.mem _ this).2 cC;replace cG:=cG.le (by decide) ff.le;replace de:=de.le ff.le;replace iu:=iu.le ff.le;replace eO:=eO.le ff.le;replace cT:=cT.step ff (fun b hb hk=>by have hk:_=_:=hk;have:=(cT.base b hb);omega);replace hM:=ff.lt hM;have:=S.size
     replace S:=S.trans ff (fun k hk h=>by have h:_=_:=h;subst h;first|(exfalso;omega)|(show _≤_;omega)|exact⟨by first|omega|assumption,(S.mem _ hk).1 ((ff.mem _ (al cE)).1 cC)⟩|exact .inl rfl|exact .inr rfl|exact .inr (.inl rfl)|exact .inr (.inr rfl)|exact rfl);have gJ:=zn;clear cE;have cE:=gJ;clear gJ;refine ad (ak (aj (eX (vs:=[.int .i64 d.1,eT]) aJ rfl jW rfl rfl rfl cE ?_)));have qv:=cT.view (hn:=by decide) (by simp;omega);replace cc:rm kD eT _:=⟨cc,by first|exact cT.ep g2 (by decide)|(intro h;have:=(cT.base _ h).1;omega)⟩;replace dY:rm kD eT _:=⟨dY,by first|exact cT.ep g3 (by decide)|(intro h;have:=(cT.base _ h).1;omega)⟩;replace cJ:rm kD eT _:=⟨cJ,by first|exact cT.ep dh (by decide)|(intro h;have:=(cT.base _ h).1;omega)⟩;replace cC:rm kD eT _:=⟨cC,by first|exact cT.ep cE (by decide)|(intro h;have:=(cT.base _ h).1;omega)⟩;replace cG:=cG.le (by decide) (pM _ eT _);replace de:=de.le (pM _ eT _);replace iu:=iu.le (pM _ eT _);replace eO:=eO.le (pM _ eT _);replace hM:Lt (rm kD eT) _:=fun b hb=>hM b hb.1
     replace S:=S.freeze (v:=eT) (fun b hb=>by have:=(cT.base b hb).1;omega);clear cT;refine aT rfl rfl Pg (wO (d:=(d.1,[]++out++[fixF i x])) _ hM (dR (fO Ts) qv rfl rfl rfl rfl) (fun y hy=>by have:=(xx.snoc JR) y (by simpa using hy);omega)) (fun r14 Qh hc=>?_);obtain⟨rfl,jG⟩:=hc;rw[eu]at qv;have:=al g2;replace cc:=(jG.mem _ this).2 cc;replace g2:=jG.aN g2;have:=al g3;replace dY:=(jG.mem _ this).2 dY;replace g3:=jG.aN g3;have:=al dh;replace cJ:=(jG.mem _ this).2 cJ;replace dh:=jG.aN dh;have:=al cE;replace cC:=(jG.mem _ this).2 cC;replace cE:=jG.aN cE;replace cG:=cG.le (by decide) jG.le;replace de:=de.le jG.le;replace iu:=iu.le jG.le;replace eO:=eO.le jG.le;replace qv:=qv.le jG.le;replace hM:=jG.lt hM;have:=S.size;replace S:=S.aw jG;refine rT rfl rfl rfl (bI (v':= .bool (decide (lu (d.1,out++[fixF i x])=0))) (by rw[eu]) (ad ?_));refine bK rfl (fun LX=>?_) (fun LX=>?_)
     ·refine aj (eX (vs:=[.int .i64 d.1,eT]) aJ rfl jW rfl rfl rfl cE ?_);refine dx (M:=rm kD eT) (vs:=[.int .i64 d.1,eT]) jW rfl rfl (by intro u hu;simp at hu;rcases hu with rfl|rfl<;>first|rfl|exact iZ (by assumption) rfl rfl) rfl rfl g3 dY (fun Wj Ft iB=>?_);have:=al g2;replace cc:=(iB.mem _ this).2 cc;replace g2:=iB.bM g2 (fun hk=>by have hk:_=_:=hk;omega);have:=al g3;replace dY:=(iB.mem _ this).2 dY;have:=al dh;replace cJ:=(iB.mem _ this).2 cJ;replace dh:=iB.bM dh (fun hk=>by have hk:_=_:=hk;omega);have:=al cE;replace cC:=(iB.mem _ this).2 cC;replace cE:=iB.bM cE (fun hk=>by have hk:_=_:=hk;omega);replace cG:=cG.le (by decide) iB.le;replace de:=de.le iB.le;replace iu:=iu.le iB.le;replace eO:=eO.le iB.le;replace qv:=qv.le iB.le;replace hM:=iB.lt hM;have:=S.size;replace S:=S.trans iB (fun k hk h=>by have h:_=_:=h;subst h;first|(exfalso;omega)|(show _≤_;omega)|exact⟨by first|omega|assumption,(S.mem _ hk).1 ((iB.mem _ (al g3)).1 dY)⟩|exact .inl rfl|exact .inr rfl|exact .inr (.inl rfl)|exact .inr (.inr rfl)|exact rfl);have Qi:=Ft;clear g3;have g3:=Qi;clear Qi;refine ad (aj (ae rfl rfl (bE rfl rfl rfl (by omega) (ah rfl rfl (ad ?_)))));refine⟨rfl,(i+1,out++[fixF i x]),(.cons rfl (.cons rfl (.cons rfl (.cons rfl (.cons rfl .nil))))),?_,?_⟩
      ·exact⟨_,_,hM,S,cG,de,g2,cc,g3,dY,qv,by rw[qP,Tt,if_pos LX],by dsimp only;omega,by dsimp only;omega,xx.snoc JR,by simp;omega⟩
      ·dsimp only;omega
     ·refine aU (aj (ae rfl rfl (bE rfl rfl rfl (by omega) (ah rfl rfl (ad ?_)))));refine⟨rfl,(i+1,out),(.cons rfl (.cons rfl (.cons rfl (.cons rfl (.cons rfl .nil))))),?_,?_⟩
      ·exact⟨_,_,hM,S,cG,de,g2,cc,g3,dY,iu,by rw[qP,Tt,if_neg LX],by dsimp only;omega,by dsimp only;omega,xx,by dsimp only;omega⟩
      ·dsimp only;omega
    ·rw[show x.1=(fixF i x).1 from by show x.1=if eS x.1=true then x.1 else _;rw[if_pos (by cases hq:eS x.1 with|true=>rfl|false=>exact absurd hq c8)]]at dh;refine aU (ak (aj (bH (o':=1) bQ rfl rfl I9 (by decide) rfl rfl (aX aA rfl rfl rfl (by assumption) rfl (bH (o':=1) bQ rfl rfl I9 (by decide) rfl rfl (aX aA rfl rfl rfl (by assumption) rfl (Rg.lh aA rfl rfl (bI (v':= .int .i64 (x.2.length:Int)) (by simp[ByteArray.size]) (Rg.min2 rfl rfl rfl (Rg.JF aA rfl rfl rfl (by omega) (bI (v':= .string ⟨((fixF i x).2).toArray⟩) (by rw[zh];rfl) ?_)))))))))));refine bH (o':=1) bQ rfl rfl I9 (by decide) rfl rfl ?_;refine cu (M:=kC) I9 rfl rfl dh rfl (rfl) cJ (fun Cc zj fo=>?_);change Cc.heap[_]? =some (Obj.cells #[.string ⟨((fixF i x).1).toArray⟩,.string ⟨((fixF i x).2).toArray⟩] _ _)at zj;have:=al g2;replace cc:=(fo.mem _ this).2 cc;replace g2:=fo.bM g2 (fun hk=>by have hk:_=_:=hk;omega);have:=al g3;replace dY:=(fo.mem _ this).2 dY;replace g3:=fo.bM g3 (fun hk=>by have hk:_=_:=hk;omega);have:=al dh;replace cJ:=(fo.mem _ this).2 cJ;replace cG:=cG.le (by decide) fo.le;replace de:=de.le fo.le;replace iu:=iu.le fo.le;replace hM:=fo.lt hM;have:=S.size;replace S:=S.trans fo (fun k hk h=>by have h:_=_:=h;subst h;first|(exfalso;omega)|(show _≤_;omega)|exact⟨by first|omega|assumption,(S.mem _ hk).1 ((fo.mem _ (al dh)).1 cJ)⟩|exact .inl rfl|exact .inr rfl|exact .inr (.inl rfl)|exact .inr (.inr rfl)|exact rfl);have nH:=zj;clear dh;have dh:=nH;clear nH;refine ad (ak (aj ?_));refine ax (M:=kC) (A:=RT.dc) (B:=RT.int .i64) aJ rfl rfl I3 (by decide) (Oh) rfl rfl (by decide) (by assumption) (by repeat (first|exact ao _ _|refine aV (br (by assumption)) ?_)) (fun JT Fm=>?_)
     refine b4 (M:=kC) ay rfl rfl (by assumption) (by repeat (first|exact ao _ _|refine aV (br (by assumption)) ?_)) (fun LW=>?_);refine eM (places:=[(0,1),(1,1)]) aJ jW Pd rfl ⟨_,_,rfl,rfl,rfl⟩ (out:=[_,.slice none 0 0]) ⟨0,[_],rfl,rfl,by simp[Value.cells],rfl⟩ ?_;refine dL kC jW rfl (fun tT zk Qd Qe cE eC=>?_);obtain⟨py,p9⟩:∃M',M'=ins kC tT:=⟨_,rfl⟩;rw[←p9]at eC;have cC:py tT:=by rw[p9];exact .inl rfl
     change zk.heap[tT]? =some (.cells #[.int .i64 0,.slice none 0 0] _ _)at cE;have:=al g2;replace cc:=(eC.mem _ this).2 cc;replace g2:=eC.aN g2;have:=al g3;replace dY:=(eC.mem _ this).2 dY;replace g3:=eC.aN g3;have:=al dh;replace cJ:=(eC.mem _ this).2 cJ;replace dh:=eC.aN dh;replace cG:=cG.le (by decide) eC.le;replace de:=de.le eC.le;replace iu:=iu.le eC.le;replace hM:=eC.lt hM;have:=S.size;replace S:=S.aw eC;refine dx (M:=py) (vs:=[.int .i64 d.1,.slice none 0 0]) jW rfl rfl (by intro u hu;simp at hu;rcases hu with rfl|rfl<;>first|rfl|exact iZ (by assumption) rfl rfl) rfl rfl cE cC (fun xX Fo jl=>?_);have:=al g2;replace cc:=(jl.mem _ this).2 cc;replace g2:=jl.bM g2 (fun hk=>by have hk:_=_:=hk;omega);have:=al g3;replace dY:=(jl.mem _ this).2 dY;replace g3:=jl.bM g3 (fun hk=>by have hk:_=_:=hk;omega);have:=al dh;replace cJ:=(jl.mem _ this).2 cJ;replace dh:=jl.bM dh (fun hk=>by have hk:_=_:=hk;omega);have:=al cE;replace cC:=(jl.mem _ this).2 cC;replace cG:=cG.le (by decide) jl.le;replace de:=de.le jl.le;replace iu:=iu.le jl.le;replace hM:=jl.lt hM;have:=S.size;replace S:=S.trans jl (fun k hk h=>by have h:_=_:=h;subst h;first|(exfalso;omega)|(show _≤_;omega)|exact⟨by first|omega|assumption,(S.mem _ hk).1 ((jl.mem _ (al cE)).1 cC)⟩|exact .inl rfl|exact .inr rfl|exact .inr (.inl rfl)|exact .inr (.inr rfl)|exact rfl);have gJ:=Fo;clear cE;have cE:=gJ;clear gJ;refine ad (ak (aj (bH (o':=1) aJ rfl rfl ow (by decide) rfl rfl (aX aO rfl rfl rfl (by assumption) rfl (bH (o':=1) aJ rfl rfl ow (by decide) rfl rfl (aX aO rfl rfl rfl (by assumption) rfl ?_))))));have cT:=Own.JK RT.fd 127 xX.heap.size hM
     have Wi:=al dh;have Fp:w0.heap.size≤xX.heap.size:=S.size;refine ch (M:=py) (base:=xX.heap.size) aO gU rfl rfl rfl rfl cT iu (ao _ _) (by simp;omega) (by simp;omega) (a8 _) (fun tL nF E4 pw dX=>?_);have:=al g2;replace cc:=(dX.mem _ this).2 cc;replace g2:=dX.bM g2 (fun h=>by first|exact cT.dE g2 h|exact cT.ep g2 (by decide) h|(have:=(cT.base _ h).1;omega));have:=al g3;replace dY:=(dX.mem _ this).2 dY;replace g3:=dX.bM g3 (fun h=>by first|exact cT.dE g3 h|exact cT.ep g3 (by decide) h|(have:=(cT.base _ h).1;omega));have:=al dh;replace cJ:=(dX.mem _ this).2 cJ;replace dh:=dX.bM dh (fun h=>by first|exact cT.dE dh h|exact cT.ep dh (by decide) h|(have:=(cT.base _ h).1;omega));have:=al cE;replace cC:=(dX.mem _ this).2 cC;replace cE:=dX.bM cE (fun h=>by first|exact cT.dE cE h|exact cT.ep cE (by decide) h|(have:=(cT.base _ h).1;omega));replace cG:=cG.le (by decide) dX.le;replace de:=de.le dX.le;replace iu:=iu.le dX.le;replace hM:=dX.lt hM;have:=S.size;replace S:=S.cF dX cT Fp;replace cT:=pw;refine bH (o':=1) aJ rfl rfl ow (by decide) rfl rfl ?_;refine cu (M:=nF) ow rfl rfl cE rfl ((by obtain⟨_,_,he,_⟩:=cT.isSlice;rw[he];rfl)) cC (fun Fq zm fc=>?_);change Fq.heap[_]? =some (Obj.cells #[.int .i64 d.1,tL] _ _)at zm;have:=al g2;replace cc:=(fc.mem _ this).2 cc;replace g2:=fc.bM g2 (fun hk=>by have hk:_=_:=hk;omega);have:=al g3;replace dY:=(fc.mem _ this).2 dY;replace g3:=fc.bM g3 (fun hk=>by have hk:_=_:=hk;omega);have:=al dh;replace cJ:=(fc.mem _ this).2 cJ;replace dh:=fc.bM dh (fun hk=>by have hk:_=_:=hk;omega);have:=al cE;replace cC:=(fc.mem _ this).2 cC
     replace cG:=cG.le (by decide) fc.le;replace de:=de.le fc.le;replace iu:=iu.le fc.le;replace cT:=cT.step fc (fun b hb hk=>by have hk:_=_:=hk;have:=(cT.base b hb);omega);replace hM:=fc.lt hM;have:=S.size;replace S:=S.trans fc (fun k hk h=>by have h:_=_:=h;subst h;first|(exfalso;omega)|(show _≤_;omega)|exact⟨by first|omega|assumption,(S.mem _ hk).1 ((fc.mem _ (al cE)).1 cC)⟩|exact .inl rfl|exact .inr rfl|exact .inr (.inl rfl)|exact .inr (.inr rfl)|exact rfl);have gJ:=zm;clear cE;have cE:=gJ;clear gJ;refine ad (ak (aj (bH (o':=1) aJ rfl rfl ow (by decide) rfl rfl (aX aO rfl rfl rfl (by assumption) rfl (eX (vs:=[.string ⟨((fixF i x).1).toArray⟩,.string ⟨((fixF i x).2).toArray⟩]) bQ rfl gU rfl rfl rfl dh ?_)))));refine dQ (A:=RT.fd) (hn:=by decide) (M:=nF) aO gU (by decide) rfl rfl hM (show RT.fd.V _ _ (fixF i x) _ from dR (iM.2 ⟨rfl,eJ JR.1 (by decide)⟩) (iM.2 ⟨rfl,eJ JR.2 (by decide)⟩) rfl rfl rfl rfl) (.inl rfl) (fun JO Qf eO fe=>?_);have:=al g2;replace cc:=(fe.mem _ this).2 cc;replace g2:=fe.aN g2;have:=al g3;replace dY:=(fe.mem _ this).2 dY;replace g3:=fe.aN g3;have:=al dh;replace cJ:=(fe.mem _ this).2 cJ;replace dh:=fe.aN dh;have:=al cE;replace cC:=(fe.mem _ this).2 cC;replace cE:=fe.aN cE;replace cG:=cG.le (by decide) fe.le;replace de:=de.le fe.le;replace iu:=iu.le fe.le;replace cT:=cT.a7 fe;replace hM:=fe.lt hM;have:=S.size;replace S:=S.aw fe;refine ch (M:=nF) (base:=xX.heap.size) aO gU rfl rfl rfl rfl cT eO (ao _ _) (by simp;omega) (by simp;omega) (by have:=dX.size;have:=fc.size;have:=fe.size;omega) (fun eT kD Qg Ba fG=>?_);have:=al g2
     replace cc:=(fG.mem _ this).2 cc;replace g2:=fG.bM g2 (fun h=>by first|exact cT.dE g2 h|exact cT.ep g2 (by decide) h|(have:=(cT.base _ h).1;omega));have:=al g3;replace dY:=(fG.mem _ this).2 dY;replace g3:=fG.bM g3 (fun h=>by first|exact cT.dE g3 h|exact cT.ep g3 (by decide) h|(have:=(cT.base _ h).1;omega));have:=al dh;replace cJ:=(fG.mem _ this).2 cJ;replace dh:=fG.bM dh (fun h=>by first|exact cT.dE dh h|exact cT.ep dh (by decide) h|(have:=(cT.base _ h).1;omega));have:=al cE;replace cC:=(fG.mem _ this).2 cC;replace cE:=fG.bM cE (fun h=>by first|exact cT.dE cE h|exact cT.ep cE (by decide) h|(have:=(cT.base _ h).1;omega));replace cG:=cG.le (by decide) fG.le;replace de:=de.le fG.le;replace iu:=iu.le fG.le;replace eO:=eO.le fG.le;replace hM:=fG.lt hM;have:=S.size;replace S:=S.cF fG cT Fp;replace cT:=Ba;refine bH (o':=1) aJ rfl rfl ow (by decide) rfl rfl ?_;refine cu (M:=kD) ow rfl rfl cE rfl ((by obtain⟨_,_,he,_⟩:=cT.isSlice;rw[he];rfl)) cC (fun Fs zn ff=>?_);change Fs.heap[_]? =some (Obj.cells #[.int .i64 d.1,eT] _ _)at zn;have:=al g2;replace cc:=(ff.mem _ this).2 cc;replace g2:=ff.bM g2 (fun hk=>by have hk:_=_:=hk;omega);have:=al g3;replace dY:=(ff.mem _ this).2 dY;replace g3:=ff.bM g3 (fun hk=>by have hk:_=_:=hk;omega);have:=al dh;replace cJ:=(ff.mem _ this).2 cJ;replace dh:=ff.bM dh (fun hk=>by have hk:_=_:=hk;omega);have:=al cE;replace cC:=(ff.mem _ this).2 cC;replace cG:=cG.le (by decide) ff.le;replace de:=de.le ff.le;replace iu:=iu.le ff.le;replace eO:=eO.le ff.le;replace cT:=cT.step ff (fun b hb hk=>by have hk:_=_:=hk;have:=(cT.base b hb);omega);replace hM:=ff.lt hM;have:=S.size
     replace S:=S.trans ff (fun k hk h=>by have h:_=_:=h;subst h;first|(exfalso;omega)|(show _≤_;omega)|exact⟨by first|omega|assumption,(S.mem _ hk).1 ((ff.mem _ (al cE)).1 cC)⟩|exact .inl rfl|exact .inr rfl|exact .inr (.inl rfl)|exact .inr (.inr rfl)|exact rfl);have gJ:=zn;clear cE;have cE:=gJ;clear gJ;refine ad (ak (aj (eX (vs:=[.int .i64 d.1,eT]) aJ rfl jW rfl rfl rfl cE ?_)));have qv:=cT.view (hn:=by decide) (by simp;omega);replace cc:rm kD eT _:=⟨cc,by first|exact cT.ep g2 (by decide)|(intro h;have:=(cT.base _ h).1;omega)⟩;replace dY:rm kD eT _:=⟨dY,by first|exact cT.ep g3 (by decide)|(intro h;have:=(cT.base _ h).1;omega)⟩;replace cJ:rm kD eT _:=⟨cJ,by first|exact cT.ep dh (by decide)|(intro h;have:=(cT.base _ h).1;omega)⟩;replace cC:rm kD eT _:=⟨cC,by first|exact cT.ep cE (by decide)|(intro h;have:=(cT.base _ h).1;omega)⟩;replace cG:=cG.le (by decide) (pM _ eT _);replace de:=de.le (pM _ eT _);replace iu:=iu.le (pM _ eT _);replace eO:=eO.le (pM _ eT _);replace hM:Lt (rm kD eT) _:=fun b hb=>hM b hb.1
     replace S:=S.freeze (v:=eT) (fun b hb=>by have:=(cT.base b hb).1;omega);clear cT;refine aT rfl rfl Pg (wO (d:=(d.1,[]++out++[fixF i x])) _ hM (dR (fO Ts) qv rfl rfl rfl rfl) (fun y hy=>by have:=(xx.snoc JR) y (by simpa using hy);omega)) (fun r14 Qh hc=>?_);obtain⟨rfl,jG⟩:=hc;rw[eu]at qv;have:=al g2;replace cc:=(jG.mem _ this).2 cc;replace g2:=jG.aN g2;have:=al g3;replace dY:=(jG.mem _ this).2 dY;replace g3:=jG.aN g3;have:=al dh;replace cJ:=(jG.mem _ this).2 cJ;replace dh:=jG.aN dh;have:=al cE;replace cC:=(jG.mem _ this).2 cC;replace cE:=jG.aN cE;replace cG:=cG.le (by decide) jG.le;replace de:=de.le jG.le;replace iu:=iu.le jG.le;replace eO:=eO.le jG.le;replace qv:=qv.le jG.le;replace hM:=jG.lt hM;have:=S.size;replace S:=S.aw jG;refine rT rfl rfl rfl (bI (v':= .bool (decide (lu (d.1,out++[fixF i x])=0))) (by rw[eu]) (ad ?_));refine bK rfl (fun LX=>?_) (fun LX=>?_)
     ·refine aj (eX (vs:=[.int .i64 d.1,eT]) aJ rfl jW rfl rfl rfl cE ?_);refine dx (M:=rm kD eT) (vs:=[.int .i64 d.1,eT]) jW rfl rfl (by intro u hu;simp at hu;rcases hu with rfl|rfl<;>first|rfl|exact iZ (by assumption) rfl rfl) rfl rfl g3 dY (fun Wj Ft iB=>?_);have:=al g2;replace cc:=(iB.mem _ this).2 cc;replace g2:=iB.bM g2 (fun hk=>by have hk:_=_:=hk;omega);have:=al g3;replace dY:=(iB.mem _ this).2 dY;have:=al dh;replace cJ:=(iB.mem _ this).2 cJ;replace dh:=iB.bM dh (fun hk=>by have hk:_=_:=hk;omega);have:=al cE;replace cC:=(iB.mem _ this).2 cC;replace cE:=iB.bM cE (fun hk=>by have hk:_=_:=hk;omega);replace cG:=cG.le (by decide) iB.le;replace de:=de.le iB.le;replace iu:=iu.le iB.le;replace eO:=eO.le iB.le;replace qv:=qv.le iB.le;replace hM:=iB.lt hM;have:=S.size;replace S:=S.trans iB (fun k hk h=>by have h:_=_:=h;subst h;first|(exfalso;omega)|(show _≤_;omega)|exact⟨by first|omega|assumption,(S.mem _ hk).1 ((iB.mem _ (al g3)).1 dY)⟩|exact .inl rfl|exact .inr rfl|exact .inr (.inl rfl)|exact .inr (.inr rfl)|exact rfl);have Qi:=Ft;clear g3;have g3:=Qi;clear Qi;refine ad (aj (ae rfl rfl (bE rfl rfl rfl (by omega) (ah rfl rfl (ad ?_)))));refine⟨rfl,(i+1,out++[fixF i x]),(.cons rfl (.cons rfl (.cons rfl (.cons rfl (.cons rfl .nil))))),?_,?_⟩
      ·exact⟨_,_,hM,S,cG,de,g2,cc,g3,dY,qv,by rw[qP,Tt,if_pos LX],by dsimp only;omega,by dsimp only;omega,xx.snoc JR,by simp;omega⟩
      ·dsimp only;omega
     ·refine aU (aj (ae rfl rfl (bE rfl rfl rfl (by omega) (ah rfl rfl (ad ?_)))));refine⟨rfl,(i+1,out),(.cons rfl (.cons rfl (.cons rfl (.cons rfl (.cons rfl .nil))))),?_,?_⟩
      ·exact⟨_,_,hM,S,cG,de,g2,cc,g3,dY,iu,by rw[qP,Tt,if_neg LX],by dsimp only;omega,by dsimp only;omega,xx,by dsimp only;omega⟩
      ·dsimp only;omega
   ·refine cK (ak (aj (eX (vs:=[.int .i64 d.1,uo]) aJ rfl jW rfl rfl rfl g3 ?_)));refine dx (M:=M1) (vs:=[.int .i64 d.1,uo]) jW rfl rfl (by intro u hu;simp at hu;rcases hu with rfl|rfl<;>first|rfl|exact iZ (by assumption) rfl rfl) rfl rfl g2 cc (fun Wk Fu mu=>?_);have:=al g2;replace cc:=(mu.mem _ this).2 cc;have:=al g3;replace dY:=(mu.mem _ this).2 dY;replace g3:=mu.bM g3 (fun hk=>by have hk:_=_:=hk;omega);replace cG:=cG.le (by decide) mu.le;replace de:=de.le mu.le;replace iu:=iu.le mu.le;replace hM:=mu.lt hM;have:=S.size;replace S:=S.trans mu (fun k hk h=>by have h:_=_:=h;subst h;first|(exfalso;omega)|(show _≤_;omega)|exact⟨by first|omega|assumption,(S.mem _ hk).1 ((mu.mem _ (al g2)).1 cc)⟩|exact .inl rfl|exact .inr rfl|exact .inr (.inl rfl)|exact .inr (.inr rfl)|exact rfl);have tU:=Fu;clear g2;have g2:=tU;clear tU;refine ad (aM ?_);have e:mQ d=(d.1,out):=by rw[mQ,qP,wR (by omega)]
    rw[e];refine tq (vs:=[.int .i64 d.1,uo]) rfl rfl aJ rfl jW rfl g2 ⟨dR (fO Ts) (iu.le (Le.close fR S)) rfl rfl rfl rfl,S.back⟩
  ·refine aq rfl rfl rfl rfl (aq rfl rfl rfl rfl (aE rfl rfl rfl (ad (iV rfl (cK (ak (aj (eX (vs:=[.int .i64 d.1,uo]) aJ rfl jW rfl rfl rfl g3 ?_))))))));refine dx (M:=M1) (vs:=[.int .i64 d.1,uo]) jW rfl rfl (by intro u hu;simp at hu;rcases hu with rfl|rfl<;>first|rfl|exact iZ (by assumption) rfl rfl) rfl rfl g2 cc (fun Wk Fu mu=>?_);have:=al g2;replace cc:=(mu.mem _ this).2 cc;have:=al g3;replace dY:=(mu.mem _ this).2 dY;replace g3:=mu.bM g3 (fun hk=>by have hk:_=_:=hk;omega);replace cG:=cG.le (by decide) mu.le;replace de:=de.le mu.le;replace iu:=iu.le mu.le;replace hM:=mu.lt hM;have:=S.size;replace S:=S.trans mu (fun k hk h=>by have h:_=_:=h;subst h;first|(exfalso;omega)|(show _≤_;omega)|exact⟨by first|omega|assumption,(S.mem _ hk).1 ((mu.mem _ (al g2)).1 cc)⟩|exact .inl rfl|exact .inr rfl|exact .inr (.inl rfl)|exact .inr (.inr rfl)|exact rfl);have tU:=Fu;clear g2;have g2:=tU;clear tU;refine ad (aM ?_);have e:mQ d=(d.1,out):=by rw[mQ,qP,wR (by omega)]
   rw[e];refine tq (vs:=[.int .i64 d.1,uo]) rfl rfl aJ rfl jW rfl g2 ⟨dR (fO Ts) (iu.le (Le.close fR S)) rfl rfl rfl rfl,S.back⟩
end Go.K

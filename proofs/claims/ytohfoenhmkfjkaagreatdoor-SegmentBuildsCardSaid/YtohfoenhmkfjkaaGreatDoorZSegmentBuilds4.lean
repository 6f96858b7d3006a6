/- What the law 'SegmentBuilds' needs of walks and plain Lean, part 4: nothing is assumed beyond the texts that it imports. -/
import Derived.Ground.GgzProg
import Derived.Ground.SlgmProg
import Derived.KernelRfl
import Derived.Shelf.SlGeneric
import Derived.Shelf.SlIter.Nil
import Derived.Shelf.SlIterI.Nil
import Derived.Shelf.SortM.Plain
import Derived.Shelf.SortM.SortNone
import Derived.Test.YtohfoenhmkfjkaaGreatDoorProg
import Derived.Test.YtohfoenhmkfjkaaGreatDoorZSegmentBuilds1
import Derived.Test.YtohfoenhmkfjkaaGreatDoorZSegmentBuilds2
import Derived.Test.YtohfoenhmkfjkaaGreatDoorZSegmentBuilds3
set_option linter.unusedVariables false
set_option linter.unusedSimpArgs false
theorem iw:type_of% @Go.K.Rg.iM:=@Go.K.Rg.iM
namespace Go.Proofs
open Go.Shelf
def Tryz.yh:Go.Shelf.Ren:=⟨fun|7=>62|10=>114|n=>n,fun|23=>100|26=>3|3=>109|28=>116|0=>0|27=>115|33=>158|4=>4|n=>n,fun|n=>n⟩
theorem Tryz.TU:Go.Proofs.SlLaysZI.n7 Tryz.prog Tryz.yh:={
 mixed:=by kernel_rfl
 f7:=⟨Tryz.f62.name,by decide,Tryz.func62.trans (congrArg some (by kernel_rfl))⟩
 f10:=⟨Tryz.f114.name,by decide,Tryz.func114.trans (congrArg some (by kernel_rfl))⟩
 t0:=jd
 a0:=uw
 z0:=qc
 v0:=jT
 t4:=oB
 a4:=Tryz.isAgg4
 z4:=Tryz.sizeOf4
 v4:=qI
 t23:=Tryz.underlying100
 a23:=Tryz.isAgg100
 z23:=Tryz.sizeOf100
 v23:=Tryz.zeroValue100
 t26:=az
 a26:=ux
 z26:=qd
 v26:=jU
 t27:=Tryz.underlying115
 a27:=Tryz.isAgg115
 z27:=Tryz.sizeOf115
 v27:=Tryz.zeroValue115
 t28:=Tryz.underlying116
 a28:=Tryz.isAgg116
 z28:=Tryz.sizeOf116
 v28:=Tryz.zeroValue116
 t33:=Tryz.underlying158
 a33:=Tryz.isAgg158
 z33:=Tryz.sizeOf158
 v33:=Tryz.zeroValue158}
def Tryz.tA:Go.Shelf.Ren:=⟨fun|6=>61|8=>71|9=>113|11=>121|13=>166|12=>165|23=>210|24=>211|14=>202|15=>203|16=>204|17=>205|18=>206|19=>207|20=>118|21=>208|22=>209|25=>245|26=>246|27=>247|28=>248|29=>249|30=>168|31=>273|n=>n,fun|26=>3|28=>116|24=>32|0=>0|3=>3|37=>183|48=>273|50=>165|4=>4|40=>267|39=>266|45=>121|5=>5|9=>9|51=>295|55=>299|57=>327|58=>305|33=>158|n=>n,fun|n=>n⟩
theorem Tryz.KV:Go.Proofs.SlLaysZI.n6 Tryz.prog Tryz.tA:={
 mixed:=by kernel_rfl
 f6:=⟨Tryz.f61.name,by decide,Tryz.func61.trans (congrArg some (by kernel_rfl))⟩
 f8:=⟨Tryz.f71.name,by decide,Tryz.func71.trans (congrArg some (by kernel_rfl))⟩
 f11:=⟨Tryz.f121.name,by decide,Tryz.func121.trans (congrArg some (by kernel_rfl))⟩
 t0:=jd
 a0:=uw
 z0:=qc
 v0:=jT
 t24:=ax
 a24:=Tryz.isAgg32
 z24:=Tryz.sizeOf32
 v24:=Tryz.zeroValue32
 t26:=az
 a26:=ux
 z26:=qd
 v26:=jU
 t28:=Tryz.underlying116
 a28:=Tryz.isAgg116
 z28:=Tryz.sizeOf116
 v28:=Tryz.zeroValue116
 i26:=by kernel_rfl}
def Tryz.Fk:Go.Shelf.Ren:=⟨fun|5=>113|8=>166|7=>165|19=>210|20=>211|10=>202|11=>203|12=>204|13=>205|14=>206|15=>207|16=>118|17=>208|18=>209|30=>245|31=>246|32=>247|33=>248|34=>249|35=>168|40=>273|n=>n,fun|23=>32|25=>3|3=>3|32=>183|22=>32|0=>0|44=>273|46=>165|4=>4|36=>267|35=>266|41=>121|5=>5|9=>9|53=>295|57=>299|63=>327|64=>305|n=>n,fun|n=>n⟩
theorem Tryz.Mv:Go.Proofs.SlLaysM.n5 Tryz.prog Tryz.Fk:={
 mixed:=by kernel_rfl
 f5:=⟨Tryz.f113.name,by decide,Tryz.func113.trans (congrArg some (by kernel_rfl))⟩
 f7:=⟨Tryz.f165.name,by decide,Tryz.func165.trans (congrArg some (by kernel_rfl))⟩
 f8:=Tryz.func166.trans (congrArg some (by kernel_rfl))
 f10:=⟨Tryz.f202.name,by decide,Tryz.func202.trans (congrArg some (by kernel_rfl))⟩
 f11:=⟨Tryz.f203.name,by decide,Tryz.func203.trans (congrArg some (by kernel_rfl))⟩
 f12:=⟨Tryz.f204.name,by decide,Tryz.func204.trans (congrArg some (by kernel_rfl))⟩
 f13:=⟨Tryz.f205.name,by decide,Tryz.func205.trans (congrArg some (by kernel_rfl))⟩
 f14:=⟨Tryz.f206.name,by decide,Tryz.func206.trans (congrArg some (by kernel_rfl))⟩
 f15:=⟨Tryz.f207.name,by decide,Tryz.func207.trans (congrArg some (by kernel_rfl))⟩
 f16:=⟨Tryz.f118.name,by decide,Tryz.func118.trans (congrArg some (by kernel_rfl))⟩
 f17:=⟨Tryz.f208.name,by decide,Tryz.func208.trans (congrArg some (by kernel_rfl))⟩
 f18:=⟨Tryz.f209.name,by decide,Tryz.func209.trans (congrArg some (by kernel_rfl))⟩
 f19:=Tryz.func210.trans (congrArg some (by kernel_rfl))
 f20:=Tryz.func211.trans (congrArg some (by kernel_rfl))
 f30:=⟨Tryz.f245.name,by decide,Tryz.func245.trans (congrArg some (by kernel_rfl))⟩
 f31:=Tryz.func246.trans (congrArg some (by kernel_rfl))
 f32:=Tryz.func247.trans (congrArg some (by kernel_rfl))
 f33:=⟨Tryz.f248.name,by decide,Tryz.func248.trans (congrArg some (by kernel_rfl))⟩
 f34:=⟨Tryz.f249.name,by decide,Tryz.func249.trans (congrArg some (by kernel_rfl))⟩
 f35:=⟨Tryz.f168.name,by decide,Tryz.func168.trans (congrArg some (by kernel_rfl))⟩
 f40:=⟨Tryz.f273.name,by decide,Tryz.func273.trans (congrArg some (by kernel_rfl))⟩
 t0:=jd
 a0:=uw
 z0:=qc
 v0:=jT
 t3:=az
 a3:=ux
 z3:=qd
 v3:=jU
 t4:=oB
 a4:=Tryz.isAgg4
 z4:=Tryz.sizeOf4
 v4:=qI
 t5:=cM
 a5:=Tryz.isAgg5
 z5:=Tryz.sizeOf5
 v5:=Tryz.zeroValue5
 t9:=aD
 a9:=uy
 z9:=qe
 v9:=jV
 t22:=ax
 a22:=Tryz.isAgg32
 z22:=Tryz.sizeOf32
 v22:=Tryz.zeroValue32
 t23:=ax
 a23:=Tryz.isAgg32
 z23:=Tryz.sizeOf32
 v23:=Tryz.zeroValue32
 t25:=az
 a25:=ux
 z25:=qd
 v25:=jU
 t32:=Tryz.underlying183
 a32:=Tryz.isAgg183
 z32:=Tryz.sizeOf183
 v32:=Tryz.zeroValue183
 t35:=Tryz.underlying266
 a35:=Tryz.isAgg266
 z35:=Tryz.sizeOf266
 v35:=Tryz.zeroValue266
 t36:=Tryz.underlying267
 a36:=Tryz.isAgg267
 z36:=Tryz.sizeOf267
 v36:=Tryz.zeroValue267
 t41:=Tryz.underlying121
 a41:=Tryz.isAgg121
 z41:=Tryz.sizeOf121
 v41:=Tryz.zeroValue121
 t44:=Tryz.underlying273
 a44:=Tryz.isAgg273
 z44:=Tryz.sizeOf273
 v44:=Tryz.zeroValue273
 t46:=Tryz.underlying165
 a46:=Tryz.isAgg165
 z46:=Tryz.sizeOf165
 v46:=Tryz.zeroValue165
 t53:=Tryz.underlying295
 a53:=Tryz.isAgg295
 z53:=Tryz.sizeOf295
 v53:=Tryz.zeroValue295
 t57:=Tryz.underlying299
 a57:=Tryz.isAgg299
 z57:=Tryz.sizeOf299
 v57:=Tryz.zeroValue299
 t63:=Tryz.underlying327
 a63:=Tryz.isAgg327
 z63:=Tryz.sizeOf327
 v63:=Tryz.zeroValue327
 t64:=Tryz.underlying305
 a64:=Tryz.isAgg305
 z64:=Tryz.sizeOf305
 v64:=Tryz.zeroValue305}
def Tryz.yi:Go.Shelf.Ren:=⟨fun|7=>112|10=>164|n=>n,fun|23=>167|26=>9|3=>107|28=>178|0=>0|27=>177|33=>182|4=>4|n=>n,fun|n=>n⟩
theorem Tryz.Ed:Go.Proofs.SlLaysZ.n7 Tryz.prog Tryz.yi:={
 mixed:=by kernel_rfl
 f7:=⟨Tryz.f112.name,by decide,Tryz.func112.trans (congrArg some (by kernel_rfl))⟩
 f10:=⟨Tryz.f164.name,by decide,Tryz.func164.trans (congrArg some (by kernel_rfl))⟩
 t0:=jd
 a0:=uw
 z0:=qc
 v0:=jT
 t4:=oB
 a4:=Tryz.isAgg4
 z4:=Tryz.sizeOf4
 v4:=qI
 t23:=gM
 a23:=Tryz.isAgg167
 z23:=Tryz.sizeOf167
 v23:=Tryz.zeroValue167
 t26:=aD
 a26:=uy
 z26:=qe
 v26:=jV
 t27:=Tryz.underlying177
 a27:=Tryz.isAgg177
 z27:=Tryz.sizeOf177
 v27:=Tryz.zeroValue177
 t28:=Tryz.underlying178
 a28:=Tryz.isAgg178
 z28:=Tryz.sizeOf178
 v28:=Tryz.zeroValue178
 t33:=Tryz.underlying182
 a33:=Tryz.isAgg182
 z33:=Tryz.sizeOf182
 v33:=Tryz.zeroValue182}
def Tryz.tB:Go.Shelf.Ren:=⟨fun|6=>111|8=>162|9=>163|11=>200|13=>166|12=>201|23=>210|24=>211|14=>236|15=>237|16=>238|17=>239|18=>240|19=>241|20=>242|21=>243|22=>244|25=>269|26=>246|27=>247|28=>270|29=>271|30=>272|31=>284|n=>n,fun|26=>9|28=>178|24=>55|0=>0|3=>3|37=>183|48=>273|50=>165|4=>4|40=>267|39=>266|45=>121|5=>5|9=>9|51=>295|55=>299|57=>327|58=>305|33=>182|n=>n,fun|n=>n⟩
theorem Tryz.KW:Go.Proofs.SlLaysZ.n6 Tryz.prog Tryz.tB:={
 mixed:=by kernel_rfl
 f6:=⟨Tryz.f111.name,by decide,Tryz.func111.trans (congrArg some (by kernel_rfl))⟩
 f8:=⟨Tryz.f162.name,by decide,Tryz.func162.trans (congrArg some (by kernel_rfl))⟩
 f11:=⟨Tryz.f200.name,by decide,Tryz.func200.trans (congrArg some (by kernel_rfl))⟩
 t0:=jd
 a0:=uw
 z0:=qc
 v0:=jT
 t24:=aF
 a24:=Tryz.isAgg55
 z24:=Tryz.sizeOf55
 v24:=Tryz.zeroValue55
 t26:=aD
 a26:=uy
 z26:=qe
 v26:=jV
 t28:=Tryz.underlying178
 a28:=Tryz.isAgg178
 z28:=Tryz.sizeOf178
 v28:=Tryz.zeroValue178
 i26:=by kernel_rfl}
def Tryz.Fl:Go.Shelf.Ren:=⟨fun|6=>163|8=>166|9=>201|19=>210|20=>211|21=>236|22=>237|23=>238|24=>239|25=>240|26=>241|27=>242|28=>243|29=>244|36=>269|31=>246|32=>247|37=>270|38=>271|39=>272|41=>284|n=>n,fun|27=>55|29=>9|3=>3|32=>183|26=>55|0=>0|44=>273|46=>165|4=>4|36=>267|35=>266|41=>121|5=>5|9=>9|53=>295|57=>299|63=>327|64=>305|n=>n,fun|n=>n⟩
theorem Tryz.Mw:Go.Proofs.SlLaysM.n6 Tryz.prog Tryz.Fl:={
 mixed:=by kernel_rfl
 f6:=⟨Tryz.f163.name,by decide,Tryz.func163.trans (congrArg some (by kernel_rfl))⟩
 f8:=Tryz.func166.trans (congrArg some (by kernel_rfl))
 f9:=⟨Tryz.f201.name,by decide,Tryz.func201.trans (congrArg some (by kernel_rfl))⟩
 f19:=Tryz.func210.trans (congrArg some (by kernel_rfl))
 f20:=Tryz.func211.trans (congrArg some (by kernel_rfl))
 f21:=⟨Tryz.f236.name,by decide,Tryz.func236.trans (congrArg some (by kernel_rfl))⟩
 f22:=⟨Tryz.f237.name,by decide,Tryz.func237.trans (congrArg some (by kernel_rfl))⟩
 f23:=⟨Tryz.f238.name,by decide,Tryz.func238.trans (congrArg some (by kernel_rfl))⟩
 f24:=⟨Tryz.f239.name,by decide,Tryz.func239.trans (congrArg some (by kernel_rfl))⟩
 f25:=⟨Tryz.f240.name,by decide,Tryz.func240.trans (congrArg some (by kernel_rfl))⟩
 f26:=⟨Tryz.f241.name,by decide,Tryz.func241.trans (congrArg some (by kernel_rfl))⟩
 f27:=⟨Tryz.f242.name,by decide,Tryz.func242.trans (congrArg some (by kernel_rfl))⟩
 f28:=⟨Tryz.f243.name,by decide,Tryz.func243.trans (congrArg some (by kernel_rfl))⟩
 f29:=⟨Tryz.f244.name,by decide,Tryz.func244.trans (congrArg some (by kernel_rfl))⟩
 f31:=Tryz.func246.trans (congrArg some (by kernel_rfl))
 f32:=Tryz.func247.trans (congrArg some (by kernel_rfl))
 f36:=⟨Tryz.f269.name,by decide,Tryz.func269.trans (congrArg some (by kernel_rfl))⟩
 f37:=⟨Tryz.f270.name,by decide,Tryz.func270.trans (congrArg some (by kernel_rfl))⟩
 f38:=⟨Tryz.f271.name,by decide,Tryz.func271.trans (congrArg some (by kernel_rfl))⟩
 f39:=⟨Tryz.f272.name,by decide,Tryz.func272.trans (congrArg some (by kernel_rfl))⟩
 f41:=⟨Tryz.f284.name,by decide,Tryz.func284.trans (congrArg some (by kernel_rfl))⟩
 t0:=jd
 a0:=uw
 z0:=qc
 v0:=jT
 t3:=az
 a3:=ux
 z3:=qd
 v3:=jU
 t4:=oB
 a4:=Tryz.isAgg4
 z4:=Tryz.sizeOf4
 v4:=qI
 t5:=cM
 a5:=Tryz.isAgg5
 z5:=Tryz.sizeOf5
 v5:=Tryz.zeroValue5
 t9:=aD
 a9:=uy
 z9:=qe
 v9:=jV
 t26:=aF
 a26:=Tryz.isAgg55
 z26:=Tryz.sizeOf55
 v26:=Tryz.zeroValue55
 t27:=aF
 a27:=Tryz.isAgg55
 z27:=Tryz.sizeOf55
 v27:=Tryz.zeroValue55
 t29:=aD
 a29:=uy
 z29:=qe
 v29:=jV
 t32:=Tryz.underlying183
 a32:=Tryz.isAgg183
 z32:=Tryz.sizeOf183
 v32:=Tryz.zeroValue183
 t35:=Tryz.underlying266
 a35:=Tryz.isAgg266
 z35:=Tryz.sizeOf266
 v35:=Tryz.zeroValue266
 t36:=Tryz.underlying267
 a36:=Tryz.isAgg267
 z36:=Tryz.sizeOf267
 v36:=Tryz.zeroValue267
 t41:=Tryz.underlying121
 a41:=Tryz.isAgg121
 z41:=Tryz.sizeOf121
 v41:=Tryz.zeroValue121
 t44:=Tryz.underlying273
 a44:=Tryz.isAgg273
 z44:=Tryz.sizeOf273
 v44:=Tryz.zeroValue273
 t46:=Tryz.underlying165
 a46:=Tryz.isAgg165
 z46:=Tryz.sizeOf165
 v46:=Tryz.zeroValue165
 t53:=Tryz.underlying295
 a53:=Tryz.isAgg295
 z53:=Tryz.sizeOf295
 v53:=Tryz.zeroValue295
 t57:=Tryz.underlying299
 a57:=Tryz.isAgg299
 z57:=Tryz.sizeOf299
 v57:=Tryz.zeroValue299
 t63:=Tryz.underlying327
 a63:=Tryz.isAgg327
 z63:=Tryz.sizeOf327
 v63:=Tryz.zeroValue327
 t64:=Tryz.underlying305
 a64:=Tryz.isAgg305
 z64:=Tryz.sizeOf305
 v64:=Tryz.zeroValue305}
end Go.Proofs
namespace Go.K
open Go.Proofs
set_option maxRecDepth 10000
open Go.RowKit Go.Maps Go.Sort Go.Shelf
theorem O4 (m:Nat):AnyZI.SortsIn Tryz.prog Tryz.tA Fence.wide m:=
 ⟨fun jC off cap ss W hH hblk kd=>callsIn_wide.2 (AnyM.slices_Sort_int Tryz.Mv jC off cap ss W hH hblk kd),
  fun p cap W=>callsIn_wide.2 (AnyM.slices_Sort_int_none Tryz.Mv p cap W)⟩
theorem KX {R:Value→Option (DU×List MemPlace)} {M:aL} {w:World} {b bb:Nat} {m:List (Lit×DU)} (h:Ob Tryz.prog 3 R M w b m) (LX:w.cell? ⟨bb,0,none⟩=some (.map (some b))) (hl:m.length≤1099511627776):
  Spec Tryz.prog 61 #[.func (.func 114) #[] #[.pointer (some ⟨bb,0,none⟩)]] w (fun v w'=>(∃ss:List Int,ss.Perm (intKeys (DataW.map m))∧w'.ownsRow w.heap.size 3 1 v ss.length ((ss.mergeSort (fun x y=>decide (x≤y))).map encZ)∧(v= .slice none 0 0↔ss=[]))∧Step M w M w' aE):=by
 have O5:SeqGives Fence.wide 2 Tryz.prog 114 #[.pointer (some ⟨bb,0,none⟩)] encZ (fun ss=>ss.Perm (intKeys (DataW.map m))) (Maps.size (DataW.map m)) w:=
  AnyZI.keys_gives (ρ:=Tryz.yh) {Tryz.TU with} Fence.wide _ trivial rfl (by omega) bb b m.length (DataW.map m) _ (World.block_lt_of_cell? w _ LX) LX h.own
 have kd:Maps.size (DataW.map m)=m.length:=rfl;have cS:=AnyZI.sorted_in Tryz.KV Fence.wide 5 trivial trivial trivial trivial rfl (by omega) (O4 _) (enters_of Tryz.func113 (by kernel_rfl) rfl) 114 #[.pointer (some ⟨bb,0,none⟩)] trivial (enters_of Tryz.func114 (by kernel_rfl) rfl) _ _ (by rw[kd];unfold maxLen;omega) (by rw[kd];omega) _ O5;exact(callsIn_wide (n:=5)).1 (cS.mono fun e w' ⟨v,ss,h1,h2,h3,h4,h5⟩=>⟨v,h1,⟨ss,h2,h3,h4⟩,.uW h5 M⟩)
theorem O6 (m:Nat):AnyZ.SortsIn Tryz.prog Tryz.tB Fence.wide m:=
 ⟨fun jC off cap ss W hH hblk kd=>callsIn_wide.2 (AnyM.slices_Sort_string Tryz.Mw jC off cap ss W hH hblk kd),
  fun p cap W=>callsIn_wide.2 (AnyM.slices_Sort_string_none Tryz.Mw p cap W)⟩
theorem CY (mb:Option Nat) (w:World):Spec Tryz.prog 112 #[.map mb] w (fun v w'=>v= .func (.func 164) #[] #[.pointer (some ⟨w.heap.size,0,none⟩)]∧w'=w.alloc (.cells #[.map mb] 167)):=
 (callsIn_wide (n:=5)).1 ((AnyZ.keys_in Tryz.Ed Fence.wide 5 trivial rfl mb w).mono fun e w' ⟨h1,h2⟩=>⟨_,h1,rfl,h2⟩)
theorem zu {R:Value→Option (DU×List MemPlace)} {M:aL} {w:World} {b bb:Nat} {m:List (Lit×DU)} (h:Ob Tryz.prog 9 R M w b m) (LX:w.cell? ⟨bb,0,none⟩=some (.map (some b))) (hl:m.length≤1099511627776):
  Spec Tryz.prog 111 #[.func (.func 164) #[] #[.pointer (some ⟨bb,0,none⟩)]] w (fun v w'=>(∃ss:List (List UInt8),ss.Perm (strKeys (DataW.map m))∧w'.ownsRow w.heap.size 9 1 v ss.length ((ss.mergeSort (fun x y=>decide (x≤y))).map encStr)∧(v= .slice none 0 0↔ss=[]))∧Step M w M w' aE):=by
 have O5:SeqGives Fence.wide 2 Tryz.prog 164 #[.pointer (some ⟨bb,0,none⟩)] encStr (fun ss=>ss.Perm (strKeys (DataW.map m))) (Maps.size (DataW.map m)) w:=
  AnyZ.keys_gives (ρ:=Tryz.yi) {Tryz.Ed with} Fence.wide _ trivial rfl (by omega) bb b m.length (DataW.map m) _ (World.block_lt_of_cell? w _ LX) LX h.own
 have kd:Maps.size (DataW.map m)=m.length:=rfl;have cS:=AnyZ.sorted_in Tryz.KW Fence.wide 5 trivial trivial trivial trivial rfl (by omega) (O6 _) (enters_of Tryz.func163 (by kernel_rfl) rfl) 164 #[.pointer (some ⟨bb,0,none⟩)] trivial (enters_of Tryz.func164 (by kernel_rfl) rfl) _ _ (by rw[kd];unfold maxLen;omega) (by rw[kd];omega) _ O5;exact(callsIn_wide (n:=5)).1 (cS.mono fun e w' ⟨v,ss,h1,h2,h3,h4,h5⟩=>⟨v,h1,⟨ss,h2,h3,h4⟩,.uW h5 M⟩)
theorem xz {w w':World} {v:Value} {t:TypeId} (h:w'=w.alloc (.cells #[v] t)):w'.cell? ⟨w.heap.size,0,none⟩=some v:=by
 subst h;exact iJ (cJ w _) rfl
end Go.K
namespace Go.K
open Go.Proofs
set_option maxRecDepth 10000
theorem KY {M:aL} {w0:World} {v:Value} {b:List Fd} (hM:Lt M w0) (hv:(RT.fd.sl).V M w0 b v) (xk:b.length≤1099511627776):
  Spec Tryz.prog 199 #[v] w0 (fun v' w'=>(RT.fd.sl).V M w' b v'∧Step M w0 M w' aE):=by
 obtain⟨a,cap,mM,hc,hl,hs⟩:=ix.1 hv;refine bu (args:=[_]) (fn:=Tryz.f199) Tryz.func199 rfl (n:=8) Tryz.ntmps199 (al (aj (ak rfl rfl (ae (al (al (aj (ah rfl rfl (bO (v':= .slice a b.length cap) mM (Rg.qS aS rfl rfl rfl (ae ?_)))))))))));refine bQ rfl (fun c1=>?_) (fun c1=>?_)
 ·refine al (aj (ak rfl rfl (ae (aQ ?_))))
  have hb:b=[]:=by
   rcases hs with h|⟨_,_,h,_⟩
   ·exact h
   ·rw[c1]at h;cases h
  exact aV rfl rfl ⟨by rw[hb];exact iO,ar _ _⟩
 ·refine aZ (al (aj ?_));refine Rg.Rw aS iK M rfl (fun a0 w1 s1=>?_);refine ah rfl rfl ?_;refine Rg.mF (A:=RT.fd) (hn:=by decide) (M:=M) aS iK rfl rfl rfl rfl hv s1.le (s1.lt hM) (by omega) (fun u2 w2 jP s2=>?_);refine ak rfl rfl (ae (aQ ?_));exact aV rfl rfl ⟨jP,s1.aB s2⟩
theorem oZ {M:aL} {w0:World} {v:Value} {b:List Int} (hM:Lt M w0) (hv:((RT.int .i64).sl).V M w0 b v) (xk:b.length≤1099511627776):
  Spec Tryz.prog 63 #[v] w0 (fun v' w'=>((RT.int .i64).sl).V M w' b v'∧Step M w0 M w' aE):=by
 obtain⟨a,cap,mM,hc,hl,hs⟩:=ix.1 hv;refine bu (args:=[_]) (fn:=Tryz.f63) Tryz.func63 rfl (n:=8) Tryz.ntmps63 (al (aj (ak rfl rfl (ae (al (al (aj (ah rfl rfl (bO (v':= .slice a b.length cap) mM (Rg.qS ax rfl rfl rfl (ae ?_)))))))))));refine bQ rfl (fun c1=>?_) (fun c1=>?_)
 ·refine al (aj (ak rfl rfl (ae (aQ ?_))))
  have hb:b=[]:=by
   rcases hs with h|⟨_,_,h,_⟩
   ·exact h
   ·rw[c1]at h;cases h
  exact aV rfl rfl ⟨by rw[hb];exact iO,ar _ _⟩
 ·refine aZ (al (aj ?_));refine Rg.Rw ax I3 M rfl (fun a0 w1 s1=>?_);refine ah rfl rfl ?_;refine Rg.mF (A:=(RT.int .i64)) (hn:=by decide) (M:=M) ax I3 rfl rfl rfl rfl hv s1.le (s1.lt hM) (by omega) (fun u2 w2 jP s2=>?_);refine ak rfl rfl (ae (aQ ?_));exact aV rfl rfl ⟨jP,s1.aB s2⟩
theorem H5 {M:aL} {w0:World} {v:Value} {b:List (List UInt8)} (hM:Lt M w0) (hv:(RT.str.sl).V M w0 b v) (xk:b.length≤1099511627776):
  Spec Tryz.prog 177 #[v] w0 (fun v' w'=>(RT.str.sl).V M w' b v'∧Step M w0 M w' aE):=by
 obtain⟨a,cap,mM,hc,hl,hs⟩:=ix.1 hv;refine bu (args:=[_]) (fn:=Tryz.f177) Tryz.func177 rfl (n:=8) Tryz.ntmps177 (al (aj (ak rfl rfl (ae (al (al (aj (ah rfl rfl (bO (v':= .slice a b.length cap) mM (Rg.qS aF rfl rfl rfl (ae ?_)))))))))));refine bQ rfl (fun c1=>?_) (fun c1=>?_)
 ·refine al (aj (ak rfl rfl (ae (aQ ?_))))
  have hb:b=[]:=by
   rcases hs with h|⟨_,_,h,_⟩
   ·exact h
   ·rw[c1]at h;cases h
  exact aV rfl rfl ⟨by rw[hb];exact iO,ar _ _⟩
 ·refine aZ (al (aj ?_));refine Rg.Rw aF I9 M rfl (fun a0 w1 s1=>?_);refine ah rfl rfl ?_;refine Rg.mF (A:=RT.str) (hn:=by decide) (M:=M) aF I9 rfl rfl rfl rfl hv s1.le (s1.lt hM) (by omega) (fun u2 w2 jP s2=>?_);refine ak rfl rfl (ae (aQ ?_));exact aV rfl rfl ⟨jP,s1.aB s2⟩
theorem KZ {M:aL} {w0:World} {v:Value} {b:List Li} (hM:Lt M w0) (hv:(((RT.li).ptr).sl).V M w0 b v) (xk:b.length≤1099511627776):
  Spec Tryz.prog 178 #[v] w0 (fun v' w'=>(((RT.li).ptr).sl).V M w' b v'∧Step M w0 M w' aE):=by
 obtain⟨a,cap,mM,hc,hl,hs⟩:=ix.1 hv;refine bu (args:=[_]) (fn:=Tryz.f178) Tryz.func178 rfl (n:=8) Tryz.ntmps178 (al (aj (ak rfl rfl (ae (al (al (aj (ah rfl rfl (bO (v':= .slice a b.length cap) mM (Rg.qS dV rfl rfl rfl (ae ?_)))))))))));refine bQ rfl (fun c1=>?_) (fun c1=>?_)
 ·refine al (aj (ak rfl rfl (ae (aQ ?_))))
  have hb:b=[]:=by
   rcases hs with h|⟨_,_,h,_⟩
   ·exact h
   ·rw[c1]at h;cases h
  exact aV rfl rfl ⟨by rw[hb];exact iO,ar _ _⟩
 ·refine aZ (al (aj ?_));refine Rg.Rw dV pH M rfl (fun a0 w1 s1=>?_);refine ah rfl rfl ?_;refine Rg.mF (A:=((RT.li).ptr)) (hn:=by decide) (M:=M) dV pH rfl rfl rfl rfl hv s1.le (s1.lt hM) (by omega) (fun u2 w2 jP s2=>?_);refine ak rfl rfl (ae (aQ ?_));exact aV rfl rfl ⟨jP,s1.aB s2⟩
theorem Bu {M:aL} {d:Dc} {v0:Value} (w0:World) (hM:Lt M w0) (hv:RT.dc.V M w0 d v0) (hl:d.2.length≤1099511627776):
  Spec Tryz.prog 160 #[v0] w0 (fun v w=>RT.dc.V M w d v∧Step M w0 M w aE):=by
 have gB:=hM;refine bu (args:=[_]) (fn:=Tryz.f160) Tryz.func160 rfl (n:=9) Tryz.ntmps160 ?_;have S:Step M w0 M w0 aE:=(ar _ _).cw (fun _ h=>h.elim) (fun _ h=>h.elim);refine al (aj ?_);refine iw (A:=RT.dc) rfl rfl hM hv rfl (fun u0 w1 cV s0 _=>?_);replace hM:=s0.lt hM;have:=S.size;replace S:=S.aB s0;refine eG M kQ rfl (fun lJ zj KF KG eX kx=>?_);obtain⟨ef,jM⟩:∃M',M'=ins M lJ:=⟨_,rfl⟩;rw[←jM]at kx;have ep:ef lJ:=by rw[jM];exact .inl rfl
 change zj.heap[lJ]? =some (.cells #[.int .i64 0,.slice none 0 0] _ _)at eX;replace cV:=cV.le (by decide) kx.le;replace hM:=kx.lt hM;have:=S.size;replace S:=S.aB kx;refine ae (al ?_);apply qf 4 [0,1] 1 aE mixed rfl rfl rfl rfl;intro zU Ky;have kz:=Ky ef;have:=an eX;replace ep:=(kz.mem _ this).2 ep;replace eX:=kz.aM eX;replace cV:=cV.le (by decide) kz.le;replace hM:=kz.lt hM;have:=S.size;replace S:=S.aB kz;refine ay (M:=ef) (A:=RT.dc) (B:=RT.int .i64) aO rfl rfl I3 (by decide) (QP) rfl rfl (by decide) (by assumption) (by repeat (first|exact ao _ _|refine aU (br (by assumption)) ?_)) (fun tU jw=>?_);refine ae ⟨rfl,rfl,rfl,?_⟩;refine cr (M:=ef) az rfl rfl (by assumption) (by repeat (first|exact ao _ _|refine aU (br (by assumption)) ?_)) (fun Ml=>?_);refine ae ⟨rfl,rfl,rfl,?_⟩;refine ay (M:=ef) (A:=RT.dc) (B:=(RT.fd).sl) aO rfl rfl pG (by decide) (zf) rfl rfl (by decide) (by assumption) (by repeat (first|exact ao _ _|refine aU (br (by assumption)) ?_)) (fun AF l6=>?_);refine ae ⟨rfl,rfl,rfl,?_⟩;refine bg (M:=ef) aS rfl rfl rfl rfl rfl (by assumption) (by repeat (first|exact ao _ _|refine aU (br (by assumption)) ?_)) (fun GQ uT=>?_);refine ae ⟨rfl,rfl,rfl,?_⟩;refine dU ?_;obtain⟨bb,oo,cs,ee,fr,rfl,ku,_⟩:=jw.float;refine⟨ew ⟨fj aO rfl I3 (by decide),⟨dC rfl ku (fun h=>h),trivial⟩⟩,?_⟩;have kp:=eU aE zU;refine aP rfl rfl X1 (KY hM uT hl) (fun v4 w4 hc=>?_);obtain⟨nX,s4⟩:=hc;have:=an eX;replace ep:=(s4.mem _ this).2 ep;replace eX:=s4.aM eX;replace cV:=cV.le (by decide) s4.le;replace hM:=s4.lt hM;have:=S.size;replace S:=S.aB s4;refine(fun(kp:dX _ _ _)=>ae ⟨rfl,rfl,fun _=>kp,?_⟩) (by first|exact kp|exact kp.mZ (by assumption)|exact kp.goN (by assumption)|exact kp.go (by assumption) (fun _ _ h=>by first|exact h|exact h.elim))
 refine eT (places:=[(0,1),(1,1)]) aO kQ Rx rfl ⟨_,_,rfl,rfl,_,_,rfl,rfl,rfl⟩ (out:=[_,_]) ⟨0,[_],rfl,rfl,by simp[Value.cells],1,[_],rfl,fM nX,by simp[Value.cells],rfl⟩ ?_;refine ae ⟨rfl,rfl,fun h=>absurd rfl h,?_⟩;have hd:RT.dc.V ef w4 d (.agg [.int .i64 d.1,v4].toArray):=eC (gC Ml) nX rfl rfl rfl rfl;refine eD (M:=ef) (vs:=[.int .i64 d.1,v4]) kQ rfl rfl (CX rfl hd) rfl rfl eX ep (fun w6 g6 s6=>?_);have:=an eX;replace ep:=(s6.mem _ this).2 ep;replace cV:=cV.le (by decide) s6.le;replace nX:=nX.le s6.le;replace hd:=hd.le s6.le;replace hM:=s6.lt hM;have:=S.size;replace S:=S.trans s6 (fun k hk h=>by have h:_=_:=h;subst h;first|(exfalso;omega)|(show _≤_;omega)|exact⟨by first|omega|assumption,(S.mem _ hk).1 ((s6.mem _ (an eX)).1 ep)⟩|exact .inl rfl|exact .inr rfl|exact .inr (.inl rfl)|exact .inr (.inr rfl)|exact rfl);have tC:=g6;clear eX;have eX:=tC;clear tC;refine ae ⟨rfl,rfl,fun h=>absurd rfl h,?_⟩;refine gY (aQ ?_);exact su (vs:=[.int .i64 d.1,v4]) rfl rfl aO rfl kQ rfl eX ⟨hd.le (pD gB S),S.back⟩
theorem H6 {M:aL} {e:En} {v0:Value} (w0:World) (hM:Lt M w0) (hv:RT.en.V M w0 e v0) (hl:e.1.2.length≤1099511627776):
  Spec Tryz.prog 109 #[v0] w0 (fun v w=>RT.en.V M w e v∧Step M w0 M w aE):=by
 have gB:=hM;refine bu (args:=[_]) (fn:=Tryz.f109) Tryz.func109 rfl (n:=9) Tryz.ntmps109 ?_;have S:Step M w0 M w0 aE:=(ar _ _).cw (fun _ h=>h.elim) (fun _ h=>h.elim);refine al (aj ?_);refine iw (A:=RT.en) rfl rfl hM hv rfl (fun u0 w1 cV s0 _=>?_);replace hM:=s0.lt hM;have:=S.size;replace S:=S.aB s0;refine eG M xh rfl (fun lJ zj KF KG eX kx=>?_);obtain⟨ef,jM⟩:∃M',M'=ins M lJ:=⟨_,rfl⟩;rw[←jM]at kx;have ep:ef lJ:=by rw[jM];exact .inl rfl
 change zj.heap[lJ]? =some (.cells #[.int .i64 0,.slice none 0 0,.int .i64 0] _ _)at eX;replace cV:=cV.le (by decide) kx.le;replace hM:=kx.lt hM;have:=S.size;replace S:=S.aB kx;refine ae (al ?_);apply T.xU [0,1,3,4,2,5,6] 4 [2,3] 1 aE mixed
 ·simp+decide only[uN,pI,fo,qg,im,iq,jW,dx,ia,kL,cond_true,cond_false,Nat.reduceBEq,Nat.reduceAdd,beq_self_eq_true];rfl
 ·rfl
 ·rfl
 ·rfl
 ·rfl
 ·rfl
 ·rfl
 intro zU Ky;have kz:=Ky ef;have:=an eX;replace ep:=(kz.mem _ this).2 ep;replace eX:=kz.aM eX;replace cV:=cV.le (by decide) kz.le;replace hM:=kz.lt hM;have:=S.size;replace S:=S.aB kz;refine ay (M:=ef) (A:=RT.en) (B:=RT.dc) cP rfl rfl kQ (by decide) KB rfl rfl (by decide) cV (ao _ _) (fun tU jw=>?_);refine ae ⟨rfl,rfl,rfl,?_⟩;refine ch (M:=ef) (A:=RT.dc) aO rfl kQ (by decide) rfl rfl rfl jw (ao _ _) (fun xq l8=>?_);refine ae ⟨rfl,rfl,rfl,?_⟩;refine ay (M:=ef) (A:=RT.en) (B:=RT.int .i64) cP rfl rfl I3 (by decide) Ti rfl rfl (by decide) cV (ao _ _) (fun AF l6=>?_);refine ae ⟨rfl,rfl,rfl,?_⟩;refine cr (M:=ef) az rfl rfl (by assumption) (by repeat (first|exact ao _ _|refine aU (br (by assumption)) ?_)) (fun H7=>?_);refine bO (v':= .int .i64 (e.2)) rfl ?_;replace H7: -9223372036854775808≤(e.2:Int)∧e.2≤9223372036854775807:=H7;refine ae ⟨rfl,rfl,rfl,?_⟩;refine dU ?_;obtain⟨bb,oo,cs,ee,fr,rfl,ku,_⟩:=l6.float;refine⟨ew ⟨fj cP rfl I3 (by decide),⟨dC rfl ku (fun h=>h),trivial⟩⟩,?_⟩;have kp:=eU aE zU;refine aP rfl rfl XP (Bu _ hM l8 hl) (fun v4 w4 hc=>?_);obtain⟨nX,s4⟩:=hc;obtain⟨uf,rfl⟩:=Ho nX;have:=an eX;replace ep:=(s4.mem _ this).2 ep;replace eX:=s4.aM eX;replace cV:=cV.le (by decide) s4.le;replace hM:=s4.lt hM;have:=S.size;replace S:=S.aB s4;refine(fun(kp:dX _ _ _)=>ae ⟨rfl,rfl,fun _=>kp,?_⟩) (by first|exact kp|exact kp.mZ (by assumption)|exact kp.goN (by assumption)|exact kp.go (by assumption) (fun _ _ h=>by first|exact h|exact h.elim));refine eT (places:=[(0,2),(2,1)]) cP xh XF rfl ⟨_,_,rfl,rfl,_,_,rfl,rfl,rfl⟩ (out:=[_,_,_]) ⟨0,[_,_],rfl,rfl,by simp[Value.cells],2,[_],rfl,rfl,by simp[Value.cells],rfl⟩ ?_
 refine ae ⟨rfl,rfl,fun h=>absurd rfl h,?_⟩;have hd:RT.en.V ef w4 e (.agg [.int .i64 e.1.1,uf,.int .i64 e.2].toArray):=Hp (p:=e.1) nX H7;refine eD (M:=ef) (vs:=[.int .i64 e.1.1,uf,.int .i64 e.2]) xh rfl rfl (CX rfl hd) rfl rfl eX ep (fun w6 g6 s6=>?_);have:=an eX;replace ep:=(s6.mem _ this).2 ep;replace cV:=cV.le (by decide) s6.le;replace nX:=nX.le s6.le;replace hd:=hd.le s6.le;replace hM:=s6.lt hM;have:=S.size;replace S:=S.trans s6 (fun k hk h=>by have h:_=_:=h;subst h;first|(exfalso;omega)|(show _≤_;omega)|exact⟨by first|omega|assumption,(S.mem _ hk).1 ((s6.mem _ (an eX)).1 ep)⟩|exact .inl rfl|exact .inr rfl|exact .inr (.inl rfl)|exact .inr (.inr rfl)|exact rfl);have tC:=g6;clear eX;have eX:=tC;clear tC;refine ae ⟨rfl,rfl,fun h=>absurd rfl h,?_⟩;refine gY (aQ ?_);exact su (vs:=[.int .i64 e.1.1,uf,.int .i64 e.2]) rfl rfl cP rfl xh rfl eX ⟨hd.le (pD gB S),S.back⟩
end Go.K
namespace Go.K
open Go.Proofs
namespace TKBldB
theorem TV:TI Tryz.prog 227 (.map none) 1 8:=by unfold TI;kernel_rfl
theorem ZW:Enters Tryz.prog 155:=enters Tryz.func155 rfl (by decide)
theorem ZX:Enters Tryz.prog 156:=enters Tryz.func156 rfl (by decide)
theorem ZY:Enters Tryz.prog 157:=enters Tryz.func157 rfl (by decide)
end TKBldB
open TKBldB
set_option maxRecDepth 10000
theorem IJ.a8 {bt mb B:Nat} {ts:List (Fd×Nat)} {M M':aL} {w w':World} (h:IJ bt mb B ts M w) (s:Step M w M' w' aE):IJ bt mb B ts M' w':=by
 obtain⟨gb,dY,eO,hB,D7,es,clock,hW,hI⟩:=h;exact⟨s.aM gb,(s.mem _ (an gb)).2 dY,(s.mem _ (an hW.at_)).2 eO,hB,D7,es,clock,hW.a8 s,hI.a8 s⟩
theorem H8 {bt mb B:Nat}:OQ Tryz.prog 155 [.pointer (some ⟨bt,0,none⟩)] B (IJ bt mb B):=
 ⟨ZW,fun ts M w M' w' h s=>h.a8 s,fun ts M w t i hJ hM h1 h2 hi h4=>Fc w hM h1 h2 hi h4 hJ⟩
theorem H9 (M:aL) (w:World) (B:Nat):Fb M w B [] [] where
 o t v hv:=by
  rcases hv with⟨e,he,_⟩|⟨_,rfl⟩
  ·cases he
  ·exact dQ _ _ _ _ _
 a t t' v v' _ hv _:=by
  rcases hv with⟨e,he,_⟩|⟨_,rfl⟩
  ·cases he
  ·exact(iP.nil v').symm
 k:=rfl
theorem Bv:∀(ts:List (Fd×Nat)) (l:List Fd),(ts.foldl (fun l p=>if p.1∈l then l else l++[p.1]) l).length≤l.length+ts.length
 |[],l=>by simp
 |p::ts,l=>by
  rw[List.foldl_cons,dr];refine dT (Bv ts _) ?_
  split
  ·omega
  ·rw[bM];simp;omega
theorem K0 (M:aL) (w:World) (M':aL) (w':World) (x:Fd) (vs:List Value) (h:RT.fd.R M w x vs):RT.fd.R M' w' x vs:=h
theorem Bw {M:aL} {d:Dc} {v0:Value} (w0:World) (hM:Lt M w0) (hv:RT.dc.V M w0 d v0) (hF:ie d) (hl:∀f∈d.2,f.1.length≤900000∧f.2.length≤900000):
  Spec Tryz.prog 108 #[v0] w0 (fun v w=>∃a b,v= .tuple #[a,b]∧(RT.fd.sl).V M w (cq (bX d.2)) a∧(((RT.int .i64).sl).sl).V M w ((cq (bX d.2)).map (posOf (bX d.2))) b∧Step M w0 M w aE):=by
 have gB:=hM;have LZ:=hF.many;refine bu (args:=[_]) (fn:=Tryz.f108) Tryz.func108 rfl (n:=31) Tryz.ntmps108 ?_;have S:Step M w0 M w0 aE:=(ar _ _).cw (fun _ h=>h.elim) (fun _ h=>h.elim);refine al (aj ?_);refine iw (A:=RT.dc) rfl rfl hM hv rfl (fun u0 w1 cV s0 _=>?_);replace hM:=s0.lt hM;have:=S.size;replace S:=S.aB s0;refine ak rfl rfl (ak rfl rfl (ae (al (aj ?_))));refine Rg.Be M k7 rfl (fun mb w1m p1 q1 gW s1=>?_);obtain⟨O7,Ia⟩:∃M',M'=ins M mb:=⟨_,rfl⟩;rw[←Ia]at s1;have zw:O7 mb:=by rw[Ia];exact .inl rfl
 replace cV:=cV.le (by decide) s1.le;replace hM:=s1.lt hM;have:=S.size;replace S:=S.aB s1;refine eG O7 TV rfl (fun Fm E8 aiN aiO sK ot=>?_);obtain⟨Ib,Ic⟩:∃M',M'=ins O7 Fm:=⟨_,rfl⟩;rw[←Ic]at ot;have vY:Ib Fm:=by rw[Ic];exact .inl rfl
 change E8.heap[Fm]? =some (.cells #[.map none] _ _)at sK;replace cV:=cV.le (by decide) ot.le;replace zw:=(ot.mem _ (an gW.at_)).2 zw;replace gW:=gW.a8 ot;replace hM:=ot.lt hM;have:=S.size;replace S:=S.aB ot;refine ck (M:=Ib) TV rfl rfl sK rfl (rfl) vY (fun KK ib om=>?_)
 try simp only[List.setIfInBounds_toArray,List.set_cons_zero,List.set_cons_succ]at ib
 have:=an sK;replace vY:=(om.mem _ this).2 vY;replace cV:=cV.le (by decide) om.le;replace zw:=(om.mem _ (an gW.at_)).2 zw;replace gW:=gW.step om (by show¬(_=_);omega);replace hM:=om.lt hM;have:=S.size;replace S:=S.trans om (fun k hk h=>by have h:_=_:=h;subst h;first|(exfalso;omega)|(show _≤_;omega)|exact⟨by first|omega|assumption,(S.mem _ hk).1 ((om.mem _ (an sK)).1 vY)⟩|exact .inl rfl|exact .inr rfl|exact .inr (.inl rfl)|exact .inr (.inr rfl)|exact rfl);have Mx:=ib;clear sK;have sK:=Mx;clear Mx;refine ae (al (aj ?_));refine ch (M:=Ib) (A:=RT.dc) aO rfl kQ (by decide) rfl rfl rfl (by assumption) (by repeat (first|exact ao _ _|refine aU (br (by assumption)) ?_)) (fun aiP TW=>?_);refine jF (xs:=[]) (ys:=[.tmp 4]) rfl rfl rfl ?_;refine aP rfl rfl RC (yc (cap:=[.pointer (some ⟨Fm,0,none⟩)]) (B:=w0.heap.size) _ hM TW hl hF.few (H8 (mb:=mb)) ⟨sK,vY,zw,by omega,by omega,[],0,gW,H9 _ _ _⟩) (fun r2 w2 hc=>?_);obtain⟨M2,Ou,⟨gb,_,_,_,_,es,clock,hW,hI⟩,s2⟩:=hc;replace S:=S.k9 s2 (aT _);have ou:∀t v,eg j5 es (kv t) v→(((RT.int .i64).sl)).V M w2 (posOf (bX d.2) t) v:=fun t v h=>(hI.o t v h).close gB S (by have:=sL (bX d.2) t;omega)
 replace S:=S.back;replace hM:=S.lt gB
 have TX:∀e∈es,∃t∈seen (bX d.2),e.key=kv t:=fun e he=>by
  have:e.key∈(seen (bX d.2)).map kv:=by rw[←hI.k];exact eZ he
  obtain⟨t,h1,h2⟩:=cg.1 this;exact⟨t,h1,h2.symm⟩
 have yG:∀t∈seen (bX d.2),Fg t∧t.1.length≤12∧t.2.length≤30:=fun t ht=>by
  obtain⟨p,hp,rfl⟩:=cg.1 (ru.1 ht);exact⟨hF.Fj p hp,hF.small p hp⟩
 have pF:(seen (bX d.2)).length≤500:=dT (Bv _ _) (by simp;omega);have Et:es.length≤500:=by have:=congrArg List.length hI.k;simp at this;omega
 refine ae (al (aj (aX k7 rfl rfl rfl gb rfl ?_)));refine aP rfl rfl ZY (CS _) (fun r3 w3 hc=>?_);obtain⟨bs,rfl,OT,_,s3⟩:=hc;replace s3:=s3.toAny M;replace hW:=hW.a8 s3;replace gb:=s3.aM gb;replace ou:=fun t v h=>(ou t v h).le s3.le
 replace hM:=s3.lt hM;have:=S.size;replace S:=S.aB s3
 refine aP rfl rfl ZX (Bm _ (fun e he=>by
  obtain⟨t,h1,h2⟩:=TX e he;exact⟨t,h2,by have:=(yG t h1).2;omega,by have:=(yG t h1).2;omega⟩) (fun e he t ht=>by
  obtain⟨t',h1,h2⟩:=TX e he;obtain rfl:=sJ (ht.symm.trans h2);exact⟨(yG _ h1).1,by have:=(yG _ h1).2;omega,by have:=(yG _ h1).2;omega⟩) (by omega) (fun ts pE nV=>by
  have:=pE.length_le_of_subset (l₂:=seen (bX d.2)) (fun t ht=>(rq hI.k).1 (nV t ht));omega) OT hW) (fun r4 w4 hc=>?_)
 obtain⟨us,pE,nV,JT,TO,s4⟩:=hc;obtain rfl:=Bp hF.Fj pE (fun t=>(nV t).trans (rq hI.k)) JT;have TN:(cq (bX d.2)).length≤500:=dT (pE.length_le_of_subset (l₂:=seen (bX d.2)) (fun t ht=>ru.2 ((iN hF.Fj).1 ht))) pF;replace s4:=s4.toAny M;have zM:(RT.fd.sl).V M w4 (cq (bX d.2)) r4:=TO.tell K0 (fun b hb h=>by have:=(TO.base b hb).1;have:=hM b h;omega) (by omega);clear TO;replace hW:=hW.a8 s4;replace gb:=s4.aM gb;replace ou:=fun t v h=>(ou t v h).le s4.le
 replace hM:=s4.lt hM;have:=S.size;replace S:=S.aB s4;refine ak rfl rfl (ae (al (aj (ak rfl rfl (ae (al (al (aj (ah rfl rfl (bK bR rfl zM rfl (ah rfl rfl ?_)))))))))));refine ae (bh ?_);refine dz (σ:=Nat×Value) (fun q=>[(4,.pointer (some ⟨Fm,0,none⟩)),(5,r4),(6,q.2),(16,r4),(17,.int .i64 ((cq (bX d.2)).length:Int)),(18,.int .i64 (q.1:Int))]) (fun q w=>∃M',Lt M' w∧Step M w0 M' w aE∧Own ((RT.int .i64).sl) 32 M' w w0.heap.size q.2 (((cq (bX d.2)).take q.1).map (posOf (bX d.2)))∧(RT.fd.sl).V M' w (cq (bX d.2)) r4∧fe Tryz.prog 47 w mb es clock∧w.heap[Fm]? =some (.cells #[.map (some mb)] 227 (0,0))∧(∀t v,eg j5 es (kv t) v→(((RT.int .i64).sl)).V M' w (posOf (bX d.2) t) v)∧q.1≤(cq (bX d.2)).length) (fun q=>(cq (bX d.2)).length-q.1) (0,.slice none 0 0) (.cons rfl (.cons rfl (.cons rfl (.cons rfl (.cons rfl (.cons rfl .nil)))))) ?_ ?_
 ·exact⟨M,hM,S,dQ _ _ _ _ _,zM,hW,gb,ou,bH _⟩
 ·clear hM zM hW gb ou S;rintro⟨i,u⟩ w ⟨M1,hM,S,ho,zM,hW,gb,ou,hi⟩;dsimp only at ho hi ⊢;refine al (aj (cz rfl rfl rfl (ae (al ?_))));refine bQ rfl (fun c6=>?_) (fun c6=>?_)
  ·refine aZ (al (bh (al (aj ?_))));refine cu (M:=M1) bR jr rfl rfl rfl zM (ao _ _) (by omega) (fun To t ZZ D0=>?_);rw[aC]at ZZ;have JY:=aG ZZ;have Cl:=yG t (ru.2 ((iN hF.Fj).1 JY));refine ch (M:=M1) (A:=RT.fd) bw rfl jr (by decide) rfl rfl rfl D0 (ao _ _) (fun Zo Mg=>?_);refine ug (A:=RT.fd) (M:=M1) jr rfl rfl rfl rfl rfl (by assumption) (ao _ _) hM (fun NP Z0 nT sO aiQ=>?_);replace zM:=zM.le sO.le;replace ho:=ho.a8 sO;replace hW:=hW.a8 sO;replace gb:=sO.aM gb;replace ou:=fun t v h=>(ou t v h).le sO.le
   replace hM:=sO.lt hM;have:=S.size;replace S:=S.aB sO;refine ae (aj (ah rfl rfl (aX k7 rfl rfl rfl gb rfl ?_)));refine ch (M:=M1) (A:=RT.fd) bw rfl jr (by decide) rfl rfl rfl nT (ao _ _) (fun aiR TY=>?_);obtain rfl:=gN TY;obtain⟨kl,FP⟩:=HO t (by omega) (by omega);refine Rg.rn k7 yb jR rfl rfl rfl FP hW (fun v8 mM=>?_);have rK:=ou _ _ mM;clear mM;refine eA (A:=((RT.int .i64).sl)) (hn:=by decide) (M:=M1) Tryz.underlying171 jR (by decide) rfl rfl hM (rK) (.inr ⟨rfl,rfl⟩) (fun aiS aiT Ie Bx=>?_);replace zM:=zM.le Bx.le;replace nT:=nT.le (by decide) Bx.le;replace ho:=ho.a8 Bx;replace hW:=hW.a8 Bx;replace gb:=Bx.aM gb;replace ou:=fun t v h=>(ou t v h).le Bx.le
   replace hM:=Bx.lt hM;have:=S.size;replace S:=S.aB Bx;refine cv (M:=M1) (base:=w0.heap.size) Tryz.underlying171 jR rfl rfl rfl rfl ho Ie (ao _ _) (by simp;omega) (by simp;omega) (S.size) (fun Z1 Z2 aiU TZ By=>?_);replace zM:=zM.le By.le;replace nT:=nT.le (by decide) By.le;replace Ie:=Ie.le By.le;replace hW:=hW.step By (fun h=>ho.j6 hW.at_ h);replace gb:=By.bS gb (fun h=>ho.eW gb (by decide) h);replace ou:=fun t v h=>(ou t v h).le By.le
   replace hM:=By.lt hM;have:=S.size;replace S:=S.cF By ho (aT _);replace ho:=TZ;refine ak rfl rfl (ae (aj (bI rfl rfl rfl (by omega) (ah rfl rfl (ae ?_)))));refine⟨rfl,(i+1,Z1),(.cons rfl (.cons rfl (.cons rfl (.cons rfl (.cons rfl (.cons rfl .nil)))))),?_,?_⟩
   ·exact⟨Z2,hM,S,by rw[bP,ZZ,cn,dH];exact ho,zM,hW,gb,ou,by dsimp only;omega⟩
   ·dsimp only;omega
  ·refine cY (al (aj (ah rfl rfl (ah rfl rfl (ak rfl rfl (ak rfl rfl (ae (aQ ?_))))))));have e:(cq (bX d.2)).take i=cq (bX d.2):=a7 (by omega);rw[e]at ho;exact fa rfl rfl rfl ⟨_,_,rfl,zM.le (pD gB S),ho.close gB S (by simp;omega),S.back⟩
end Go.K
namespace Go.K
def My {α:Type} (A:RT α) (M:aL) (w:World) (v:Value) (x:α):Prop:=∃b o vs,v= .pointer (some ⟨b,o,none⟩)∧A.R M w x vs∧w.rangeAt b o vs
theorem Own.elem {α:Type} {A:RT α} {e:TypeId} {M:aL} {w:World} {base:Nat} {v:Value} {xs:List α} (h:Own A e M w base v xs) (hA:0<A.n) {i:Nat} {x:α} (hx:xs[i]? =some x):
  ∃g cap vs,v= .slice (some ⟨g,0,none⟩) xs.length cap∧M g∧A.R M w x vs∧w.rangeAt g (i*A.n) vs:=by
 obtain⟨⟨C,hr,ha⟩,hm⟩:=h;rcases hr.2 with⟨h1,h2⟩|⟨g,cap,cur,h1,h2,h3,h4,h5,h6,h7⟩
 ·have:xs=[]:=List.eq_nil_of_length_eq_zero h2;subst this;simp at hx
 ·obtain⟨vs,hv,hj⟩:=ha.at_ i x hx;refine⟨g,cap,vs,h1,hm g (by rw[h1];rfl),hv,fun j u hu=>?_⟩;have h8:=hj j u hu;rw[←h7,de]at h8
  split at h8
  ·simp only[World.cell?,h3];simpa using h8
  ·cases h8
section
variable {P:Program} {r:Option Nat} {n:Nat} {L:Sl} {ds:List Deferred} {w:World} {K:Kt} {ops:Array Oper} {rest:List Oper} {d:Nat} {x y:Operand} {ty:TypeId} {pos:String} {af:Array Edge} {α:Type} {A:RT α}
theorem Rg.Z3 {t e e':TypeId} {i:Operand} {κ:IntKind} {j:Int} {M:aL} {base:Nat} {xs:List α} {v zv:Value} {bytes:Nat} (ht:P.underlying t=some (.slice e)) (hi:TI P e zv A.n bytes) (hA:0<A.n)
  (hx:ev L x=some v) (Nn:ev L i=some (.int κ j)) (hd:Nat.blt d n=true) (ho:Own A e' M w base v xs) (hj:0≤j∧j<xs.length)
  (k:∀u a,xs[j.toNat]? =some a→My A M w u a→Rg P r n ops rest ((d,u)::L) ds w K):
  Rg P r n ops ({dst:=some d,op:= .indexAddr t x i,type:=ty,pos,after:=af,guard:=none}::rest) L ds w K:=by
 have dW:j.toNat<xs.length:=by omega
 obtain⟨g,cap,vs,rfl,hm,h1,h2⟩:=ho.elem hA (av dW);refine .op (fun _ h=>by cases h) rfl rfl hd (.pointer (some ⟨g,0+j.toNat*A.n,none⟩)) w (fun ρ h=>?_) (k _ xs[j.toNat] (av dW) ⟨g,_,vs,rfl,h1,by rw[Nat.zero_add];exact h2⟩);simp only[execOp,h x _ hx,h i _ Nn];simp[Instr.indexAt,run_underlying ht,asIntOf,hj,hi.sizeOf,Addr.add_mid]
theorem Rg.Ig {t:TypeId} {fs:TypeDesc} {zv:Value} {bytes:Nat} {M:aL} {p:Value} {a:α} (hu:P.underlying t=some fs) (hf:fs.isRow=true) (hi:TI P t zv A.n bytes) (hg:A.agg=true)
  (hx:ev L x=some p) (hd:Nat.blt d n=true) (hp:My A M w p a) (k:∀v,A.V M w a v→Rg P r n ops rest ((d,v)::L) ds w K):
  Rg P r n ops ({dst:=some d,op:= .load t x,type:=ty,pos,after:=af,guard:=none}::rest) L ds w K:=by
 obtain⟨b,o,vs,rfl,h1,h2⟩:=hp;refine .op (fun _ h=>by cases h) rfl rfl hd (.agg vs.toArray) w (fun ρ h=>?_) (k _ ⟨vs,h1,by simp[RT.val,hg]⟩);simp only[execOp,h x _ hx];obtain⟨i,wZ,_,zN,_⟩:=hi.get;have:=run_loadAt_mid (P:=P) w b o t vs fs h2 hu hf (by simp[wZ,zN,A.len h1]);simp[this]
end
end Go.K
namespace Go.K
open Go.Proofs
namespace TKBldC
theorem Z4:TI Tryz.prog 169 (.agg #[(.slice none 0 0),(.map none),(.int .i64 0),(.int .i64 0)]) 4 48:=by unfold TI;kernel_rfl
theorem Z5:placesOf Tryz.prog 169=[(0,1),(1,1),(2,1),(3,1)].map some:=by kernel_rfl
end TKBldC
open TKBldC
set_option maxRecDepth 10000
open Go.Maps (Keyed)
theorem rv:Keyed Tryz.prog 9:=Go.Maps.string_keyed aD
theorem Ih (k:List UInt8) (h:k.length≤140737488355328):∃l,keyOf Tryz.prog 9 (sv k)=some l:=by
 have e1:(⟨k.toArray⟩:ByteArray).size=k.length:=by simp[ByteArray.size]
 exact⟨_,Go.WideMaps.keyOf_string_mk aD (by rw[e1];unfold maxLen;omega)⟩
structure Bz (Z:aL) (M:aL) (w:World) (B:Nat) (f:List UInt8→List Po) (K:List UInt8→Prop) (es:List MapEntry):Prop where
 o:∀k v,eg j5 es (sv k) v→Own RT.po 153 M w B v (f k)
 a:∀k k' v v',k≠k'→eg j5 es (sv k) v→eg j5 es (sv k') v'→iP v v'
 k:∀x,(∃e∈es,e.key=sv x)↔K x
 z:∀k v c,eg j5 es (sv k) v→v.ownBlock=some c→Z c
theorem Bz.step {Z M M' N:aL} {w w':World} {B:Nat} {f:List UInt8→List Po} {K:List UInt8→Prop} {es:List MapEntry} (h:Bz Z M w B f K es) (s:Step M w M' w' N) (hn:∀k v b,eg j5 es (sv k) v→v.ownBlock=some b→¬N b):Bz Z M' w' B f K es:=
 ⟨fun k v hv=>(h.o k v hv).step s fun b hb=>hn k v b hv hb,h.a,h.k,h.z⟩
theorem Bz.a8 {Z M M':aL} {w w':World} {B:Nat} {f:List UInt8→List Po} {K:List UInt8→Prop} {es:List MapEntry} (h:Bz Z M w B f K es) (s:Step M w M' w' aE):Bz Z M' w' B f K es:=h.step s fun _ _ _ _ _ h=>h
theorem Bz.congr {Z M:aL} {w:World} {B:Nat} {f f':List UInt8→List Po} {K K':List UInt8→Prop} {es:List MapEntry} (h:Bz Z M w B f K es) (hf:∀k,f' k=f k) (hK:∀k,K' k↔K k):Bz Z M w B f' K' es:=
 ⟨fun k v hv=>by rw[hf];exact h.o k v hv,h.a,fun x=>(h.k x).trans (hK x).symm,h.z⟩
theorem Bz.Fo {Z Z' M:aL} {w:World} {B:Nat} {f:List UInt8→List Po} {K:List UInt8→Prop} {es:List MapEntry} (h:Bz Z M w B f K es) (hz:∀c,Z c→c<w.heap.size→Z' c):Bz Z' M w B f K es:=
 ⟨h.o,h.a,h.k,fun k v c hv hc=>hz c (h.z k v c hv hc) ((h.o k v hv).base c hc).2⟩
theorem Bz.put {Z M M2:aL} {w w1 w2:World} {B mb c:Nat} {mes:Array MapEntry} {f:List UInt8→List Po} {K:List UInt8→Prop} {es O8:List MapEntry} {k0:List UInt8} {v0 v1:Value} {ps:List Po} (h:Bz Z M w B f K es) (hZ:∀c,w.heap.size≤c→Z c) (JB:eg j5 es (sv k0) v0)
  (WR:Own RT.po 153 (kD M v1) w1 B v1 (f k0++ps)) (s1:Step M w (kD M v1) w1 (jC v0)) (hF:∀b,v1.ownBlock=some b→w.heap.size≤b∨v0.ownBlock=some b) (hmb:w1.heap[mb]? =some (.map mes c)) (s2:Step (kD M v1) w1 M2 w2 (fun k=>k=mb))
  (CT:∀zv iE v',eg zv O8 iE v'↔(iE=sv k0∧v'=v1)∨(iE≠sv k0∧eg zv es iE v')) (n0:(O8.map (·.key)=es.map (·.key)∧∃e∈es,e.key=sv k0)∨(O8.map (·.key)=es.map (·.key)++[sv k0]∧∀e∈es,e.key≠sv k0)):
  Bz Z M2 w2 B (fun k=>if k=k0 then f k0++ps else f k) (fun x=>K x∨x=k0) O8:=by
 have pY:∀k v,eg j5 O8 (sv k) v→(k=k0∧v=v1)∨(k≠k0∧eg j5 es (sv k) v):=fun k v hv=>by
  rcases(CT j5 (sv k) v).1 hv with⟨h3,h4⟩|⟨h3,h4⟩
  ·exact .inl ⟨zr h3,h4⟩
  ·exact .inr ⟨fun e=>h3 (by rw[e]),h4⟩
 have Fe:∀k v,k≠k0→eg j5 es (sv k) v→iP v1 v:=fun k v fg hv=>(h.a k k0 v v0 fg hv JB).symm.grown hF (fun b hb=>((h.o k v hv).base b hb).2)
 have KP:∀k v,k≠k0→eg j5 es (sv k) v→Own RT.po 153 (kD M v1) w1 B v (f k):=fun k v fg hv=>(h.o k v hv).step s1 (fun b hb hk=>h.a k k0 v v0 fg hv JB b hb hk)
 have Yl:∀{v:Value} {xs:List Po},Own RT.po 153 (kD M v1) w1 B v xs→∀b,v.ownBlock=some b→¬b=mb:=fun ho b hb e=>ho.j6 hmb (by rw[←e];exact hb)
 refine⟨fun k v hv=>?_,fun k k' v v' fg hv pR=>?_,fun x=>?_,fun k v c hv hc=>?_⟩
 ·rcases pY k v hv with⟨rfl,rfl⟩|⟨h3,h4⟩
  ·rw[if_pos rfl];exact WR.step s2 (Yl WR)
  ·rw[if_neg h3];exact(KP k v h3 h4).step s2 (Yl (KP k v h3 h4))
 ·rcases pY k v hv with⟨rfl,rfl⟩|⟨h3,h4⟩
  ·rcases pY k' v' pR with⟨rfl,_⟩|⟨h5,h6⟩
   ·exact absurd rfl fg
   ·exact Fe k' v' h5 h6
  ·rcases pY k' v' pR with⟨rfl,rfl⟩|⟨h5,h6⟩
   ·exact(Fe k v h3 h4).symm
   ·exact h.a k k' v v' fg h4 h6
 ·have nV:(∃e∈O8,e.key=sv x)↔sv x∈O8.map (·.key):=by simp
  have Z6:(∃e∈es,e.key=sv x)↔sv x∈es.map (·.key):=by simp
  rw[nV,←h.k x,Z6];rcases n0 with⟨h3,e,he,hk⟩|⟨h3,_⟩
  ·rw[h3];constructor
   ·exact .inl
   ·rintro(h4|rfl)
    ·exact h4
    ·rw[←hk];exact eZ he
  ·rw[h3,dy,cI];constructor
   ·rintro(h4|h4)
    ·exact .inl h4
    ·exact .inr (zr h4)
   ·rintro(h4|rfl)
    ·exact .inl h4
    ·exact .inr rfl
 ·rcases pY k v hv with⟨rfl,rfl⟩|⟨h3,h4⟩
  ·rcases hF c hc with h5|h5
   ·exact hZ c h5
   ·exact h.z _ _ c JB h5
  ·exact h.z k v c h4 hc
theorem K1 (Z M:aL) (w:World) (B:Nat):Bz Z M w B (pk []) (fun x=>x∈gx []) [] where
 o k v hv:=by
  rcases hv with⟨e,he,_⟩|⟨_,rfl⟩
  ·cases he
  ·exact dQ _ _ _ _ _
 a k k' v v' _ hv _:=by
  rcases hv with⟨e,he,_⟩|⟨_,rfl⟩
  ·cases he
  ·exact(iP.nil v').symm
 k x:=by simp[gx]
 z k v c hv hc:=by
  rcases hv with⟨e,he,_⟩|⟨_,rfl⟩
  ·cases he
  ·cases hc
structure Buf (Z M:aL) (w:World) (B b mb:Nat) (vl:Value) (L:List En) (words last:Int) (f:List UInt8→List Po) (K:List UInt8→Prop) (es:List MapEntry) (clock:Nat):Prop where
 at_:w.heap[b]? =some (.cells #[vl,.map (some mb),.int .i64 words,.int .i64 last] 169 (0,0))
 m:M b
 mm:M mb
 hb:Z b
 hmb:Z mb
 l:Own RT.en 43 M w B vl L
 map:fe Tryz.prog 9 w mb es clock
 rows:Bz Z M w B f K es
 zl:∀c,vl.ownBlock=some c→Z c
def mV (Z M:aL) (w:World) (B b:Nat) (L:List En) (words last:Int):Prop:=∃mb vl es clock,Buf Z M w B b mb vl L words last (pk L) (fun x=>x∈gx L) es clock
theorem mV.a8 {Z M M':aL} {w w':World} {B b:Nat} {L:List En} {words last:Int} (h:mV Z M w B b L words last) (s:Step M w M' w' aE):mV Z M' w' B b L words last:=by
 obtain⟨mb,vl,es,clock,h1,h2,h3,h4,h5,h6,h7,h8,h9⟩:=h;exact⟨mb,vl,es,clock,s.aM h1,(s.mem _ (an h1)).2 h2,(s.mem _ (an h7.at_)).2 h3,h4,h5,h6.a8 s,h7.a8 s,h8.a8 s,h9⟩
theorem mV.Fo {Z Z' M:aL} {w:World} {B b:Nat} {L:List En} {words last:Int} (h:mV Z M w B b L words last) (hz:∀c,Z c→c<w.heap.size→Z' c):mV Z' M w B b L words last:=by
 obtain⟨mb,vl,es,clock,h1,h2,h3,h4,h5,h6,h7,h8,h9⟩:=h;exact⟨mb,vl,es,clock,h1,h2,h3,hz _ h4 (an h1),hz _ h5 (an h7.at_),h6,h7,h8.Fo hz,fun c hc=>hz c (h9 c hc) (h6.base c hc).2⟩
theorem mV.step {Z M M' N:aL} {w w':World} {B b:Nat} {L:List En} {words last:Int} (h:mV Z M w B b L words last) (s:Step M w M' w' N) (hn:∀k,N k→¬Z k):mV Z M' w' B b L words last:=by
 obtain⟨mb,vl,es,clock,h1,h2,h3,h4,h5,h6,h7,h8,h9⟩:=h;exact⟨mb,vl,es,clock,s.bS h1 (fun hk=>hn _ hk h4),(s.mem _ (an h1)).2 h2,(s.mem _ (an h7.at_)).2 h3,h4,h5,h6.step s (fun c hc hk=>hn _ hk (h9 c hc)),h7.step s (fun hk=>hn _ hk h5),h8.step s (fun k v c hv hc hk=>hn _ hk (h8.z k v c hv hc)),h9⟩
theorem mV.stepT {Z M M' N:aL} {w w':World} {B b:Nat} {L:List En} {words last:Int} (h:mV Z M w B b L words last) (s:Step M w M' w' N) (hn:∀k,N k→∃cs t,w.heap[k]? =some (.cells cs t (0,0))∧t≠169∧t≠43∧t≠153):mV Z M' w' B b L words last:=by
 obtain⟨mb,vl,es,clock,h1,h2,h3,h4,h5,h6,h7,h8,hz⟩:=h;refine⟨mb,vl,es,clock,s.bS h1 (fun hk=>?_),(s.mem _ (an h1)).2 h2,(s.mem _ (an h7.at_)).2 h3,h4,h5,h6.step s (fun c hc hk=>?_),h7.step s (fun hk=>?_),h8.step s (fun k v c hv hc hk=>?_),hz⟩
 ·obtain⟨cs,t,h9,Fp,_⟩:=hn _ hk;rw[h1]at h9;simp at h9;exact Fp h9.2.symm
 ·obtain⟨cs,t,h9,_,Fp,_⟩:=hn _ hk;exact h6.eW h9 Fp hc
 ·obtain⟨cs,t,h9,_⟩:=hn _ hk;rw[h7.at_]at h9;cases h9
 ·obtain⟨cs,t,h9,_,_,Fp⟩:=hn _ hk;exact(h8.o k v hv).eW h9 Fp hc
def Ii (M Z:aL):aL:=fun k=>Z k∧M k
theorem eg.ex (zv:Value) (es:List MapEntry) (key:Value):∃v,eg zv es key v:=by
 by_cases h:∃e∈es,e.key=key
 ·obtain⟨e,he,hk⟩:=h;exact⟨e.val,.inl ⟨e,he,hk,rfl⟩⟩
 ·exact⟨zv,.inr ⟨fun e he hk=>h ⟨e,he,hk⟩,rfl⟩⟩
def lN (last:Int) (e:En):Int:=if mq e.1≠0 then mq e.1 else if e.2≤last then 12 else 0
def Ij (L:List En) (tl:List (Fd×Nat)) (i:Nat) (k:List UInt8):List Po:=pk L k++(((cq tl).take i).filter fun t=>decide (dm t=k)).map fun t=>((L.length:Int),posOf tl t)
theorem Ik (L:List En) (tl:List (Fd×Nat)) (k:List UInt8):Ij L tl 0 k=pk L k:=by simp[Ij]
theorem Il {L:List En} {tl:List (Fd×Nat)} {i:Nat} {t:Fd} (h:(cq tl)[i]? =some t) (k:List UInt8):Ij L tl (i+1) k=if k=dm t then Ij L tl i (dm t)++[((L.length:Int),posOf tl t)]else Ij L tl i k:=by
 unfold Ij;rw[bP,h,cn,List.filter_append,dH]
 split
 ·rename_i e;subst e;simp
 ·rename_i e
  have: ¬dm t=k:=fun h=>e h.symm
  simp[this]
theorem K2 {L:List En} {e:En} {i:Nat} (h:(cq (ma e)).length≤i) (k:List UInt8):Ij L (ma e) i k=pk (L++[e]) k:=by
 unfold Ij;rw[KR,a7 h];rfl
theorem K3 {L:List En} (hF:∀x∈L,ie x.1) (tl:List (Fd×Nat)) (i:Nat) (k:List UInt8):(Ij L tl i k).length≤L.length+(cq tl).length:=by
 unfold Ij;have h1:=(mu k L 0 hF).1;have h2:=List.length_filter_le (fun t=>decide (dm t=k)) ((cq tl).take i);have h3:=List.length_take_le i (cq tl);have h4:(pk L k).length≤L.length:=h1;simp only[bM,cj,bG]at*;omega
theorem yj {d:Dc} (hF:ie d):(cq (bX d.2)).length≤500:=by
 have h1:=(oX hF.Fj).nodup.length_le_of_subset (l₂:=(bX d.2).map (·.1)) (fun t ht=>(iN hF.Fj).1 ht);have:=hF.many;simp at h1;omega
theorem ie.term {d:Dc} (hF:ie d) {t:Fd} (h:t∈cq (bX d.2)):t.1.length≤12∧t.2.length≤30:=by
 obtain⟨p,hp,rfl⟩:=cg.1 ((iN hF.Fj).1 h);exact hF.small p hp
theorem Im {Z M:aL} {B:Nat} (w0:World) (hM:Lt M w0) (hB:B≤w0.heap.size) (hZ:∀k,w0.heap.size≤k→Z k):
  Spec Tryz.prog 56 #[] w0 (fun v w=>∃M' b,v= .pointer (some ⟨b,0,none⟩)∧Lt M' w∧mV Z M' w B b [] 0 (-1)∧Step M w0 M' w aE):=by
 refine bu (args:=[]) (fn:=Tryz.f56) Tryz.func56 rfl (n:=4) Tryz.ntmps56 ?_;have S:Step M w0 M w0 aE:=(ar _ _).cw (fun _ h=>h.elim) (fun _ h=>h.elim);refine al (aj (ak rfl rfl (ae (al (aj ?_)))));refine Rg.Be M gM rfl (fun mb w1m p1 q1 gW s1=>?_);obtain⟨O7,Ia⟩:∃M',M'=ins M mb:=⟨_,rfl⟩;rw[←Ia]at s1;have zw:O7 mb:=by rw[Ia];exact .inl rfl
 replace hM:=s1.lt hM;have:=S.size;replace S:=S.aB s1;refine eT (places:=[(0,1),(1,1),(2,1),(3,1)]) dI Z4 Z5 rfl ⟨_,_,rfl,rfl,_,_,rfl,rfl,rfl⟩ (out:=[.slice none 0 0,_,.int .i64 0,_]) ⟨1,[_],rfl,rfl,by simp[Value.cells],3,[_],rfl,rfl,by simp[Value.cells],rfl⟩ ?_;refine tO O7 rfl rfl (fun O9 KK aiW aiX ib om=>?_);obtain⟨T0,Io⟩:∃M',M'=ins O7 O9:=⟨_,rfl⟩;rw[←Io]at om;have Pb:T0 O9:=by rw[Io];exact .inl rfl
 change KK.heap[O9]? =some (.cells #[.slice none 0 0,.map (some mb),.int .i64 0,.int .i64 (-1)] _ _)at ib;replace zw:=(om.mem _ (an gW.at_)).2 zw;replace gW:=gW.a8 om;replace hM:=om.lt hM;have:=S.size;replace S:=S.aB om;refine ak rfl rfl (ae (aQ ?_));exact aV rfl rfl ⟨_,_,rfl,hM,⟨mb,_,[],0,ib,Pb,zw,hZ _ (by omega),hZ _ (by omega),dQ _ _ _ _ _,gW,K1 _ _ _ _,fun c hc=>by cases hc⟩,S⟩
end Go.K
namespace Go.K
open Go.Proofs
namespace TKBldD
theorem T1:TI Tryz.prog 37 (.slice none 0 0) 1 24:=by unfold TI;kernel_rfl
theorem gz:TI Tryz.prog 107 (.slice none 0 0) 1 24:=by unfold TI;kernel_rfl
theorem CZ:TI Tryz.prog 167 (.map none) 1 8:=by unfold TI;kernel_rfl
theorem Z7:Enters Tryz.prog 107:=enters Tryz.func107 rfl (by decide)
theorem Z8:Enters Tryz.prog 108:=enters Tryz.func108 rfl (by decide)
theorem Z9:Enters Tryz.prog 109:=enters Tryz.func109 rfl (by decide)
theorem aaa:Enters Tryz.prog 110:=enters Tryz.func110 rfl (by decide)
end TKBldD
open TKBldD
set_option maxRecDepth 10000
set_option maxHeartbeats 4000000 in
theorem Ip {Z M:aL} {B b:Nat} {L:List En} {words last:Int} {e:En} {v0:Value} (w0:World) (hM:Lt M w0) (hZ:∀k,w0.heap.size≤k→Z k) (hb:mV Z M w0 B b L words last) (hBw:B≤w0.heap.size) (hv:RT.en.V M w0 e v0) (hl:∀f∈e.1.2,f.1.length≤900000∧f.2.length≤900000) (hLF:∀x∈L,ie x.1) (hLn:L.length≤1000000) (hw:0≤words∧words≤1000000000):
  Spec Tryz.prog 57 #[.pointer (some ⟨b,0,none⟩),v0] w0 (fun v w=>∃M',Lt M' w∧Step M w0 M' w (Ii M Z)∧v= .int .i64 (lN last e)∧(lN last e≠0→mV Z M' w B b L words last)∧(lN last e=0→mV Z M' w B b (L++[e]) (words+((ma e).length:Int)) e.2)):=by
 obtain⟨mb,vl,es,clock,gb,dY,eO,hB,D7,ho,hW,hR,zl⟩:=hb;have Mt:b≠mb:=fun h=>by have:=hW.at_;rw[←h,gb]at this;cases this
 refine bu (args:=[_,_]) (fn:=Tryz.f57) Tryz.func57 rfl (n:=89) Tryz.ntmps57 ?_;have S:Step M w0 M w0 (Ii M Z):=(ar _ _).cw (fun _ h=>h.elim) (fun _ h=>h.2);refine al (aj ?_);refine iw (A:=RT.en) rfl rfl hM hv rfl (fun u0 w1 cV s0 _=>?_);have:=an gb;replace dY:=(s0.mem _ this).2 dY;replace gb:=s0.aM gb;replace ho:=ho.a8 s0;replace eO:=(s0.mem _ (an hW.at_)).2 eO;replace hW:=hW.a8 s0;replace hR:=hR.a8 s0;replace hM:=s0.lt hM;have:=S.size;replace S:=S.aB s0;refine ak rfl rfl (ae (al (al (aj ?_))));refine ay (M:=M) (A:=RT.en) (B:=RT.dc) cP rfl rfl kQ (by decide) KB rfl rfl (by decide) cV (ao _ _) (fun tU jw=>?_);refine ch (M:=M) (A:=RT.dc) aO rfl kQ (by decide) rfl rfl rfl jw (ao _ _) (fun xq l8=>?_);refine aP rfl rfl Z7 (Hr _ hM l8 hl) (fun r2 w2 hc=>?_);obtain⟨rfl,s2⟩:=hc;have:=an gb;replace dY:=(s2.mem _ this).2 dY;replace gb:=s2.aM gb;replace cV:=cV.le (by decide) s2.le;replace ho:=ho.a8 s2;replace eO:=(s2.mem _ (an hW.at_)).2 eO;replace hW:=hW.a8 s2;replace hR:=hR.a8 s2;replace hM:=s2.lt hM;have:=S.size;replace S:=S.aB s2;refine ak rfl rfl (ae (al (aj (ah rfl rfl (eS rfl rfl rfl (ae ?_))))));refine bQ rfl (fun c2=>?_) (fun c2=>?_)
 ·refine al (aj (ah rfl rfl (ak rfl rfl (ae (aQ ?_)))));have ea:lN last e=mq e.1:=if_pos c2;exact aV rfl rfl ⟨_,hM,S,by rw[ea],fun _=>⟨mb,vl,es,clock,gb,dY,eO,hB,D7,ho,hW,hR,zl⟩,fun h=>absurd (ea▸h) c2⟩
 ·have hF:ie e.1:=D9 (by simpa using c2);refine aZ (al (al ?_));apply T.jh mixed rfl rfl;intro Gw K4;have lv:=K4 M;have:=an gb;replace dY:=(lv.mem _ this).2 dY;replace gb:=lv.aM gb;replace cV:=cV.le (by decide) lv.le;replace ho:=ho.a8 lv;replace eO:=(lv.mem _ (an hW.at_)).2 eO;replace hW:=hW.a8 lv;replace hR:=hR.a8 lv;replace hM:=lv.lt hM;have:=S.size;replace S:=S.aB lv;refine ay (M:=M) (A:=RT.en) (B:=RT.int .i64) cP rfl rfl I3 (by decide) Ti rfl rfl (by decide) cV (ao _ _) (fun Kg AG=>?_);refine ae ⟨rfl,rfl,rfl,?_⟩;refine cr (M:=M) az rfl rfl (by assumption) (by repeat (first|exact ao _ _|refine aU (br (by assumption)) ?_)) (fun MB=>?_);refine bO (v':= .int .i64 (e.2)) rfl ?_;replace MB: -9223372036854775808≤(e.2:Int)∧e.2≤9223372036854775807:=MB;refine ae ⟨rfl,rfl,rfl,?_⟩;refine ah rfl rfl ?_;refine ae ⟨rfl,rfl,rfl,?_⟩;refine bm rfl ⟨_,rfl⟩ rfl ?_;refine ae ⟨rfl,rfl,rfl,?_⟩;refine bz (o':=3) dI rfl rfl I3 (by decide) rfl rfl ?_;refine ae ⟨rfl,rfl,rfl,?_⟩;refine aX az rfl rfl rfl (by first|assumption|exact cC lv (by assumption)) rfl ?_;refine ae ⟨rfl,rfl,rfl,?_⟩;refine fq rfl rfl rfl ?_;refine ae ⟨rfl,rfl,rfl,?_⟩;refine dU ?_;refine bQ rfl (fun c4=>?_) (fun c4=>?_)
  ·refine al (aj (ak rfl rfl (ae (aQ ?_))));have ea:lN last e=12:=by unfold lN;rw[if_neg (fun h=>h (by simpa using c2)),if_pos c4]
   exact aV rfl rfl ⟨_,hM,S,by rw[ea],fun _=>⟨mb,vl,es,clock,gb,dY,eO,hB,D7,ho,hW,hR,zl⟩,fun h=>absurd (ea▸h) (by decide)⟩
  ·refine aZ (al (aj ?_));refine ay (M:=M) (A:=RT.en) (B:=RT.dc) cP rfl rfl kQ (by decide) KB rfl rfl (by decide) cV (ao _ _) (fun Tt Hz=>?_);refine ch (M:=M) (A:=RT.dc) aO rfl kQ (by decide) rfl rfl rfl Hz (ao _ _) (fun OL vL=>?_);refine aP rfl rfl Z8 (Bw _ hM vL hF hl) (fun r6 w6 hc=>?_);obtain⟨a6,b6,rfl,ha,o0,s6⟩:=hc;have:=an gb;replace dY:=(s6.mem _ this).2 dY;replace gb:=s6.aM gb;replace cV:=cV.le (by decide) s6.le;replace ho:=ho.a8 s6;replace eO:=(s6.mem _ (an hW.at_)).2 eO;replace hW:=hW.a8 s6;replace hR:=hR.a8 s6;replace hM:=s6.lt hM;have:=S.size;replace S:=S.aB s6;refine ah rfl rfl (bZ rfl rfl rfl (bZ rfl rfl rfl (ak rfl rfl (ak rfl rfl (ae (al (al (aj (ah rfl rfl (bK bR rfl ha rfl (ah rfl rfl ?_)))))))))));refine ae (bh ?_);refine dz (σ:=Nat) (fun q=>[(0,.pointer (some ⟨b,0,none⟩)),(3,u0),(7,b6),(30,a6),(31,.int .i64 ((cq (ma e)).length:Int)),(32,.int .i64 (q:Int))]) (fun q w=>∃M' es clock,Lt M' w∧Step M w0 M' w (Ii M Z)∧cc RT.en M' w u0 e∧(RT.fd.sl).V M' w (cq (ma e)) a6∧(((RT.int .i64).sl).sl).V M' w ((cq (ma e)).map (posOf (ma e))) b6∧Buf Z M' w B b mb vl L words last (Ij L (ma e) q) (fun x=>x∈gx L∨x∈((cq (ma e)).take q).map dm) es clock∧q≤(cq (ma e)).length) (fun q=>(cq (ma e)).length-q) 0 (.cons rfl (.cons rfl (.cons rfl (.cons rfl (.cons rfl (.cons rfl .nil)))))) ?_ ?_
   ·exact⟨_,es,clock,hM,S,cV,ha,o0,⟨gb,dY,eO,hB,D7,ho,hW,hR.congr (fun k=>Ik _ _ _) (fun k=>by simp),zl⟩,bH _⟩
   ·clear hM S cV ha o0 gb dY eO ho hW hR;rintro i w ⟨M1,es,clock,hM,S,cV,ha,o0,⟨gb,dY,eO,_,_,ho,hW,hR,_⟩,hi⟩;refine al (aj (cz rfl rfl rfl (ae (al ?_))));refine bQ rfl (fun c8=>?_) (fun c8=>?_)
    ·refine aZ (al (bh (al (aj (ah rfl rfl ?_)))));refine cu (M:=M1) bR jr rfl rfl rfl ha (ao _ _) (by omega) (fun YL t Mn GZ=>?_);rw[aC]at Mn;have JY:=aG Mn;have Cl:=hF.term JY;refine ch (M:=M1) (A:=RT.fd) bw rfl jr (by decide) rfl rfl rfl GZ (ao _ _) (fun aab Iq=>?_);obtain rfl:=gN Iq;refine eG M1 jr rfl (fun vZ SK aiZ ai0 nG oN=>?_);obtain⟨tD,Ir⟩:∃M',M'=ins M1 vZ:=⟨_,rfl⟩;rw[←Ir]at oN;have zx:tD vZ:=by rw[Ir];exact .inl rfl
     change SK.heap[vZ]? =some (.cells #[.string ⟨#[]⟩,.string ⟨#[]⟩] _ _)at nG;have:=an gb;replace dY:=(oN.mem _ this).2 dY;replace gb:=oN.aM gb;replace cV:=cV.le (by decide) oN.le;replace ha:=ha.le oN.le;replace o0:=o0.le oN.le;replace ho:=ho.a8 oN;replace eO:=(oN.mem _ (an hW.at_)).2 eO;replace hW:=hW.a8 oN;replace hR:=hR.a8 oN;replace hM:=oN.lt hM;have:=S.size;replace S:=S.aB oN;refine ak rfl rfl ?_;refine eD (M:=tD) (vs:=[.string ⟨t.1.toArray⟩,.string ⟨t.2.toArray⟩]) jr rfl rfl (CX rfl Iq) rfl rfl nG zx (fun w9 g9 s9=>?_);have:=an gb;replace dY:=(s9.mem _ this).2 dY;replace gb:=s9.bS gb (fun hk=>by have hk:_=_:=hk;omega);have:=an nG;replace zx:=(s9.mem _ this).2 zx;replace cV:=cV.le (by decide) s9.le;replace ha:=ha.le s9.le;replace o0:=o0.le s9.le;replace ho:=ho.step s9 (fun c hc (h:_=_)=>by first|exact ho.eW gb (by decide) (h▸hc)|exact ho.eW nG (by decide) (h▸hc));replace eO:=(s9.mem _ (an hW.at_)).2 eO;replace hW:=hW.step s9 (by first|exact fun h=>ho.j6 hW.at_ h|exact fun(h:mb=b)=>Mt h.symm|exact fun(h:mb=vZ)=>by have h9:=hW.at_;rw[h,nG]at h9;cases h9);replace hR:=hR.step s9 (by first|exact fun k v c hv hc h=>(hR.o k v hv).iW ho (by decide) hc h|exact fun k v c hv hc (h:c=b)=>(hR.o k v hv).eW gb (by decide) (h▸hc)|exact fun k v c hv hc (h:c=vZ)=>(hR.o k v hv).eW nG (by decide) (h▸hc));replace hM:=s9.lt hM;have:=S.size;replace S:=S.trans s9 (fun k hk h=>by have h:_=_:=h;subst h;first|(exfalso;omega)|(show _≤_;omega)|exact⟨by first|omega|assumption,(S.mem _ hk).1 ((s9.mem _ (an nG)).1 zx)⟩|exact .inl rfl|exact .inr rfl|exact .inr (.inl rfl)|exact .inr (.inr rfl)|exact rfl);have MC:=g9;clear nG;have nG:=MC;clear MC;refine ae (al (aj (gO (vs:=[.string ⟨t.1.toArray⟩,.string ⟨t.2.toArray⟩]) bw rfl jr rfl rfl rfl nG ?_)));refine aP rfl rfl Rz (HS (t:=t) _ hM (by omega) (by omega)) (fun r10 Zn hc=>?_)
     obtain⟨rfl,rj⟩:=hc;have:=an gb;replace dY:=(rj.mem _ this).2 dY;replace gb:=rj.aM gb;replace cV:=cV.le (by decide) rj.le;replace ha:=ha.le rj.le;replace o0:=o0.le rj.le;replace ho:=ho.a8 rj;replace eO:=(rj.mem _ (an hW.at_)).2 eO;replace hW:=hW.a8 rj;replace hR:=hR.a8 rj;replace hM:=rj.lt hM;have:=S.size;replace S:=S.aB rj;refine ak rfl rfl (ae ?_);obtain⟨v10,mM⟩:=eg.ex j5 es (sv (dm t));apply qf 21 [0,1,2,3,4,5,6,7,8,9,10] 2 (jC v10) mixed rfl rfl rfl rfl;intro Fq Is;have iu:=Is tD;have:=an gb;replace dY:=(iu.mem _ this).2 dY;replace gb:=iu.aM gb;replace cV:=cV.le (by decide) iu.le;replace ha:=ha.le iu.le;replace o0:=o0.le iu.le;replace ho:=ho.a8 iu;replace eO:=(iu.mem _ (an hW.at_)).2 eO;replace hW:=hW.a8 iu;replace hR:=hR.a8 iu;replace hM:=iu.lt hM;have:=S.size;replace S:=S.aB iu;refine ah rfl rfl ?_;refine ae ⟨rfl,rfl,rfl,?_⟩;refine bm rfl ⟨_,rfl⟩ rfl ?_;refine ae ⟨rfl,rfl,rfl,?_⟩;refine bz (o':=1) dI rfl rfl CZ (by decide) rfl rfl ?_;refine ae ⟨rfl,rfl,rfl,?_⟩;refine aX gM rfl rfl rfl (by first|assumption|exact cC iu (by assumption)) rfl ?_;refine ae ⟨rfl,rfl,rfl,?_⟩;refine ah rfl rfl ?_;refine ae ⟨rfl,rfl,rfl,?_⟩;refine ah rfl rfl ?_;refine ae ⟨rfl,rfl,rfl,?_⟩;refine bm rfl ⟨_,rfl⟩ rfl ?_;refine ae ⟨rfl,rfl,rfl,?_⟩;refine bz (o':=1) dI rfl rfl CZ (by decide) rfl rfl ?_;refine ae ⟨rfl,rfl,rfl,?_⟩;refine aX gM rfl rfl rfl (by first|assumption|exact cC iu (by assumption)) rfl ?_;refine ae ⟨rfl,rfl,rfl,?_⟩;refine ah rfl rfl ?_;refine ae ⟨rfl,rfl,rfl,?_⟩;obtain⟨kl,FP⟩:=Ih (dm t) (by unfold dm;simp;omega);refine Rg.rn gM rv gz rfl rfl rfl FP hW (fun aac aad=>?_);obtain rfl:v10=aac:=hW.val_one mM aad
     have yM:=K3 hLF (ma e) i (dm t);have DM:(cq (ma e)).length≤500:=yj hF;refine ae ⟨rfl,rfl,rfl,?_⟩;refine ah rfl rfl ?_;refine ae ⟨rfl,rfl,rfl,?_⟩;refine bm rfl ⟨_,rfl⟩ rfl ?_;refine ae ⟨rfl,rfl,rfl,?_⟩;refine bz (o':=0) dI rfl rfl T1 (by decide) rfl rfl ?_;refine ae ⟨rfl,rfl,rfl,?_⟩;refine aX dD rfl rfl rfl (by first|assumption|exact cC iu (by assumption)) rfl ?_;refine ae ⟨rfl,rfl,rfl,?_⟩;refine ik dD rfl ho rfl ?_;refine ae ⟨rfl,rfl,rfl,?_⟩;refine ah rfl rfl ?_;refine ae ⟨rfl,rfl,rfl,?_⟩;refine ah rfl rfl ?_;refine ae ⟨rfl,rfl,rfl,?_⟩;refine cu (M:=tD) Tryz.underlying171 jR rfl rfl rfl o0 (ao _ _) (by simp;omega) (fun u18 ps T2 aae=>?_);rw[aC,ff,Mn]at T2;obtain rfl:=aN T2;refine ae ⟨rfl,rfl,rfl,?_⟩;refine bg (M:=tD) ax rfl rfl rfl rfl rfl aae (ao _ _) (fun v19 T3=>?_);refine ae ⟨rfl,rfl,rfl,?_⟩;refine eT (places:=[(0,1),(1,1)]) bA fv Gp rfl ⟨_,_,rfl,rfl,_,_,rfl,rfl,rfl⟩ (out:=[_,_]) ⟨0,[_],rfl,rfl,by simp[Value.cells],1,[_],rfl,fM T3,by simp[Value.cells],rfl⟩ ?_;have zy:RT.po.V tD _ ((L.length:Int),posOf (ma e) t) _:=eC (gC (by omega)) T3 rfl rfl rfl rfl;refine ae ⟨rfl,rfl,rfl,?_⟩;refine dU ?_;have pX:=hR.o _ _ mM;refine⟨ew ⟨eE,⟨bF.nilCheck rfl,⟨fj dI rfl CZ (by decide),⟨dC rfl gb (fun h=>pX.eW gb (by decide) h),⟨eE,⟨eE,⟨bF.nilCheck rfl,⟨fj dI rfl CZ (by decide),⟨dC rfl gb (fun h=>pX.eW gb (by decide) h),⟨eE,⟨bF.rn gM rv gz rfl rfl FP hW (fun h=>pX.j6 hW.at_ h),trivial⟩⟩⟩⟩⟩⟩⟩⟩⟩⟩⟩,?_⟩;have kp:=eU (jC v10) Fq;refine eA (A:=RT.po) (hn:=by decide) (M:=tD) aK fv (by decide) rfl rfl hM (zy) (.inl rfl) (fun aaf aag K5 lO=>?_)
     have:=an gb;replace dY:=(lO.mem _ this).2 dY;replace gb:=lO.aM gb;replace cV:=cV.le (by decide) lO.le;replace ha:=ha.le lO.le;replace o0:=o0.le lO.le;replace ho:=ho.a8 lO;replace eO:=(lO.mem _ (an hW.at_)).2 eO;replace hW:=hW.a8 lO;replace hR:=hR.a8 lO;replace hM:=lO.lt hM;have:=S.size;replace S:=S.aB lO;refine(fun(kp:dX _ _ _)=>ae ⟨rfl,rfl,fun _=>kp,?_⟩) (by first|exact kp|exact kp.mZ (by assumption)|exact kp.goN (by assumption)|exact kp.go (by assumption) (fun _ _ h=>by first|exact h|exact h.elim));refine Rg.kc (M:=tD) (base:=B) aK fv rfl rfl rfl rfl (hR.o _ _ mM) K5 (ao _ _) (by simp;omega) (by simp;omega) (by have:=S.size;omega) (fun v22 w22 aah zW aai=>?_);have pX:=hR.o _ _ mM;have ae9:=hW.at_;have T4:v10.ownBlock≠some mb:=pX.j6 hW.at_;have MD:=ho.step zW (fun c hc h=>ho.iW pX (by decide) hc h);have C0:=(zW.mem _ (an hW.at_)).2 eO;have K6:=hW.step zW T4;have T5:=zW.bS gb (fun h=>pX.eW gb (by decide) h);have Pc:=(zW.mem _ (an gb)).2 dY;have S22:=S.trans zW (fun k hk h=>⟨hR.z _ _ k mM h,(S.mem k hk).1 (pX.mut_ k h)⟩);have aaj:=zW.lt hM;replace cV:=cV.le (by decide) zW.le;replace ha:=ha.le zW.le;replace o0:=o0.le zW.le;refine(fun(kp:dX _ _ _)=>ae ⟨rfl,rfl,fun _=>kp,?_⟩) (by first|exact kp|exact kp.mZ (by assumption)|exact kp.goN (by assumption)|exact kp.go (by assumption) (fun _ _ h=>by first|exact h|exact h.elim));refine Rg.KU gM rv rfl rfl rfl FP K6 C0 (fun w23 aak aal aam aan Pd zz=>?_);have aao:=hR.put (fun c hc=>hZ c (by have:=S.size;omega)) mM aah zW aai K6.at_ zz Pd aan;replace cV:=cV.le (by decide) zz.le;replace ha:=ha.le zz.le;replace o0:=o0.le zz.le;have aap:=MD.step zz (fun c hc (h:c=mb)=>MD.j6 K6.at_ (h▸hc));have aaq:=zz.bS T5 Mt;have Pe:=(zz.mem _ (an T5)).2 Pc
     have Pf:=(zz.mem _ (an K6.at_)).2 C0;have aar:=zz.lt aaj;have S23:=S22.trans zz (fun k hk (h:k=mb)=>⟨by rw[h];exact D7,(S22.mem k hk).1 (by rw[h];exact C0)⟩);refine ae ⟨rfl,rfl,fun h=>absurd rfl h,?_⟩;refine gY (aj (bI rfl rfl rfl (by omega) (ah rfl rfl (ae ?_))));refine⟨rfl,i+1,(.cons rfl (.cons rfl (.cons rfl (.cons rfl (.cons rfl (.cons rfl .nil)))))),?_,?_⟩
     ·exact⟨_,aak,aal,aar,S23,cV,ha,o0,⟨aaq,Pe,Pf,hB,D7,aap,aam,aao.congr (fun k=>Il Mn k) (fun k=>by rw[bP,Mn,cn,dH,dy,or_assoc];simp),zl⟩,by omega⟩
     ·omega
    ·refine cY (al ?_);apply qf 6 [0,1,2,3,4] 3 (jC vl) mixed rfl rfl rfl rfl;intro OC OD;have nB:=OD M1;have:=an gb;replace dY:=(nB.mem _ this).2 dY;replace gb:=nB.aM gb;replace cV:=cV.le (by decide) nB.le;replace ha:=ha.le nB.le;replace o0:=o0.le nB.le;replace ho:=ho.a8 nB;replace eO:=(nB.mem _ (an hW.at_)).2 eO;replace hW:=hW.a8 nB;replace hR:=hR.a8 nB;replace hM:=nB.lt hM;have:=S.size;replace S:=S.aB nB;refine ah rfl rfl ?_;refine ae ⟨rfl,rfl,rfl,?_⟩;refine ah rfl rfl ?_;refine ae ⟨rfl,rfl,rfl,?_⟩;refine bm rfl ⟨_,rfl⟩ rfl ?_;refine ae ⟨rfl,rfl,rfl,?_⟩;refine bz (o':=0) dI rfl rfl T1 (by decide) rfl rfl ?_;refine ae ⟨rfl,rfl,rfl,?_⟩;refine aX dD rfl rfl rfl gb rfl (bO (v':=vl) rfl ?_);refine ae ⟨rfl,rfl,rfl,?_⟩;refine ch (M:=M1) (A:=RT.en) cP rfl xh (by decide) rfl rfl rfl cV (ao _ _) (fun Mj zh=>?_);refine ae ⟨rfl,rfl,rfl,?_⟩;refine dU ?_;refine⟨ew ⟨eE,⟨eE,⟨bF.nilCheck rfl,⟨fj dI rfl T1 (by decide),⟨dC rfl gb (fun h=>ho.eW gb (by decide) h),trivial⟩⟩⟩⟩⟩,?_⟩;have kp:=eU (jC vl) OC;refine aP rfl rfl Z9 (H6 _ hM zh (by have:=hF.few;omega)) (fun afb T6 hc=>?_);obtain⟨C1,xA⟩:=hc;have:=an gb;replace dY:=(xA.mem _ this).2 dY;replace gb:=xA.aM gb;replace cV:=cV.le (by decide) xA.le;replace ha:=ha.le xA.le;replace o0:=o0.le xA.le;replace ho:=ho.a8 xA;replace eO:=(xA.mem _ (an hW.at_)).2 eO;replace hW:=hW.a8 xA;replace hR:=hR.a8 xA;replace hM:=xA.lt hM;have:=S.size;replace S:=S.aB xA;refine(fun(kp:dX _ _ _)=>ae ⟨rfl,rfl,fun _=>kp,?_⟩) (by first|exact kp|exact kp.mZ (by assumption)|exact kp.goN (by assumption)|exact kp.go (by assumption) (fun _ _ h=>by first|exact h|exact h.elim));refine eA (A:=RT.en) (hn:=by decide) (M:=M1) dD xh (by decide) rfl rfl hM (C1) (.inl rfl) (fun afc afd Pg oa=>?_)
     have:=an gb;replace dY:=(oa.mem _ this).2 dY;replace gb:=oa.aM gb;replace cV:=cV.le (by decide) oa.le;replace ha:=ha.le oa.le;replace o0:=o0.le oa.le;replace C1:=C1.le oa.le;replace ho:=ho.a8 oa;replace eO:=(oa.mem _ (an hW.at_)).2 eO;replace hW:=hW.a8 oa;replace hR:=hR.a8 oa;replace hM:=oa.lt hM;have:=S.size;replace S:=S.aB oa;refine(fun(kp:dX _ _ _)=>ae ⟨rfl,rfl,fun _=>kp,?_⟩) (by first|exact kp|exact kp.mZ (by assumption)|exact kp.goN (by assumption)|exact kp.go (by assumption) (fun _ _ h=>by first|exact h|exact h.elim));refine Rg.kc (M:=M1) (base:=B) dD xh rfl rfl rfl rfl ho Pg (ao _ _) (by simp;omega) (by simp;omega) (by have:=S.size;omega) (fun BA afe Ph tF aas=>?_);replace dY:=(tF.mem _ (an gb)).2 dY
     have zl':∀c,BA.ownBlock=some c→Z c:=fun c hc=>by
      rcases aas c hc with h|h
      ·exact hZ c (by have:=S.size;omega)
      ·exact zl c h
     replace hR:=hR.step tF (fun k v c hv hc h=>(hR.o k v hv).iW ho (by decide) hc h);replace eO:=(tF.mem _ (an hW.at_)).2 eO;replace hW:=hW.step tF (fun h=>ho.j6 hW.at_ h);replace gb:=tF.bS gb (fun h=>ho.eW gb (by decide) h);replace cV:=cV.le (by decide) tF.le;replace S:=S.trans tF (fun k hk h=>⟨zl k h,(S.mem k hk).1 (ho.mut_ k h)⟩);replace hM:=tF.lt hM;replace ho:=Ph;obtain⟨ME,aat⟩:∃M',M'=kD M1 BA:=⟨_,rfl⟩;rw[←aat]at hR eO cV S hM ho dY;refine(fun(kp:dX _ _ _)=>ae ⟨rfl,rfl,fun _=>kp,?_⟩) (by first|exact kp|exact kp.mZ (by assumption)|exact kp.goN (by assumption)|exact kp.go (by assumption) (fun _ _ h=>by first|exact h|exact h.elim));refine bm rfl ⟨_,rfl⟩ rfl ?_;refine ae ⟨rfl,rfl,fun h=>absurd rfl h,?_⟩;refine bz (o':=0) dI rfl rfl T1 (by decide) rfl rfl ?_;refine ae ⟨rfl,rfl,fun h=>absurd rfl h,?_⟩;refine ck (M:=ME) T1 rfl rfl gb rfl (by obtain⟨_,_,he,_⟩:=ho.isSlice;rw[he];rfl) dY (fun Pj It nH=>?_);change Pj.heap[_]? =some (Obj.cells #[BA,.map (some mb),.int .i64 words,.int .i64 last] _ _)at It;have:=an gb;replace dY:=(nH.mem _ this).2 dY;replace cV:=cV.le (by decide) nH.le;replace ho:=ho.step nH (fun c hc (h:_=_)=>by first|exact ho.eW gb (by decide) (h▸hc)|exact ho.eW nG (by decide) (h▸hc));replace eO:=(nH.mem _ (an hW.at_)).2 eO;replace hW:=hW.step nH (by first|exact fun h=>ho.j6 hW.at_ h|exact fun(h:mb=b)=>Mt h.symm|exact fun(h:mb=vZ)=>by have h9:=hW.at_;rw[h,nG]at h9;cases h9);replace hR:=hR.step nH (by first|exact fun k v c hv hc h=>(hR.o k v hv).iW ho (by decide) hc h|exact fun k v c hv hc (h:c=b)=>(hR.o k v hv).eW gb (by decide) (h▸hc)|exact fun k v c hv hc (h:c=vZ)=>(hR.o k v hv).eW nG (by decide) (h▸hc));replace hM:=nH.lt hM;have:=S.size;replace S:=S.trans nH (fun k hk h=>by have h:_=_:=h;subst h;first|(exfalso;omega)|(show _≤_;omega)|exact⟨by first|omega|assumption,(S.mem _ hk).1 ((nH.mem _ (an gb)).1 dY)⟩|exact .inl rfl|exact .inr rfl|exact .inr (.inl rfl)|exact .inr (.inr rfl)|exact rfl)
     have HQ:=It;clear gb;have gb:=HQ;clear HQ;refine ae ⟨rfl,rfl,fun h=>absurd rfl h,?_⟩;refine gY (al ?_);apply qf 6 [0,1,2,3] 1 aE mixed rfl rfl rfl rfl;intro NX GN;have pJ:=GN ME;have:=an gb;replace dY:=(pJ.mem _ this).2 dY;replace gb:=pJ.aM gb;replace cV:=cV.le (by decide) pJ.le;replace ho:=ho.a8 pJ;replace eO:=(pJ.mem _ (an hW.at_)).2 eO;replace hW:=hW.a8 pJ;replace hR:=hR.a8 pJ;replace hM:=pJ.lt hM;have:=S.size;replace S:=S.aB pJ;refine ah rfl rfl ?_;refine ae ⟨rfl,rfl,rfl,?_⟩;refine bm rfl ⟨_,rfl⟩ rfl ?_;refine ae ⟨rfl,rfl,rfl,?_⟩;refine bz (o':=2) dI rfl rfl I3 (by decide) rfl rfl ?_;refine ae ⟨rfl,rfl,rfl,?_⟩;refine aX az rfl rfl rfl (by first|assumption|exact cC pJ (by assumption)) rfl ?_;refine ae ⟨rfl,rfl,rfl,?_⟩;refine ay (M:=ME) (A:=RT.en) (B:=RT.dc) cP rfl rfl kQ (by decide) KB rfl rfl (by decide) cV (ao _ _) (fun aff Pk=>?_);refine ae ⟨rfl,rfl,rfl,?_⟩;refine ch (M:=ME) (A:=RT.dc) aO rfl kQ (by decide) rfl rfl rfl Pk (ao _ _) (fun afg Pl=>?_);refine ae ⟨rfl,rfl,rfl,?_⟩;refine dU ?_;refine⟨ew ⟨eE,⟨bF.nilCheck rfl,⟨fj dI rfl I3 (by decide),⟨dC rfl gb (fun h=>h),trivial⟩⟩⟩⟩,?_⟩;have kp:=eU aE NX;refine aP rfl rfl aaa (Bg _ hM Pl hl hF.few) (fun r14 Tz hc=>?_);obtain⟨rfl,kA⟩:=hc;have:=an gb;replace dY:=(kA.mem _ this).2 dY;replace gb:=kA.aM gb;replace cV:=cV.le (by decide) kA.le;replace ho:=ho.a8 kA;replace eO:=(kA.mem _ (an hW.at_)).2 eO;replace hW:=hW.a8 kA;replace hR:=hR.a8 kA;replace hM:=kA.lt hM;have:=S.size;replace S:=S.aB kA;refine(fun(kp:dX _ _ _)=>ae ⟨rfl,rfl,fun _=>kp,?_⟩) (by first|exact kp|exact kp.mZ (by assumption)|exact kp.goN (by assumption)|exact kp.go (by assumption) (fun _ _ h=>by first|exact h|exact h.elim))
     have:=hF.many;refine bI rfl rfl rfl (by omega) ?_;refine ae ⟨rfl,rfl,fun h=>absurd rfl h,?_⟩;refine bm rfl ⟨_,rfl⟩ rfl ?_;refine ae ⟨rfl,rfl,fun h=>absurd rfl h,?_⟩;refine bz (o':=2) dI rfl rfl I3 (by decide) rfl rfl ?_;refine ae ⟨rfl,rfl,fun h=>absurd rfl h,?_⟩;refine ck (M:=ME) I3 rfl rfl gb rfl (rfl) dY (fun Pm Iu nI=>?_);change Pm.heap[_]? =some (Obj.cells #[BA,.map (some mb),.int .i64 (words+((ma e).length:Int)),.int .i64 last] _ _)at Iu;have:=an gb;replace dY:=(nI.mem _ this).2 dY;replace cV:=cV.le (by decide) nI.le;replace ho:=ho.step nI (fun c hc (h:_=_)=>by first|exact ho.eW gb (by decide) (h▸hc)|exact ho.eW nG (by decide) (h▸hc));replace eO:=(nI.mem _ (an hW.at_)).2 eO;replace hW:=hW.step nI (by first|exact fun h=>ho.j6 hW.at_ h|exact fun(h:mb=b)=>Mt h.symm|exact fun(h:mb=vZ)=>by have h9:=hW.at_;rw[h,nG]at h9;cases h9);replace hR:=hR.step nI (by first|exact fun k v c hv hc h=>(hR.o k v hv).iW ho (by decide) hc h|exact fun k v c hv hc (h:c=b)=>(hR.o k v hv).eW gb (by decide) (h▸hc)|exact fun k v c hv hc (h:c=vZ)=>(hR.o k v hv).eW nG (by decide) (h▸hc));replace hM:=nI.lt hM;have:=S.size;replace S:=S.trans nI (fun k hk h=>by have h:_=_:=h;subst h;first|(exfalso;omega)|(show _≤_;omega)|exact⟨by first|omega|assumption,(S.mem _ hk).1 ((nI.mem _ (an gb)).1 dY)⟩|exact .inl rfl|exact .inr rfl|exact .inr (.inl rfl)|exact .inr (.inr rfl)|exact rfl);have HQ:=Iu;clear gb;have gb:=HQ;clear HQ;refine ae ⟨rfl,rfl,fun h=>absurd rfl h,?_⟩;refine gY (al (aj (ah rfl rfl ?_)));refine ay (M:=ME) (A:=RT.en) (B:=RT.int .i64) cP rfl rfl I3 (by decide) Ti rfl rfl (by decide) cV (ao _ _) (fun afh aau=>?_);refine cr (M:=ME) az rfl rfl (by assumption) (by repeat (first|exact ao _ _|refine aU (br (by assumption)) ?_)) (fun Iv=>?_)
     refine bO (v':= .int .i64 (e.2)) rfl ?_;replace Iv: -9223372036854775808≤(e.2:Int)∧e.2≤9223372036854775807:=Iv;refine bm rfl ⟨_,rfl⟩ rfl (bz (o':=3) dI rfl rfl I3 (by decide) rfl rfl ?_);refine ck (M:=ME) I3 rfl rfl gb rfl (rfl) dY (fun MF MG jy=>?_);change MF.heap[_]? =some (Obj.cells #[BA,.map (some mb),.int .i64 (words+((ma e).length:Int)),.int .i64 e.2] _ _)at MG;have:=an gb;replace dY:=(jy.mem _ this).2 dY;replace cV:=cV.le (by decide) jy.le;replace ho:=ho.step jy (fun c hc (h:_=_)=>by first|exact ho.eW gb (by decide) (h▸hc)|exact ho.eW nG (by decide) (h▸hc));replace eO:=(jy.mem _ (an hW.at_)).2 eO;replace hW:=hW.step jy (by first|exact fun h=>ho.j6 hW.at_ h|exact fun(h:mb=b)=>Mt h.symm|exact fun(h:mb=vZ)=>by have h9:=hW.at_;rw[h,nG]at h9;cases h9);replace hR:=hR.step jy (by first|exact fun k v c hv hc h=>(hR.o k v hv).iW ho (by decide) hc h|exact fun k v c hv hc (h:c=b)=>(hR.o k v hv).eW gb (by decide) (h▸hc)|exact fun k v c hv hc (h:c=vZ)=>(hR.o k v hv).eW nG (by decide) (h▸hc));replace hM:=jy.lt hM;have:=S.size;replace S:=S.trans jy (fun k hk h=>by have h:_=_:=h;subst h;first|(exfalso;omega)|(show _≤_;omega)|exact⟨by first|omega|assumption,(S.mem _ hk).1 ((jy.mem _ (an gb)).1 dY)⟩|exact .inl rfl|exact .inr rfl|exact .inr (.inl rfl)|exact .inr (.inr rfl)|exact rfl);have HQ:=MG;clear gb;have gb:=HQ;clear HQ;refine ae (al (aj (ak rfl rfl (ae (aQ ?_)))));have ea:lN last e=0:=by unfold lN;rw[if_neg (fun h=>h (by simpa using c2)),if_neg c4]
     exact aV rfl rfl ⟨_,hM,S,by rw[ea],fun h=>absurd ea h,fun _=>⟨mb,_,es,clock,gb,dY,eO,hB,D7,ho,hW,hR.congr (fun k=>(K2 (by omega) k).symm) (fun k=>by rw[vX,dy,a7 (by omega)]),zl'⟩⟩
end Go.K
namespace Go.K
open Go.Proofs
namespace TKBldE
theorem gz:TI Tryz.prog 107 (.slice none 0 0) 1 24:=by unfold TI;kernel_rfl
theorem CZ:TI Tryz.prog 167 (.map none) 1 8:=by unfold TI;kernel_rfl
theorem Pn:Enters Tryz.prog 63:=enters Tryz.func63 rfl (by decide)
theorem aav:Enters Tryz.prog 111:=enters Tryz.func111 rfl (by decide)
theorem aaw:Enters Tryz.prog 112:=enters Tryz.func112 rfl (by decide)
end TKBldE
open TKBldE
set_option maxRecDepth 10000
theorem fe.Ed {P:Program} {kt:TypeId} {w:World} {b clock:Nat} {es:List MapEntry} (hk:P.underlying kt=some .string) (h:fe P kt w b es clock):∃ks:List (List UInt8),es.map (·.key)=ks.map sv∧ks.Nodup:=by
 have key:∀es:List MapEntry,(∀e∈es,∃l,keyOf P kt e.key=some l)→∃ks:List (List UInt8),es.map (·.key)=ks.map sv:=by
  intro es
  induction es with
  |nil=>exact fun _=>⟨[],rfl⟩
  |cons e es ih=>
   intro h;obtain⟨ks,h1⟩:=ih fun x hx=>h x (cL _ hx)
   obtain⟨l,hl⟩:=h e (cx ..);obtain⟨x,h3,_,h4⟩:=Maps.keyOf_str hk hl;exact⟨x::ks,by simp only[fo,h1,h3]⟩
 obtain⟨ks,h1⟩:=key es h.ok;refine⟨ks,h1,?_⟩;have h3:=dR.2 h.keys;rw[h1]at h3;exact(dR.1 h3).imp fun h e=>h (by rw[e])
theorem BB {M:aL} {w:World}:∀{l:List (List UInt8)},(∀x∈l,x.length≤140737488355328)→fu RT.str M w l (l.map Go.Proofs.encStr)
 |[],_=>rfl
 |x::l,h=>⟨[.string ⟨x.toArray⟩],_,rfl,⟨rfl,h x (cx ..)⟩,BB fun y hy=>h y (cL _ hy)⟩
theorem Iw (M:aL) (w:World) (M':aL) (w':World) (x:List UInt8) (vs:List Value) (h:RT.str.R M w x vs):RT.str.R M' w' x vs:=h
theorem tG {L:List En} (hF:∀x∈L,ie x.1):∀k∈gx L,k.length≤43:=fun k hk=>by
 obtain⟨e,he,h1⟩:=rN.1 hk;obtain⟨t,ht,rfl⟩:=cg.1 h1;have:=(hF e he).term ht;unfold dm;simp;omega
theorem j8 {L:List En} (hF:∀x∈L,ie x.1):(gx L).length≤500*L.length:=by
 induction L with
 |nil=>simp[gx]
 |cons e L ih=>
  have h1:=ih fun x hx=>hF x (cL _ hx)
  have h2:=yj (hF e (cx ..));show((cq (ma e)).map dm++gx L).length≤_;rw[bM,cj,dr];have h2:(cq (ma e)).length≤500:=h2;omega
theorem C2 {Z M:aL} {B b:Nat} {L:List En} {words last:Int} (w0:World) (hM:Lt M w0) (hb:mV Z M w0 B b L words last) (hF:∀x∈L,ie x.1) (hLn:L.length≤1000000):
  Spec Tryz.prog 58 #[.pointer (some ⟨b,0,none⟩)] w0 (fun v w=>(RT.str.sl).V M w (keysOf L) v∧Step M w0 M w aE):=by
 obtain⟨mb,vl,es,clock,gb,dY,eO,hB,D7,ho,hW,hR,zl⟩:=hb;obtain⟨ks,KQ,pE⟩:=hW.Ed aD
 have eN:∀x,x∈ks↔x∈gx L:=fun x=>by
  rw[←hR.k x];constructor
  ·intro hx;have:sv x∈es.map (·.key):=by rw[KQ];exact eZ hx
   obtain⟨e,he,h⟩:=cg.1 this;exact⟨e,he,h⟩
  ·rintro⟨e,he,h⟩;have:sv x∈ks.map sv:=by rw[←KQ,←h];exact eZ he
   obtain⟨y,hy,h1⟩:=cg.1 this;rw[←zr h1];exact hy
 have QD:ks.length≤500000000:=by
  have h1:=pE.length_le_of_subset (l₂:=gx L) (fun x hx=>(eN x).1 hx);have h2:=j8 hF;omega
 have hen:es.length=ks.length:=by have:=congrArg List.length KQ;simpa using this
 refine bu (args:=[_]) (fn:=Tryz.f58) Tryz.func58 rfl (n:=9) Tryz.ntmps58 ?_;have S:Step M w0 M w0 aE:=(ar _ _).cw (fun _ h=>h.elim) (fun _ h=>h.elim);refine al (aj (ak rfl rfl (ae (al (aj (ah rfl rfl (bm rfl ⟨_,rfl⟩ rfl (bz (o':=1) dI rfl rfl CZ (by decide) rfl rfl (aX gM rfl rfl rfl gb rfl (bO (v':= .map (some mb)) rfl ?_))))))))));refine aP rfl rfl aaw (CY _ _) (fun r w1 hc=>?_);obtain⟨rfl,hw1⟩:=hc;have s1:Step M w0 M w1 aE:=by rw[hw1];exact dv _ w0 _
 have LX:=xz hw1;have:=an gb;replace dY:=(s1.mem _ this).2 dY;replace gb:=s1.aM gb;replace eO:=(s1.mem _ (an hW.at_)).2 eO;replace hW:=hW.a8 s1;replace hM:=s1.lt hM;have:=S.size;replace S:=S.aB s1;obtain⟨m,hO,T7,rV⟩:=hW.ZS aD eO (by unfold maxLen;omega) ks KQ;refine aP rfl rfl aav (zu hO LX (by omega)) (fun r2 w2 hc=>?_);obtain⟨⟨ss,hss,ou,_⟩,s2⟩:=hc;have Rm:ss.Perm ks:=hss.trans T7;have Xi:=List.mergeSort_perm ss fun x y=>decide (x≤y)
 have n0:(ss.mergeSort fun x y=>decide (x≤y))=keysOf L:=OZ (Ff (Rm.nodup_iff.2 pE)) (kh L) fun x=>by rw[Xi.mem_iff,Rm.mem_iff,eN,iZ]
 have hlen:ss.length=(keysOf L).length:=by rw[←n0,List.length_mergeSort]
 rw[n0,hlen]at ou;have aay:∀x∈keysOf L,x.length≤140737488355328:=fun x hx=>by have:=tG hF x (iZ.1 hx);omega
 have rY:Own RT.str 9 (pM r2) w2 w1.heap.size r2 (keysOf L):=⟨⟨_,ou,BB aay⟩,fun b hb=>hb⟩;have nq:(RT.str.sl).V M w2 (keysOf L) r2:=rY.tell Iw (fun b hb h=>by have:=(rY.base b hb).1;have:=hM b h;omega) (by have:=Rm.length_eq;omega);have:=an gb;replace dY:=(s2.mem _ this).2 dY;replace gb:=s2.aM gb;replace eO:=(s2.mem _ (an hW.at_)).2 eO;replace hW:=hW.a8 s2;replace hM:=s2.lt hM;have:=S.size;replace S:=S.aB s2;refine ak rfl rfl (ae (aQ ?_));exact aV rfl rfl ⟨nq,S⟩
theorem C3 {Z M:aL} {B b:Nat} {L:List En} {words last:Int} {k:List UInt8} (w0:World) (hM:Lt M w0) (hb:mV Z M w0 B b L words last) (hF:∀x∈L,ie x.1) (hLn:L.length≤1000000) (FP:k.length≤140737488355328):
  Spec Tryz.prog 59 #[.pointer (some ⟨b,0,none⟩),sv k] w0 (fun v w=>(RT.po.sl).V M w (pk L k) v∧Step M w0 M w aE):=by
 have gB:=hM;obtain⟨mb,vl,es,clock,gb,dY,eO,hB,D7,ho,hW,hR,zl⟩:=hb;obtain⟨kl,J8⟩:=Ih k FP;obtain⟨yM,T8⟩:=mu k L 0 hF;replace yM:(pk L k).length≤L.length:=yM;replace T8:∀p∈pk L k,_:=T8;refine bu (args:=[_,_]) (fn:=Tryz.f59) Tryz.func59 rfl (n:=30) Tryz.ntmps59 ?_;have S:Step M w0 M w0 aE:=(ar _ _).cw (fun _ h=>h.elim) (fun _ h=>h.elim);refine al (aj (ak rfl rfl (ae (al (aj (ak rfl rfl (ae (al (al (aj (ah rfl rfl ?_)))))))))));refine bm rfl ⟨_,rfl⟩ rfl (bz (o':=1) dI rfl rfl CZ (by decide) rfl rfl (aX gM rfl rfl rfl gb rfl (bO (v':= .map (some mb)) rfl (ah rfl rfl ?_))));refine Rg.rn gM rv gz rfl rfl rfl J8 hW (fun JJ mM=>?_);have pX:=hR.o _ _ mM;have JF:∀c,JJ.ownBlock=some c→c<w0.heap.size:=fun c hc=>(pX.base c hc).2
 clear hR hW ho;refine ik aK rfl pX rfl (ah rfl rfl (ae (bh ?_)));refine dz (σ:=Nat×Value) (fun q=>[(5,q.2),(13,JJ),(14,.int .i64 ((pk L k).length:Int)),(15,.int .i64 (q.1:Int))]) (fun q w=>∃M',Lt M' w∧Step M w0 M' w aE∧Own RT.po 153 M' w w0.heap.size q.2 ((pk L k).take q.1)∧Own RT.po 153 M' w B JJ (pk L k)∧q.1≤(pk L k).length) (fun q=>(pk L k).length-q.1) (0,.slice none 0 0) (.cons rfl (.cons rfl (.cons rfl (.cons rfl .nil)))) ?_ ?_
 ·exact⟨M,hM,S,dQ _ _ _ _ _,pX,bH _⟩
 ·clear hM S pX;rintro⟨i,u⟩ w ⟨M1,hM,S,hu,pX,hi⟩;dsimp only at hu hi ⊢;refine al (aj (cz rfl rfl rfl (ae (al ?_))));refine bQ rfl (fun c3=>?_) (fun c3=>?_)
  ·refine aZ (al (bh (al (aj ?_))));refine Rg.Z3 aK fv (by decide) rfl rfl rfl pX (by omega) (fun u4 p zT hY=>?_);rw[aC]at zT;have hp:=T8 p (aG zT);refine Rg.Ig (A:=RT.po) bA rfl fv rfl rfl rfl hY (fun v4 nX=>?_);refine ug (A:=RT.po) (M:=M1) fv rfl rfl rfl rfl rfl (by assumption) (ao _ _) hM (fun EI N4 jt pK Ss=>?_);replace hu:=hu.a8 pK;replace pX:=pX.a8 pK;replace hM:=pK.lt hM;have:=S.size;replace S:=S.aB pK;refine ae ?_;apply qf 5 [0,1,2] 3 aE mixed rfl rfl rfl rfl;intro L3 K7;have pL:=K7 M1;replace jt:=jt.le (by decide) pL.le;replace hu:=hu.a8 pL;replace pX:=pX.a8 pL;replace hM:=pL.lt hM;have:=S.size;replace S:=S.aB pL;refine ah rfl rfl ?_;refine ae ⟨rfl,rfl,rfl,?_⟩;refine ay (M:=M1) (A:=RT.po) (B:=RT.int .i64) bA rfl rfl I3 (by decide) (Ao) rfl rfl (by decide) (by assumption) (by repeat (first|exact ao _ _|refine aU (br (by assumption)) ?_)) (fun St GW=>?_);refine ae ⟨rfl,rfl,rfl,?_⟩;refine cr (M:=M1) az rfl rfl (by assumption) (by repeat (first|exact ao _ _|refine aU (br (by assumption)) ?_)) (fun LY=>?_);refine ae ⟨rfl,rfl,rfl,?_⟩;refine ay (M:=M1) (A:=RT.po) (B:=(RT.int .i64).sl) bA rfl rfl jR (by decide) (J4) rfl rfl (by decide) (by assumption) (by repeat (first|exact ao _ _|refine aU (br (by assumption)) ?_)) (fun SO AQ=>?_);refine ae ⟨rfl,rfl,rfl,?_⟩;refine bg (M:=M1) ax rfl rfl rfl rfl rfl (by assumption) (by repeat (first|exact ao _ _|refine aU (br (by assumption)) ?_)) (fun ai5 T9=>?_);refine ae ⟨rfl,rfl,rfl,?_⟩;refine dU ?_;obtain⟨bb,oo,cs,ee,fr,rfl,ku,_⟩:=GW.float;refine⟨ew ⟨eE,⟨fj bA rfl I3 (by decide),⟨dC rfl ku (fun h=>h),trivial⟩⟩⟩,?_⟩
   have kp:=eU aE L3;refine aP rfl rfl Pn (oZ hM T9 (by omega)) (fun v5 w5 hc=>?_);obtain⟨pW,s5⟩:=hc;replace jt:=jt.le (by decide) s5.le;replace hu:=hu.a8 s5;replace pX:=pX.a8 s5;replace hM:=s5.lt hM;have:=S.size;replace S:=S.aB s5;refine(fun(kp:dX _ _ _)=>ae ⟨rfl,rfl,fun _=>kp,?_⟩) (by first|exact kp|exact kp.mZ (by assumption)|exact kp.goN (by assumption)|exact kp.go (by assumption) (fun _ _ h=>by first|exact h|exact h.elim));refine eT (places:=[(0,1),(1,1)]) bA fv Gp rfl ⟨_,_,rfl,rfl,_,_,rfl,rfl,rfl⟩ (out:=[_,_]) ⟨0,[_],rfl,rfl,by simp[Value.cells],1,[_],rfl,fM pW,by simp[Value.cells],rfl⟩ ?_;have zy:RT.po.V M1 _ p _:=eC (gC LY) pW rfl rfl rfl rfl;refine(fun(kp:dX _ _ _)=>ae ⟨rfl,rfl,fun _=>kp,?_⟩) (by first|exact kp|exact kp.mZ (by assumption)|exact kp.goN (by assumption)|exact kp.go (by assumption) (fun _ _ h=>by first|exact h|exact h.elim));refine eA (A:=RT.po) (hn:=by decide) (M:=M1) aK fv (by decide) rfl rfl hM (zy) (.inl rfl) (fun ai6 ai7 Ix Fs=>?_);replace jt:=jt.le (by decide) Fs.le;replace pW:=pW.le Fs.le;replace hu:=hu.a8 Fs;replace pX:=pX.a8 Fs;replace hM:=Fs.lt hM;have:=S.size;replace S:=S.aB Fs;refine(fun(kp:dX _ _ _)=>ae ⟨rfl,rfl,fun _=>kp,?_⟩) (by first|exact kp|exact kp.mZ (by assumption)|exact kp.goN (by assumption)|exact kp.go (by assumption) (fun _ _ h=>by first|exact h|exact h.elim));refine cv (M:=M1) (base:=w0.heap.size) aK fv rfl rfl rfl rfl hu Ix (ao _ _) (by simp;omega) (by simp;omega) (S.size) (fun Ua aaz aaA Ub ry=>?_);replace jt:=jt.le (by decide) ry.le;replace pW:=pW.le ry.le;replace Ix:=Ix.le ry.le;replace pX:=pX.step ry (fun c hc h=>by have:=JF c hc;have:=(hu.base c h).1;omega);replace hM:=ry.lt hM;have:=S.size;replace S:=S.cF ry hu (aT _);replace hu:=Ub;refine ae ⟨rfl,rfl,fun h=>absurd rfl h,?_⟩
   refine ak rfl rfl ?_;refine ae ⟨rfl,rfl,fun h=>absurd rfl h,?_⟩;refine gY (aj (bI rfl rfl rfl (by omega) (ah rfl rfl (ae ?_))));refine⟨rfl,(i+1,Ua),(.cons rfl (.cons rfl (.cons rfl (.cons rfl .nil)))),?_,?_⟩
   ·exact⟨aaz,hM,S,by rw[bP,zT,cn];exact hu,pX,by dsimp only;omega⟩
   ·dsimp only;omega
  ·refine cY (al (aj (ah rfl rfl (ak rfl rfl (ae (aQ ?_))))));rw[a7 (by omega)]at hu;exact aV rfl rfl ⟨hu.close gB S (by omega),S.back⟩
end Go.K
namespace Go.K
open Go.Proofs
namespace TKBldF
theorem aaB:TI Tryz.prog 190 (.agg #[(.slice none 0 0),(.slice none 0 0)]) 2 48:=by unfold TI;kernel_rfl
theorem aaC:placesOf Tryz.prog 190=[(0,1),(1,1)].map some:=by kernel_rfl
theorem aaD:Enters Tryz.prog 176:=enters Tryz.func176 rfl (by decide)
theorem aaE:Enters Tryz.prog 177:=enters Tryz.func177 rfl (by decide)
theorem aaF:Enters Tryz.prog 178:=enters Tryz.func178 rfl (by decide)
end TKBldF
open TKBldF
set_option maxRecDepth 10000
def BC:Option (List UInt8)→List (List UInt8)→Bool
 |_,[]=>true
 |o,x::l=>(match o with|none=>true|some a=>decide (a<x))&&BC (some x) l
theorem we {l:List (List UInt8)} {k:Nat} {x:List UInt8} (h:l[k]? =some x) (o:Option (List UInt8)):BC o (l.drop k)=((match o with|none=>true|some a=>decide (a<x))&&BC (some x) (l.drop (k+1))):=by
 obtain⟨dW,he⟩:=aw.1 h;rw[eB dW,he];rfl
theorem BD {a:List UInt8}:∀{l:List (List UInt8)},xa (a::l)→BC (some a) l=true
 |[],_=>rfl
 |x::l,h=>by
  have h':=iT.1 h;simp only[BC,bT,decide_eq_true_eq];exact⟨h'.1 x (cx ..),BD h'.2⟩
theorem Pp:∀{l:List (List UInt8)},xa l→BC none l=true
 |[],_=>rfl
 |x::l,h=>by simp only[BC,fQ];exact BD h
theorem Ft {M:aL} {v:Value} {l:List Int} (w0:World) (hv:((RT.int .i64).sl).V M w0 l v):
  Spec Tryz.prog 124 #[v] w0 (fun v' w'=>v'= .bool (eI (-1) l)∧w'=w0):=by
 have hlen:=dK hv;refine bu (args:=[_]) (fn:=Tryz.f124) Tryz.func124 rfl (n:=28) Tryz.ntmps124 (al (aj (ak rfl rfl (ae (al (al (aj (ah rfl rfl (bK ax rfl hv rfl (ah rfl rfl (ae ?_)))))))))));refine bh ?_;refine dz (σ:=Nat×Int) (fun s=>[(0,v),(5,v),(6,.int .i64 l.length),(7,.int .i64 s.1)]) (fun s w=>w=w0∧s.1≤l.length∧eI (-1) l=eI s.2 (l.drop s.1)∧ -1≤s.2∧(s.1=0→s.2= -1)∧(0<s.1→l[s.1-1]? =some s.2)) (fun s=>l.length-s.1) (0,-1) (.cons rfl (.cons rfl (.cons rfl (.cons rfl .nil)))) ?_ ?_
 ·exact⟨rfl,bH _,rfl,by decide,fun _=>rfl,fun h=>absurd h (od 0)⟩
 ·rintro⟨k,last⟩ w1 ⟨rfl,hk,hr,NN,h0,h1⟩;dsimp only at hk hr NN h0 h1 ⊢;refine al (aj (cz rfl rfl rfl (ae (al ?_))));refine bQ rfl (fun c2=>?_) (fun c2=>?_)
  ·refine aZ (al (bh (al (aj (ah rfl rfl ?_)))));obtain⟨x,hx⟩:∃x,l[k]? =some x:=⟨_,av (by omega)⟩;refine cu (M:=M) ax I3 rfl rfl rfl hv (ao _ _) (by omega) (fun u a hg hu=>?_);obtain rfl:x=a:=dL (aN (hg.symm.trans (by simpa using hx)));refine cr (M:=M) az rfl rfl hu (ao _ _) (fun inx=>?_);refine ak rfl rfl (ak rfl rfl (ae (al (aj (ah rfl rfl (cz rfl rfl rfl (ah rfl rfl ?_)))))));refine aR (g:=14) rfl (fun pN=>?_) (fun pN=>?_)
   ·refine au rfl rfl rfl rfl (au rfl rfl rfl rfl (au rfl rfl rfl rfl (cH rfl rfl rfl (cH rfl rfl rfl (cH rfl rfl rfl (cH rfl rfl rfl (cH rfl rfl rfl (cH rfl rfl rfl (cH rfl rfl rfl (au rfl rfl rfl rfl (aW rfl rfl rfl ?_)))))))))));refine ae (kW rfl (al (aj (ak rfl rfl (ae (aQ ?_))))));refine aV rfl rfl ⟨congrArg Value.bool (dL ?_),rfl⟩;rw[hr,ez hx,decide_eq_false (show¬last<x by omega),Bool.false_and]
   ·refine aq rfl rfl (ah rfl rfl (aq rfl rfl (lW rfl rfl rfl (aq rfl rfl (ah rfl rfl ?_)))));refine aR (g:=17) rfl (fun Ci=>?_) (fun Ci=>?_)
    ·refine aq rfl rfl (ah rfl rfl (aq rfl rfl (ah rfl rfl (aq rfl rfl (ah rfl rfl (aq rfl rfl (gJ rfl rfl rfl (by omega) (aq rfl rfl ?_))))))));refine cu (M:=M) ax I3 rfl rfl rfl hv (ao _ _) (by omega) (fun u2 a hg jP=>?_);obtain rfl:last=a:=dL (aN (hg.symm.trans (by rw[show((k:Int)-1).toNat=k-1 from by omega];exact h1 (by omega))));refine aq rfl rfl ?_;refine cr (M:=M) az rfl rfl jP (ao _ _) (fun inl=>?_);refine aq rfl rfl (fq rfl rfl rfl (aq rfl rfl (aW rfl rfl rfl (aJ rfl rfl rfl (ae ?_)))));refine bQ rfl (fun c4=>?_) (fun c4=>?_)
     ·refine al (aj (ak rfl rfl (ae (aQ ?_))));refine aV rfl rfl ⟨congrArg Value.bool (dL ?_),rfl⟩;rw[hr,ez hx,decide_eq_false (show¬last<x by omega),Bool.false_and]
     ·refine aZ (aj (bI rfl rfl rfl (by omega) (ah rfl rfl (ae ?_))));refine⟨rfl,(k+1,x),(.cons rfl (.cons rfl (.cons rfl (.cons rfl .nil)))),?_,?_⟩
      ·refine⟨rfl,by simp only;omega,?_,by simp only;omega,fun h=>by simp at h,fun _=>by simpa using hx⟩;rw[hr,ez hx,decide_eq_true (show last<x by omega),fQ]
      ·simp only;omega
    ·refine au rfl rfl rfl rfl (au rfl rfl rfl rfl (au rfl rfl rfl rfl (au rfl rfl rfl rfl (au rfl rfl rfl rfl (au rfl rfl rfl rfl (au rfl rfl rfl rfl (aq rfl rfl (aJ rfl rfl rfl (aJ rfl rfl rfl (ae (iY rfl ?_)))))))))));refine aZ (aj (bI rfl rfl rfl (by omega) (ah rfl rfl (ae ?_))));refine⟨rfl,(k+1,x),(.cons rfl (.cons rfl (.cons rfl (.cons rfl .nil)))),?_,?_⟩
     ·refine⟨rfl,by simp only;omega,?_,by simp only;omega,fun h=>by simp at h,fun _=>by simpa using hx⟩;rw[hr,ez hx,decide_eq_true (show last<x by omega),fQ]
     ·simp only;omega
  ·refine cY (al (aj (ak rfl rfl (ae (aQ ?_)))));refine aV rfl rfl ⟨congrArg Value.bool (dL ?_),rfl⟩;rw[hr,ec (by omega)];rfl
theorem BE {M:aL} {v:Value} {l:List (List UInt8)} (w0:World) (hv:(RT.str.sl).V M w0 l v):
  Spec Tryz.prog 176 #[v] w0 (fun v' w'=>v'= .bool (BC none l)∧w'=w0):=by
 have hlen:=dK hv;refine bu (args:=[_]) (fn:=Tryz.f176) Tryz.func176 rfl (n:=24) Tryz.ntmps176 (al (aj (ak rfl rfl (ae (al (al (aj (ah rfl rfl (bK aF rfl hv rfl (ah rfl rfl (ae ?_)))))))))));refine bh ?_;refine dz (σ:=Nat×Option (List UInt8)) (fun s=>[(0,v),(5,v),(6,.int .i64 l.length),(7,.int .i64 s.1)]) (fun s w=>w=w0∧s.1≤l.length∧BC none l=BC s.2 (l.drop s.1)∧(s.1=0→s.2=none)∧(0<s.1→∃a,s.2=some a∧l[s.1-1]? =some a)) (fun s=>l.length-s.1) (0,none) (.cons rfl (.cons rfl (.cons rfl (.cons rfl .nil)))) ?_ ?_
 ·exact⟨rfl,bH _,rfl,fun _=>rfl,fun h=>absurd h (od 0)⟩
 ·rintro⟨k,o⟩ w1 ⟨rfl,hk,hr,h0,h1⟩;dsimp only at hk hr h0 h1 ⊢;refine al (aj (cz rfl rfl rfl (ae (al ?_))));refine bQ rfl (fun c2=>?_) (fun c2=>?_)
  ·refine aZ (al (bh (al (aj (ah rfl rfl ?_)))));obtain⟨x,hx⟩:∃x,l[k]? =some x:=⟨_,av (by omega)⟩;refine cu (M:=M) aF I9 rfl rfl rfl hv (ao _ _) (by omega) (fun u a hg hu=>?_);obtain rfl:x=a:=dL (aN (hg.symm.trans (by simpa using hx)));refine bg (M:=M) aD rfl rfl rfl rfl rfl hu (ao _ _) (fun vx tT=>?_);obtain rfl:=dP tT;refine ak rfl rfl (ak rfl rfl (ae (al (aj (ah rfl rfl (lW rfl rfl rfl (ah rfl rfl ?_)))))));refine aR (g:=14) rfl (fun pN=>?_) (fun pN=>?_)
   ·refine aq rfl rfl (ah rfl rfl (aq rfl rfl (ah rfl rfl (aq rfl rfl (ah rfl rfl (aq rfl rfl (gJ rfl rfl rfl (by omega) (aq rfl rfl ?_))))))));obtain⟨last,rfl,jJ⟩:=h1 (by omega);refine cu (M:=M) aF I9 rfl rfl rfl hv (ao _ _) (by omega) (fun u2 a hg jP=>?_);obtain rfl:last=a:=dL (aN (hg.symm.trans (by rw[show((k:Int)-1).toNat=k-1 from by omega];exact jJ)));refine aq rfl rfl ?_;refine bg (M:=M) aD rfl rfl rfl rfl rfl jP (ao _ _) (fun vl lz=>?_);obtain rfl:=dP lz;refine aq rfl rfl (Rg.OY rfl rfl rfl (aW rfl rfl rfl (ae ?_)));refine bQ rfl (fun c4=>?_) (fun c4=>?_)
    ·refine al (aj (ak rfl rfl (ae (aQ ?_))));refine aV rfl rfl ⟨congrArg Value.bool (dL ?_),rfl⟩;rw[hr,we hx];simp[c4]
    ·refine aZ (aj (bI rfl rfl rfl (by omega) (ah rfl rfl (ae ?_))));refine⟨rfl,(k+1,some x),(.cons rfl (.cons rfl (.cons rfl (.cons rfl .nil)))),?_,?_⟩
     ·refine⟨rfl,by simp only;omega,?_,fun h=>by simp at h,fun _=>⟨x,rfl,by simpa using hx⟩⟩;rw[hr,we hx]
      first
      |(rw[h0 (by omega)];simp;done)
      |(have c4':=cU.1 c4;simp[c4'];done)
     ·simp only;omega
   ·refine au rfl rfl rfl rfl (au rfl rfl rfl rfl (au rfl rfl rfl rfl (au rfl rfl rfl rfl (au rfl rfl rfl rfl (au rfl rfl rfl rfl (au rfl rfl rfl rfl (aJ rfl rfl rfl (ae (iY rfl (aZ (aj ?_)))))))))));refine bI rfl rfl rfl (by omega) (ah rfl rfl (ae ?_));refine⟨rfl,(k+1,some x),(.cons rfl (.cons rfl (.cons rfl (.cons rfl .nil)))),?_,?_⟩
    ·refine⟨rfl,by simp only;omega,?_,fun h=>by simp at h,fun _=>⟨x,rfl,by simpa using hx⟩⟩;rw[hr,we hx]
     first
     |(rw[h0 (by omega)];simp;done)
     |(have c4':=cU.1 c4;simp[c4'];done)
    ·simp only;omega
  ·refine cY (al (aj (ak rfl rfl (ae (aQ ?_)))));refine aV rfl rfl ⟨congrArg Value.bool (dL ?_),rfl⟩;rw[hr,ec (by omega)];rfl
theorem sT {α:Type} {A:RT α} {M:aL} {w:World} {v:Value} {x:α} (h:cc A M w v x):v.cells= #[v]:=by
 obtain⟨b,o,vs,rfl,_⟩:=h;rfl
theorem C4 {M:aL} {v0 v1:Value} {ns:List (List UInt8)} {ts:List Li} (w0:World) (hM:Lt M w0) (hn:(RT.str.sl).V M w0 ns v0) (ht:(((RT.li).ptr).sl).V M w0 ts v1) (hl:ns.length≤1099511627776) (JU:ts.length≤1099511627776):
  Spec Tryz.prog 128 #[v0,v1] w0 (fun v w=>∃p,v= .tuple #[p,.int .i64 (if ns.length=ts.length∧BC none ns=true then 0 else 1)]∧(ns.length=ts.length→BC none ns=true→cc RT.di M w p (ns,ts))∧Step M w0 M w aE):=by
 refine bu (args:=[_,_]) (fn:=Tryz.f128) Tryz.func128 rfl (n:=22) Tryz.ntmps128 ?_;have S:Step M w0 M w0 aE:=(ar _ _).cw (fun _ h=>h.elim) (fun _ h=>h.elim);refine al (aj (ak rfl rfl (ak rfl rfl (ae (al (al (aj (ah rfl rfl (bK aF rfl hn rfl (ah rfl rfl (bK dV rfl ht rfl ?_)))))))))));refine eS rfl rfl rfl (ah rfl rfl ?_);refine aR (g:=11) rfl (fun sy=>?_) (fun sy=>?_)
 ·refine au rfl rfl rfl rfl (au rfl rfl rfl rfl (au rfl rfl rfl rfl (aW rfl rfl rfl (ae (kW rfl (al (aj (ak rfl rfl (ak rfl rfl (ae (aQ ?_)))))))))))
  first
  |exact fa rfl rfl rfl ⟨_,by rw[if_neg (fun h=>sy (by omega))],fun h=>absurd (by omega) sy,S⟩
  |exact fa rfl rfl rfl ⟨_,by rw[if_neg (fun h=>c1 h.2)],fun _ h=>absurd h c1,S⟩
 ·refine aq rfl rfl (ah rfl rfl (aq rfl rfl ?_));refine aP rfl rfl aaD (BE _ hn) (fun r wc hc=>?_);obtain⟨rfl,rfl⟩:=hc;refine aq rfl rfl (jN rfl rfl (bO (v':= .bool (decide (¬BC none ns=true))) (by simp) (aJ rfl rfl rfl (ae ?_))));refine bQ rfl (fun c1=>?_) (fun c1=>?_)
  ·refine al (aj (ak rfl rfl (ak rfl rfl (ae (aQ ?_)))))
   first
   |exact fa rfl rfl rfl ⟨_,by rw[if_neg (fun h=>sy (by omega))],fun h=>absurd (by omega) sy,S⟩
   |exact fa rfl rfl rfl ⟨_,by rw[if_neg (fun h=>c1 h.2)],fun _ h=>absurd h c1,S⟩
  ·refine aZ (al (aj (ah rfl rfl ?_)));refine aP rfl rfl aaE (H5 hM hn hl) (fun v3 w3 hc=>?_);obtain⟨px,s3⟩:=hc;replace hn:=hn.le s3.le;replace ht:=ht.le s3.le;replace hM:=s3.lt hM;have:=S.size;replace S:=S.aB s3;refine ah rfl rfl ?_;refine aP rfl rfl aaF (KZ hM ht JU) (fun v4 w4 hc=>?_);obtain⟨nX,s4⟩:=hc;replace hn:=hn.le s4.le;replace ht:=ht.le s4.le;replace px:=px.le s4.le;replace hM:=s4.lt hM;have:=S.size;replace S:=S.aB s4;refine eT (places:=[(0,1),(1,1)]) je aaB aaC rfl ⟨_,_,rfl,rfl,_,_,rfl,rfl,rfl⟩ (out:=[_,_]) ⟨0,[_],rfl,fM px,by simp[Value.cells],1,[_],rfl,fM nX,by simp[Value.cells],rfl⟩ ?_;refine iw (A:=RT.di) (a:=(ns,ts)) rfl rfl hM (eC px nX rfl rfl rfl rfl) rfl (fun u5 w5 gU s5 _=>?_);replace hn:=hn.le s5.le;replace ht:=ht.le s5.le;replace px:=px.le s5.le;replace nX:=nX.le s5.le;replace hM:=s5.lt hM;have:=S.size;replace S:=S.aB s5;refine ak rfl rfl (ak rfl rfl (ae (aQ ?_)));exact fa rfl rfl rfl ⟨_,by rw[if_pos ⟨by omega,cU.1 c1⟩],fun _ _=>gU,S⟩
end Go.K
namespace Go.K
open Go.Proofs
set_option maxRecDepth 10000
theorem BF {M:aL} {w0:World} {v:Value} {l:List Int} (hv:((RT.int .i64).sl).V M w0 l v):
  Spec Tryz.prog 212 #[v] w0 (fun v' w'=>v'= .bool (nk l)∧w0=w'):=by
 have hlen:=dK hv;refine bu (args:=[_]) (fn:=Tryz.f212) Tryz.func212 rfl (n:=32) Tryz.ntmps212 (al (aj (ak rfl rfl (ae (al (al (aj (ah rfl rfl ?_))))))))
 first|refine bK ax rfl (by assumption) rfl ?_|refine ik ax rfl (by assumption) rfl ?_
 refine ah rfl rfl (ae (bh ?_));refine dz (σ:=Nat×Int) (fun s=>[(0,v),(5,v),(6,.int .i64 l.length),(7,.int .i64 s.1)]) (fun s w=>w0=w∧s.1≤l.length∧nk l=(eI s.2 (l.drop s.1)&&(l.drop s.1).all (fun n=>decide (n<2147483648)))∧ -1≤s.2∧(s.1=0→s.2= -1)∧(0<s.1→l[s.1-1]? =some s.2)) (fun s=>l.length-s.1) (0,-1) (.cons rfl (.cons rfl (.cons rfl (.cons rfl .nil)))) ?_ ?_
 ·exact⟨rfl,bH _,rfl,by decide,fun _=>rfl,fun h=>absurd h (od 0)⟩
 ·rintro⟨k,last⟩ w1 ⟨rfl,hk,hr,NN,h0,h1⟩;dsimp only at hk hr NN h0 h1 ⊢;refine al (aj (cz rfl rfl rfl (ae (al ?_))));refine bQ rfl (fun c2=>?_) (fun c2=>?_)
  ·refine aZ (al (bh (al (aj (ah rfl rfl ?_)))));obtain⟨x,hx⟩:∃x,l[k]? =some x:=⟨_,av (by omega)⟩;refine cu (M:=M) ax I3 rfl rfl rfl hv (ao _ _) (by omega) (fun ai8 aaH Uc afj=>?_);obtain rfl:x=aaH:=dL (aN (Uc.symm.trans (by simpa using hx)));refine cr (M:=M) az rfl rfl (by assumption) (by repeat (first|exact ao _ _|refine aU (br (by assumption)) ?_)) (fun afk=>?_);refine ak rfl rfl (ak rfl rfl (ae (al (aj (ah rfl rfl (cz rfl rfl rfl (ah rfl rfl ?_)))))));refine aR (g:=14) rfl (fun pN=>?_) (fun pN=>?_)
   ·refine au rfl rfl rfl rfl (au rfl rfl rfl rfl (aW rfl rfl rfl (ah rfl rfl (au rfl rfl rfl rfl (au rfl rfl rfl rfl (au rfl rfl rfl rfl (cH rfl rfl rfl (cH rfl rfl rfl (cH rfl rfl rfl (cH rfl rfl rfl (cH rfl rfl rfl ?_)))))))))));refine cH rfl rfl rfl (cH rfl rfl rfl (au rfl rfl rfl rfl (aW rfl rfl rfl (ae (kW rfl (al (aj (ak rfl rfl (ae (aQ ?_))))))))));refine aV rfl rfl ⟨congrArg Value.bool (dL ?_),rfl⟩;rw[hr,ez hx,oG _ hx];by_cases h7:last<x
    ·have h2: ¬x<2147483648:=by omega
     simp[h2]
    ·simp[h7]
   ·refine aq rfl rfl (ah rfl rfl (aq rfl rfl (ek rfl rfl rfl (aJ rfl rfl rfl (ah rfl rfl ?_)))));refine aR (g:=18) rfl (fun BG=>?_) (fun BG=>?_)
    ·refine au rfl rfl rfl rfl (au rfl rfl rfl rfl (au rfl rfl rfl rfl (cH rfl rfl rfl (cH rfl rfl rfl (cH rfl rfl rfl (cH rfl rfl rfl (cH rfl rfl rfl (cH rfl rfl rfl (cH rfl rfl rfl (au rfl rfl rfl rfl (aW rfl rfl rfl ?_)))))))))));refine ae (kW rfl (al (aj (ak rfl rfl (ae (aQ ?_))))));refine aV rfl rfl ⟨congrArg Value.bool (dL ?_),rfl⟩;rw[hr,ez hx,oG _ hx];by_cases h7:last<x
     ·have h2: ¬x<2147483648:=by omega
      simp[h2]
     ·simp[h7]
    ·refine aq rfl rfl (ah rfl rfl (aq rfl rfl (lW rfl rfl rfl (aq rfl rfl (ah rfl rfl ?_)))));refine aR (g:=21) rfl (fun aaI=>?_) (fun aaI=>?_)
     ·refine aq rfl rfl (ah rfl rfl (aq rfl rfl (ah rfl rfl (aq rfl rfl (ah rfl rfl (aq rfl rfl (gJ rfl rfl rfl (by omega) (aq rfl rfl ?_))))))));refine cu (M:=M) ax I3 rfl rfl rfl hv (ao _ _) (by omega) (fun afl Ud Pq aaJ=>?_);obtain rfl:last=Ud:=dL (aN (Pq.symm.trans (by rw[show((k:Int)-1).toNat=k-1 from by omega];exact h1 (by omega))));refine aq rfl rfl ?_;refine cr (M:=M) az rfl rfl (by assumption) (by repeat (first|exact ao _ _|refine aU (br (by assumption)) ?_)) (fun aaK=>?_);refine aq rfl rfl (fq rfl rfl rfl (aq rfl rfl (aW rfl rfl rfl (aJ rfl rfl rfl (ae ?_)))));refine bQ rfl (fun c4=>?_) (fun c4=>?_)
      ·refine al (aj (ak rfl rfl (ae (aQ ?_))));refine aV rfl rfl ⟨congrArg Value.bool (dL ?_),rfl⟩;rw[hr,ez hx,oG _ hx];by_cases h7:last<x
       ·have h2: ¬x<2147483648:=by omega
        simp[h2]
       ·simp[h7]
      ·refine aZ (aj (bI rfl rfl rfl (by omega) (ah rfl rfl (ae ?_))));refine⟨rfl,(k+1,x),(.cons rfl (.cons rfl (.cons rfl (.cons rfl .nil)))),?_,?_⟩
       ·refine⟨rfl,by simp only;omega,?_,by simp only;omega,fun h=>by simp at h,fun _=>by simpa using hx⟩;rw[hr,ez hx,oG _ hx,decide_eq_true (show last<x by omega),decide_eq_true (show x<2147483648 by omega),fQ,fQ]
       ·simp only;omega
     ·refine au rfl rfl rfl rfl (au rfl rfl rfl rfl (au rfl rfl rfl rfl (au rfl rfl rfl rfl (au rfl rfl rfl rfl (au rfl rfl rfl rfl (au rfl rfl rfl rfl (aq rfl rfl (aJ rfl rfl rfl (aJ rfl rfl rfl (ae (iY rfl ?_)))))))))));refine aZ (aj (bI rfl rfl rfl (by omega) (ah rfl rfl (ae ?_))));refine⟨rfl,(k+1,x),(.cons rfl (.cons rfl (.cons rfl (.cons rfl .nil)))),?_,?_⟩
      ·refine⟨rfl,by simp only;omega,?_,by simp only;omega,fun h=>by simp at h,fun _=>by simpa using hx⟩;rw[hr,ez hx,oG _ hx,decide_eq_true (show last<x by omega),decide_eq_true (show x<2147483648 by omega),fQ,fQ]
      ·simp only;omega
  ·refine cY (al (aj (ak rfl rfl (ae (aQ ?_)))));refine aV rfl rfl ⟨congrArg Value.bool (dL ?_),rfl⟩;rw[hr,ec (by omega)];rfl
theorem Fu {M:aL} {w0:World} {v:Value} {l:List Po} (hM:Lt M w0) (hv:((RT.po).sl).V M w0 l v):
  Spec Tryz.prog 171 #[v] w0 (fun v' w'=>v'= .bool (ej (-1) l)∧Step M w0 M w' aE):=by
 have hlen:=dK hv;refine bu (args:=[_]) (fn:=Tryz.f171) Tryz.func171 rfl (n:=36) Tryz.ntmps171 (al (aj (ak rfl rfl (ae (al (aj (ak rfl rfl (ae (al (al (aj ?_)))))))))));refine ah rfl rfl ?_
 first|refine bK aK rfl (by assumption) rfl ?_|refine ik aK rfl (by assumption) rfl ?_
 refine ah rfl rfl (ae (bh ?_));refine dz (σ:=Nat×Int) (fun s=>[(6,v),(7,.int .i64 l.length),(8,.int .i64 s.1),(3,.int .i64 s.2)]) (fun s w=>Step M w0 M w aE∧s.1≤l.length∧ej (-1) l=ej s.2 (l.drop s.1)) (fun s=>l.length-s.1) (0,-1) (.cons rfl (.cons rfl (.cons rfl (.cons rfl .nil)))) ?_ ?_
 ·exact⟨ar _ _,bH _,rfl⟩
 ·rintro⟨k,last⟩ w1 ⟨S,hk,hr⟩;dsimp only at hk hr ⊢;have YG:=S.lt hM;refine al (aj (cz rfl rfl rfl (ae (al ?_))));refine bQ rfl (fun c3=>?_) (fun c3=>?_)
  ·refine aZ (al (bh (al (aj ?_))));obtain⟨⟨d,ps⟩,hx⟩:∃x,l[k]? =some x:=⟨_,av (by omega)⟩;refine cu (M:=M) aK fv rfl rfl rfl (hv.le S.le) (ao _ _) (by omega) (fun Kg N2 GV AG=>?_);obtain rfl:N2=(d,ps):=aN (GV.symm.trans (by simpa using hx));refine ch (M:=M) (A:=RT.po) bA rfl fv (by decide) rfl rfl rfl (by assumption) (by repeat (first|exact ao _ _|refine aU (br (by assumption)) ?_)) (fun Kh DP=>?_);refine ug (A:=RT.po) (M:=M) fv rfl rfl rfl rfl rfl (by assumption) (by repeat (first|exact ao _ _|refine aU (br (by assumption)) ?_)) (by first|assumption|exact Step.lt (by assumption) (by assumption)|exact Step.lt (by assumption) (Step.lt (by assumption) (by assumption))) (fun EI N4 jt pK Ss=>?_);refine ae (al (al (aj ?_)));refine ay (M:=M) (A:=RT.po) (B:=RT.int .i64) bA rfl rfl I3 (by decide) (Ao) rfl rfl (by decide) (by assumption) (by repeat (first|exact ao _ _|refine aU (br (by assumption)) ?_)) (fun Sd DN=>?_);refine cr (M:=M) az rfl rfl DN (ao _ _) (fun L0=>?_);refine bO (v':= .int .i64 d) rfl ?_;simp only at L0;refine ah rfl rfl (fq rfl rfl rfl (ah rfl rfl ?_));refine aR (g:=16) rfl (fun aaL=>?_) (fun aaL=>?_)
   ·refine au rfl rfl rfl rfl (au rfl rfl rfl rfl (au rfl rfl rfl rfl (aW rfl rfl rfl (ah rfl rfl (au rfl rfl rfl rfl (au rfl rfl rfl rfl (au rfl rfl rfl rfl (au rfl rfl rfl rfl (aW rfl rfl rfl (ah rfl rfl (au rfl rfl rfl rfl ?_)))))))))));refine au rfl rfl rfl rfl (au rfl rfl rfl rfl (au rfl rfl rfl rfl (aW rfl rfl rfl (ae (kW rfl (al (aj (ak rfl rfl (ae (aQ ?_))))))))));refine aV rfl rfl ⟨congrArg Value.bool (dL ?_),S.aB pK⟩;rw[hr,lu hx]
    first
    |(rw[decide_eq_false (show¬last<d by omega)];simp;done)
    |(rw[decide_eq_false (show¬d<2147483648 by omega)];simp;done)
    |(rw[show ps=[]from hG.1 (by omega)];simp;done)
    |(simp[c5];done)
   ·refine aq rfl rfl ?_;refine ay (M:=M) (A:=RT.po) (B:=RT.int .i64) bA rfl rfl I3 (by decide) (Ao) rfl rfl (by decide) (by assumption) (by repeat (first|exact ao _ _|refine aU (br (by assumption)) ?_)) (fun ai9 Ue=>?_);refine aq rfl rfl ?_;refine cr (M:=M) az rfl rfl Ue (ao _ _) (fun afm=>?_);refine bO (v':= .int .i64 d) rfl (aq rfl rfl (ek rfl rfl rfl (aJ rfl rfl rfl (ah rfl rfl ?_))));refine aR (g:=21) rfl (fun aaM=>?_) (fun aaM=>?_)
    ·refine au rfl rfl rfl rfl (au rfl rfl rfl rfl (au rfl rfl rfl rfl (au rfl rfl rfl rfl (aW rfl rfl rfl (ah rfl rfl (au rfl rfl rfl rfl (au rfl rfl rfl rfl (au rfl rfl rfl rfl (au rfl rfl rfl rfl (aW rfl rfl rfl (ae ?_)))))))))));refine kW rfl (al (aj (ak rfl rfl (ae (aQ ?_)))));refine aV rfl rfl ⟨congrArg Value.bool (dL ?_),S.aB pK⟩;rw[hr,lu hx]
     first
     |(rw[decide_eq_false (show¬last<d by omega)];simp;done)
     |(rw[decide_eq_false (show¬d<2147483648 by omega)];simp;done)
     |(rw[show ps=[]from hG.1 (by omega)];simp;done)
     |(simp[c5];done)
    ·refine aq rfl rfl ?_;refine ay (M:=M) (A:=RT.po) (B:=(RT.int .i64).sl) bA rfl rfl jR (by decide) (J4) rfl rfl (by decide) (by assumption) (by repeat (first|exact ao _ _|refine aU (br (by assumption)) ?_)) (fun afn aaN=>?_);refine aq rfl rfl ?_;refine bg (M:=M) ax rfl rfl rfl rfl rfl (by assumption) (by repeat (first|exact ao _ _|refine aU (br (by assumption)) ?_)) (fun afo Pr=>?_);refine aq rfl rfl (bK ax rfl Pr rfl (bO (v':= .int .i64 ps.length) rfl (aq rfl rfl (mB rfl rfl rfl (aJ rfl rfl rfl (ah rfl rfl ?_))))));refine aR (g:=27) rfl (fun MH=>?_) (fun MH=>?_)
     ·refine au rfl rfl rfl rfl (au rfl rfl rfl rfl (au rfl rfl rfl rfl (au rfl rfl rfl rfl (aW rfl rfl rfl (ae (kW rfl (al (aj (ak rfl rfl (ae (aQ ?_)))))))))));refine aV rfl rfl ⟨congrArg Value.bool (dL ?_),S.aB pK⟩;rw[hr,lu hx]
      first
      |(rw[decide_eq_false (show¬last<d by omega)];simp;done)
      |(rw[decide_eq_false (show¬d<2147483648 by omega)];simp;done)
      |(rw[show ps=[]from hG.1 (by omega)];simp;done)
      |(simp[c5];done)
     ·refine aq rfl rfl ?_;refine ay (M:=M) (A:=RT.po) (B:=(RT.int .i64).sl) bA rfl rfl jR (by decide) (J4) rfl rfl (by decide) (by assumption) (by repeat (first|exact ao _ _|refine aU (br (by assumption)) ?_)) (fun afp aaO=>?_);refine aq rfl rfl ?_;refine bg (M:=M) ax rfl rfl rfl rfl rfl (by assumption) (by repeat (first|exact ao _ _|refine aU (br (by assumption)) ?_)) (fun afq Ps=>?_);refine aq rfl rfl ?_;refine aP rfl rfl X2 (BF Ps) (fun r5 w5 h5=>?_);obtain⟨rfl,rfl⟩:=h5;refine aq rfl rfl (jN rfl rfl (bO (v':= .bool (decide (¬nk ps=true))) (by simp) (aJ rfl rfl rfl (ae ?_))));refine bQ rfl (fun c5=>?_) (fun c5=>?_)
      ·refine al (aj (ak rfl rfl (ae (aQ ?_))));refine aV rfl rfl ⟨congrArg Value.bool (dL ?_),S.aB pK⟩;rw[hr,lu hx]
       first
       |(rw[decide_eq_false (show¬last<d by omega)];simp;done)
       |(rw[decide_eq_false (show¬d<2147483648 by omega)];simp;done)
       |(rw[show ps=[]from hG.1 (by omega)];simp;done)
       |(simp[c5];done)
      ·refine aZ (aj ?_);refine ay (M:=M) (A:=RT.po) (B:=RT.int .i64) bA rfl rfl I3 (by decide) (Ao) rfl rfl (by decide) (by assumption) (by repeat (first|exact ao _ _|refine aU (br (by assumption)) ?_)) (fun To D0=>?_);refine cr (M:=M) az rfl rfl D0 (ao _ _) (fun afr=>?_);refine bO (v':= .int .i64 d) rfl (ak rfl rfl (ae (aj (bI rfl rfl rfl (by omega) (ah rfl rfl (ae ?_))))));refine⟨rfl,(k+1,d),(.cons rfl (.cons rfl (.cons rfl (.cons rfl .nil)))),?_,?_⟩
       ·refine⟨S.aB pK,by simp only;omega,?_⟩
        have fg:ps.isEmpty=false:=by cases ps with
         |nil=>simp at MH
         |cons a t=>rfl
        rw[hr,lu hx,decide_eq_true (show last<d by omega),decide_eq_true (show d<2147483648 by omega),fg,cU.1 c5];rfl
       ·simp only;omega
  ·refine cY (al (aj (ak rfl rfl (ae (aQ ?_)))));refine aV rfl rfl ⟨congrArg Value.bool (dL ?_),S⟩;rw[hr,ec (by omega)];rfl
theorem C5 {M:aL} {w0:World} {v:Value} {l:List Po} (hM:Lt M w0) (hv:((RT.po).sl).V M w0 l v):
  Spec Tryz.prog 172 #[v,.int .i64 8] w0 (fun v' w'=>∃bs bn,v'= .func (.func 213) [].toArray [.pointer (some ⟨bs,0,none⟩),.pointer (some ⟨bn,0,none⟩)].toArray∧w'.heap[bs]? =some (.cells #[v] 107 (0,0))∧w'.heap[bn]? =some (.cells #[.int .i64 8] 3 (0,0))∧w0.heap.size≤bs∧w0.heap.size≤bn∧Step M w0 M w' aE):=by
 refine bu (args:=[_,_]) (fn:=Tryz.f172) Tryz.func172 rfl (n:=9) Tryz.ntmps172 (al (aj ?_));refine tO M rfl rfl (fun bs w1 h1 Gm hS s1=>?_);rw[fM hv]at hS;refine tO (ins M bs) rfl rfl (fun bn w2 h2 yH hN s2=>?_);have hS2:=s2.aM hS;have hz1:=s1.size;refine ak rfl rfl (ae (al (al (aj (aX az rfl rfl rfl hN rfl (cz rfl rfl rfl (ae (T.zZ rfl ((by decide)) (aZ (al (aj ?_)))))))))));refine jF (xs:=[]) (ys:=[.tmp 2,.tmp 3]) rfl rfl rfl (ak rfl rfl (ae (aQ ?_)));exact aV rfl rfl ⟨bs,bn,rfl,hS2,hN,h1,by omega,(s1.aB s2).back⟩
theorem BH {w0:World} {bs bn yl:Nat} {v:Value} {l:List Po} {M:aL} {wv:World} {J:Nat→World→Prop} {Jx:World→Prop} (hv:((RT.po).sl).V M wv l v) (km:∀i w w',J i w→Step aE w aE w' aE→J i w') (Iy:∀i w,J i w→w.heap[bs]? =some (.cells #[v] 107 (0,0))∧w.heap[bn]? =some (.cells #[.int .i64 8] 3 (0,0))) (hy:∀(i:Nat) (w:World) (u:Value),J i w→i<l.length→((RT.po).sl).V M wv ((l.drop i).take 8) u→uI Tryz.prog yl [u].toArray w (fun r w'=>∃b,r= .bool b∧(b=true→J (min (i+8) l.length) w')∧(b=false→Jx w'))) (h0:J 0 w0):
  Spec Tryz.prog 213 #[.func (.yield yl) #[] #[],.pointer (some ⟨bs,0,none⟩),.pointer (some ⟨bn,0,none⟩)] w0 (fun _ w'=>J l.length w'∨Jx w'):=by
 have hlen:=dK hv;refine bu (args:=[_,_,_]) (fn:=Tryz.f213) Tryz.func213 rfl (n:=31) Tryz.ntmps213 (al (aj (ak rfl rfl (ae (bh ?_)))));refine dz (σ:=Nat) (fun s=>[(0,.func (.yield yl) #[] #[]),(1,.pointer (some ⟨bs,0,none⟩)),(2,.pointer (some ⟨bn,0,none⟩)),(4,.int .i64 s)]) (fun s w=>J (min s l.length) w∧s≤l.length+8) (fun s=>l.length+8-s) 0 (.cons rfl (.cons rfl (.cons rfl (.cons rfl .nil)))) ?_ ?_
 ·exact⟨by rw[Nat.zero_min];exact h0,bH _⟩
 ·rintro k w1 ⟨hJ,hk⟩;obtain⟨zS,Jz⟩:=Iy _ _ hJ;refine al (al (aj (ah rfl rfl (aX aK rfl rfl rfl zS rfl ?_))))
  first|refine bK aK rfl (by assumption) rfl ?_|refine ik aK rfl (by assumption) rfl ?_
  refine cz rfl rfl rfl (ae ?_);refine bQ rfl (fun c1=>?_) (fun c1=>?_)
  ·refine aZ (al (bh (al ?_)));apply T.draw (M:=aE) mixed [bW.eq _,bW.eq _,bW.eq _,bW.pure (fun v=>((RT.po).sl).V M wv (l.drop k) v),bW.eq _,bW.eq _,bW.eq _]
   ·rfl
   ·refine aH ?_ ?_
    ·intro wD E sD;refine aX az rfl rfl rfl (cC sD Jz) rfl ?_;exact ae ⟨rfl,rfl,_,rfl,rfl,ar _ _⟩
    refine aH ?_ ?_
    ·intro wD E sD;refine aX aK rfl rfl rfl (cC sD zS) rfl ?_;exact ae ⟨rfl,rfl,_,rfl,rfl,ar _ _⟩
    refine aH ?_ ?_
    ·intro wD E sD;refine ah rfl rfl ?_;exact ae ⟨rfl,rfl,_,rfl,rfl,ar _ _⟩
    refine aH ?_ ?_
    ·intro wD E sD;refine aA (aA ?_);refine Rg.nf (A:=RT.po) (hn:=by decide) aK fv rfl rfl rfl hv (by omega) (fun u hu=>?_);rw[aC]at hu;exact ae ⟨rfl,rfl,_,rfl,hu,ar _ _⟩
    refine aH ?_ ?_
    ·intro wD E sD;intro v3 px;have aaP:((RT.po).sl).V M wv (l.drop k) v3:=px;refine bK aK rfl aaP rfl ?_;exact ae ⟨rfl,rfl,_,rfl,rfl,ar _ _⟩
    refine aH ?_ ?_
    ·intro wD E sD;refine aA (aA (Rg.min2 rfl rfl rfl ?_));exact ae ⟨rfl,rfl,_,rfl,rfl,ar _ _⟩
    refine aH ?_ ?_
    ·intro wD E sD;refine aA (aA (aA (aA ?_)));intro v3 px;refine aA (aA (ak rfl rfl ?_));exact ae ⟨rfl,rfl,_,rfl,rfl,ar _ _⟩
    exact rO
   ·intro QL na;refine aA (aA (aA ?_));intro N0 GR;refine aA (aA (aA ?_));rw[show min k l.length=k from by omega]at hJ;have TH:=km _ _ _ hJ na;obtain⟨hb3,K8⟩:=Iy _ _ TH;refine al (aj (ah rfl rfl (aX aK rfl rfl rfl hb3 rfl (ah rfl rfl (ah rfl rfl (ah rfl rfl (bI rfl rfl rfl (by omega) (ah rfl rfl (ah rfl rfl (bI rfl rfl rfl (by omega) ?_))))))))));refine Rg.ED (A:=RT.po) (hn:=by decide) aK fv rfl rfl rfl rfl rfl hv (by rw[dq];omega) (fun u hu=>?_)
    have he:(l.take ((k:Int)+min 8 ((l.drop k).length:Int)).toNat).drop (k:Int).toNat=(l.drop k).take 8:=by
     rw[aC,List.drop_take,dq,show((k:Int)+min 8 ((l.length-k:Nat):Int)).toNat-k=min 8 (l.length-k)from by omega,List.take_eq_take_iff,dq];omega
    rw[he]at hu;refine Rg.yield rfl (vs:=[u]) rfl rfl (hy k _ u TH (by omega) hu) (fun r4 w4 h4=>?_);obtain⟨b,rfl,L7,o0⟩:=h4;refine jN rfl rfl (bO (v':= .bool (decide (¬b=true))) (by simp) (ae ?_));refine bQ rfl (fun c4=>?_) (fun c4=>?_)
    ·refine aQ ?_;exact Aa rfl (.inr (o0 (by simpa using c4)))
    ·refine aZ (aj (ah rfl rfl ?_));have hJ5:=L7 (cU.1 c4);refine aX az rfl rfl rfl (Iy _ _ hJ5).2 rfl (bI rfl rfl rfl (by omega) (ak rfl rfl (ae ?_)));refine⟨rfl,k+8,(.cons rfl (.cons rfl (.cons rfl (.cons rfl .nil)))),?_,?_⟩
     ·exact⟨hJ5,by omega⟩
     ·show l.length+8-(k+8)<l.length+8-k;omega
  ·refine cY ?_;rw[show min k l.length=l.length from by omega]at hJ;change xf Tryz.prog Tryz.f213 (fun _ w'=>J l.length w'∨Jx w') .normal _ [] _;exact lj rfl (.inl hJ)
end Go.K
namespace Go.K
open Go.Proofs
set_option maxRecDepth 10000
structure mv (M:aL) (w0:World) (v:Value) (bo bx bl D bs bn:Nat) (st:Obj) (vb vk:Value) (tot last:Int) (b:List UInt8) (ks:List Bl) (M1:aL) (w:World):Prop where
 lt:Lt M1 w
 S:Step M w0 M1 w aE
 mo:M1 bo
 mx:M1 bx
 ml:M1 bl
 md:M1 D
 mr:M1 (D+1)
 o:w.heap[bo]? =some (.cells #[.pointer (some ⟨bx,0,none⟩)] 129 (0,0))
 x:w.heap[bx]? =some (.cells #[vb,vk,.int .i64 tot] 193 (0,0))
 l:w.heap[bl]? =some (.cells #[.int .i64 last] 3 (0,0))
 d:w.heap[D]? =some (.deferred (some []))
 r:w.heap[D+1]? =some st
 s:w.heap[bs]? =some (.cells #[v] 107 (0,0))
 n:w.heap[bn]? =some (.cells #[.int .i64 8] 3 (0,0))
 ne:bo≠bx∧bo≠bl∧bx≠bl∧bo<D∧bx<D∧bl<D∧bs<D∧bn<D∧bs≠bo∧bs≠bx∧bs≠bl∧bn≠bo∧bn≠bx∧bn≠bl∧w0.heap.size≤bo∧w0.heap.size≤bx∧w0.heap.size≤bl∧w0.heap.size≤D
 hb:(RT.u8.sl).V M1 w b vb
 hk:Own RT.bl 195 M1 w (D+2) vk ks
section
variable {M M1 M2:aL} {w0 w w':World} {v vb vk:Value} {bo bx bl D bs bn:Nat} {st:Obj} {tot last:Int} {b:List UInt8} {ks:List Bl}
theorem mv.step (h:mv M w0 v bo bx bl D bs bn st vb vk tot last b ks M1 w) (s:Step M1 w M2 w' aE):mv M w0 v bo bx bl D bs bn st vb vk tot last b ks M2 w':=
 ⟨s.lt h.lt,h.S.aB s,(s.mem _ (h.lt _ h.mo)).2 h.mo,(s.mem _ (h.lt _ h.mx)).2 h.mx,(s.mem _ (h.lt _ h.ml)).2 h.ml,(s.mem _ (h.lt _ h.md)).2 h.md,(s.mem _ (h.lt _ h.mr)).2 h.mr,
  s.aM h.o,s.aM h.x,s.aM h.l,s.aM h.d,s.aM h.r,s.aM h.s,s.aM h.n,h.ne,h.hb.le s.le,h.hk.a8 s⟩
theorem mv.K9 {n:Int} (h:mv M w0 v bo bx bl D bs bn st vb vk tot last b ks M1 w) (s:Step M1 w M1 w' (fun k=>k=bl)) (hl:w'.heap[bl]? =some (.cells #[.int .i64 n] 3 (0,0))):mv M w0 v bo bx bl D bs bn st vb vk tot n b ks M1 w':=by
 obtain⟨e1,e2,e3,e4,e5,e6,e7,e8,e9,QV,Uf,QW,QX,Ug,WS,QY,Uh,WT⟩:=h.ne
 exact⟨s.lt h.lt,h.S.cW s (fun k hk=>by subst hk;exact Uh),h.mo,h.mx,h.ml,h.md,h.mr,s.bS h.o e2,s.bS h.x e3,hl,s.bS h.d (by omega),s.bS h.r (by omega),s.bS h.s Uf,s.bS h.n Ug,h.ne,h.hb.le s.le,
  h.hk.step s (fun k hk hh=>by have:=(h.hk.base k hk).1;omega)⟩
theorem mv.Pt {vb' Pu:Value} {Ui:Int} {b':List UInt8} {Uj:List Bl} (h:mv M w0 v bo bx bl D bs bn st vb vk tot last b ks M1 w) (s:Step M1 w M1 w' (fun k=>k=bx)) (hx:w'.heap[bx]? =some (.cells #[vb',Pu,.int .i64 Ui] 193 (0,0)))
  (hb:(RT.u8.sl).V M1 w' b' vb') (hk:Own RT.bl 195 M1 w (D+2) Pu Uj):mv M w0 v bo bx bl D bs bn st vb' Pu Ui last b' Uj M1 w':=by
 obtain⟨e1,e2,e3,e4,e5,e6,e7,e8,e9,QV,Uf,QW,QX,Ug,WS,QY,Uh,WT⟩:=h.ne
 exact⟨s.lt h.lt,h.S.cW s (fun k hk=>by subst hk;exact QY),h.mo,h.mx,h.ml,h.md,h.mr,s.bS h.o e1,hx,s.bS h.l (Ne.symm e3),s.bS h.d (by omega),s.bS h.r (by omega),s.bS h.s QV,s.bS h.n QX,h.ne,hb,
  hk.step s (fun k rZ hh=>by have:=(hk.base k rZ).1;omega)⟩
theorem mv.lM {st':Obj} (h:mv M w0 v bo bx bl D bs bn st vb vk tot last b ks M1 w) (km:w.heap[D+1]? =some st):mv M w0 v bo bx bl D bs bn st' vb vk tot last b ks M1 (w.putObj (D+1) st'):=by
 have s:Step M1 w M1 (w.putObj (D+1) st') (fun k=>k=D+1):=dM h.mr;obtain⟨e1,e2,e3,e4,e5,e6,e7,e8,e9,QV,Uf,QW,QX,Ug,WS,QY,Uh,WT⟩:=h.ne
 exact⟨s.lt h.lt,h.S.cW s (fun k hk=>by subst hk;omega),h.mo,h.mx,h.ml,h.md,h.mr,s.bS h.o (by omega),s.bS h.x (by omega),s.bS h.l (by omega),s.bS h.d (by omega),tP (an km),s.bS h.s (by omega),s.bS h.n (by omega),h.ne,h.hb.le s.le,
  h.hk.step s (fun k rZ hh=>by have:=(h.hk.base k rZ).1;omega)⟩
theorem mv.other {q:Nat} (h:mv M w0 v bo bx bl D bs bn st vb vk tot last b ks M1 w) (s:Step M1 w M1 w' (fun k=>k=q)) (hq:D+1<q) (WU:∀k,vk.ownBlock=some k→k≠q):mv M w0 v bo bx bl D bs bn st vb vk tot last b ks M1 w':=by
 obtain⟨e1,e2,e3,e4,e5,e6,e7,e8,e9,QV,Uf,QW,QX,Ug,WS,QY,Uh,WT⟩:=h.ne
 exact⟨s.lt h.lt,h.S.cW s (fun k hk=>by subst hk;omega),h.mo,h.mx,h.ml,h.md,h.mr,s.bS h.o (by omega),s.bS h.x (by omega),s.bS h.l (by omega),s.bS h.d (by omega),s.bS h.r (by omega),s.bS h.s (by omega),s.bS h.n (by omega),h.ne,h.hb.le s.le,
  h.hk.step s (fun k rZ hh=>WU k rZ hh)⟩
theorem mv.grow {Pu:Value} {Uj:List Bl} (h:mv M w0 v bo bx bl D bs bn st vb vk tot last b ks M1 w) (s:Step M1 w M2 w' (fun k=>vk.ownBlock=some k)) (hk:Own RT.bl 195 M2 w' (D+2) Pu Uj):
  (w'.heap[bx]? =some (.cells #[vb,vk,.int .i64 tot] 193 (0,0))∧M2 bx∧Lt M2 w')∧∀{w2:World},Step M2 w' M2 w2 (fun k=>k=bx)→w2.heap[bx]? =some (.cells #[vb,Pu,.int .i64 tot] 193 (0,0))→mv M w0 v bo bx bl D bs bn st vb Pu tot last b Uj M2 w2:=by
 obtain⟨e1,e2,e3,e4,e5,e6,e7,e8,e9,QV,Uf,QW,QX,Ug,WS,QY,Uh,WT⟩:=h.ne;have hn:∀k,vk.ownBlock=some k→D+2≤k:=fun k hk=>(h.hk.base k hk).1
 have eN:=fun {k:Nat} (hm:M1 k)=>(s.mem k (h.lt k hm)).2 hm
 refine⟨⟨s.bS h.x (fun hh=>by have:=hn _ hh;omega),eN h.mx,s.lt h.lt⟩,fun {w2} s2 hx=>?_⟩;have S':=h.S.cW s (fun k hk=>by have:=hn k hk;omega)
 exact⟨s2.lt (s.lt h.lt),S'.cW s2 (fun k hk=>by subst hk;exact QY),eN h.mo,eN h.mx,eN h.ml,eN h.md,eN h.mr,s2.bS (s.bS h.o (fun hh=>by have:=hn _ hh;omega)) e1,hx,s2.bS (s.bS h.l (fun hh=>by have:=hn _ hh;omega)) (Ne.symm e3),
  s2.bS (s.bS h.d (fun hh=>by have:=hn _ hh;omega)) (by omega),s2.bS (s.bS h.r (fun hh=>by have:=hn _ hh;omega)) (by omega),s2.bS (s.bS h.s (fun hh=>by have:=hn _ hh;omega)) QV,s2.bS (s.bS h.n (fun hh=>by have:=hn _ hh;omega)) QX,h.ne,(h.hb.le s.le).le s2.le,
  hk.step s2 (fun k rZ hh=>by have:=(hk.base k rZ).1;omega)⟩
end
def Iz (M:aL) (w0:World) (l:List Po) (v:Value) (bo bx bl D bs bn:Nat) (st:Obj) (i:Nat) (w:World):Prop:=
 ∃(M1:aL) (vb vk:Value),mv M w0 v bo bx bl D bs bn st vb vk (iA (l.take i)) (cy (-1) (l.take i)) (dA (-1) (l.take i)) (kR l ((i+7)/8)) M1 w∧(i%8=0∨i=l.length)∧i≤l.length
theorem Pv {M:aL} {w0 w2 w3 w5 w6 w7:World} {v:Value} {l:List Po} {bo bx bl bs bn:Nat} {st:Obj} (S6:Step M w0 (ins (ins (ins M bx) bo) bl) w6 aE) (s7:Step (ins (ins (ins M bx) bo) bl) w6 (ins (ins (ins M bx) bo) bl) w7 aE) (hM:Lt M w0)
  (e1:bo<w6.heap.size) (e2:bx<w6.heap.size) (e3:bl<w6.heap.size) (n1:bo≠bx) (n2:bo≠bl) (n3:bx≠bl)
  (hO:w6.heap[bo]? =some (.cells #[.pointer (some ⟨bx,0,none⟩)] 129 (0,0))) (hX:w6.heap[bx]? =some (.cells #[.slice none 0 0,.slice none 0 0,.int .i64 0] 193 (0,0))) (hL:w6.heap[bl]? =some (.cells #[.int .i64 (-1)] 3 (0,0)))
  (hS:w7.heap[bs]? =some (.cells #[v] 107 (0,0))) (hN:w7.heap[bn]? =some (.cells #[.int .i64 8] 3 (0,0))) (hbs:w6.heap.size≤bs) (Wt:w6.heap.size≤bn)
  (g1:w0.heap.size≤bo) (g2:w0.heap.size≤bx) (g3:w0.heap.size≤bl):
  Iz M w0 l v bo bx bl w7.heap.size bs bn st 0 ((w7.alloc (.deferred (some []))).alloc st):=by
 have sA:Step (ins (ins (ins M bx) bo) bl) w7 (ins (ins (ins (ins M bx) bo) bl) w7.heap.size) (w7.alloc (.deferred (some []))) aE:=(dv _ w7 _).own (aT _) (by simp);have sB:Step (ins (ins (ins (ins M bx) bo) bl) w7.heap.size) (w7.alloc (.deferred (some []))) (ins (ins (ins (ins (ins M bx) bo) bl) w7.heap.size) (w7.heap.size+1)) ((w7.alloc (.deferred (some []))).alloc st) aE:=(dv _ _ _).own (by simp) (by simp);have z7:=s7.size;have hs7:=an hS;have hn7:=an hN;have S:=((S6.aB s7).aB sA).aB sB;have hD:(w7.alloc (.deferred (some []))).heap[w7.heap.size]? =some (.deferred (some [])):=cJ w7 _;have hR:((w7.alloc (.deferred (some []))).alloc st).heap[w7.heap.size+1]? =some st:=by have:=cJ (w7.alloc (.deferred (some []))) st;rwa [xd]at this
 have z0:=S6.size;refine⟨_,.slice none 0 0,.slice none 0 0,⟨S.lt hM,S,?_,?_,?_,?_,.inl rfl,sB.aM (sA.aM (s7.aM hO)),sB.aM (sA.aM (s7.aM hX)),sB.aM (sA.aM (s7.aM hL)),sB.aM hD,hR,sB.aM (sA.aM hS),sB.aM (sA.aM hN),by omega,iO,dQ _ _ _ _ _⟩,.inl rfl,bH _⟩
 ·exact .inr (.inr (.inr (.inl rfl)))
 ·exact .inr (.inr (.inr (.inr (.inl rfl))))
 ·exact .inr (.inr (.inl rfl))
 ·exact .inr (.inl rfl)
set_option maxHeartbeats 4000000 in
theorem sU {M:aL} {w0:World} {v:Value} {l:List Po} (hM:Lt M w0) (hv:((RT.po).sl).V M w0 l v) (ox:∀p∈l,p.2.length≤1099511627776) (xk:(dA (-1) l).length≤35184372088832) (Gf:l.length≤1099511627776) (ajc:iA l≤4611686018427387904):
  Spec Tryz.prog 126 #[v] w0 (fun v' w'=>Step M w0 M w' aE∧(ej (-1) l=true→∃p,v'= .tuple #[p,.int .i64 0]∧cc RT.li M w' p (ir l))∧(ej (-1) l=false→v'= .tuple #[.pointer none,.int .i64 1])):=by
 have hlen:=dK hv;refine mE (args:=[_]) (fn:=Tryz.f126) Tryz.func126 rfl (n:=85) Tryz.ntmps126 (al (aj (ak rfl rfl (ak rfl rfl (ae (al (al (aj (ah rfl rfl ?_)))))))));refine aP rfl rfl XS (Fu hM hv) (fun r w1 h1=>?_);obtain⟨rfl,s1⟩:=h1;refine jN rfl rfl (bO (v':= .bool (decide (¬ej (-1) l=true))) (by simp) (ae ?_));refine bQ rfl (fun c1=>?_) (fun c1=>?_)
 ·refine al (aj (ak rfl rfl (ak rfl rfl (ae (aQ ?_)))));exact J0 rfl rfl rfl ⟨s1,fun h=>absurd h c1,fun _=>rfl⟩
 ·have iV:=cU.1 c1;refine aZ (al (aj (eT (places:=[(0,1),(1,1),(2,1)]) du XD XH rfl rfl (out:=[.slice none 0 0,.slice none 0 0,.int .i64 0]) rfl ?_)));refine tO M rfl rfl (fun bx w2 Iy ajd hX s2=>?_);change w2.heap[bx]? =some (.cells #[.slice none 0 0,.slice none 0 0,.int .i64 0] 193 (0,0))at hX;refine eG (ins M bx) pH rfl (fun bo w3 Fv Uk hO s3=>?_);refine ck (M:=ins (ins M bx) bo) pH rfl rfl hO rfl rfl (.inl rfl) (fun w4 hO4 s4=>?_);refine ae (al (aj ?_));refine eG (ins (ins M bx) bo) I3 rfl (fun bl w5 ajf afu hL s5=>?_);refine ck (M:=ins (ins (ins M bx) bo) bl) I3 rfl rfl hL rfl rfl (.inl rfl) (fun w6 hL6 s6=>?_);have z1:=s1.size;have z2:=s2.size;have z3:=s3.size;have z4:=s4.size;have z5:=s5.size;have z6:=s6.size;have S6:Step M w0 (ins (ins (ins M bx) bo) bl) w6 aE:=((((s1.aB s2).aB s3).cW s4 (fun k hk=>by subst hk;omega)).aB s5).cW s6 (fun k hk=>by subst hk;omega);have hO6:=s6.bS (s5.aM hO4) (show bo≠bl by omega);have hX6:=s6.bS (s5.aM (s4.bS (s3.aM hX) (show bx≠bo by omega))) (show bx≠bl by omega);refine ae (al (al (aj (ah rfl rfl ?_))));refine aP rfl rfl XT (C5 (M:=ins (ins (ins M bx) bo) bl) (S6.lt hM) (hv.le S6.le)) (fun r w7 h7=>?_);obtain⟨bs,bn,rfl,hS7,hN7,hbs,Wt,s7⟩:=h7;have z7:=s7.size;have ajj:=an hS7;have ajk:=an hN7;refine ae (bh ?_);refine T.range (gf:=213) (lb:=[.pointer (some ⟨bs,0,none⟩),.pointer (some ⟨bn,0,none⟩)].toArray) rfl X3 (fun rec mj=>?_);obtain⟨D,hD⟩:∃D,D=w7.heap.size:=⟨_,rfl⟩;rw[←hD]at mj ⊢
  have h0:Iz M w0 l v bo bx bl D bs bn (.loop (rec .ready none)) 0 ((w7.alloc (.deferred (some []))).alloc (.loop (rec .ready none))):=by
   rw[hD]at mj ⊢;exact Pv (w2:=w7) (w3:=w7) (w5:=w7) S6 s7 hM (by omega) (by omega) (by omega) (by omega) (by omega) (by omega) hO6 hX6 hL6 hS7 hN7 hbs Wt (by omega) (by omega) (by omega)
  refine Spec.mono (BH (M:=M) (wv:=w0) (J:=Iz M w0 l v bo bx bl D bs bn (.loop (rec .ready none))) (Jx:=fun _=>False) hv (fun i w w' ⟨M1,vb,vk,h,h2⟩ s=>⟨M1,vb,vk,h.step (s.any M1),h2⟩) (fun i w ⟨M1,vb,vk,h,h2⟩=>⟨h.s,h.n⟩) (fun i wr u hJ hi hu=>?_) h0) (fun _ w3 h3=>?_)
  ·obtain⟨M1,vb,vk,h,hi8,nR⟩:=hJ;refine kY (ps:=[17]) (vs:=[u]) mj h.r rfl (by decide) (aj (ak rfl rfl (ae ?_)));refine⟨rfl,h.r,?_⟩;have h1:=h.lM (st':= .loop (rec .busy none)) h.r;generalize wr.putObj (D+1) _=wB at h1 ⊢;have hO:=h1.o;have hX:=h1.x;have hL:=h1.l;have hB:=h1.hb;have dW:=h1.lt;have rY:((l.drop i).take 8).length≤8:=by rw[bG];omega
   have ajl:((l.drop i).take 8).length=min 8 (l.length-i):=by rw[bG,dq]
   obtain⟨q1,q2,q3,q4,q5,q6,q7,q8,q9,q10,q11,q12,q13,q14,q15,q16,q17,q18⟩:=h1.ne;refine bh (al ?_);apply T.DI (M:=M1) (n:=85) _ mixed [] [bW.eq _,bW.eq _,bW.eq _,bW.eq _,bW.eq _,bW.eq _,bW.eq _,bW.eq _,bW.eq _,bW.mk' (fun p w'=>∃bq,p= .pointer (some ⟨bq,0,none⟩)∧wB.heap.size≤bq∧w'.heap[bq]? =some (.cells #[.int .i64 0,.int .i64 0,.int .i64 0,.int .i64 0] 195 (0,0))) (fun⟨bq,h1,h2,h3⟩ s=>⟨bq,h1,h2,s.aM h3⟩)]
   ·rfl
   ·rfl
   ·rfl
   ·rfl
   ·exact fun p hp=>by cases hp
   ·exact uj.none
   ·refine aY ?_ ?_
    ·intro wD E sD;refine aX cO rfl rfl rfl (cC sD (by assumption)) rfl ?_;exact ae ⟨rfl,rfl,_,rfl,rfl,ar _ _⟩
    refine aY ?_ ?_
    ·intro wD E sD;refine aA (bm rfl ⟨_,rfl⟩ rfl ?_);exact ae ⟨rfl,rfl,_,rfl,rfl,ar _ _⟩
    refine aY ?_ ?_
    ·intro wD E sD;refine aA (bz du rfl rfl yN (by decide) rfl rfl ?_);exact ae ⟨rfl,rfl,_,rfl,rfl,ar _ _⟩
    refine aY ?_ ?_
    ·intro wD E sD;refine aA (aX bj rfl rfl rfl (cC sD (by assumption)) rfl ?_);exact ae ⟨rfl,rfl,_,rfl,rfl,ar _ _⟩
    refine aY ?_ ?_
    ·intro wD E sD;refine aA ?_
     first|refine bK bj rfl (by assumption) rfl ?_|refine ik bj rfl (by assumption) rfl ?_
     exact ae ⟨rfl,rfl,_,rfl,rfl,ar _ _⟩
    refine aY ?_ ?_
    ·intro wD E sD;refine aX az rfl rfl rfl (cC sD (by assumption)) rfl ?_;exact ae ⟨rfl,rfl,_,rfl,rfl,ar _ _⟩
    refine aY ?_ ?_
    ·intro wD E sD;refine ah rfl rfl ?_;exact ae ⟨rfl,rfl,_,rfl,rfl,ar _ _⟩
    refine aY ?_ ?_
    ·intro wD E sD;refine aA ?_
     first|refine bK aK rfl (by assumption) rfl ?_|refine ik aK rfl (by assumption) rfl ?_
     exact ae ⟨rfl,rfl,_,rfl,rfl,ar _ _⟩
    refine aY ?_ ?_
    ·intro wD E sD;refine aA (aA (aA (eT (places:=[(0,1),(1,1),(2,1),(3,1)]) gL sd XI rfl ⟨_,_,rfl,rfl,_,_,rfl,rfl,_,_,rfl,rfl,rfl⟩ (out:=[.int .i64 (dA (-1) (l.take i)).length,.int .i64 (cy (-1) (l.take i)),.int .i64 0,.int .i64 ((l.drop i).take 8).length]) ⟨0,[_],rfl,rfl,by simp[Value.cells],1,[_],rfl,rfl,by simp[Value.cells],3,[_],rfl,rfl,by simp[Value.cells],rfl⟩ ?_)));exact ae ⟨rfl,rfl,_,rfl,rfl,ar _ _⟩
    refine aY ?_ ?_
    ·intro wD E sD;refine eG M1 sd rfl (fun bq wq e1 e2 e3 s=>?_);exact ae ⟨rfl,rfl,_,rfl,⟨bq,rfl,dT sD.size e1,e3⟩,s.back⟩
    exact cf.nil
   ·intro Wz JC;refine aA (aA (aA (aA (aA (aA (aA (aA (aA ?_))))))));intro ajv Ul;obtain⟨bq,rfl,NR,Yz⟩:=Ul;have LW:=an Yz;have sQ:Step M1 wB (ins M1 bq) Wz aE:=JC.own NR LW;refine eD (M:=ins M1 bq) (vs:=[.int .i64 (dA (-1) (l.take i)).length,.int .i64 (cy (-1) (l.take i)),.int .i64 0,.int .i64 ((l.drop i).take 8).length]) sd rfl rfl (by intro x hx;simp at hx;rcases hx with rfl|rfl|rfl|rfl<;>rfl) rfl rfl Yz (.inl rfl) (fun wQ hQ sQ2=>?_);refine ae ⟨rfl,?_⟩;have h2:=h1.step (sQ.cW sQ2 (fun k hk=>by subst hk;exact NR));have WU:∀k,vk.ownBlock=some k→k≠bq:=fun k hk=>by have:=(h1.hk.base k hk).2;omega
    have YA:D+1<bq:=by have:=an h1.r;omega
    have h3:mv M w0 v bo bx bl D bs bn (.loop (rec .busy none)) vb vk (iA (l.take (i+0))) (cy (-1) (l.take (i+0))) (dA (-1) (l.take (i+0))) (kR l ((i+7)/8)) (ins M1 bq) wQ:=h2;obtain⟨M2,Ou⟩:∃M2,M2=ins M1 bq:=⟨_,rfl⟩;rw[←Ou]at h3;refine al (al (aj (ah rfl rfl ?_)))
    first|refine bK aK rfl (by assumption) rfl ?_|refine ik aK rfl (by assumption) rfl ?_
    refine ah rfl rfl (ae (bh ?_));refine dz (σ:=Nat×Value) (fun s=>[(4,.pointer (some ⟨bo,0,none⟩)),(5,.pointer (some ⟨bl,0,none⟩)),(6,u),(7,.pointer (some ⟨bq,0,none⟩)),(27,u),(28,.int .i64 ((l.drop i).take 8).length),(29,.int .i64 s.1)]) (fun s w=>s.1≤((l.drop i).take 8).length∧w.heap[bq]? =some (.cells #[.int .i64 (dA (-1) (l.take i)).length,.int .i64 (cy (-1) (l.take i)),.int .i64 0,.int .i64 ((l.drop i).take 8).length] 195 (0,0))∧mv M w0 v bo bx bl D bs bn (.loop (rec .busy none)) s.2 vk (iA (l.take (i+s.1))) (cy (-1) (l.take (i+s.1))) (dA (-1) (l.take (i+s.1))) (kR l ((i+7)/8)) M2 w) (fun s=>((l.drop i).take 8).length-s.1) (0,vb) (.cons rfl (.cons rfl (.cons rfl (.cons rfl (.cons rfl (.cons rfl (.cons rfl .nil))))))) ?_ ?_
    ·exact⟨bH _,hQ,h3⟩
    ·rintro⟨j,vb⟩ wj ⟨hj,hQ,h4⟩;dsimp only at hj hQ h4 ⊢;have dW:=h4.lt;refine al (aj (cz rfl rfl rfl (ae (al ?_))));refine bQ rfl (fun c9=>?_) (fun c9=>?_)
     ·refine aZ (al (bh (al (aj ?_))));obtain⟨⟨d,ps⟩,hx⟩:∃x,l[i+j]? =some x:=⟨_,av (by omega)⟩;obtain⟨f1,f2,f3,f4,f5,f6⟩:=mn iV hx;obtain⟨f7,f8⟩:=j0.1 f4;have fps:=ox _ (aG hx);have fb:=kf l (i+j);have ft:=Ar l (i+j);have ft2:=Ar l (i+j+1);rw[uL hx]at ft2;have ftk:=lr (-1) hx;have ftl:=kf l (i+j+1);simp only at fps;refine cu (M:=M2) aK fv rfl rfl rfl (hu.le h4.S.le) (ao _ _) (by omega) (fun Tl Um Pw OB=>?_);obtain rfl:(d,ps)=Um:=dL (aN (Pw.symm.trans (by rw[aC,de,if_pos (by omega),oA];exact hx)));refine ch (M:=M2) (A:=RT.po) bA rfl fv (by decide) rfl rfl rfl (by assumption) (by repeat (first|exact ao _ _|refine aU (br (by assumption)) ?_)) (fun Tn Ht=>?_);refine ug (A:=RT.po) (M:=M2) fv rfl rfl rfl rfl rfl (by assumption) (by repeat (first|exact ao _ _|refine aU (br (by assumption)) ?_)) (by first|assumption|exact Step.lt (by assumption) (by assumption)|exact Step.lt (by assumption) (Step.lt (by assumption) (by assumption))) (fun afz afA Px MI afB=>?_);refine ae (al ?_);have h5:=h4.step MI;have hO:=h5.o;have hX:=h5.x;have hL:=h5.l;have hB:=h5.hb;have dW:=h5.lt;have hp0:=Px;apply T.DI (M:=M2) (n:=85) _ mixed [] [bW.eq _,bW.eq _,bW.eq _,bW.eq _,bW.eq _,bW.ptr (RT.int .i64) d,bW.eq (.int .i64 d),bW.eq _,bW.eq _,bW.eq (.int .i64 (((d-cy (-1) (l.take (i+j))-1).toNat:Nat):Int)),bW.V (RT.u8.sl) (dA (-1) (l.take (i+j))++put (d-cy (-1) (l.take (i+j))-1).toNat),bW.eq _,bW.eq _]
      ·rfl
      ·rfl
      ·rfl
      ·rfl
      ·exact fun p hp=>by cases hp
      ·exact uj.none
      ·refine aY ?_ ?_
       ·intro wD E sD;refine aX cO rfl rfl rfl (cC sD (by assumption)) rfl ?_;exact ae ⟨rfl,rfl,_,rfl,rfl,ar _ _⟩
       refine aY ?_ ?_
       ·intro wD E sD;refine aX cO rfl rfl rfl (cC sD (by assumption)) rfl ?_;exact ae ⟨rfl,rfl,_,rfl,rfl,ar _ _⟩
       refine aY ?_ ?_
       ·intro wD E sD;refine aA (bm rfl ⟨_,rfl⟩ rfl ?_);exact ae ⟨rfl,rfl,_,rfl,rfl,ar _ _⟩
       refine aY ?_ ?_
       ·intro wD E sD;refine aA (bz du rfl rfl yN (by decide) rfl rfl ?_);exact ae ⟨rfl,rfl,_,rfl,rfl,ar _ _⟩
       refine aY ?_ ?_
       ·intro wD E sD;refine aA (aX bj rfl rfl rfl (cC sD (by assumption)) rfl ?_);exact ae ⟨rfl,rfl,_,rfl,rfl,ar _ _⟩
       refine aY ?_ ?_
       ·intro wD E sD;refine ay (M:=M2) (A:=RT.po) (B:=RT.int .i64) bA rfl rfl I3 (by decide) (Ao) rfl rfl (by decide) (by assumption) (by repeat (first|exact ao _ _|refine aU (br (by assumption)) ?_)) (fun afC aaR=>?_);exact ae ⟨rfl,rfl,_,rfl,by assumption,ar _ _⟩
       refine aY ?_ ?_
       ·intro wD E sD;intro v5 pW;refine cr (M:=M2) az rfl rfl (by assumption) (by repeat (first|exact ao _ _|refine aU (br (by assumption)) ?_)) (fun aaS=>?_);exact ae ⟨rfl,rfl,_,rfl,rfl,ar _ _⟩
       refine aY ?_ ?_
       ·intro wD E sD;refine aX az rfl rfl rfl (cC sD (by assumption)) rfl ?_;exact ae ⟨rfl,rfl,_,rfl,rfl,ar _ _⟩
       refine aY ?_ ?_
       ·intro wD E sD;refine aA (aA (gJ rfl rfl rfl (by omega) ?_));exact ae ⟨rfl,rfl,_,rfl,rfl,ar _ _⟩
       refine aY ?_ ?_
       ·intro wD E sD;refine aA (gJ rfl rfl rfl (by omega) (bO (v':= .int .i64 (((d-cy (-1) (l.take (i+j))-1).toNat:Nat):Int)) (by congr 1;omega) ?_));exact ae ⟨rfl,rfl,_,rfl,rfl,ar _ _⟩
       refine aY ?_ ?_
       ·intro wD E sD;refine aA (aA ?_);refine aP rfl rfl ND (GG (M:=M2) (sD.lt dW) (hB.le sD.le) (by omega) (by omega)) (fun rP wP hP=>?_);exact ae ⟨rfl,rfl,_,rfl,hP.2,hP.1⟩
       refine aY ?_ ?_
       ·intro wD E sD;refine aA (aA (aA (aA (aA (aA ?_)))));intro v5 pW;refine aA (aA (aA (aA ?_)));intro v10 tY;refine bm rfl ⟨_,rfl⟩ rfl ?_;exact ae ⟨rfl,rfl,_,rfl,rfl,ar _ _⟩
       refine aY ?_ ?_
       ·intro wD E sD;refine aA (aA (aA (aA (aA (aA ?_)))));intro v5 pW;refine aA (aA (aA (aA ?_)));intro v10 tY;refine bz du rfl rfl yN (by decide) rfl rfl ?_;exact ae ⟨rfl,rfl,_,rfl,rfl,ar _ _⟩
       exact cf.nil
      ·intro Fq iu;refine aA (aA (aA (aA (aA ?_))));intro afD aaT;refine aA (aA (aA (aA ?_)));intro aaU Ee;refine aA (aA ?_);have h6:=h5.step iu;have hp6:=hp0.le (by decide) iu.le;refine ck (M:=M2) yN rfl rfl h6.x rfl (jq Ee rfl rfl) h6.mx (fun WV aaV rM=>?_);refine ae ⟨rfl,?_⟩;have h7:=h6.Pt rM aaV (RT.V.le rM.le Ee) h6.hk;have QH:=hp6.le (by decide) rM.le;refine al ?_;have hO:=h7.o;have hX:=h7.x;have hB:=h7.hb;have dW:=h7.lt;have fbl:(dA (-1) (l.take (i+j))++put (d-cy (-1) (l.take (i+j))-1).toNat).length≤35184372088832:=by rw[ftk]at ftl;simp only[bM]at ftl ⊢;omega
       apply T.LO (M:=M2) mixed [(13,fun k=>k=bx)] [bW.eq _,bW.eq _,bW.eq _,bW.eq _,bW.eq _,bW.ptr ((RT.int .i64).sl) ps,bW.V ((RT.int .i64).sl) ps,⟨fun t w=>∃x,t= .tuple #[x,.int .i64 0]∧(RT.u8.sl).V M2 w (dA (-1) (l.take (i+j))++put (d-cy (-1) (l.take (i+j))-1).toNat++dO ps) x,Eu,fun⟨x,h1,h2⟩ s _=>⟨x,h1,h2.le s.le⟩⟩,⟨fun t w=>∃x,t= .tuple #[x,.int .i64 0]∧(RT.u8.sl).V M2 w (dA (-1) (l.take (i+j))++put (d-cy (-1) (l.take (i+j))-1).toNat++dO ps) x,Eu,fun⟨x,h1,h2⟩ s _=>⟨x,h1,h2.le s.le⟩⟩,bW.V (RT.u8.sl) (dA (-1) (l.take (i+j))++put (d-cy (-1) (l.take (i+j))-1).toNat++dO ps),bW.eq (.int .i64 0),bW.eq _,bW.eq _,⟨fun _ w=>∃x,w.heap[bx]? =some (.cells #[x,vk,.int .i64 (iA (l.take (i+j)))] 193 (0,0))∧(RT.u8.sl).V M2 w (dA (-1) (l.take (i+j))++put (d-cy (-1) (l.take (i+j))-1).toNat++dO ps) x,fun k=>k≠bx,fun⟨x,h1,h2⟩ s hN=>⟨x,s.bS h1 (fun hb=>hN _ hb rfl),h2.le s.le⟩⟩]
       ·rfl
       ·intro p hp b hb;simp only[cI]at hp;subst hp
        cases hb;exact h7.mx
       ·exact⟨fun _ _ _ _=>trivial,⟨fun _ _ _ _=>trivial,⟨fun _ _ _ _=>trivial,⟨fun _ _ _ _=>trivial,⟨fun _ _ _ _=>trivial,⟨fun _ _ _ _=>trivial,⟨fun _ _ _ _=>trivial,⟨fun _ _ _ _=>trivial,⟨fun _ _ _ _=>trivial,⟨fun _ _ _ _=>trivial,⟨fun _ _ _ _=>trivial,⟨fun _ _ _ _=>trivial,⟨fun _ _ _ _=>trivial,⟨fun p hp=>by simp at hp,trivial⟩⟩⟩⟩⟩⟩⟩⟩⟩⟩⟩⟩⟩⟩
       ·refine aH ?_ ?_
        ·intro wD E sD;replace sD:Step M2 _ M2 wD aE:=sD;refine aX cO rfl rfl rfl (cC sD (by assumption)) rfl ?_;exact ae ⟨rfl,rfl,_,rfl,rfl,ar _ _⟩
        refine aH ?_ ?_
        ·intro wD E sD;replace sD:Step M2 _ M2 wD aE:=sD;refine aX cO rfl rfl rfl (cC sD (by assumption)) rfl ?_;exact ae ⟨rfl,rfl,_,rfl,rfl,ar _ _⟩
        refine aH ?_ ?_
        ·intro wD E sD;replace sD:Step M2 _ M2 wD aE:=sD;refine aA (bm rfl ⟨_,rfl⟩ rfl ?_);exact ae ⟨rfl,rfl,_,rfl,rfl,ar _ _⟩
        refine aH ?_ ?_
        ·intro wD E sD;replace sD:Step M2 _ M2 wD aE:=sD;refine aA (bz du rfl rfl yN (by decide) rfl rfl ?_);exact ae ⟨rfl,rfl,_,rfl,rfl,ar _ _⟩
        refine aH ?_ ?_
        ·intro wD E sD;replace sD:Step M2 _ M2 wD aE:=sD;refine aA (aX bj rfl rfl rfl (cC sD (by assumption)) rfl ?_);exact ae ⟨rfl,rfl,_,rfl,rfl,ar _ _⟩
        refine aH ?_ ?_
        ·intro wD E sD;replace sD:Step M2 _ M2 wD aE:=sD;refine ay (M:=M2) (A:=RT.po) (B:=(RT.int .i64).sl) bA rfl rfl jR (by decide) J4 rfl rfl (by decide) QH sD.le (fun uf mw=>?_);exact ae ⟨rfl,rfl,_,rfl,mw,ar _ _⟩
        refine aH ?_ ?_
        ·intro wD E sD;replace sD:Step M2 _ M2 wD aE:=sD;intro v5 pW;refine bg (M:=M2) ax rfl rfl rfl rfl rfl (show cc ((RT.int .i64).sl) M2 wD v5 ps from pW) (ao _ _) (fun uf mw=>?_);exact ae ⟨rfl,rfl,_,rfl,mw,ar _ _⟩
        refine aH ?_ ?_
        ·intro wD E sD;replace sD:Step M2 _ M2 wD aE:=sD;refine aA ?_;intro v6 oI;refine aP rfl rfl XU (uP (M:=M2) (sD.lt dW) (hB.le sD.le) (show((RT.int .i64).sl).V M2 wD ps v6 from oI) (by omega)) (fun rP wP hP=>?_);obtain⟨xP,sP,hP1,Un⟩:=hP;rw[if_pos f7]at hP1 Un;exact ae ⟨rfl,rfl,_,rfl,⟨xP,hP1,Un⟩,sP⟩
        refine aH ?_ ?_
        ·intro wD E sD;replace sD:Step M2 _ M2 wD aE:=sD;intro v7 pT;refine ah rfl rfl ?_;exact ae ⟨rfl,rfl,_,rfl,pT,ar _ _⟩
        refine aH ?_ ?_
        ·intro wD E sD;replace sD:Step M2 _ M2 wD aE:=sD;intro v8 rK;obtain⟨xP,rfl,Un⟩:=rK;refine bZ rfl rfl rfl ?_;exact ae ⟨rfl,rfl,_,rfl,Un,ar _ _⟩
        refine aH ?_ ?_
        ·intro wD E sD;replace sD:Step M2 _ M2 wD (fun k=>k=bx):=sD;intro v8 rK;obtain⟨xP,rfl,Un⟩:=rK;refine bZ rfl rfl rfl ?_;exact ae ⟨rfl,rfl,_,rfl,rfl,ar _ _⟩
        refine aH ?_ ?_
        ·intro wD E sD;replace sD:Step M2 _ M2 wD (fun k=>k=bx):=sD;refine aA (aA (aA (aA (aA (aA ?_)))));intro v5 pW;intro v6 oI;intro v7 pT;intro v8 rK;intro v9 zV;refine bm rfl ⟨_,rfl⟩ rfl ?_;exact ae ⟨rfl,rfl,_,rfl,rfl,ar _ _⟩
        refine aH ?_ ?_
        ·intro wD E sD;replace sD:Step M2 _ M2 wD aE:=sD;refine aA (aA (aA (aA (aA (aA ?_)))));intro v5 pW;intro v6 oI;intro v7 pT;intro v8 rK;intro v9 zV;refine bz du rfl rfl yN (by decide) rfl rfl ?_;exact ae ⟨rfl,rfl,_,rfl,rfl,ar _ _⟩
        refine aH ?_ ?_
        ·intro wD E sD;replace sD:Step M2 _ M2 wD aE:=sD;refine aA ?_;intro v9 zV;intro v7 pT;refine aA (aA (aA (aA (aA ?_))));intro v5 pW;intro v6 oI;intro v7 pT;intro v8 rK;intro v9 zV;refine ck (M:=M2) yN rfl rfl (cC sD hX) rfl (jq (A:=RT.u8.sl) zV rfl rfl) h7.mx (fun wS hXS sS=>?_);exact ae ⟨rfl,rfl,undef,rfl,⟨_,hXS,RT.V.le (A:=RT.u8.sl) sS.le zV⟩,sS⟩
        exact rO
       ·intro IA wg;replace wg:Step M2 _ M2 IA (fun k=>k=bx):=wg;refine aA (aA (aA (aA (aA ?_))));intro afF aaW;intro afG aaX;intro afH aaY;intro afI aaZ;intro afJ aa0;refine aA (aA (aA ?_));intro aa1 La;obtain⟨v12,aa2,aa3⟩:=La;have h8:=h7.Pt wg aa2 aa3 h7.hk;have hp8:=QH.le (by decide) wg.le;refine al ?_;have hO:=h8.o;have hX:=h8.x;apply T.DI (M:=M2) (n:=85) _ mixed [] [bW.eq _,bW.eq _,bW.eq _,bW.eq _,bW.ptr ((RT.int .i64).sl) ps,bW.V ((RT.int .i64).sl) ps,bW.eq (.int .i64 ps.length),bW.eq _,bW.eq _,bW.eq _]
        ·rfl
        ·rfl
        ·rfl
        ·rfl
        ·exact fun p hp=>by cases hp
        ·exact uj.none
        ·refine aY ?_ ?_
         ·intro wD E sD;refine aX cO rfl rfl rfl (cC sD (by assumption)) rfl ?_;exact ae ⟨rfl,rfl,_,rfl,rfl,ar _ _⟩
         refine aY ?_ ?_
         ·intro wD E sD;refine aA (bm rfl ⟨_,rfl⟩ rfl ?_);exact ae ⟨rfl,rfl,_,rfl,rfl,ar _ _⟩
         refine aY ?_ ?_
         ·intro wD E sD;refine aA (bz du rfl rfl I3 (by decide) rfl rfl ?_);exact ae ⟨rfl,rfl,_,rfl,rfl,ar _ _⟩
         refine aY ?_ ?_
         ·intro wD E sD;refine aA (aX az rfl rfl rfl (cC sD (by assumption)) rfl ?_);exact ae ⟨rfl,rfl,_,rfl,rfl,ar _ _⟩
         refine aY ?_ ?_
         ·intro wD E sD;refine ay (M:=M2) (A:=RT.po) (B:=(RT.int .i64).sl) bA rfl rfl jR (by decide) J4 rfl rfl (by decide) hp8 sD.le (fun uf mw=>?_);exact ae ⟨rfl,rfl,_,rfl,mw,ar _ _⟩
         refine aY ?_ ?_
         ·intro wD E sD;intro v4 nX;refine bg (M:=M2) ax rfl rfl rfl rfl rfl (show cc ((RT.int .i64).sl) M2 wD v4 ps from nX) (ao _ _) (fun uf mw=>?_);exact ae ⟨rfl,rfl,_,rfl,mw,ar _ _⟩
         refine aY ?_ ?_
         ·intro wD E sD;intro v5 pW;refine bK ax rfl (show((RT.int .i64).sl).V M2 wD ps v5 from pW) rfl ?_;exact ae ⟨rfl,rfl,_,rfl,rfl,ar _ _⟩
         refine aY ?_ ?_
         ·intro wD E sD;refine aA (aA (bI rfl rfl rfl (by omega) ?_));exact ae ⟨rfl,rfl,_,rfl,rfl,ar _ _⟩
         refine aY ?_ ?_
         ·intro wD E sD;refine aA (aA (aA (aA (aA ?_))));intro v4 nX;intro v5 pW;refine aA (aA (bm rfl ⟨_,rfl⟩ rfl ?_));exact ae ⟨rfl,rfl,_,rfl,rfl,ar _ _⟩
         refine aY ?_ ?_
         ·intro wD E sD;refine aA (aA (aA (aA (aA ?_))));intro v4 nX;intro v5 pW;refine aA (aA (bz du rfl rfl I3 (by decide) rfl rfl ?_));exact ae ⟨rfl,rfl,_,rfl,rfl,ar _ _⟩
         exact cf.nil
        ·intro OC nB;refine aA (aA (aA (aA ?_)));intro afL aa4;intro Mj zh;refine aA (aA (aA (aA ?_)));have h9:=h8.step nB;refine ck (M:=M2) I3 rfl rfl h9.x rfl rfl h9.mx (fun T6 aa5 xA=>?_);refine ae ⟨rfl,?_⟩;have Fp:=h9.Pt xA aa5 (h9.hb.le xA.le) h9.hk;have aa6:=(hp8.le (by decide) nB.le).le (by decide) xA.le;refine aj ?_;refine ay (M:=M2) (A:=RT.po) (B:=RT.int .i64) bA rfl rfl I3 (by decide) Ao rfl rfl (by decide) aa6 (ao _ _) (fun afM Py=>?_);refine cr (M:=M2) az rfl rfl Py (ao _ _) (fun _=>?_);refine bO (v':= .int .i64 d) rfl ?_;refine ck (M:=M2) I3 rfl rfl Fp.l rfl rfl Fp.ml (fun Tz aa7 kA=>?_);have h11:=Fp.K9 kA aa7;refine ae (aj (bI rfl rfl rfl (by omega) (ah rfl rfl (ae ?_))));refine⟨rfl,(j+1,v12),(.cons rfl (.cons rfl (.cons rfl (.cons rfl (.cons rfl (.cons rfl (.cons rfl .nil))))))),?_,?_⟩
         ·refine⟨by simp only;omega,?_,?_⟩
          ·exact kA.bS (xA.bS (nB.aM (wg.bS (rM.bS (iu.aM (MI.aM hQ)) (by omega)) (by omega))) (by omega)) (by omega)
          ·simp only;rw[show i+(j+1)=i+j+1 from by omega,uL hx,f5,ftk];exact h11
         ·simp only;omega
     ·refine cY (al (aj ?_));obtain rfl:j=((l.drop i).take 8).length:=by omega
      have Rc:M2 bq:=by rw[Ou];exact .inl rfl
      refine aX az rfl rfl rfl h4.l rfl (bz (o':=2) gL rfl rfl I3 (by decide) rfl rfl ?_);refine ck (M:=M2) I3 rfl rfl hQ rfl rfl Rc (fun MJ Uo C6=>?_);have QZ:=h4.other C6 YA WU;change MJ.heap[bq]? =some (.cells [.int .i64 (dA (-1) (l.take i)).length,.int .i64 (cy (-1) (l.take i)),.int .i64 (cy (-1) (l.take (i+((l.drop i).take 8).length))),.int .i64 ((l.drop i).take 8).length].toArray 195 (0,0))at Uo;refine ae ?_;have hO:=QZ.o;have hX:=QZ.x;have Lb:=QZ.hk;have jb:∀k,vk.ownBlock=some k→k≠bo:=fun k hk=>by have:=(Lb.base k hk).1;omega
      have ajD:=an QZ.r;have g1:=jf l (-1) iV (by omega) i;have g2:=jf l (-1) iV (by omega) (i+((l.drop i).take 8).length);have g3:=kf l i;apply T.DI (M:=M2) (n:=85) _ mixed [(7,fun k=>vk.ownBlock=some k)] [bW.eq _,bW.eq _,bW.eq _,bW.eq _,bW.eq _,bW.eq (.agg [.int .i64 (dA (-1) (l.take i)).length,.int .i64 (cy (-1) (l.take i)),.int .i64 (cy (-1) (l.take (i+((l.drop i).take 8).length))),.int .i64 ((l.drop i).take 8).length].toArray),bW.V ((RT.bl).sl) [(((dA (-1) (l.take i)).length:Int),cy (-1) (l.take i),cy (-1) (l.take (i+((l.drop i).take 8).length)),(((l.drop i).take 8).length:Int))],⟨fun t w=>∃M3,Own RT.bl 195 M3 w (D+2) t (kR l ((i+7)/8)++[(((dA (-1) (l.take i)).length:Int),cy (-1) (l.take i),cy (-1) (l.take (i+((l.drop i).take 8).length)),(((l.drop i).take 8).length:Int))])∧Step M2 MJ M3 w (fun k=>vk.ownBlock=some k),aE,fun⟨M3,h1,h2⟩ s hN=>⟨M3,h1.a8 ((s.cw hN (fun _ h=>h.elim)).any M3),h2.aB ((s.cw hN (fun _ h=>h.elim)).any M3)⟩⟩,bW.eq _,bW.eq _]
      ·rfl
      ·rfl
      ·rfl
      ·rfl
      ·intro p hp b hb;simp only[cI]at hp;subst hp;exact Lb.mut_ b hb
      ·exact⟨fun _ _ _ _=>trivial,⟨fun _ _ _ _=>trivial,⟨fun _ _ _ _=>trivial,⟨fun _ _ _ _=>trivial,⟨fun _ _ _ _=>trivial,⟨fun _ _ _ _=>trivial,⟨fun _ _ _ _=>trivial,⟨fun p hp=>by simp at hp,⟨fun _ _ _ _=>trivial,⟨fun _ _ _ _=>trivial,trivial⟩⟩⟩⟩⟩⟩⟩⟩⟩⟩
      ·refine aY ?_ ?_
       ·intro wD E sD;replace sD:Step M2 _ M2 wD (fun k=>vk.ownBlock=some k):=sD;refine aX cO rfl rfl rfl (sD.bS hO (fun hb=>jb _ hb rfl)) rfl ?_;exact ae ⟨rfl,rfl,_,rfl,rfl,ar _ _⟩
       refine aY ?_ ?_
       ·intro wD E sD;replace sD:Step M2 _ M2 wD (fun k=>vk.ownBlock=some k):=sD;refine aX cO rfl rfl rfl (sD.bS hO (fun hb=>jb _ hb rfl)) rfl ?_;exact ae ⟨rfl,rfl,_,rfl,rfl,ar _ _⟩
       refine aY ?_ ?_
       ·intro wD E sD;replace sD:Step M2 _ M2 wD (fun k=>vk.ownBlock=some k):=sD;refine aA (bm rfl ⟨_,rfl⟩ rfl ?_);exact ae ⟨rfl,rfl,_,rfl,rfl,ar _ _⟩
       refine aY ?_ ?_
       ·intro wD E sD;replace sD:Step M2 _ M2 wD (fun k=>vk.ownBlock=some k):=sD;refine aA (bz du rfl rfl yO (by decide) rfl rfl ?_);exact ae ⟨rfl,rfl,_,rfl,rfl,ar _ _⟩
       refine aY ?_ ?_
       ·intro wD E sD;replace sD:Step M2 _ M2 wD aE:=sD;refine aA (aX dn rfl rfl rfl (cC sD (by assumption)) rfl ?_);exact ae ⟨rfl,rfl,_,rfl,rfl,ar _ _⟩
       refine aY ?_ ?_
       ·intro wD E sD;replace sD:Step M2 _ M2 wD (fun k=>vk.ownBlock=some k):=sD;refine gO (vs:=[.int .i64 (dA (-1) (l.take i)).length,.int .i64 (cy (-1) (l.take i)),.int .i64 (cy (-1) (l.take (i+((l.drop i).take 8).length))),.int .i64 ((l.drop i).take 8).length]) gL rfl sd rfl rfl rfl (sD.bS Uo (fun hb=>WU _ hb rfl)) ?_;exact ae ⟨rfl,rfl,_,rfl,rfl,ar _ _⟩
       refine aY ?_ ?_
       ·intro wD E sD;replace sD:Step M2 _ M2 wD aE:=sD;refine aA ?_;refine eA (A:=RT.bl) (hn:=by decide) (M:=M2) dn sd (by decide) rfl rfl (sD.lt QZ.lt) (Yk (by omega) (by omega) (by omega) (by omega)) (.inl rfl) (fun uS wS hS sS=>?_);exact ae ⟨rfl,rfl,_,rfl,hS,sS⟩
       refine aY ?_ ?_
       ·intro wD E sD;replace sD:Step M2 _ M2 wD aE:=sD;refine aA ?_;intro v6 oI;refine cv (M:=M2) (base:=D+2) dn sd rfl rfl rfl rfl (Lb.a8 sD) (show((RT.bl).sl).V M2 wD [(((dA (-1) (l.take i)).length:Int),cy (-1) (l.take i),cy (-1) (l.take (i+((l.drop i).take 8).length)),(((l.drop i).take 8).length:Int))] v6 from oI) (ao _ _) (by simp[kR];omega) (by simp[kR];omega) (by have:=sD.size;omega) (fun v3 M3 w3 so s3=>?_);exact ae ⟨rfl,rfl,_,rfl,⟨M3,so,(sD.cw (fun _ h=>h.elim) Lb.mut_).trans s3 (fun b _ hb=>hb)⟩,s3.back⟩
       refine aY ?_ ?_
       ·intro wD E sD;replace sD:Step M2 _ M2 wD (fun k=>vk.ownBlock=some k):=sD;refine aA (aA (aA (aA (aA (aA (aA ?_))))));intro v6 oI;intro v7 pT;refine bm rfl ⟨_,rfl⟩ rfl ?_;exact ae ⟨rfl,rfl,_,rfl,rfl,ar _ _⟩
       refine aY ?_ ?_
       ·intro wD E sD;replace sD:Step M2 _ M2 wD (fun k=>vk.ownBlock=some k):=sD;refine aA (aA (aA (aA (aA (aA (aA ?_))))));intro v6 oI;intro v7 pT;refine bz du rfl rfl yO (by decide) rfl rfl ?_;exact ae ⟨rfl,rfl,_,rfl,rfl,ar _ _⟩
       exact cf.nil
      ·intro aa8 Up;replace Up:Step M2 _ M2 aa8 (fun k=>vk.ownBlock=some k):=Up;refine aA (aA (aA (aA (aA (aA ?_)))));intro afN aa9;intro afO Pz;refine aA (aA ?_);obtain⟨M3,so,sR⟩:=Pz;obtain⟨⟨N5,hm3,ajE⟩,FO⟩:=QZ.grow sR so;refine ck (M:=M3) yO rfl rfl N5 rfl (by obtain⟨_,_,he,_⟩:=so.isSlice;rw[he];rfl) hm3 (fun WW abb JK=>?_);refine ae ⟨rfl,?_⟩;have NU:=FO JK abb;have h18:=NU.lM (st':= .loop (rec .ready none)) NU.r;have hE:i+((l.drop i).take 8).length=min (i+8) l.length:=by omega
       rw[hE,Gu (by omega) hi]at h18;exact⟨NU.r,true,rfl,fun _=>⟨M3,_,_,h18,by omega,by omega⟩,fun h=>by cases h⟩
  ·obtain⟨Mz,vb,vk,h,_,_⟩:=h3.resolve_right (fun h=>h);left;rw[rQ]at h;have h5:=h.lM (st':= .loop (rec .exhausted none)) h.r;refine⟨h.r,?_⟩;generalize w3.putObj (D+1) _=wE at h5 ⊢;refine al (aj (aX cO rfl rfl rfl h5.o rfl (ak rfl rfl (ak rfl rfl (ae (aQ ?_))))));obtain⟨q1,q2,q3,q4,q5,q6,q7,q8,q9,q10,q11,q12,q13,q14,q15,q16,q17,q18⟩:=h5.ne;have sZ:Step Mz wE Mz (wE.putObj D (.deferred none)) (fun k=>k=D):=dM h5.md;have SZ:=h5.S.cW sZ (fun k hk=>by subst hk;omega);have ht:=np l;refine NA rfl rfl rfl h5.d ⟨SZ.back,fun _=>⟨_,rfl,?_⟩,fun hf=>by rw[iV]at hf;cases hf⟩;exact RO (sZ.bS h5.x (by omega)) (fun hh=>by have:=hM _ hh;omega) ((h5.hb.le sZ.le).le (pD hM SZ)) (il hM SZ ((h5.hk.step sZ (fun k hk hh=>by have:=(h5.hk.base k hk).1;omega)).mi (by omega)) (by simp[kR];omega)) (by omega)
end Go.K
namespace Go.K
open Go.Proofs
namespace TKBldG
theorem gz:TI Tryz.prog 107 (.slice none 0 0) 1 24:=by unfold TI;kernel_rfl
theorem BI:TI Tryz.prog 188 (.slice none 0 0) 1 24:=by unfold TI;kernel_rfl
theorem Lc:Enters Tryz.prog 126:=enters Tryz.func126 rfl (by decide)
theorem abc:Enters Tryz.prog 175:=enters Tryz.func175 rfl (by decide)
end TKBldG
open TKBldG
set_option maxRecDepth 10000
theorem index_spec {M:aL} {l:List (List Po)} {v0:Value} {g:FuncId} {cap:List Value} {B:Nat} {J:Nat→aL→World→Prop} {bad:List Po→Bool} (w0:World) (hM:Lt M w0) (hv:(((RT.po).sl).sl).V M w0 l v0) (hg:Enters Tryz.prog g) (hJ:J 0 M w0) (km:∀i M w M' w',J i M w→Step M w M' w' aE→J i M' w') (ht:∀i M w x vx,J i M w→Lt M w→l[i]? =some x→((RT.po).sl).V M w x vx→Spec Tryz.prog g ([vx]++cap).toArray w (fun v w'=>∃M',Lt M' w'∧v= .bool (bad x)∧(bad x=false→J (i+1) M' w')∧Step M w M' w' (kN M B))):
  Spec Tryz.prog 175 #[v0,.func (.func g) #[] cap.toArray] w0 (fun v w=>∃M' k,v= .int .i64 k∧ -1≤k∧Lt M' w∧Step M w0 M' w (kN M B)∧(k= -1→(∀x∈l,bad x=false)∧J l.length M' w)∧(0≤k→∃x∈l,bad x=true)):=by
 have hlen:=dK hv;refine bu (args:=[_,_]) (fn:=Tryz.f175) Tryz.func175 rfl (n:=19) Tryz.ntmps175 ?_;have S:Step M w0 M w0 (kN M B):=(ar _ _).cw (fun _ h=>h.elim) (fun _ h=>h.2);refine al (aj (ak rfl rfl (ae (al (al (aj (ah rfl rfl (bK b9 rfl hv rfl (ah rfl rfl (ae (bh ?_)))))))))));refine dz (σ:=Nat) (fun q=>[(0,v0),(1,.func (.func g) #[] cap.toArray),(6,v0),(7,.int .i64 (l.length:Int)),(8,.int .i64 (q:Int))]) (fun q w=>∃M',Lt M' w∧Step M w0 M' w (kN M B)∧(((RT.po).sl).sl).V M' w l v0∧J q M' w∧q≤l.length∧∀x∈l.take q,bad x=false) (fun q=>l.length-q) 0 (.cons rfl (.cons rfl (.cons rfl (.cons rfl (.cons rfl .nil))))) ?_ ?_
 ·exact⟨M,hM,S,hv,hJ,bH _,fun x h=>by simp at h⟩
 ·clear hM S hv hJ;rintro i w ⟨M1,hM,S,hv,hJ,hi,jQ⟩;refine al (aj (cz rfl rfl rfl (ae (al ?_))));refine bQ rfl (fun c2=>?_) (fun c2=>?_)
  ·refine aZ (al (bh (al (aj (ah rfl rfl (ak rfl rfl (ae (al (aj (ah rfl rfl (ah rfl rfl ?_)))))))))));refine ah rfl rfl ?_;refine cu (M:=M1) b9 gz rfl rfl rfl hv (ao _ _) (by omega) (fun u x zT hu=>?_);rw[aC]at zT;refine bg (M:=M1) aK rfl rfl rfl rfl rfl hu (ao _ _) (fun vx tT=>?_);refine Rg.qK (first:=[]) (captured:=cap) (xs:=[.tmp 15]) rfl rfl rfl hg (ht i _ _ x vx hJ hM zT tT) (fun r4 w4 hc=>?_);obtain⟨M4,Uq,rfl,hJ4,s4⟩:=hc;refine bO (v':= .bool (decide (bad x=true))) (by simp) ?_;have S4:=S.trans s4 (fun k hk h=>⟨h.1,(S.mem k hk).1 h.2⟩);refine ae ?_;refine bQ rfl (fun c4=>?_) (fun c4=>?_)
   ·refine al (aj (ah rfl rfl (ak rfl rfl (ae (aQ ?_)))));exact aV rfl rfl ⟨M4,_,rfl,by omega,Uq,S4,fun h=>absurd h (by omega),fun _=>⟨x,aG zT,c4⟩⟩
   ·refine aZ (aj (bI rfl rfl rfl (by omega) (ah rfl rfl (ae ?_))));refine⟨rfl,i+1,(.cons rfl (.cons rfl (.cons rfl (.cons rfl (.cons rfl .nil))))),?_,?_⟩
    ·have hb:bad x=false:=by simpa using c4
     exact⟨M4,Uq,S4,hv.le s4.le,hJ4 hb,by omega,fun y hy=>by
      rw[bP,zT,cn,dy,cI]at hy;rcases hy with hy|rfl
      ·exact jQ y hy
      ·exact hb⟩
    ·omega
  ·refine cY (al (aj (ak rfl rfl (ae (aQ ?_)))));rw[a7 (by omega)]at jQ;have e:i=l.length:=by omega
   subst e;exact aV rfl rfl ⟨_,_,rfl,by omega,hM,S,fun _=>⟨jQ,hJ⟩,fun h=>absurd h (by omega)⟩
theorem xB {M:aL} {l:List (List Po)} {v0:Value} {g:FuncId} {cap:List Value} {B:Nat} {J:Nat→aL→World→Prop} {bad:List Po→Bool} (w0:World) (hM:Lt M w0) (hv:(((RT.po).sl).sl).V M w0 l v0) (hg:Enters Tryz.prog g) (hJ:J 0 M w0) (km:∀i M w M' w',J i M w→Step M w M' w' aE→J i M' w') (ht:∀i M w x vx,J i M w→Lt M w→l[i]? =some x→((RT.po).sl).V M w x vx→Spec Tryz.prog g ([vx]++cap).toArray w (fun v w'=>∃M',Lt M' w'∧v= .bool (bad x)∧(bad x=false→J (i+1) M' w')∧Step M w M' w' (kN M B))):
  Spec Tryz.prog 127 #[v0,.func (.func g) #[] cap.toArray] w0 (fun v w=>∃M' k,v= .bool (decide (0≤k))∧ -1≤k∧Lt M' w∧Step M w0 M' w (kN M B)∧(k= -1→(∀x∈l,bad x=false)∧J l.length M' w)∧(0≤k→∃x∈l,bad x=true)):=by
 refine bu (args:=[_,_]) (fn:=Tryz.f127) Tryz.func127 rfl (n:=9) Tryz.ntmps127 (al (aj (ak rfl rfl (ae (al (aj (ah rfl rfl (ah rfl rfl ?_))))))));refine aP rfl rfl abc (index_spec w0 hM hv hg hJ km ht) (fun r w1 hc=>?_);obtain⟨M1,k,rfl,hk,h2⟩:=hc;refine ek rfl rfl rfl (ak rfl rfl (ae (aQ ?_)));exact aV rfl rfl ⟨M1,k,rfl,hk,h2⟩
def BJ (x:List Po):Int:=match x.getLast? with|some p=>p.1|none=> -1
def my (n:Int) (x:List Po):Bool:= !ej (-1) x||x.isEmpty||decide (n≤BJ x)
theorem BK {x:List Po} {p:Po} (h:x[x.length-1]? =some p):BJ x=p.1:=by
 unfold BJ;rw[List.getLast?_eq_getElem?,h]
structure Room (x:List Po):Prop where
 ps:∀p∈x,p.2.length≤1099511627776
 by_:(dA (-1) x).length≤35184372088832
 ln:x.length≤1099511627776
 tot:iA x≤4611686018427387904
def RT.cell:RT Value where
 n:=1
 agg:=false
 R:=fun _ _ x vs=>vs=[x]∧x.oneCell'=true
 len:=by rintro _ _ x vs ⟨rfl,_⟩;rfl
 one:=by rintro _ _ x vs ⟨rfl,h⟩ v hv;simp at hv;subst hv;exact h
 le:=fun _ h=>h
theorem Ld {M:aL} {w:World} {v:Value} (h:v.oneCell'=true):RT.cell.V M w v v:=⟨[v],⟨rfl,h⟩,rfl⟩
theorem fu.cells {α:Type} {A:RT α} (hA:A.n=1) {M:aL} {w:World}:∀{xs:List α} {C:List Value},fu A M w xs C→∃ys:List Value,fu RT.cell M w ys C∧ys.length=xs.length
 |[],C,h=>⟨[],h,rfl⟩
 |x::xs,C,h=>by
  obtain⟨vs,r,h1,h2,h3⟩:=h;obtain⟨ys,h4,h5⟩:=fu.cells hA h3;have hl:=A.len h2
  match vs,hl,h1,h2 with
  |[v],_,h1,h2=>exact⟨v::ys,⟨[v],r,h1,⟨rfl,A.one h2 v (by simp)⟩,h4⟩,by simp[h5]⟩
  |[],hl,_,_=>simp at hl;omega
  |_::_::_,hl,_,_=>simp at hl;omega
theorem Own.cells {α:Type} {A:RT α} (hA:A.n=1) {e:TypeId} {M:aL} {w:World} {base:Nat} {v:Value} {xs:List α} (h:Own A e M w base v xs):∃ys:List Value,Own RT.cell e M w base v ys∧ys.length=xs.length:=by
 obtain⟨⟨C,hr,ha⟩,hm⟩:=h;obtain⟨ys,h1,h2⟩:=ha.cells hA;exact⟨ys,⟨⟨C,by rw[h2,show RT.cell.n=A.n from hA.symm];exact hr,h1⟩,hm⟩,h2⟩
def xC (bl bn:Nat) (n:Int) (ls:List (List Po)) (B:Nat) (i:Nat) (M:aL) (w:World):Prop:=∃vl,w.heap[bl]? =some (.cells #[vl] 188 (0,0))∧M bl∧B≤bl∧w.heap[bn]? =some (.cells #[.int .i64 n] 3 (0,0))∧M bn∧Own ((RT.li).ptr) 129 M w B vl ((ls.take i).map ir)
theorem xC.a8 {bl bn:Nat} {n:Int} {ls:List (List Po)} {B i:Nat} {M M':aL} {w w':World} (h:xC bl bn n ls B i M w) (s:Step M w M' w' aE):xC bl bn n ls B i M' w':=by
 obtain⟨vl,h1,h2,h3,h4,h5,h6⟩:=h;exact⟨vl,s.aM h1,(s.mem _ (an h1)).2 h2,h3,s.aM h4,(s.mem _ (an h4)).2 h5,h6.a8 s⟩
theorem PA {M:aL} {bl bn B i:Nat} {n:Int} {ls:List (List Po)} {x:List Po} {v0:Value} (w0:World) (hM:Lt M w0) (hB:B≤w0.heap.size) (hJ:xC bl bn n ls B i M w0) (hx:ls[i]? =some x) (hv:((RT.po).sl).V M w0 x v0) (hr:Room x) (nR:i≤1000000000) (hm:ej (-1) x=true):
  Spec Tryz.prog 125 #[v0,.pointer (some ⟨bl,0,none⟩),.pointer (some ⟨bn,0,none⟩)] w0 (fun v w=>∃M',Lt M' w∧v= .bool (my n x)∧(my n x=false→xC bl bn n ls B (i+1) M' w)∧Step M w0 M' w (kN M B)):=by
 have hlen:=dK hv;obtain⟨vl,gl,j9,hBl,gn,lP,ho⟩:=hJ;have nln:bl≠bn:=fun h=>by rw[h,gn]at gl;simp at gl
 refine bu (args:=[_,_,_]) (fn:=Tryz.f125) Tryz.func125 rfl (n:=34) Tryz.ntmps125 ?_;have S:Step M w0 M w0 (kN M B):=(ar _ _).cw (fun _ h=>h.elim) (fun _ h=>h.2);refine al (aj (ak rfl rfl (ae (al (aj (ah rfl rfl ?_))))));refine aP rfl rfl Lc (sU hM hv hr.ps hr.by_ hr.ln hr.tot) (fun r1 w1 hc=>?_);obtain⟨s1,hok,jQ⟩:=hc;obtain⟨p,rfl,hp⟩:=hok hm;have:=an gl;replace j9:=(s1.mem _ this).2 j9;replace gl:=s1.aM gl;have:=an gn;replace lP:=(s1.mem _ this).2 lP;replace gn:=s1.aM gn;replace hv:=hv.le s1.le;replace ho:=ho.a8 s1;replace hM:=s1.lt hM;have:=S.size;replace S:=S.aB s1;refine ah rfl rfl (bZ rfl rfl rfl (bZ rfl rfl rfl (ak rfl rfl (ak rfl rfl (ae (al (aj (aX dV rfl rfl rfl gl rfl (bO (v':=vl) rfl (ah rfl rfl ?_))))))))));refine eA (A:=((RT.li).ptr)) (hn:=by decide) (M:=M) dV pH (by decide) rfl rfl hM (oY.2 hp) (.inr ⟨rfl,rfl⟩) (fun Kf abe ju ov=>?_);have:=an gl;replace j9:=(ov.mem _ this).2 j9;replace gl:=ov.aM gl;have:=an gn;replace lP:=(ov.mem _ this).2 lP;replace gn:=ov.aM gn;replace hv:=hv.le ov.le;replace hp:=hp.le (by decide) ov.le;replace ho:=ho.a8 ov;replace hM:=ov.lt hM;have:=S.size;replace S:=S.aB ov;refine cv (M:=M) (base:=B) dV pH rfl rfl rfl rfl ho ju (ao _ _) (by simp;omega) (by simp;omega) (by have:=S.size;omega) (fun PB BL abf IB ow=>?_);have:=an gl;replace j9:=(ow.mem _ this).2 j9;replace gl:=ow.bS gl (fun h=>by first|exact ho.dZ gl h|exact ho.eW gl (by decide) h|(have:=(ho.base _ h).1;omega));have:=an gn;replace lP:=(ow.mem _ this).2 lP;replace gn:=ow.bS gn (fun h=>by first|exact ho.dZ gn h|exact ho.eW gn (by decide) h|(have:=(ho.base _ h).1;omega));replace hv:=hv.le ow.le;replace hp:=hp.le (by decide) ow.le
 replace ju:=ju.le ow.le;replace hM:=ow.lt hM;have:=S.size;replace S:=S.trans ow (fun k hk h=>⟨(ho.base k h).1,(S.mem k hk).1 (ho.mut_ k h)⟩);replace ho:=IB;refine ck (M:=BL) BI rfl rfl gl rfl (by obtain⟨_,_,he,_⟩:=ho.isSlice;rw[he];rfl) j9 (fun Lg IC kH=>?_);change Lg.heap[_]? =some (Obj.cells #[PB] _ _)at IC;have:=an gl;replace j9:=(kH.mem _ this).2 j9;have:=an gn;replace lP:=(kH.mem _ this).2 lP;replace gn:=kH.bS gn (fun hk=>by have hk:_=_:=hk;omega);replace hv:=hv.le kH.le;replace hp:=hp.le (by decide) kH.le;replace ju:=ju.le kH.le;replace ho:=ho.step kH (fun c hc (h:c=bl)=>ho.eW gl (by decide) (h▸hc));replace hM:=kH.lt hM;have:=S.size;replace S:=S.trans kH (fun k hk h=>by have h:_=_:=h;subst h;first|(exfalso;omega)|(show _≤_;omega)|exact⟨by first|omega|assumption,(S.mem _ hk).1 ((kH.mem _ (an gl)).1 j9)⟩|exact .inl rfl|exact .inr rfl|exact .inr (.inl rfl)|exact .inr (.inr rfl)|exact rfl);have Ur:=IC;clear gl;have gl:=Ur;clear Ur;refine ae (al ?_);apply T.jh mixed rfl rfl;intro QL L9;have na:=L9 BL;have:=an gl;replace j9:=(na.mem _ this).2 j9;replace gl:=na.aM gl;have:=an gn;replace lP:=(na.mem _ this).2 lP;replace gn:=na.aM gn;replace hv:=hv.le na.le;replace hp:=hp.le (by decide) na.le;replace ju:=ju.le na.le;replace ho:=ho.a8 na;replace hM:=na.lt hM;have:=S.size;replace S:=S.aB na;refine ah rfl rfl ?_;refine ae ⟨rfl,rfl,rfl,?_⟩;refine eS rfl rfl rfl ?_;refine ae ⟨rfl,rfl,rfl,?_⟩;refine ah rfl rfl ?_;refine ae ⟨rfl,rfl,rfl,?_⟩;refine Rg.Cb (g:=18) rfl ((by decide)) (aq rfl rfl (ah rfl rfl ?_));refine ae ⟨rfl,rfl,rfl,?_⟩;refine aq rfl rfl (bK aK rfl hv rfl ?_);refine ae ⟨rfl,rfl,rfl,?_⟩;refine aq rfl rfl (mB rfl rfl rfl ?_);refine ae ⟨rfl,rfl,rfl,?_⟩;refine aJ rfl rfl rfl ?_;refine ae ⟨rfl,rfl,rfl,?_⟩
 refine ah rfl rfl ?_;refine ae ⟨rfl,rfl,rfl,?_⟩;refine aR (g:=23) rfl (fun PC=>?_) (fun PC=>?_)
 ·refine au rfl rfl rfl rfl ?_;refine ae ⟨rfl,rfl,rfl,?_⟩;refine au rfl rfl rfl rfl ?_;refine ae ⟨rfl,rfl,rfl,?_⟩;refine au rfl rfl rfl rfl ?_;refine ae ⟨rfl,rfl,rfl,?_⟩;refine au rfl rfl rfl rfl ?_;refine ae ⟨rfl,rfl,rfl,?_⟩;refine au rfl rfl rfl rfl ?_;refine ae ⟨rfl,rfl,rfl,?_⟩;refine au rfl rfl rfl rfl ?_;refine ae ⟨rfl,rfl,rfl,?_⟩;refine au rfl rfl rfl rfl ?_;refine ae ⟨rfl,rfl,rfl,?_⟩;refine au rfl rfl rfl rfl ?_;refine ae ⟨rfl,rfl,rfl,?_⟩;refine au rfl rfl rfl rfl ?_;refine ae ⟨rfl,rfl,rfl,?_⟩;refine aW rfl rfl rfl ?_;refine ae ⟨rfl,rfl,rfl,?_⟩;refine ak rfl rfl ?_;refine ae ⟨rfl,rfl,rfl,?_⟩;refine dU (aQ ?_)
  first
  |(have Lh:my n x=true:=by
     have:x=[]:=hG.1 (by omega);simp[my,this]
    rw[Lh];exact aV rfl rfl ⟨_,hM,rfl,(fun h=>by cases h),S⟩)
  |(have fg:x.isEmpty=false:=by cases x with
     |nil=>simp at PC
     |cons a t=>rfl
    have hbv:my n x=decide (n≤q.1):=by unfold my;rw[hm,fg,BK hq];rfl
    rw[hbv];exact aV rfl rfl ⟨_,hM,rfl,fun _=>⟨_,gl,j9,hBl,gn,lP,by rw[bP,hx,cn,dH];exact ho⟩,S⟩)
 ·refine aq rfl rfl (ah rfl rfl ?_);refine ae ⟨rfl,rfl,rfl,?_⟩;refine aq rfl rfl (ah rfl rfl ?_);refine ae ⟨rfl,rfl,rfl,?_⟩;refine aq rfl rfl (bK aK rfl hv rfl ?_);refine ae ⟨rfl,rfl,rfl,?_⟩;refine aq rfl rfl (gJ rfl rfl rfl (by omega) ?_);refine ae ⟨rfl,rfl,rfl,?_⟩;refine aq rfl rfl ?_;obtain⟨q,hq⟩:∃q,x[x.length-1]? =some q:=⟨_,av (by omega)⟩;refine cu (M:=BL) aK fv rfl rfl rfl hv (ao _ _) (by omega) (fun u3 a JI iQ=>?_);obtain rfl:q=a:=aN (hq.symm.trans (by rw[show((x.length:Int)-1).toNat=x.length-1 from by omega]at JI;exact JI));refine ae ⟨rfl,rfl,rfl,?_⟩;refine aq rfl rfl ?_;refine ay (M:=BL) (A:=RT.po) (B:=RT.int .i64) bA rfl rfl I3 (by decide) (Ao) rfl rfl (by decide) (by assumption) (by repeat (first|exact ao _ _|refine aU (br (by assumption)) ?_)) (fun afQ abh=>?_);refine ae ⟨rfl,rfl,rfl,?_⟩;refine aq rfl rfl ?_;refine cr (M:=BL) az rfl rfl (by assumption) (by repeat (first|exact ao _ _|refine aU (br (by assumption)) ?_)) (fun ID=>?_);refine bO (v':= .int .i64 (q.1)) rfl ?_;replace ID: -9223372036854775808≤(q.1:Int)∧q.1≤9223372036854775807:=ID;refine ae ⟨rfl,rfl,rfl,?_⟩;refine aq rfl rfl (aX az rfl rfl rfl gn rfl (bO (v':= .int .i64 n) rfl ?_));refine ae ⟨rfl,rfl,rfl,?_⟩;refine aq rfl rfl (ek rfl rfl rfl ?_);refine ae ⟨rfl,rfl,rfl,?_⟩;refine aJ rfl rfl rfl ?_;refine ae ⟨rfl,rfl,rfl,?_⟩;refine ak rfl rfl ?_;refine ae ⟨rfl,rfl,rfl,?_⟩;refine dU (aQ ?_)
  first
  |(have Lh:my n x=true:=by
     have:x=[]:=hG.1 (by omega);simp[my,this]
    rw[Lh];exact aV rfl rfl ⟨_,hM,rfl,(fun h=>by cases h),S⟩)
  |(have fg:x.isEmpty=false:=by cases x with
     |nil=>simp at PC
     |cons a t=>rfl
    have hbv:my n x=decide (n≤q.1):=by unfold my;rw[hm,fg,BK hq];rfl
    rw[hbv];exact aV rfl rfl ⟨_,hM,rfl,fun _=>⟨_,gl,j9,hBl,gn,lP,by rw[bP,hx,cn,dH];exact ho⟩,S⟩)
theorem Lj {M:aL} {bl bn B i:Nat} {n:Int} {ls:List (List Po)} {x:List Po} {v0:Value} (w0:World) (hM:Lt M w0) (hB:B≤w0.heap.size) (hJ:xC bl bn n ls B i M w0) (hx:ls[i]? =some x) (hv:((RT.po).sl).V M w0 x v0) (hr:Room x) (nR:i≤1000000000) (hm:ej (-1) x=false):
  Spec Tryz.prog 125 #[v0,.pointer (some ⟨bl,0,none⟩),.pointer (some ⟨bn,0,none⟩)] w0 (fun v w=>∃M',Lt M' w∧v= .bool (my n x)∧(my n x=false→xC bl bn n ls B (i+1) M' w)∧Step M w0 M' w (kN M B)):=by
 have hlen:=dK hv;obtain⟨vl,gl,j9,hBl,gn,lP,ho0⟩:=hJ;have nln:bl≠bn:=fun h=>by rw[h,gn]at gl;simp at gl
 obtain⟨ys,ho,QB⟩:=ho0.cells rfl;rw[cj,bG]at QB;clear ho0;refine bu (args:=[_,_,_]) (fn:=Tryz.f125) Tryz.func125 rfl (n:=34) Tryz.ntmps125 ?_;have S:Step M w0 M w0 (kN M B):=(ar _ _).cw (fun _ h=>h.elim) (fun _ h=>h.2);refine al (aj (ak rfl rfl (ae (al (aj (ah rfl rfl ?_))))));refine aP rfl rfl Lc (sU hM hv hr.ps hr.by_ hr.ln hr.tot) (fun r1 w1 hc=>?_);obtain⟨s1,hok,jQ⟩:=hc;obtain rfl:=jQ hm;have:=an gl;replace j9:=(s1.mem _ this).2 j9;replace gl:=s1.aM gl;have:=an gn;replace lP:=(s1.mem _ this).2 lP;replace gn:=s1.aM gn;replace hv:=hv.le s1.le;replace ho:=ho.a8 s1;replace hM:=s1.lt hM;have:=S.size;replace S:=S.aB s1;refine ah rfl rfl (bZ rfl rfl rfl (bZ rfl rfl rfl (ak rfl rfl (ak rfl rfl (ae (al (aj (aX dV rfl rfl rfl gl rfl (bO (v':=vl) rfl (ah rfl rfl ?_))))))))));refine eA (A:=RT.cell) (hn:=by decide) (M:=M) dV pH (by decide) rfl rfl hM (Ld (v:= .pointer none) rfl) (.inr ⟨rfl,rfl⟩) (fun Kf abe ju ov=>?_);have:=an gl;replace j9:=(ov.mem _ this).2 j9;replace gl:=ov.aM gl;have:=an gn;replace lP:=(ov.mem _ this).2 lP;replace gn:=ov.aM gn;replace hv:=hv.le ov.le;replace ho:=ho.a8 ov;replace hM:=ov.lt hM;have:=S.size;replace S:=S.aB ov;refine cv (M:=M) (base:=B) dV pH rfl rfl rfl rfl ho ju (ao _ _) (by simp;omega) (by simp;omega) (by have:=S.size;omega) (fun PB BL abf IB ow=>?_);have:=an gl;replace j9:=(ow.mem _ this).2 j9;replace gl:=ow.bS gl (fun h=>by first|exact ho.dZ gl h|exact ho.eW gl (by decide) h|(have:=(ho.base _ h).1;omega));have:=an gn;replace lP:=(ow.mem _ this).2 lP;replace gn:=ow.bS gn (fun h=>by first|exact ho.dZ gn h|exact ho.eW gn (by decide) h|(have:=(ho.base _ h).1;omega))
 replace hv:=hv.le ow.le;replace ju:=ju.le ow.le;replace hM:=ow.lt hM;have:=S.size;replace S:=S.trans ow (fun k hk h=>⟨(ho.base k h).1,(S.mem k hk).1 (ho.mut_ k h)⟩);replace ho:=IB;refine ck (M:=BL) BI rfl rfl gl rfl (by obtain⟨_,_,he,_⟩:=ho.isSlice;rw[he];rfl) j9 (fun Lg IC kH=>?_);change Lg.heap[_]? =some (Obj.cells #[PB] _ _)at IC;have:=an gl;replace j9:=(kH.mem _ this).2 j9;have:=an gn;replace lP:=(kH.mem _ this).2 lP;replace gn:=kH.bS gn (fun hk=>by have hk:_=_:=hk;omega);replace hv:=hv.le kH.le;replace ju:=ju.le kH.le;replace ho:=ho.step kH (fun c hc (h:c=bl)=>ho.eW gl (by decide) (h▸hc));replace hM:=kH.lt hM;have:=S.size;replace S:=S.trans kH (fun k hk h=>by have h:_=_:=h;subst h;first|(exfalso;omega)|(show _≤_;omega)|exact⟨by first|omega|assumption,(S.mem _ hk).1 ((kH.mem _ (an gl)).1 j9)⟩|exact .inl rfl|exact .inr rfl|exact .inr (.inl rfl)|exact .inr (.inr rfl)|exact rfl);have Ur:=IC;clear gl;have gl:=Ur;clear Ur;refine ae (al ?_);apply T.jh mixed rfl rfl;intro QL L9;have na:=L9 BL;have:=an gl;replace j9:=(na.mem _ this).2 j9;replace gl:=na.aM gl;have:=an gn;replace lP:=(na.mem _ this).2 lP;replace gn:=na.aM gn;replace hv:=hv.le na.le;replace ju:=ju.le na.le;replace ho:=ho.a8 na;replace hM:=na.lt hM;have:=S.size;replace S:=S.aB na;refine ah rfl rfl ?_;refine ae ⟨rfl,rfl,rfl,?_⟩;refine eS rfl rfl rfl ?_;refine ae ⟨rfl,rfl,rfl,?_⟩;refine ah rfl rfl ?_;refine ae ⟨rfl,rfl,rfl,?_⟩;refine Rg.pP (g:=18) rfl ((by decide)) (au rfl rfl rfl rfl ?_);refine ae ⟨rfl,rfl,rfl,?_⟩;refine au rfl rfl rfl rfl ?_;refine ae ⟨rfl,rfl,rfl,?_⟩;refine au rfl rfl rfl rfl ?_;refine ae ⟨rfl,rfl,rfl,?_⟩;refine aW rfl rfl rfl ?_;refine ae ⟨rfl,rfl,rfl,?_⟩;refine ah rfl rfl ?_;refine ae ⟨rfl,rfl,rfl,?_⟩;refine au rfl rfl rfl rfl ?_;refine ae ⟨rfl,rfl,rfl,?_⟩
 refine au rfl rfl rfl rfl ?_;refine ae ⟨rfl,rfl,rfl,?_⟩;refine au rfl rfl rfl rfl ?_;refine ae ⟨rfl,rfl,rfl,?_⟩;refine au rfl rfl rfl rfl ?_;refine ae ⟨rfl,rfl,rfl,?_⟩;refine au rfl rfl rfl rfl ?_;refine ae ⟨rfl,rfl,rfl,?_⟩;refine au rfl rfl rfl rfl ?_;refine ae ⟨rfl,rfl,rfl,?_⟩;refine au rfl rfl rfl rfl ?_;refine ae ⟨rfl,rfl,rfl,?_⟩;refine au rfl rfl rfl rfl ?_;refine ae ⟨rfl,rfl,rfl,?_⟩;refine au rfl rfl rfl rfl ?_;refine ae ⟨rfl,rfl,rfl,?_⟩;refine aW rfl rfl rfl ?_;refine ae ⟨rfl,rfl,rfl,?_⟩;refine ak rfl rfl ?_;refine ae ⟨rfl,rfl,rfl,?_⟩;refine dU (aQ ?_);have Lh:my n x=true:=by simp[my,hm]
 rw[Lh];exact aV rfl rfl ⟨_,hM,rfl,(fun h=>by cases h),S⟩
theorem IE {M:aL} {bl bn B i:Nat} {n:Int} {ls:List (List Po)} {x:List Po} {v0:Value} (w0:World) (hM:Lt M w0) (hB:B≤w0.heap.size) (hJ:xC bl bn n ls B i M w0) (hx:ls[i]? =some x) (hv:((RT.po).sl).V M w0 x v0) (hr:Room x) (nR:i≤1000000000):
  Spec Tryz.prog 125 #[v0,.pointer (some ⟨bl,0,none⟩),.pointer (some ⟨bn,0,none⟩)] w0 (fun v w=>∃M',Lt M' w∧v= .bool (my n x)∧(my n x=false→xC bl bn n ls B (i+1) M' w)∧Step M w0 M' w (kN M B)):=by
 cases hm:ej (-1) x with
 |true=>exact PA w0 hM hB hJ hx hv hr nR hm
 |false=>exact Lj w0 hM hB hJ hx hv hr nR hm
end Go.K
namespace Go.K
open Go.Proofs
namespace TKBldH
theorem qA:TI Tryz.prog 56 (.slice none 0 0) 1 24:=by unfold TI;kernel_rfl
theorem Fw:TI Tryz.prog 58 (.agg #[(.slice none 0 0),(.slice none 0 0),(.slice none 0 0),(.slice none 0 0)]) 4 96:=by unfold TI;kernel_rfl
theorem abi:TI Tryz.prog 125 (.agg #[(.slice none 0 0),(.slice none 0 0),(.pointer none)]) 3 56:=by unfold TI;kernel_rfl
theorem BI:TI Tryz.prog 188 (.slice none 0 0) 1 24:=by unfold TI;kernel_rfl
theorem abj:placesOf Tryz.prog 125=[(0,1),(1,1),(2,1)].map some:=by kernel_rfl
theorem Pn:Enters Tryz.prog 63:=enters Tryz.func63 rfl (by decide)
theorem E76:Enters Tryz.prog 76:=enters Tryz.func76 rfl (by decide)
theorem abk:Enters Tryz.prog 124:=enters Tryz.func124 rfl (by decide)
theorem abl:Enters Tryz.prog 125:=enters Tryz.func125 rfl (by decide)
theorem abm:Enters Tryz.prog 127:=enters Tryz.func127 rfl (by decide)
theorem abn:Enters Tryz.prog 128:=enters Tryz.func128 rfl (by decide)
end TKBldH
open TKBldH
set_option maxRecDepth 10000
def xb (p:Pa):Bool:=decide (p.1.length=p.2.1.length)&&eI (-1) p.2.1&&p.2.2.2.all (fun x=> !my (p.1.length:Int) x)&&decide (p.2.2.1.length=p.2.2.2.length)&&BC none p.2.2.1
def IF (p:Pa):Se:=(p.1,p.2.1,p.2.2.1,p.2.2.2.map ir)
structure IG (p:Pa):Prop where
 a:p.1.length≤1000000000
 b:p.2.1.length≤1000000000
 c:p.2.2.1.length≤1000000000
 d:p.2.2.2.length≤1000000000
 e:∀x∈p.2.2.2,Room x
theorem C7 {M:aL} {p:Pa} {v0:Value} (w0:World) (hM:Lt M w0) (hv:RT.pa.V M w0 p v0) (hR:IG p):
  Spec Tryz.prog 76 #[v0] w0 (fun v w=>Step M w0 M w aE∧(xb p=true→cc RT.se M w v (IF p))∧(xb p=false→v= .pointer none)):=by
 have gB:=hM;obtain⟨hRa,hRb,hRc,hRd,hRe⟩:=hR;refine bu (args:=[_]) (fn:=Tryz.f76) Tryz.func76 rfl (n:=45) Tryz.ntmps76 ?_;have S:Step M w0 M w0 aE:=(ar _ _).cw (fun _ h=>h.elim) (fun _ h=>h.elim);refine al (aj ?_);refine iw (A:=RT.pa) rfl rfl hM hv rfl (fun u0 w1 cV s0 _=>?_);replace hM:=s0.lt hM;have:=S.size;replace S:=S.aB s0;refine ak rfl rfl (ae (al (aj ?_)));refine ay (M:=M) (A:=RT.pa) (B:=(RT.int .i64).sl) cd rfl rfl jR (by decide) (KS) rfl rfl (by decide) (by assumption) (by repeat (first|exact ao _ _|refine aU (br (by assumption)) ?_)) (fun tU jw=>?_);refine bg (M:=M) ax rfl rfl rfl rfl rfl (by assumption) (by repeat (first|exact ao _ _|refine aU (br (by assumption)) ?_)) (fun xq l8=>?_);replace l8:((RT.int .i64).sl).V M _ p.1 xq:=l8;refine bK ax rfl l8 rfl ?_;refine eG M I3 rfl (fun tV E0 Zw Zx lX s1_3=>?_);obtain⟨l9,vK⟩:∃M',M'=ins M tV:=⟨_,rfl⟩;rw[←vK]at s1_3;have jj:l9 tV:=by rw[vK];exact .inl rfl
 change E0.heap[tV]? =some (.cells #[.int .i64 0] _ _)at lX;replace cV:=cV.le (by decide) s1_3.le;replace hM:=s1_3.lt hM;have:=S.size;replace S:=S.aB s1_3;refine ck (M:=l9) I3 rfl rfl lX rfl (rfl) jj (fun Oo Us lG=>?_);change Oo.heap[_]? =some (Obj.cells #[.int .i64 (p.1.length:Int)] _ _)at Us;have:=an lX;replace jj:=(lG.mem _ this).2 jj;replace cV:=cV.le (by decide) lG.le;replace hM:=lG.lt hM;have:=S.size;replace S:=S.trans lG (fun k hk h=>by have h:_=_:=h;subst h;first|(exfalso;omega)|(show _≤_;omega)|exact⟨by first|omega|assumption,(S.mem _ hk).1 ((lG.mem _ (an lX)).1 jj)⟩|exact .inl rfl|exact .inr rfl|exact .inr (.inl rfl)|exact .inr (.inr rfl)|exact rfl);have A5:=Us;clear lX;have lX:=A5;clear A5;refine ae (al (al (aj ?_)));refine ay (M:=l9) (A:=RT.pa) (B:=(RT.int .i64).sl) cd rfl rfl jR (by decide) (O2) rfl rfl (by decide) (by assumption) (by repeat (first|exact ao _ _|refine aU (br (by assumption)) ?_)) (fun ajJ afS=>?_);refine bg (M:=l9) ax rfl rfl rfl rfl rfl (by assumption) (by repeat (first|exact ao _ _|refine aU (br (by assumption)) ?_)) (fun abo IH=>?_);replace IH:((RT.int .i64).sl).V l9 _ p.2.1 abo:=IH;refine bK ax rfl IH rfl (aX az rfl rfl rfl lX rfl (bO (v':= .int .i64 (p.1.length:Int)) rfl (eS rfl rfl rfl (ah rfl rfl ?_))));refine aR (g:=16) rfl (fun abp=>?_) (fun abp=>?_)
 ·refine au rfl rfl rfl rfl (au rfl rfl rfl rfl (au rfl rfl rfl rfl (au rfl rfl rfl rfl (aW rfl rfl rfl (ae (kW rfl (al (aj (ak rfl rfl (ae (aQ ?_)))))))))))
  have eb:xb p=false:=by
   unfold xb
   first
   |(rw[decide_eq_false (show¬p.1.length=p.2.1.length by omega)];simp;done)
   |(simp[c2];done)
  exact aV rfl rfl ⟨S.back,fun h=>by(rw[eb]at h;cases h),fun _=>rfl⟩
 ·have QW:p.1.length=p.2.1.length:=by omega
  refine aq rfl rfl ?_;refine ay (M:=l9) (A:=RT.pa) (B:=(RT.int .i64).sl) cd rfl rfl jR (by decide) (O2) rfl rfl (by decide) (by assumption) (by repeat (first|exact ao _ _|refine aU (br (by assumption)) ?_)) (fun ajK afT=>?_);refine aq rfl rfl ?_;refine bg (M:=l9) ax rfl rfl rfl rfl rfl (by assumption) (by repeat (first|exact ao _ _|refine aU (br (by assumption)) ?_)) (fun abq II=>?_);replace II:((RT.int .i64).sl).V l9 _ p.2.1 abq:=II;refine aq rfl rfl ?_;refine aP rfl rfl abk (Ft _ II) (fun r wc hc=>?_);obtain⟨rfl,rfl⟩:=hc;refine aq rfl rfl (jN rfl rfl (bO (v':= .bool (decide (¬eI (-1) p.2.1=true))) (by simp) (aJ rfl rfl rfl (ae ?_))));refine bQ rfl (fun c2=>?_) (fun c2=>?_)
  ·refine al (aj (ak rfl rfl (ae (aQ ?_))))
   have eb:xb p=false:=by
    unfold xb
    first
    |(rw[decide_eq_false (show¬p.1.length=p.2.1.length by omega)];simp;done)
    |(simp[c2];done)
   exact aV rfl rfl ⟨S.back,fun h=>by(rw[eb]at h;cases h),fun _=>rfl⟩
  ·have er:eI (-1) p.2.1=true:=cU.1 c2;refine aZ (al (aj ?_));refine eG l9 BI rfl (fun IK Hh ajL ajM AT kF=>?_);obtain⟨Ef,IL⟩:∃M',M'=ins l9 IK:=⟨_,rfl⟩;rw[←IL]at kF;have PD:Ef IK:=by rw[IL];exact .inl rfl
   change Hh.heap[IK]? =some (.cells #[.slice none 0 0] _ _)at AT;have:=an lX;replace jj:=(kF.mem _ this).2 jj;replace lX:=kF.aM lX;replace cV:=cV.le (by decide) kF.le;replace hM:=kF.lt hM;have:=S.size;replace S:=S.aB kF;refine ae (al (aj (jF (xs:=[]) (ys:=[.tmp 4,.tmp 3]) rfl rfl rfl (ak rfl rfl (ae (al (al (aj ?_))))))));refine ay (M:=Ef) (A:=RT.pa) (B:=((RT.po).sl).sl) cd rfl rfl qA (by decide) (H4) rfl rfl (by decide) (by assumption) (by repeat (first|exact ao _ _|refine aU (br (by assumption)) ?_)) (fun Tt Hz=>?_);refine bg (M:=Ef) b9 rfl rfl rfl rfl rfl (by assumption) (by repeat (first|exact ao _ _|refine aU (br (by assumption)) ?_)) (fun OL vL=>?_);replace vL:(((RT.po).sl).sl).V Ef _ p.2.2.2 OL:=vL;refine ah rfl rfl ?_;refine aP rfl rfl abm (xB (cap:=[.pointer (some ⟨IK,0,none⟩),.pointer (some ⟨tV,0,none⟩)]) (B:=w0.heap.size) (J:=xC IK tV (p.1.length:Int) p.2.2.2 w0.heap.size) (bad:=my (p.1.length:Int)) _ hM vL abl ⟨_,AT,PD,by omega,lX,jj,dQ _ _ _ _ _⟩ (fun i M w M' w' h s=>h.a8 s) (fun i M w x vx hJ hM hx tT=>IE w hM (by obtain⟨_,h1,_,h2,_⟩:=hJ;have:=an h1;omega) hJ hx tT (hRe x (aG hx)) (by have:=(aw.1 hx).1;omega))) (fun r6 w6 hc=>?_);obtain⟨M6,k6,rfl,hk6,GI,s6,hk7,hk8⟩:=hc;replace cV:=cV.le (by decide) s6.le;replace S:=S.k9 s6 (aT _);refine ae ?_;refine bQ rfl (fun c6=>?_) (fun c6=>?_)
   ·obtain⟨x6,hx6,o0⟩:=hk8 c6
    have eb:xb p=false:=by
     unfold xb;have:p.2.2.2.all (fun x=> !my (p.1.length:Int) x)=false:=List.all_eq_false.2 ⟨x6,hx6,by simp[o0]⟩;simp[this]
    refine al (aj (ak rfl rfl (ae (aQ ?_))));exact aV rfl rfl ⟨S.back,fun h=>by(rw[eb]at h;cases h),fun _=>rfl⟩
   ·refine aZ (al (aj ?_));obtain⟨o0,⟨vl,gl,_,_,_,_,j3⟩⟩:=hk7 (by omega);rw[a7 (aT _)]at j3;have lz:(((RT.li).ptr).sl).V M w6 (p.2.2.2.map ir) vl:=j3.close gB S (by simp;omega);replace cV:cc RT.pa M w6 u0 p:=cV.le (by decide) (pD gB S);replace S:=S.back;replace hM:=S.lt gB;refine ay (M:=M) (A:=RT.pa) (B:=RT.str.sl) cd rfl rfl tR (by decide) Mu rfl rfl (by decide) cV (ao _ _) (fun ajQ afU=>?_);refine bg (M:=M) aF rfl rfl rfl rfl rfl (by assumption) (by repeat (first|exact ao _ _|refine aU (br (by assumption)) ?_)) (fun abr IM=>?_);replace IM:(RT.str.sl).V M _ p.2.2.1 abr:=IM;refine aX dV rfl rfl rfl gl rfl (bO (v':=vl) rfl ?_);refine aP rfl rfl abn (C4 _ hM IM lz (by omega) (by simp;omega)) (fun r8 w8 hc=>?_);obtain⟨pd,rfl,JL,s8⟩:=hc;replace cV:=cV.le (by decide) s8.le;replace lz:=lz.le s8.le;replace gl:=s8.aM gl;replace hM:=s8.lt hM;have:=S.size;replace S:=S.aB s8;refine ah rfl rfl (bZ rfl rfl rfl (bZ rfl rfl rfl (ak rfl rfl (ak rfl rfl (ae (al (al (aj (ah rfl rfl (eS rfl rfl rfl (ae ?_)))))))))));refine bQ rfl (fun c9=>?_) (fun c9=>?_)
    ·have eb:xb p=false:=by
      by_cases h:xb p=true
      ·unfold xb at h;simp only[bT,decide_eq_true_eq]at h;exact absurd (by rw[if_pos ⟨by simp[h.1.2],h.2⟩]) c9
      ·simpa using h
     refine al (aj (ak rfl rfl (ae (aQ ?_))));exact aV rfl rfl ⟨S.back,fun h=>by(rw[eb]at h;cases h),fun _=>rfl⟩
    ·have e9:(p.2.2.1.length=(p.2.2.2.map ir).length∧BC none p.2.2.1=true):=by
      by_cases h:(p.2.2.1.length=(p.2.2.2.map ir).length∧BC none p.2.2.1=true)
      ·exact h
      ·exact absurd (by rw[if_neg h];decide) c9
     replace JL:=JL e9.1 e9.2;refine aZ (al ?_);apply T.xU [0,1,3,4,6,2,5,7,8,9] 5 [2,3,4] 2 aE mixed
     ·simp+decide only[uN,pI,fo,qg,im,iq,jW,dx,ia,kL,cond_true,cond_false,Nat.reduceBEq,Nat.reduceAdd,beq_self_eq_true];rfl
     ·rfl
     ·rfl
     ·rfl
     ·rfl
     ·rfl
     ·rfl
     intro Fq Is;have iu:=Is M;replace cV:=cV.le (by decide) iu.le;replace lz:=lz.le iu.le;replace gl:=iu.aM gl;replace hM:=iu.lt hM;have:=S.size;replace S:=S.aB iu;refine ay (M:=M) (A:=RT.pa) (B:=(RT.int .i64).sl) cd rfl rfl jR (by decide) (KS) rfl rfl (by decide) (by assumption) (by repeat (first|exact ao _ _|refine aU (br (by assumption)) ?_)) (fun Mo HC=>?_);refine ae ⟨rfl,rfl,rfl,?_⟩;refine bg (M:=M) ax rfl rfl rfl rfl rfl (by assumption) (by repeat (first|exact ao _ _|refine aU (br (by assumption)) ?_)) (fun Ut C8=>?_);replace C8:((RT.int .i64).sl).V M _ p.1 Ut:=C8;refine ae ⟨rfl,rfl,rfl,?_⟩;refine ay (M:=M) (A:=RT.pa) (B:=(RT.int .i64).sl) cd rfl rfl jR (by decide) (O2) rfl rfl (by decide) (by assumption) (by repeat (first|exact ao _ _|refine aU (br (by assumption)) ?_)) (fun afV PE=>?_);refine ae ⟨rfl,rfl,rfl,?_⟩;refine bg (M:=M) ax rfl rfl rfl rfl rfl (by assumption) (by repeat (first|exact ao _ _|refine aU (br (by assumption)) ?_)) (fun Uu nJ=>?_);replace nJ:((RT.int .i64).sl).V M _ p.2.1 Uu:=nJ;refine ae ⟨rfl,rfl,rfl,?_⟩;refine ah rfl rfl ?_;refine ae ⟨rfl,rfl,rfl,?_⟩;refine dU ?_;obtain⟨bb,oo,cs,ee,fr,rfl,ku,_⟩:=PE.float;refine⟨ew ⟨fj cd rfl jR (by decide),⟨dC rfl ku (fun h=>h),⟨eE,trivial⟩⟩⟩,?_⟩;have kp:=eU aE Fq;refine aP rfl rfl Pn (oZ hM C8 (by omega)) (fun v5 w5 hc=>?_);obtain⟨pW,s5⟩:=hc;replace nJ:=nJ.le s5.le;replace JL:=(JL.le (by decide) iu.le).le (by decide) s5.le;replace cV:=cV.le (by decide) s5.le;replace lz:=lz.le s5.le;replace gl:=s5.aM gl;replace hM:=s5.lt hM;have:=S.size;replace S:=S.aB s5;refine(fun(kp:dX _ _ _)=>ae ⟨rfl,rfl,fun _=>kp,?_⟩) (by first|exact kp|exact kp.mZ (by assumption)|exact kp.goN (by assumption)|exact kp.go (by assumption) (fun _ _ h=>by first|exact h|exact h.elim))
     refine aP rfl rfl Pn (oZ hM nJ (by omega)) (fun v6 w6' hc=>?_);obtain⟨oI,MK⟩:=hc;replace cV:=cV.le (by decide) MK.le;replace lz:=lz.le MK.le;replace pW:=pW.le MK.le;replace nJ:=nJ.le MK.le;replace JL:=JL.le (by decide) MK.le;replace gl:=MK.aM gl;replace hM:=MK.lt hM;have:=S.size;replace S:=S.aB MK;refine(fun(kp:dX _ _ _)=>ae ⟨rfl,rfl,fun _=>kp,?_⟩) (by first|exact kp|exact kp.mZ (by assumption)|exact kp.goN (by assumption)|exact kp.go (by assumption) (fun _ _ h=>by first|exact h|exact h.elim));refine eT (places:=[(0,1),(1,1),(2,1)]) eH abi abj rfl ⟨_,_,rfl,rfl,_,_,rfl,rfl,_,_,rfl,rfl,rfl⟩ (out:=[_,_,_]) ⟨0,[_],rfl,fM pW,by simp[Value.cells],1,[_],rfl,fM oI,by simp[Value.cells],2,[_],rfl,sT JL,by simp[Value.cells],rfl⟩ ?_;refine ae ⟨rfl,rfl,fun h=>absurd rfl h,?_⟩;refine iw (A:=RT.se) (a:=IF p) rfl rfl hM (ZV (x:=IF p) pW oI JL) rfl (fun u8 w8' hu8 Lk _=>?_);replace cV:=cV.le (by decide) Lk.le;replace lz:=lz.le Lk.le;replace pW:=pW.le Lk.le;replace nJ:=nJ.le Lk.le;replace JL:=JL.le (by decide) Lk.le;replace oI:=oI.le Lk.le;replace gl:=Lk.aM gl;replace hM:=Lk.lt hM;have:=S.size;replace S:=S.aB Lk;refine ae ⟨rfl,rfl,fun h=>absurd rfl h,?_⟩;refine ak rfl rfl ?_;refine ae ⟨rfl,rfl,fun h=>absurd rfl h,?_⟩;refine gY (aQ ?_)
     have eb:xb p=true:=by
      unfold xb;rw[decide_eq_true QW,er,e9.2,decide_eq_true (by simpa using e9.1),cK.2 (fun x hx=>by simp[o0 x hx])];rfl
     exact aV rfl rfl ⟨S.back,fun _=>hu8,fun h=>by(rw[eb]at h;cases h)⟩
theorem C9 {M:aL} {p:Pa} {v0:Value} (w0:World) (hM:Lt M w0) (hv:RT.pa.V M w0 p v0) (hR:IG p):
  Spec Tryz.prog 27 #[v0] w0 (fun v w=>Step M w0 M w aE∧(xb p=true→∃s,v= .tuple #[s,.int .i64 0]∧cc RT.se M w s (IF p))∧(xb p=false→v= .tuple #[.pointer none,.int .i64 1])):=by
 refine bu (args:=[_]) (fn:=Tryz.f27) Tryz.func27 rfl (n:=10) Tryz.ntmps27 ?_;have S:Step M w0 M w0 aE:=(ar _ _).cw (fun _ h=>h.elim) (fun _ h=>h.elim);refine al (aj ?_);refine iw (A:=RT.pa) rfl rfl hM hv rfl (fun u0 w1 cV s0 _=>?_);replace hM:=s0.lt hM;have:=S.size;replace S:=S.aB s0;refine ak rfl rfl (ak rfl rfl (ae (al (aj ?_))));refine ch (M:=M) (A:=RT.pa) cd rfl Fw (by decide) rfl rfl rfl cV (ao _ _) (fun v1 tu=>?_);refine aP rfl rfl E76 (C7 _ hM tu hR) (fun r1 w2 hc=>?_);obtain⟨s2,hok,jQ⟩:=hc
 obtain⟨o1,WR⟩:∃o,r1= .pointer o:=by
  cases h:xb p with
  |true=>obtain⟨b,o,_,h1,_⟩:=hok h;exact⟨_,h1⟩
  |false=>exact⟨none,jQ h⟩
 subst WR;replace cV:=cV.le (by decide) s2.le;replace hM:=s2.lt hM;have:=S.size;replace S:=S.aB s2;refine ak rfl rfl (ae (al (al (aj (ah rfl rfl (Rg.xW Tryz.underlying25 rfl rfl rfl (ae ?_)))))));refine bQ rfl (fun c2=>?_) (fun c2=>?_)
 ·refine al (aj (ak rfl rfl (ak rfl rfl (ae (aQ ?_)))))
  have eb:xb p=false:=by
   by_cases h:xb p=true
   ·obtain⟨b,o,_,h1,_⟩:=hok h;rw[c2]at h1;cases h1
   ·simpa using h
  exact fa rfl rfl rfl ⟨S.back,fun h=>by(rw[eb]at h;cases h),fun _=>rfl⟩
 ·refine aZ (al (aj (ah rfl rfl (ak rfl rfl (ak rfl rfl (ae (aQ ?_)))))))
  have eb:xb p=true:=by
   by_cases h:xb p=true
   ·exact h
   ·have:=jQ (by simpa using h);simp at this;exact absurd this c2
  exact fa rfl rfl rfl ⟨S.back,fun _=>⟨_,rfl,hok eb⟩,fun h=>by(rw[eb]at h;cases h)⟩
end Go.K
namespace Go.K
section
variable {P:Program} {r:Option Nat} {n:Nat} {L:Sl} {ds:List Deferred} {w:World} {K:Kt} {M:aL} {F:List (Nat×aL)}
def rz (l:List Oper) (m q d:Nat):Bool:=
 Nat.blt q m&&l3 l [q] m ((l[m]?.map cB).getD [])&&jK l (m+1)&&
 ((List.range' m (l.length-m)).all fun j=>match l[j]? with
  |some o=>qq o.op&&(!(asks l o).contains d||(cB o).contains q)
  |none=>true)
theorem tH {l:List Oper} {m q d:Nat} (h:rz l m q d=true):q<m∧l3 l [q] m ((l[m]?.map cB).getD [])=true∧jK l (m+1)=true∧∀j o,m≤j→l[j]? =some o→qq o.op=true∧(d∈asks l o→q∈cB o):=by
 simp only[rz,bT,Nat.blt_eq]at h;obtain⟨⟨⟨h1,h2⟩,h3⟩,h4⟩:=h;refine⟨h1,h2,h3,fun j o hj ho=>?_⟩;have dW:=(aw.1 ho).1;have:=cK.1 h4 j (List.mem_range'_1.2 ⟨hj,by omega⟩);rw[ho]at this;simp only[bT,jl,gX,eu]at this;refine⟨this.1,fun hd=>?_⟩;rcases this.2 with h|h
 ·rw[←Bool.not_eq_true,eu]at h;exact absurd hd h
 ·exact h
structure TJ (P:Program) (r:Option Nat) (n:Nat) (l:List Oper) (m q d:Nat) (c:Value) (L:Sl) (K:Kt) (ds:List Deferred) (D:Nat→Prop) (a:Act) (w:World) (p:Nat) (ac:Act) (Lp:Sl) (wq:World):Prop where
 p0:m≤p
 p1:p≤l.length
 dt:∀i,i<l.length→i≠q→(D i↔i<p)
 ag:gP n ac Lp ds
 tr:oz P r n l.toArray aE wq K 0 (l.drop p) Lp ds w
 yes:D q→a=ac
 no: ¬D q→ac=a.put (some d) c∧∀t u,lk (jH l q L) t=some u→a.tmps[t]? =some u
theorem put_comm (a:Act) {d:Nat} {e:Option Nat} (h:e≠some d) (c v:Value):(a.put (some d) c).put e v=(a.put e v).put (some d) c:=by
 cases e with
 |none=>rfl
 |some e=>
  have fg:e≠d:=fun h'=>h (by rw[h'])
  simp only[Act.put];congr 1;apply Array.ext_getElem?;intro i;simp only[bV,Array.size_setIfInBounds];by_cases h1:e=i<;>by_cases h2:d=i<;>simp_all
theorem yk (a:Act) {d t:Nat} (c:Value) (h:t≠d):(a.put (some d) c).tmps[t]? =a.tmps[t]? :=by rw[gG,if_neg (fun e=>h (by injection e with e;exact e.symm))]
theorem TJ.next {l:List Oper} {m q d:Nat} {c:Value} (dp:eF l 0=true) (hok:rz l m q d=true) {oq:Oper} (hq:l[q]? =some oq) (Da:oq.dst=some d) (PF:ja oq.op=true) (Ll:oq.guard=none)
  (gQ:∀(ρ:Operand→Value) w,(∀x u,ev (jH l q L) x=some u→ρ x=u)→(execOp ρ oq).run P w= .ok (.value c) w)
  {Q:Exit→Act→World→Prop} {D:Nat→Prop} {a:Act} {w:World} {j:Nat} {o:Oper} {rest:List Nat} (ho:l[j]? =some o) (oy: ¬D j) (hp:∀k∈cB o,D k) {p:Nat} {ac:Act} {Lp:Sl} {wq:World} (hi:TJ P r n l m q d c L K ds D a w p ac Lp wq)
  (hk:∀a' w',(∃p ac Lp wq,TJ P r n l m q d c L K ds (fun i=>i=j∨D i) a' w' p ac Lp wq)→wpOpsIn (FW r) 0 P l.toArray Q rest a' w'):wpOpsIn (FW r) 0 P l.toArray Q (j::rest) a w:=by
 obtain⟨hqm,_,uH,DM⟩:=tH hok;have qG:=(aw.1 ho).1;by_cases WX:j=q
 ·subst WX;rw[hq]at ho;cases ho;obtain⟨Eg,kj⟩:=hi.no oy;refine One.run (by simpa using hq) PF (v:=c) ?_ (hk _ _ ⟨p,ac,Lp,wq,hi.p0,hi.p1,fun i h1 h2=>⟨fun h=>(hi.dt i h1 h2).1 (h.resolve_left h2),fun h=> .inr ((hi.dt i h1 h2).2 h)⟩,hi.ag,hi.tr,fun _=>by rw[Eg,Da],fun h=>absurd (.inl rfl) h⟩);unfold One;rw[if_pos (by simp[Region.wanted,Ll])];refine gQ a.eval w fun x u hx=> ?_
  cases x with
  |tmp t=>simp only[ev]at hx;simp[Act.eval,kj t u hx]
  |const v=>simp only[ev]at hx;cases hx;rfl
  |global g=>simp only[ev]at hx;cases hx;rfl
  |func f=>simp only[ev]at hx;cases hx;rfl
 ·have Yy:j=p:=by
   have h1:p≤j:=by
    rcases db j p with h|h
    ·exact absurd ((hi.dt j qG WX).2 h) oy
    ·exact h
   have:=hi.p0;rcases db m j with h|h
   ·have h2:=hp _ (jY uH (j:=j) (by omega) ho);have:=(hi.dt (j-1) (by omega) (by omega)).1 h2;omega
   ·omega
  subst Yy;obtain⟨Sb,hta⟩:=DM j o hi.p0 ho;have yJ:o.dst≠some d:=fun h=>WX (fp dp ho hq h Da)
  have zO:∀t∈asks l o,a.tmps[t]? =ac.tmps[t]? :=fun t ht=>by
   by_cases hD:D q
   ·rw[hi.yes hD]
   ·rw[(hi.no hD).1,yk];rintro rfl;exact hD (hp q (hta ht))
  obtain⟨FN,Ah⟩:=mL zO
  have WA:a.defers=ac.defers:=by
   by_cases hD:D q
   ·rw[hi.yes hD]
   ·rw[(hi.no hD).1,put_defers]
  have xS:=hi.tr;rw[eB qG,(aw.1 ho).2]at xS;have h1:=Rg.run xS ac hi.ag;refine Az (by simpa using ho) Sb FN Ah WA h1 (fun e a w ⟨_,_,_,he,_⟩=>he) (fun v w' ⟨L',oC,hA,_,Gz,_,NS⟩=>?_) (fun d' w' ⟨L',oC,hA,_,Gz,_⟩=>?_)
  ·rw[Gz]at hA;refine hk _ _ ⟨j+1,ac.put o.dst v,L',wq,by have:=hi.p0;omega,by omega,fun i h3 h4=>?_,hA,NS,fun h=>?_,fun h=>?_⟩
   ·constructor
    ·rintro(h|h)
     ·omega
     ·have:=(hi.dt i h3 h4).1 h;omega
    ·intro h;rcases fy (show i≤j by omega)with h5|h5
     ·exact .inl h5
     ·exact .inr ((hi.dt i h3 h4).2 h5)
   ·rw[hi.yes (h.resolve_left (fun e=>WX e.symm))]
   ·have hD: ¬D q:=fun h'=>h (.inr h')
    obtain⟨Eg,kj⟩:=hi.no hD;refine⟨by rw[Eg,put_comm a yJ],fun t u ht=>?_⟩;obtain⟨h3,h4⟩:=jo (f:=ko l q) ht;rw[gG,if_neg,kj t u ht];intro e;simp only[ko,cK]at h3;have:=h3 o (aG ho);simp only[e,beq_self_eq_true,kV,oc,eu]at this;exact hD (hp q this)
  ·have h3:=hA.defers;rw[put_defers,Gz]at h3;have h4:=congrArg List.length h3;rw[hi.ag.defers]at h4;simp at h4
theorem iL.PG {l:List Oper} {wd:World} (m q d:Nat) (c:Value) {oq:Oper} (F:List (Nat×aL)) (S:List (bW M)) (Nx:S.length=m) (rV:Nat.blt m l.length=true) (dp:eF l 0=true) (hok:rz l m q d=true)
  (hq:l[q]? =some oq) (Da:oq.dst=some d) (PF:ja oq.op=true) (Ll:oq.guard=none) (hS:S[q]? =some (bW.eq c)) (gQ:∀(ρ:Operand→Value) w,(∀x u,ev (jH l q L) x=some u→ρ x=u)→(execOp ρ oq).run P w= .ok (.value c) w)
  (ng:∀p∈F,∀b,p.2 b→M b) (hFq:∀p∈F,p.1≠q) (th:Ai F l S) (rI:cf P r n F wd l S ds L l S 0)
  (jI:∀w',Step M wd M w' (iU (F.map (·.2)))→gD w' (fun acc=>oz P r n l.toArray aE w' K 0 (l.drop m) (acc++jH l l.length L) ds w') l S []):iL P r n l L ds wd K:=by
 intro a0 ha;obtain⟨hqm,GA,uH,DM⟩:=tH hok;have Uv:m<l.length:=by simpa[Nat.blt_eq]using rV
 have start:∀(D:Nat→Prop) a w,(∀i,i<m→i≠q→D i)→(∀i,m≤i→i<l.length→¬D i)→(∀i o,l[i]? =some o→D i→∀k∈cB o,D k)→Inv F S l wd L ds n (fun i=>D i∧i<l.length) a w→∃p ac Lp wq,TJ P r n l m q d c L K ds D a w p ac Lp wq:=by
  intro D a w kO jQ l2 hi
  obtain⟨ac,Eg⟩:∃ac,(D q→a=ac)∧(¬D q→ac=a.put (some d) c):=by
   by_cases hD:D q
   ·exact⟨a,fun _=>rfl,fun h=>absurd hD h⟩
   ·exact⟨_,fun h=>absurd h hD,fun _=>rfl⟩
  have hqn:d<n∨n≤d:=db d n
  have kd:n≤ac.tmps.size:=by
   by_cases hD:D q
   ·rw[←Eg.1 hD];exact hi.size
   ·rw[Eg.2 hD,mJ];exact hi.size
  have WA:ac.defers=ds:=by
   by_cases hD:D q
   ·rw[←Eg.1 hD];exact hi.defers
   ·rw[Eg.2 hD,put_defers];exact hi.defers
  have IN:∀t,t≠d→ac.tmps[t]? =a.tmps[t]? :=fun t ht=>by
   by_cases hD:D q
   ·rw[←Eg.1 hD]
   ·rw[Eg.2 hD,yk a c ht]
  have abt:d<a.tmps.size:=by
   have hg:=rI.take.get q oq (by rw[de,Nx,if_pos hqm];exact hq);by_cases hD:D q
   ·obtain⟨v,h1,_⟩:=hi.done q oq (bW.eq c) d hq hS ⟨hD,by omega⟩ Da;exact(Array.getElem?_eq_some_iff.1 h1).1
   ·refine Classical.byContradiction fun iH=> ?_
    obtain⟨s,hs,Uw⟩:=hg;rw[Nat.zero_add]at Uw;rw[hS]at hs;cases hs
    have hpq:∀k∈cB oq,D k:=fun k hk=>by
     have:=cQ dp q oq hq k hk;exact kO k (by omega) (by omega)
    have:=Inv.next (r:=r) (P:=P) hi dp th ng (rest:=[]) (Q:=fun _ a' _=>n≤a'.tmps.size∧∃v,a'.tmps[d]? =some v) ⟨bW.eq c,hS,Uw⟩ hq (fun h=>hD h.1) (fun k hk=>⟨hpq k hk,by have:=cQ dp q oq hq k hk;omega⟩) (fun a' w' gy=>by
     obtain⟨v,h1,_⟩:=gy.done q oq (bW.eq c) d hq hS (.inl rfl) Da;exact⟨gy.size,v,h1⟩)
    have rW:One P r l.toArray w oq a c:=by
     unfold One;rw[if_pos (by simp[Region.wanted,Ll])];refine gQ a.eval w fun x u hx=> ?_
     have kj:∀t u,lk (jH l q L) t=some u→a.tmps[t]? =some u:=fun t u ht=>by
      obtain⟨h3,h4⟩:=jo (f:=ko l q) ht;refine hi.base t u h4 fun i o gA zQ he=> ?_
      simp only[ko,cK]at h3;have:=h3 o (aG gA);simp only[he,beq_self_eq_true,kV,oc,eu]at this;exact hD (l2 i o gA zQ.1 q this)
     cases x with
     |tmp t=>simp only[ev]at hx;simp[Act.eval,kj t u hx]
     |const v=>simp only[ev]at hx;cases hx;rfl
     |global g=>simp only[ev]at hx;cases hx;rfl
     |func f=>simp only[ev]at hx;cases hx;rfl
    simp only[wpOpsIn,eL,hq]at this;rw[if_pos (by simp[Region.wanted,Ll])]at this;obtain⟨_,h2⟩:=this;unfold One at rW;rw[if_pos (by simp[Region.wanted,Ll])]at rW;rw[Oper.semAt_eq _ _ _ (ly PF),rW]at h2;rw[Oper.uponIn_value]at h2;obtain⟨_,v,h3⟩:=h2;rw[Da]at h3;have:=(Array.getElem?_eq_some_iff.1 h3).1;simp[Act.put]at this;exact iH this
  have abu:∃v,ac.tmps[d]? =some v∧v=c:=by
   by_cases hD:D q
   ·rw[←Eg.1 hD];obtain⟨v,h1,h2⟩:=hi.done q oq (bW.eq c) d hq hS ⟨hD,by omega⟩ Da;exact⟨v,h1,h2⟩
   ·refine⟨c,?_,rfl⟩;rw[Eg.2 hD,gG,if_pos rfl];simp[bV,abt]
  have gT:∀{i:Nat} {o:Oper},(l.take m)[i]? =some o→l[i]? =some o∧i<m:=fun {i o} h=>by
   rw[de]at h
   split at h
   ·exact⟨h,by assumption⟩
   ·cases h
  have km:Step M wd M w (iU (F.map (·.2))):=hi.step.cw (fun b ⟨p,hp,hD,hb⟩=>eY.2 ⟨p.2,cg.2 ⟨p,hp,rfl⟩,hb⟩) (fun b hb=>by
   obtain⟨N,hN,zP⟩:=eY.1 hb;obtain⟨p,hp,rfl⟩:=cg.1 hN;exact ng p hp b zP)
  have hE:=(jI w km).take;rw[Nx]at hE
  obtain⟨acc,h1,h2⟩:=gD.use (a:=ac) (l.take m) S [] (fun i o s h1 h2 h3=>by
    obtain⟨h4,h5⟩:=gT h1;by_cases ML:i=q
    ·subst ML;rw[hq]at h4;cases h4;rw[Da]at h3;cases h3
    ·exact hi.fin i o s h4 h2 ⟨kO i h5 ML,by omega⟩ h3)
   (fun i o s e h1 h2 h3=>by
    obtain⟨h4,h5⟩:=gT h1;by_cases ML:i=q
    ·subst ML;rw[hq]at h4;cases h4;rw[Da]at h3;cases h3;rw[hS]at h2;cases h2;exact abu
    ·obtain⟨v,h6,h7⟩:=hi.done i o s e h4 h2 ⟨kO i h5 ML,by omega⟩ h3;exact⟨v,by rw[IN e (fun he=>ML (fp dp h4 hq h3 (by rw[Da,he])))];exact h6,h7⟩)
   (fun t v h=>by simp[lk]at h) hE
  refine⟨m,ac,_,w,aT _,by omega,fun i h3 h4=>⟨fun h=>?_,fun h=>kO i h h4⟩,⟨kd,WA,fun t v h=>?_⟩,h1,Eg.1,fun hD=>⟨Eg.2 hD,fun t u ht=>?_⟩⟩
  ·rcases db i m with h5|h5
   ·exact h5
   ·exact absurd h (jQ i h5 h3)
  ·rcases kX h with h|h
   ·exact h2 t v h
   ·obtain⟨h3,h4⟩:=jo (f:=ko l l.length) h
    have fg:∀(i:Nat) (o:Oper),l[i]? =some o→o.dst≠some t:=fun i o gA he=>by
     simp only[ko,cK]at h3;have:=h3 o (aG gA);simp only[he,beq_self_eq_true,kV,oc,eu]at this;have h7:=cQ dp i o gA _ this;have h8:=(aw.1 gA).1;omega
    rw[IN t (fun e=>fg q oq hq (by rw[Da,e]))];exact hi.base t v h4 fun i o gA _=>fg i o gA
  ·obtain⟨h3,h4⟩:=jo (f:=ko l q) ht;refine hi.base t u h4 fun i o gA zQ he=> ?_
   simp only[ko,cK]at h3;have:=h3 o (aG gA);simp only[he,beq_self_eq_true,kV,oc,eu]at this;exact hD (l2 i o gA zQ.1 q this)
 refine⟨fun D a w=>((∀i,m≤i→i<l.length→¬D i)∧Inv F S l wd L ds n (fun i=>D i∧i<l.length) a w)∨∃p ac Lp wq,TJ P r n l m q d c L K ds D a w p ac Lp wq,fun D D' a w hJ hD=>?_,fun Q D a w j o rest hj ho oy hp l2 hJ hk=>?_,fun a w hJ=>?_,.inl ⟨fun i _ _ h=>h,?_⟩⟩
 ·rcases hJ with⟨h1,h2⟩|⟨p,ac,Lp,wq,h⟩
  ·refine .inl ⟨fun i h3 h4 h5=>h1 i h3 h4 ((hD i h4).1 h5),?_⟩;have:(fun i=>D' i∧i<l.length)=fun i=>D i∧i<l.length:=funext fun i=>propext ⟨fun⟨h3,h4⟩=>⟨(hD i h4).1 h3,h4⟩,fun⟨h3,h4⟩=>⟨(hD i h4).2 h3,h4⟩⟩
   rw[this];exact h2
  ·exact .inr ⟨p,ac,Lp,wq,h.p0,h.p1,fun i h3 h4=>(hD i h3).trans (h.dt i h3 h4),h.ag,h.tr,fun h3=>h.yes ((hD q (by omega)).1 h3),fun h3=>h.no fun h4=>h3 ((hD q (by omega)).2 h4)⟩
 ·rcases hJ with⟨h1,h2⟩|⟨p,ac,Lp,wq,h⟩
  ·rcases db j m with zR|zR
   ·have hg:=rI.take.get j o (by rw[de,Nx,if_pos zR];exact ho);rw[Nat.zero_add]at hg;refine h2.next dp th ng hg ho (fun h=>oy h.1) (fun k rZ=>⟨hp k rZ,by have:=cQ dp j o ho k rZ;omega⟩) fun a' w' gy=>hk a' w' (.inl ⟨fun i h3 h4 h5=>?_,?_⟩)
    ·rcases h5 with h5|h5
     ·omega
     ·exact h1 i h3 h4 h5
    ·have:(fun i=>(i=j∨D i)∧i<l.length)=fun i=>i=j∨D i∧i<l.length:=funext fun i=>propext ⟨fun⟨h3,h4⟩=>h3.elim .inl fun h=> .inr ⟨h,h4⟩,fun h=>h.elim (fun h=>⟨.inl h,by omega⟩) fun h=>⟨.inr h.1,h.2⟩⟩
     rw[this];exact gy
   ·have abv:j=m:=by
     rcases db m j with h|h
     ·have:=hp _ (jY uH (j:=j) (by omega) ho);exact absurd this (h1 (j-1) (by omega) (by omega))
     ·omega
    subst abv;rw[ho]at GA;obtain⟨p,ac,Lp,wq,h⟩:=start D a w (fun i hi ML=>l4 (D:=D) l2 j (cB o) GA hp i hi (by simpa using ML)) h1 l2 h2;exact h.next dp hok hq Da PF Ll gQ ho oy hp fun a' w' h'=>hk a' w' (.inr h')
  ·exact h.next dp hok hq Da PF Ll gQ ho oy hp fun a' w' h'=>hk a' w' (.inr h')
 ·rcases hJ with⟨h1,_⟩|⟨p,ac,Lp,wq,h⟩
  ·exact absurd Uv (h1 m (aT _) Uv)
  ·have yM:p=l.length:=by
    rcases db p l.length with h3|h3
    ·have h4:=(h.dt p h3 (by have:=h.p0;omega)).1 h3;omega
    ·have:=h.p1;omega
   have xS:=h.tr;rw[yM,List.drop_length]at xS;exact⟨Lp,ds,by rw[h.yes (by show q<l.length;omega)];exact h.ag,xS⟩
 ·refine⟨(ar M wd).cw (fun _ h=>h.elim) (fun b ⟨p,hp,_,hb⟩=>ng p hp b hb),fun i o s _ _ h=>h.1.elim,ha.size,ha.defers,fun i o s e _ _ h=>h.1.elim,fun t v h _=>ha.at_ t v h,fun i o _ h=>h.1.elim⟩
theorem T.Ux {id:Nat} {l l':List Oper} (π:List Nat) (m q d:Nat) (c:Value) {oq:Oper} (F:List (Nat×aL)) (S:List (bW M)) (hm:P.follows .mixedOrders=true) (GF:uN π l=l') (tq:eF l 0=true) (hπ:lC π l.length=true) (Nx:S.length=m) (rV:Nat.blt m l'.length=true) (dp:eF l' 0=true) (hok:rz l' m q d=true)
  (hq:l'[q]? =some oq) (Da:oq.dst=some d) (PF:ja oq.op=true) (Ll:oq.guard=none) (hS:S[q]? =some (bW.eq c)) (gQ:∀(ρ:Operand→Value) w,(∀x u,ev (jH l' q L) x=some u→ρ x=u)→(execOp ρ oq).run P w= .ok (.value c) w)
  (ng:∀p∈F,∀b,p.2 b→M b) (hFq:∀p∈F,p.1≠q) (th:Ai F l' S)
  (h:∀wD,(∀M,Step M w M wD aE)→cf P r n F wD l' S ds L l' S 0∧∀w',Step M wD M w' (iU (F.map (·.2)))→gD w' (fun acc=>oz P r n l'.toArray aE w' K 0 (l'.drop m) (acc++jH l' l'.length L) ds w') l' S []):T P r n (.region id l.toArray true) L ds w K:=by
 subst GF;exact iL.t hm tq fun wD hD=> .perm π hπ tq (.PG m q d c F S Nx rV dp hok hq Da PF Ll hS gQ ng hFq th (h wD hD).1 (h wD hD).2)
theorem Db {s:TypeId} {fs:Array Field} {fd:Field} {j size o o' b:Nat} {zv:Value} {bytes:Nat} {x:Operand} {dst:Option Tmp} {ty:TypeId} {pos:String} {af:Array Edge} {gd:Option (Nat×Bool)} (hu:P.underlying s=some (.struct fs)) (F3:fs[j]? =some fd) (ho:o+fd.offset=o') (hi:TI P fd.type zv size bytes) (hs:size≠0)
  {ρ:Operand→Value} (hx:ρ x= .pointer (some ⟨b,o,none⟩)) (w:World):(execOp ρ {dst,op:= .fieldAddr s x j,type:=ty,pos,after:=af,guard:=gd}).run P w= .ok (.value (.pointer (some ⟨b,o',none⟩))) w:=by
 simp only[execOp,hx];simp[Instr.fieldAt,run_underlying hu,F3,Instr.sureAddr,fieldPlace,hi.sizeOf,hs,←ho,Addr.add_mid]
end
end Go.K
namespace Go.K
open Go.Proofs
set_option maxRecDepth 10000
def mc:Int→List En→Int
 |last,[]=>last
 |_,e::L=>mc e.2 L
def ym:Int→List En→Bool
 |_,[]=>true
 |last,e::L=>decide (lN last e=0)&&ym e.2 L
theorem IP:∀{L:List En} {last:Int} {i:Nat} {e:En},ym last L=true→L[i]? =some e→lN (mc last (L.take i)) e=0∧mc last (L.take (i+1))=e.2
 |[],_,_,_,_,h=>by simp at h
 |x::L,last,0,e,h,hi=>by
  simp only[ym,bT,decide_eq_true_eq]at h;simp at hi;subst hi;exact⟨by simpa[mc]using h.1,by simp[mc]⟩
 |x::L,last,i+1,e,h,hi=>by
  simp only[ym,bT,decide_eq_true_eq]at h;have:=IP h.2 (by simpa using hi);simpa[mc]using this
theorem yn {last:Int} {e:En} (h:lN last e=0):ie e.1∧last<e.2:=by
 unfold lN at h
 split at h
 ·rename_i h1;exact absurd h h1
 ·rename_i h1
  split at h
  ·cases h
  ·exact⟨D9 (by simpa using h1),by omega⟩
theorem lQ:∀{L:List En} {last:Int},ym last L=true→∀e∈L,ie e.1
 |[],_,_,e,h=>by cases h
 |x::L,last,h,e,he=>by
  simp only[ym,bT,decide_eq_true_eq]at h;rcases dN.1 he with rfl|he
  ·exact(yn h.1).1
  ·exact lQ h.2 e he
theorem yo:∀{L:List En} {last:Int},ym last L=true→eI last (L.map (·.2))=true
 |[],_,_=>rfl
 |x::L,last,h=>by
  simp only[ym,bT,decide_eq_true_eq]at h;simp only[fo,eI,bT,decide_eq_true_eq];exact⟨(yn h.1).2,yo h.2⟩
def iX (L:List En):Pa:=(L.map (·.1.1),L.map (·.2),keysOf L,(keysOf L).map (pk L))
theorem Fx {x:List Po} (h:x≠[]):∃p∈x,BJ x=p.1:=by
 unfold BJ
 cases hl:x.getLast? with
 |none=>exact absurd (List.getLast?_eq_none_iff.1 hl) h
 |some p=>exact⟨p,List.mem_of_getLast? hl,rfl⟩
theorem PH {L:List En} (h:ym (-1) L=true) (hn:L.length≤1000000):xb (iX L)=true:=by
 have hF:=lQ h;have h1:(keysOf L).map (pk L)=(iX L).2.2.2:=rfl;unfold xb;have e1:decide ((iX L).1.length=(iX L).2.1.length)=true:=by simp[iX]
 have e2:eI (-1) (iX L).2.1=true:=yo h;have e3:decide ((iX L).2.2.1.length=(iX L).2.2.2.length)=true:=by simp[iX]
 have e4:BC none (iX L).2.2.1=true:=Pp (kh L)
 have e5:(iX L).2.2.2.all (fun x=> !my ((iX L).1.length:Int) x)=true:=by
  refine cK.2 fun x hx=> ?_
  rw[←h1]at hx;obtain⟨k,hk,rfl⟩:=cg.1 hx;have fg:pk L k≠[]:=H3 0 (iZ.1 hk)
  have abw:(pk L k).isEmpty=false:=by
   cases h:pk L k with
   |nil=>exact absurd h fg
   |cons a b=>rfl
  have iV:ej (-1) (pk L k)=true:=pB k L 0 (-1) hF (by omega) (by omega);obtain⟨p,hp,hl⟩:=Fx fg;have:=(mu k L 0 hF).2 p hp;have hlen:((iX L).1.length:Int)=L.length:=by simp[iX]
  simp only[my,iV,abw,hlen,hl];rw[decide_eq_false (by omega)];rfl
 rw[e1,e2,e3,e4,e5];rfl
theorem Ln {L:List En} (hF:∀e∈L,ie e.1) (hn:L.length≤1000000) (k:List UInt8):Room (pk L k):=by
 have h1:=mu k L 0 hF;have iV:ej (-1) (pk L k)=true:=pB k L 0 (-1) hF (by omega) (by omega);have ox:∀p∈pk L k,p.2.length≤500:=fun p hp=>(h1.2 p hp).2.2
 obtain⟨h2,h3⟩:=mU (pk L k) (-1) 500 (by omega) iV ox (by omega);have hl:(pk L k).length≤L.length:=h1.1;exact⟨fun p hp=>by have:=ox p hp;omega,by omega,by omega,by omega⟩
theorem Lo {L:List En} (hF:∀e∈L,ie e.1) (hn:L.length≤1000000):IG (iX L):=by
 have hk:(keysOf L).length≤500000000:=by
  have h1:=(kh L).nodup.length_le_of_subset (l₂:=gx L) (fun x hx=>iZ.1 hx);have:=j8 hF;omega
 refine⟨by simp[iX];omega,by simp[iX];omega,by simp only[iX];omega,by simp[iX];omega,fun x hx=>?_⟩;obtain⟨k,_,rfl⟩:=cg.1 hx;exact Ln hF hn k
theorem PI {M:aL} {w:World} {e:En} {v:Value} (h:RT.en.V M w e v):(-9223372036854775808≤e.1.1∧e.1.1≤9223372036854775807)∧ -9223372036854775808≤e.2∧e.2≤9223372036854775807:=by
 obtain⟨vs,⟨va,vb,_,⟨vc,vd,_,⟨_,h1⟩,_⟩,⟨_,h2⟩⟩,_⟩:=h;exact⟨h1,h2⟩
def ZP (B b:Nat) (vi vs:Value):aL:=fun k=>B≤k∧k≠b∧vi.ownBlock≠some k∧vs.ownBlock≠some k
theorem Own.MM {κ:IntKind} {e:TypeId} {M M' N:aL} {w w':World} {base:Nat} {v:Value} {xs:List Int} (h:Own (RT.int κ) e (pM v) w base v xs) (s:Step M w M' w' N) (hn:∀c,v.ownBlock=some c→¬N c):Own (RT.int κ) e (pM v) w' base v xs:=
 ((h.Kj (M':=allM) (fun _ _=>trivial)).Sy s.all hn).lone
theorem Step.abx {M M' N:aL} {w w':World} (s:Step M w M' w' N) {v:Value} (hv:∀b,v.ownBlock=some b→b<w'.heap.size∧(w.heap.size≤b∨M' b)):Step M w (kD M' v) w' N:=
 ⟨fun h k hk=>hk.elim (fun h1=>(hv k h1).1) (fun h1=>s.lt h k h1),s.os,s.tape,s.output,s.size,fun k hk=>⟨fun h=>by
  rcases h with h|h
  ·rcases(hv k h).2 with h1|h1
   ·omega
   ·exact(s.mem k hk).1 h1
  ·exact(s.mem k hk).1 h,fun h=> .inr ((s.mem k hk).2 h)⟩,s.same,s.sub⟩
end Go.K
namespace Go.K
open Go.Proofs
namespace TKSegG
theorem WY:Enters Tryz.prog 51:=enters Tryz.func51 rfl (by decide)
theorem PJ:Enters Tryz.prog 180:=enters Tryz.func180 rfl (by decide)
end TKSegG
open TKSegG
set_option maxRecDepth 10000
theorem qB {M:aL} {w0:World} {v u:Value} {a b:List Po} (hM:Lt M w0) (hv:((RT.po).sl).V M w0 a v) (hu:((RT.po).sl).V M w0 b u):
  Spec Tryz.prog 85 #[v,u] w0 (fun v' w'=>v'= .bool (decide (a=b))∧Step M w0 M w' aE):=by
 have LR:=dK hv;have hlb:=dK hu;refine bu (args:=[_,_]) (fn:=Tryz.f85) Tryz.func85 rfl (n:=44) Tryz.ntmps85 (al (aj (ak rfl rfl (ae (al (al (aj (ah rfl rfl (bK aK rfl hv rfl (ah rfl rfl (bK aK rfl hu rfl ?_)))))))))));refine eS rfl rfl rfl (ae ?_);refine bQ rfl (fun c1=>?_) (fun c1=>?_)
 ·refine al (aj (ak rfl rfl (ae (aQ ?_))));refine aV rfl rfl ⟨?_,ar _ _⟩;rw[decide_eq_false];rintro rfl;exact c1 rfl
 ·obtain hlen:a.length=b.length:=by omega
  refine aZ (al (al (aj (ak rfl rfl (ae (bh ?_))))));refine dz (σ:=Nat) (fun s=>[(0,v),(1,u),(5,.int .i64 s)]) (fun s w=>s≤a.length∧a.take s=b.take s∧Step M w0 M w aE) (fun s=>a.length-s) 0 (.cons rfl (.cons rfl (.cons rfl .nil))) ?_ ?_
  ·exact⟨bH _,by simp,ar _ _⟩
  ·rintro k w1 ⟨hk,heq,S⟩;refine al (al (aj (ah rfl rfl (ah rfl rfl (bK aK rfl hv rfl (cz rfl rfl rfl (ae ?_)))))));refine bQ rfl (fun c4=>?_) (fun c4=>?_)
   ·refine aZ (al (bh (al ?_)));obtain⟨⟨d,ps⟩,hx⟩:∃x,a[k]? =some x:=⟨_,av (by omega)⟩;obtain⟨⟨e,qs⟩,hy⟩:∃y,b[k]? =some y:=⟨_,av (by omega)⟩;have YG:=S.lt hM;apply T.draw (M:=M) mixed [bW.eq _,bW.eq _,bW.ptr RT.po (d,ps),bW.ptr ((RT.int .i64).sl) ps,bW.V ((RT.int .i64).sl) ps,bW.eq _,bW.eq _,bW.ptr RT.po (e,qs),bW.ptr ((RT.int .i64).sl) qs,bW.V ((RT.int .i64).sl) qs,bW.eq (.bool (decide (ps=qs))),bW.eq _]
    ·rfl
    ·refine aH ?_ ?_
     ·intro wD E sD;refine ah rfl rfl ?_;exact ae ⟨rfl,rfl,_,rfl,rfl,ar _ _⟩
     refine aH ?_ ?_
     ·intro wD E sD;refine ah rfl rfl ?_;exact ae ⟨rfl,rfl,_,rfl,rfl,ar _ _⟩
     refine aH ?_ ?_
     ·intro wD E sD;refine aA (aA ?_);refine cu (M:=M) aK fv rfl rfl rfl (hv.le (S.aB sD).le) (ao _ _) (by omega) (fun ui ai Dd IQ=>?_);obtain rfl:(d,ps)=ai:=dL (aN (Dd.symm.trans (by simpa using hx)));exact ae ⟨rfl,rfl,_,rfl,IQ,ar _ _⟩
     refine aH ?_ ?_
     ·intro wD E sD;intro v2 nq;refine ay (M:=M) (A:=RT.po) (B:=((RT.int .i64).sl)) bA rfl rfl jR (by decide) J4 rfl rfl (by decide) (show cc RT.po M wD v2 (d,ps)from nq) (ao _ _) (fun uf mw=>?_);exact ae ⟨rfl,rfl,_,rfl,mw,ar _ _⟩
     refine aH ?_ ?_
     ·intro wD E sD;intro v3 px;refine bg (M:=M) ax rfl rfl rfl rfl rfl (show cc ((RT.int .i64).sl) M wD v3 ps from px) (ao _ _) (fun uf mw=>?_);exact ae ⟨rfl,rfl,_,rfl,mw,ar _ _⟩
     refine aH ?_ ?_
     ·intro wD E sD;refine ah rfl rfl ?_;exact ae ⟨rfl,rfl,_,rfl,rfl,ar _ _⟩
     refine aH ?_ ?_
     ·intro wD E sD;refine ah rfl rfl ?_;exact ae ⟨rfl,rfl,_,rfl,rfl,ar _ _⟩
     refine aH ?_ ?_
     ·intro wD E sD;refine aA (aA ?_);refine cu (M:=M) aK fv rfl rfl rfl (hu.le (S.aB sD).le) (ao _ _) (by omega) (fun ui ai Dd IQ=>?_);obtain rfl:(e,qs)=ai:=dL (aN (Dd.symm.trans (by simpa using hy)));exact ae ⟨rfl,rfl,_,rfl,IQ,ar _ _⟩
     refine aH ?_ ?_
     ·intro wD E sD;intro v7 pT;refine ay (M:=M) (A:=RT.po) (B:=((RT.int .i64).sl)) bA rfl rfl jR (by decide) J4 rfl rfl (by decide) (show cc RT.po M wD v7 (e,qs)from pT) (ao _ _) (fun uf mw=>?_);exact ae ⟨rfl,rfl,_,rfl,mw,ar _ _⟩
     refine aH ?_ ?_
     ·intro wD E sD;intro v8 rK;refine bg (M:=M) ax rfl rfl rfl rfl rfl (show cc ((RT.int .i64).sl) M wD v8 qs from rK) (ao _ _) (fun uf mw=>?_);exact ae ⟨rfl,rfl,_,rfl,mw,ar _ _⟩
     refine aH ?_ ?_
     ·intro wD E sD;intro v4 nX;intro v9 zV;refine aP rfl rfl WY (sm (M:=M) (sD.lt YG) (show((RT.int .i64).sl).V M wD ps v4 from nX) (show((RT.int .i64).sl).V M wD qs v9 from zV)) (fun r1 w1 h1=>?_);obtain⟨rfl,s1⟩:=h1;exact ae ⟨rfl,rfl,_,rfl,rfl,s1⟩
     refine aH ?_ ?_
     ·intro wD E sD;refine aA (aA (aA (aA ?_)));intro v2 nq;intro v3 px;intro v4 nX;refine aA (aA ?_);intro v7 pT;intro v8 rK;intro v9 zV;refine aA (ak rfl rfl ?_);exact ae ⟨rfl,rfl,_,rfl,rfl,ar _ _⟩
     exact rO
    ·intro RU qH;refine aA (aA ?_);intro Yo RV;intro ajU afY;intro ajV afZ;refine aA (aA ?_);intro ajW af0;intro ajX af1;intro ajY af3;refine aA (aA (al ?_));by_cases BM:d≠e
     ·apply T.draw (M:=M) mixed [bW.eq _,bW.eq _,bW.ptr RT.po (d,ps),bW.ptr (RT.int .i64) d,bW.eq (.int .i64 d),bW.eq _,bW.eq _,bW.ptr RT.po (e,qs),bW.ptr (RT.int .i64) e,bW.eq (.int .i64 e),bW.eq _,bW.eq (.bool true),bW.eq undef,bW.eq undef,bW.eq _]
      ·rfl
      ·refine aH ?_ ?_
       ·intro wD E sD;refine ah rfl rfl ?_;exact ae ⟨rfl,rfl,_,rfl,rfl,ar _ _⟩
       refine aH ?_ ?_
       ·intro wD E sD;refine ah rfl rfl ?_;exact ae ⟨rfl,rfl,_,rfl,rfl,ar _ _⟩
       refine aH ?_ ?_
       ·intro wD E sD;refine aA (aA ?_);refine cu (M:=M) aK fv rfl rfl rfl (hv.le ((S.aB qH).aB sD).le) (ao _ _) (by omega) (fun ui ai Dd IQ=>?_);obtain rfl:(d,ps)=ai:=dL (aN (Dd.symm.trans (by simpa using hx)));exact ae ⟨rfl,rfl,_,rfl,IQ,ar _ _⟩
       refine aH ?_ ?_
       ·intro wD E sD;intro v2 nq;refine ay (M:=M) (A:=RT.po) (B:=RT.int .i64) bA rfl rfl I3 (by decide) Ao rfl rfl (by decide) (show cc RT.po M wD v2 (d,ps)from nq) (ao _ _) (fun uf mw=>?_);exact ae ⟨rfl,rfl,_,rfl,mw,ar _ _⟩
       refine aH ?_ ?_
       ·intro wD E sD;intro v3 px;refine cr (M:=M) az rfl rfl (by assumption) (by repeat (first|exact ao _ _|refine aU (br (by assumption)) ?_)) (fun Uy=>?_);exact ae ⟨rfl,rfl,_,rfl,rfl,ar _ _⟩
       refine aH ?_ ?_
       ·intro wD E sD;refine ah rfl rfl ?_;exact ae ⟨rfl,rfl,_,rfl,rfl,ar _ _⟩
       refine aH ?_ ?_
       ·intro wD E sD;refine ah rfl rfl ?_;exact ae ⟨rfl,rfl,_,rfl,rfl,ar _ _⟩
       refine aH ?_ ?_
       ·intro wD E sD;refine aA (aA ?_);refine cu (M:=M) aK fv rfl rfl rfl (hu.le ((S.aB qH).aB sD).le) (ao _ _) (by omega) (fun ui ai Dd IQ=>?_);obtain rfl:(e,qs)=ai:=dL (aN (Dd.symm.trans (by simpa using hy)));exact ae ⟨rfl,rfl,_,rfl,IQ,ar _ _⟩
       refine aH ?_ ?_
       ·intro wD E sD;intro v7 pT;refine ay (M:=M) (A:=RT.po) (B:=RT.int .i64) bA rfl rfl I3 (by decide) Ao rfl rfl (by decide) (show cc RT.po M wD v7 (e,qs)from pT) (ao _ _) (fun uf mw=>?_);exact ae ⟨rfl,rfl,_,rfl,mw,ar _ _⟩
       refine aH ?_ ?_
       ·intro wD E sD;intro v8 rK;refine cr (M:=M) az rfl rfl (by assumption) (by repeat (first|exact ao _ _|refine aU (br (by assumption)) ?_)) (fun Uz=>?_);exact ae ⟨rfl,rfl,_,rfl,rfl,ar _ _⟩
       refine aH ?_ ?_
       ·intro wD E sD;refine aA (aA (eS rfl rfl rfl ?_));exact ae ⟨rfl,rfl,_,rfl,rfl,ar _ _⟩
       refine aH ?_ ?_
       ·intro wD E sD;refine aA (ah rfl rfl ?_);refine ae ⟨rfl,rfl,_,rfl,?_,ar _ _⟩;exact congrArg Value.bool (decide_eq_true BM)
       refine aH ?_ ?_
       ·intro wD E sD;refine aA ?_;exact au rfl rfl rfl rfl (ae ⟨rfl,rfl,_,rfl,rfl,ar _ _⟩)
       refine aH ?_ ?_
       ·intro wD E sD;refine aA (aA ?_);exact au rfl rfl rfl rfl (ae ⟨rfl,rfl,_,rfl,rfl,ar _ _⟩)
       refine aH ?_ ?_
       ·intro wD E sD;refine aA (aA (aW rfl rfl rfl ?_));exact ae ⟨rfl,rfl,_,rfl,rfl,ar _ _⟩
       exact rO
      ·intro Wz JC;refine aA (aA ?_);intro R2 LU;intro Sv GX;refine aA (aA (aA ?_));intro R3 LV;intro aby UA;refine aA (aA (aA (aA (aA (aA (kW rfl (al (aj (ak rfl rfl (ae (aQ ?_)))))))))));refine aV rfl rfl ⟨?_,(S.aB qH).aB JC⟩;rw[decide_eq_false];rintro rfl;rw[hx]at hy;cases hy;first|exact BM rfl|exact c7 rfl
     ·apply T.draw (M:=M) mixed [bW.eq _,bW.eq _,bW.ptr RT.po (d,ps),bW.ptr (RT.int .i64) d,bW.eq (.int .i64 d),bW.eq _,bW.eq _,bW.ptr RT.po (e,qs),bW.ptr (RT.int .i64) e,bW.eq (.int .i64 e),bW.eq _,bW.eq (.bool false),bW.eq _,bW.eq (.bool (decide (¬ps=qs))),bW.eq _]
      ·rfl
      ·refine aH ?_ ?_
       ·intro wD E sD;refine ah rfl rfl ?_;exact ae ⟨rfl,rfl,_,rfl,rfl,ar _ _⟩
       refine aH ?_ ?_
       ·intro wD E sD;refine ah rfl rfl ?_;exact ae ⟨rfl,rfl,_,rfl,rfl,ar _ _⟩
       refine aH ?_ ?_
       ·intro wD E sD;refine aA (aA ?_);refine cu (M:=M) aK fv rfl rfl rfl (hv.le ((S.aB qH).aB sD).le) (ao _ _) (by omega) (fun ui ai Dd IQ=>?_);obtain rfl:(d,ps)=ai:=dL (aN (Dd.symm.trans (by simpa using hx)));exact ae ⟨rfl,rfl,_,rfl,IQ,ar _ _⟩
       refine aH ?_ ?_
       ·intro wD E sD;intro v2 nq;refine ay (M:=M) (A:=RT.po) (B:=RT.int .i64) bA rfl rfl I3 (by decide) Ao rfl rfl (by decide) (show cc RT.po M wD v2 (d,ps)from nq) (ao _ _) (fun uf mw=>?_);exact ae ⟨rfl,rfl,_,rfl,mw,ar _ _⟩
       refine aH ?_ ?_
       ·intro wD E sD;intro v3 px;refine cr (M:=M) az rfl rfl (by assumption) (by repeat (first|exact ao _ _|refine aU (br (by assumption)) ?_)) (fun Uy=>?_);exact ae ⟨rfl,rfl,_,rfl,rfl,ar _ _⟩
       refine aH ?_ ?_
       ·intro wD E sD;refine ah rfl rfl ?_;exact ae ⟨rfl,rfl,_,rfl,rfl,ar _ _⟩
       refine aH ?_ ?_
       ·intro wD E sD;refine ah rfl rfl ?_;exact ae ⟨rfl,rfl,_,rfl,rfl,ar _ _⟩
       refine aH ?_ ?_
       ·intro wD E sD;refine aA (aA ?_);refine cu (M:=M) aK fv rfl rfl rfl (hu.le ((S.aB qH).aB sD).le) (ao _ _) (by omega) (fun ui ai Dd IQ=>?_);obtain rfl:(e,qs)=ai:=dL (aN (Dd.symm.trans (by simpa using hy)));exact ae ⟨rfl,rfl,_,rfl,IQ,ar _ _⟩
       refine aH ?_ ?_
       ·intro wD E sD;intro v7 pT;refine ay (M:=M) (A:=RT.po) (B:=RT.int .i64) bA rfl rfl I3 (by decide) Ao rfl rfl (by decide) (show cc RT.po M wD v7 (e,qs)from pT) (ao _ _) (fun uf mw=>?_);exact ae ⟨rfl,rfl,_,rfl,mw,ar _ _⟩
       refine aH ?_ ?_
       ·intro wD E sD;intro v8 rK;refine cr (M:=M) az rfl rfl (by assumption) (by repeat (first|exact ao _ _|refine aU (br (by assumption)) ?_)) (fun Uz=>?_);exact ae ⟨rfl,rfl,_,rfl,rfl,ar _ _⟩
       refine aH ?_ ?_
       ·intro wD E sD;refine aA (aA (eS rfl rfl rfl ?_));exact ae ⟨rfl,rfl,_,rfl,rfl,ar _ _⟩
       refine aH ?_ ?_
       ·intro wD E sD;refine aA (ah rfl rfl ?_);refine ae ⟨rfl,rfl,_,rfl,?_,ar _ _⟩;exact congrArg Value.bool (decide_eq_false BM)
       refine aH ?_ ?_
       ·intro wD E sD;refine aA (aq rfl rfl (ah rfl rfl ?_));exact ae ⟨rfl,rfl,_,rfl,rfl,ar _ _⟩
       refine aH ?_ ?_
       ·intro wD E sD;refine aA (aA (aq rfl rfl (jN rfl rfl (bO (v':= .bool (decide (¬ps=qs))) (by simp) ?_))));exact ae ⟨rfl,rfl,_,rfl,rfl,ar _ _⟩
       refine aH ?_ ?_
       ·intro wD E sD;refine aA (aA (aJ rfl rfl rfl ?_));exact ae ⟨rfl,rfl,_,rfl,rfl,ar _ _⟩
       exact rO
      ·intro Wz JC;refine aA (aA ?_);intro R2 LU;intro Sv GX;refine aA (aA (aA ?_));intro R3 LV;intro aby UA;refine aA (aA (aA (aA (aA (aA ?_)))));refine bQ rfl (fun c7=>?_) (fun c7=>?_)
       ·refine al (aj (ak rfl rfl (ae (aQ ?_))));refine aV rfl rfl ⟨?_,(S.aB qH).aB JC⟩;rw[decide_eq_false];rintro rfl;rw[hx]at hy;cases hy;first|exact BM rfl|exact c7 rfl
       ·refine aZ (aj (ah rfl rfl (bI rfl rfl rfl (by omega) (ak rfl rfl (ae ?_)))));refine⟨rfl,k+1,(.cons rfl (.cons rfl (.cons rfl .nil))),?_,?_⟩
        ·refine⟨by omega,?_,(S.aB qH).aB JC⟩;obtain⟨_,h1⟩:=aw.1 hx;obtain⟨_,h2⟩:=aw.1 hy;rw[qb (by omega),qb (by omega),heq,h1,h2,cU.1 BM,cU.1 c7]
        ·show a.length-(k+1)<a.length-k;omega
   ·refine cY (al (aj (ak rfl rfl (ae (aQ ?_)))));refine aV rfl rfl ⟨?_,S⟩;rw[decide_eq_true]
    rwa [a7 (by omega),a7 (by omega)]at heq
theorem De {M:aL} {w0:World} {v:Value} (hM:Lt M w0):
  Spec Tryz.prog 130 #[v] w0 (fun v' w'=>∃bp,v'= .func (.func 179) [].toArray [.pointer (some ⟨bp,0,none⟩)].toArray∧w'.heap[bp]? =some (.cells v.cells 129 (0,0))∧w0.heap.size≤bp∧Step M w0 M w' aE):=by
 refine bu (args:=[_]) (fn:=Tryz.f130) Tryz.func130 rfl (n:=4) Tryz.ntmps130 (al (aj ?_));refine tO M rfl rfl (fun bp w1 h1 Gm hS s1=>?_);refine ak rfl rfl (ae (al (aj (jF (xs:=[]) (ys:=[.tmp 1]) rfl rfl rfl (ak rfl rfl (ae (aQ ?_)))))));exact aV rfl rfl ⟨bp,rfl,hS,h1,s1.back⟩
theorem BN {w0:World} {bp yl:Nat} {v:Value} {l:List Po} {J:Nat→aL→World→Prop} {M:aL} {Jx:World→Prop} (Iy:∀i M w,J i M w→w.heap[bp]? =some (.cells #[v] 129 (0,0))∧Lt M w∧cc RT.li M w v (ir l)∧∀w',Step M w M w' aE→J i M w') (iV:ej (-1) l=true) (ox:∀p∈l,p.2.length≤1099511627776) (xk:(dA (-1) l).length≤1099511627776) (Gf:l.length≤1099511627776) (hy:∀(i:Nat) (M:aL) (w:World) (u:Value),J i M w→i<(l.length+7)/8→((RT.po).sl).V M w ((l.drop (8*i)).take 8) u→uI Tryz.prog yl [u].toArray w (fun r w'=>∃b,r= .bool b∧(b=true→∃M',J (i+1) M' w')∧(b=false→Jx w'))) (h0:J 0 M w0):
  Spec Tryz.prog 179 #[.func (.yield yl) #[] #[],.pointer (some ⟨bp,0,none⟩)] w0 (fun _ w'=>(∃M',J ((l.length+7)/8) M' w')∨Jx w'):=by
 obtain⟨YH,hM,hp,km⟩:=Iy _ _ _ h0;have JA:(ir l).2.1.length=(l.length+7)/8:=by simp[ir,kR]
 refine bu (args:=[_,_]) (fn:=Tryz.f179) Tryz.func179 rfl (n:=19) Tryz.ntmps179 (al (aj (aX cO rfl rfl rfl YH rfl (bm rfl (ue hp) rfl ?_))));refine ay (M:=M) (A:=RT.li) (B:=(RT.bl).sl) du rfl rfl yO (by decide) (QC) rfl rfl (by decide) (by assumption) (by repeat (first|exact ao _ _|refine aU (br (by assumption)) ?_)) (fun ajZ af4=>?_);refine bg (M:=M) dn rfl rfl rfl rfl rfl (by assumption) (by repeat (first|exact ao _ _|refine aU (br (by assumption)) ?_)) (fun aj0 af5=>?_);refine bK dn rfl (by assumption) rfl (bO (v':= .int .i64 (((l.length+7)/8:Nat):Int)) (by rw[JA]) (ah rfl rfl (ae (bh ?_))));refine dz (σ:=Nat) (fun s=>[(0,.func (.yield yl) #[] #[]),(1,.pointer (some ⟨bp,0,none⟩)),(8,.int .i64 (((l.length+7)/8:Nat):Int)),(9,.int .i64 s)]) (fun s w=>(∃M1,J s M1 w)∧s≤(l.length+7)/8) (fun s=>(l.length+7)/8-s) 0 (.cons rfl (.cons rfl (.cons rfl (.cons rfl .nil)))) ?_ ?_
 ·exact⟨⟨_,h0⟩,bH _⟩
 ·rintro k w1 ⟨⟨M1,hJ⟩,hk⟩;refine al (aj (cz rfl rfl rfl (ae (al ?_))));refine bQ rfl (fun c1=>?_) (fun c1=>?_)
  ·refine aZ (al (bh (al (aj (ah rfl rfl (ak rfl rfl (ae (al (aj (ah rfl rfl ?_))))))))));obtain⟨zS,mI,JE,abz⟩:=Iy _ _ _ hJ;refine aX cO rfl rfl rfl zS rfl (ah rfl rfl ?_);refine aP rfl rfl PJ (uV (M:=M1) (k:=k) mI JE iV ox xk) (fun u w4 h4=>?_);obtain⟨s4,h4⟩:=h4;rw[if_pos (by unfold FQ;simp;omega),aC]at h4;refine Rg.yield rfl (vs:=[u]) rfl rfl (hy k M1 _ u (abz _ s4) (by omega) h4) (fun r4 w5 h5=>?_);obtain⟨b,rfl,L7,o0⟩:=h5;refine jN rfl rfl (bO (v':= .bool (decide (¬b=true))) (by simp) (ae ?_));refine bQ rfl (fun c3=>?_) (fun c3=>?_)
   ·refine aQ ?_;exact Aa rfl (.inr (o0 (by simpa using c3)))
   ·refine aZ (aj (bI rfl rfl rfl (by omega) (ah rfl rfl (ae ?_))));refine⟨rfl,k+1,(.cons rfl (.cons rfl (.cons rfl (.cons rfl .nil)))),?_,?_⟩
    ·exact⟨L7 (cU.1 c3),by omega⟩
    ·show _-(k+1)<_-k;omega
  ·refine cY ?_;rw[show k=(l.length+7)/8 from by omega]at hJ;change xf Tryz.prog Tryz.f179 (fun _ w'=>(∃M',J ((l.length+7)/8) M' w')∨Jx w') .normal _ [] _;exact lj rfl (.inl ⟨_,hJ⟩)
end Go.K
namespace Go.K
open Go.Proofs
namespace TKSegO
theorem UB:Enters Tryz.prog 139:=enters Tryz.func139 rfl (by decide)
end TKSegO
open TKSegO
set_option maxRecDepth 10000
theorem zA {M:aL} {w0:World} {v:Value} {l:List Po} (hM:Lt M w0) (hv:((RT.po).sl).V M w0 l v) (iV:ej (-1) l=true) (ox:∀p∈l,p.2.length≤1099511627776) (xk:(dA (-1) l).length≤35184372088832):
  Spec Tryz.prog 91 #[v] w0 (fun v' w'=>Step M w0 M w' aE∧(RT.u8.sl).V M w' (dA (-1) l) v'):=by
 have hlen:=dK hv;refine bu (args:=[_]) (fn:=Tryz.f91) Tryz.func91 rfl (n:=41) Tryz.ntmps91 (al (aj (ak rfl rfl (ae (al (aj (ak rfl rfl (ae (al (al (aj ?_)))))))))));refine ak rfl rfl (ae (bh ?_));refine dz (σ:=Nat×Value) (fun s=>[(0,v),(3,s.2),(4,.int .i64 s.1)]) (fun s w=>s.1≤l.length∧∃M1,Lt M1 w∧Step M w0 M1 w aE∧Own RT.u8 5 M1 w w0.heap.size s.2 (dA (-1) (l.take s.1))) (fun s=>l.length-s.1) (0,_) (.cons rfl (.cons rfl (.cons rfl .nil))) ?_ ?_
 ·exact⟨bH _,M,hM,ar _ _,dQ _ _ _ _ _⟩
 ·rintro⟨k,u0⟩ w1 ⟨hk,M1,mI,S,ho⟩;dsimp only at hk ho ⊢;refine al (al (aj (ah rfl rfl (ah rfl rfl (bK aK rfl hv rfl (cz rfl rfl rfl (ae ?_)))))));refine bQ rfl (fun c3=>?_) (fun c3=>?_)
  ·refine aZ (al (bh (al (aj (ah rfl rfl (ah rfl rfl ?_))))));obtain⟨⟨d,ps⟩,hx⟩:∃x,(l)[k]? =some x:=⟨_,av (by omega)⟩;refine cu (M:=M1) aK fv rfl rfl rfl (hv.le S.le) (ao _ _) (by first|omega|decide) (fun NO qp Gx oJ=>?_);obtain rfl:(d,ps)=qp:=dL (aN (Gx.symm.trans (by simpa using hx)));obtain⟨f1,f2,f3,f4,f5,f6⟩:=mn iV hx;have e2:=congrArg List.length (lr (-1) hx);simp only[bM]at e2;have e3:=kf l (k+1);have b7:=(jf l (-1) iV (by decide) k).1;refine ay (M:=M1) (A:=RT.po) (B:=RT.int .i64) bA rfl rfl I3 (by decide) (Ao) rfl rfl (by decide) (by assumption) (by repeat (first|exact ao _ _|refine aU (br (by assumption)) ?_)) (fun SO AQ=>?_);refine cr (M:=M1) az rfl rfl (by assumption) (by repeat (first|exact ao _ _|refine aU (br (by assumption)) ?_)) (fun MN=>?_);refine bO (v':= .int .i64 (d)) rfl ?_;replace MN: -9223372036854775808≤(d:Int)∧d≤9223372036854775807:=MN;refine ak rfl rfl (ae (al (al (aj (ah rfl rfl (lW rfl rfl rfl (ae ?_)))))));refine bQ rfl (fun c6=>?_) (fun c6=>?_)
   ·obtain⟨⟨e,qs⟩,hy⟩:∃x,l[k-1]? =some x:=⟨_,av (by omega)⟩;obtain⟨_,b2,_,_,LR,b6⟩:=mn iV hy;rw[show k-1+1=k from by omega]at LR;refine aj (ah rfl rfl (ah rfl rfl (ah rfl rfl (gJ rfl rfl rfl (by omega) ?_))));refine cu (M:=M1) aK fv rfl rfl rfl (hv.le S.le) (ao _ _) (by first|omega|decide) (fun Tq abA UC Mh=>?_);obtain rfl:(e,qs)=abA:=dL (aN (UC.symm.trans (by rw[show((k:Int)-1).toNat=k-1 from by omega];exact hy)));refine ay (M:=M1) (A:=RT.po) (B:=RT.int .i64) bA rfl rfl I3 (by decide) (Ao) rfl rfl (by decide) (by assumption) (by repeat (first|exact ao _ _|refine aU (br (by assumption)) ?_)) (fun aj1 af6=>?_);refine cr (M:=M1) az rfl rfl (by assumption) (by repeat (first|exact ao _ _|refine aU (br (by assumption)) ?_)) (fun MO=>?_);refine bO (v':= .int .i64 (e)) rfl ?_;replace MO: -9223372036854775808≤(e:Int)∧e≤9223372036854775807:=MO;refine gJ rfl rfl rfl (by omega) (gJ rfl rfl rfl (by omega) (ak rfl rfl (ae (al (aj (ah rfl rfl (ah rfl rfl (bO (v':= .int .i64 (((d-cy (-1) (l.take k)-1).toNat:Nat):Int)) (by congr 1;rw[LR]at f1 ⊢;omega) ?_))))))));refine aP rfl rfl Gq (ph (M:=M1) mI (by omega)) (fun u w2 h=>?_);obtain⟨s2,hu⟩:=h;refine cv (M:=M1) (base:=w0.heap.size) bj I5 rfl rfl rfl rfl (ho.a8 s2) hu (ao _ _) (by omega) (by omega) (dT S.size s2.size) (fun v3 M3 w3 so s3=>?_);have S3:=(S.aB s2).cF s3 (ho.a8 s2) (aT _);have N8:=s3.lt (s2.lt mI);refine ak rfl rfl (ae (aj (ah rfl rfl (ah rfl rfl (ah rfl rfl ?_)))));refine cu (M:=M3) aK fv rfl rfl rfl (hv.le S3.le) (ao _ _) (by first|omega|decide) (fun SJ PK IS AP=>?_);obtain rfl:(d,ps)=PK:=dL (aN (IS.symm.trans (by simpa using hx)))
    refine ay (M:=M3) (A:=RT.po) (B:=(RT.int .i64).sl) bA rfl rfl jR (by decide) (J4) rfl rfl (by decide) (by assumption) (by repeat (first|exact ao _ _|refine aU (br (by assumption)) ?_)) (fun Cx AW=>?_);refine bg (M:=M3) ax rfl rfl rfl rfl rfl (by assumption) (by repeat (first|exact ao _ _|refine aU (br (by assumption)) ?_)) (fun Lq tI=>?_);replace tI:((RT.int .i64).sl).V M3 _ ps Lq:=tI;refine aP rfl rfl UB (nS (M:=M3) N8 tI (j0.1 f4).1 (ox _ (aG hx))) (fun u4 w4 h=>?_);obtain⟨s4,hY⟩:=h;refine cv (M:=M3) (base:=w0.heap.size) bj I5 rfl rfl rfl rfl (so.a8 s4) hY (ao _ _) (by simp only[bM];omega) (by simp only[bM];omega) (dT S3.size s4.size) (fun v5 M5 w5 Q0 s5=>?_);have S5:=(S3.aB s4).cF s5 (so.a8 s4) (aT _);have hM5:=s5.lt (s4.lt N8);refine ak rfl rfl (ae (aj (ah rfl rfl (bI rfl rfl rfl (by omega) (ak rfl rfl (ae ?_))))));refine⟨rfl,(k+1,v5),(.cons rfl (.cons rfl (.cons rfl .nil))),?_,?_⟩
    ·refine⟨by simp only;omega,M5,hM5,S5,?_⟩;simp only;rw[lr (-1) hx];exact Q0
    ·simp only;omega
   ·have LR:cy (-1) (l.take k)= -1:=by rw[show k=0 from by omega];rfl
    refine aZ (al (aj (ah rfl rfl (ah rfl rfl (bO (v':= .int .i64 (((d-cy (-1) (l.take k)-1).toNat:Nat):Int)) (by congr 1;rw[LR]at f1 ⊢;omega) ?_)))));refine aP rfl rfl Gq (ph (M:=M1) mI (by omega)) (fun u w2 h=>?_);obtain⟨s2,hu⟩:=h;refine cv (M:=M1) (base:=w0.heap.size) bj I5 rfl rfl rfl rfl (ho.a8 s2) hu (ao _ _) (by omega) (by omega) (dT S.size s2.size) (fun v3 M3 w3 so s3=>?_);have S3:=(S.aB s2).cF s3 (ho.a8 s2) (aT _);have N8:=s3.lt (s2.lt mI);refine ak rfl rfl (ae (aj (ah rfl rfl (ah rfl rfl (ah rfl rfl ?_)))));refine cu (M:=M3) aK fv rfl rfl rfl (hv.le S3.le) (ao _ _) (by first|omega|decide) (fun SJ PK IS AP=>?_);obtain rfl:(d,ps)=PK:=dL (aN (IS.symm.trans (by simpa using hx)));refine ay (M:=M3) (A:=RT.po) (B:=(RT.int .i64).sl) bA rfl rfl jR (by decide) (J4) rfl rfl (by decide) (by assumption) (by repeat (first|exact ao _ _|refine aU (br (by assumption)) ?_)) (fun Cx AW=>?_);refine bg (M:=M3) ax rfl rfl rfl rfl rfl (by assumption) (by repeat (first|exact ao _ _|refine aU (br (by assumption)) ?_)) (fun Lq tI=>?_);replace tI:((RT.int .i64).sl).V M3 _ ps Lq:=tI;refine aP rfl rfl UB (nS (M:=M3) N8 tI (j0.1 f4).1 (ox _ (aG hx))) (fun u4 w4 h=>?_);obtain⟨s4,hY⟩:=h;refine cv (M:=M3) (base:=w0.heap.size) bj I5 rfl rfl rfl rfl (so.a8 s4) hY (ao _ _) (by simp only[bM];omega) (by simp only[bM];omega) (dT S3.size s4.size) (fun v5 M5 w5 Q0 s5=>?_);have S5:=(S3.aB s4).cF s5 (so.a8 s4) (aT _);have hM5:=s5.lt (s4.lt N8);refine ak rfl rfl (ae (aj (ah rfl rfl (bI rfl rfl rfl (by omega) (ak rfl rfl (ae ?_))))))
    refine⟨rfl,(k+1,v5),(.cons rfl (.cons rfl (.cons rfl .nil))),?_,?_⟩
    ·refine⟨by simp only;omega,M5,hM5,S5,?_⟩;simp only;rw[lr (-1) hx];exact Q0
    ·simp only;omega
  ·refine cY (al (aj (ah rfl rfl (ak rfl rfl (ae (aQ ?_))))));refine aV rfl rfl ⟨S.back,?_⟩;rw[a7 (by omega)]at ho;exact il hM S ho (by omega)
end Go.K
namespace Go.K
open Go.Proofs
namespace TKSegH
theorem gz:TI Tryz.prog 107 (.slice none 0 0) 1 24:=by unfold TI;kernel_rfl
theorem abC:Enters Tryz.prog 130:=enters Tryz.func130 rfl (by decide)
theorem abD:Enters Tryz.prog 179:=enters Tryz.func179 rfl (by decide)
end TKSegH
open TKSegH
set_option maxRecDepth 10000
structure pZ (M:aL) (w0:World) (v:Value) (bo D bp:Nat) (st:Obj) (vo:Value) (xs:List Po) (M1:aL) (w:World):Prop where
 lt:Lt M1 w
 S:Step M w0 M1 w aE
 mo:M1 bo
 md:M1 D
 mr:M1 (D+1)
 o:w.heap[bo]? =some (.cells #[vo] 107 (0,0))
 d:w.heap[D]? =some (.deferred (some []))
 r:w.heap[D+1]? =some st
 p:w.heap[bp]? =some (.cells #[v] 129 (0,0))
 ne:bo<D∧bp<D∧bo≠bp∧w0.heap.size≤bo∧w0.heap.size≤D
 hk:Own RT.po 153 M1 w (D+2) vo xs
section
variable {M M1 M2:aL} {w0 w w':World} {v vo:Value} {bo D bp:Nat} {st:Obj} {xs:List Po}
theorem pZ.step (h:pZ M w0 v bo D bp st vo xs M1 w) (s:Step M1 w M2 w' aE):pZ M w0 v bo D bp st vo xs M2 w':=
 ⟨s.lt h.lt,h.S.aB s,(s.mem _ (h.lt _ h.mo)).2 h.mo,(s.mem _ (h.lt _ h.md)).2 h.md,(s.mem _ (h.lt _ h.mr)).2 h.mr,s.aM h.o,s.aM h.d,s.aM h.r,s.aM h.p,h.ne,h.hk.a8 s⟩
theorem pZ.lM {st':Obj} (h:pZ M w0 v bo D bp st vo xs M1 w):pZ M w0 v bo D bp st' vo xs M1 (w.putObj (D+1) st'):=by
 have s:Step M1 w M1 (w.putObj (D+1) st') (fun k=>k=D+1):=dM h.mr;obtain⟨e1,e2,e3,e4,e5⟩:=h.ne;exact⟨s.lt h.lt,h.S.cW s (fun k hk=>by subst hk;omega),h.mo,h.md,h.mr,s.bS h.o (by omega),s.bS h.d (by omega),tP (an h.r),s.bS h.p (by omega),h.ne,h.hk.step s (fun k rZ hh=>by have:=(h.hk.base k rZ).1;omega)⟩
theorem pZ.grow {IT:Value} {MR:List Po} (h:pZ M w0 v bo D bp st vo xs M1 w) (s:Step M1 w M2 w' (fun k=>vo.ownBlock=some k)) (hk:Own RT.po 153 M2 w' (D+2) IT MR):
  (w'.heap[bo]? =some (.cells #[vo] 107 (0,0))∧M2 bo)∧∀{w2:World},Step M2 w' M2 w2 (fun k=>k=bo)→w2.heap[bo]? =some (.cells #[IT] 107 (0,0))→pZ M w0 v bo D bp st IT MR M2 w2:=by
 obtain⟨e1,e2,e3,e4,e5⟩:=h.ne;have hn:∀k,vo.ownBlock=some k→D+2≤k:=fun k hk=>(h.hk.base k hk).1
 have eN:=fun {k:Nat} (hm:M1 k)=>(s.mem k (h.lt k hm)).2 hm
 refine⟨⟨s.bS h.o (fun hh=>by have:=hn _ hh;omega),eN h.mo⟩,fun {w2} s2 hx=>?_⟩;have S':=h.S.cW s (fun k hk=>by have:=hn k hk;omega)
 exact⟨s2.lt (s.lt h.lt),S'.cW s2 (fun k hk=>by subst hk;exact e4),eN h.mo,eN h.md,eN h.mr,hx,s2.bS (s.bS h.d (fun hh=>by have:=hn _ hh;omega)) (by omega),s2.bS (s.bS h.r (fun hh=>by have:=hn _ hh;omega)) (by omega),s2.bS (s.bS h.p (fun hh=>by have:=hn _ hh;omega)) (Ne.symm e3),h.ne,
  hk.step s2 (fun k rZ hh=>by have:=(hk.base k rZ).1;omega)⟩
end
def PL (M:aL) (w0:World) (l:List Po) (v:Value) (bo D bp:Nat) (st:Obj) (i:Nat) (M1:aL) (w:World):Prop:=
 ∃(vo:Value),pZ M w0 v bo D bp st vo (l.take (8*i)) M1 w
theorem UD {M:aL} {w0 w2 w3:World} {v:Value} {l:List Po} {bo bp:Nat} {st:Obj} (S2:Step M w0 (ins M bo) w2 aE) (s3:Step (ins M bo) w2 (ins M bo) w3 aE) (hM:Lt M w0) (e1:w0.heap.size≤bo) (e2:bo<w2.heap.size) (e3:w2.heap.size≤bp)
  (hO:w2.heap[bo]? =some (.cells #[.slice none 0 0] 107 (0,0))) (hP:w3.heap[bp]? =some (.cells #[v] 129 (0,0))):∃M1,PL M w0 l v bo w3.heap.size bp st 0 M1 ((w3.alloc (.deferred (some []))).alloc st):=by
 have sA:Step (ins M bo) w3 (ins (ins M bo) w3.heap.size) (w3.alloc (.deferred (some []))) aE:=(dv _ w3 _).own (aT _) (by simp);have sB:Step (ins (ins M bo) w3.heap.size) (w3.alloc (.deferred (some []))) (ins (ins (ins M bo) w3.heap.size) (w3.heap.size+1)) ((w3.alloc (.deferred (some []))).alloc st) aE:=(dv _ _ _).own (by simp) (by simp);have z3:=s3.size;have hp3:=an hP;have S:=((S2.aB s3).aB sA).aB sB;have hD:(w3.alloc (.deferred (some []))).heap[w3.heap.size]? =some (.deferred (some [])):=cJ w3 _;have hR:((w3.alloc (.deferred (some []))).alloc st).heap[w3.heap.size+1]? =some st:=by have:=cJ (w3.alloc (.deferred (some []))) st;rwa [xd]at this
 have z0:=S2.size;exact⟨_,.slice none 0 0,⟨S.lt hM,S,.inr (.inr (.inl rfl)),.inr (.inl rfl),.inl rfl,sB.aM (sA.aM (s3.aM hO)),sB.aM hD,hR,sB.aM (sA.aM hP),by omega,by rw[Nat.mul_zero,List.take_zero];exact dQ _ _ _ _ _⟩⟩
set_option maxHeartbeats 2000000 in
theorem BO {M:aL} {w0:World} {v:Value} {l:List Po} (hM:Lt M w0) (hv:cc RT.li M w0 v (ir l)) (iV:ej (-1) l=true) (ox:∀p∈l,p.2.length≤1099511627776) (xk:(dA (-1) l).length≤1099511627776) (Gf:l.length≤1099511627776):
  Spec Tryz.prog 79 #[v] w0 (fun v' w'=>((RT.po).sl).V M w' l v'∧Step M w0 M w' aE):=by
 refine mE (args:=[_]) (fn:=Tryz.f79) Tryz.func79 rfl (n:=12) Tryz.ntmps79 (al (aj (ak rfl rfl (ae (al (aj ?_))))));refine eG M gz rfl (fun bo w2 Fv Uk hO s2=>?_);refine ae (al (al (aj (ah rfl rfl ?_))));refine aP rfl rfl abC (De (M:=ins M bo) (s2.lt hM)) (fun r w3 h3=>?_);obtain⟨bp,rfl,hP,hbp,s3⟩:=h3;rw[show v.cells= #[v]from by obtain⟨q,rfl⟩:=ue hv;rfl]at hP;refine ae (bh ?_);refine T.range (gf:=179) (lb:=[.pointer (some ⟨bp,0,none⟩)].toArray) rfl abD (fun rec mj=>?_);obtain⟨D,hD⟩:∃D,D=w3.heap.size:=⟨_,rfl⟩;rw[←hD]at mj ⊢
 obtain⟨Ms,h0⟩:∃Ms,PL M w0 l v bo D bp (.loop (rec .ready none)) 0 Ms ((w3.alloc (.deferred (some []))).alloc (.loop (rec .ready none))):=by
  rw[hD]at mj ⊢;exact UD s2 s3 hM Fv Uk hbp hO hP
 refine Spec.mono (BN (J:=PL M w0 l v bo D bp (.loop (rec .ready none))) (Jx:=fun _=>False) (fun i M1 w ⟨vo,h⟩=>⟨h.p,h.lt,hv.le (by decide) h.S.le,fun w' s=>⟨vo,h.step s⟩⟩) iV ox xk Gf (fun i M1 wr u hJ hi hu=>?_) h0) (fun _ w4 h4=>?_)
 ·obtain⟨vo,h⟩:=hJ;refine kY (ps:=[7]) (vs:=[u]) mj h.r rfl (by decide) (aj (ak rfl rfl (ae ?_)));refine⟨rfl,h.r,?_⟩;have sR:Step M1 wr M1 (wr.putObj (D+1) (.loop (rec .busy none))) (fun k=>k=D+1):=dM h.mr;have kq:=hu.le sR.le;have h1:=h.lM (st':= .loop (rec .busy none));generalize wr.putObj (D+1) _=wB at h1 kq ⊢;refine bh (aj (aX aK rfl rfl rfl h1.o rfl (ah rfl rfl ?_)));refine cv (M:=M1) (base:=D+2) aK fv rfl rfl rfl rfl h1.hk kq (ao _ _) (by simp;omega) (by simp;omega) (by have:=an h1.r;omega) (fun v3 M3 w4 so s4=>?_);obtain⟨⟨N5,hm3⟩,FO⟩:=h1.grow s4 so;refine ck (M:=M3) gz rfl rfl N5 rfl (by obtain⟨_,_,he,_⟩:=so.isSlice;rw[he];rfl) hm3 (fun w5 hX5 s5=>?_);have h5:=(FO s5 hX5).lM (st':= .loop (rec .ready none));have h6:=FO s5 hX5;refine ae ?_;refine⟨h6.r,true,rfl,fun _=>⟨M3,v3,?_⟩,fun h=>by cases h⟩;rw[show 8*(i+1)=8*i+8 from by omega,List.take_add];exact h5
 ·obtain⟨Mz,vo,h⟩:=h4.resolve_right (fun h=>h);left;rw[a7 (by omega)]at h;have h5:=h.lM (st':= .loop (rec .exhausted none));refine⟨h.r,?_⟩;generalize w4.putObj (D+1) _=wE at h5 ⊢;refine al (aj (aX aK rfl rfl rfl h5.o rfl (ak rfl rfl (ae (aQ ?_)))));obtain⟨q1,q2,q3,q4,q5⟩:=h5.ne;have sZ:Step Mz wE Mz (wE.putObj D (.deferred none)) (fun k=>k=D):=dM h5.md;have SZ:=h5.S.cW sZ (fun k hk=>by subst hk;omega);exact yL rfl rfl h5.d ⟨il hM SZ ((h5.hk.step sZ (fun k hk hh=>by have:=(h5.hk.base k hk).1;omega)).mi (by omega)) (by omega),SZ.back⟩
end Go.K
namespace Go.K
open Go.Proofs
namespace TKSegA
theorem UE:Enters Tryz.prog 120:=enters Tryz.func120 rfl (by decide)
end TKSegA
open TKSegA
set_option maxRecDepth 10000
def Df (xs:List Int) (i:Int):Int:=if 0≤i∧i<xs.length then xs.getD i.toNat 0 else-1
theorem Eh {M:aL} {xs:List Int} {v0:Value} {i:Int} (w0:World) (hv:((RT.int .i64).sl).V M w0 xs v0):
  Spec Tryz.prog 120 #[v0,.int .i64 i] w0 (fun v w=>v= .int .i64 (Df xs i)∧w=w0):=by
 have hlen:=dK hv;refine bu (args:=[_,_]) (fn:=Tryz.f120) Tryz.func120 rfl (n:=17) Tryz.ntmps120 (al (aj (ak rfl rfl (ae (al (al (aj (ah rfl rfl (cz rfl rfl rfl (ah rfl rfl ?_))))))))));refine aR (g:=7) rfl (fun ib=>?_) (fun ib=>?_)
 ·refine au rfl rfl rfl rfl (au rfl rfl rfl rfl (au rfl rfl rfl rfl (au rfl rfl rfl rfl (aW rfl rfl rfl (ae (kW rfl (al (aj (ak rfl rfl (ae (aQ ?_)))))))))));have e:Df xs i= -1:=by unfold Df;rw[if_neg (by omega)]
  exact aV rfl rfl ⟨by rw[e],rfl⟩
 ·refine aq rfl rfl (ah rfl rfl (aq rfl rfl (ah rfl rfl (aq rfl rfl (bK ax rfl hv rfl (aq rfl rfl (ek rfl rfl rfl (aJ rfl rfl rfl (ae ?_)))))))));refine bQ rfl (fun c1=>?_) (fun c1=>?_)
  ·refine al (aj (ak rfl rfl (ae (aQ ?_))));have e:Df xs i= -1:=by unfold Df;rw[if_neg (by omega)]
   exact aV rfl rfl ⟨by rw[e],rfl⟩
  ·refine aZ (al (aj (ah rfl rfl (ah rfl rfl ?_))));refine cu (M:=M) ax I3 rfl rfl rfl hv (ao _ _) (by omega) (fun u x hg hu=>?_);refine cr (M:=M) az rfl rfl hu (ao _ _) (fun nV=>?_);refine ak rfl rfl (ae (aQ ?_));have e:Df xs i=x:=by unfold Df;rw[if_pos (by omega),cZ,hg];rfl
   exact aV rfl rfl ⟨by rw[e],rfl⟩
theorem yp {M:aL} {s:Se} {v0:Value} (w0:World) (hs:cc RT.se M w0 v0 s):
  Spec Tryz.prog 67 #[v0] w0 (fun v w=>v= .int .i64 (s.1.length:Int)∧w=w0):=by
 refine bu (args:=[_]) (fn:=Tryz.f67) Tryz.func67 rfl (n:=8) Tryz.ntmps67 (al (aj (ak rfl rfl (ae (al (aj (ah rfl rfl (bm rfl hs.fk rfl ?_))))))));refine ay (M:=M) (A:=RT.se) (B:=(RT.int .i64).sl) eH rfl rfl jR (by decide) ZU rfl rfl (by decide) hs (ao _ _) (fun AF l6=>?_);refine bg (M:=M) ax rfl rfl rfl rfl rfl l6 (ao _ _) (fun BP me=>?_);replace me:((RT.int .i64).sl).V M _ s.1 BP:=me;refine bK ax rfl me rfl (ak rfl rfl (ae (aQ ?_)));exact aV rfl rfl ⟨rfl,rfl⟩
theorem BQ {M:aL} {s:Se} {i:Int} {v0:Value} (w0:World) (hs:cc RT.se M w0 v0 s):
  Spec Tryz.prog 69 #[v0,.int .i64 i] w0 (fun v w=>v= .int .i64 (Df s.1 i)∧w=w0):=by
 refine bu (args:=[_,_]) (fn:=Tryz.f69) Tryz.func69 rfl (n:=11) Tryz.ntmps69 (al (aj (ak rfl rfl (ae (al (aj (ah rfl rfl (bm rfl hs.fk rfl ?_))))))));refine ay (M:=M) (A:=RT.se) (B:=(RT.int .i64).sl) eH rfl rfl jR (by decide) ZU rfl rfl (by decide) hs (ao _ _) (fun AF l6=>?_);refine bg (M:=M) ax rfl rfl rfl rfl rfl l6 (ao _ _) (fun BP me=>?_);replace me:((RT.int .i64).sl).V M _ s.1 BP:=me;refine ah rfl rfl ?_;refine aP rfl rfl UE (Eh _ me) (fun r wc hc=>?_);obtain⟨rfl,rfl⟩:=hc;refine ak rfl rfl (ae (aQ ?_));exact aV rfl rfl ⟨rfl,rfl⟩
theorem yq {M:aL} {s:Se} {i:Int} {v0:Value} (w0:World) (hs:cc RT.se M w0 v0 s):
  Spec Tryz.prog 70 #[v0,.int .i64 i] w0 (fun v w=>v= .int .i64 (Df s.2.1 i)∧w=w0):=by
 refine bu (args:=[_,_]) (fn:=Tryz.f70) Tryz.func70 rfl (n:=11) Tryz.ntmps70 (al (aj (ak rfl rfl (ae (al (aj (ah rfl rfl (bm rfl hs.fk rfl ?_))))))));refine ay (M:=M) (A:=RT.se) (B:=(RT.int .i64).sl) eH rfl rfl jR (by decide) se1 rfl rfl (by decide) hs (ao _ _) (fun AF l6=>?_);refine bg (M:=M) ax rfl rfl rfl rfl rfl l6 (ao _ _) (fun BP me=>?_);replace me:((RT.int .i64).sl).V M _ s.2.1 BP:=me;refine ah rfl rfl ?_;refine aP rfl rfl UE (Eh _ me) (fun r wc hc=>?_);obtain⟨rfl,rfl⟩:=hc;refine ak rfl rfl (ae (aQ ?_));exact aV rfl rfl ⟨rfl,rfl⟩
theorem wh {α:Type} {p:α→Bool}:∀{xs:List α} {i:Nat},i≤xs.length→(∀(k:Nat) x,k<i→xs[k]? =some x→p x=true)→(∀(k:Nat) x,i≤k→xs[k]? =some x→p x=false)→xs.countP p=i
 |[],i,hi,_,_=>by simp at hi;simp[hi]
 |x::xs,0,_,_,h2=>by
  rw[List.countP_eq_zero.2];intro a ha;obtain⟨k,hk⟩:=bN.1 ha;simp[h2 k a (bH _) hk]
 |x::xs,i+1,hi,h1,h2=>by
  rw[List.countP_cons_of_pos (h1 0 x (by omega) rfl),wh (by simpa using hi) (fun k y hk hy=>h1 (k+1) y (by omega) (by simpa using hy)) (fun k y hk hy=>h2 (k+1) y (by omega) (by simpa using hy))]
end Go.K

/- Part 6 of what PutEmpty needs: the walks of the program's functions, and plain facts. -/
import Derived.Test.YtdjpjmkpndmhaaaGreatPutEmptyM5
import Derived.Shelf.SlSortCmp.NoneTotal
import Derived.Shelf.SlicesQ.Equal
import Derived.Shelf.SlicesE.Equal
import Derived.Shelf.SlicesE.IndexFunc
import Derived.Shelf.SlicesE.DeleteFunc
import Derived.Shelf.Sort.Plain
import Derived.Test.YtdjpjmkpndmhaaaGreatProg
import Derived.Sort.OwnSortedInts
import Derived.Deep.Cut
import Derived.Sort.LotA
import Derived.Sort.Grow
set_option linter.unusedSimpArgs false
set_option linter.unusedVariables false
set_option linter.unnecessarySimpa false
namespace Go.Proofs
open Go.Shelf
def Tryz.laySort_ren:Go.Shelf.Ren:=⟨fun|6=>119|15=>134|14=>151|28=>163|29=>164|20=>174|21=>175|22=>176|23=>177|24=>178|25=>179|26=>180|27=>181|46=>190|47=>183|48=>184|49=>191|50=>192|57=>196|n=>n,fun|22=>40|24=>47|25=>150|3=>3|39=>161|0=>0|53=>182|55=>91|4=>4|46=>176|45=>175|50=>27|5=>5|9=>9|66=>190|70=>135|76=>198|77=>170|n=>n,fun|n=>n⟩
theorem Tryz.laySort:Go.Proofs.SlLaysF0.n6 Tryz.prog Tryz.laySort_ren:={
  mixed:=by kernel_rfl
  f6:=⟨Tryz.f119.name,by decide,Tryz.func119.trans (congrArg some (by kernel_rfl))⟩
  f14:=⟨Tryz.f151.name,by decide,Tryz.func151.trans (congrArg some (by kernel_rfl))⟩
  f15:=Tryz.func134.trans (congrArg some (by kernel_rfl))
  f20:=⟨Tryz.f174.name,by decide,Tryz.func174.trans (congrArg some (by kernel_rfl))⟩
  f21:=⟨Tryz.f175.name,by decide,Tryz.func175.trans (congrArg some (by kernel_rfl))⟩
  f22:=⟨Tryz.f176.name,by decide,Tryz.func176.trans (congrArg some (by kernel_rfl))⟩
  f23:=⟨Tryz.f177.name,by decide,Tryz.func177.trans (congrArg some (by kernel_rfl))⟩
  f24:=⟨Tryz.f178.name,by decide,Tryz.func178.trans (congrArg some (by kernel_rfl))⟩
  f25:=⟨Tryz.f179.name,by decide,Tryz.func179.trans (congrArg some (by kernel_rfl))⟩
  f26:=⟨Tryz.f180.name,by decide,Tryz.func180.trans (congrArg some (by kernel_rfl))⟩
  f27:=⟨Tryz.f181.name,by decide,Tryz.func181.trans (congrArg some (by kernel_rfl))⟩
  f28:=Tryz.func163.trans (congrArg some (by kernel_rfl))
  f29:=Tryz.func164.trans (congrArg some (by kernel_rfl))
  f46:=⟨Tryz.f190.name,by decide,Tryz.func190.trans (congrArg some (by kernel_rfl))⟩
  f47:=Tryz.func183.trans (congrArg some (by kernel_rfl))
  f48:=Tryz.func184.trans (congrArg some (by kernel_rfl))
  f49:=⟨Tryz.f191.name,by decide,Tryz.func191.trans (congrArg some (by kernel_rfl))⟩
  f50:=⟨Tryz.f192.name,by decide,Tryz.func192.trans (congrArg some (by kernel_rfl))⟩
  f57:=⟨Tryz.f196.name,by decide,Tryz.func196.trans (congrArg some (by kernel_rfl))⟩
  t0:=Tryz.underlying0
  a0:=Tryz.isAgg0
  z0:=Tryz.sizeOf0
  v0:=Tryz.zeroValue0
  t3:=Tryz.underlying3
  a3:=Tryz.isAgg3
  z3:=Tryz.sizeOf3
  v3:=Tryz.zeroValue3
  t4:=Tryz.underlying4
  a4:=Tryz.isAgg4
  z4:=Tryz.sizeOf4
  v4:=Tryz.zeroValue4
  t5:=Tryz.underlying5
  a5:=Tryz.isAgg5
  z5:=Tryz.sizeOf5
  v5:=Tryz.zeroValue5
  t9:=Tryz.underlying9
  a9:=Tryz.isAgg9
  z9:=Tryz.sizeOf9
  v9:=Tryz.zeroValue9
  t22:=Tryz.underlying40
  a22:=Tryz.isAgg40
  z22:=Tryz.sizeOf40
  v22:=Tryz.zeroValue40
  t25:=Tryz.underlying150
  a25:=Tryz.isAgg150
  z25:=Tryz.sizeOf150
  v25:=Tryz.zeroValue150
  t39:=Tryz.underlying161
  a39:=Tryz.isAgg161
  z39:=Tryz.sizeOf161
  v39:=Tryz.zeroValue161
  t45:=Tryz.underlying175
  a45:=Tryz.isAgg175
  z45:=Tryz.sizeOf175
  v45:=Tryz.zeroValue175
  t46:=Tryz.underlying176
  a46:=Tryz.isAgg176
  z46:=Tryz.sizeOf176
  v46:=Tryz.zeroValue176
  t50:=Tryz.underlying27
  a50:=Tryz.isAgg27
  z50:=Tryz.sizeOf27
  v50:=Tryz.zeroValue27
  t53:=Tryz.underlying182
  a53:=Tryz.isAgg182
  z53:=Tryz.sizeOf182
  v53:=Tryz.zeroValue182
  t55:=Tryz.underlying91
  a55:=Tryz.isAgg91
  z55:=Tryz.sizeOf91
  v55:=Tryz.zeroValue91
  t66:=Tryz.underlying190
  a66:=Tryz.isAgg190
  z66:=Tryz.sizeOf190
  v66:=Tryz.zeroValue190
  t70:=Tryz.underlying135
  a70:=Tryz.isAgg135
  z70:=Tryz.sizeOf135
  v70:=Tryz.zeroValue135
  t76:=Tryz.underlying198
  a76:=Tryz.isAgg198
  z76:=Tryz.sizeOf198
  v76:=Tryz.zeroValue198
  t77:=Tryz.underlying170
  a77:=Tryz.isAgg170
  z77:=Tryz.sizeOf170
  v77:=Tryz.zeroValue170}
def Tryz.layEqItem_ren:Go.Shelf.Ren:=⟨fun|8=>69|n=>n,fun|22=>97|24=>56|4=>4|3=>3|0=>0|n=>n,fun|n=>n⟩
theorem Tryz.layEqItem:Go.Proofs.SlLaysQ.n8 Tryz.prog Tryz.layEqItem_ren:={
  mixed:=by kernel_rfl
  f8:=⟨Tryz.f69.name,by decide,Tryz.func69.trans (congrArg some (by kernel_rfl))⟩
  t0:=Tryz.underlying0
  a0:=Tryz.isAgg0
  z0:=Tryz.sizeOf0
  v0:=Tryz.zeroValue0
  t3:=Tryz.underlying3
  a3:=Tryz.isAgg3
  z3:=Tryz.sizeOf3
  v3:=Tryz.zeroValue3
  t4:=Tryz.underlying4
  a4:=Tryz.isAgg4
  z4:=Tryz.sizeOf4
  v4:=Tryz.zeroValue4
  t22:=Tryz.underlying97
  a22:=Tryz.isAgg97
  z22:=Tryz.sizeOf97
  v22:=Tryz.zeroValue97}
def Tryz.layEqInt_ren:Go.Shelf.Ren:=⟨fun|33=>71|n=>n,fun|22=>62|23=>3|4=>4|3=>3|0=>0|n=>n,fun|n=>n⟩
theorem Tryz.layEqInt:Go.Proofs.SlLaysE.n33 Tryz.prog Tryz.layEqInt_ren:={
  mixed:=by kernel_rfl
  f33:=⟨Tryz.f71.name,by decide,Tryz.func71.trans (congrArg some (by kernel_rfl))⟩
  t0:=Tryz.underlying0
  a0:=Tryz.isAgg0
  z0:=Tryz.sizeOf0
  v0:=Tryz.zeroValue0
  t3:=Tryz.underlying3
  a3:=Tryz.isAgg3
  z3:=Tryz.sizeOf3
  v3:=Tryz.zeroValue3
  t4:=Tryz.underlying4
  a4:=Tryz.isAgg4
  z4:=Tryz.sizeOf4
  v4:=Tryz.zeroValue4
  t22:=Tryz.underlying62
  a22:=Tryz.isAgg62
  z22:=Tryz.sizeOf62
  v22:=Tryz.zeroValue62
  a23:=Tryz.isAgg3
  z23:=Tryz.sizeOf3}
def Tryz.layEqBool_ren:Go.Shelf.Ren:=⟨fun|33=>74|n=>n,fun|22=>83|23=>4|4=>4|3=>3|0=>0|n=>n,fun|n=>n⟩
theorem Tryz.layEqBool:Go.Proofs.SlLaysE.n33 Tryz.prog Tryz.layEqBool_ren:={
  mixed:=by kernel_rfl
  f33:=⟨Tryz.f74.name,by decide,Tryz.func74.trans (congrArg some (by kernel_rfl))⟩
  t0:=Tryz.underlying0
  a0:=Tryz.isAgg0
  z0:=Tryz.sizeOf0
  v0:=Tryz.zeroValue0
  t3:=Tryz.underlying3
  a3:=Tryz.isAgg3
  z3:=Tryz.sizeOf3
  v3:=Tryz.zeroValue3
  t4:=Tryz.underlying4
  a4:=Tryz.isAgg4
  z4:=Tryz.sizeOf4
  v4:=Tryz.zeroValue4
  t22:=Tryz.underlying83
  a22:=Tryz.isAgg83
  z22:=Tryz.sizeOf83
  v22:=Tryz.zeroValue83
  a23:=Tryz.isAgg4
  z23:=Tryz.sizeOf4}
def Tryz.layHasStr_ren:Go.Shelf.Ren:=⟨fun|8=>122|6=>153|n=>n,fun|22=>42|23=>9|25=>123|4=>4|3=>3|0=>0|n=>n,fun|n=>n⟩
theorem Tryz.layHasStr:Go.Proofs.SlLaysH.n8 Tryz.prog Tryz.layHasStr_ren:={
  mixed:=by kernel_rfl
  f6:=⟨Tryz.f153.name,by decide,Tryz.func153.trans (congrArg some (by kernel_rfl))⟩
  f8:=⟨Tryz.f122.name,by decide,Tryz.func122.trans (congrArg some (by kernel_rfl))⟩
  t0:=Tryz.underlying0
  a0:=Tryz.isAgg0
  z0:=Tryz.sizeOf0
  v0:=Tryz.zeroValue0
  t3:=Tryz.underlying3
  a3:=Tryz.isAgg3
  z3:=Tryz.sizeOf3
  v3:=Tryz.zeroValue3
  t4:=Tryz.underlying4
  a4:=Tryz.isAgg4
  z4:=Tryz.sizeOf4
  v4:=Tryz.zeroValue4
  t22:=Tryz.underlying42
  a22:=Tryz.isAgg42
  z22:=Tryz.sizeOf42
  v22:=Tryz.zeroValue42
  a23:=Tryz.isAgg9
  z23:=Tryz.sizeOf9
  t25:=Tryz.underlying123
  a25:=Tryz.isAgg123
  z25:=Tryz.sizeOf123
  v25:=Tryz.zeroValue123}
def Tryz.layDelInt_ren:Go.Shelf.Ren:=⟨fun|10=>99|6=>136|n=>n,fun|22=>62|23=>3|25=>128|3=>3|4=>4|0=>0|n=>n,fun|n=>n⟩
theorem Tryz.layDelInt:Go.Proofs.SlLaysH.n10 Tryz.prog Tryz.layDelInt_ren:={
  mixed:=by kernel_rfl
  f6:=⟨Tryz.f136.name,by decide,Tryz.func136.trans (congrArg some (by kernel_rfl))⟩
  f10:=⟨Tryz.f99.name,by decide,Tryz.func99.trans (congrArg some (by kernel_rfl))⟩
  t0:=Tryz.underlying0
  a0:=Tryz.isAgg0
  z0:=Tryz.sizeOf0
  v0:=Tryz.zeroValue0
  t3:=Tryz.underlying3
  a3:=Tryz.isAgg3
  z3:=Tryz.sizeOf3
  v3:=Tryz.zeroValue3
  t4:=Tryz.underlying4
  a4:=Tryz.isAgg4
  z4:=Tryz.sizeOf4
  v4:=Tryz.zeroValue4
  t22:=Tryz.underlying62
  a22:=Tryz.isAgg62
  z22:=Tryz.sizeOf62
  v22:=Tryz.zeroValue62
  a23:=Tryz.isAgg3
  z23:=Tryz.sizeOf3
  t25:=Tryz.underlying128
  a25:=Tryz.isAgg128
  z25:=Tryz.sizeOf128
  v25:=Tryz.zeroValue128}
def Tryz.laySortInt_ren:Go.Shelf.Ren:=⟨fun|189=>90|125=>134|257=>133|128=>163|129=>164|294=>154|295=>155|296=>156|297=>157|298=>158|299=>159|216=>160|300=>161|301=>162|328=>182|329=>183|330=>184|331=>185|332=>186|215=>187|343=>193|n=>n,fun|28=>62|3=>3|46=>161|0=>0|51=>182|53=>91|4=>4|183=>176|182=>175|131=>27|5=>5|9=>9|218=>190|222=>135|228=>198|229=>170|n=>n,fun|n=>n⟩
theorem Tryz.laySortInt:Go.Proofs.Lays.n189 Tryz.prog Tryz.laySortInt_ren:={
  mixed:=by kernel_rfl
  f125:=Tryz.func134.trans (congrArg some (by kernel_rfl))
  f128:=Tryz.func163.trans (congrArg some (by kernel_rfl))
  f129:=Tryz.func164.trans (congrArg some (by kernel_rfl))
  f189:=Tryz.func90.trans (congrArg some (by kernel_rfl))
  f215:=Tryz.func187.trans (congrArg some (by kernel_rfl))
  f216:=Tryz.func160.trans (congrArg some (by kernel_rfl))
  f257:=Tryz.func133.trans (congrArg some (by kernel_rfl))
  f294:=Tryz.func154.trans (congrArg some (by kernel_rfl))
  f295:=Tryz.func155.trans (congrArg some (by kernel_rfl))
  f296:=Tryz.func156.trans (congrArg some (by kernel_rfl))
  f297:=Tryz.func157.trans (congrArg some (by kernel_rfl))
  f298:=Tryz.func158.trans (congrArg some (by kernel_rfl))
  f299:=Tryz.func159.trans (congrArg some (by kernel_rfl))
  f300:=Tryz.func161.trans (congrArg some (by kernel_rfl))
  f301:=Tryz.func162.trans (congrArg some (by kernel_rfl))
  f328:=Tryz.func182.trans (congrArg some (by kernel_rfl))
  f329:=Tryz.func183.trans (congrArg some (by kernel_rfl))
  f330:=Tryz.func184.trans (congrArg some (by kernel_rfl))
  f331:=Tryz.func185.trans (congrArg some (by kernel_rfl))
  f332:=Tryz.func186.trans (congrArg some (by kernel_rfl))
  f343:=Tryz.func193.trans (congrArg some (by kernel_rfl))
  t0:=Tryz.underlying0
  a0:=Tryz.isAgg0
  z0:=Tryz.sizeOf0
  v0:=Tryz.zeroValue0
  t3:=Tryz.underlying3
  a3:=Tryz.isAgg3
  z3:=Tryz.sizeOf3
  v3:=Tryz.zeroValue3
  t4:=Tryz.underlying4
  a4:=Tryz.isAgg4
  z4:=Tryz.sizeOf4
  v4:=Tryz.zeroValue4
  t5:=Tryz.underlying5
  a5:=Tryz.isAgg5
  z5:=Tryz.sizeOf5
  v5:=Tryz.zeroValue5
  t9:=Tryz.underlying9
  a9:=Tryz.isAgg9
  z9:=Tryz.sizeOf9
  v9:=Tryz.zeroValue9
  t28:=Tryz.underlying62
  a28:=Tryz.isAgg62
  z28:=Tryz.sizeOf62
  v28:=Tryz.zeroValue62
  t46:=Tryz.underlying161
  a46:=Tryz.isAgg161
  z46:=Tryz.sizeOf161
  v46:=Tryz.zeroValue161
  t51:=Tryz.underlying182
  a51:=Tryz.isAgg182
  z51:=Tryz.sizeOf182
  v51:=Tryz.zeroValue182
  t53:=Tryz.underlying91
  a53:=Tryz.isAgg91
  z53:=Tryz.sizeOf91
  v53:=Tryz.zeroValue91
  t131:=Tryz.underlying27
  a131:=Tryz.isAgg27
  z131:=Tryz.sizeOf27
  v131:=Tryz.zeroValue27
  t182:=Tryz.underlying175
  a182:=Tryz.isAgg175
  z182:=Tryz.sizeOf175
  v182:=Tryz.zeroValue175
  t183:=Tryz.underlying176
  a183:=Tryz.isAgg176
  z183:=Tryz.sizeOf176
  v183:=Tryz.zeroValue176
  t218:=Tryz.underlying190
  a218:=Tryz.isAgg190
  z218:=Tryz.sizeOf190
  v218:=Tryz.zeroValue190
  t222:=Tryz.underlying135
  a222:=Tryz.isAgg135
  z222:=Tryz.sizeOf135
  v222:=Tryz.zeroValue135
  t228:=Tryz.underlying198
  a228:=Tryz.isAgg198
  z228:=Tryz.sizeOf198
  v228:=Tryz.zeroValue198
  t229:=Tryz.underlying170
  a229:=Tryz.isAgg170
  z229:=Tryz.sizeOf170
  v229:=Tryz.zeroValue170}
end Go.Proofs
namespace Go.Proofs.YtdjpjmkpndmhaaaGreat
open Go.RowKit
abbrev Docs:=List (Int×List UInt8)
abbrev txt (ds:Docs):List (List UInt8):=ds.map (·.2)
def symsM (ts:List (List UInt8)):List Int:=(refSorted ts).map (symOf ts)
def mkR (rate:Int) (r:Nat×Nat):Bool:=decide ((r.2:Int) % rate=0)
def spR (ds:Docs) (r:Nat×Nat):Int×Int:=((ds.getD r.1 (0,[])).1,(r.2:Int))
def marksM (rate:Int) (ts:List (List UInt8)):List Bool:=(refSorted ts).map (mkR rate)
def spotsM (rate:Int) (ds:Docs):List (Int×Int):=((refSorted (txt ds)).filter (mkR rate)).map (spR ds)
def vCheck (s:Ar) (h rate:Int) (ds:Docs):Option Bool:=
  if vIs s h=true∧1≤rate∧rate≤16 then
    if refRight (txt ds)=true then
      (lAll s (vOf s h).table).bind fun a=>if a.length≤50000 then (if a==docsM ds then
        (wAll s (vOf s h).wave).bind fun b=>if b.length≤50000 then (if b==symsM (txt ds) then
          (bAll s (vOf s h).marks).bind fun c=>if c.length≤50000 then (if c==marksM rate (txt ds) then
            (lAll s (vOf s h).spots).bind fun d=>if d.length≤50000 then some (d==spotsM rate ds) else none
           else some false) else none
         else some false) else none
       else some false) else none
    else some false
  else some false
end Go.Proofs.YtdjpjmkpndmhaaaGreat
namespace Go.Proofs.YtdjpjmkpndmhaaaGreat
open Go.RowKit
structure Pt where
  s:Ar
  src:Int
  rate:Int
  id:Int
  text:List UInt8
  p:Parts
  pos:Int
  row:Int
  begun:Bool
  over:Bool
  root:Int
def insI (x:Int):List Int→List Int
  | []=>[x]
  | y::l=>if x≤y then x::y::l else y::insI x l
def sortI:List Int→List Int
  | []=>[]
  | x::l=>insI x (sortI l)
def Pt.held (x:Pt):List Int:=if x.over then [] else (sortI [x.src,x.p.wave,x.p.marks,x.p.spots,x.p.table]).filter fun h=> !decide (h=0)
def Pt.stop (x:Pt):Pt:={x with s:=x.s.dropAll x.held,over:=true,p:=Parts.zero}
def Pt.left (x:Pt):Int:=if x.over then 0 else if x.begun then wrap64 (x.pos+2) else wrap64 ((x.text.length:Int)+3)
def Parts.at (p:Parts):Nat→Int
  | 0=>p.wave
  | 1=>p.marks
  | 2=>p.spots
  | _=>p.table
def Parts.put (p:Parts) (i:Nat) (h:Int):Parts:=
  match i with
  | 0=>{p with wave:=h}
  | 1=>{p with marks:=h}
  | 2=>{p with spots:=h}
  | _=>{p with table:=h}
def Pt.swap (x:Pt) (i:Nat) (r:Int×Int×Ar):Int×Pt:=
  if r.2.1=0 then (0,{x with s:=r.2.2.drop (x.p.at i),p:=x.p.put i r.1}) else (r.2.1,{x with s:=r.2.2})
def keepP (s:Ar) (q:Parts):Ar:=(((s.keep q.wave).keep q.marks).keep q.spots).keep q.table
def Pt.start (x:Pt):Pt:={x with s:=keepP x.s (vOf x.s x.src),p:=vOf x.s x.src,begun:=true,row:=lLen (keepP x.s (vOf x.s x.src)) (vOf x.s x.src).table}
def Pt.begin (x:Pt):Option (Int×Pt):=
  (lAll x.start.s x.start.p.table).bind fun a=>if a.length≤50000 then (tAdd x.start.s x.start.p.table x.id x.text.length).map fun r=>x.start.swap 3 r else none
def Pt.sym (x:Pt):Int:=if 0<x.pos then ((x.text.getD (x.pos - 1).toNat 0).toNat:Int)+1 else 0
def Pt.mark (x:Pt) (next:Int) (one:Bool):Option (Int×Pt):=
  (bInsert x.s x.p.marks x.row one).map fun r=>({x with s:=r.2.2,row:=next,pos:=wrap64 (x.pos - 1)}:Pt).swap 1 (r.1,r.2.1,r.2.2)
def Pt.insert (x:Pt):Option (Int×Pt):=
  (wBefore x.s x.p.wave x.sym).bind fun b=>(wRank x.s x.p.wave x.sym x.row).bind fun k=>
  (wInsert x.s x.p.wave x.row x.sym).bind fun r1=>
  if (x.swap 0 r1).1=0 then
    (if x.pos % x.rate=0 then
      (bRank (x.swap 0 r1).2.s (x.swap 0 r1).2.p.marks x.row).bind fun j=>(lInsert (x.swap 0 r1).2.s (x.swap 0 r1).2.p.spots j (x.id,x.pos)).bind fun r2=>
      if ((x.swap 0 r1).2.swap 2 r2).1=0 then ((x.swap 0 r1).2.swap 2 r2).2.mark (wrap64 (wrap64 (b+1)+k)) true
      else some ((x.swap 0 r1).2.swap 2 r2)
     else (x.swap 0 r1).2.mark (wrap64 (wrap64 (b+1)+k)) false)
  else some (x.swap 0 r1)
def Pt.asked (r:Int×Pt):Bool×Int×Pt:=if r.1=0 then (r.2.over,0,r.2) else (r.2.stop.over,r.1,r.2.stop)
def Pt.step (x:Pt):Option (Bool×Int×Pt):=
  if x.over then some (true,10,x)
  else if x.begun then
    (if 0≤x.pos then x.insert.map Pt.asked
     else some (true,(vMake x.s x.p).2.1,({x with s:=(vMake x.s x.p).2.2,root:=(vMake x.s x.p).1}:Pt).stop))
  else x.begin.map Pt.asked
def Pt.new (s:Ar) (root rate id:Int) (text:List UInt8):Pt:=⟨s.keep root,root,rate,id,text,Parts.zero,text.length,0,false,false,0⟩
end Go.Proofs.YtdjpjmkpndmhaaaGreat
namespace Go.Proofs.YtdjpjmkpndmhaaaGreat
open Go.RowKit Go.Sort
attribute [local go_sem ↓] Go.wp_at_zero Go.wp_at_succ
attribute [local go_sem] lt_s2 lt_s3 lt_s4 str_len
structure PB (w:World) (pb:Nat) (ap:Value) (x:Pt) (O:Nat→Prop):Prop where
  hA:AP w ap x.s O
  blk:w.heap[pb]? =some (.cells #[ap, .int .i64 x.src, .int .i64 x.rate, .int .i64 x.id,strOf x.text, .int .i64 x.p.wave, .int .i64 x.p.marks, .int .i64 x.p.spots, .int .i64 x.p.table, .int .i64 x.pos, .int .i64 x.row, .bool x.begun, .bool x.over, .int .i64 x.root] 125 (0,0))
  no: ¬O pb
def DidP (pb:Nat) (ap:Value) (x':Pt) (O:Nat→Prop) (w w':World):Prop:= ∃O',PB w' pb ap x' O'∧Fr (oneX pb) O O' w w'
theorem didp_gen {tb:Nat} {ap:Value} {x':Pt} {O:Nat→Prop} {w w':World} (h: ∀v,v=w'→DidP tb ap x' O w v):DidP tb ap x' O w w':=h w' rfl
variable {ap : Value} {O : Nat → Prop} {tb : Nat} {x : Pt}
set_option maxRecDepth 100000 in
theorem pRoot_calls (w : World) (hT : PB w tb ap x O) :
    Calls Tryz.prog 46 #[.pointer (some ⟨tb,0,none⟩)] w fun e w'=>e= .returned (.int .i64 x.root)∧w=w':=by
  go_enter Tryz.func46,Tryz.ntmps46
  have kt:=hT.blk
  obtain ⟨c_kt,f_kt,l_kt_w⟩:=f3 kt
  go_wp2_with fail
  go_ret
  exact ⟨rfl,rfl⟩
set_option maxRecDepth 100000 in
theorem pLeft_calls (w : World) (hT : PB w tb ap x O) :
    Calls Tryz.prog 44 #[.pointer (some ⟨tb,0,none⟩)] w fun e w'=>e= .returned (.int .i64 x.left)∧w=w':=by
  have kt:=hT.blk
  unfold Pt.left
  cases ho:x.over with
  | true=>
    rw [ho] at kt
    go_enter Tryz.func44,Tryz.ntmps44
    obtain ⟨c_kt,f_kt,l_kt_w⟩:=f3 kt
    go_wp2_with fail
    go_ret
    exact ⟨rfl,rfl⟩
  | false=>
    rw [ho] at kt
    cases hb:x.begun with
    | true=>
      rw [hb] at kt
      go_enter Tryz.func44,Tryz.ntmps44
      obtain ⟨c_kt,f_kt,l_kt_w⟩:=f3 kt
      go_wp2_with fail
      go_ret
      exact ⟨rfl,rfl⟩
    | false=>
      rw [hb] at kt
      go_enter Tryz.func44,Tryz.ntmps44
      obtain ⟨c_kt,f_kt,l_kt_w⟩:=f3 kt
      go_wp2_with fail
      go_ret
      exact ⟨rfl,rfl⟩
theorem insI_perm (x:Int): ∀l:List Int,(insI x l).Perm (x::l)
  | []=>List.Perm.refl _
  | y::l=>by
    unfold insI
    split
    · exact List.Perm.refl _
    · exact ((insI_perm x l).cons y).trans (List.Perm.swap x y l)
theorem sortI_perm: ∀l:List Int,(sortI l).Perm l
  | []=>List.Perm.refl _
  | x::l=>(insI_perm x (sortI l)).trans ((sortI_perm l).cons x)
theorem insI_sorted (x:Int): ∀{l:List Int},l.Pairwise (· ≤ ·)→(insI x l).Pairwise (· ≤ ·)
  | [],_=>by simp [insI]
  | y::l,h=>by
    unfold insI
    rw [List.pairwise_cons] at h
    split
    · rename_i hxy
      refine List.pairwise_cons.2 ⟨fun z hz=> ?_,List.pairwise_cons.2 h⟩
      rcases List.mem_cons.1 hz with rfl|hz
      · exact hxy
      · have:=h.1 z hz;omega
    · rename_i hxy
      refine List.pairwise_cons.2 ⟨fun z hz=> ?_,insI_sorted x h.2⟩
      rcases List.mem_cons.1 ((insI_perm x l).mem_iff.1 hz) with rfl|hz
      · omega
      · exact h.1 z hz
theorem sortI_sorted: ∀l:List Int,(sortI l).Pairwise (· ≤ ·)
  | []=>List.Pairwise.nil
  | x::l=>insI_sorted x (sortI_sorted l)
theorem sorted_unique: ∀{A B:List Int},A.Pairwise (· ≤ ·)→B.Pairwise (· ≤ ·)→A.Perm B→A=B
  | [],B,_,_,h=>(List.Perm.eq_nil h.symm).symm
  | x::A,[],_,_,h=>List.Perm.eq_nil h
  | x::A,y::B,h1,h2,h=>by
    rw [List.pairwise_cons] at h1 h2
    have e:x=y:=by
      have hx:x∈y::B:=h.mem_iff.1 (by simp)
      have hy:y∈x::A:=h.mem_iff.2 (by simp)
      rcases List.mem_cons.1 hx with e|e
      · exact e
      · rcases List.mem_cons.1 hy with e'|e'
        · exact e'.symm
        · have:=h1.1 y e';have:=h2.1 x e;omega
    subst e
    rw [sorted_unique h1.2 h2.2 (List.perm_cons x|>.1 h)]
theorem merge_sortI (l:List Int):(l.mergeSort fun x y=>decide (x≤y))=sortI l:=by
  refine sorted_unique ?_ (sortI_sorted l) ((List.mergeSort_perm l _).trans (sortI_perm l).symm)
  have:=List.pairwise_mergeSort (le:=fun x y:Int=>decide (x≤y)) (fun a b c h1 h2=>by simp at*;omega) (fun a b=>by simp;omega) l
  exact this.imp fun h=>by simpa using h
theorem holds_ints {w:World} {g:Nat} {zs:List Int} {T:TypeId} (hk:w.heap[g]? =some (.cells (zs.map (Value.int .i64)).toArray T (0,0))):Go.Sort.Holds (Value.int .i64) w g 0 zs.toArray:=fun j hj=>by
  have hj':j<zs.length:=by simpa using hj
  rw [Nat.zero_add,cells_of hk,free_of hk]
  refine ⟨?_,rfl⟩
  simp [hj']
theorem put_cells {zs ts:List Int} (hl:ts.length=zs.length):(Go.Sort.putCells (Value.int .i64) 0 ts.toArray (zs.map (Value.int .i64)).toArray)=(ts.map (Value.int .i64)).toArray:=by
  apply Array.ext
  · simp [Go.Sort.putCells,hl]
  · intro i h1 h2
    have h3:i<ts.length:=by simpa using h2
    simp [Go.Sort.putCells,h3]
theorem sortInt_calls (g : Nat) (zs : List Int) (T : TypeId) (w : World) (hk : w.heap[g]? = some (.cells (zs.map (Value.int .i64)).toArray T (0, 0))) (hl : zs.length ≤ 100) :
    Calls Tryz.prog 90 #[.slice (some ⟨g,0,none⟩) zs.length zs.length] w fun e w'=>e= .returned (.tuple #[])∧w.grownBy w' (some g)∧w'.heap[g]? =some (.cells ((sortI zs).map (Value.int .i64)).toArray T (0,0)):=by
  have hcon:=Any.slices_Sort_int Tryz.laySortInt g 0 zs.length zs w (holds_ints hk) (lt_of hk) (by omega)
  refine Calls.mono hcon ?_
  rintro e w' ⟨rfl,n,os,rfl⟩
  rw [merge_sortI]
  refine ⟨rfl,grownBy_sortedI _,?_⟩
  rw [heap_sortedI _ hk,put_cells (sortI_perm zs).length_eq]
theorem zero_gives (W:World) (x:Int):FnGives Tryz.prog 100 #[] #[.int .i64 x] (.bool (decide (x=0))) W:=by
  show Calls Tryz.prog 100 #[.int .i64 x] W _
  go_enter Tryz.func100,Tryz.ntmps100
  go_wp2
  go_ret
  exact ⟨rfl,0,rfl⟩
theorem holds_ints2 {w:World} {g:Nat} {zs:List Int} {cs:Array Value} {T:TypeId} (hk:w.heap[g]? =some (.cells cs T (0,0))) (hc:cs=(zs.map (Value.int .i64)).toArray):Holds (Value.int .i64) w g 0 zs.toArray:=holds_ints (by rw [hk,hc])
theorem grow_nil (w:World):Go.Sort.grow w #[]=w:=by cases w;simp [Go.Sort.grow]
theorem delInt_calls (g : Nat) (zs : List Int) (T : TypeId) (w : World) (hk : w.heap[g]? = some (.cells (zs.map (Value.int .i64)).toArray T (0, 0))) (hl : zs.length ≤ 100) :
    Calls Tryz.prog 99 #[.slice (some ⟨g,0,none⟩) zs.length zs.length, .func (.func 100) #[] #[]] w fun e w'=>e= .returned (.slice (some ⟨g,0,none⟩) (zs.filter fun h=> !decide (h=0)).length zs.length)∧w.grownBy w' (some g)∧
      ∃ys:List Value,ys.length=zs.length∧ys.take (zs.filter fun h=> !decide (h=0)).length=(zs.filter fun h=> !decide (h=0)).map (Value.int .i64)∧w'.heap[g]? =some (.cells ys.toArray T (0,0)):=by
  have eg: ∀args w,(callFunc 100 args).run Tryz.prog w= .ok (.enter 100 args) w:=enters_of Tryz.func100 (by kernel_rfl) rfl
  have hcon:=AnyE.slices_DeleteFunc Tryz.layDelInt (Value.int .i64) (fun _=>rfl) (fun x=>decide (x=0)) 100 #[] eg 0 (fun w=>by kernel_rfl) g 0 zs.length zs.toArray w (fun W x _=>zero_gives W x) (fun n os dk x _=>zero_gives _ x) (holds_ints hk) (by simp;omega) (by simp)
  have hsz:zs.toArray.size=zs.length:=by simp
  have htl:zs.toArray.toList=zs:=rfl
  rw [hsz,htl] at hcon
  refine Calls.mono hcon ?_
  rintro e w' ⟨rfl,q,rfl⟩
  have hfl:=List.length_filter_le (fun x:Int=> !decide (x=0)) zs
  obtain ⟨ts,hts⟩: ∃ts,ts=(zs.filter fun x=> !decide (x=0))++List.replicate (zs.length - (zs.filter fun x=> !decide (x=0)).length) 0:=⟨_,rfl⟩
  have htl:ts.length=zs.length:=by rw [hts];simp;omega
  rw [←hts]
  have hgr:w.grownBy (putRow (Value.int .i64) (Go.Sort.ahead w q) g 0 ts.toArray) (some g):=by
    rw [←grow_nil (putRow _ _ _ _ _)];exact grownBy_sortedI _
  refine ⟨rfl,hgr,ts.map (Value.int .i64),by rw [List.length_map,htl],?_,?_⟩
  · rw [←List.map_take,hts,List.take_left']
    rfl
  · rw [←grow_nil (putRow _ _ _ _ _),heap_sortedI _ hk,put_cells htl]
set_option maxRecDepth 100000 in
set_option maxHeartbeats 4000000 in
theorem pHeld_calls (w : World) (hT : PB w tb ap x O) :
    Calls Tryz.prog 48 #[.pointer (some ⟨tb,0,none⟩)] w fun e w'=> ∃v,e= .returned v∧w'.ownsRow w.heap.size 3 1 v x.held.length (x.held.map (Value.int .i64))∧Below w.heap.size w w':=by
  have kt:=hT.blk
  unfold Pt.held
  cases ho:x.over with
  | true=>
    rw [ho] at kt
    go_enter Tryz.func48,Tryz.ntmps48
    obtain ⟨c_kt,f_kt,l_kt_w⟩:=f3 kt
    go_wp2_with fail
    go_ret
    exact ⟨_,rfl,World.ownsRow_nil _ _ _ _,Below.refl _ _⟩
  | false=>
    rw [ho] at kt
    rw [if_neg (by decide)]
    obtain ⟨zs,hzs⟩: ∃zs,[x.src,x.p.wave,x.p.marks,x.p.spots,x.p.table]=zs:=⟨_,rfl⟩
    have HZ:=Lib.hid hzs
    have hz5:zs.length=5:=by rw [←hzs];rfl
    rw [hzs]
    clear hzs
    go_enter Tryz.func48,Tryz.ntmps48
    obtain ⟨c_kt,f_kt,l_kt_w⟩:=f3 kt
    go_wp2_with fail
    refine wp_gen fun V hV_V=> ?_
    replace kt:=kK hV_V kt
    have hB:Below w.heap.size w V:=nB hV_V
    have z_V:=zS hV_V
    clear hV_V c_kt f_kt
    obtain ⟨c_kt,f_kt,l_kt_V⟩:=f3 kt
    refine wp_region_noPanic ?_
    refine wp_region_held_drew (S:=fun v=>(∀o,v.cell? ⟨tb,o,none⟩=V.cell? ⟨tb,o,none⟩)∧(V.heap.size≤v.heap.size)∧True) (by kernel_rfl) ⟨(fun _=>rfl),(Nat.le_refl _),trivial⟩ (fun hHeld=> ?_)
    generalize hV_Vd:V.drew=Vd at hHeld⊢
    have d_kt:=dK hV_Vd kt
    clear c_kt f_kt
    replace hB:=hB.drew;rw [hV_Vd] at hB
    have z_Vd:=dZ hV_Vd
    have v_kt:=cells_of kt
    clear kt;have kt:=d_kt;clear d_kt
    obtain ⟨c_kt,f_kt,l_kt_Vd⟩:=f3 kt
    clear hV_Vd
    refine tz 0 rfl hHeld ?_
    try simp only [PT]
    refine tz 1 rfl hHeld ?_
    try simp only [PT]
    refine tz 2 rfl hHeld ?_
    try simp only [PT]
    refine tz 3 rfl hHeld ?_
    try simp only [PT]
    refine tz 4 rfl hHeld ?_
    try simp only [PT]
    refine tz 5 rfl hHeld ?_
    try simp only [PT]
    refine tz 6 rfl hHeld ?_
    try simp only [PT]
    refine tz 7 rfl hHeld ?_
    try simp only [PT]
    refine tz 8 rfl hHeld ?_
    try simp only [PT]
    refine tz 9 rfl hHeld ?_
    try simp only [PT]
    refine tz 10 rfl hHeld ?_
    try simp only [PT]
    refine tz 11 rfl hHeld ?_
    try simp only [PT]
    refine tz 12 rfl hHeld ?_
    try simp only [PT]
    refine tz 13 rfl hHeld ?_
    try simp only [PT]
    refine tz 14 rfl hHeld ?_
    try simp only [PT]
    refine tz 15 rfl hHeld ?_
    try simp only [PT]
    refine tz 16 rfl hHeld ?_
    try simp only [PT]
    refine tz 17 rfl hHeld ?_
    try simp only [PT]
    refine tz 18 rfl hHeld ?_
    try simp only [PT]
    refine tz 19 rfl hHeld ?_
    try simp only [PT]
    refine tz 20 rfl hHeld ?_
    try simp only [PT]
    refine tz 21 rfl hHeld ?_
    try simp only [PT]
    refine tz 22 rfl hHeld ?_
    try simp only [PT]
    refine tz 23 rfl hHeld ?_
    try simp only [PT]
    refine rd 24 rfl fun K hK=> ?_
    go_simp
    refine gen_app (K:=K) (fun D hV_D=> ?_)
    have n_kn:=hbk hV_D (Vd.heap.size)
    simp (maxDischargeDepth:=9) only [BK,not_false_eq_true,reduceCtorEq,kt,l_kt_w,l_kt_V,l_kt_Vd] at n_kn
    replace kt:=kK hV_D kt
    replace hB:Below w.heap.size w D:=nB hV_D
    have z_D:=zS hV_D
    clear hV_D c_kt f_kt
    obtain ⟨c_kt,f_kt,l_kt_D⟩:=f3 kt
    have kn:=n_kn;clear n_kn
    obtain ⟨c_kn,f_kn,l_kn_D⟩:=f3 kn
    refine hK.out _ _ ⟨(fun o=>(c_kt o).trans (v_kt o).symm),(by omega),trivial⟩ (fun hHeld=> ?_)
    clear hK K
    try simp only [PT]
    refine rd 25 rfl fun K hK=> ?_
    go_simp
    refine hK.out _ _ hHeld (fun hHeld=> ?_)
    clear hK K
    try simp only [PT]
    refine wpAnyH_done (by kernel_rfl) ?_ _
    refine NoPanic.normal ?_
    have hgw:w.heap.size≤Vd.heap.size:=by omega
    have kz:D.heap[Vd.heap.size]? =some (.cells (zs.map (Value.int .i64)).toArray 3 (0,0)):=by rw [kn,←HZ.out];rfl
    have hc1:=sortInt_calls Vd.heap.size zs 3 D kz (by omega)
    rw [hz5] at hc1
    clear kt kn c_kt f_kt c_kn f_kn v_kt hHeld kz
    generalize Vd.heap.size=g at hc1 hgw⊢
    go_wp2_with fail
    refine hc1.mono ?_
    rintro e1 W1 ⟨rfl,hg1,hk1⟩
    have hs5:(sortI zs).length=5:=by rw [(sortI_perm zs).length_eq,hz5]
    have hc2:=delInt_calls g (sortI zs) 3 W1 hk1 (by omega)
    rw [hs5] at hc2
    have hB1:=hB.grown hg1 hB.size (fun j hj=>by cases hj;exact hgw)
    have HB1:=Lib.hid hB1
    clear hc1 hg1 hk1 hB hB1
    go_wp2_with fail
    refine hc2.mono ?_
    rintro e2 W2 ⟨rfl,hg2,ys,hy1,hy2,hk2⟩
    have HB2:=Lib.hid (HB1.out.grown hg2 HB1.out.size (fun j hj=>by cases hj;exact hgw))
    have hfl:=List.length_filter_le (fun h:Int=> !decide (h=0)) (sortI zs)
    clear hc2 hg2
    go_wp2_with fail
    go_ret
    refine ⟨_,rfl,⟨by simp, .inr ⟨g,5,ys.toArray,rfl,hgw,hk2,by omega,by unfold maxLen;omega,by simp [hy1],by rw [Nat.mul_one,←hy2]⟩⟩,HB2.out⟩
end Go.Proofs.YtdjpjmkpndmhaaaGreat
namespace Go.Proofs.YtdjpjmkpndmhaaaGreat
open Go.RowKit Go.Sort
attribute [local go_sem ↓] Go.wp_at_zero Go.wp_at_succ
attribute [local go_sem] lt_s2 lt_s3 lt_s4 str_len
variable {s : Ar} {O : Nat → Prop}
theorem symText_calls (t:List UInt8) (w:World):Calls Tryz.prog 95 #[strOf t] w fun e w'=>e= .returned (.bool (decide (t.length≤40)))∧w=w':=by
  go_enter Tryz.func95,Tryz.ntmps95
  go_wp2_with fail
  go_ret
  refine ⟨ret_bool ?_,rfl⟩
  simp only [Int.ofNat_le,decide_eq_decide]
  omega
set_option maxRecDepth 100000 in
set_option maxHeartbeats 4000000 in
theorem pNew_no (ap : Value) (root rate id : Int) (t : List UInt8) (l : List (Int × Int)) (hl : lAll s (vOf s root).table = some l) (hll : l.length ≤ 50000)
    (hno:ap= .pointer none∨vIs s root=false∨rate<1∨16<rate∨id<1∨(placeIn id l 0).2=true∨40<t.length) (w:World) (hA:AP w ap s O):
    Calls Tryz.prog 43 #[ap, .int .i64 root, .int .i64 rate, .int .i64 id,strOf t] w fun e w'=>e= .returned (.tuple #[.pointer none, .int .i64 1])∧Below w.heap.size w w':=by
  obtain ⟨q,rfl⟩:=hA.ptr
  have Hl:=Lib.hid hl;have Hll:=Lib.hid hll;have Hno:=Lib.hid hno
  clear hl hll hno
  go_enter Tryz.func43,Tryz.ntmps43
  go_wp2_with fail
  refine calls_gen fun V hV_V=> ?_
  have hB:Below w.heap.size w V:=nB hV_V
  replace hA:AP V (.pointer q) s O:=nA hV_V
  have z_V:=zS hV_V
  clear hV_V
  refine (vOf_calls root _ hA).mono ?_
  rintro e_W1 W1 ⟨rfl,hb_W1⟩
  replace hA:=hA.below hb_W1
  replace hB:=below_step hB hb_W1
  have z_W1:=hb_W1.size
  clear hb_W1
  unfold Parts.val
  go_wp2_with fail
  refine calls_gen fun V2 hV_V2=> ?_
  have n_kp:=hbk hV_V2 (W1.heap.size)
  simp (maxDischargeDepth:=9) only [BK,not_false_eq_true,reduceCtorEq] at n_kp
  have o_kp: ¬O (W1.heap.size):=by first|exact hA.new (Nat.le_refl _)|exact hA.new (by omega)
  replace hB:Below w.heap.size w V2:=nB hV_V2
  replace hA:AP V2 (.pointer q) s O:=nA hV_V2
  have z_V2:=zS hV_V2
  clear hV_V2
  have kp:=n_kp;clear n_kp
  obtain ⟨c_kp,f_kp,l_kp_V2⟩:=f3 kp
  refine (tPlace_calls _ id l Hl.out Hll.out _ hA).mono ?_
  rintro e_W3 W3 ⟨rfl,hb_W3⟩
  replace hA:=hA.below hb_W3
  replace hB:=below_step hB hb_W3
  replace kp:=keep_blk hb_W3 kp
  have z_W3:=hb_W3.size
  clear hb_W3 c_kp f_kp
  obtain ⟨c_kp,f_kp,l_kp_W3⟩:=f3 kp
  obtain ⟨pl,hpl⟩: ∃pl,(placeIn id l 0).2=pl:=⟨_,rfl⟩
  obtain ⟨vi,hvi⟩: ∃vi,vIs s root=vi:=⟨_,rfl⟩
  have hno:=Hno.out
  rw [hpl,hvi] at hno
  rw [hpl,hvi]
  clear Hno hpl hvi
  have hcase:q=none∨(∃p,q=some p∧(vi=false∨(vi=true∧(decide (rate<1)=true∨(decide (rate<1)=false∧(decide (16<rate)=true∨(decide (16<rate)=false∧(decide (id<1)=true∨(decide (id<1)=false∧(pl=true∨(pl=false∧decide (t.length≤40)=false))))))))))):=by
    cases q with
    | none=>exact .inl rfl
    | some p=>
      refine .inr ⟨p,rfl,?_⟩
      simp only [reduceCtorEq,Value.pointer.injEq,false_or] at hno
      cases vi with
      | false=>exact .inl rfl
      | true=>
        refine .inr ⟨rfl,?_⟩
        by_cases h1:rate<1
        · exact .inl (by simpa using h1)
        refine .inr ⟨by simpa using h1,?_⟩
        by_cases h2:16<rate
        · exact .inl (by simpa using h2)
        refine .inr ⟨by simpa using h2,?_⟩
        by_cases h3:id<1
        · exact .inl (by simpa using h3)
        refine .inr ⟨by simpa using h3,?_⟩
        cases pl with
        | true=>exact .inl rfl
        | false=>
          refine .inr ⟨rfl,?_⟩
          simp only [Bool.false_eq_true,false_or,h1,h2,h3,reduceCtorEq] at hno
          simpa using hno
  clear hno
  rcases hcase with rfl|⟨p,rfl,rfl|⟨rfl,d1|⟨d1,d2|⟨d2,d3|⟨d3,rfl|⟨rfl,d4⟩⟩⟩⟩⟩⟩<;>
  (go_wp2_with fail
   try (refine (symText_calls t _).mono ?_;rintro e4 w4 ⟨rfl,rfl⟩;go_wp2_with fail)
   go_ret2
   exact ⟨rfl,by (repeat' first|with_reducible assumption|with_reducible exact Below.refl _ _|with_reducible refine Below.alloc ?_ ?_ _|with_reducible refine Below.setCell ?_ ?_ _|with_reducible refine below_drewN ?_ _|with_reducible refine Below.drew ?_|exact Nat.le_refl _|((try dsimp only);omega)|(simp only [siz_alloc,siz_set];omega))⟩)
set_option maxRecDepth 100000 in
set_option maxHeartbeats 4000000 in
theorem pNew_yes (p : Addr) (root rate id : Int) (t : List UInt8) (l : List (Int × Int)) (hl : lAll s (vOf s root).table = some l) (hll : l.length ≤ 50000)
    (hvi:vIs s root=true) (h1:1≤rate) (h2:rate≤16) (h3:1≤id) (hpl:(placeIn id l 0).2=false) (h4:t.length≤40) (h10:vDocs s root<10) (w:World) (hA:AP w (.pointer (some p)) s O):
    Calls Tryz.prog 43 #[.pointer (some p), .int .i64 root, .int .i64 rate, .int .i64 id,strOf t] w fun e w'=> ∃b O',e= .returned (.tuple #[.pointer (some ⟨b,0,none⟩), .int .i64 0])∧w.heap.size≤b∧PB w' b (.pointer (some p)) (Pt.new s root rate id t) O'∧Fr noX O O' w w':=by
  have Hl:=Lib.hid hl;have Hll:=Lib.hid hll
  have d1:decide (rate<1)=false:=by simp;omega
  have d2:decide (16<rate)=false:=by simp;omega
  have d3:decide (id<1)=false:=by simp;omega
  have d4:decide (t.length≤40)=true:=by simpa using h4
  have d5:decide (10≤vDocs s root)=false:=by simp;omega
  clear hl hll h1 h2 h3 h4 h10
  go_enter Tryz.func43,Tryz.ntmps43
  go_wp2_with fail
  refine calls_gen fun V hV_V=> ?_
  have hF:Fr (noX) O O w V:=nF hV_V
  replace hA:AP V (.pointer (some p)) s O:=nA hV_V
  have z_V:=zS hV_V
  clear hV_V
  refine (vOf_calls root _ hA).mono ?_
  rintro e_W1 W1 ⟨rfl,hb_W1⟩
  replace hA:=hA.below hb_W1
  replace hF:=hF.below hb_W1
  have z_W1:=hb_W1.size
  clear hb_W1
  unfold Parts.val
  rw [hvi]
  go_wp2_with fail
  refine calls_gen fun V2 hV_V2=> ?_
  have n_kp:=hbk hV_V2 (W1.heap.size)
  simp (maxDischargeDepth:=9) only [BK,not_false_eq_true,reduceCtorEq] at n_kp
  have o_kp: ¬O (W1.heap.size):=by first|exact hA.new (Nat.le_refl _)|exact hA.new (by omega)
  replace hF:Fr (noX) O O w V2:=nF hV_V2
  replace hA:AP V2 (.pointer (some p)) s O:=nA hV_V2
  have z_V2:=zS hV_V2
  clear hV_V2
  have kp:=n_kp;clear n_kp
  obtain ⟨c_kp,f_kp,l_kp_V2⟩:=f3 kp
  refine (tPlace_calls _ id l Hl.out Hll.out _ hA).mono ?_
  rintro e_W3 W3 ⟨rfl,hb_W3⟩
  replace hA:=hA.below hb_W3
  replace hF:=hF.below hb_W3
  replace kp:=keep_blk hb_W3 kp
  have z_W3:=hb_W3.size
  clear hb_W3 c_kp f_kp
  obtain ⟨c_kp,f_kp,l_kp_W3⟩:=f3 kp
  rw [hpl]
  go_wp2_with fail
  refine (symText_calls t _).mono ?_
  rintro e4 w4 ⟨rfl,rfl⟩
  rw [d4]
  go_wp2_with fail
  refine calls_gen fun V4 hV_V4=> ?_
  replace kp:=kK hV_V4 kp
  replace hF:Fr (noX) O O w V4:=nF hV_V4
  replace hA:AP V4 (.pointer (some p)) s O:=nA hV_V4
  have z_V4:=zS hV_V4
  clear hV_V4 c_kp f_kp
  obtain ⟨c_kp,f_kp,l_kp_V4⟩:=f3 kp
  refine (vDocs_calls root _ hA).mono ?_
  rintro e_W5 W5 ⟨rfl,hb_W5⟩
  replace hA:=hA.below hb_W5
  replace hF:=hF.below hb_W5
  replace kp:=keep_blk hb_W5 kp
  have z_W5:=hb_W5.size
  clear hb_W5 c_kp f_kp
  obtain ⟨c_kp,f_kp,l_kp_W5⟩:=f3 kp
  go_wp2_with fail
  refine calls_gen fun V6 hV_V6=> ?_
  replace hF:Fr (noX) O O w V6:=nF hV_V6
  replace hA:AP V6 (.pointer (some p)) s O:=nA hV_V6
  have z_V6:=zS hV_V6
  clear hV_V6 kp c_kp f_kp
  refine (keep_calls _ _ hA).mono ?_
  rintro e_W7 W7 ⟨rfl,O1,hA_W7,hf_W7⟩
  replace hF:=hF.trans hf_W7.widen
  have z_W7:=hf_W7.size
  clear hA hf_W7;have hA:=hA_W7;clear hA_W7
  unfold strOf
  go_wp2_with fail
  go_ret2
  refine ⟨W7.heap.size,O1,rfl,by have:=hF.size;omega,?_,hF.alloc _⟩
  exact ⟨hA.alloc _,blk_new _ _ _ rfl,hA.new (Nat.le_refl _)⟩
end Go.Proofs.YtdjpjmkpndmhaaaGreat
namespace Go.Proofs.YtdjpjmkpndmhaaaGreat
open Go.RowKit Go.Sort
attribute [local go_sem ↓] Go.wp_at_zero Go.wp_at_succ
attribute [local go_sem] lt_s2 lt_s3 lt_s4 str_len
variable {ap : Value} {O : Nat → Prop} {tb : Nat}
set_option maxRecDepth 100000 in
set_option maxHeartbeats 8000000 in
theorem pSwap_calls (x : Pt) (i : Nat) (hi : i < 4) (r : Int × Int × Ar) (w : World) (hT : PB w tb ap { x with s := r.2.2 } O) :
    Calls Tryz.prog 135 #[.pointer (some ⟨tb,0,none⟩), .pointer (some ⟨tb,5+i,none⟩), .int .i64 r.1, .int .i64 r.2.1] w fun e w'=>e= .returned (.int .i64 (x.swap i r).1)∧DidP tb ap (x.swap i r).2 O w w':=by
  obtain ⟨h,e,s⟩:=r
  dsimp only at hT⊢
  by_cases he:e=0
  · subst he
    have E1:Hid (x.swap i (h,0,s)=(0,{x with s:=s.drop (x.p.at i),p:=x.p.put i h})):=Lib.hid (by unfold Pt.swap;rw [if_pos rfl])
    rw [E1.out]
    have h4:i=0∨i=1∨i=2∨i=3:=by omega
    clear hi E1
    rcases h4 with rfl|rfl|rfl|rfl<;>
    (skip
     go_enter Tryz.func135,Tryz.ntmps135
     have hA:=hT.hA
     have kt:=hT.blk
     have o_kt:=hT.no
     obtain ⟨c_kt,f_kt,l_kt_w⟩:=f3 kt
     go_wp2_with fail
     refine wp_gen fun V hV_V=> ?_
     replace kt:=kK hV_V kt
     have hF:Fr ((oneX tb)) O O w V:=nF hV_V
     replace hA:AP V ap s O:=nA hV_V
     have z_V:=zS hV_V
     clear hV_V c_kt f_kt
     obtain ⟨c_kt,f_kt,l_kt_V⟩:=f3 kt
     refine wp_region_noPanic ?_
     refine wp_region_held_drew (S:=fun v=>(∀o,v.cell? ⟨tb,o,none⟩=V.cell? ⟨tb,o,none⟩)∧(V.heap.size≤v.heap.size)∧True) (by kernel_rfl) ⟨(fun _=>rfl),(Nat.le_refl _),trivial⟩ (fun hHeld=> ?_)
     generalize hV_Vd:V.drew=Vd at hHeld⊢
     have d_kt:=dK hV_Vd kt
     clear c_kt f_kt
     replace hA:=hA.drew;rw [hV_Vd] at hA
     replace hF:=hF.drew;rw [hV_Vd] at hF
     have z_Vd:=dZ hV_Vd
     have v_kt:=cells_of kt
     clear kt;have kt:=d_kt;clear d_kt
     obtain ⟨c_kt,f_kt,l_kt_Vd⟩:=f3 kt
     clear hV_Vd
     refine tz 0 rfl hHeld ?_
     try simp only [PT]
     refine tz 1 rfl hHeld ?_
     try simp only [PT]
     refine tz 2 rfl hHeld ?_
     try simp only [PT]
     refine tz 3 rfl hHeld ?_
     try simp only [PT]
     refine tz 4 rfl hHeld ?_
     try simp only [PT]
     refine tz 5 rfl hHeld ?_
     try simp only [PT]
     refine tz 6 rfl hHeld ?_
     try simp only [PT]
     refine rd 7 rfl fun K hK=> ?_
     go_simp
     try simp only [IntWalk.i64_left]
     refine (drop_calls _ _ hA).mono ?_
     rintro e_W W ⟨rfl,O1,hA_W,hf_W⟩
     have q_kt:=hf_W.keep kt o_kt (fun h=>h)
     replace o_kt:=hf_W.not_own (lt_of kt) o_kt
     clear kt c_kt f_kt;have kt:=q_kt;clear q_kt
     obtain ⟨c_kt,f_kt,l_kt_W⟩:=f3 kt
     replace hF:=hF.trans hf_W.widen
     have z_W:=hf_W.size
     clear hA hf_W;have hA:=hA_W;clear hA_W
     refine hK.out _ _ ⟨(fun o=>(c_kt o).trans (v_kt o).symm),(by omega),trivial⟩ (fun hHeld=> ?_)
     clear hK K
     try simp only [PT]
     refine wpAnyH_done (by kernel_rfl) ?_ _
     refine NoPanic.normal ?_
     go_wp2_with fail
     go_ret
     refine ⟨rfl,?_⟩
     refine didp_gen (fun V2 hV_V2=> ?_)
     replace kt:=kK hV_V2 kt
     replace hF:Fr ((oneX tb)) O O1 w V2:=nF hV_V2
     replace hA:AP V2 ap (s.drop _) O1:=nA hV_V2
     have z_V2:=zS hV_V2
     clear hV_V2 c_kt f_kt
     obtain ⟨c_kt,f_kt,l_kt_V2⟩:=f3 kt
     exact ⟨_,⟨hA,kt,o_kt⟩,hF⟩
     done)
  · have d1:(e==0)=false:=by simpa using he
    have E1:Hid (x.swap i (h,e,s)=(e,{x with s:=s})):=Lib.hid (by unfold Pt.swap;rw [if_neg he])
    rw [E1.out]
    clear he
    go_enter Tryz.func135,Tryz.ntmps135
    have hA:=hT.hA
    have kt:=hT.blk
    have o_kt:=hT.no
    obtain ⟨c_kt,f_kt,l_kt_w⟩:=f3 kt
    go_wp2_with fail
    go_ret
    exact ⟨rfl,O,⟨hA,kt,o_kt⟩,Fr.refl _ _ _⟩
def Pt.drops (x:Pt) (l:List Int):Pt:={x with s:=x.s.dropAll l}
set_option maxRecDepth 100000 in
set_option maxHeartbeats 4000000 in
theorem pStop_calls (x : Pt) (w : World) (hT : PB w tb ap x O) :
    Calls Tryz.prog 49 #[.pointer (some ⟨tb,0,none⟩)] w fun e w'=>e= .returned (.tuple #[])∧DidP tb ap x.stop O w w':=by
  obtain ⟨l,hl⟩: ∃l,x.held=l:=⟨_,rfl⟩
  have hl5:l.length≤5:=by
    rw [←hl];unfold Pt.held
    split
    · simp
    · refine Nat.le_trans (List.length_filter_le _ _) ?_
      rw [(sortI_perm _).length_eq];simp
  have Hst:Hid (x.stop={x with s:=x.s.dropAll l,over:=true,p:=Parts.zero}):=Lib.hid (by unfold Pt.stop;rw [hl])
  go_enter Tryz.func49,Tryz.ntmps49
  go_wp2_with fail
  refine (pHeld_calls _ hT).mono ?_
  rintro e0 W0 ⟨v,rfl,hown,hb0⟩
  rw [hl] at hown
  have hF0:Fr (oneX tb) O O w W0:=(Fr.refl _ _ _).below hb0
  have hT0:PB W0 tb ap x O:=⟨hT.hA.below hb0,keep_blk hb0 hT.blk,hT.no⟩
  have HT0:=Lib.hid hT0;have HF0:=Lib.hid hF0
  have hrow:(v= .slice none 0 0∧l=[])∨ ∃g cap cs,v= .slice (some ⟨g,0,none⟩) l.length cap∧W0.heap[g]? =some (.cells cs 3 (0,0))∧(∀j (h:j<l.length),cs[j]? =some (.int .i64 l[j]))∧ ¬O g∧g≠tb:=by
    rcases hown.2 with ⟨h1,h2⟩|⟨g,cap,cur,h1,h2,h3,h4,h5,h6,h7⟩
    · exact .inl ⟨h1,List.length_eq_zero_iff.1 h2⟩
    · refine .inr ⟨g,cap,cur,h1,h3,fun j hj=> ?_,fun hO=> ?_,fun e=> ?_⟩
      · have:=congrArg (fun l=>l[j]?) h7
        simp only [Nat.mul_one,List.getElem?_take_of_lt hj,List.getElem?_map,List.getElem?_eq_getElem hj,Option.map_some] at this
        rw [←this];simp
      · have:=hT.hA.lt hO;omega
      · have:=lt_of hT.blk;omega
  clear hT hown hb0 hT0 hF0 hl
  rcases hrow with ⟨rfl,rfl⟩|⟨g,cap,cs,rfl,hcs,hcell,ho,hne⟩
  · have kt:=HT0.out.blk
    obtain ⟨c_kt,f_kt,l_kt_W0⟩:=f3 kt
    go_wp2_with fail
    go_loopw [7] (fun c wr=>c= .int .i64 0∧wr=W0) (fun _ _=>0)
    case atStart=>exact ⟨rfl,rfl⟩
    case round=>
      obtain ⟨rfl,rfl⟩:=hrel
      go_wp2_with fail
      go_end0
      rw [Hst.out]
      refine ⟨rfl,?_⟩
      have hA:=HT0.out.hA
      have o_kt:=HT0.out.no
      have hF:=HF0.out
      refine didp_gen (fun V2 hV_V2=> ?_)
      replace kt:=kK hV_V2 kt
      have hF:Fr (oneX tb) O O w V2:=nF hV_V2
      replace hA:AP V2 ap x.s O:=nA hV_V2
      have z_V2:=zS hV_V2
      clear hV_V2 c_kt f_kt
      obtain ⟨c_kt,f_kt,l_kt_V2⟩:=f3 kt
      exact ⟨_,⟨hA,kt,o_kt⟩,hF⟩
  · have kt:=HT0.out.blk
    obtain ⟨c_kt,f_kt,l_kt_W0⟩:=f3 kt
    have Hcell:=Lib.hid hcell
    clear hcell
    go_wp2_with fail
    go_loopw [7] (fun c wr=> ∃i:Nat,i≤l.length∧c= .int .i64 i∧wr.heap[g]? =some (.cells cs 3 (0,0))∧ ∃O',PB wr tb ap (x.drops (l.take i)) O'∧Fr (oneX tb) O O' w wr∧ ¬O' g) (fun c _=>l.length - (intOf c).toNat)
    case atStart=>exact ⟨0,Nat.zero_le _,rfl,hcs,O,HT0.out,HF0.out,ho⟩
    case round=>
      obtain ⟨i,hi,rfl,hcs',O',hT',hF',ho'⟩:=hrel
      clear kt c_kt f_kt
      by_cases hlt:i<l.length
      · have d1:decide (i<l.length)=true:=by simpa using hlt
        have cb:=cells_of hcs'
        have ci:wr.cell? ⟨g,i,none⟩=some (.int .i64 l[i]):=by rw [cb];exact Hcell.out i hlt
        have kt:=hT'.blk
        have HT:=Lib.hid hT';have HF:=Lib.hid hF'
        have HD:Hid ((x.drops (l.take (i+1))).s=((x.drops (l.take i)).s).drop l[i]):=Lib.hid (drop_take x.s l i hlt)
        clear hT' hF' cb
        obtain ⟨c_kt,f_kt,l_kt_wr⟩:=f3 kt
        go_wp2_with fail
        refine (drop_calls _ _ HT.out.hA).mono ?_
        rintro e w1 ⟨rfl,O1,hA1,hf1⟩
        clear kt c_kt f_kt
        go_wp2_with fail
        go_roundw
        case rel=>
          refine ⟨i+1,by omega,by go_num,hf1.keep hcs' ho' (fun h=>h),O1,⟨?_,hf1.keep HT.out.blk HT.out.no (fun h=>h),hf1.not_own (lt_of HT.out.blk) HT.out.no⟩,HF.out.trans hf1.widen,hf1.not_own (lt_of hcs') ho'⟩
          rw [HD.out];exact hA1
        case measure=>simp [intOf];omega
      · have d1:decide (i<l.length)=false:=by simpa using hlt
        obtain rfl:i=l.length:=by omega
        rw [List.take_length] at hT'
        have kt:=hT'.blk
        have hA:AP wr ap (x.s.dropAll l) O':=hT'.hA
        have o_kt:=hT'.no
        have hF:=hF'
        obtain ⟨c_kt,f_kt,l_kt_wr⟩:=f3 kt
        go_wp2_with fail
        go_end0
        rw [Hst.out]
        refine ⟨rfl,?_⟩
        refine didp_gen (fun V3 hV_V3=> ?_)
        replace kt:=kK hV_V3 kt
        exact ⟨O',⟨(nA hV_V3:AP V3 ap (x.s.dropAll l) O'),kt,o_kt⟩,nF hV_V3⟩
end Go.Proofs.YtdjpjmkpndmhaaaGreat
namespace Go.Proofs.YtdjpjmkpndmhaaaGreat
open Go.RowKit Go.Sort
attribute [local go_sem ↓] Go.wp_at_zero Go.wp_at_succ
attribute [local go_sem] lt_s2 lt_s3 lt_s4 str_len
variable {ap : Value} {O : Nat → Prop} {tb : Nat}
def keepL (s:Ar) (l:List Int):Ar:=l.foldl Ar.keep s
theorem keep_take (s:Ar) (l:List Int) (i:Nat) (h:i<l.length):keepL s (l.take (i+1))=(keepL s (l.take i)).keep l[i]:=by
  unfold keepL
  rw [List.take_succ_eq_append_getElem h,List.foldl_append];rfl
theorem part_cell (q:Parts) (j:Nat) (h:j<[q.wave,q.marks,q.spots,q.table].length):(#[Value.int .i64 q.wave, .int .i64 q.marks, .int .i64 q.spots, .int .i64 q.table]:Array Value)[j]? =some (.int .i64 [q.wave,q.marks,q.spots,q.table][j]):=by
  have:[q.wave,q.marks,q.spots,q.table].length=4:=rfl
  rcases (show j=0∨j=1∨j=2∨j=3 by omega) with rfl|rfl|rfl|rfl<;>rfl
set_option maxRecDepth 100000 in
set_option maxHeartbeats 8000000 in
theorem pBegin_calls (x : Pt) (r : Int × Pt) (hr : x.begin = some r) (w : World) (hT : PB w tb ap x O) :
    Calls Tryz.prog 97 #[.pointer (some ⟨tb,0,none⟩)] w fun e w'=>e= .returned (.int .i64 r.1)∧DidP tb ap r.2 O w w':=by
  have Hr:=Lib.hid hr;clear hr
  go_enter Tryz.func97,Tryz.ntmps97
  have hA:=hT.hA
  have kt:=hT.blk
  have o_kt:=hT.no
  obtain ⟨c_kt,f_kt,l_kt_w⟩:=f3 kt
  go_wp2_with fail
  refine wp_gen fun V hV_V=> ?_
  replace kt:=kK hV_V kt
  have hF:Fr ((oneX tb)) O O w V:=nF hV_V
  replace hA:AP V ap x.s O:=nA hV_V
  have z_V:=zS hV_V
  clear hV_V c_kt f_kt
  obtain ⟨c_kt,f_kt,l_kt_V⟩:=f3 kt
  go_cut [3,4] from 3 (fun s3 s4 wx=> ∃B,s3= .pointer (some ⟨B,0,none⟩)∧s4= .bool (vIs x.s x.src)∧AP wx ap x.s O∧Fr (oneX tb) O O w wx∧wx.heap[tb]? =some (.cells #[ap, .int .i64 x.src, .int .i64 x.rate, .int .i64 x.id,strOf x.text, .int .i64 x.p.wave, .int .i64 x.p.marks, .int .i64 x.p.spots, .int .i64 x.p.table, .int .i64 x.pos, .int .i64 x.row, .bool x.begun, .bool x.over, .int .i64 x.root] 125 (0,0))∧wx.heap[B]? =some (.cells #[.int .i64 (vOf x.s x.src).wave, .int .i64 (vOf x.s x.src).marks, .int .i64 (vOf x.s x.src).spots, .int .i64 (vOf x.s x.src).table] 30 (0,0))∧ ¬O B∧B≠tb∧w.heap.size≤B)
  case first=>
    refine wp_region_noPanic ?_
    refine wp_region_held_drew (S:=fun v=>(∀o,v.cell? ⟨tb,o,none⟩=V.cell? ⟨tb,o,none⟩)∧(V.heap.size≤v.heap.size)∧AP v ap x.s O) (by kernel_rfl) ⟨(fun _=>rfl),(Nat.le_refl _),hA.drew⟩ (fun hHeld=> ?_)
    generalize hV_Vd:V.drew=Vd at hHeld⊢
    have d_kt:=dK hV_Vd kt
    clear c_kt f_kt
    replace hA:=hA.drew;rw [hV_Vd] at hA
    replace hF:=hF.drew;rw [hV_Vd] at hF
    have z_Vd:=dZ hV_Vd
    have v_kt:=cells_of kt
    clear kt;have kt:=d_kt;clear d_kt
    obtain ⟨c_kt,f_kt,l_kt_Vd⟩:=f3 kt
    clear hV_Vd
    refine tz 0 rfl hHeld ?_
    try simp only [PT]
    refine tz 1 rfl hHeld ?_
    try simp only [PT]
    refine tz 2 rfl hHeld ?_
    try simp only [PT]
    refine tz 3 rfl hHeld ?_
    try simp only [PT]
    refine tz 4 rfl hHeld ?_
    try simp only [PT]
    refine tz 5 rfl hHeld ?_
    try simp only [PT]
    refine tz 6 rfl hHeld ?_
    try simp only [PT]
    refine tz 7 rfl hHeld ?_
    try simp only [PT]
    refine wpAnyH_ready (rs:=[8,12]) (by kernel_rfl) (by simp) (ready_at (i:=8) rfl (fun K hK=> ?_) (ready_at (i:=12) rfl (fun K hK=> ?_) AllReadyH.nil))
    · go_simp
      try simp only [IntWalk.i64_left]
      refine (vOf_calls x.src _ hA).mono ?_
      rintro e_W W ⟨rfl,hb_W⟩
      replace hA:=hA.below hb_W
      replace hF:=hF.below hb_W
      replace kt:=keep_blk hb_W kt
      have z_W:=hb_W.size
      clear hb_W c_kt f_kt
      obtain ⟨c_kt,f_kt,l_kt_W⟩:=f3 kt
      refine hK.out _ _ ⟨(fun o=>(c_kt o).trans (v_kt o).symm),(by omega),hA⟩ (fun hHeld=> ?_)
      clear hK K
      try simp only [PT]
      refine tz 9 rfl hHeld ?_
      try simp only [PT]
      refine tz 10 rfl hHeld ?_
      try simp only [PT]
      refine tz 11 rfl hHeld ?_
      try simp only [PT]
      refine rd 12 rfl fun K hK=> ?_
      go_simp
      refine gen_app (K:=K) (fun D hV_D=> ?_)
      have n_kn:=hbk hV_D (W.heap.size)
      simp (maxDischargeDepth:=9) only [BK,not_false_eq_true,reduceCtorEq,kt,l_kt_w,l_kt_V,l_kt_Vd,l_kt_W] at n_kn
      have o_kn: ¬O (W.heap.size):=by first|exact hA.new (Nat.le_refl _)|exact hA.new (by omega)
      replace kt:=kK hV_D kt
      replace hF:Fr ((oneX tb)) O O w D:=nF hV_D
      replace hA:AP D ap x.s O:=nA hV_D
      have z_D:=zS hV_D
      clear hV_D c_kt f_kt
      obtain ⟨c_kt,f_kt,l_kt_D⟩:=f3 kt
      have kn:=n_kn;clear n_kn
      obtain ⟨c_kn,f_kn,l_kn_D⟩:=f3 kn
      refine hK.out _ _ ⟨(fun o=>(c_kt o).trans (v_kt o).symm),(by omega),hA⟩ (fun hHeld=> ?_)
      clear hK K
      try simp only [PT]
      unfold Parts.val
      refine rd 13 rfl fun K hK=> ?_
      go_simp
      refine gen_app (K:=K) (fun D2 hV_D2=> ?_)
      replace kt:=kK hV_D2 kt
      replace kn:=kK hV_D2 kn
      replace hF:Fr ((oneX tb)) O O w D2:=nF hV_D2
      replace hA:AP D2 ap x.s O:=nA hV_D2
      have z_D2:=zS hV_D2
      clear hV_D2 c_kt f_kt c_kn f_kn
      obtain ⟨c_kt,f_kt,l_kt_D2⟩:=f3 kt
      obtain ⟨c_kn,f_kn,l_kn_D2⟩:=f3 kn
      refine hK.out _ _ ⟨(fun o=>(c_kt o).trans (v_kt o).symm),(by omega),hA⟩ (fun hHeld=> ?_)
      clear hK K
      try simp only [PT]
      refine rd 14 rfl fun K hK=> ?_
      go_simp
      refine hK.out _ _ hHeld (fun hHeld=> ?_)
      clear hK K
      try simp only [PT]
      refine wpAnyH_done (by kernel_rfl) ?_ _
      refine NoPanic.normal ?_
      go_wp2_with fail
      go_meet
      exact ⟨_,rfl,rfl,hA,hF,kt,kn,o_kn,by omega,by omega⟩
    · go_simp
      refine gen_app (K:=K) (fun D hV_D=> ?_)
      have n_kn:=hbk hV_D (Vd.heap.size)
      simp (maxDischargeDepth:=9) only [BK,not_false_eq_true,reduceCtorEq,kt,l_kt_w,l_kt_V,l_kt_Vd] at n_kn
      have o_kn: ¬O (Vd.heap.size):=by first|exact hA.new (Nat.le_refl _)|exact hA.new (by omega)
      replace kt:=kK hV_D kt
      replace hF:Fr ((oneX tb)) O O w D:=nF hV_D
      replace hA:AP D ap x.s O:=nA hV_D
      have z_D:=zS hV_D
      clear hV_D c_kt f_kt
      obtain ⟨c_kt,f_kt,l_kt_D⟩:=f3 kt
      have kn:=n_kn;clear n_kn
      obtain ⟨c_kn,f_kn,l_kn_D⟩:=f3 kn
      refine hK.out _ _ ⟨(fun o=>(c_kt o).trans (v_kt o).symm),(by omega),hA⟩ (fun hHeld=> ?_)
      clear hK K
      try simp only [PT]
      refine rd 8 rfl fun K hK=> ?_
      go_simp
      try simp only [IntWalk.i64_left]
      refine (vOf_calls x.src _ hA).mono ?_
      rintro e_W W ⟨rfl,hb_W⟩
      replace hA:=hA.below hb_W
      replace hF:=hF.below hb_W
      replace kt:=keep_blk hb_W kt
      replace kn:=keep_blk hb_W kn
      have z_W:=hb_W.size
      clear hb_W c_kt f_kt c_kn f_kn
      obtain ⟨c_kt,f_kt,l_kt_W⟩:=f3 kt
      obtain ⟨c_kn,f_kn,l_kn_W⟩:=f3 kn
      refine hK.out _ _ ⟨(fun o=>(c_kt o).trans (v_kt o).symm),(by omega),hA⟩ (fun hHeld=> ?_)
      clear hK K
      try simp only [PT]
      unfold Parts.val
      refine tz 9 rfl hHeld ?_
      try simp only [PT]
      refine tz 10 rfl hHeld ?_
      try simp only [PT]
      refine tz 11 rfl hHeld ?_
      try simp only [PT]
      refine rd 13 rfl fun K hK=> ?_
      go_simp
      refine gen_app (K:=K) (fun D2 hV_D2=> ?_)
      replace kt:=kK hV_D2 kt
      replace kn:=kK hV_D2 kn
      replace hF:Fr ((oneX tb)) O O w D2:=nF hV_D2
      replace hA:AP D2 ap x.s O:=nA hV_D2
      have z_D2:=zS hV_D2
      clear hV_D2 c_kt f_kt c_kn f_kn
      obtain ⟨c_kt,f_kt,l_kt_D2⟩:=f3 kt
      obtain ⟨c_kn,f_kn,l_kn_D2⟩:=f3 kn
      refine hK.out _ _ ⟨(fun o=>(c_kt o).trans (v_kt o).symm),(by omega),hA⟩ (fun hHeld=> ?_)
      clear hK K
      try simp only [PT]
      refine rd 14 rfl fun K hK=> ?_
      go_simp
      refine hK.out _ _ hHeld (fun hHeld=> ?_)
      clear hK K
      try simp only [PT]
      refine wpAnyH_done (by kernel_rfl) ?_ _
      refine NoPanic.normal ?_
      go_wp2_with fail
      go_meet
      exact ⟨_,rfl,rfl,hA,hF,kt,kn,o_kn,by omega,by omega⟩
  case rest=>
    obtain ⟨q,hq⟩: ∃q,vOf x.s x.src=q:=⟨_,rfl⟩
    rw [hq] at hcut
    have hr:=Hr.out
    have hst:x.start={x with s:=keepP x.s q,p:=q,begun:=true,row:=lLen (keepP x.s q) q.table}:=by unfold Pt.start;rw [hq]
    unfold Pt.begin at hr
    rw [hst] at hr
    dsimp only at hr
    obtain ⟨a,ha,hr⟩:=Option.bind_eq_some_iff.1 hr
    split at hr
    rotate_left
    · cases hr
    rename_i hal
    obtain ⟨r1,hr1,rfl⟩:=Option.map_eq_some_iff.1 hr
    have Ha:=Lib.hid ha;have Hr1:=Lib.hid hr1;have Hal:=Lib.hid hal
    clear hA hF kt c_kt f_kt Hr hr hst ha hr1 hal z_V hq
    obtain ⟨B,rfl,rfl,hA,hF,kt,kn,o_kn,hne,hge⟩:=hcut
    obtain ⟨c_kt,f_kt,l_kt_wc⟩:=f3 kt
    obtain ⟨c_kn,f_kn,l_kn_wc⟩:=f3 kn
    go_wp2_with fail
    refine wp_gen fun V2 hV_V2=> ?_
    have n_kg:=hbk hV_V2 (wc.heap.size)
    simp (maxDischargeDepth:=9) only [BK,not_false_eq_true,reduceCtorEq,kt,kn,l_kt_wc,l_kn_wc] at n_kg
    have o_kg: ¬O (wc.heap.size):=by first|exact hA.new (Nat.le_refl _)|exact hA.new (by omega)
    replace kt:=kK hV_V2 kt
    replace kn:=kK hV_V2 kn
    replace hF:Fr ((oneX tb)) O O w V2:=nF hV_V2
    replace hA:AP V2 ap x.s O:=nA hV_V2
    have z_V2:=zS hV_V2
    clear hV_V2 c_kt f_kt c_kn f_kn
    obtain ⟨c_kt,f_kt,l_kt_V2⟩:=f3 kt
    obtain ⟨c_kn,f_kn,l_kn_V2⟩:=f3 kn
    have kg:=n_kg;clear n_kg
    obtain ⟨c_kg,f_kg,l_kg_V2⟩:=f3 kg
    obtain ⟨g,hg⟩: ∃g,wc.heap.size=g:=⟨_,rfl⟩
    rw [hg] at kg o_kg⊢
    have HF:=Lib.hid hF;have HA:=Lib.hid hA;have KT:=Lib.hid kt;have KN:=Lib.hid kn;have KG:=Lib.hid kg
    clear hF hA kt kn kg c_kt f_kt c_kn f_kn c_kg f_kg
    obtain ⟨l,hl⟩: ∃l,[q.wave,q.marks,q.spots,q.table]=l:=⟨_,rfl⟩
    have hl4:l.length=4:=by rw [←hl];rfl
    have Hcell:Hid (∀j (h:j<l.length),(#[Value.int .i64 q.wave, .int .i64 q.marks, .int .i64 q.spots, .int .i64 q.table]:Array Value)[j]? =some (.int .i64 l[j])):=Lib.hid (by subst hl;exact part_cell q)
    have Hl:=Lib.hid hl
    clear hl
    go_loopw [31] (fun c wr=> ∃i:Nat,i≤4∧c= .int .i64 i∧ ∃O',Hid (AP wr ap (keepL x.s (l.take i)) O'∧Fr (oneX tb) O O' w wr∧wr.heap[tb]? =some (.cells #[ap, .int .i64 x.src, .int .i64 x.rate, .int .i64 x.id,strOf x.text, .int .i64 x.p.wave, .int .i64 x.p.marks, .int .i64 x.p.spots, .int .i64 x.p.table, .int .i64 x.pos, .int .i64 x.row, .bool x.begun, .bool x.over, .int .i64 x.root] 125 (0,0))∧wr.heap[B]? =some (.cells #[.int .i64 q.wave, .int .i64 q.marks, .int .i64 q.spots, .int .i64 q.table] 30 (0,0))∧wr.heap[g]? =some (.cells #[.int .i64 q.wave, .int .i64 q.marks, .int .i64 q.spots, .int .i64 q.table] 3 (0,0))∧ ¬O' tb∧ ¬O' B∧ ¬O' g)) (fun c _=>4 - (intOf c).toNat)
    case atStart=>exact ⟨0,Nat.zero_le _,rfl,O,Lib.hid ⟨HA.out,HF.out,KT.out,KN.out,KG.out,o_kt,o_kn,o_kg⟩⟩
    case round=>
      obtain ⟨i,hi,rfl,O',HH⟩:=hrel
      obtain ⟨hA',hF',kt,kn,kg,ot,on,og⟩:=HH.out
      by_cases hlt':i<4
      · have d1:decide (i<4)=true:=by simpa using hlt'
        have cb:=cells_of kg
        have ci:wr.cell? ⟨g,i,none⟩=some (.int .i64 (l[i]'(by omega))):=by rw [cb];exact Hcell.out i (by omega)
        have HD:Hid (keepL x.s (l.take (i+1))=(keepL x.s (l.take i)).keep (l[i]'(by omega))):=Lib.hid (keep_take x.s l i (by omega))
        have KN:=Lib.hid kn;have KG:=Lib.hid kg;have HF':=Lib.hid hF'
        clear cb kn kg hF' HH
        obtain ⟨c_kt,f_kt,l_kt_wr⟩:=f3 kt
        go_wp2_with fail
        refine (keep_calls _ _ hA').mono ?_
        rintro e w1 ⟨rfl,O1,hA1,hf1⟩
        clear c_kt f_kt
        go_wp2_with fail
        go_roundw
        case rel=>
          refine ⟨i+1,by omega,by go_num,O1,Lib.hid ⟨by rw [HD.out];exact hA1,HF'.out.trans hf1.widen,hf1.keep kt ot (fun h=>h),hf1.keep KN.out on (fun h=>h),hf1.keep KG.out og (fun h=>h),hf1.not_own (lt_of kt) ot,hf1.not_own (lt_of KN.out) on,hf1.not_own (lt_of KG.out) og⟩⟩
        case measure=>simp [intOf];omega
      · have d1:decide (i<4)=false:=by simpa using hlt'
        obtain rfl:i=4:=by omega
        have hkl:keepL x.s (l.take 4)=keepP x.s q:=by rw [←Hl.out];rfl
        rw [hkl] at hA'
        have hA:=hA';have hF:=hF';have o_kt:=ot;have o_kn:=on
        clear hA' hF' kg og ot on HH HF HA KT KN KG
        obtain ⟨c_kt,f_kt,l_kt_wr⟩:=f3 kt
        obtain ⟨c_kn,f_kn,l_kn_wr⟩:=f3 kn
        go_wp2_with fail
        refine wp_gen fun V3 hV_V3=> ?_
        replace kt:=kK hV_V3 kt
        replace kn:=kK hV_V3 kn
        replace hF:Fr ((oneX tb)) O O' w V3:=nF hV_V3
        replace hA:AP V3 ap (keepP x.s q) O':=nA hV_V3
        have z_V3:=zS hV_V3
        clear hV_V3 c_kt f_kt c_kn f_kn
        obtain ⟨c_kt,f_kt,l_kt_V3⟩:=f3 kt
        obtain ⟨c_kn,f_kn,l_kn_V3⟩:=f3 kn
        refine wp_region_noPanic ?_
        refine wp_region_held_drew (S:=fun v=>(v.cell? ⟨tb,0,none⟩=V3.cell? ⟨tb,0,none⟩)∧(∀o,v.cell? ⟨B,o,none⟩=V3.cell? ⟨B,o,none⟩)∧(V3.heap.size≤v.heap.size)∧True) (by kernel_rfl) ⟨rfl,(fun _=>rfl),(Nat.le_refl _),trivial⟩ (fun hHeld=> ?_)
        generalize hV_V3d:V3.drew=V3d at hHeld⊢
        have d_kt:=dK hV_V3d kt
        have d_kn:=dK hV_V3d kn
        clear c_kt f_kt c_kn f_kn
        replace hA:=hA.drew;rw [hV_V3d] at hA
        replace hF:=hF.drew;rw [hV_V3d] at hF
        have z_V3d:=dZ hV_V3d
        have v_kt:=cells_of kt
        have v_kn:=cells_of kn
        clear kt;have kt:=d_kt;clear d_kt
        clear kn;have kn:=d_kn;clear d_kn
        obtain ⟨c_kt,f_kt,l_kt_V3d⟩:=f3 kt
        obtain ⟨c_kn,f_kn,l_kn_V3d⟩:=f3 kn
        clear hV_V3d
        refine tz 0 rfl hHeld ?_
        try simp only [PT]
        refine tz 1 rfl hHeld ?_
        try simp only [PT]
        refine tz 2 rfl hHeld ?_
        try simp only [PT]
        refine tz 3 rfl hHeld ?_
        try simp only [PT]
        refine tz 4 rfl hHeld ?_
        try simp only [PT]
        refine tz 5 rfl hHeld ?_
        try simp only [PT]
        refine tz 6 rfl hHeld ?_
        try simp only [PT]
        refine rd 7 rfl fun K hK=> ?_
        go_simp
        try simp only [IntWalk.i64_left]
        refine (tLen_calls _ _ hA).mono ?_
        rintro e_W3 W3 ⟨rfl,hb_W3⟩
        replace hA:=hA.below hb_W3
        replace hF:=hF.below hb_W3
        replace kt:=keep_blk hb_W3 kt
        replace kn:=keep_blk hb_W3 kn
        have z_W3:=hb_W3.size
        clear hb_W3 c_kt f_kt c_kn f_kn
        obtain ⟨c_kt,f_kt,l_kt_W3⟩:=f3 kt
        obtain ⟨c_kn,f_kn,l_kn_W3⟩:=f3 kn
        refine hK.out _ _ ⟨((c_kt 0).trans (v_kt 0).symm),(fun o=>(c_kn o).trans (v_kn o).symm),(by omega),trivial⟩ (fun hHeld=> ?_)
        clear hK K
        try simp only [PT]
        refine tz 8 rfl hHeld ?_
        try simp only [PT]
        refine tz 9 rfl hHeld ?_
        try simp only [PT]
        refine rd 10 rfl fun K hK=> ?_
        go_simp
        refine gen_app (K:=K) (fun D3 hV_D3=> ?_)
        replace kt:=kK hV_D3 kt
        replace kn:=kK hV_D3 kn
        replace hF:Fr ((oneX tb)) O O' w D3:=nF hV_D3
        replace hA:AP D3 ap (keepP x.s q) O':=nA hV_D3
        have z_D3:=zS hV_D3
        clear hV_D3 c_kt f_kt c_kn f_kn
        obtain ⟨c_kt,f_kt,l_kt_D3⟩:=f3 kt
        obtain ⟨c_kn,f_kn,l_kn_D3⟩:=f3 kn
        refine hK.out _ _ ⟨((c_kt 0).trans (v_kt 0).symm),(fun o=>(c_kn o).trans (v_kn o).symm),(by omega),trivial⟩ (fun hHeld=> ?_)
        clear hK K
        try simp only [PT]
        refine wpAnyH_done (by kernel_rfl) ?_ _
        refine NoPanic.normal ?_
        go_wp2_with fail
        refine wp_gen fun V4 hV_V4=> ?_
        replace kt:=kK hV_V4 kt
        replace kn:=kK hV_V4 kn
        replace hF:Fr ((oneX tb)) O O' w V4:=nF hV_V4
        replace hA:AP V4 ap (keepP x.s q) O':=nA hV_V4
        have z_V4:=zS hV_V4
        clear hV_V4 c_kt f_kt c_kn f_kn
        obtain ⟨c_kt,f_kt,l_kt_V4⟩:=f3 kt
        obtain ⟨c_kn,f_kn,l_kn_V4⟩:=f3 kn
        refine wp_region_noPanic ?_
        refine wp_region_held_drew (S:=fun v=>(∀o,v.cell? ⟨tb,o,none⟩=V4.cell? ⟨tb,o,none⟩)∧(∀o,v.cell? ⟨B,o,none⟩=V4.cell? ⟨B,o,none⟩)∧(V4.heap.size≤v.heap.size)∧True) (by kernel_rfl) ⟨(fun _=>rfl),(fun _=>rfl),(Nat.le_refl _),trivial⟩ (fun hHeld=> ?_)
        generalize hV_V4d:V4.drew=V4d at hHeld⊢
        have d_kt:=dK hV_V4d kt
        have d_kn:=dK hV_V4d kn
        clear c_kt f_kt c_kn f_kn
        replace hA:=hA.drew;rw [hV_V4d] at hA
        replace hF:=hF.drew;rw [hV_V4d] at hF
        have z_V4d:=dZ hV_V4d
        have v_kt:=cells_of kt
        have v_kn:=cells_of kn
        clear kt;have kt:=d_kt;clear d_kt
        clear kn;have kn:=d_kn;clear d_kn
        obtain ⟨c_kt,f_kt,l_kt_V4d⟩:=f3 kt
        obtain ⟨c_kn,f_kn,l_kn_V4d⟩:=f3 kn
        clear hV_V4d
        refine tz 0 rfl hHeld ?_
        try simp only [PT]
        refine tz 1 rfl hHeld ?_
        try simp only [PT]
        refine tz 2 rfl hHeld ?_
        try simp only [PT]
        refine tz 3 rfl hHeld ?_
        try simp only [PT]
        refine tz 4 rfl hHeld ?_
        try simp only [PT]
        refine tz 5 rfl hHeld ?_
        try simp only [PT]
        refine tz 6 rfl hHeld ?_
        try simp only [PT]
        refine tz 7 rfl hHeld ?_
        try simp only [PT]
        refine tz 8 rfl hHeld ?_
        try simp only [PT]
        refine tz 9 rfl hHeld ?_
        try simp only [PT]
        refine tz 10 rfl hHeld ?_
        try simp only [PT]
        refine tz 11 rfl hHeld ?_
        try simp only [PT]
        refine tz 12 rfl hHeld ?_
        try simp only [PT]
        refine tz 13 rfl hHeld ?_
        try simp only [PT]
        refine tz 14 rfl hHeld ?_
        try simp only [PT]
        refine rd 15 rfl fun K hK=> ?_
        go_simp
        try simp only [IntWalk.i64_left]
        refine (tAdd_calls q.table x.id x.text.length a Ha.out Hal.out r1 Hr1.out _ hA).mono ?_
        rintro e_W5 W5 ⟨rfl,O5,hA_W5,hf_W5⟩
        have q_kt:=hf_W5.keep kt o_kt (fun h=>h)
        have q_kn:=hf_W5.keep kn o_kn (fun h=>h)
        replace o_kt:=hf_W5.not_own (lt_of kt) o_kt
        clear kt c_kt f_kt;have kt:=q_kt;clear q_kt
        obtain ⟨c_kt,f_kt,l_kt_W5⟩:=f3 kt
        replace o_kn:=hf_W5.not_own (lt_of kn) o_kn
        clear kn c_kn f_kn;have kn:=q_kn;clear q_kn
        obtain ⟨c_kn,f_kn,l_kn_W5⟩:=f3 kn
        replace hF:=hF.trans hf_W5.widen
        have z_W5:=hf_W5.size
        clear hA hf_W5;have hA:=hA_W5;clear hA_W5
        refine hK.out _ _ ⟨(fun o=>(c_kt o).trans (v_kt o).symm),(fun o=>(c_kn o).trans (v_kn o).symm),(by omega),trivial⟩ (fun hHeld=> ?_)
        clear hK K
        try simp only [PT]
        refine tz 16 rfl hHeld ?_
        try simp only [PT]
        refine tz 17 rfl hHeld ?_
        try simp only [PT]
        refine tz 18 rfl hHeld ?_
        try simp only [PT]
        refine rd 19 rfl fun K hK=> ?_
        go_simp
        refine hK.out _ _ hHeld (fun hHeld=> ?_)
        clear hK K
        try simp only [PT]
        refine rd 20 rfl fun K hK=> ?_
        go_simp
        refine hK.out _ _ hHeld (fun hHeld=> ?_)
        clear hK K
        try simp only [PT]
        refine wpAnyH_done (by kernel_rfl) ?_ _
        refine NoPanic.normal ?_
        go_wp2_with fail
        refine calls_gen fun V6 hV_V6=> ?_
        replace kt:=kK hV_V6 kt
        replace hF:Fr ((oneX tb)) O O5 w V6:=nF hV_V6
        replace hA:AP V6 ap r1.2.2 O5:=nA hV_V6
        have z_V6:=zS hV_V6
        clear hV_V6 c_kt f_kt kn c_kn f_kn
        obtain ⟨c_kt,f_kt,l_kt_V6⟩:=f3 kt
        refine (pSwap_calls {x with s:=keepP x.s q,p:=q,begun:=true,row:=lLen (keepP x.s q) q.table} 3 (by omega) r1 _ ⟨hA,kt,o_kt⟩).mono ?_
        rintro e_W6 W6 ⟨rfl,O6,hT_W6,hf_W6⟩
        clear kt c_kt f_kt o_kt;have kt:=hT_W6.blk;have o_kt:=hT_W6.no
        obtain ⟨c_kt,f_kt,l_kt_W6⟩:=f3 kt
        replace hF:=hF.trans hf_W6
        have z_W6:=hf_W6.size
        clear hA hf_W6;have hA:=hT_W6.hA;clear hT_W6
        go_wp2_with fail
        go_ret
        exact ⟨rfl,O6,⟨hA,kt,o_kt⟩,hF⟩
end Go.Proofs.YtdjpjmkpndmhaaaGreat
namespace Go.Proofs.YtdjpjmkpndmhaaaGreat
open Go.RowKit Go.Sort
theorem lessL_irr: ∀s:List UInt8,lessL false s s=false
  | []=>rfl
  | x::s=>by unfold lessL;rw [if_pos rfl];exact lessL_irr s
theorem lessL_asymm (d d':Bool) (hd:d=true→d'=false): ∀s t:List UInt8,lessL d s t=true→lessL d' t s=false
  | [],[],h=>by unfold lessL at h⊢;exact hd h
  | [],_::_,_=>rfl
  | _::_,[],h=>by unfold lessL at h;cases h
  | x::s,y::t,h=>by
    unfold lessL at h⊢
    by_cases e:x=y
    · rw [if_pos e] at h;rw [if_pos e.symm];exact lessL_asymm d d' hd s t h
    · rw [if_neg e] at h;rw [if_neg (fun q=>e q.symm)]
      simp only [decide_eq_true_eq,decide_eq_false_iff_not] at h⊢;omega
theorem lessL_trans (d1 d2 d3:Bool) (hd:d1=true→d2=true→d3=true): ∀s t u:List UInt8,lessL d1 s t=true→lessL d2 t u=true→lessL d3 s u=true
  | [],[],[],h1,h2=>by unfold lessL at h1 h2⊢;exact hd h1 h2
  | [],_,_::_,_,_=>rfl
  | [],_::_,[],_,h2=>by unfold lessL at h2;cases h2
  | _::_,[],_,h1,_=>by unfold lessL at h1;cases h1
  | _::_,_::_,[],_,h2=>by unfold lessL at h2;cases h2
  | x::s,y::t,z::u,h1,h2=>by
    unfold lessL at h1 h2⊢
    by_cases e1:x=y
    · rw [if_pos e1] at h1
      by_cases e2:y=z
      · rw [if_pos e2] at h2;rw [if_pos (e1.trans e2)];exact lessL_trans d1 d2 d3 hd s t u h1 h2
      · rw [if_neg e2] at h2;rw [if_neg (by rw [e1];exact e2),e1];exact h2
    · rw [if_neg e1] at h1
      by_cases e2:y=z
      · rw [if_neg (by rw [←e2];exact e1),←e2];exact h1
      · rw [if_neg e2] at h2
        simp only [decide_eq_true_eq] at h1 h2
        have e3:x≠z:=fun q=>by rw [q] at h1;omega
        rw [if_neg e3];simp only [decide_eq_true_eq];omega
theorem lessL_total (d d':Bool): ∀s t:List UInt8,lessL d s t=false→lessL d' t s=false→s=t∧d=false∧d'=false
  | [],[],h1,h2=>by unfold lessL at h1 h2;exact ⟨rfl,h1,h2⟩
  | [],_::_,h1,_=>by unfold lessL at h1;cases h1
  | _::_,[],_,h2=>by unfold lessL at h2;cases h2
  | x::s,y::t,h1,h2=>by
    unfold lessL at h1 h2
    by_cases e:x=y
    · rw [if_pos e] at h1;rw [if_pos e.symm] at h2
      obtain ⟨a,b⟩:=lessL_total d d' s t h1 h2
      exact ⟨by rw [e,a],b⟩
    · rw [if_neg e] at h1;rw [if_neg (fun q=>e q.symm)] at h2
      simp only [decide_eq_false_iff_not] at h1 h2
      exact absurd (UInt8.toNat_inj.1 (by omega)) e
def RowIn (ts:List (List UInt8)) (r:Nat×Nat):Prop:= ∃t,ts[r.1]? =some t∧r.2≤t.length
theorem rl_irr (ts:List (List UInt8)) (x:Nat×Nat):refLess ts x x=false:=by
  unfold refLess
  rw [show decide (x.1<x.1)=false by simp];exact lessL_irr _
theorem rl_asymm {ts:List (List UInt8)} {x y:Nat×Nat} (h:refLess ts x y=true):refLess ts y x=false:=
  lessL_asymm _ _ (fun h=>by simp only [decide_eq_true_eq,decide_eq_false_iff_not] at h⊢;omega) _ _ h
theorem rl_trans {ts:List (List UInt8)} {x y z:Nat×Nat} (h1:refLess ts x y=true) (h2:refLess ts y z=true):refLess ts x z=true:=
  lessL_trans _ _ _ (fun h h'=>by simp only [decide_eq_true_eq] at h h'⊢;omega) _ _ _ h1 h2
theorem rl_total {ts:List (List UInt8)} {x y:Nat×Nat} (hx:RowIn ts x) (hy:RowIn ts y) (h1:refLess ts x y=false) (h2:refLess ts y x=false):x=y:=by
  obtain ⟨t1,ht1,ha1⟩:=hx
  obtain ⟨t2,ht2,ha2⟩:=hy
  unfold refLess at h1 h2
  obtain ⟨hs,hd1,hd2⟩:=lessL_total _ _ _ _ h1 h2
  simp only [decide_eq_false_iff_not] at hd1 hd2
  have e1:x.1=y.1:=by omega
  rw [getD_at ht1,getD_at ht2] at hs
  rw [e1,ht2] at ht1
  obtain rfl:=Option.some.inj ht1
  have:=congrArg List.length hs
  rw [List.length_drop,List.length_drop] at this
  exact Prod.ext e1 (by omega)
theorem take_while {ts:List (List UInt8)} (r:Nat×Nat): ∀out:List (Nat×Nat),∀x,x∈out.take (refAt ts out r)→refLess ts x r=true
  | [],x,h=>by simp at h
  | y::out,x,h=>by
    unfold refAt at h
    rw [List.takeWhile_cons] at h
    by_cases c:refLess ts y r=true
    · rw [if_pos c,List.length_cons,List.take_succ_cons] at h
      rcases List.mem_cons.1 h with rfl|h
      · exact c
      · exact take_while r out x h
    · rw [if_neg c] at h;simp at h
theorem drop_while {ts:List (List UInt8)} (r:Nat×Nat): ∀out:List (Nat×Nat),(∀y,(out.drop (refAt ts out r)).head? =some y→refLess ts y r=false)
  | [],y,h=>by simp at h
  | z::out,y,h=>by
    unfold refAt at h
    rw [List.takeWhile_cons] at h
    by_cases c:refLess ts z r=true
    · rw [if_pos c,List.length_cons,List.drop_succ_cons] at h
      exact drop_while r out y h
    · rw [if_neg c] at h;simp at h;subst h;simpa using c
theorem ins_sorted {ts:List (List UInt8)} {out:List (Nat×Nat)} {r:Nat×Nat} (hr:RowIn ts r) (ho: ∀x,x∈out→RowIn ts x) (hn:r∉out) (h:out.Pairwise fun x y=>refLess ts x y=true):(refIns ts out r).Pairwise fun x y=>refLess ts x y=true:=by
  unfold refIns
  have ha:=take_while (ts:=ts) r out
  have hd:=drop_while (ts:=ts) r out
  have hsplit:out.take (refAt ts out r)++out.drop (refAt ts out r)=out:=List.take_append_drop _ _
  have hmem: ∀x,x∈out.drop (refAt ts out r)→x∈out:=fun x hx=>List.mem_of_mem_drop hx
  rw [←hsplit] at h
  obtain ⟨h1,h2,h3⟩:=List.pairwise_append.1 h
  generalize out.take (refAt ts out r)=A at ha h1 h3 hsplit⊢
  generalize out.drop (refAt ts out r)=B at hd h2 h3 hmem hsplit⊢
  have hb: ∀y,y∈B→refLess ts r y=true:=by
    cases B with
    | nil=>intro y hy;simp at hy
    | cons z B=>
      have hz:refLess ts r z=true:=by
        have h0:=hd z rfl
        cases hc:refLess ts r z with
        | true=>rfl
        | false=>exact absurd (rl_total hr (ho z (hmem z (by simp))) hc h0) (fun e=>hn (e▸hmem z (by simp)))
      intro y hy
      rcases List.mem_cons.1 hy with rfl|hy
      · exact hz
      · exact rl_trans hz ((List.pairwise_cons.1 h2).1 y hy)
  refine List.pairwise_append.2 ⟨h1,List.pairwise_cons.2 ⟨hb,h2⟩,fun x hx y hy=> ?_⟩
  rcases List.mem_cons.1 hy with rfl|hy
  · exact ha x hx
  · exact h3 x hx y hy
theorem fold_sorted {ts:List (List UInt8)}: ∀(l out:List (Nat×Nat)),(∀x,x∈l→RowIn ts x)→(∀x,x∈out→RowIn ts x)→(∀x,x∈l→x∉out)→l.Nodup→(out.Pairwise fun x y=>refLess ts x y=true)→((l.foldl (refIns ts) out).Pairwise fun x y=>refLess ts x y=true)
  | [],out,_,_,_,_,h=>h
  | r::l,out,hl,ho,hn,hd,h=>by
    rw [List.foldl_cons]
    obtain ⟨hd1,hd2⟩:=List.nodup_cons.1 hd
    refine fold_sorted l _ (fun x hx=>hl x (by simp [hx])) (fun x hx=> ?_) (fun x hx hm=> ?_) hd2 (ins_sorted (hl r (by simp)) ho (hn r (by simp)) h)
    · rcases (refIns_mem ts out r x).1 hx with rfl|hx
      · exact hl _ (by simp)
      · exact ho x hx
    · rcases (refIns_mem ts out r x).1 hm with rfl|hm
      · exact hd1 hx
      · exact hn x (by simp [hx]) hm
theorem ins_perm (ts:List (List UInt8)) (out:List (Nat×Nat)) (r:Nat×Nat):(refIns ts out r).Perm (r::out):=by
  unfold refIns
  refine List.perm_middle.trans ?_
  rw [List.take_append_drop]
theorem fold_perm (ts:List (List UInt8)): ∀(l out:List (Nat×Nat)),(l.foldl (refIns ts) out).Perm (l++out)
  | [],out=>List.Perm.refl _
  | r::l,out=>by
    rw [List.foldl_cons]
    refine (fold_perm ts l _).trans ?_
    refine (List.Perm.append_left l (ins_perm ts out r)).trans ?_
    exact List.perm_middle
theorem upto_nodup (ts:List (List UInt8)): ∀d a,(upto ts d a).Nodup
  | 0,0=>List.nodup_nil
  | d+1,0=>by
    rw [←upto_next]
    have h0:=upto_nodup ts d 0
    generalize (ts.getD d []).length+1=n
    induction n with
    | zero=>exact h0
    | succ n ih=>
      rw [upto_snoc]
      refine List.nodup_append.2 ⟨ih,by simp,fun x hx y hy=> ?_⟩
      rw [List.mem_singleton.1 hy]
      rintro rfl
      rcases upto_mem hx with ⟨h1, -⟩|⟨-,h1⟩
      · exact Nat.lt_irrefl _ h1
      · exact Nat.lt_irrefl _ h1
  | d,a+1=>by
    rw [upto_snoc]
    refine List.nodup_append.2 ⟨upto_nodup ts d a,by simp,fun x hx y hy=> ?_⟩
    rw [List.mem_singleton.1 hy]
    rintro rfl
    rcases upto_mem hx with ⟨h1, -⟩|⟨-,h1⟩
    · exact Nat.lt_irrefl _ h1
    · exact Nat.lt_irrefl _ h1
theorem upto_in {ts:List (List UInt8)} {x:Nat×Nat} (h:x∈upto ts ts.length 0):RowIn ts x:=by
  rcases upto_mem h with ⟨h1,h2⟩|⟨-,h1⟩
  · obtain ⟨t,ht⟩:=at_some h1
    rw [getD_at ht] at h2
    exact ⟨t,ht,h2⟩
  · omega
theorem all_sorted (ts:List (List UInt8)):(refFold ts (upto ts ts.length 0)).Pairwise fun x y=>refLess ts x y=true:=
  fold_sorted _ _ (fun _ h=>upto_in h) (by simp) (by simp) (upto_nodup ts _ _) List.Pairwise.nil
theorem all_perm (ts:List (List UInt8)):(refFold ts (upto ts ts.length 0)).Perm (upto ts ts.length 0):=by
  have:=fold_perm ts (upto ts ts.length 0) []
  rw [List.append_nil] at this
  exact this
theorem all_in {ts:List (List UInt8)} {x:Nat×Nat} (h:x∈refFold ts (upto ts ts.length 0)):RowIn ts x:=upto_in ((refFold_mem ts _ x).1 h)
def Srt (ts:List (List UInt8)) (L:List (Nat×Nat)):Prop:=L.Pairwise fun x y=>refLess ts x y=true
theorem srt_unique {ts:List (List UInt8)}: ∀{A B:List (Nat×Nat)},Srt ts A→Srt ts B→A.Perm B→A=B
  | [],B,_,_,hp=>(List.nil_perm.1 hp).symm
  | x::A,[],_,_,hp=>absurd hp.symm (by simp)
  | x::A,y::B,ha,hb,hp=>by
    obtain ⟨a1,a2⟩:=List.pairwise_cons.1 ha
    obtain ⟨b1,b2⟩:=List.pairwise_cons.1 hb
    have e:x=y:=by
      have hx:x∈y::B:=hp.mem_iff.1 (by simp)
      have hy:y∈x::A:=hp.mem_iff.2 (by simp)
      rcases List.mem_cons.1 hx with h|h
      · exact h
      · rcases List.mem_cons.1 hy with h'|h'
        · exact h'.symm
        · have h1:=b1 x h
          rw [rl_asymm (a1 y h')] at h1;cases h1
    subst e
    rw [srt_unique a2 b2 hp.cons_inv]
abbrev RowT (ts:List (List UInt8)):={r:Nat×Nat//RowIn ts r}
def cmpR (ts:List (List UInt8)) (x y:RowT ts):Int:=if refLess ts x.1 y.1 then -1 else 1
theorem lt_cmpR (ts:List (List UInt8)) (x y:RowT ts):decide (cmpR ts x y<0)=refLess ts x.1 y.1:=by
  unfold cmpR
  cases refLess ts x.1 y.1<;>rfl
def rowsT (ts:List (List UInt8)) (l:List (Nat×Nat)) (h: ∀x,x∈l→RowIn ts x):List (RowT ts):=l.pmap Subtype.mk h
theorem rowsT_val {ts:List (List UInt8)} (l:List (Nat×Nat)) (h: ∀x,x∈l→RowIn ts x):(rowsT ts l h).map (·.1)=l:=by
  unfold rowsT;rw [List.map_pmap];simp
end Go.Proofs.YtdjpjmkpndmhaaaGreat
namespace Go.Proofs.YtdjpjmkpndmhaaaGreat
open Go.RowKit Go.Sort
attribute [local go_sem ↓] Go.wp_at_zero Go.wp_at_succ
attribute [local go_sem] str_len
def Gr (w w':World):Prop:= ∃q os,w'=grow (w.drewN q) os
theorem Gr.refl (w:World):Gr w w:=⟨0,#[],(grow_empty _).symm⟩
theorem Gr.trans {a b c:World} (h1:Gr a b) (h2:Gr b c):Gr a c:=by
  obtain ⟨q,os,rfl⟩:=h1
  obtain ⟨q',os',rfl⟩:=h2
  exact ⟨q+q',os++os',by show grow (grow ((a.drewN q).drewN q') os) os'=_;rw [grow_grow,World.drewN_drewN]⟩
theorem Gr.alloc (w:World) (o:Obj):Gr w (w.alloc o):=⟨0,#[o],alloc_eq_grow w o⟩
theorem Gr.drewN (w:World) (q:Nat):Gr w (w.drewN q):=⟨q,#[],(grow_empty _).symm⟩
theorem Gr.below {w w':World} (h:Gr w w'):Below w.heap.size w w':=by
  obtain ⟨q,os,rfl⟩:=h
  exact ⟨rfl,rfl,rfl,by simp [grow,World.drewN],fun k hk=>by simp [grow,World.drewN,Array.getElem?_append,hk]⟩
set_option maxRecDepth 100000 in
set_option maxHeartbeats 2000000 in
theorem is_calls (v : Value) (ts : List (List UInt8)) (d a : Nat) (t : List UInt8) (ht : ts[d]? = some t) (ha : a ≤ t.length) (w : World) (h : Rk w 1 v ts.length (ts.map strOf)) :
    Calls Tryz.prog 152 #[v, .agg #[.int .i64 (d:Int), .int .i64 (a:Int)]] w fun e w'=>e= .returned (.bool true)∧Gr w w':=by
  obtain ⟨hd, -⟩:=List.getElem?_eq_some_iff.1 ht
  obtain ⟨h1,A,cap,rfl,h2⟩:=h
  obtain ⟨g,cs,T,rfl,kg,hcs⟩:=h2 (by omega)
  have hci:cs[d]? =some (strOf t):=by rw [hcs d (by omega),List.getElem?_map,ht];rfl
  have n1:(d:Int)<(ts.length:Int):=by omega
  have n2:(a:Int)≤(t.length:Int):=by omega
  clear h1 h2 hcs ht
  go_enter Tryz.func152,Tryz.ntmps152
  obtain ⟨c_kg,f_kg,l_kg_w⟩:=f3 kg
  go_wp2_with fail
  refine wp_gen fun V hV=> ?_
  have hG:Gr w V:=by rw [hV];exact Gr.alloc w _
  have kr:V.heap[w.heap.size]? =some (.cells #[.int .i64 (d:Int), .int .i64 (a:Int)] 47 (0,0)):=by rw [hV];exact blk_new _ _ _ rfl
  replace kg:=keep_blk hG.below kg
  clear hV c_kg f_kg
  obtain ⟨c_kg,f_kg,l_kg_V⟩:=f3 kg
  obtain ⟨c_kr,f_kr,l_kr_V⟩:=f3 kr
  go_quiet (fail)
  go_wp2_with fail
  go_ret
  exact ⟨rfl,hG.trans (Gr.drewN _ _)⟩
set_option maxRecDepth 100000 in
set_option maxHeartbeats 4000000 in
theorem rless_calls (v : Value) (ts : List (List UInt8)) (d1 a1 d2 a2 : Nat) (t1 t2 : List UInt8) (ht1 : ts[d1]? = some t1) (ha1 : a1 ≤ t1.length) (ht2 : ts[d2]? = some t2) (ha2 : a2 ≤ t2.length) (hl1 : t1.length ≤ 50000) (r : Bool) (hr : lessL (decide (d1 < d2)) (t1.drop a1) (t2.drop a2) = r) (w : World) (h : Rk w 1 v ts.length (ts.map strOf)) :
    Calls Tryz.prog 121 #[v, .agg #[.int .i64 (d1:Int), .int .i64 (a1:Int)], .agg #[.int .i64 (d2:Int), .int .i64 (a2:Int)]] w fun e w'=>e= .returned (.bool r)∧Gr w w':=by
  obtain ⟨hd1, -⟩:=List.getElem?_eq_some_iff.1 ht1
  obtain ⟨hd2, -⟩:=List.getElem?_eq_some_iff.1 ht2
  obtain ⟨h1,A,cap,rfl,h2⟩:=h
  obtain ⟨g,cs,T,rfl,kg,hcs⟩:=h2 (by omega)
  have hc1:cs[d1]? =some (strOf t1):=by rw [hcs d1 (by omega),List.getElem?_map,ht1];rfl
  have hc2:cs[d2]? =some (strOf t2):=by rw [hcs d2 (by omega),List.getElem?_map,ht2];rfl
  have n1:(d1:Int)<(ts.length:Int):=by omega
  have n2:(d2:Int)<(ts.length:Int):=by omega
  have f1:=str_from t1 a1 ha1
  have f2:=str_from t2 a2 ha2
  have HR:=Lib.hid hr;clear hr
  have Hcs:=Lib.hid hcs;have H1:=Lib.hid h1;have HT1:=Lib.hid ht1;have HT2:=Lib.hid ht2;have HA1:=Lib.hid ha1;have HA2:=Lib.hid ha2
  clear h1 h2 hcs ht1 ht2 hd1 hd2 ha1 ha2
  obtain ⟨s,hs⟩: ∃s,t1.drop a1=s:=⟨_,rfl⟩
  obtain ⟨t,ht⟩: ∃t,t2.drop a2=t:=⟨_,rfl⟩
  have hs0:s.length≤50000:=by rw [←hs,List.length_drop];omega
  rw [hs] at f1 HR
  rw [ht] at f2 HR
  clear hs ht
  go_enter Tryz.func121,Tryz.ntmps121
  obtain ⟨c_kg,f_kg,l_kg_w⟩:=f3 kg
  go_wp2_with fail
  refine wp_scope_ghost 0 (fun n a' wr=> ∃(i:Nat),(i+n=s.length+1∧i≤s.length∧i≤t.length∧Hid (lessL (decide (d1<d2)) (s.drop i) (t.drop i)=r)∧wr.heap[w.heap.size]? =some (.cells #[.int .i64 (d1:Int), .int .i64 (a1:Int)] 47 (0,0))∧wr.heap[w.heap.size+1]? =some (.cells #[.int .i64 (d2:Int), .int .i64 (a2:Int)] 47 (0,0))∧Gr w wr)∧ ∃u0 u1 u2 u3 u6 u10 u11 u12 u13 u14 u15 u16 u17 u18 u19 u20 u21 u22 u23 u24 u25 u26 u27 u28 u29 u30 u31 u32 u33 u34 u35 u36 u37 u38 u39 u40 u41 u42 u43 u44 u45 u46 u47 u48 u49 u50 u51 u52 u53 u54 u55 u56 u57 u58 u59 u60 u61 u62 u63 u64 u65 u66 u67 u68 u69 u70 u71 u72 u73 u74 u75 u76 u77 u78:Value,a'={tmps:= #[u0,u1,u2,u3,(.pointer (some ⟨w.heap.size,0,none⟩):Value),(.pointer (some ⟨w.heap.size+1,0,none⟩):Value),u6,(strOf s:Value),(strOf t:Value),(.int .i64 (i:Int):Value),u10,u11,u12,u13,u14,u15,u16,u17,u18,u19,u20,u21,u22,u23,u24,u25,u26,u27,u28,u29,u30,u31,u32,u33,u34,u35,u36,u37,u38,u39,u40,u41,u42,u43,u44,u45,u46,u47,u48,u49,u50,u51,u52,u53,u54,u55,u56,u57,u58,u59,u60,u61,u62,u63,u64,u65,u66,u67,u68,u69,u70,u71,u72,u73,u74,u75,u76,u77,u78],defers:=[]}) (by rfl) ?first ?pass
  case first=>
    intro hrest
    go_wp2_with fail
    refine calls_gen fun V hV=> ?_
    have hG:Gr w V:=by rw [hV];exact (Gr.alloc _ _).trans (Gr.alloc _ _)
    have ka:V.heap[w.heap.size]? =some (.cells #[.int .i64 (d1:Int), .int .i64 (a1:Int)] 47 (0,0)):=by rw [hV];exact keep_blk (Gr.alloc _ _).below (blk_new _ _ _ rfl)
    have kb:V.heap[w.heap.size+1]? =some (.cells #[.int .i64 (d2:Int), .int .i64 (a2:Int)] 47 (0,0)):=by rw [hV];exact blk_new _ _ _ (siz_alloc _ _).symm
    replace kg:=keep_blk hG.below kg
    clear hV c_kg f_kg
    obtain ⟨c_kg,f_kg,l_kg_V⟩:=f3 kg
    obtain ⟨c_ka,f_ka,l_ka_V⟩:=f3 ka
    obtain ⟨c_kb,f_kb,l_kb_V⟩:=f3 kb
    refine (is_calls _ ts d1 a1 t1 HT1.out HA1.out _ ⟨H1.out,_,_,rfl,fun _=>⟨g,cs,T,rfl,kg,Hcs.out⟩⟩).mono ?_
    rintro e1 W1 ⟨rfl,hG1⟩
    replace kg:=keep_blk hG1.below kg;replace ka:=keep_blk hG1.below ka;replace kb:=keep_blk hG1.below kb
    replace hG:=hG.trans hG1
    clear hG1 c_kg f_kg c_ka f_ka c_kb f_kb
    obtain ⟨c_kg,f_kg,l_kg_W1⟩:=f3 kg
    obtain ⟨c_ka,f_ka,l_ka_W1⟩:=f3 ka
    obtain ⟨c_kb,f_kb,l_kb_W1⟩:=f3 kb
    go_wp2_with fail
    refine (is_calls _ ts d2 a2 t2 HT2.out HA2.out _ ⟨H1.out,_,_,rfl,fun _=>⟨g,cs,T,rfl,kg,Hcs.out⟩⟩).mono ?_
    rintro e2 W2 ⟨rfl,hG2⟩
    replace kg:=keep_blk hG2.below kg;replace ka:=keep_blk hG2.below ka;replace kb:=keep_blk hG2.below kb
    replace hG:=hG.trans hG2
    clear hG2 c_kg f_kg c_ka f_ka c_kb f_kb
    obtain ⟨c_kg,f_kg,l_kg_W2⟩:=f3 kg
    obtain ⟨c_ka,f_ka,l_ka_W2⟩:=f3 ka
    obtain ⟨c_kb,f_kb,l_kb_W2⟩:=f3 kb
    go_wp2_with fail
    go_quiet (fail)
    clear f1 f2 hc1 hc2 n1 n2 Hcs H1 HT1 HT2 HA1 HA2
    go_wp2_with fail
    go_step3
    go_step
    go_step
    refine hrest (s.length+1) _ _ ⟨0,⟨by omega,by omega,by omega,HR,ka,kb,hG.trans (Gr.drewN _ _)⟩,?_⟩
    exact ⟨_,_,_,_,_,_,_,_,_,_,_,_,_,_,_,_,_,_,_,_,_,_,_,_,_,_,_,_,_,_,_,_,_,_,_,_,_,_,_,_,_,_,_,_,_,_,_,_,_,_,_,_,_,_,_,_,_,_,_,_,_,_,_,_,_,_,_,_,_,_,_,_,_,_,rfl⟩
  case pass=>
    rintro n a' wr ⟨i,⟨hk,hi1,hi2,Hl,ka,kb,hG⟩,u0,u1,u2,u3,u6,u10,u11,u12,u13,u14,u15,u16,u17,u18,u19,u20,u21,u22,u23,u24,u25,u26,u27,u28,u29,u30,u31,u32,u33,u34,u35,u36,u37,u38,u39,u40,u41,u42,u43,u44,u45,u46,u47,u48,u49,u50,u51,u52,u53,u54,u55,u56,u57,u58,u59,u60,u61,u62,u63,u64,u65,u66,u67,u68,u69,u70,u71,u72,u73,u74,u75,u76,u77,u78,rfl⟩ J hJ
    clear f1 f2 hc1 hc2 n1 n2 Hcs H1 HT1 HT2 HA1 HA2 HR kg c_kg f_kg
    obtain ⟨c_ka,f_ka,l_ka_wr⟩:=f3 ka
    obtain ⟨c_kb,f_kb,l_kb_wr⟩:=f3 kb
    by_cases c1:i=s.length
    · have e1:s.drop i=[]:=by rw [c1];simp
      by_cases c2:i=t.length
      · have e2:t.drop i=[]:=by rw [c2];simp
        have hl:=Hl.out
        rw [e1,e2] at hl
        unfold lessL at hl
        have hL:=Lib.hid hl
        have q1:((i:Int)==(s.length:Int))=true:=by rw [c1];exact beq_self_eq_true _
        have q2:((i:Int)==(t.length:Int))=true:=by rw [c2];exact beq_self_eq_true _
        clear hl Hl e1 e2 hk hi1 hi2 c1 c2
        go_wp2_with fail
        simp only [Exit.jump]
        go_ret
        exact ⟨by rw [←hL.out];first|rfl|simp,hG⟩
      · obtain ⟨y,hy⟩:=at_some (show i<t.length by omega)
        have e2:=drop_at hy
        clear hy
        have hl:=Hl.out
        rw [e1,e2] at hl
        unfold lessL at hl
        have hL:=Lib.hid hl
        have q1:((i:Int)==(s.length:Int))=true:=by rw [c1];exact beq_self_eq_true _
        have q2:((i:Int)==(t.length:Int))=false:=by rw [beq_eq_false_iff_ne];omega
        clear hl Hl e1 e2 hk hi1 hi2 c1 c2
        go_wp2_with fail
        simp only [Exit.jump]
        go_ret
        exact ⟨by rw [←hL.out];rfl,hG⟩
    · have q1:((i:Int)==(s.length:Int))=false:=by rw [beq_eq_false_iff_ne];omega
      obtain ⟨x,hx⟩:=at_some (show i<s.length by omega)
      have e1:=drop_at hx
      by_cases c2:i=t.length
      · have e2:t.drop i=[]:=by rw [c2];simp
        have hl:=Hl.out
        rw [e1,e2] at hl
        unfold lessL at hl
        have hL:=Lib.hid hl
        have q2:((i:Int)==(t.length:Int))=true:=by rw [c2];exact beq_self_eq_true _
        clear hl Hl e1 e2 hk hi1 hi2 c1 c2 hx
        go_wp2_with fail
        simp only [Exit.jump]
        go_ret
        exact ⟨by rw [←hL.out];rfl,hG⟩
      · have q2:((i:Int)==(t.length:Int))=false:=by rw [beq_eq_false_iff_ne];omega
        obtain ⟨y,hy⟩:=at_some (show i<t.length by omega)
        have e2:=drop_at hy
        have g1:=str_index s i x hx
        have g2:=str_index t i y hy
        have hl:=Hl.out
        rw [e1,e2] at hl
        unfold lessL at hl
        have hi1':i<s.length:=by omega
        have hi2':i<t.length:=by omega
        clear Hl e1 e2 hx hy c1 c2
        by_cases c3:x=y
        · rw [if_pos c3] at hl
          subst c3
          have hL:=Lib.hid hl
          have Hk:=Lib.hid hk;have Hi:=Lib.hid (And.intro hi1' hi2')
          have e3:wrap64 ((i:Int)+1)=((i+1:Nat):Int):=(IntWalk.wrap64_in _ (by omega)).trans (by omega)
          clear hl hk hi1 hi2 hi1' hi2'
          go_wp2_with fail
          go_quiet (fail)
          go_wp2_with fail
          rw [e3]
          go_step3
          refine ⟨rfl,hJ _ _ ⟨n - 1,by have:=Hk.out;have:=Hi.out;omega,i+1,⟨by have:=Hk.out;have:=Hi.out;omega,by have:=Hi.out;omega,by have:=Hi.out;omega,hL,ka,kb,hG.trans (Gr.drewN _ _)⟩,?_⟩⟩
          exact ⟨_,_,_,_,_,_,_,_,_,_,_,_,_,_,_,_,_,_,_,_,_,_,_,_,_,_,_,_,_,_,_,_,_,_,_,_,_,_,_,_,_,_,_,_,_,_,_,_,_,_,_,_,_,_,_,_,_,_,_,_,_,_,_,_,_,_,_,_,_,_,_,_,_,_,rfl⟩
        · rw [if_neg c3] at hl
          have hL:=Lib.hid hl
          have q3:((x.toNat:Int)==(y.toNat:Int))=false:=by
            rw [beq_eq_false_iff_ne];intro h;exact c3 (UInt8.toNat_inj.1 (by omega))
          clear hl hk hi1 hi2 hi1' hi2' c3
          go_wp2_with fail
          go_quiet (fail)
          go_wp2_with fail
          refine wp_gen fun V6 hV6=> ?_
          have hG6:Gr w V6:=by rw [hV6];exact hG.trans (Gr.drewN _ _)
          have ka6:=(congrArg (fun v:World=>v.heap[w.heap.size]?) hV6).trans ka
          have kb6:=(congrArg (fun v:World=>v.heap[w.heap.size+1]?) hV6).trans kb
          clear hV6 c_ka f_ka c_kb f_kb
          obtain ⟨c_ka6,f_ka6,l_ka6_V6⟩:=f3 ka6
          obtain ⟨c_kb6,f_kb6,l_kb6_V6⟩:=f3 kb6
          go_quiet (fail)
          go_wp2_with fail
          simp only [Exit.jump]
          go_ret
          exact ⟨by rw [←hL.out];first|rfl|simp,hG6.trans (Gr.drewN _ _)⟩
set_option maxRecDepth 100000 in
set_option maxHeartbeats 2000000 in
theorem cmpR_calls (v : Value) (ts : List (List UInt8)) (h5 : ∀ t, t ∈ ts → t.length ≤ 50000) (x y : RowT ts) (bl : Nat) (w : World) (kl : w.heap[bl]? = some (.cells #[v] 42 (0, 0))) (h : Rk w 1 v ts.length (ts.map strOf)) :
    Calls Tryz.prog 120 #[.agg #[.int .i64 (x.1.1:Int), .int .i64 (x.1.2:Int)], .agg #[.int .i64 (y.1.1:Int), .int .i64 (y.1.2:Int)], .pointer (some ⟨bl,0,none⟩)] w fun e w'=>e= .returned (.int .i64 (cmpR ts x y))∧Gr w w':=by
  obtain ⟨x,t1,ht1,ha1⟩:=x
  obtain ⟨y,t2,ht2,ha2⟩:=y
  dsimp only
  have hr:lessL (decide (x.1<y.1)) (t1.drop x.2) (t2.drop y.2)=refLess ts x y:=by unfold refLess;rw [getD_at ht1,getD_at ht2]
  have h5':=h5 _ (List.mem_of_getElem? ht1)
  unfold cmpR
  dsimp only
  generalize refLess ts x y=r at hr⊢
  have HK:=Lib.hid h;have Hr:=Lib.hid hr;have HT1:=Lib.hid ht1;have HT2:=Lib.hid ht2;have HA1:=Lib.hid ha1;have HA2:=Lib.hid ha2
  clear h hr ht1 ht2 ha1 ha2 h5
  obtain ⟨d1,a1⟩:=x
  obtain ⟨d2,a2⟩:=y
  dsimp only at HT1 HT2 HA1 HA2 Hr⊢
  go_enter Tryz.func120,Tryz.ntmps120
  obtain ⟨c_kl,f_kl,l_kl_w⟩:=f3 kl
  go_wp2_with fail
  refine calls_gen fun V hV=> ?_
  have hG:Gr w V:=by rw [hV];exact (Gr.alloc _ _).trans (Gr.alloc _ _)
  clear hV
  refine (rless_calls v ts d1 a1 d2 a2 t1 t2 HT1.out HA1.out HT2.out HA2.out h5' r Hr.out _ (HK.out.below hG.below)).mono ?_
  rintro e1 W1 ⟨rfl,hG1⟩
  cases r with
  | true=>
    go_wp2_with fail
    go_ret
    exact ⟨rfl,hG.trans hG1⟩
  | false=>
    go_wp2_with fail
    go_ret
    exact ⟨rfl,hG.trans hG1⟩
end Go.Proofs.YtdjpjmkpndmhaaaGreat
namespace Go.Proofs.YtdjpjmkpndmhaaaGreat
open Go.RowKit
attribute [local go_sem ↓] Go.wp_at_zero Go.wp_at_succ
attribute [local go_sem] str_len
theorem rowCells_length (l:List (Nat×Nat)):(rowCells l).length=l.length*2:=by unfold rowCells rowInts;rw [itemCells_length,List.length_map]
theorem rowCells_append (a b:List (Nat×Nat)):rowCells (a++b)=rowCells a++rowCells b:=by unfold rowCells rowInts;rw [List.map_append,itemCells_append]
theorem rowCells_take: ∀(l:List (Nat×Nat)) (k:Nat),(rowCells l).take (k*2)=rowCells (l.take k)
  | [],k=>by simp [rowCells,rowInts,itemCells]
  | x::l,0=>rfl
  | x::l,k+1=>by
    have:=rowCells_take l k
    rw [show (k+1)*2=k*2+1+1 by omega]
    unfold rowCells rowInts at this⊢
    simp [itemCells,this]
theorem rowCells_drop: ∀(l:List (Nat×Nat)) (k:Nat),(rowCells l).drop (k*2)=rowCells (l.drop k)
  | [],k=>by simp [rowCells,rowInts,itemCells]
  | x::l,0=>rfl
  | x::l,k+1=>by
    have:=rowCells_drop l k
    rw [show (k+1)*2=k*2+1+1 by omega]
    unfold rowCells rowInts at this⊢
    simp [itemCells,this]
theorem rowCells_one (l:List (Nat×Nat)): ∀u∈rowCells l,u.oneCell'=true:=by
  unfold rowCells rowInts
  induction l with
  | nil=>simp [itemCells]
  | cons x l ih=>
    intro u hu
    simp only [List.map_cons,itemCells,List.mem_cons] at hu
    rcases hu with rfl|rfl|hu
    · rfl
    · rfl
    · exact ih u hu
theorem rowCells_at {l:List (Nat×Nat)} {i:Nat} {r:Nat×Nat} (h:l[i]? =some r):(rowCells l)[i*2]? =some (.int .i64 (r.1:Int))∧(rowCells l)[i*2+1]? =some (.int .i64 (r.2:Int)):=by
  unfold rowCells rowInts
  exact itemCells_at _ i ((r.1:Int),(r.2:Int)) (by simp [h])
theorem step_wrap (j n:Nat) (h:j≤n) (hn:n≤50000):wrap64 ((j:Int)+1)=(j:Int)+1:=IntWalk.wrap64_in _ (by omega)
set_option maxRecDepth 100000 in
set_option maxHeartbeats 8000000 in
theorem sorted_walk (v : Value) (ts : List (List UInt8)) (hrt : refRight ts = true) (w : World) (h : Rk w 1 v ts.length (ts.map strOf)) :
    Calls Tryz.prog 25 #[v] w fun e w'=> ∃v',e= .returned v'∧w'.ownsRow w.heap.size 47 2 v' (refFold ts (upto ts ts.length 0)).length (rowCells (refFold ts (upto ts ts.length 0)))∧Below w.heap.size w w':=by
  obtain ⟨hn10,h40⟩:=right_len hrt
  have H40:=Lib.hid h40;clear h40
  have HK:=Lib.hid h
  obtain ⟨h1,A,cap,rfl,h2⟩:=h
  clear h1 h2
  go_enter Tryz.func25,Tryz.ntmps25
  go_wp2_with fail
  refine calls_gen fun V0 hV_V0=> ?_
  have hB:Below w.heap.size w V0:=nB hV_V0
  have z_V0:=zS hV_V0
  clear hV_V0
  refine (rright_calls _ ts (by omega) _ (HK.out.below hB)).mono ?_
  rintro e_W0 W0 ⟨rfl,hb_W0⟩
  replace hB:=below_step hB hb_W0
  have z_W0:=hb_W0.size
  clear hb_W0
  rw [hrt]
  have HB0:=Lib.hid hB;clear hB
  go_wp2_with fail
  go_loopg [3,4] ts.length (fun k p q wr=> ∃d:Nat,q= .int .i64 (d:Int)∧d+k=ts.length∧Hid (wr.ownsRow w.heap.size 47 2 p (refFold ts (upto ts d 0)).length (rowCells (refFold ts (upto ts d 0))))∧Hid (Below w.heap.size w wr))
  case atStart=>exact ⟨0,rfl,by omega,Lib.hid (own_nil _ _ _ _),HB0⟩
  case round=>
    clear HB0
    obtain ⟨d,rfl,hk,Hown,HB⟩:=hrel
    by_cases hlt:d<ts.length
    · obtain ⟨k,rfl⟩: ∃k,gk=k+1:=⟨gk - 1,by omega⟩
      obtain ⟨t,ht⟩:=at_some hlt
      have n1:decide ((d:Int)<(ts.length:Int))=true:=by simpa using hlt
      have n2:(d:Int)<(ts.length:Int):=by omega
      have E3:=Lib.hid (step_wrap d 10 (by omega) (by omega))
      have hgd:=getD_at ht
      have hlen:=H40.out d
      rw [hgd] at hlen
      go_wp2_with fail
      go_loopg [3,5] (t.length+1) (fun k2 p q wr=> ∃a:Nat,q= .int .i64 (a:Int)∧a+k2=t.length+1∧Hid (wr.ownsRow w.heap.size 47 2 p (refFold ts (upto ts d a)).length (rowCells (refFold ts (upto ts d a))))∧Hid (Below w.heap.size w wr))
      case atStart=>exact ⟨0,rfl,by omega,Hown,HB⟩
      case round=>
        clear Hown HB
        obtain ⟨a,rfl,hk2,Hown,HB⟩:=hrel
        obtain ⟨-,A',cap',hv,h2⟩:=HK.out.below HB.out
        obtain ⟨g,cs,T,rfl,kg,hcs⟩:=h2 (by omega)
        obtain ⟨rfl, -,rfl⟩:=Value.slice.inj hv
        have hci:cs[d]? =some (strOf t):=by rw [hcs d (by omega),List.getElem?_map,ht];rfl
        clear h2 hv hcs
        obtain ⟨c_kg,f_kg,l_kg_wr⟩:=f3 kg
        by_cases hla:a≤t.length
        · obtain ⟨k2,rfl⟩: ∃k,gk=k+1:=⟨gk - 1,by omega⟩
          have m1:decide ((a:Int)≤(t.length:Int))=true:=by simp;omega
          have E4:=Lib.hid (step_wrap a 40 (by omega) (by omega))
          have hw0:=HB.out.size
          have hd10:d≤10:=by omega
          have ha41:a≤41:=by omega
          have hB:=Below.refl wr.heap.size wr
          obtain ⟨c_kg,f_kg,l_kg_wr⟩:=f3 kg
          go_wp2_with fail
          refine wp_gen fun V hV_V=> ?_
          have n_kr:=hbk hV_V (wr.heap.size)
          simp (maxDischargeDepth:=9) only [BK,not_false_eq_true,reduceCtorEq,kg,l_kg_wr] at n_kr
          replace kg:=kK hV_V kg
          replace hB:Below wr.heap.size wr V:=nB hV_V
          have z_V:=zS hV_V
          clear hV_V c_kg f_kg
          obtain ⟨c_kg,f_kg,l_kg_V⟩:=f3 kg
          have kr:=n_kr;clear n_kr
          obtain ⟨c_kr,f_kr,l_kr_V⟩:=f3 kr
          have hownV:=own_below Hown.out hB
          have hBV:=below_step HB.out hB
          have hszV:=hBV.size
          obtain ⟨out,hout⟩: ∃out,out=refFold ts (upto ts d a):=⟨_,rfl⟩
          rw [←hout] at hownV
          have hol:out.length≤500:=by rw [hout];exact fold_small hrt d a hd10 ha41
          have hval: ∀x,x∈out→ ∃t',ts[x.1]? =some t'∧x.2≤t'.length:=fun x hx=>fold_valid d a t ht hla x (hout▸hx)
          obtain ⟨-,A3,c3,rfl,hx3⟩:=Rx.of_own hownV
          have HownV:=Lib.hid hownV;have HBV:=Lib.hid hBV;have Hval:=Lib.hid hval;have Hout:=Lib.hid hout;have HX3:=Lib.hid hx3;have KG:=Lib.hid kg;have KR:=Lib.hid kr
          clear hownV hBV hval hout hx3 Hown kg kr c_kg c_kr f_kg f_kr hB
          generalize hkrb:wr.heap.size=krb at*
          go_loopg [7] out.length (fun k3 p wr=> ∃j:Nat,p= .int .i64 (j:Int)∧j+k3=out.length∧Hid (∀i x,i<j→out[i]? =some x→refLess ts x (d,a)=true)∧Below V.heap.size V wr)
          case atStart=>exact ⟨0,rfl,by omega,Lib.hid (fun i x hi=>absurd hi (by omega)),Below.refl _ _⟩
          case round=>
            obtain ⟨j,rfl,hk3,Hpre,hB2⟩:=hrel
            have hsz2:=hB2.size
            by_cases hj:j<out.length
            · obtain ⟨k3,rfl⟩: ∃k,gk=k+1:=⟨gk - 1,by omega⟩
              obtain ⟨x,hx⟩:=at_some hj
              obtain ⟨t1,ht1,hx2⟩:=Hval.out x (List.mem_of_getElem? hx)
              obtain ⟨g3,rfl,hg3,hc3⟩:=HX3.out (by omega)
              have c1:wr.cell? ⟨g3,j*2,none⟩=some (.int .i64 (x.1:Int)):=((hB2.cell (by exact hg3)).trans (hc3 _ (by omega))).trans (rowCells_at hx).1
              have c2:wr.cell? ⟨g3,j*2+1,none⟩=some (.int .i64 (x.2:Int)):=((hB2.cell (by exact hg3)).trans (hc3 _ (by omega))).trans (rowCells_at hx).2
              have ck:=cells_of (keep_blk hB2 KR.out)
              have l1:g3<wr.heap.size:=by omega
              have l2:=lt_of (keep_blk hB2 KR.out)
              have j1:decide ((j:Int)<(out.length:Int))=true:=by simpa using hj
              have j2:(j:Int)<(out.length:Int):=by omega
              have E5:=Lib.hid (step_wrap j 500 (by omega) (by omega))
              have hlen1:=H40.out x.1
              rw [getD_at ht1] at hlen1
              have hless:Hid (lessL (decide (x.1<d)) (t1.drop x.2) (t.drop a)=refLess ts x (d,a)):=Lib.hid (by unfold refLess;rw [getD_at ht1,getD_at ht])
              clear hc3
              go_wp2_with fail
              refine wp_region_noPanic ?_
              refine wp_region_held_drew (S:=fun v=>Below wr.heap.size wr v∧(wr.heap.size≤v.heap.size)∧ ∀b o,b<wr.heap.size→v.cell? ⟨b,o,none⟩=wr.cell? ⟨b,o,none⟩) (by kernel_rfl) (HeldB.start wr) (fun hHeld=> ?_)
              have hB_d:Below wr.heap.size wr wr.drew:=(Below.refl _ _).drew
              generalize wr.drew=wrd at hHeld hB_d⊢
              refine tz 0 rfl hHeld ?_
              try simp only [PT]
              refine tz 1 rfl hHeld ?_
              try simp only [PT]
              refine tz 2 rfl hHeld ?_
              try simp only [PT]
              refine tz 3 rfl hHeld ?_
              try simp only [PT]
              refine tz 4 rfl hHeld ?_
              try simp only [PT]
              refine tz 5 rfl hHeld ?_
              try simp only [PT]
              refine tz 6 rfl hHeld ?_
              try simp only [PT]
              refine tz 7 rfl hHeld ?_
              try simp only [PT]
              refine tz 8 rfl hHeld ?_
              try simp only [PT]
              refine tz 9 rfl hHeld ?_
              try simp only [PT]
              refine tz 10 rfl hHeld ?_
              try simp only [PT]
              refine rd 11 rfl fun K hK=> ?_
              go_simp
              refine (less_calls _ ts x.1 x.2 d a t1 t ht1 hx2 ht hla (by omega) _ hless.out _ (HK.out.below (below_step (below_step HBV.out hB2) hB_d))).mono ?_
              rintro e6 W6 ⟨rfl,hb6⟩
              refine hK.out _ _ (HeldB.call hHeld hb6) (fun hHeld=> ?_)
              clear hK K
              try simp only [PT]
              have hBX:Below V.heap.size V W6:=below_step hB2 (below_step hB_d hb6)
              cases hR:refLess ts x (d,a) with
              | true=>
                have Hpre2:Hid (∀i y,i<j+1→out[i]? =some y→refLess ts y (d,a)=true):=Lib.hid (fun i y hi hy=>by
                  rcases Nat.lt_or_ge i j with h|h
                  · exact Hpre.out i y h hy
                  · obtain rfl:i=j:=by omega
                    rw [hx] at hy;cases hy;exact hR)
                refine tz 12 rfl hHeld ?_
                try simp only [PT]
                refine wpAnyH_done (by kernel_rfl) ?_ _
                refine NoPanic.normal ?_
                clear c1 c2 ck hHeld Hpre
                go_wp2_with fail
                go_roundg k3
                case measure=>omega
                case rel=>exact ⟨j+1,by first|rfl|(rw [E5.out];rfl),by omega,Hpre2,hBX⟩
              | false=>
                have Hat:Hid (refAt ts out (d,a)=j):=Lib.hid (refAt_of (by omega) Hpre.out (fun y hy=>by rw [hx] at hy;cases hy;exact hR))
                refine tz 12 rfl hHeld ?_
                try simp only [PT]
                refine wpAnyH_done (by kernel_rfl) ?_ _
                refine NoPanic.normal ?_
                clear c1 c2 ck hHeld Hpre hB_d hb6
                go_wp2_with fail
                have ownX:=own_below HownV.out hBX
                have krX:=keep_blk hBX KR.out
                have ckX:=cells_of krX
                have lkX:=lt_of krX
                have q0:out.length≤c3:=own_cap HownV.out
                have q1:j≤c3:=by omega
                have q2:j≤out.length:=by omega
                refine wp_region_noPanic ?_
                refine wp_region_held_drew (S:=fun v=>Below W6.heap.size W6 v∧(W6.heap.size≤v.heap.size)∧ ∀b o,b<W6.heap.size→v.cell? ⟨b,o,none⟩=W6.cell? ⟨b,o,none⟩) (by kernel_rfl) (HeldB.start W6) (fun hHeld=> ?_)
                have hB_d:Below W6.heap.size W6 W6.drew:=(Below.refl _ _).drew
                generalize W6.drew=W6d at hHeld hB_d⊢
                refine tz 0 rfl hHeld ?_
                try simp only [PT]
                refine tz 1 rfl hHeld ?_
                try simp only [PT]
                refine tz 2 rfl hHeld ?_
                try simp only [PT]
                refine tz 4 rfl hHeld ?_
                try simp only [PT]
                refine tz 7 rfl hHeld ?_
                try simp only [PT]
                refine tz 8 rfl hHeld ?_
                try simp only [PT]
                refine tz 9 rfl hHeld ?_
                try simp only [PT]
                have ownD:=own_below ownX hB_d
                have hszX:=hBX.size
                have hszD:=hB_d.size
                skip
                refine wpAnyH_ready (rs:=[3,5]) (by kernel_rfl) (by simp) ?_
                refine ready_at rfl (fun K hK=> ?_) (ready_at rfl (fun K hK=> ?_) AllReadyH.nil)
                · refine step_moreN (by rfl) _ _ 40 (by rfl) (base:=W6.heap.size) (e:=47) (.agg #[.int .i64 0, .int .i64 0]) 2 16 (by omega) Tryz.underlying40 (by kernel_rfl) (by rfl) (v:= .slice none 0 0) (by rfl) (own_nil _ _ _ _) (by rfl) (by have:=(Rds.of_own (ownD)).part j q2;rw [rowCells_take] at this;exact this) (rowCells_one _) (nm:=j) (by omega) (by omega) (by omega) (hHeld.2.1) ?_
                  intro A4 c4 W7 hown7 hlow7 hkeep7
                  refine hK.out _ _ (HeldB.low hHeld hlow7) (fun hHeld=> ?_)
                  clear hK K
                  try simp only [PT]
                  refine rd 5 rfl fun K hK=> ?_
                  go_simp
                  refine hK.out _ _ (HeldB.alloc hHeld _) (fun hHeld=> ?_)
                  clear hK K
                  try simp only [PT]
                  refine rd 6 rfl fun K hK=> ?_
                  refine step_moreN (by rfl) _ _ 40 (by rfl) (base:=W6.heap.size) (e:=47) (.agg #[.int .i64 0, .int .i64 0]) 2 16 (by omega) Tryz.underlying40 (by kernel_rfl) (by rfl) (v:= .slice A4 j c4) (by rfl) (hown7.alloc _) (by rfl) (rds_one W7 #[.int .i64 (d:Int), .int .i64 (a:Int)] 47 2 rfl) (rowCells_one [(d,a)]) (nm:=j+1) (by omega) (by omega) (by omega) (hHeld.2.1) ?_
                  intro A5 c5 W8 hown8 hlow8 hkeep8
                  refine hK.out _ _ (HeldB.low hHeld hlow8) (fun hHeld=> ?_)
                  clear hK K
                  try simp only [PT]
                  refine rd 10 rfl fun K hK=> ?_
                  refine step_moreN (by rfl) _ _ 40 (by rfl) (base:=W6.heap.size) (e:=47) (.agg #[.int .i64 0, .int .i64 0]) 2 16 (by omega) Tryz.underlying40 (by kernel_rfl) (by rfl) (v:= .slice A5 (j+1) c5) (by rfl) (hown8) (by rfl) (by have:=(Rds.of_own (own_below ownX hHeld.1)).behind (A':=if c3=j then some ⟨g3,0,none⟩ else some ⟨g3,j*2,none⟩) j (out.length - j) q2 (by omega) (fun h=>by first|(exfalso;omega)|(rw [if_neg (by omega)];simp [add_zero_off]));rw [rowCells_drop] at this;exact this) (rowCells_one _) (nm:=out.length+1) (by omega) (by omega) (by omega) (hHeld.2.1) ?_
                  intro A6 c6 W9 hown9 hlow9 hkeep9
                  refine hK.out _ _ (HeldB.low hHeld hlow9) (fun hHeld=> ?_)
                  clear hK K
                  try simp only [PT]
                  have hfin:=hHeld.1
                  refine rd 11 rfl fun K hK=> ?_
                  go_simp
                  refine hK.out _ _ hHeld (fun hHeld=> ?_)
                  clear hK K
                  try simp only [PT]
                  refine wpAnyH_done (by kernel_rfl) ?_ _
                  refine NoPanic.normal ?_
                  have HF:Hid (W9.ownsRow w.heap.size 47 2 (.slice A6 (out.length+1) c6) (refFold ts (upto ts d (a+1))).length (rowCells (refFold ts (upto ts d (a+1))))):=Lib.hid (by
                    rw [upto_snoc,refFold_snoc,←Hout.out,refIns_length]
                    unfold refIns
                    rw [Hat.out,rowCells_append,show (d,a)::out.drop j=[(d,a)]++out.drop j from rfl,rowCells_append,←List.append_assoc]
                    exact own_mono hown9 (by omega))
                  have HBF:=Lib.hid (below_step (below_step HBV.out hBX) hfin)
                  clear hown9 hlow9 hkeep9 hfin ownX ownD ckX
                  go_wp2_with fail
                  all_goals
                    go_roundg k2
                    case measure=>omega
                    case rel=>exact ⟨a+1,by first|rfl|(rw [E4.out];rfl),by omega,HF,HBF⟩
                · go_simp
                  refine hK.out _ _ (HeldB.alloc hHeld _) (fun hHeld=> ?_)
                  clear hK K
                  try simp only [PT]
                  refine rd 3 rfl fun K hK=> ?_
                  refine step_moreN (by rfl) _ _ 40 (by rfl) (base:=W6.heap.size) (e:=47) (.agg #[.int .i64 0, .int .i64 0]) 2 16 (by omega) Tryz.underlying40 (by kernel_rfl) (by rfl) (v:= .slice none 0 0) (by rfl) (own_nil _ _ _ _) (by rfl) (by have:=(Rds.of_own (ownD.alloc (.cells #[.int .i64 (d:Int), .int .i64 (a:Int)] 47))).part j q2;rw [rowCells_take] at this;exact this) (rowCells_one _) (nm:=j) (by omega) (by omega) (by omega) (hHeld.2.1) ?_
                  intro A4 c4 W7 hown7 hlow7 hkeep7
                  refine hK.out _ _ (HeldB.low hHeld hlow7) (fun hHeld=> ?_)
                  clear hK K
                  try simp only [PT]
                  refine rd 6 rfl fun K hK=> ?_
                  refine step_moreN (by rfl) _ _ 40 (by rfl) (base:=W6.heap.size) (e:=47) (.agg #[.int .i64 0, .int .i64 0]) 2 16 (by omega) Tryz.underlying40 (by kernel_rfl) (by rfl) (v:= .slice A4 j c4) (by rfl) (hown7) (by rfl) ((rds_one W6d #[.int .i64 (d:Int), .int .i64 (a:Int)] 47 2 rfl).below (hkeep7 _ (Nat.le_refl _) (by simp [Value.ownBlock]))) (rowCells_one [(d,a)]) (nm:=j+1) (by omega) (by omega) (by omega) (hHeld.2.1) ?_
                  intro A5 c5 W8 hown8 hlow8 hkeep8
                  refine hK.out _ _ (HeldB.low hHeld hlow8) (fun hHeld=> ?_)
                  clear hK K
                  try simp only [PT]
                  refine rd 10 rfl fun K hK=> ?_
                  refine step_moreN (by rfl) _ _ 40 (by rfl) (base:=W6.heap.size) (e:=47) (.agg #[.int .i64 0, .int .i64 0]) 2 16 (by omega) Tryz.underlying40 (by kernel_rfl) (by rfl) (v:= .slice A5 (j+1) c5) (by rfl) (hown8) (by rfl) (by have:=(Rds.of_own (own_below ownX hHeld.1)).behind (A':=if c3=j then some ⟨g3,0,none⟩ else some ⟨g3,j*2,none⟩) j (out.length - j) q2 (by omega) (fun h=>by first|(exfalso;omega)|(rw [if_neg (by omega)];simp [add_zero_off]));rw [rowCells_drop] at this;exact this) (rowCells_one _) (nm:=out.length+1) (by omega) (by omega) (by omega) (hHeld.2.1) ?_
                  intro A6 c6 W9 hown9 hlow9 hkeep9
                  refine hK.out _ _ (HeldB.low hHeld hlow9) (fun hHeld=> ?_)
                  clear hK K
                  try simp only [PT]
                  have hfin:=hHeld.1
                  refine rd 11 rfl fun K hK=> ?_
                  go_simp
                  refine hK.out _ _ hHeld (fun hHeld=> ?_)
                  clear hK K
                  try simp only [PT]
                  refine wpAnyH_done (by kernel_rfl) ?_ _
                  refine NoPanic.normal ?_
                  have HF:Hid (W9.ownsRow w.heap.size 47 2 (.slice A6 (out.length+1) c6) (refFold ts (upto ts d (a+1))).length (rowCells (refFold ts (upto ts d (a+1))))):=Lib.hid (by
                    rw [upto_snoc,refFold_snoc,←Hout.out,refIns_length]
                    unfold refIns
                    rw [Hat.out,rowCells_append,show (d,a)::out.drop j=[(d,a)]++out.drop j from rfl,rowCells_append,←List.append_assoc]
                    exact own_mono hown9 (by omega))
                  have HBF:=Lib.hid (below_step (below_step HBV.out hBX) hfin)
                  clear hown9 hlow9 hkeep9 hfin ownX ownD ckX
                  go_wp2_with fail
                  all_goals
                    go_roundg k2
                    case measure=>omega
                    case rel=>exact ⟨a+1,by first|rfl|(rw [E4.out];rfl),by omega,HF,HBF⟩
            · obtain rfl:j=out.length:=by omega
              have j1:decide ((out.length:Int)<(out.length:Int))=false:=by simp
              have Hat:Hid (refAt ts out (d,a)=out.length):=Lib.hid (refAt_of (Nat.le_refl _) Hpre.out (fun y hy=>by simp at hy))
              clear Hpre
              go_wp2_with fail
              refine wp_region_noPanic ?_
              refine wp_region_held_drew (S:=fun v=>Below wr.heap.size wr v∧(wr.heap.size≤v.heap.size)∧ ∀b o,b<wr.heap.size→v.cell? ⟨b,o,none⟩=wr.cell? ⟨b,o,none⟩) (by kernel_rfl) (HeldB.start wr) (fun hHeld=> ?_)
              have hB_d:Below wr.heap.size wr wr.drew:=(Below.refl _ _).drew
              generalize wr.drew=wrd at hHeld hB_d⊢
              refine tz 0 rfl hHeld ?_
              try simp only [PT]
              refine tz 1 rfl hHeld ?_
              try simp only [PT]
              refine tz 2 rfl hHeld ?_
              try simp only [PT]
              refine tz 3 rfl hHeld ?_
              try simp only [PT]
              refine tz 4 rfl hHeld ?_
              try simp only [PT]
              refine take_no (i:=5) rfl (by kernel_rfl) (by kernel_rfl) (by kernel_rfl) (fun _ _ _ h=>h) (by rfl) hHeld ?_
              try simp only [PT]
              refine take_no (i:=6) rfl (by kernel_rfl) (by kernel_rfl) (by kernel_rfl) (fun _ _ _ h=>h) (by rfl) hHeld ?_
              try simp only [PT]
              refine take_no (i:=7) rfl (by kernel_rfl) (by kernel_rfl) (by kernel_rfl) (fun _ _ _ h=>h) (by rfl) hHeld ?_
              try simp only [PT]
              refine take_no (i:=8) rfl (by kernel_rfl) (by kernel_rfl) (by kernel_rfl) (fun _ _ _ h=>h) (by rfl) hHeld ?_
              try simp only [PT]
              refine take_no (i:=9) rfl (by kernel_rfl) (by kernel_rfl) (by kernel_rfl) (fun _ _ _ h=>h) (by rfl) hHeld ?_
              try simp only [PT]
              refine take_no (i:=10) rfl (by kernel_rfl) (by kernel_rfl) (by kernel_rfl) (fun _ _ _ h=>h) (by rfl) hHeld ?_
              try simp only [PT]
              refine take_no (i:=11) rfl (by kernel_rfl) (by kernel_rfl) (by kernel_rfl) (fun _ _ _ h=>h) (by rfl) hHeld ?_
              try simp only [PT]
              refine tz 12 rfl hHeld ?_
              try simp only [PT]
              refine wpAnyH_done (by kernel_rfl) ?_ _
              refine NoPanic.normal ?_
              have hBX:Below V.heap.size V wrd:=below_step hB2 hB_d
              clear hHeld hB_d
              go_wp2_with fail
              have ownX:=own_below HownV.out hBX
              have krX:=keep_blk hBX KR.out
              have ckX:=cells_of krX
              have lkX:=lt_of krX
              have q0:out.length≤c3:=own_cap HownV.out
              have q1:out.length≤c3:=by omega
              have q2:out.length≤out.length:=by omega
              refine wp_region_noPanic ?_
              refine wp_region_held_drew (S:=fun v=>Below wrd.heap.size wrd v∧(wrd.heap.size≤v.heap.size)∧ ∀b o,b<wrd.heap.size→v.cell? ⟨b,o,none⟩=wrd.cell? ⟨b,o,none⟩) (by kernel_rfl) (HeldB.start wrd) (fun hHeld=> ?_)
              have hB_d:Below wrd.heap.size wrd wrd.drew:=(Below.refl _ _).drew
              generalize wrd.drew=wrdd at hHeld hB_d⊢
              refine tz 0 rfl hHeld ?_
              try simp only [PT]
              refine tz 1 rfl hHeld ?_
              try simp only [PT]
              refine tz 2 rfl hHeld ?_
              try simp only [PT]
              refine tz 4 rfl hHeld ?_
              try simp only [PT]
              refine tz 7 rfl hHeld ?_
              try simp only [PT]
              refine tz 8 rfl hHeld ?_
              try simp only [PT]
              refine tz 9 rfl hHeld ?_
              try simp only [PT]
              have ownD:=own_below ownX hB_d
              have hszX:=hBX.size
              have hszD:=hB_d.size
              skip
              refine wpAnyH_ready (rs:=[3,5]) (by kernel_rfl) (by simp) ?_
              refine ready_at rfl (fun K hK=> ?_) (ready_at rfl (fun K hK=> ?_) AllReadyH.nil)
              · refine step_moreN (by rfl) _ _ 40 (by rfl) (base:=wrd.heap.size) (e:=47) (.agg #[.int .i64 0, .int .i64 0]) 2 16 (by omega) Tryz.underlying40 (by kernel_rfl) (by rfl) (v:= .slice none 0 0) (by rfl) (own_nil _ _ _ _) (by rfl) (by have:=(Rds.of_own (ownD)).part out.length q2;rw [rowCells_take] at this;exact this) (rowCells_one _) (nm:=out.length) (by omega) (by omega) (by omega) (hHeld.2.1) ?_
                intro A4 c4 W7 hown7 hlow7 hkeep7
                refine hK.out _ _ (HeldB.low hHeld hlow7) (fun hHeld=> ?_)
                clear hK K
                try simp only [PT]
                refine rd 5 rfl fun K hK=> ?_
                go_simp
                refine hK.out _ _ (HeldB.alloc hHeld _) (fun hHeld=> ?_)
                clear hK K
                try simp only [PT]
                refine rd 6 rfl fun K hK=> ?_
                refine step_moreN (by rfl) _ _ 40 (by rfl) (base:=wrd.heap.size) (e:=47) (.agg #[.int .i64 0, .int .i64 0]) 2 16 (by omega) Tryz.underlying40 (by kernel_rfl) (by rfl) (v:= .slice A4 out.length c4) (by rfl) (hown7.alloc _) (by rfl) (rds_one W7 #[.int .i64 (d:Int), .int .i64 (a:Int)] 47 2 rfl) (rowCells_one [(d,a)]) (nm:=out.length+1) (by omega) (by omega) (by omega) (hHeld.2.1) ?_
                intro A5 c5 W8 hown8 hlow8 hkeep8
                refine hK.out _ _ (HeldB.low hHeld hlow8) (fun hHeld=> ?_)
                clear hK K
                try simp only [PT]
                refine rd 10 rfl fun K hK=> ?_
                refine step_moreN (by rfl) _ _ 40 (by rfl) (base:=wrd.heap.size) (e:=47) (.agg #[.int .i64 0, .int .i64 0]) 2 16 (by omega) Tryz.underlying40 (by kernel_rfl) (by rfl) (v:= .slice A5 (out.length+1) c5) (by rfl) (hown8) (by rfl) (by have:=(Rds.of_own (own_below ownX hHeld.1)).behind (A':=if c3=out.length then A3 else A3.map (·.add (out.length*2))) out.length 0 q2 (by omega) (fun h=>by first|(exfalso;omega)|(rw [if_neg (by omega)];simp [add_zero_off]));rw [rowCells_drop] at this;exact this) (rowCells_one _) (nm:=out.length+1) (by omega) (by omega) (by omega) (hHeld.2.1) ?_
                intro A6 c6 W9 hown9 hlow9 hkeep9
                refine hK.out _ _ (HeldB.low hHeld hlow9) (fun hHeld=> ?_)
                clear hK K
                try simp only [PT]
                have hfin:=hHeld.1
                refine rd 11 rfl fun K hK=> ?_
                go_simp
                refine hK.out _ _ hHeld (fun hHeld=> ?_)
                clear hK K
                try simp only [PT]
                refine wpAnyH_done (by kernel_rfl) ?_ _
                refine NoPanic.normal ?_
                have HF:Hid (W9.ownsRow w.heap.size 47 2 (.slice A6 (out.length+1) c6) (refFold ts (upto ts d (a+1))).length (rowCells (refFold ts (upto ts d (a+1))))):=Lib.hid (by
                  rw [upto_snoc,refFold_snoc,←Hout.out,refIns_length]
                  unfold refIns
                  rw [Hat.out,rowCells_append,show (d,a)::out.drop out.length=[(d,a)]++out.drop out.length from rfl,rowCells_append,←List.append_assoc]
                  exact own_mono hown9 (by omega))
                have HBF:=Lib.hid (below_step (below_step HBV.out hBX) hfin)
                clear hown9 hlow9 hkeep9 hfin ownX ownD ckX
                go_wp2_with fail
                all_goals
                  go_roundg k2
                  case measure=>omega
                  case rel=>exact ⟨a+1,by first|rfl|(rw [E4.out];rfl),by omega,HF,HBF⟩
              · go_simp
                refine hK.out _ _ (HeldB.alloc hHeld _) (fun hHeld=> ?_)
                clear hK K
                try simp only [PT]
                refine rd 3 rfl fun K hK=> ?_
                refine step_moreN (by rfl) _ _ 40 (by rfl) (base:=wrd.heap.size) (e:=47) (.agg #[.int .i64 0, .int .i64 0]) 2 16 (by omega) Tryz.underlying40 (by kernel_rfl) (by rfl) (v:= .slice none 0 0) (by rfl) (own_nil _ _ _ _) (by rfl) (by have:=(Rds.of_own (ownD.alloc (.cells #[.int .i64 (d:Int), .int .i64 (a:Int)] 47))).part out.length q2;rw [rowCells_take] at this;exact this) (rowCells_one _) (nm:=out.length) (by omega) (by omega) (by omega) (hHeld.2.1) ?_
                intro A4 c4 W7 hown7 hlow7 hkeep7
                refine hK.out _ _ (HeldB.low hHeld hlow7) (fun hHeld=> ?_)
                clear hK K
                try simp only [PT]
                refine rd 6 rfl fun K hK=> ?_
                refine step_moreN (by rfl) _ _ 40 (by rfl) (base:=wrd.heap.size) (e:=47) (.agg #[.int .i64 0, .int .i64 0]) 2 16 (by omega) Tryz.underlying40 (by kernel_rfl) (by rfl) (v:= .slice A4 out.length c4) (by rfl) (hown7) (by rfl) ((rds_one wrdd #[.int .i64 (d:Int), .int .i64 (a:Int)] 47 2 rfl).below (hkeep7 _ (Nat.le_refl _) (by simp [Value.ownBlock]))) (rowCells_one [(d,a)]) (nm:=out.length+1) (by omega) (by omega) (by omega) (hHeld.2.1) ?_
                intro A5 c5 W8 hown8 hlow8 hkeep8
                refine hK.out _ _ (HeldB.low hHeld hlow8) (fun hHeld=> ?_)
                clear hK K
                try simp only [PT]
                refine rd 10 rfl fun K hK=> ?_
                refine step_moreN (by rfl) _ _ 40 (by rfl) (base:=wrd.heap.size) (e:=47) (.agg #[.int .i64 0, .int .i64 0]) 2 16 (by omega) Tryz.underlying40 (by kernel_rfl) (by rfl) (v:= .slice A5 (out.length+1) c5) (by rfl) (hown8) (by rfl) (by have:=(Rds.of_own (own_below ownX hHeld.1)).behind (A':=if c3=out.length then A3 else A3.map (·.add (out.length*2))) out.length 0 q2 (by omega) (fun h=>by first|(exfalso;omega)|(rw [if_neg (by omega)];simp [add_zero_off]));rw [rowCells_drop] at this;exact this) (rowCells_one _) (nm:=out.length+1) (by omega) (by omega) (by omega) (hHeld.2.1) ?_
                intro A6 c6 W9 hown9 hlow9 hkeep9
                refine hK.out _ _ (HeldB.low hHeld hlow9) (fun hHeld=> ?_)
                clear hK K
                try simp only [PT]
                have hfin:=hHeld.1
                refine rd 11 rfl fun K hK=> ?_
                go_simp
                refine hK.out _ _ hHeld (fun hHeld=> ?_)
                clear hK K
                try simp only [PT]
                refine wpAnyH_done (by kernel_rfl) ?_ _
                refine NoPanic.normal ?_
                have HF:Hid (W9.ownsRow w.heap.size 47 2 (.slice A6 (out.length+1) c6) (refFold ts (upto ts d (a+1))).length (rowCells (refFold ts (upto ts d (a+1))))):=Lib.hid (by
                  rw [upto_snoc,refFold_snoc,←Hout.out,refIns_length]
                  unfold refIns
                  rw [Hat.out,rowCells_append,show (d,a)::out.drop out.length=[(d,a)]++out.drop out.length from rfl,rowCells_append,←List.append_assoc]
                  exact own_mono hown9 (by omega))
                have HBF:=Lib.hid (below_step (below_step HBV.out hBX) hfin)
                clear hown9 hlow9 hkeep9 hfin ownX ownD ckX
                go_wp2_with fail
                all_goals
                  go_roundg k2
                  case measure=>omega
                  case rel=>exact ⟨a+1,by first|rfl|(rw [E4.out];rfl),by omega,HF,HBF⟩
        · obtain rfl:a=t.length+1:=by omega
          have m1:decide (((t.length+1:Nat):Int)≤(t.length:Int))=false:=by simp;omega
          have hown:=Hown.out
          rw [←hgd,upto_next] at hown
          have HO:=Lib.hid hown;clear hown Hown
          go_wp2_with fail
          go_roundg k
          case measure=>omega
          case rel=>exact ⟨d+1,by first|rfl|(rw [E3.out];rfl),by omega,HO,HB⟩
    · have hi:d=ts.length:=by omega
      have n1:decide ((d:Int)<(ts.length:Int))=false:=by simpa using hlt
      have hown:=Hown.out
      rw [hi] at hown
      have HO:=Lib.hid hown;clear hown Hown
      go_wp2_with fail
      go_ret
      exact ⟨u3,rfl,HO.out,HB.out⟩
end Go.Proofs.YtdjpjmkpndmhaaaGreat
namespace Go.Proofs.YtdjpjmkpndmhaaaGreat
open Go.RowKit Go.Sort Go.Shelf
attribute [local go_sem ↓] Go.wp_at_zero Go.wp_at_succ
attribute [local go_sem] str_len
theorem sortK_below {α:Type} [Inhabited α] (enc:α→List Value) (k:Nat) {W:World} {base g m:Nat} (d:Array α) (os:Array Obj) (hb:base≤g) (hW:base≤W.heap.size):Below base W (sortWorldK enc k W g 0 m d os):=by
  unfold sortWorldK putRowK putRow mapBlock grow Sort.ahead
  refine ⟨rfl,rfl,rfl,by simp,fun n hn=> ?_⟩
  show (W.heap.modify g _++os)[n]? =W.heap[n]?
  rw [Array.getElem?_append_left (by rw [Array.size_modify];omega),Array.getElem?_modify,if_neg (by omega)]
theorem sortK_cells {α : Type} [Inhabited α] (enc : α → List Value) (k : Nat) {W : World} {g m : Nat} {cur : Array Value} {T : TypeId} (hg : W.heap[g]? = some (.cells cur T (0, 0))) (d d' : Array α) (os : Array Obj) (hH : HoldsK enc k W g 0 d) (hs : d'.size = d.size) :
    ∃cs,(sortWorldK enc k W g 0 m d' os).heap[g]? =some (.cells cs T (0,0))∧ ∀j,j<d'.size*k→cs[j]? =some ((flatK enc k d')[j]!):=by
  have hlt:=lt_of hg
  have h0:(sortWorldK enc k W g 0 m d' os).heap[g]? =some (.cells (putCells id 0 (flatK enc k d') cur) T (0,0)):=by
    unfold sortWorldK putRowK putRow mapBlock grow Sort.ahead
    show (W.heap.modify g _++os)[g]? =_
    rw [Array.getElem?_append_left (by rw [Array.size_modify];exact hlt),Array.getElem?_modify,if_pos rfl,hg];rfl
  refine ⟨_,h0,fun j hj=> ?_⟩
  have hc:=(hH j (by rw [size_flatK,←hs];exact hj)).1
  rw [Nat.zero_add,cells_of hg] at hc
  have hsz:j<cur.size:=by
    rcases Nat.lt_or_ge j cur.size with h|h
    · exact h
    · rw [Array.getElem?_eq_none h] at hc;cases hc
  unfold putCells
  rw [Array.getElem?_mapIdx,Array.getElem?_eq_getElem hsz]
  simp [size_flatK,hj]
def encR {ts:List (List UInt8)} (x:RowT ts):List Value:=[.int .i64 (x.1.1:Int), .int .i64 (x.1.2:Int)]
theorem flat_rows {ts:List (List UInt8)} (d:List (RowT ts)) [Inhabited (RowT ts)] (j:Nat) (hj:j<d.length*2):some ((flatK (encR (ts:=ts)) 2 d.toArray)[j]!)=(rowCells (d.map (·.1)))[j]? :=by
  rw [get_flatK _ _ _ _ (by simpa using hj)]
  have hi:j/2<d.length:=by omega
  have hx:(d.map (·.1))[j/2]? =some (d[j/2]).1:=by rw [List.getElem?_map,List.getElem?_eq_getElem hi];rfl
  have hd:d.toArray[j/2]! =d[j/2]:=by simp [hi]
  rw [hd]
  obtain ⟨a,b⟩:=rowCells_at hx
  rcases Nat.mod_two_eq_zero_or_one j with h|h
  · rw [h,show (encR d[j/2])[0]! = .int .i64 ((d[j/2]).1.1:Int) from rfl,←a];congr 1;omega
  · rw [h,show (encR d[j/2])[1]! = .int .i64 ((d[j/2]).1.2:Int) from rfl,←b];congr 1;omega
theorem swoR (ts:List (List UInt8)):SWO (ltOf (cmpR ts)) where
  irrefl x:=by unfold ltOf;rw [lt_cmpR];exact rl_irr ts x.1
  trans x y z h1 h2:=by unfold ltOf at*;rw [lt_cmpR] at*;exact rl_trans h1 h2
  ntrans x y z h1 h2:=by
    unfold ltOf at*;rw [lt_cmpR] at*
    cases h:refLess ts x.1 z.1 with
    | false=>rfl
    | true=>
      cases h3:refLess ts y.1 x.1 with
      | true=>rw [rl_trans h3 h] at h2;cases h2
      | false=>
        have e:=rl_total x.2 y.2 h1 h3
        rw [e,h2] at h;cases h
theorem totR (ts:List (List UInt8)) (x y:RowT ts) (h1:ltOf (cmpR ts) x y=false) (h2:ltOf (cmpR ts) y x=false):x=y:=by
  unfold ltOf at*;rw [lt_cmpR] at*
  exact Subtype.ext (rl_total x.2 y.2 h1 h2)
theorem merge_all (ts : List (List UInt8)) (h : ∀ x, x ∈ upto ts ts.length 0 → RowIn ts x) :
    ((rowsT ts (upto ts ts.length 0) h).mergeSort fun x y=> !ltOf (cmpR ts) y x).map (·.1)=refFold ts (upto ts ts.length 0):=by
  have hp:=List.mergeSort_perm (rowsT ts (upto ts ts.length 0) h) fun x y=> !ltOf (cmpR ts) y x
  have hs:=List.pairwise_mergeSort (le:=fun x y=> !ltOf (cmpR ts) y x) (fun a b c h1 h2=>by
    simp only [Bool.not_eq_true',Bool.not_eq_eq_eq_not,Bool.not_true] at*
    exact (swoR ts).ntrans c b a h2 h1) (fun a b=>by
    cases h1:ltOf (cmpR ts) b a with
    | false=>rfl
    | true=>
      have:ltOf (cmpR ts) a b=false:=by unfold ltOf at*;rw [lt_cmpR] at*;exact rl_asymm h1
      rw [this];rfl) (rowsT ts (upto ts ts.length 0) h)
  generalize (rowsT ts (upto ts ts.length 0) h).mergeSort (fun x y=> !ltOf (cmpR ts) y x)=M at hp hs
  have hpm:=hp.map (·.1)
  rw [rowsT_val] at hpm
  have hn:(M.map (·.1)).Nodup:=hpm.nodup_iff.2 (upto_nodup ts _ _)
  refine srt_unique (ts:=ts) ?_ (all_sorted ts) (hpm.trans (all_perm ts).symm)
  refine List.pairwise_map.2 ?_
  have hnd:=List.pairwise_map.1 hn
  refine hs.imp₂ ?_ hnd
  intro a b h1 h2
  simp only [Bool.not_eq_true',Bool.not_eq_eq_eq_not,Bool.not_true] at h1
  unfold ltOf at h1
  rw [lt_cmpR] at h1
  cases h3:refLess ts a.1 b.1 with
  | true=>rfl
  | false=>exact absurd (rl_total a.2 b.2 h3 h1) h2
theorem right_gives (W:World) (t:List UInt8):FnGives Tryz.prog 123 #[] #[strOf t] (.bool (!decide (t.length≤40))) W:=by
  unfold FnGives
  show Calls Tryz.prog 123 #[strOf t] W _
  have h:=str_len t
  by_cases h4:t.length≤40
  · have n1:(t.length:Int)≤40:=by omega
    rw [decide_eq_true h4]
    go_enter Tryz.func123,Tryz.ntmps123
    go_wp2
    go_ret
    exact ⟨rfl,0,rfl⟩
  · have n1: ¬(t.length:Int)≤40:=by omega
    rw [decide_eq_false h4]
    go_enter Tryz.func123,Tryz.ntmps123
    go_wp2
    go_ret
    exact ⟨rfl,0,rfl⟩
theorem right_eq (ts:List (List UInt8)):refRight ts=(decide (ts.length≤10)&& !ts.any fun t=> !decide (t.length≤40)):=by
  unfold refRight
  rw [Bool.and_comm]
  congr 1
  induction ts with
  | nil=>rfl
  | cons t ts ih=>rw [List.all_cons,List.any_cons,ih,Bool.not_or,Bool.not_not]
set_option maxRecDepth 100000 in
set_option maxHeartbeats 2000000 in
theorem rowsRight_calls (v : Value) (ts : List (List UInt8)) (hn : ts.length ≤ 50000) (w : World) (h : Rk w 1 v ts.length (ts.map strOf)) :
    Calls Tryz.prog 68 #[v] w fun e w'=>e= .returned (.bool (refRight ts))∧Below w.heap.size w w':=by
  rw [right_eq]
  have eg: ∀args w,(callFunc 123 args).run Tryz.prog w= .ok (.enter 123 args) w:=enters_of Tryz.func123 (by kernel_rfl) rfl
  obtain ⟨h1,A,cap,rfl,h2⟩:=h
  have hcon:Calls Tryz.prog 122 #[.slice A ts.length cap, .func (.func 123) #[] #[]] w fun e w'=>e= .returned (.bool (ts.any fun t=> !decide (t.length≤40)))∧Below w.heap.size w w':=by
    by_cases h0:0<ts.length
    · obtain ⟨g,cs,T,rfl,hg,hc⟩:=h2 h0
      have hcon:=AnyE.slices_ContainsFunc Tryz.layHasStr strOf (fun t=> !decide (t.length≤40)) 123 #[] eg g 0 ts.length cap ts w (fun W t _=>right_gives W t) (Nat.le_refl _) (by omega) (fun j hj=>by
        rw [Nat.zero_add,cells_of hg,hc j (by omega),List.getElem?_map,List.getElem?_eq_getElem hj,getElem!_pos ts j hj];rfl)
      refine Calls.mono hcon ?_
      rintro e w' ⟨rfl,q,rfl⟩
      rw [List.take_length]
      exact ⟨rfl,below_drewN (Below.refl _ _) q⟩
    · have hz:ts=[]:=List.length_eq_zero_iff.1 (by omega)
      subst hz
      have hcon:=AnyE.slices_ContainsFunc_empty Tryz.layHasStr A cap (.func (.func 123) #[] #[]) w
      refine Calls.mono hcon ?_
      rintro e w' ⟨rfl,rfl⟩
      exact ⟨rfl,Below.refl _ _⟩
  clear h1 h2 eg
  generalize (ts.any fun t=> !decide (t.length≤40))=r at hcon⊢
  by_cases h10:ts.length≤10
  · have n1:(ts.length:Int)≤10:=by omega
    rw [decide_eq_true h10]
    go_enter Tryz.func68,Tryz.ntmps68
    cases r with
    | true=>
      go_wp2_with (go_at_call 122;refine hcon.mono ?_;rintro e w' ⟨rfl,hb⟩)
      go_ret
      exact ⟨rfl,hb⟩
    | false=>
      go_wp2_with (go_at_call 122;refine hcon.mono ?_;rintro e w' ⟨rfl,hb⟩)
      go_ret
      exact ⟨rfl,hb⟩
  · have n1: ¬(ts.length:Int)≤10:=by omega
    rw [decide_eq_false h10]
    go_enter Tryz.func68,Tryz.ntmps68
    go_wp2_with fail
    go_ret
    exact ⟨rfl,Below.refl _ _⟩
end Go.Proofs.YtdjpjmkpndmhaaaGreat
namespace Go.Proofs.YtdjpjmkpndmhaaaGreat
open Go.RowKit Go.Sort Go.Shelf
attribute [local go_sem ↓] Go.wp_at_zero Go.wp_at_succ
attribute [local go_sem] str_len
theorem upto_row (ts:List (List UInt8)) (d a:Nat) (hd:d<ts.length) (ha:a≤(ts.getD d []).length):(upto ts d a).length≤500→(upto ts d (a+1)).length=(upto ts d a).length+1:=by
  intro _;rw [upto_snoc];simp
theorem sort_calls {ts : List (List UInt8)} (hts : ∀ t, t ∈ ts → t.length ≤ 50000) {v : Value} {b0 bl g cap : Nat} {cur : Array Value} {W0 W : World} {T : TypeId} (hb : W0.heap.size ≤ g) (hB : Below W0.heap.size W0 W)
    (kl:W0.heap[bl]? =some (.cells #[v] T (0,0))) (hT:T=42) (hK:Rk W0 1 v ts.length (ts.map strOf)) (hg:W.heap[g]? =some (.cells cur 47 (0,0))) (hl:0<(upto ts ts.length 0).length) (hl5:(upto ts ts.length 0).length≤500)
    (hc: ∀j,j<(upto ts ts.length 0).length*2→W.cell? ⟨g,j,none⟩=(rowCells (upto ts ts.length 0))[j]?):
    Calls Tryz.prog 119 #[.slice (some ⟨g,0,none⟩) (upto ts ts.length 0).length cap, .func (.func 120) #[] #[.pointer (some ⟨bl,0,none⟩)]] W fun e w'=>
      e= .returned (.tuple #[])∧Below W0.heap.size W w'∧ ∃cs,w'.heap[g]? =some (.cells cs 47 (0,0))∧ ∀j,j<(upto ts ts.length 0).length*2→cs[j]? =(rowCells (refFold ts (upto ts ts.length 0)))[j]? :=by
  subst hT
  have hin: ∀x,x∈upto ts ts.length 0→RowIn ts x:=fun x h=>upto_in h
  obtain ⟨x0,hx0⟩: ∃x,(upto ts ts.length 0)[0]? =some x:=⟨_,List.getElem?_eq_getElem hl⟩
  haveI:Inhabited (RowT ts):=⟨⟨x0,hin x0 (List.mem_of_getElem? hx0)⟩⟩
  have eg: ∀args w,(callFunc 120 args).run Tryz.prog w= .ok (.enter 120 args) w:=enters_of Tryz.func120 (by kernel_rfl) rfl
  have hlt:=lt_of hg
  have hW:W0.heap.size≤W.heap.size:=hB.size
  have hlen:(rowsT ts (upto ts ts.length 0) hin).length=(upto ts ts.length 0).length:=by unfold rowsT;simp
  have hH:HoldsK (encR (ts:=ts)) 2 W g 0 (rowsT ts (upto ts ts.length 0) hin).toArray:=fun j hj=>by
    rw [size_flatK,List.size_toArray,hlen] at hj
    rw [Nat.zero_add]
    refine ⟨?_,free_of hg _⟩
    have:=flat_rows (rowsT ts (upto ts ts.length 0) hin) j (by rw [hlen];exact hj)
    rw [rowsT_val] at this
    rw [hc j hj,←this];rfl
  have hcmp:CmpLays Tryz.prog 120 #[.pointer (some ⟨bl,0,none⟩)] (encR (ts:=ts)) 2 (cmpR ts) g 0 (rowsT ts (upto ts ts.length 0) hin).toArray.size W:=fun m os dk _ x y=>by
    have hBs:Below W0.heap.size W0 (sortWorldK encR 2 W g 0 m dk os):=hB.trans (sortK_below encR 2 dk os hb hW)
    exact (cmpR_calls v ts hts x y bl _ (keep_blk hBs kl) (hK.below hBs)).mono fun e w' h=>⟨h.1,h.2⟩
  have hcon:=AnyQ.slices_SortFunc_total Tryz.laySort 2 Tryz.isAgg47 Tryz.sizeOf47 (encR (ts:=ts)) (fun _=>rfl) (fun x u hu=>by simp [encR] at hu;rcases hu with rfl|rfl<;>rfl) (cmpR ts) (swoR ts) 120 #[.pointer (some ⟨bl,0,none⟩)] g 0 cap (rowsT ts (upto ts ts.length 0) hin).toArray W eg hcmp hH hlt (by rw [List.size_toArray,hlen];omega) (totR ts)
  rw [List.size_toArray,hlen] at hcon
  refine Calls.mono hcon ?_
  rintro e w' ⟨rfl,n,os,rfl⟩
  refine ⟨rfl,sortK_below _ _ _ _ hb hW,?_⟩
  obtain ⟨cs,h1,h2⟩:=sortK_cells (encR (ts:=ts)) 2 (m:=n) hg (rowsT ts (upto ts ts.length 0) hin).toArray ((rowsT ts (upto ts ts.length 0) hin).toArray.toList.mergeSort fun x y=> !ltOf (cmpR ts) y x).toArray os hH (by simp)
  refine ⟨cs,h1,fun j hj=> ?_⟩
  have hml:((rowsT ts (upto ts ts.length 0) hin).mergeSort fun x y=> !ltOf (cmpR ts) y x).length=(upto ts ts.length 0).length:=by rw [List.length_mergeSort,hlen]
  have h3:=flat_rows ((rowsT ts (upto ts ts.length 0) hin).mergeSort fun x y=> !ltOf (cmpR ts) y x) j (by rw [hml];exact hj)
  rw [merge_all] at h3
  rw [←h3]
  exact h2 j (by simp only [List.size_toArray];rw [hml];exact hj)
theorem sort_none (A:Option Addr) (cap:Nat) (fv:Value) (w:World):Calls Tryz.prog 119 #[.slice A 0 cap,fv] w fun e w'=>e= .returned (.tuple #[])∧w'=w:=
  AnyF.slices_SortFunc_none Tryz.laySort A cap fv w
set_option maxRecDepth 100000 in
set_option maxHeartbeats 8000000 in
theorem rowsSorted_walk (v : Value) (ts : List (List UInt8)) (hrt : refRight ts = true) (w : World) (h : Rk w 1 v ts.length (ts.map strOf)) :
    Calls Tryz.prog 67 #[v] w fun e w'=> ∃v',e= .returned v'∧Rk w' 2 v' (refFold ts (upto ts ts.length 0)).length (rowCells (refFold ts (upto ts ts.length 0)))∧Below w.heap.size w w':=by
  obtain ⟨hn10,h40⟩:=right_len hrt
  have H40:=Lib.hid h40;clear h40
  have HK:=Lib.hid h
  obtain ⟨h1,A,cap,rfl,h2⟩:=h
  clear h1 h2
  go_enter Tryz.func67,Tryz.ntmps67
  go_wp2_with fail
  refine calls_gen fun V0 hV_V0=> ?_
  have n_kl:=hbk hV_V0 (w.heap.size)
  simp (maxDischargeDepth:=9) only [BK,not_false_eq_true,reduceCtorEq] at n_kl
  have hB:Below w.heap.size w V0:=nB hV_V0
  have z_V0:=zS hV_V0
  clear hV_V0
  have kl:=n_kl;clear n_kl
  obtain ⟨c_kl,f_kl,l_kl_V0⟩:=f3 kl
  refine (rowsRight_calls _ ts (by omega) _ (HK.out.below hB)).mono ?_
  rintro e_W0 W0 ⟨rfl,hb_W0⟩
  replace hB:=below_step hB hb_W0
  replace kl:=keep_blk hb_W0 kl
  have z_W0:=hb_W0.size
  clear hb_W0 c_kl f_kl
  obtain ⟨c_kl,f_kl,l_kl_W0⟩:=f3 kl
  rw [hrt]
  have HB0:=Lib.hid hB;have KL:=Lib.hid kl;have HK0:=Lib.hid (HK.out.below hB)
  have hz0:=hB.size
  clear hB
  generalize hkb:w.heap.size=kb at*
  go_wp2_with fail
  go_loopg [3,12] ts.length (fun k p q wr=> ∃d:Nat,q= .int .i64 (d:Int)∧d+k=ts.length∧Hid (wr.ownsRow W0.heap.size 47 2 p (upto ts d 0).length (rowCells (upto ts d 0)))∧Hid (Below W0.heap.size W0 wr))
  case atStart=>exact ⟨0,rfl,by omega,Lib.hid (own_nil _ _ _ _),Lib.hid (Below.refl _ _)⟩
  case round=>
    obtain ⟨d,rfl,hk,Hown,HB⟩:=hrel
    by_cases hlt:d<ts.length
    · obtain ⟨k,rfl⟩: ∃k,gk=k+1:=⟨gk - 1,by omega⟩
      obtain ⟨t,ht⟩:=at_some hlt
      have n1:decide ((d:Int)<(ts.length:Int))=true:=by simpa using hlt
      have n2:(d:Int)<(ts.length:Int):=by omega
      have E3:=Lib.hid (step_wrap d 10 (by omega) (by omega))
      have hgd:=getD_at ht
      have hlen:=H40.out d
      rw [hgd] at hlen
      obtain ⟨-,A',cap',hv,h2⟩:=HK0.out.below HB.out
      obtain ⟨g,cs,T,rfl,kg,hcs⟩:=h2 (by omega)
      obtain ⟨rfl, -,rfl⟩:=Value.slice.inj hv
      have hci:cs[d]? =some (strOf t):=by rw [hcs d (by omega),List.getElem?_map,ht];rfl
      clear h2 hv hcs
      have e4:wrap64 ((t.length:Int)+1)=(t.length:Int)+1:=step_wrap t.length 40 (by omega) (by omega)
      obtain ⟨c_kg,f_kg,l_kg_wr⟩:=f3 kg
      go_wp2_with fail
      go_loopg [3,20] (t.length+1) (fun k2 p q wr=> ∃a:Nat,q= .int .i64 (a:Int)∧a+k2=t.length+1∧Hid (wr.ownsRow W0.heap.size 47 2 p (upto ts d a).length (rowCells (upto ts d a)))∧Hid (Below W0.heap.size W0 wr))
      case atStart=>exact ⟨0,rfl,by omega,Hown,HB⟩
      case round=>
        clear Hown HB kg c_kg f_kg l_kg_wr hci
        obtain ⟨a,rfl,hk2,Hown,HB⟩:=hrel
        by_cases hla:a≤t.length
        · obtain ⟨k2,rfl⟩: ∃k,gk=k+1:=⟨gk - 1,by omega⟩
          have m1:decide ((a:Int)<(t.length:Int)+1)=true:=by simp;omega
          have E4:=Lib.hid (step_wrap a 40 (by omega) (by omega))
          have hw0:=HB.out.size
          have hol:(upto ts d a).length≤500:=by have:=upto_length H40.out d a;omega
          have hown:=Hown.out
          go_wp2_with (at_builtin;refine wpList_push _ (by rfl) _ _ 40 (by rfl) (W0.heap.size) 47 (.agg #[.int .i64 0, .int .i64 0]) 2 16 Tryz.underlying40 (by kernel_rfl) (by rfl) (by omega) _ _ _ (by rfl) hown _ (by rfl) (by rfl) (by simp [Value.oneCell']) (by unfold maxLen;omega) (by omega) (by omega) ?_;intro g_W c_W W3 hown_W hlow_W hlt_W)
          go_wp2_with fail
          go_roundg k2
          case measure=>omega
          case rel=>
            refine ⟨a+1,by first|rfl|(rw [E4.out];rfl),by omega,Lib.hid ?_,Lib.hid (low_step HB.out (by omega) hlow_W)⟩
            rw [upto_snoc,rowCells_append,List.length_append]
            exact hown_W
        · have m1:decide ((a:Int)<(t.length:Int)+1)=false:=by simp;omega
          obtain rfl:a=t.length+1:=by omega
          have Hown':=Hown
          rw [show t.length=(ts.getD d []).length by rw [hgd],upto_next] at Hown'
          go_wp2_with fail
          go_roundg k
          case measure=>omega
          case rel=>exact ⟨d+1,by first|rfl|(rw [E3.out];rfl),by omega,Hown',HB⟩
    · have n1:decide ((d:Int)<(ts.length:Int))=false:=by simpa using hlt
      obtain rfl:d=ts.length:=by omega
      have hol:(upto ts ts.length 0).length≤500:=by have:=upto_length H40.out ts.length 0;omega
      have hw0:=HB.out.size
      have hfl:=refFold_length ts (upto ts ts.length 0)
      have hts: ∀t,t∈ts→t.length≤50000:=fun t ht=>by
        obtain ⟨i,hi⟩:=List.getElem?_of_mem ht
        have:=H40.out i
        rw [getD_at hi] at this;omega
      have HT:=Lib.hid hts;clear hts
      obtain ⟨-,A3,c3,rfl,hx3⟩:=Rx.of_own Hown.out
      by_cases h0:0<(upto ts ts.length 0).length
      · obtain ⟨g3,hv3,hg3,hc3⟩:=hx3 h0
        rcases Hown.out.2 with ⟨-,hz⟩|⟨g4,cap4,cur4,hv4,hg4,hc4, -, -, -, -⟩
        · omega
        · have e43 : g4 = g3 := by
            have:=(Value.slice.inj hv4).1
            rw [hv3] at this
            simp at this
            exact this.symm
          subst e43
          have hsort:=Lib.hid (sort_calls (cap:=c3) (b0:=0) HT.out hg4 HB.out KL.out rfl HK0.out hc4 h0 hol hc3)
          subst hv3
          go_wp2_with (go_at_call 119;refine hsort.out.mono ?_;rintro e w' ⟨rfl,hbs,cs,hcs,hrow⟩)
          go_ret
          refine ⟨_,rfl,⟨?_,_,_,by rw [hfl];rfl,fun _=>⟨_,_,_,rfl,hcs,fun j hj=> ?_⟩⟩,?_⟩
          · rw [rowCells_length]
          · exact hrow j (by rw [hfl] at hj;exact hj)
          · have:=HB.out.trans hbs
            have hb0:Below w.heap.size w W0:=by rw [hkb];exact HB0.out
            exact below_step hb0 this
      · have hz:(upto ts ts.length 0).length=0:=by omega
        have hsort:Calls Tryz.prog 119 #[.slice A3 (upto ts ts.length 0).length c3, .func (.func 120) #[] #[.pointer (some ⟨kb,0,none⟩)]] wr fun e w'=>e= .returned (.tuple #[])∧w'=wr:=by
          rw [hz];exact sort_none A3 c3 _ wr
        have hb0:Below w.heap.size w wr:=below_step (by rw [hkb];exact HB0.out) HB.out
        have HS:=Lib.hid hsort
        have HZ:=Lib.hid hz
        clear hsort hz h0
        go_wp2_with (go_at_call 119;refine HS.out.mono ?_;rintro e w' ⟨rfl,rfl⟩)
        go_ret
        refine ⟨_,rfl,⟨by rw [rowCells_length],_,_,by rw [hfl];rfl,fun h=>absurd h (by rw [hfl,HZ.out];omega)⟩,hb0⟩
set_option maxRecDepth 100000 in
set_option maxHeartbeats 2000000 in
theorem rowsSorted_calls (v : Value) (ts : List (List UInt8)) (hn : ts.length ≤ 50000) (w : World) (h : Rk w 1 v ts.length (ts.map strOf)) :
    Calls Tryz.prog 67 #[v] w fun e w'=> ∃v',e= .returned v'∧Rk w' 2 v' (refSorted ts).length (rowCells (refSorted ts))∧Below w.heap.size w w':=by
  by_cases hrt:refRight ts=true
  · have:=rowsSorted_walk v ts hrt w h
    unfold refSorted
    rw [if_pos hrt];exact this
  · have hr0:refRight ts=false:=by simpa using hrt
    have hs:refSorted ts=[]:=by unfold refSorted;rw [if_neg hrt]
    rw [hs]
    have HK:=Lib.hid h
    obtain ⟨h1,A,cap,rfl,h2⟩:=h
    clear h1 h2
    go_enter Tryz.func67,Tryz.ntmps67
    go_wp2_with fail
    refine calls_gen fun V0 hV_V0=> ?_
    have n_kl:=hbk hV_V0 (w.heap.size)
    simp (maxDischargeDepth:=9) only [BK,not_false_eq_true,reduceCtorEq] at n_kl
    have hB:Below w.heap.size w V0:=nB hV_V0
    have z_V0:=zS hV_V0
    clear hV_V0
    have kl:=n_kl;clear n_kl
    obtain ⟨c_kl,f_kl,l_kl_V0⟩:=f3 kl
    refine (rowsRight_calls _ ts hn _ (HK.out.below hB)).mono ?_
    rintro e_W0 W0 ⟨rfl,hb_W0⟩
    replace hB:=below_step hB hb_W0
    replace kl:=keep_blk hb_W0 kl
    have z_W0:=hb_W0.size
    clear hb_W0 c_kl f_kl
    obtain ⟨c_kl,f_kl,l_kl_W0⟩:=f3 kl
    rw [hr0]
    go_wp2_with fail
    go_ret
    exact ⟨_,rfl,⟨rfl,none,0,rfl,fun h=>absurd h (by simp)⟩,hB⟩
end Go.Proofs.YtdjpjmkpndmhaaaGreat
namespace Go.Proofs.YtdjpjmkpndmhaaaGreat
open Go.RowKit
attribute [local go_sem ↓] Go.wp_at_zero Go.wp_at_succ
attribute [local go_sem] str_len
theorem sorted_calls (v : Value) (ts : List (List UInt8)) (hn : ts.length ≤ 50000) (w : World) (h : Rk w 1 v ts.length (ts.map strOf)) :
    Calls Tryz.prog 25 #[v] w fun e w'=> ∃v',e= .returned v'∧w'.ownsRow w.heap.size 47 2 v' (refSorted ts).length (rowCells (refSorted ts))∧Below w.heap.size w w':=by
  unfold refSorted
  cases hrt:refRight ts with
  | true=>rw [if_pos rfl];exact sorted_walk v ts hrt w h
  | false=>
    rw [if_neg (by decide)]
    have HK:=Lib.hid h
    obtain ⟨h1,A,cap,rfl,h2⟩:=h
    clear h1 h2
    go_enter Tryz.func25,Tryz.ntmps25
    go_wp2_with fail
    refine calls_gen fun V0 hV_V0=> ?_
    have hB:Below w.heap.size w V0:=nB hV_V0
    have z_V0:=zS hV_V0
    clear hV_V0
    refine (rright_calls _ ts hn _ (HK.out.below hB)).mono ?_
    rintro e_W0 W0 ⟨rfl,hb_W0⟩
    replace hB:=below_step hB hb_W0
    have z_W0:=hb_W0.size
    clear hb_W0
    rw [hrt]
    go_wp2_with fail
    go_ret
    exact ⟨_,rfl,own_nil _ _ _ _,hB⟩
def intCells (l:List Int):List Value:=l.map fun x=> .int .i64 x
theorem step_id (j n:Nat) (h:j≤n) (hn:n≤50000):wrap64 (j:Int)=(j:Int):=IntWalk.wrap64_in _ (by omega)
set_option maxRecDepth 100000 in
set_option maxHeartbeats 4000000 in
theorem symbols_calls (v : Value) (ts : List (List UInt8)) (hn : ts.length ≤ 50000) (hn2 : ∀ t, t ∈ ts → t.length ≤ 50000) (w : World) (h : Rk w 1 v ts.length (ts.map strOf)) :
    Calls Tryz.prog 39 #[v] w fun e w'=> ∃v',e= .returned v'∧w'.ownsRow w.heap.size 3 1 v' (refSorted ts).length (intCells ((refSorted ts).map (symOf ts)))∧Below w.heap.size w w':=by
  obtain ⟨R,hR⟩: ∃R,R=refSorted ts:=⟨_,rfl⟩
  rw [←hR]
  have HK:=Lib.hid h
  obtain ⟨h1,A,cap,rfl,h2⟩:=h
  have hval: ∀x,x∈R→ ∃t,ts[x.1]? =some t∧x.2≤t.length:=fun x hx=>sorted_valid (hR▸hx)
  have hsm:R.length≤500:=by rw [hR];exact sorted_small ts
  have Hval:=Lib.hid hval;have HR:=Lib.hid hR
  clear h1 h2 hval hR
  go_enter Tryz.func39,Tryz.ntmps39
  go_wp2_with fail
  refine calls_gen fun V0 hV_V0=> ?_
  have hB:Below w.heap.size w V0:=nB hV_V0
  have z_V0:=zS hV_V0
  clear hV_V0
  refine (sorted_calls _ ts hn _ (HK.out.below hB)).mono ?_
  rintro e1 W1 ⟨v1,rfl,hown1,hb1⟩
  have hB1:=below_step hB hb1
  rw [←HR.out] at hown1
  obtain ⟨-,A1,c1,rfl,hx1⟩:=Rx.of_own hown1
  have HX:=Lib.hid (Rk.of_own hown1);have HB1:=Lib.hid hB1
  have hsz1:=hB1.size
  clear hown1 hb1 hB hB1 hx1
  go_wp2_with fail
  go_loopg [4,5] R.length (fun k p q wr=> ∃i:Nat,q= .int .i64 (i:Int)∧i+k=R.length∧Hid (wr.ownsRow W1.heap.size 3 1 p i (intCells ((R.take i).map (symOf ts))))∧Hid (Below W1.heap.size W1 wr))
  case atStart=>exact ⟨0,rfl,by omega,Lib.hid (own_nil _ _ _ _),Lib.hid (Below.refl _ _)⟩
  case round=>
    obtain ⟨i,rfl,hk,Hown,HB⟩:=hrel
    by_cases hlt:i<R.length
    · obtain ⟨k,rfl⟩: ∃k,gk=k+1:=⟨gk - 1,by omega⟩
      obtain ⟨x,hx⟩:=at_some hlt
      obtain ⟨t,ht,hxt⟩:=Hval.out x (List.mem_of_getElem? hx)
      obtain ⟨-,A',cap',hv,h2⟩:=HX.out
      obtain ⟨g1,cs1,T1,rfl,kg1',hcs1⟩:=h2 (by omega)
      have kg1:=keep_blk HB.out kg1'
      have w1a:=cells_of kg1'
      have w1l:=lt_of kg1'
      obtain ⟨rfl, -,rfl⟩:=Value.slice.inj hv
      have c1a:cs1[i*2]? =some (.int .i64 (x.1:Int)):=(hcs1 _ (by omega)).trans (rowCells_at hx).1
      have c1b:cs1[i*2+1]? =some (.int .i64 (x.2:Int)):=(hcs1 _ (by omega)).trans (rowCells_at hx).2
      clear h2 hv hcs1
      have htake:Hid (intCells ((R.take (i+1)).map (symOf ts))=intCells ((R.take i).map (symOf ts))++[.int .i64 (symOf ts x)]):=Lib.hid (by
        unfold intCells
        rw [List.take_succ_eq_append_getElem hlt,List.map_append,List.map_append,(List.getElem_eq_iff hlt).2 hx];rfl)
      have n1:decide ((i:Int)<(R.length:Int))=true:=by simpa using hlt
      have n2:(i:Int)<(R.length:Int):=by omega
      have E3:=Lib.hid (step_wrap i 500 (by omega) (by omega))
      have hw1:=HB.out.size
      by_cases h0:x.2=0
      · have hs:Hid (symOf ts x=0):=Lib.hid (by unfold symOf;rw [if_pos h0])
        have d0:((x.2:Int)==0)=true:=by rw [h0];rfl
        clear h0 hxt
        obtain ⟨c_kg1,f_kg1,l_kg1_wr⟩:=f3 kg1
        go_wp2_with (at_builtin;refine wpList_push _ (by rfl) _ _ 62 (by rfl) (W1.heap.size) 3 (.int .i64 0) 1 8 Tryz.underlying62 (by kernel_rfl) (by rfl) (by omega) _ _ _ (by rfl) Hown.out _ (by rfl) (by rfl) (by simp [Value.oneCell']) (by unfold maxLen;omega) (by omega) (by omega) ?_;intro g_W c_W W5 hown_W hlow_W hlt_W)
        go_wp2_with fail
        go_roundg k
        case measure=>omega
        case rel=>exact ⟨i+1,by first|rfl|(rw [E3.out];rfl),by omega,Lib.hid (by rw [htake.out,hs.out];exact hown_W),Lib.hid (low_step HB.out (Nat.le_refl _) hlow_W)⟩
      · obtain ⟨j,hj⟩: ∃j:Nat,x.2=j+1:=⟨x.2 - 1,by omega⟩
        obtain ⟨b,hb⟩:=at_some (show j<t.length by omega)
        have htl:=hn2 t (List.mem_of_getElem? ht)
        have hs:Hid (symOf ts x=(b.toNat:Int)+1):=Lib.hid (by unfold symOf;rw [if_neg h0,getD_at ht,hj];simp [List.getD,hb])
        have d0:((x.2:Int)==0)=false:=by rw [beq_eq_false_iff_ne];omega
        obtain ⟨hd, -⟩:=List.getElem?_eq_some_iff.1 ht
        obtain ⟨-,A2,cap2,hv2,h3⟩:=HK.out.below HB1.out
        obtain ⟨g2,cs2,T2,rfl,kg2',hcs2⟩:=h3 (by omega)
        have kg2:=keep_blk HB.out kg2'
        have w2a:=cells_of kg2'
        have w2l:=lt_of kg2'
        obtain ⟨rfl, -,rfl⟩:=Value.slice.inj hv2
        have c2a:cs2[x.1]? =some (strOf t):=by rw [hcs2 _ (by omega),List.getElem?_map,ht];rfl
        have n3:(x.1:Int)<(ts.length:Int):=by omega
        have hix:=str_index t j b hb
        have e6:Hid (wrap64 ((x.2:Int) - 1)=(j:Int)):=Lib.hid (by rw [hj,IntWalk.wrap64_in _ (by omega)];omega)
        have hb8:=b.toNat_lt
        have e7:wrap64 ((b.toNat:Int)+1)=(b.toNat:Int)+1:=IntWalk.wrap64_in _ (by omega)
        have E7:=Lib.hid e7;clear e7
        have hxj:(x.2:Int)=(j:Int)+1:=by omega
        rw [hxj] at c1b d0
        have e9:wrap64 (j:Int)=(j:Int):=step_id j t.length (by omega) (by omega)
        have E9:=Lib.hid e9;clear e9
        have E10:=Lib.hid (step_id b.toNat 256 (by omega) (by omega))
        have e8:wrap64 ((j:Int)+1 - 1)=(j:Int):=by rw [show (j:Int)+1 - 1=(j:Int) by omega];exact step_id j t.length (by omega) (by omega)
        clear h0 hxt h3 hv2 hcs2 hb e6 hxj
        obtain ⟨c_kg1,f_kg1,l_kg1_wr⟩:=f3 kg1
        obtain ⟨c_kg2,f_kg2,l_kg2_wr⟩:=f3 kg2
        go_wp2_with fail
        refine wp_region_noPanic ?_
        refine wp_region_held_drew (S:=fun v=>Below W1.heap.size W1 v∧(W1.heap.size≤v.heap.size)∧ ∀b o,b<W1.heap.size→v.cell? ⟨b,o,none⟩=W1.cell? ⟨b,o,none⟩) (by kernel_rfl) (HeldB.of HB.out.drew) (fun hHeld=> ?_)
        have hB_d:Below wr.heap.size wr wr.drew:=(Below.refl _ _).drew
        generalize wr.drew=wrd at hHeld hB_d⊢
        have e9:=E9.out
        have e7:=E7.out
        have e10:wrap64 (b.toNat:Int)=(b.toNat:Int):=E10.out
        refine tz 0 rfl hHeld ?_
        try simp only [PT]
        refine tz 1 rfl hHeld ?_
        try simp only [PT]
        refine tz 2 rfl hHeld ?_
        try simp only [PT]
        refine tz 3 rfl hHeld ?_
        try simp only [PT]
        refine tz 4 rfl hHeld ?_
        try simp only [PT]
        refine tz 5 rfl hHeld ?_
        try simp only [PT]
        refine tz 6 rfl hHeld ?_
        try simp only [PT]
        refine tz 7 rfl hHeld ?_
        try simp only [PT]
        refine tz 8 rfl hHeld ?_
        try simp only [PT]
        refine tz 9 rfl hHeld ?_
        try simp only [PT]
        refine tz 10 rfl hHeld ?_
        try simp only [PT]
        refine tz 11 rfl hHeld ?_
        try simp only [PT]
        refine tz 12 rfl hHeld ?_
        try simp only [PT]
        refine tz 13 rfl hHeld ?_
        try simp only [PT]
        refine tz 14 rfl hHeld ?_
        try simp only [PT]
        refine tz 15 rfl hHeld ?_
        try simp only [PT]
        refine tz 16 rfl hHeld ?_
        try simp only [PT]
        refine tz 17 rfl hHeld ?_
        try simp only [PT]
        simp only [e7]
        clear e7 e8 e9 e10
        refine rd 18 rfl fun K hK=> ?_
        go_simp
        refine hK.out _ _ (HeldB.alloc hHeld _) (fun hHeld=> ?_)
        clear hK K
        try simp only [PT]
        refine rd 19 rfl fun K hK=> ?_
        refine step_moreN (by rfl) _ _ 62 (by rfl) (base:=W1.heap.size) (e:=3) (.int .i64 0) 1 8 (by omega) Tryz.underlying62 (by kernel_rfl) (by rfl) (v:=u4) (by rfl) ((own_below Hown.out hB_d).alloc _) (by rfl) (rds_one wrd #[.int .i64 ((b.toNat:Int)+1)] 3 1 rfl) (by simp [Value.oneCell']) (nm:=i+1) rfl (by omega) (by omega) (by rw [siz_alloc];have:=hB_d.size;omega) ?_
        intro A5 c5 W8 hown8 hlow8 hkeep8
        have HB8:=Lib.hid (low_step (hHeld.1) (Nat.le_refl _) hlow8)
        refine hK.out _ _ (HeldB.of HB8.out) (fun hHeld=> ?_)
        clear hK K
        try simp only [PT]
        refine rd 20 rfl fun K hK=> ?_
        go_simp
        refine hK.out _ _ hHeld (fun hHeld=> ?_)
        clear hK K
        try simp only [PT]
        refine wpAnyH_done (by kernel_rfl) ?_ _
        refine NoPanic.normal ?_
        have HO8:Hid (W8.ownsRow W1.heap.size 3 1 (.slice A5 (i+1) c5) (i+1) (intCells ((R.take (i+1)).map (symOf ts)))):=Lib.hid (by rw [htake.out,hs.out];exact hown8)
        clear hown8 hlow8 hkeep8 w1a w2a hHeld
        go_wp2_with fail
        go_roundg k
        case measure=>omega
        case rel=>exact ⟨i+1,by first|rfl|(rw [E3.out];rfl),by omega,HO8,HB8⟩
    · have hi:i=R.length:=by omega
      have n1:decide ((i:Int)<(R.length:Int))=false:=by simpa using hlt
      have hown:=Hown.out
      rw [hi,List.take_length] at hown
      have HO:=Lib.hid (own_mono hown hsz1);clear hown Hown
      have HBF:=Lib.hid (below_step HB1.out HB.out)
      go_wp2_with fail
      go_ret
      exact ⟨u4,rfl,HO.out,HBF.out⟩
end Go.Proofs.YtdjpjmkpndmhaaaGreat
namespace Go.Proofs.YtdjpjmkpndmhaaaGreat
open Go.RowKit
attribute [local go_sem ↓] Go.wp_at_zero Go.wp_at_succ
theorem symof_calls (b:UInt8) (w:World):Calls Tryz.prog 124 #[.int .u8 (b.toNat:Int)] w fun e w'=>e= .returned (.int .i64 ((b.toNat:Int)+1))∧Below w.heap.size w w':=by
  have hb:=b.toNat_lt
  have e1:wrap64 ((b.toNat:Int)+1)=(b.toNat:Int)+1:=IntWalk.wrap64_in _ (by omega)
  have e2:wrap64 (b.toNat:Int)=(b.toNat:Int):=IntWalk.wrap64_in _ (by omega)
  go_enter Tryz.func124,Tryz.ntmps124
  go_wp2_with fail
  go_ret
  exact ⟨rfl,Below.refl _ _⟩
section
attribute [local go_sem] str_len
set_option maxRecDepth 100000 in
set_option maxHeartbeats 4000000 in
theorem rowsSymbols_calls (v : Value) (ts : List (List UInt8)) (hn : ts.length ≤ 50000) (hn2 : ∀ t, t ∈ ts → t.length ≤ 50000) (w : World) (h : Rk w 1 v ts.length (ts.map strOf)) :
    Calls Tryz.prog 73 #[v] w fun e w'=> ∃v',e= .returned v'∧w'.ownsRow w.heap.size 3 1 v' (refSorted ts).length (intCells ((refSorted ts).map (symOf ts)))∧Below w.heap.size w w':=by
  obtain ⟨R,hR⟩: ∃R,R=refSorted ts:=⟨_,rfl⟩
  rw [←hR]
  have HK:=Lib.hid h
  obtain ⟨h1,A,cap,rfl,h2⟩:=h
  have hval: ∀x,x∈R→ ∃t,ts[x.1]? =some t∧x.2≤t.length:=fun x hx=>sorted_valid (hR▸hx)
  have hsm:R.length≤500:=by rw [hR];exact sorted_small ts
  have Hval:=Lib.hid hval;have HR:=Lib.hid hR
  clear h1 h2 hval hR
  go_enter Tryz.func73,Tryz.ntmps73
  go_wp2_with fail
  refine calls_gen fun V0 hV_V0=> ?_
  have hB:Below w.heap.size w V0:=nB hV_V0
  have z_V0:=zS hV_V0
  clear hV_V0
  refine (rowsSorted_calls _ ts hn _ (HK.out.below hB)).mono ?_
  rintro e1 W1 ⟨v1,rfl,hown1,hb1⟩
  have hB1:=below_step hB hb1
  rw [←HR.out] at hown1
  have HX:=Lib.hid hown1;have HB1:=Lib.hid hB1
  obtain ⟨-,A1,c1,rfl, -⟩:=hown1
  have hsz1:=hB1.size
  clear hb1 hB hB1
  go_wp2_with fail
  go_loopg [3,10] R.length (fun k p q wr=> ∃i:Nat,q= .int .i64 (i:Int)∧i+k=R.length∧Hid (wr.ownsRow W1.heap.size 3 1 p i (intCells ((R.take i).map (symOf ts))))∧Hid (Below W1.heap.size W1 wr))
  case atStart=>exact ⟨0,rfl,by omega,Lib.hid (own_nil _ _ _ _),Lib.hid (Below.refl _ _)⟩
  case round=>
    obtain ⟨i,rfl,hk,Hown,HB⟩:=hrel
    by_cases hlt:i<R.length
    · obtain ⟨k,rfl⟩: ∃k,gk=k+1:=⟨gk - 1,by omega⟩
      obtain ⟨x,hx⟩:=at_some hlt
      obtain ⟨t,ht,hxt⟩:=Hval.out x (List.mem_of_getElem? hx)
      obtain ⟨-,A',cap',hv,h2⟩:=HX.out.below HB.out
      obtain ⟨g1,cs1,T1,rfl,kg1,hcs1⟩:=h2 (by omega)
      obtain ⟨rfl, -,rfl⟩:=Value.slice.inj hv
      have c1a:cs1[i*2]? =some (.int .i64 (x.1:Int)):=(hcs1 _ (by omega)).trans (rowCells_at hx).1
      have c1b:cs1[i*2+1]? =some (.int .i64 (x.2:Int)):=(hcs1 _ (by omega)).trans (rowCells_at hx).2
      clear h2 hv hcs1
      have htake:Hid (intCells ((R.take (i+1)).map (symOf ts))=intCells ((R.take i).map (symOf ts))++[.int .i64 (symOf ts x)]):=Lib.hid (by
        unfold intCells
        rw [List.take_succ_eq_append_getElem hlt,List.map_append,List.map_append,(List.getElem_eq_iff hlt).2 hx];rfl)
      have n1:decide ((i:Int)<(R.length:Int))=true:=by simpa using hlt
      have n2:(i:Int)<(R.length:Int):=by omega
      have E3:=Lib.hid (step_wrap i 500 (by omega) (by omega))
      have hw1:=HB.out.size
      by_cases h0:x.2=0
      · have hs:Hid (symOf ts x=0):=Lib.hid (by unfold symOf;rw [if_pos h0])
        have d0:decide (0<x.2)=false:=by rw [h0];rfl
        have d1:decide ((0:Int)<(x.2:Int))=false:=by rw [h0];rfl
        clear h0 hxt
        have hHB:=HB.out
        obtain ⟨c_kg1,f_kg1,l_kg1_wr⟩:=f3 kg1
        go_wp2_with (at_builtin;refine wpList_push _ (by rfl) _ _ 62 (by rfl) (W1.heap.size) 3 (.int .i64 0) 1 8 Tryz.underlying62 (by kernel_rfl) (by rfl) (by omega) _ _ _ (by rfl) (own_below Hown.out (by (repeat' first|with_reducible assumption|with_reducible exact Below.refl _ _|with_reducible refine Below.alloc ?_ ?_ _|with_reducible refine Below.setCell ?_ ?_ _|with_reducible refine below_drewN ?_ _|with_reducible refine Below.drew ?_|exact Nat.le_refl _|((try dsimp only);omega)|(simp only [siz_alloc,siz_set];omega)))) _ (by rfl) (by rw [siz_alloc];rfl) (by simp [Value.oneCell']) (by unfold maxLen;omega) (by omega) (by simp only [siz_alloc,siz_set];omega) ?_;intro g_W c_W W5 hown_W hlow_W hlt_W)
        go_wp2_with fail
        go_roundg k
        case measure=>omega
        case rel=>exact ⟨i+1,by first|rfl|(rw [E3.out];rfl),by omega,Lib.hid (by rw [htake.out,hs.out];exact hown_W),Lib.hid (low_step (by (repeat' first|with_reducible assumption|with_reducible exact Below.refl _ _|with_reducible refine Below.alloc ?_ ?_ _|with_reducible refine Below.setCell ?_ ?_ _|with_reducible refine below_drewN ?_ _|with_reducible refine Below.drew ?_|exact Nat.le_refl _|((try dsimp only);omega)|(simp only [siz_alloc,siz_set];omega))) (Nat.le_refl _) hlow_W)⟩
      · obtain ⟨j,hj⟩: ∃j:Nat,x.2=j+1:=⟨x.2 - 1,by omega⟩
        obtain ⟨b,hb⟩:=at_some (show j<t.length by omega)
        have htl:=hn2 t (List.mem_of_getElem? ht)
        have hs:Hid (symOf ts x=(b.toNat:Int)+1):=Lib.hid (by unfold symOf;rw [if_neg h0,getD_at ht,hj];simp [List.getD,hb])
        have d0:decide ((0:Int)<(x.2:Int))=true:=by simp;omega
        obtain ⟨hd, -⟩:=List.getElem?_eq_some_iff.1 ht
        obtain ⟨-,A2,cap2,hv2,h3⟩:=(HK.out.below HB1.out).below HB.out
        obtain ⟨g2,cs2,T2,rfl,kg2,hcs2⟩:=h3 (by omega)
        obtain ⟨rfl, -,rfl⟩:=Value.slice.inj hv2
        have c2a:cs2[x.1]? =some (strOf t):=by rw [hcs2 _ (by omega),List.getElem?_map,ht];rfl
        have n3:(x.1:Int)<(ts.length:Int):=by omega
        have hix:=str_index t j b hb
        have hxj:(x.2:Int)=(j:Int)+1:=by omega
        rw [hxj] at c1b d0
        have e8:wrap64 ((j:Int)+1 - 1)=(j:Int):=by rw [show (j:Int)+1 - 1=(j:Int) by omega];exact step_id j t.length (by omega) (by omega)
        have e9:wrap64 (j:Int)=(j:Int):=step_id j t.length (by omega) (by omega)
        have E9:=Lib.hid e9
        clear h0 hxt h3 hv2 hcs2 hb hxj e9
        have hB:=Below.refl wr.heap.size wr
        obtain ⟨c_kg1,f_kg1,l_kg1_wr⟩:=f3 kg1
        obtain ⟨c_kg2,f_kg2,l_kg2_wr⟩:=f3 kg2
        go_wp2_with fail
        refine wp_gen fun V hV_V=> ?_
        have n_kr:=hbk hV_V (wr.heap.size)
        simp (maxDischargeDepth:=9) only [BK,not_false_eq_true,reduceCtorEq,kg1,kg2,l_kg1_wr,l_kg2_wr] at n_kr
        replace kg1:=kK hV_V kg1
        replace kg2:=kK hV_V kg2
        replace hB:Below wr.heap.size wr V:=nB hV_V
        have z_V:=zS hV_V
        clear hV_V c_kg1 f_kg1 c_kg2 f_kg2
        obtain ⟨c_kg1,f_kg1,l_kg1_V⟩:=f3 kg1
        obtain ⟨c_kg2,f_kg2,l_kg2_V⟩:=f3 kg2
        have kr:=n_kr;clear n_kr
        obtain ⟨c_kr,f_kr,l_kr_V⟩:=f3 kr
        have HBV:=Lib.hid (below_step HB.out hB)
        have HO:=Lib.hid (own_below Hown.out hB)
        have hzV:=hB.size
        clear hB
        have e9:=E9.out
        refine wp_region_noPanic ?_
        refine wp_region_held_drew (S:=fun v=>Below V.heap.size V v∧(V.heap.size≤v.heap.size)∧ ∀b o,b<V.heap.size→v.cell? ⟨b,o,none⟩=V.cell? ⟨b,o,none⟩) (by kernel_rfl) (HeldB.start V) (fun hHeld=> ?_)
        have hB_d:Below V.heap.size V V.drew:=(Below.refl _ _).drew
        generalize V.drew=Vd at hHeld hB_d⊢
        refine tz 0 rfl hHeld ?_
        try simp only [PT]
        refine tz 1 rfl hHeld ?_
        try simp only [PT]
        refine tz 2 rfl hHeld ?_
        try simp only [PT]
        refine tz 3 rfl hHeld ?_
        try simp only [PT]
        refine tz 4 rfl hHeld ?_
        try simp only [PT]
        refine tz 5 rfl hHeld ?_
        try simp only [PT]
        refine tz 6 rfl hHeld ?_
        try simp only [PT]
        refine tz 7 rfl hHeld ?_
        try simp only [PT]
        refine tz 8 rfl hHeld ?_
        try simp only [PT]
        clear e8 e9
        refine rd 9 rfl fun K hK=> ?_
        go_simp
        refine (symof_calls b _).mono ?_
        rintro e6 W6 ⟨rfl,hb6⟩
        refine hK.out _ _ (HeldB.call hHeld hb6) (fun hHeld=> ?_)
        clear hK K
        try simp only [PT]
        refine rd 10 rfl fun K hK=> ?_
        go_simp
        refine hK.out _ _ hHeld (fun hHeld=> ?_)
        clear hK K
        try simp only [PT]
        refine wpAnyH_done (by kernel_rfl) ?_ _
        refine NoPanic.normal ?_
        have HB6:=Lib.hid (hHeld.1)
        have HO6:=Lib.hid (own_below HO.out hHeld.1)
        have hz6:=hHeld.1.size
        clear hHeld hb6 kg1 kg2 kr c_kg1 f_kg1 c_kg2 f_kg2 c_kr f_kr hB_d
        go_wp2_with (at_builtin;refine wpList_push _ (by rfl) _ _ 62 (by rfl) (W1.heap.size) 3 (.int .i64 0) 1 8 Tryz.underlying62 (by kernel_rfl) (by rfl) (by omega) _ _ _ (by rfl) HO6.out _ (by rfl) (by rfl) (by simp [Value.oneCell']) (by unfold maxLen;omega) (by omega) (by omega) ?_;intro g_W c_W W7 hown_W hlow_W hlt_W)
        go_wp2_with fail
        go_roundg k
        case measure=>omega
        case rel=>exact ⟨i+1,by first|rfl|(rw [E3.out];rfl),by omega,Lib.hid (by rw [htake.out,hs.out];exact hown_W),Lib.hid (low_step (below_step HBV.out HB6.out) (Nat.le_refl _) hlow_W)⟩
    · have hi:i=R.length:=by omega
      have n1:decide ((i:Int)<(R.length:Int))=false:=by simpa using hlt
      have hown:=Hown.out
      rw [hi,List.take_length] at hown
      have HO:=Lib.hid (own_mono hown hsz1);clear hown Hown
      have HBF:=Lib.hid (below_step HB1.out HB.out)
      go_wp2_with fail
      go_ret
      exact ⟨u3,rfl,HO.out,HBF.out⟩
end
end Go.Proofs.YtdjpjmkpndmhaaaGreat

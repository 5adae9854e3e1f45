/- Part 7 of what these laws needs: the walks of the program's functions, and plain facts. -/
import Derived.Test.YtjeofpkhgmefgaaGreatCoreM6
import Derived.Deep.Slices
import Derived.Deep.Fields
import Derived.ChangeSame
import Derived.WideShapes
import Derived.Laws.StructEq
set_option linter.unusedSimpArgs false
set_option linter.unusedVariables false
set_option linter.unnecessarySimpa false
namespace Go.Proofs.YtjeofpkhgmefgaaGreat
open Go.RowKit
def HasW (s:Ar) (h:Int) (l:List Int):Prop:= ∃t,Rep s h t∧WaveT 9 t l
def HasB (s:Ar) (h:Int) (l:List Bool):Prop:= ∃t,Rep s h t∧BitsR t l
def HasL (s:Ar) (h:Int) (l:List (Int×Int)):Prop:= ∃t,Rep s h t∧ListR t l
theorem HasW.grow {s s':Ar} {h:Int} {l:List Int} (hg:Grow s s') (x:HasW s h l):HasW s' h l:=by obtain ⟨t,a,b⟩:=x;exact ⟨t,a.grow hg,b⟩
theorem HasB.grow {s s':Ar} {h:Int} {l:List Bool} (hg:Grow s s') (x:HasB s h l):HasB s' h l:=by obtain ⟨t,a,b⟩:=x;exact ⟨t,a.grow hg,b⟩
theorem HasL.grow {s s':Ar} {h:Int} {l:List (Int×Int)} (hg:Grow s s') (x:HasL s h l):HasL s' h l:=by obtain ⟨t,a,b⟩:=x;exact ⟨t,a.grow hg,b⟩
theorem HasW.stay {s s':Ar} {h:Int} {l:List Int} {H:List Int} (hs:Stay s s' H) (hh:h∈H) (x:HasW s h l):HasW s' h l:=by obtain ⟨t,a,b⟩:=x;exact ⟨t,a.held hs hh,b⟩
theorem HasB.stay {s s':Ar} {h:Int} {l:List Bool} {H:List Int} (hs:Stay s s' H) (hh:h∈H) (x:HasB s h l):HasB s' h l:=by obtain ⟨t,a,b⟩:=x;exact ⟨t,a.held hs hh,b⟩
theorem HasL.stay {s s':Ar} {h:Int} {l:List (Int×Int)} {H:List Int} (hs:Stay s s' H) (hh:h∈H) (x:HasL s h l):HasL s' h l:=by obtain ⟨t,a,b⟩:=x;exact ⟨t,a.held hs hh,b⟩
theorem nextA_T {s : Ar} {H1 H2 : List Int} {h : Int} {r : Int × Int × Ar} {c : Nat} {P : Tr → Prop} (ok : Bool) (hr : Rs s r (H1 ++ h :: H2) c P) :
    Inv (nextA ok h r).2.2 (H1++(nextA ok h r).1::H2)∧Grow s (nextA ok h r).2.2∧(nextA ok h r).2.2.busyN≤s.busyN+c∧
    (((nextA ok h r).2.1=ok∧ ∃t',Rep (nextA ok h r).2.2 (nextA ok h r).1 t'∧P t')∨((nextA ok h r).2.1=false∧(nextA ok h r).1=h∧s.size<s.busyN+c)):=by
  unfold nextA
  rcases hr.res with ⟨e,t',a,b⟩|⟨e,e1,e2⟩
  · rw [if_pos e]
    dsimp only
    have hd:(if h=0 then r.2.2 else r.2.2.drop h)=r.2.2.drop h:=by
      split
      · rename_i q;rw [q,drop_zero]
      · rfl
    rw [hd]
    have hp:Inv r.2.2 (h::(H1++r.1::H2)):=hr.inv.perm (by
      refine (List.Perm.cons _ List.perm_middle).trans ?_
      refine (List.Perm.swap _ _ _).trans (List.Perm.cons _ ?_)
      exact List.perm_middle.symm)
    have hg:=Grow.drop r.2.2 h
    exact ⟨hp.drop,hr.grow.trans hg,by rw [busyN_drop];exact hr.cost, .inl ⟨rfl,t',a.grow hg,b⟩⟩
  · rw [if_neg (by omega)]
    dsimp only
    have:=hr.inv
    rw [e1] at this
    exact ⟨this.tail_zero,hr.grow,hr.cost, .inr ⟨rfl,rfl,e2⟩⟩
structure Bp (b:Bst) (lw:List Int) (lm:List Bool) (ls lt:List (Int×Int)):Prop where
  inv:Inv b.s [b.p.wave,b.p.marks,b.p.spots,b.p.table]
  w:HasW b.s b.p.wave lw
  m:HasB b.s b.p.marks lm
  sp:HasL b.s b.p.spots ls
  t:HasL b.s b.p.table lt
  sy:Sy lw
theorem Bp.wr {b:Bst} {lw:List Int} {lm:List Bool} {ls lt:List (Int×Int)} (h:Bp b lw lm ls lt) (hl:lw.length≤9000):WR b.s 9 b.p.wave lw:=⟨h.w,fun h0=>h.inv.pos (by simp) h0,hl,h.sy⟩
theorem Bp.busy {b:Bst} {lw:List Int} {lm:List Bool} {ls lt:List (Int×Int)} (h:Bp b lw lm ls lt) (hw:b.s.wait=[]):8*b.s.busyN≤2040+39*lw.length+lm.length+16*ls.length+16*lt.length:=by
  obtain ⟨t1,a1,b1⟩:=h.w
  obtain ⟨t2,a2,b2⟩:=h.m
  obtain ⟨t3,a3,b3⟩:=h.sp
  obtain ⟨t4,a4,b4⟩:=h.t
  have:=h.inv.busy_le hw (T:=[t1,t2,t3,t4]) ⟨a1,a2,a3,a4,trivial⟩
  simp only [sizes,List.map_cons,List.map_nil,List.sum_cons,List.sum_nil] at this
  have:=b1.size;have:=b2.size;have:=b3.size;have:=b4.size
  omega
theorem sy_ins {l:List Int} (h:Sy l) (i:Nat) {x:Int} (hx:0≤x∧x<257):Sy (insA l i x):=fun y hy=>by
  unfold insA at hy
  rcases List.mem_append.1 hy with hy|hy
  · exact h y (List.mem_of_mem_take hy)
  · rcases List.mem_cons.1 hy with rfl|hy
    · exact hx
    · exact h y (List.mem_of_mem_drop hy)
theorem insA_end {α:Type} (l:List α) (x:α):insA l l.length x=l++[x]:=by unfold insA;simp
theorem insL_end (l:List Bool) (x:Bool):insL l l.length x=l++[x]:=by unfold insL;simp
def XOk (x:Int×Int×Int):Prop:=(1≤x.1∧x.1<9223372036854775808)∧(0≤x.2.1∧x.2.1≤1000)∧0≤x.2.2∧x.2.2<257
theorem bStep_T {b : Bst} {lw : List Int} {lm : List Bool} {ls lt : List (Int × Int)} (h : Bp b lw lm ls lt) (rate : Int) {x : Int × Int × Int} (hx : XOk x)
    (hlw:lw.length≤600) (hlm:lm.length=lw.length) (hls:ls.length≤lw.length) (hn:b.n=ls.length) (hok:b.ok=true):
    ∃b',bStep rate (lw.length:Int) x b=some b'∧b'.s.wait=[]∧b'.s.size=b.s.size∧b'.p.table=b.p.table∧
      ((b'.ok=true∧Bp b' (lw++[x.2.2]) (lm++[mkd rate x]) (if mkd rate x then ls++[(x.1,x.2.1)] else ls) lt∧b'.n=(if mkd rate x then ls++[(x.1,x.2.1)] else ls).length)∨
       (b'.ok=false∧b.s.size<b.s.busyN+13*lw.length+50∧ ∃lw' lm' ls',Bp b' lw' lm' ls' lt)):=by
  have hb:=h.wr (by omega)
  obtain ⟨r1,e1,R1⟩:=wInsert_R h.inv (by simp) hb (lw.length:Int) x.2.2 (by omega) (by omega) ⟨hx.2.2.1,hx.2.2.2⟩
  rw [Int.toNat_natCast,insA_end] at R1
  obtain ⟨i1,g1,c1,q1⟩:=nextA_T (H1:=[]) (H2:=[b.p.marks,b.p.spots,b.p.table]) b.ok R1
  obtain ⟨lw1,hw1,sy1,ql1⟩: ∃lw1,HasW (nextA b.ok b.p.wave r1).2.2 (nextA b.ok b.p.wave r1).1 lw1∧Sy lw1∧(((nextA b.ok b.p.wave r1).2.1=true∧lw1=lw++[x.2.2])∨((nextA b.ok b.p.wave r1).2.1=false∧b.s.size<b.s.busyN+9*(lw.length+4))):=by
    rcases q1 with ⟨a,t',p,q⟩|⟨a,a1,a2⟩
    · exact ⟨lw++[x.2.2],⟨t',p,q⟩,by rw [←insA_end];exact sy_ins h.sy _ ⟨hx.2.2.1,hx.2.2.2⟩, .inl ⟨a.trans hok,rfl⟩⟩
    · exact ⟨lw,by rw [a1];exact h.w.grow g1,h.sy, .inr ⟨a,a2⟩⟩
  generalize hT1:nextA b.ok b.p.wave r1=t1 at*
  have hbm:BR t1.2.2 b.p.marks lm:=⟨h.m.grow g1,fun h0=>i1.pos (by simp) h0,by omega⟩
  obtain ⟨r2,e2,R2⟩:=bInsert_R i1 (by simp) hbm (lw.length:Int) (mkd rate x) (by omega) (by omega)
  rw [Int.toNat_natCast,←hlm,insL_end] at R2
  obtain ⟨i2,g2,c2,q2⟩:=nextA_T (H1:=[t1.1]) (H2:=[b.p.spots,b.p.table]) t1.2.1 R2
  obtain ⟨lm1,hm1,ql2⟩: ∃lm1,HasB (nextA t1.2.1 b.p.marks r2).2.2 (nextA t1.2.1 b.p.marks r2).1 lm1∧(((nextA t1.2.1 b.p.marks r2).2.1=t1.2.1∧lm1=lm++[mkd rate x])∨((nextA t1.2.1 b.p.marks r2).2.1=false∧t1.2.2.size<t1.2.2.busyN+(lm.length+3))):=by
    rcases q2 with ⟨a,t',p,q⟩|⟨a,a1,a2⟩
    · exact ⟨_,⟨t',p,q⟩, .inl ⟨a,rfl⟩⟩
    · exact ⟨lm,by rw [a1];exact h.m.grow (g1.trans g2), .inr ⟨a,a2⟩⟩
  generalize hT2:nextA t1.2.1 b.p.marks r2=t2 at*
  have hs1:=g1.size
  have hs2:=g2.size
  by_cases hk:x.2.1 % rate=0
  · have hmk:mkd rate x=true:=decide_eq_true hk
    have hbs:LR t2.2.2 b.p.spots ls:=⟨h.sp.grow (g1.trans g2),fun h0=>i2.pos (by simp) h0,by omega⟩
    obtain ⟨r3,e3,R3⟩:=lInsert_R i2 (by simp) hbs b.n (x:=(x.1,x.2.1)) ⟨⟨by have:=hx.1;dsimp only;omega,hx.1.2⟩,by have:=hx.2.1;dsimp only;omega⟩ (by omega) (by omega)
    rw [hn,Int.toNat_natCast,insA_end] at R3
    obtain ⟨i3,g3,c3,q3⟩:=nextA_T (H1:=[t1.1,t2.1]) (H2:=[b.p.table]) t2.2.1 R3
    obtain ⟨ls1,hsp1,ql3⟩: ∃ls1,HasL (nextA t2.2.1 b.p.spots r3).2.2 (nextA t2.2.1 b.p.spots r3).1 ls1∧(((nextA t2.2.1 b.p.spots r3).2.1=t2.2.1∧ls1=ls++[(x.1,x.2.1)])∨((nextA t2.2.1 b.p.spots r3).2.1=false∧t2.2.2.size<t2.2.2.busyN+(3*ls.length+4))):=by
      rcases q3 with ⟨a,t',p,q⟩|⟨a,a1,a2⟩
      · exact ⟨_,⟨t',p,q⟩, .inl ⟨a,rfl⟩⟩
      · exact ⟨ls,by rw [a1];exact h.sp.grow ((g1.trans g2).trans g3), .inr ⟨a,a2⟩⟩
    generalize hT3:nextA t2.2.1 b.p.spots r3=t3 at*
    obtain ⟨u,w1,w2,w3,w4,w5⟩:=i3.work (by simp) 1073741824
    have hs3:=g3.size
    have hus:=w3.size
    have hBp:Bp ⟨u.2,t3.2.1,⟨t1.1,t2.1,t3.1,b.p.table⟩,wrap64 (b.n+1)⟩ lw1 lm1 ls1 lt:=
      ⟨w2,(hw1.grow (g2.trans g3)).stay w3 (by simp),(hm1.grow g3).stay w3 (by simp),hsp1.stay w3 (by simp),(h.t.grow ((g1.trans g2).trans g3)).stay w3 (by simp),sy1⟩
    refine ⟨⟨u.2,t3.2.1,⟨t1.1,t2.1,t3.1,b.p.table⟩,wrap64 (b.n+1)⟩,?_,w5 (by omega),by dsimp only;omega,rfl,?_⟩
    · unfold bStep
      rw [e1,Option.bind_some]
      dsimp only
      rw [hT1,show decide (x.2.1 % rate=0)=mkd rate x from rfl,e2,Option.bind_some,hT2,if_pos hk,e3,Option.bind_some,hT3,w1];rfl
    · dsimp only
      rw [if_pos hmk]
      have hcs:=R1.cost
      rcases ql1 with ⟨o1,rfl⟩|⟨o1,f1⟩
      · rcases ql2 with ⟨o2,rfl⟩|⟨o2,f2⟩
        · rcases ql3 with ⟨o3,rfl⟩|⟨o3,f3⟩
          · exact .inl ⟨by rw [o3,o2,o1],hBp,by rw [hn,w64 (by omega) (by omega)];simp⟩
          · exact .inr ⟨o3,by omega,_,_,_,hBp⟩
        · refine .inr ⟨?_,by omega,_,_,_,hBp⟩
          rcases ql3 with ⟨o3, -⟩|⟨o3, -⟩
          · rw [o3,o2]
          · exact o3
      · refine .inr ⟨?_,by omega,_,_,_,hBp⟩
        have o2':t2.2.1=false:=by
          rcases ql2 with ⟨o2, -⟩|⟨o2, -⟩
          · rw [o2,o1]
          · exact o2
        rcases ql3 with ⟨o3, -⟩|⟨o3, -⟩
        · rw [o3,o2']
        · exact o3
  · have hmk: ¬mkd rate x=true:=fun h=>hk (of_decide_eq_true h)
    obtain ⟨u,w1,w2,w3,w4,w5⟩:=i2.work (by simp) 1073741824
    have hus:=w3.size
    have hBp:Bp ⟨u.2,t2.2.1,⟨t1.1,t2.1,b.p.spots,b.p.table⟩,b.n⟩ lw1 lm1 ls lt:=
      ⟨w2,(hw1.grow g2).stay w3 (by simp),hm1.stay w3 (by simp),(h.sp.grow (g1.trans g2)).stay w3 (by simp),(h.t.grow (g1.trans g2)).stay w3 (by simp),sy1⟩
    refine ⟨⟨u.2,t2.2.1,⟨t1.1,t2.1,b.p.spots,b.p.table⟩,b.n⟩,?_,w5 (by omega),by dsimp only;omega,rfl,?_⟩
    · unfold bStep
      rw [e1,Option.bind_some]
      dsimp only
      rw [hT1,show decide (x.2.1 % rate=0)=mkd rate x from rfl,e2,Option.bind_some,hT2,if_neg hk,w1];rfl
    · dsimp only
      rw [if_neg hmk]
      rcases ql1 with ⟨o1,rfl⟩|⟨o1,f1⟩
      · rcases ql2 with ⟨o2,rfl⟩|⟨o2,f2⟩
        · exact .inl ⟨by rw [o2,o1],hBp,hn⟩
        · exact .inr ⟨o2,by omega,_,_,_,hBp⟩
      · refine .inr ⟨?_,by omega,_,_,_,hBp⟩
        rcases ql2 with ⟨o2, -⟩|⟨o2, -⟩
        · rw [o2,o1]
        · exact o2
theorem bRows_T (rate : Int) : ∀ (l X : List (Int × Int × Int)) {b : Bst} {lt : List (Int × Int)}, Bp b (rowW X) (rowM rate X) (rowS rate X) lt → (∀ x ∈ X ++ l, XOk x) → (X ++ l).length ≤ 500 → b.n = (rowS rate X).length → b.ok = true → b.s.wait = [] →
    ∃b',bRows rate l (X.length:Int) b=some b'∧b'.s.wait=[]∧b'.s.size=b.s.size∧
      ((b'.ok=true∧Bp b' (rowW (X++l)) (rowM rate (X++l)) (rowS rate (X++l)) lt)∨
       (b'.ok=false∧8*b.s.size<2440+160*(X++l).length+16*lt.length∧ ∃lw' lm' ls',Bp b' lw' lm' ls' lt))
  | [],X,b,lt,h,_,_,_,hok,hw=>⟨b,rfl,hw,rfl, .inl ⟨hok,by simpa using h⟩⟩
  | x::l,X,b,lt,h,hX,hl,hn,hok,hw=>by
    unfold bRows
    rw [if_pos hok]
    have hsl:=rowS_length rate X
    have hlen:(X++x::l).length=X.length+(l.length+1):=by rw [List.length_append,List.length_cons]
    have hwl:(rowW X).length=X.length:=by unfold rowW;rw [List.length_map]
    have hml:(rowM rate X).length=X.length:=by unfold rowM;rw [List.length_map]
    have hbusy:=h.busy hw
    obtain ⟨b1,e1,w1,z1,p1,q1⟩:=bStep_T h rate (hX x (by simp)) (by omega) (by omega) (by omega) hn hok
    rw [hwl] at e1
    rw [e1,Option.bind_some]
    have hcat:X++x::l=(X++[x])++l:=by simp
    have r1:rowW (X++[x])=rowW X++[x.2.2]:=by unfold rowW;simp
    have r2:rowM rate (X++[x])=rowM rate X++[mkd rate x]:=by unfold rowM;simp
    have r3:rowS rate (X++[x])=if mkd rate x then rowS rate X++[(x.1,x.2.1)] else rowS rate X:=by
      unfold rowS
      rw [List.filter_append]
      by_cases hm:mkd rate x=true
      · rw [if_pos hm,List.filter_cons_of_pos hm];simp
      · rw [if_neg hm,List.filter_cons_of_neg hm];simp
    rcases q1 with ⟨o,hB,hn1⟩|⟨o,f,lw',lm',ls',hB⟩
    · rw [←r1,←r2,←r3] at hB
      rw [←r3] at hn1
      have hle:((X++[x]).length:Int)=(X.length:Int)+1:=by simp
      obtain ⟨b',e',w',z',q'⟩:=bRows_T rate l (X++[x]) hB (by rw [←hcat];exact hX) (by rw [←hcat];exact hl) hn1 o w1
      rw [hle] at e'
      rw [e']
      refine ⟨b',rfl,w',by omega,?_⟩
      rw [hcat]
      rcases q' with q'|⟨a,b2,c⟩
      · exact .inl q'
      · exact .inr ⟨a,by omega,c⟩
    · refine ⟨b1,?_,w1,z1, .inr ⟨o,by omega,lw',lm',ls',hB⟩⟩
      cases l with
      | nil=>rfl
      | cons y l=>unfold bRows;rw [if_neg (by rw [o];decide)]
end Go.Proofs.YtjeofpkhgmefgaaGreat
namespace Go.Proofs.YtjeofpkhgmefgaaGreat
open Go.RowKit
theorem placeIn_none (id:Int): ∀(l:List (Int×Int)) (i:Int),(∀y∈l,y.1≠id)→placeIn id l i=(0,false)
  | [],_,_=>rfl
  | x::l,i,h=>by
    unfold placeIn
    rw [if_neg (h x (by simp))]
    exact placeIn_none id l (i+1) fun y hy=>h y (by simp [hy])
theorem tAdd_R {s : Ar} {H : List Int} (hI : Inv s H) (hH : H.length ≤ 900000) {h : Int} {l : List (Int × Int)} (hb : LR s h l) {x : Int × Int} (hx : 1 ≤ x.1 ∧ x.1 < 9223372036854775808 ∧ 0 ≤ x.2 ∧ x.2 ≤ 40) (hn : ∀ y ∈ l, y.1 ≠ x.1) (hl : l.length ≤ 9) :
    ∃r,tAdd s h x.1 x.2=some r∧Rs s r H (3*l.length+4) fun t=>ListR t (l++[x]):=by
  unfold tAdd tPlace
  rw [hb.all hI,Option.map_some,Option.bind_some,placeIn_none x.1 l 0 hn,hb.len hI,if_neg (by simp;omega),if_neg (by omega)]
  obtain ⟨r,a,b⟩:=lInsert_R hI hH hb (l.length:Int) (x:=x) ⟨by omega,by omega⟩ (by omega) (by omega)
  rw [Int.toNat_natCast,insA_end] at b
  exact ⟨r,a,b⟩
def DOk (x:Int×Int):Prop:=1≤x.1∧x.1<9223372036854775808∧0≤x.2∧x.2≤40
theorem bTable_T : ∀ (l D : List (Int × Int)) {b : Bst} {lw : List Int} {lm : List Bool} {ls lt : List (Int × Int)}, Bp b lw lm ls lt → (∀ x ∈ D ++ l, DOk x) → ((D ++ l).map (·.1)).Nodup → (D ++ l).length ≤ 10 → (∀ y ∈ lt, y ∈ D) → lt.length ≤ D.length → (b.ok = true → lt = D) →
    ∃b' lt',bTable l b=some b'∧Bp b' lw lm ls lt'∧b'.s.size=b.s.size∧b'.s.busyN≤b.s.busyN+34*l.length∧b'.p.wave=b.p.wave∧b'.p.marks=b.p.marks∧b'.p.spots=b.p.spots∧lt'.length≤10∧
      ((b'.ok=true∧b.ok=true∧lt'=D++l)∨(b'.ok=false∧(b.ok=true→b.s.size<b.s.busyN+34*l.length)))
  | [],D,b,lw,lm,ls,lt,h,hx,hd,hl,h1,h2,h3=>by
    refine ⟨b,lt,rfl,h,rfl,by simp,rfl,rfl,rfl,by simp at hl;omega,?_⟩
    cases ho:b.ok with
    | true=>exact .inl ⟨rfl,rfl,by rw [h3 ho,List.append_nil]⟩
    | false=>exact .inr ⟨rfl,fun h=>by cases h⟩
  | x::l,D,b,lw,lm,ls,lt,h,hx,hd,hl,h1,h2,h3=>by
    rw [List.length_append,List.length_cons] at hl
    have hcat:D++x::l=(D++[x])++l:=by simp
    have hlr:LR b.s b.p.table lt:=⟨h.t,fun h0=>h.inv.pos (by simp) h0,by omega⟩
    have hxo:=hx x (by simp)
    have hnot: ∀y∈lt,y.1≠x.1:=fun y hy e=>by
      rw [List.map_append,List.map_cons] at hd
      obtain ⟨-, -,hdis⟩:=List.nodup_append.1 hd
      exact hdis y.1 (List.mem_map.2 ⟨y,h1 y hy,rfl⟩) x.1 (by simp) e
    obtain ⟨r,e,R⟩:=tAdd_R h.inv (by simp) hlr hxo hnot (by omega)
    obtain ⟨i1,g1,c1,q1⟩:=nextA_T (H1:=[b.p.wave,b.p.marks,b.p.spots]) (H2:=[]) b.ok R
    unfold bTable
    rw [hlr.all h.inv,Option.bind_some,if_pos (by omega),e,Option.bind_some]
    obtain ⟨lt1,ht1,hm1,hl1,ql⟩: ∃lt1,HasL (nextA b.ok b.p.table r).2.2 (nextA b.ok b.p.table r).1 lt1∧(∀y∈lt1,y∈D++[x])∧lt1.length≤(D++[x]).length∧(((nextA b.ok b.p.table r).2.1=b.ok∧lt1=lt++[x])∨((nextA b.ok b.p.table r).2.1=false∧b.s.size<b.s.busyN+(3*lt.length+4))):=by
      rcases q1 with ⟨a,t',p,q⟩|⟨a,a1,a2⟩
      · refine ⟨lt++[x],⟨t',p,q⟩,fun y hy=> ?_,by simp;omega, .inl ⟨a,rfl⟩⟩
        rcases List.mem_append.1 hy with hy|hy
        · exact List.mem_append.2 (.inl (h1 y hy))
        · exact List.mem_append.2 (.inr hy)
      · exact ⟨lt,by rw [a1];exact h.t.grow g1,fun y hy=>List.mem_append.2 (.inl (h1 y hy)),by simp;omega, .inr ⟨a,a2⟩⟩
    generalize nextA b.ok b.p.table r=t1 at*
    have hBp:Bp ⟨t1.2.2,t1.2.1,⟨b.p.wave,b.p.marks,b.p.spots,t1.1⟩,b.n⟩ lw lm ls lt1:=⟨i1,h.w.grow g1,h.m.grow g1,h.sp.grow g1,ht1,h.sy⟩
    obtain ⟨b',lt',e',B',z',c',p1,p2,p3,l',q'⟩:=bTable_T l (D++[x]) hBp (by rw [←hcat];exact hx) (by rw [←hcat];exact hd) (by rw [←hcat,List.length_append,List.length_cons];exact hl) hm1 hl1 (fun ho=>by
      rcases ql with ⟨a,b⟩|⟨a, -⟩
      · rw [b,h3 (a▸ho)]
      · dsimp only at ho;rw [a] at ho;cases ho)
    have hz:=g1.size
    dsimp only at z' c' p1 p2 p3 q'
    refine ⟨b',lt',e',B',by omega,by rw [List.length_cons];omega,p1,p2,p3,l',?_⟩
    rcases q' with ⟨a1,a2,a3⟩|⟨a1,a2⟩
    · rcases ql with ⟨o, -⟩|⟨o, -⟩
      · exact .inl ⟨a1,o▸a2,by rw [a3,hcat]⟩
      · rw [o] at a2;cases a2
    · refine .inr ⟨a1,fun hbo=> ?_⟩
      rw [List.length_cons]
      rcases ql with ⟨o, -⟩|⟨o,f⟩
      · have:=a2 (o.trans hbo);omega
      · omega
theorem dropP_eq (s:Ar) (h:Int):dropP s h=s.drop h:=by
  unfold dropP
  split
  · rename_i q;rw [q,drop_zero]
  · rfl
theorem bEnd_T {b : Bst} {lw : List Int} {lm : List Bool} {ls lt : List (Int × Int)} (h : Bp b lw lm ls lt) (ht : lt ≠ []) :
    ∃r,bEnd b=some r∧Inv r.2.2 [r.1]∧r.2.2.wait=[]∧r.2.2.size=b.s.size∧
      ((r.2.1=true∧b.ok=true∧ ∃t,Rep r.2.2 r.1 t∧ ∃tw tm tsp tt,t= .nd 6 0 0 tw tm tsp tt∧WaveT 9 tw lw∧BitsR tm lm∧ListR tsp ls∧ListR tt lt)∨
       (r.2.1=false∧r.1=0∧(b.ok=true→b.s.busyN=b.s.size))):=by
  unfold bEnd
  dsimp only
  simp only [dropP_eq]
  have fin : ∀ (root : Int) (ok : Bool) (s : Ar), Inv s (root :: [b.p.wave, b.p.marks, b.p.spots, b.p.table]) → (ok = false → root = 0) →
      ∃u,Option.map (fun u:Int×Ar=>(root,ok,if ok=false∧root≠0 then u.2.drop root else u.2)) (((((s.drop b.p.wave).drop b.p.marks).drop b.p.spots).drop b.p.table).work 1073741824)=some (root,ok,u)∧Inv u [root]∧u.wait=[]∧u.size=s.size∧Stay s u [root]:=fun root ok s hi hz=>by
    have hi':Inv s ([b.p.wave,b.p.marks,b.p.spots,b.p.table]++[root]):=hi.perm (by
      have:(root::[b.p.wave,b.p.marks,b.p.spots,b.p.table])=[root]++[b.p.wave,b.p.marks,b.p.spots,b.p.table]:=rfl
      rw [this];exact List.perm_append_comm)
    have hd:=Inv.dropAll hi'
    have hg:=Grow.dropAll [b.p.wave,b.p.marks,b.p.spots,b.p.table] s
    obtain ⟨u,w1,w2,w3, -,w5⟩:=hd.work (by simp) 1073741824
    refine ⟨u.2,?_,w2,w5 (by omega),w3.size.trans hg.size,?_⟩
    · have:(((s.drop b.p.wave).drop b.p.marks).drop b.p.spots).drop b.p.table=s.dropAll [b.p.wave,b.p.marks,b.p.spots,b.p.table]:=rfl
      rw [this,w1,Option.map_some,if_neg (fun q=>q.2 (hz q.1))]
    · refine ⟨w3.size.trans hg.size,fun x hx=> ?_⟩
      have hxs:s.has x=true:=(hi.rc (hx.mono (fun y hy _=>by simp at hy;simp [hy]))).1
      have hx':Rc (s.dropAll [b.p.wave,b.p.marks,b.p.spots,b.p.table]) [root] x:=(hg.stay (hi.perm (List.Perm.refl _))|>.mono (H:=[root]) (fun y hy _=>by simp at hy;simp [hy])).rc hx
      obtain ⟨a,c⟩:=w3.same x hx'
      exact ⟨a,c.trans (hg.has hxs).2⟩
  cases ho:b.ok with
  | false=>
    rw [if_neg (by decide)]
    obtain ⟨u,e,i,w,z, -⟩:=fin 0 false b.s (h.inv.zero_cons (by simp)) (fun _=>rfl)
    exact ⟨_,e,i,w,z, .inr ⟨rfl,rfl,fun h=>by cases h⟩⟩
  | true=>
    rw [if_pos rfl]
    obtain ⟨tt,ht1,ht2⟩:=h.t
    have htn:b.p.table≠0:=by
      rcases ht2 with ⟨-,q⟩|ht2
      · exact absurd q ht
      · exact ht1.ne_ofL ht2
    have hmk:vMake b.s b.p=b.s.make ⟨6,b.p.wave,b.p.marks,b.p.spots,b.p.table,0,0⟩:=by
      unfold vMake;rw [if_neg (fun q=>htn q.2.2.2)]
    rw [hmk]
    rcases h.inv.make (by simp) ⟨6,b.p.wave,b.p.marks,b.p.spots,b.p.table,0,0⟩ ⟨by dsimp only;omega,by dsimp only;omega⟩ U64.zero (fun k hk h0=>h.inv.pos hk h0) with ⟨m1,m2⟩|⟨f,f1,f2,f3,m1,m2,m3,m4,m5,m6,m7⟩
    · rw [m1]
      have hn:nextA true 0 ((0:Int),(2:Int),b.s)=(0,false,b.s):=rfl
      rw [hn]
      obtain ⟨u,e,i,w,z, -⟩:=fin 0 false b.s (h.inv.zero_cons (by simp)) (fun _=>rfl)
      exact ⟨_,e,i,w,z, .inr ⟨rfl,rfl,fun _=>m2⟩⟩
    · generalize b.s.make ⟨6,b.p.wave,b.p.marks,b.p.spots,b.p.table,0,0⟩=r at*
      have hn:nextA true 0 r=(r.1,true,r.2.2):=by unfold nextA;rw [if_pos m2,if_pos rfl]
      rw [hn,m1]
      obtain ⟨u,e,i,w,z,st⟩:=fin (f:Int) true r.2.2 m3 (fun h=>by cases h)
      refine ⟨_,e,i,w,z.trans m4.size, .inl ⟨rfl,rfl,?_⟩⟩
      obtain ⟨tw,w1,w2⟩:=h.w
      obtain ⟨tm,n1,n2⟩:=h.m
      obtain ⟨tsp,s1,s2⟩:=h.sp
      have hfh:r.2.2.has (f:Int)=true:=has_iff.2 ⟨by omega,by rw [m4.size];omega,by simpa using m5⟩
      have hrep:Rep r.2.2 (f:Int) (.nd 6 0 0 tw tm tsp tt):= .nd hfh (by rw [get_nat hfh,Int.toNat_natCast,m6]) (w1.grow m4) (n1.grow m4) (s1.grow m4) (ht1.grow m4)
      exact ⟨_,hrep.held st (by simp),tw,tm,tsp,tt,rfl,w2,n2,s2,ht2⟩
theorem docs_length {ts:List (List UInt8)}: ∀n,n≤ts.length→(docs ts n).length=((ts.take n).map fun t=>t.length+1).sum
  | 0,_=>rfl
  | n+1,h=>by
    obtain ⟨t,ht⟩:=at_some (show n<ts.length by omega)
    obtain ⟨h1,h2⟩:=List.getElem?_eq_some_iff.1 ht
    rw [docs_succ,List.length_append,docs_length n (by omega),List.take_succ_eq_append_getElem h1,List.map_append,List.sum_append,h2]
    unfold rowsOf
    rw [getD_at ht];simp
def tot (ds:Docs):Nat:=(ds.map fun d=>d.2.length).sum
theorem rows_tot {ds:Docs} (h:Right ds):(rowsM ds).length=tot ds+ds.length:=by
  rw [rowsM_length,right_all h,(all_docs _).length_eq,docs_length _ (Nat.le_refl _),List.take_length,List.map_map]
  unfold tot
  clear h
  induction ds with
  | nil=>rfl
  | cons d ds ih=>simp only [List.map_cons,List.sum_cons,List.length_cons,Function.comp] at ih⊢;omega
theorem rows_ok {ds:Docs} (h:Right ds): ∀x∈rowsM ds,XOk x:=fun x hx=>by
  unfold rowsM at hx
  obtain ⟨r,hr,rfl⟩:=List.mem_map.1 hx
  obtain ⟨t,ht,hrt⟩:=sorted_valid hr
  have hb:=sym_bound (ts:=ds.map (·.2)) r
  have h40:=(right_len h.right).2 r.1
  rw [getD_at ht] at h40
  rw [List.getElem?_map] at ht
  obtain ⟨d,hd,hdt⟩:=Option.map_eq_some_iff.1 ht
  have hid:=h.id d (List.mem_of_getElem? hd)
  refine ⟨?_,⟨by dsimp only;omega,by dsimp only;omega⟩,hb⟩
  have:ds.getD r.1 (0,[])=d:=by simp [List.getD,hd]
  rw [this];exact hid
theorem docs_ok {ds:Docs} (h:Right ds): ∀x∈docsM ds,DOk x:=fun x hx=>by
  unfold docsM at hx
  obtain ⟨d,hd,rfl⟩:=List.mem_map.1 hx
  have hid:=h.id d hd
  obtain ⟨i,hi⟩:=List.getElem?_of_mem hd
  have ht:(txt ds)[i]? =some d.2:=by rw [List.getElem?_map,hi];rfl
  have h40:=(right_len h.right).2 i
  rw [getD_at ht] at h40
  exact ⟨hid.1,hid.2,by dsimp only;omega,by dsimp only;omega⟩
theorem bBuild_T {s : Ar} (hI : Inv s []) (hw : s.wait = []) {ds : Docs} (h : Right ds) (rate : Int) :
    ∃r,bBuild s rate (rowsM ds) (docsM ds)=some r∧Inv r.2.2 [r.1]∧r.2.2.wait=[]∧r.2.2.size=s.size∧(r.1=0→ds=[]∨r.2.1=false)∧
      ((r.2.1=true∧VR r.2.2 r.1 ds rate)∨(r.2.1=false∧r.1=0∧8*s.size<10000+160*(rowsM ds).length)):=by
  unfold bBuild
  by_cases hd:ds=[]
  · subst hd
    rw [if_pos (show docsM []=[] from rfl)]
    exact ⟨_,rfl,hI.zero_cons (by simp),hw,rfl,fun _=> .inl rfl, .inl ⟨rfl, .inl ⟨rfl,rfl⟩,fun h=>absurd rfl h⟩⟩
  have hdn:docsM ds≠[]:=by unfold docsM;simpa using hd
  rw [if_neg hdn]
  have hlen:=h.len
  have hN:=rowsM_small ds
  have b0:Bp ⟨s,true,Parts.zero,0⟩ (rowW []) (rowM rate []) (rowS rate []) []:=
    ⟨(((hI.zero_cons (by simp)).zero_cons (by simp)).zero_cons (by simp)).zero_cons (by simp),⟨.nil, .nil, .nil⟩,⟨.nil, .nil, .inl ⟨rfl,rfl⟩⟩,⟨.nil, .nil, .inl ⟨rfl,rfl⟩⟩,⟨.nil, .nil, .inl ⟨rfl,rfl⟩⟩,fun x hx=>by simp [rowW] at hx⟩
  obtain ⟨b1,e1,w1,z1,q1⟩:=bRows_T rate (rowsM ds) [] b0 (by simpa using rows_ok h) (by simpa using hN) rfl rfl hw
  rw [show (([]:List (Int×Int×Int)).length:Int)=0 from rfl] at e1
  rw [List.nil_append] at q1
  rw [e1,Option.bind_some]
  dsimp only at z1 q1
  have hdl:(docsM ds).length=ds.length:=by unfold docsM;simp
  have hnd:((docsM ds).map (·.1)).Nodup:=by
    have:(docsM ds).map (·.1)=ds.map (·.1):=by unfold docsM;rw [List.map_map];rfl
    rw [this];exact h.nodup
  rcases q1 with ⟨o1,B1⟩|⟨o1,f1,lw',lm',ls',B1⟩
  · obtain ⟨b2,lt2,e2,B2,z2,c2, -, -, -,l2,q2⟩:=bTable_T (docsM ds) [] B1 (by simpa using docs_ok h) (by simpa using hnd) (by simp [hdl,hlen]) (by simp) (by simp) (fun _=>rfl)
    rw [e2,Option.bind_some]
    have hb1:=B1.busy w1
    have r1:(rowW (rowsM ds)).length=(rowsM ds).length:=by unfold rowW;simp
    have r2:(rowM rate (rowsM ds)).length=(rowsM ds).length:=by unfold rowM;simp
    have r3:=rowS_length rate (rowsM ds)
    rw [List.length_nil] at hb1
    rcases q2 with ⟨o2, -,l3⟩|⟨o2,f2⟩
    · rw [List.nil_append] at l3
      subst l3
      obtain ⟨r,e3,i3,w3,z3,q3⟩:=bEnd_T B2 hdn
      refine ⟨r,e3,i3,w3,by omega,?_,?_⟩
      · intro hr0
        rcases q3 with ⟨o3, -,t,ht,tw,tm,tsp,tt,rfl, -⟩|⟨o3, -⟩
        · exact absurd hr0 ht.ne
        · exact .inr o3
      · rcases q3 with ⟨o3, -,t,ht,hv⟩|⟨o3,r0,f3⟩
        · exact .inl ⟨o3, .inr ⟨t,ht,hv⟩,fun h0=>i3.pos (by simp) h0⟩
        · have:=f3 o2
          exact .inr ⟨o3,r0,by omega⟩
    · have hlt2 : ∃ r, bEnd b2 = some r ∧ Inv r.2.2 [r.1] ∧ r.2.2.wait = [] ∧ r.2.2.size = b2.s.size ∧ r.2.1 = false ∧ r.1 = 0 := by
        unfold bEnd
        dsimp only
        simp only [dropP_eq]
        rw [o2,if_neg (by decide)]
        have hi':Inv b2.s ([b2.p.wave,b2.p.marks,b2.p.spots,b2.p.table]++[]):=B2.inv
        have hdd:=Inv.dropAll hi'
        have hg:=Grow.dropAll [b2.p.wave,b2.p.marks,b2.p.spots,b2.p.table] b2.s
        obtain ⟨u,u1,u2,u3, -,u5⟩:=hdd.work (by simp) 1073741824
        have he:(((b2.s.drop b2.p.wave).drop b2.p.marks).drop b2.p.spots).drop b2.p.table=b2.s.dropAll [b2.p.wave,b2.p.marks,b2.p.spots,b2.p.table]:=rfl
        rw [he,u1,Option.map_some]
        exact ⟨_,rfl,u2.zero_cons (by simp),u5 (by omega),u3.size.trans hg.size,rfl,rfl⟩
      obtain ⟨r,e3,i3,w3,z3,o3,r0⟩:=hlt2
      have:=f2 o1
      exact ⟨r,e3,i3,w3,by omega,fun _=> .inr o3, .inr ⟨o3,r0,by omega⟩⟩
  · obtain ⟨b2,lt2,e2,B2,z2,c2, -, -, -,l2,q2⟩:=bTable_T (docsM ds) [] B1 (by simpa using docs_ok h) (by simpa using hnd) (by simp [hdl,hlen]) (by simp) (by simp) (fun ho=>by simp [o1] at ho)
    rw [e2,Option.bind_some]
    have o2:b2.ok=false:=by
      rcases q2 with ⟨-,q, -⟩|⟨q, -⟩
      · rw [o1] at q;cases q
      · exact q
    have hlt2: ∃r,bEnd b2=some r∧Inv r.2.2 [r.1]∧r.2.2.wait=[]∧r.2.2.size=b2.s.size∧r.2.1=false∧r.1=0:=by
      unfold bEnd
      dsimp only
      simp only [dropP_eq]
      rw [o2,if_neg (by decide)]
      have hi':Inv b2.s ([b2.p.wave,b2.p.marks,b2.p.spots,b2.p.table]++[]):=B2.inv
      have hdd:=Inv.dropAll hi'
      have hg:=Grow.dropAll [b2.p.wave,b2.p.marks,b2.p.spots,b2.p.table] b2.s
      obtain ⟨u,u1,u2,u3, -,u5⟩:=hdd.work (by simp) 1073741824
      have he:(((b2.s.drop b2.p.wave).drop b2.p.marks).drop b2.p.spots).drop b2.p.table=b2.s.dropAll [b2.p.wave,b2.p.marks,b2.p.spots,b2.p.table]:=rfl
      rw [he,u1,Option.map_some]
      exact ⟨_,rfl,u2.zero_cons (by simp),u5 (by omega),u3.size.trans hg.size,rfl,rfl⟩
    obtain ⟨r,e3,i3,w3,z3,o3,r0⟩:=hlt2
    rw [List.length_nil] at f1
    exact ⟨r,e3,i3,w3,by omega,fun _=> .inr o3, .inr ⟨o3,r0,by omega⟩⟩
theorem Inv.new (n:Nat) (h:n≤6000):Inv (Ar.new n) []:=
  ⟨Ar.Wq.new n h,by simp,fun m _ _ hm=>by simp [Ar.new] at hm,fun m _ _ hm=>by simp [Ar.new] at hm,fun m _ _ hm=>by simp [Ar.new] at hm,by simp,⟨fun _=>0,fun m _ _ hm=>by simp [Ar.new] at hm⟩,by
    have:(Ar.new n).busyN=0:=usedTo_none _ _ fun _ _ _=>rfl
    rw [this]
    rfl⟩
end Go.Proofs.YtjeofpkhgmefgaaGreat
namespace Go.Proofs.YtjeofpkhgmefgaaGreat
open Go.RowKit
def placeZ (id:Int):Docs→Int→Int
  | [],_=> -1
  | d::l,i=>if d.1=id then i else placeZ id l (i+1)
def mrFrom (ds:Docs):Docs→Int→Bool
  | [],_=>decide (ds.length≤10)
  | d::l,i=>decide (1≤d.1)&&(decide (d.2.length≤40)&&(decide (placeZ d.1 ds 0=i)&&mrFrom ds l (i+1)))
def mRight (ds:Docs):Bool:=mrFrom ds ds 0
def sumW:Docs→Int→Int
  | [],n=>n
  | d::l,n=>sumW l (wrap64 (n+d.2.length))
def few (ds:Docs):Bool:=decide (ds.length≤12)&&(decide (sumW ds 0≤60)&&mRight ds)
theorem wrap_len {n i:Nat} (h:n≤maxLen) (hi:i<n):wrap64 ((i:Int)+1)=(i:Int)+1:=IntWalk.wrap64_in _ (by unfold maxLen at h;omega)
theorem mrFrom_all (ds:Docs): ∀(l:Docs) (i:Nat),mrFrom ds l (i:Int)=true→(∀k d,l[k]? =some d→1≤d.1∧d.2.length≤40∧placeZ d.1 ds 0=((i+k:Nat):Int))∧ds.length≤10
  | [],i,h=>⟨fun k d hd=>by simp at hd,by unfold mrFrom at h;simpa using h⟩
  | x::l,i,h=>by
    unfold mrFrom at h
    simp only [Bool.and_eq_true,decide_eq_true_eq] at h
    obtain ⟨h1,h2,h3,h4⟩:=h
    obtain ⟨h5,h6⟩:=mrFrom_all ds l (i+1) h4
    refine ⟨fun k d hd=> ?_,h6⟩
    cases k with
    | zero=>cases hd;exact ⟨h1,h2,by rw [h3];rfl⟩
    | succ k=>
      obtain ⟨a,b,c⟩:=h5 k d hd
      exact ⟨a,b,by rw [c];congr 1;omega⟩
theorem sumW_eq: ∀(l:Docs) (n:Nat),(∀d∈l,d.2.length≤40)→n+40*l.length<100000→sumW l n=((n+tot l:Nat):Int)
  | [],n,_,_=>by unfold sumW tot;simp
  | d::l,n,h,hn=>by
    have hd:=h d (by simp)
    simp only [List.length_cons] at hn
    unfold sumW
    rw [IntWalk.wrap64_in _ (by omega)]
    have:=sumW_eq l (n+d.2.length) (fun x hx=>h x (by simp [hx])) (by omega)
    rw [show (n:Int)+(d.2.length:Int)=((n+d.2.length:Nat):Int) by omega,this]
    congr 1
    unfold tot
    simp only [List.map_cons,List.sum_cons]
    omega
theorem placeZ_ge (id:Int): ∀(l:Docs) (i:Int),0≤i→placeZ id l i= -1∨i≤placeZ id l i
  | [],i,_=> .inl rfl
  | d::l,i,h=>by
    unfold placeZ
    split
    · exact .inr (by omega)
    · rcases placeZ_ge id l (i+1) (by omega) with h2|h2
      · exact .inl h2
      · exact .inr (by omega)
theorem few_right {ds:Docs} (h:few ds=true) (hid: ∀d∈ds,(Lit.int .i64 d.1).wf=true):Right ds∧tot ds≤60∧ds.length≤10:=by
  unfold few mRight at h
  simp only [Bool.and_eq_true,decide_eq_true_eq] at h
  obtain ⟨h1,h2,h3⟩:=h
  obtain ⟨h4,h5⟩:=mrFrom_all ds ds 0 h3
  have h40: ∀d∈ds,d.2.length≤40:=fun d hd=>by
    obtain ⟨k,hk⟩:=List.getElem?_of_mem hd
    exact (h4 k d hk).2.1
  rw [show (0:Int)=((0:Nat):Int) from rfl,sumW_eq ds 0 h40 (by omega)] at h2
  refine ⟨⟨?_,fun d hd=> ?_,?_⟩,by omega,h5⟩
  · unfold refRight
    simp only [Bool.and_eq_true,List.all_eq_true,decide_eq_true_eq,List.length_map]
    exact ⟨fun t ht=>by obtain ⟨d,hd,rfl⟩:=List.mem_map.1 ht;exact h40 d hd,h5⟩
  · obtain ⟨k,hk⟩:=List.getElem?_of_mem hd
    exact ⟨(h4 k d hk).1,by have:=hid d hd;simp [Lit.wf,IntKind.min,IntKind.max,IntKind.bits,IntKind.signed] at this;omega⟩
  · refine List.pairwise_iff_getElem.2 fun i j hi hj hij hc=> ?_
    simp only [List.length_map] at hi hj
    simp only [List.getElem_map] at hc
    have a:=(h4 i _ (List.getElem?_eq_getElem hi)).2.2
    have b:=(h4 j _ (List.getElem?_eq_getElem hj)).2.2
    rw [hc,b] at a
    omega
end Go.Proofs.YtjeofpkhgmefgaaGreat
namespace Go.Proofs.YtjeofpkhgmefgaaGreat
open Go.RowKit
attribute [local go_sem ↓] Go.wp_at_zero Go.wp_at_succ
attribute [local go_sem] str_len
set_option maxRecDepth 100000 in
set_option maxHeartbeats 2000000 in
theorem place_calls (v : Value) (ds : Docs) (id : Int) (hl : ds.length ≤ 50000) (w : World) (h : Rd2 w v ds) :
    Calls Tryz.prog 25 #[v, .int .i64 id] w fun e w'=>e= .returned (.int .i64 (placeZ id ds 0))∧Below w.heap.size w w':=by
  obtain ⟨R,hR⟩: ∃R,placeZ id ds 0=R:=⟨_,rfl⟩
  rw [hR]
  have HR:=Lib.hid hR;clear hR
  have HK:=Lib.hid h
  obtain ⟨A,cap,rfl,h2⟩:=h
  clear h2
  go_enter Tryz.func25,Tryz.ntmps25
  go_wp2_with fail
  go_loopg [5] ds.length (fun k p wr=> ∃i:Nat,p= .int .i64 (i:Int)∧i+k=ds.length∧Hid (placeZ id (ds.drop i) i=R)∧Below w.heap.size w wr)
  case atStart=>exact ⟨0,rfl,by omega,HR,Below.refl _ _⟩
  case round=>
    obtain ⟨i,rfl,hk,Hl,hB⟩:=hrel
    by_cases hlt:i<ds.length
    · obtain ⟨k,rfl⟩: ∃k,gk=k+1:=⟨gk - 1,by omega⟩
      obtain ⟨d,hd⟩:=at_some hlt
      have hl2:=Hl.out
      rw [drop_at hd,placeZ] at hl2
      obtain ⟨A',cap',hv,h2⟩:=HK.out.below hB
      obtain ⟨ad,rfl,hg,hc⟩:=h2 (by omega)
      obtain ⟨rfl, -,rfl⟩:=Value.slice.inj hv
      obtain ⟨-,c1,c2⟩:=hc i d hd
      have n1:decide ((i:Int)<(ds.length:Int))=true:=by simpa using hlt
      have n2:(i:Int)<(ds.length:Int):=by omega
      have e3:wrap64 ((i:Int)+1)=(i:Int)+1:=IntWalk.wrap64_in _ (by omega)
      clear hc c2 h2 hv Hl hd
      by_cases he:d.1=id
      · have d1:(d.1==id)=true:=by simpa using he
        rw [if_pos he] at hl2
        have HL:=Lib.hid hl2
        clear hl2 he
        go_wp2_with fail
        go_ret
        exact ⟨by rw [←HL.out];rfl,hB⟩
      · have d1:(d.1==id)=false:=by simpa using he
        rw [if_neg he] at hl2
        have HL:=Lib.hid hl2
        clear hl2 he
        go_wp2_with fail
        go_roundg k
        case measure=>omega
        case rel=>exact ⟨i+1,by first|rfl|(rw [e3];rfl),by omega,HL,hB⟩
    · have hi:i=ds.length:=by omega
      have hl2:=Hl.out
      rw [hi,List.drop_length,placeZ] at hl2
      have HL:=Lib.hid hl2
      have n1:decide ((i:Int)<(ds.length:Int))=false:=by simpa using hlt
      clear hl2 Hl
      go_wp2_with fail
      go_ret
      exact ⟨by rw [←HL.out];rfl,hB⟩
set_option maxRecDepth 100000 in
set_option maxHeartbeats 4000000 in
theorem mright_calls (v : Value) (ds : Docs) (hl : ds.length ≤ 50000) (w : World) (h : Rd2 w v ds) :
    Calls Tryz.prog 53 #[v] w fun e w'=>e= .returned (.bool (mRight ds))∧Below w.heap.size w w':=by
  obtain ⟨R,hR⟩: ∃R,mRight ds=R:=⟨_,rfl⟩
  rw [hR]
  have HR:=Lib.hid hR;clear hR
  have HK:=Lib.hid h
  obtain ⟨A,cap,rfl,h2⟩:=h
  clear h2
  go_enter Tryz.func53,Tryz.ntmps53
  go_wp2_with fail
  go_loopg [3] ds.length (fun k p wr=> ∃i:Nat,p= .int .i64 (i:Int)∧i+k=ds.length∧Hid (mrFrom ds (ds.drop i) i=R)∧Hid (Below w.heap.size w wr))
  case atStart=>exact ⟨0,rfl,by omega,HR,Lib.hid (Below.refl _ _)⟩
  case round=>
    obtain ⟨i,rfl,hk,Hl,HB⟩:=hrel
    by_cases hlt:i<ds.length
    · obtain ⟨k,rfl⟩: ∃k,gk=k+1:=⟨gk - 1,by omega⟩
      obtain ⟨d,hd⟩:=at_some hlt
      have hl2:=Hl.out
      rw [drop_at hd,mrFrom] at hl2
      have HR2:=Lib.hid (HK.out.below HB.out)
      obtain ⟨A',cap',hv,h2⟩:=HR2.out
      obtain ⟨ad,rfl,hg,hc⟩:=h2 (by omega)
      obtain ⟨rfl, -,rfl⟩:=Value.slice.inj hv
      obtain ⟨-,c1,c2⟩:=hc i d hd
      have n1:decide ((i:Int)<(ds.length:Int))=true:=by simpa using hlt
      have n2:(i:Int)<(ds.length:Int):=by omega
      have e3:wrap64 ((i:Int)+1)=(i:Int)+1:=IntWalk.wrap64_in _ (by omega)
      clear hc h2 hv Hl hd
      replace c2:wr.cell? ⟨(ad.add (i*2)).block,(ad.add (i*2)).off+1,none⟩=some (strOf d.2):=c2
      have hend: ∀W2,Below wr.heap.size wr W2→Below w.heap.size w W2:=fun W2 hb=>below_step HB.out hb
      by_cases g1:1≤d.1
      · have d1:decide (d.1<1)=false:=by simp;omega
        rw [decide_eq_true g1,Bool.true_and] at hl2
        by_cases g2:d.2.length≤40
        · have d2:decide ((40:Int)<(d.2.length:Int))=false:=by simp;omega
          rw [decide_eq_true g2,Bool.true_and] at hl2
          by_cases g3:placeZ d.1 ds 0=(i:Int)
          · have d3:(placeZ d.1 ds 0==(i:Int))=true:=by simpa using g3
            rw [decide_eq_true g3,Bool.true_and] at hl2
            have HL:=Lib.hid hl2
            clear hl2 g1 g2 g3
            go_wp2_with fail
            refine (place_calls _ ds _ hl _ HR2.out).mono ?_
            rintro e1 W1 ⟨rfl,hb1⟩
            have HB1:=Lib.hid (hend _ hb1);clear hb1
            go_wp2_with fail
            go_roundg k
            case measure=>omega
            case rel=>exact ⟨i+1,by first|rfl|(rw [e3];rfl),by omega,HL,HB1⟩
          · have d3:(placeZ d.1 ds 0==(i:Int))=false:=by simpa using g3
            rw [decide_eq_false g3,Bool.false_and] at hl2
            have HL:=Lib.hid hl2
            clear hl2 g1 g2 g3
            go_wp2_with fail
            refine (place_calls _ ds _ hl _ HR2.out).mono ?_
            rintro e1 W1 ⟨rfl,hb1⟩
            have HB1:=Lib.hid (hend _ hb1);clear hb1
            go_wp2_with fail
            go_ret
            exact ⟨by rw [←HL.out];rfl,HB1.out⟩
        · have d2:decide ((40:Int)<(d.2.length:Int))=true:=by simp;omega
          rw [decide_eq_false g2,Bool.false_and] at hl2
          have HL:=Lib.hid hl2
          clear hl2 g1 g2
          go_wp2_with fail
          go_ret
          exact ⟨by rw [←HL.out];rfl,HB.out⟩
      · have d1:decide (d.1<1)=true:=by simp;omega
        rw [decide_eq_false g1,Bool.false_and] at hl2
        have HL:=Lib.hid hl2
        clear hl2 g1
        go_wp2_with fail
        go_ret
        exact ⟨by rw [←HL.out];rfl,HB.out⟩
    · have hi:i=ds.length:=by omega
      have hl2:=Hl.out
      rw [hi,List.drop_length,mrFrom] at hl2
      have HL:=Lib.hid hl2
      have n1:decide ((i:Int)<(ds.length:Int))=false:=by simpa using hlt
      clear hl2 Hl
      go_wp2_with fail
      go_ret
      exact ⟨by rw [←HL.out];first|rfl|(show Ending.returned (Value.bool (decide ((ds.length:Int)≤10)))=_;congr 2;exact decide_eq_decide.2 (by omega)),HB.out⟩
set_option maxRecDepth 100000 in
set_option maxHeartbeats 4000000 in
theorem few_calls (v : Value) (ds : Docs) (hl : ds.length ≤ maxLen) (w : World) (h : Rd2 w v ds) :
    Calls Tryz.prog 15 #[v] w fun e w'=>e= .returned (.bool (few ds))∧Below w.heap.size w w':=by
  obtain ⟨R,hR⟩: ∃R,few ds=R:=⟨_,rfl⟩
  rw [hR]
  have HR:=Lib.hid hR;clear hR
  have HK:=Lib.hid h
  have HM:=Lib.hid hl
  clear hl
  obtain ⟨A,cap,rfl,h2⟩:=h
  clear h2
  go_enter Tryz.func15,Tryz.ntmps15
  go_wp2_with fail
  go_loopg [3,7] ds.length (fun k p q wr=> ∃(i:Nat) (n:Int),p= .int .i64 n∧q= .int .i64 (i:Int)∧i+k=ds.length∧Hid (sumW (ds.drop i) n=sumW ds 0)∧Below w.heap.size w wr)
  case atStart=>exact ⟨0,0,rfl,rfl,by omega,Lib.hid rfl,Below.refl _ _⟩
  case round=>
    obtain ⟨i,n,rfl,rfl,hk,Hl,hB⟩:=hrel
    by_cases hlt:i<ds.length
    · obtain ⟨k,rfl⟩: ∃k,gk=k+1:=⟨gk - 1,by omega⟩
      obtain ⟨d,hd⟩:=at_some hlt
      have hl2:=Hl.out
      rw [drop_at hd,sumW] at hl2
      obtain ⟨A',cap',hv,h2⟩:=HK.out.below hB
      obtain ⟨ad,rfl,hg,hc⟩:=h2 (by omega)
      obtain ⟨rfl, -,rfl⟩:=Value.slice.inj hv
      obtain ⟨-,c1,c2⟩:=hc i d hd
      have n1:decide ((i:Int)<(ds.length:Int))=true:=by simpa using hlt
      have n2:(i:Int)<(ds.length:Int):=by omega
      have e3:wrap64 ((i:Int)+1)=(i:Int)+1:=wrap_len HM.out hlt
      replace c2:wr.cell? ⟨(ad.add (i*2)).block,(ad.add (i*2)).off+1,none⟩=some (strOf d.2):=c2
      have HL:=Lib.hid hl2
      clear hc c1 h2 hv Hl hd hl2
      go_wp2_with fail
      go_roundg k
      case measure=>omega
      case rel=>exact ⟨i+1,_,rfl,by first|rfl|(rw [e3];rfl),by omega,HL,hB⟩
    · have hi:i=ds.length:=by omega
      have hl2:=Hl.out
      rw [hi,List.drop_length,sumW] at hl2
      have n1:decide ((i:Int)<(ds.length:Int))=false:=by simpa using hlt
      have HB:=Lib.hid hB
      clear Hl hB
      have hr:=HR.out
      unfold few at hr
      rw [←hl2] at hr
      by_cases g1:ds.length≤12
      · have d1:decide ((ds.length:Int)≤12)=true:=by simp;omega
        rw [decide_eq_true g1,Bool.true_and] at hr
        by_cases g2:n≤60
        · have d2:decide (n≤60)=true:=by simpa using g2
          rw [d2,Bool.true_and] at hr
          have hl5:=Lib.hid (show ds.length≤50000 by omega)
          have HR2:=Lib.hid hr
          clear g1 g2 hl2 hr
          go_wp2_with fail
          refine (mright_calls _ ds hl5.out _ (HK.out.below HB.out)).mono ?_
          rintro e1 W1 ⟨rfl,hb1⟩
          have HB1:=Lib.hid (below_step HB.out hb1);clear hb1
          go_wp2_with fail
          go_ret
          exact ⟨by rw [←HR2.out];rfl,HB1.out⟩
        · have d2:decide (n≤60)=false:=by simpa using g2
          rw [d2,Bool.false_and] at hr
          have HR2:=Lib.hid hr
          clear g1 g2 hl2 hr
          go_wp2_with fail
          go_ret
          exact ⟨by rw [←HR2.out];rfl,HB.out⟩
      · have d1:decide ((ds.length:Int)≤12)=false:=by simp;omega
        rw [decide_eq_false g1,Bool.false_and] at hr
        have HR2:=Lib.hid hr
        clear g1 hl2 hr
        go_wp2_with fail
        go_ret
        exact ⟨by rw [←HR2.out];rfl,HB.out⟩
end Go.Proofs.YtjeofpkhgmefgaaGreat
namespace Go.Proofs.YtjeofpkhgmefgaaGreat
open Go.RowKit
theorem bTable_ok: ∀{l:List (Int×Int)} {b b':Bst},bTable l b=some b'→b'.ok=true→b.ok=true
  | [],b,b',h,ho=>by cases h;exact ho
  | x::l,b,b',h,ho=>by
    unfold bTable at h
    cases ha:lAll b.s b.p.table with
    | none=>rw [ha] at h;cases h
    | some a=>
      rw [ha,Option.bind_some] at h
      split at h
      · cases hr:tAdd b.s b.p.table x.1 x.2 with
        | none=>rw [hr] at h;cases h
        | some r=>
          rw [hr,Option.bind_some] at h
          have:=bTable_ok h ho
          simp only [nextA] at this
          split at this
          · exact this
          · cases this
      · cases h
theorem bEnd_ok {b:Bst} {r:Int×Bool×Ar} (h:bEnd b=some r) (ho:r.2.1=true):b.ok=true:=by
  cases hb:b.ok with
  | true=>rfl
  | false=>
    unfold bEnd at h
    rw [hb] at h
    simp only [Bool.false_eq_true,if_false] at h
    cases hw:(dropP (dropP (dropP (dropP b.s b.p.wave) b.p.marks) b.p.spots) b.p.table).work 1073741824 with
    | none=>rw [hw] at h;cases h
    | some u=>rw [hw] at h;cases h;cases ho
theorem build_partsW {s : Ar} (hI : Inv s []) (hw : s.wait = []) {ds : Docs} (h : Right ds) (hne : ds ≠ []) (rate : Int) (hs : 10000 + 160 * (tot ds + ds.length) ≤ 8 * s.size) :
    ∃B1 B2 root s',bRows rate (rowsM ds) 0 ⟨s,true,Parts.zero,0⟩=some B1∧B1.ok=true∧bTable (docsM ds) B1=some B2∧B2.ok=true∧bEnd B2=some (root,true,s')∧Inv s' [root]∧s'.size=s.size∧root≠0∧VR s' root ds rate∧s'.wait=[]:=by
  obtain ⟨⟨root,ok,s'⟩,h1,h2,hwt,h3,h4,h5⟩:=bBuild_T hI hw h rate
  have hr:=rows_tot h
  rcases h5 with ⟨rfl,hv⟩|⟨-, -,hlt⟩
  · have hd:docsM ds≠[]:=fun e=>hne (by unfold docsM at e;simpa using e)
    unfold bBuild at h1
    rw [if_neg hd] at h1
    cases e1:bRows rate (rowsM ds) 0 ⟨s,true,Parts.zero,0⟩ with
    | none=>rw [e1] at h1;cases h1
    | some B1=>
      rw [e1,Option.bind_some] at h1
      cases e2:bTable (docsM ds) B1 with
      | none=>rw [e2] at h1;cases h1
      | some B2=>
        rw [e2,Option.bind_some] at h1
        have o2:=bEnd_ok h1 rfl
        exact ⟨B1,B2,root,s',rfl,bTable_ok e2 o2,e2,o2,h1,h2,h3,fun e=>(h4 e).elim hne (fun h=>by cases h),hv,hwt⟩
  · omega
theorem build_parts {s : Ar} (hI : Inv s []) (hw : s.wait = []) {ds : Docs} (h : Right ds) (hne : ds ≠ []) (rate : Int) (hs : 10000 + 160 * (tot ds + ds.length) ≤ 8 * s.size) :
    ∃B1 B2 root s',bRows rate (rowsM ds) 0 ⟨s,true,Parts.zero,0⟩=some B1∧B1.ok=true∧bTable (docsM ds) B1=some B2∧B2.ok=true∧bEnd B2=some (root,true,s')∧Inv s' [root]∧s'.size=s.size∧root≠0∧VR s' root ds rate:=by
  obtain ⟨B1,B2,root,s',h1,h2,h3,h4,h5,h6,h7,h8,h9, -⟩:=build_partsW hI hw h hne rate hs
  exact ⟨B1,B2,root,s',h1,h2,h3,h4,h5,h6,h7,h8,h9⟩
end Go.Proofs.YtjeofpkhgmefgaaGreat
namespace Go.Proofs.YtjeofpkhgmefgaaGreat
open Go.RowKit
attribute [local go_sem ↓] Go.wp_at_zero Go.wp_at_succ
attribute [local go_sem] str_len
variable {ap : Value} {s : Ar} {O : Nat → Prop}
theorem cell_same {w w':World} {a:Addr} (h:w'.heap[a.block]? =w.heap[a.block]?):w'.cell? a=w.cell? a:=by
 unfold World.cell?
 rw [h]
theorem Rd2.fr {w w':World} {X O O':Nat→Prop} {ad:Addr} {cap:Nat} {ds:List (Int×List UInt8)} (h:Rd2 w (.slice (some ad) ds.length cap) ds) (hF:Fr X O O' w w') (h1: ¬O ad.block) (h2: ¬X ad.block):Rd2 w' (.slice (some ad) ds.length cap) ds:=by
 obtain ⟨A,c,hv,hc⟩:=h
 obtain ⟨rfl, -,rfl⟩:=Value.slice.inj hv
 refine ⟨_,_,rfl,fun hn=> ?_⟩
 obtain ⟨ad',ha,hlt,hc⟩:=hc hn
 obtain rfl:=Option.some.inj ha
 have hb:=hF.block _ hlt h1 h2
 refine ⟨ad,rfl,Nat.lt_of_lt_of_le hlt hF.size,fun i d hd=> ?_⟩
 obtain ⟨c0,c1,c2⟩:=hc i d hd
 have hb':w'.heap[(ad.add (i*2)).block]? =w.heap[(ad.add (i*2)).block]? :=by rw [block_of_add];exact hb
 exact ⟨Nat.lt_of_lt_of_le c0 hF.size,(cell_same hb').trans c1,(cell_same (by exact hb')).trans c2⟩
theorem below_fr {w W1 W2:World} {O O':Nat→Prop} (hb:Below w.heap.size w W1) (hF:Fr noX O O' W1 W2) (hO: ∀b,O b→w.heap.size≤b):Below w.heap.size w W2:=
 ⟨hF.os.trans hb.os,hF.tape.trans hb.tape,hF.output.trans hb.output,Nat.le_trans hb.size hF.size,fun k hk=>(hF.block k (Nat.lt_of_lt_of_le hk hb.size) (fun h=>by have:=hO k h;omega) (fun h=>h)).trans (hb.block k hk)⟩
theorem bRows_ok {rate:Int}: ∀{l:List (Int×Int×Int)} {i:Int} {b b':Bst},bRows rate l i b=some b'→b'.ok=true→b.ok=true
 | [],i,b,b',h,ho=>by cases h;exact ho
 | x::l,i,b,b',h,ho=>by
  unfold bRows at h
  cases hb:b.ok with
  | true=>rfl
  | false=>rw [hb,if_neg (by decide)] at h;cases h;rw [hb] at ho;cases ho
set_option maxRecDepth 100000 in
set_option maxHeartbeats 8000000 in
theorem build_calls (rate:Int) (hr1:1≤rate) (hr2:rate≤1000) (ds:List (Int×List UInt8)) (ad:Addr) (cap:Nat) (hne:ds≠[]) (hrt:refRight (ds.map (·.2))=true) (w:World) (hD:Rd2 w (.slice (some ad) ds.length cap) ds) (hO: ¬O ad.block) (hA:AP w ap s O)
  (B1 B2:Bst) (h1:bRows rate (rowsM ds) 0 ⟨s,true,Parts.zero,0⟩=some B1) (ho1:B1.ok=true) (h2:bTable (docsM ds) B1=some B2) (ho2:B2.ok=true) (root:Int) (s':Ar) (h3:bEnd B2=some (root,true,s')):
  Calls Tryz.prog 18 #[ap, .int .i64 rate, .slice (some ad) ds.length cap] w fun e w'=>e= .returned (.tuple #[.int .i64 root, .bool true])∧Did noX ap s' O w w':=by
 have hlen:0<ds.length:=List.length_pos_iff.2 hne
 obtain ⟨hn10,h40⟩:=right_len hrt
 rw [List.length_map] at hn10
 have d0:((ds.length:Int)==0)=false:=by rw [beq_eq_false_iff_ne];omega
 have HD:=Lib.hid hD;have H1:=Lib.hid h1;have H2:=Lib.hid h2;have H3:=Lib.hid h3;have H40:=Lib.hid h40;have HO:=Lib.hid hO
 clear hD h1 h2 h3 h40 hne
 obtain ⟨ts,hts⟩: ∃ts,ts=ds.map (·.2):=⟨_,rfl⟩
 have htl:ts.length=ds.length:=by rw [hts,List.length_map]
 rw [←hts] at hrt
 have H40':Hid (∀t,t∈ts→t.length≤50000):=Lib.hid (fun t ht=>by
  obtain ⟨i,hi,rfl⟩:=List.getElem_of_mem ht
  have:=(right_len hrt).2 i
  rw [getD_at (List.getElem?_eq_getElem hi)] at this
  omega)
 have Hts:=Lib.hid hts;clear hts
 obtain ⟨q,rfl⟩:=hA.ptr
 go_enter Tryz.func18,Tryz.ntmps18
 go_wp2_with fail
 refine cg fun V0 hV_V0=> ?_
 have hF:=Fr.refl (noX) O w
 refine nnf0 hV_V0 hA hF ?_;clear hA hF;intro hn_V0 z_V0 hA hF
 obtain ⟨ka,c_ka,o_ka,l_kaV0⟩:=nN hn_V0 hV_V0 (w.heap.size)
 clear hV_V0 hn_V0
 have hAV0:=hA
 refine (texts_calls _ ds (by omega) _ (HD.out.fr hF HO.out (fun h=>h))).mono ?_
 rintro e_W0 W0 ⟨v0,rfl,hown0,hb_W0⟩
 refine bef1 hb_W0 hA hF ka ?_;clear hb_W0 hA hF ka c_ka;intro z_W0 hA hF ka c_ka
 have hge0: ∀g,v0.ownBlock=some g→V0.heap.size≤g:=fun g hg=>(hown0.lt g hg).1
 obtain ⟨hl0,A0,c0,rfl,hx0⟩:=Rk.of_own hown0
 obtain ⟨g0,cs0,T0,rfl,kx,hcs0⟩:=hx0 (by omega)
 have o_kx: ¬O g0:=fun h=>by have:=hAV0.lt h;have:=hge0 g0 rfl;omega
 have HX0:Hid (∀V:World,V.heap[g0]? =some (.cells cs0 T0 (0,0))→Rk V 1 (.slice (some ⟨g0,0,none⟩) ds.length c0) ts.length (ts.map strOf)):=Lib.hid (fun V hV=>by
  rw [Hts.out,List.length_map]
  exact ⟨hl0,_,_,rfl,fun _=>⟨g0,cs0,T0,rfl,hV,hcs0⟩⟩)
 clear hAV0 hown0 hge0 hl0 hx0 hcs0
 have c_kx:=f3 kx;have l_kxW0:=lt_of kx
 go_wp2_with fail
 refine cg fun V1 hV_V1=> ?_
 refine nef2 hV_V1 hA hF ka kx ?_;clear hA hF ka kx c_ka c_kx;intro z_V1 hA hF ka c_ka kx c_kx
 clear hV_V1
 have hAV1:=hA
 refine (sorted_calls _ ts (by omega) _ (HX0.out _ kx)).mono ?_
 rintro e_W1 W1 ⟨v1,rfl,hown1,hb_W1⟩
 refine bef2 hb_W1 hA hF ka kx ?_;clear hb_W1 hA hF ka kx c_ka c_kx;intro z_W1 hA hF ka c_ka kx c_kx
 have hge1: ∀g,v1.ownBlock=some g→V1.heap.size≤g:=fun g hg=>(hown1.lt g hg).1
 have hRpos:0<(refSorted ts).length:=by
  unfold refSorted;rw [if_pos hrt,refFold_length]
  obtain ⟨n,hn⟩: ∃n,ts.length=n+1:=⟨ts.length - 1,by omega⟩
  rw [hn,←upto_next,upto_snoc];simp
 obtain ⟨hl1,A1,c1,rfl,hx1⟩:=Rk.of_own hown1
 obtain ⟨g1,cs1,T1,rfl,kr,hcs1⟩:=hx1 hRpos
 have o_kr: ¬O g1:=fun h=>by have:=hAV1.lt h;have:=hge1 g1 rfl;omega
 have hrows:Hid (∀(i:Nat) (r:Nat×Nat),(refSorted ts)[i]? =some r→cs1[i*2]? =some (Value.int .i64 (r.1:Int))∧cs1[i*2+1]? =some (Value.int .i64 (r.2:Int))):=Lib.hid (fun (i:Nat) (r:Nat×Nat) hr=>by
  have hi:=(List.getElem?_eq_some_iff.1 hr).1
  exact ⟨(hcs1 _ (by omega)).trans (rowCells_at hr).1,(hcs1 _ (by omega)).trans (rowCells_at hr).2⟩)
 clear hAV1 hown1 hge1 hl1 hx1 hcs1
 have c_kr:=f3 kr;have l_krW1:=lt_of kr
 go_wp2_with fail
 refine cg fun V2 hV_V2=> ?_
 refine nef3 hV_V2 hA hF ka kx kr ?_;clear hA hF ka kx kr c_ka c_kx c_kr;intro z_V2 hA hF ka c_ka kx c_kx kr c_kr
 clear hV_V2
 have hAV2:=hA
 refine (symbols_calls _ ts (by omega) H40'.out _ (HX0.out _ kx)).mono ?_
 rintro e_W2 W2 ⟨v2,rfl,hown2,hb_W2⟩
 refine bef3 hb_W2 hA hF ka kx kr ?_;clear hb_W2 hA hF ka kx kr c_ka c_kx c_kr;intro z_W2 hA hF ka c_ka kx c_kx kr c_kr
 have hge2: ∀g,v2.ownBlock=some g→V2.heap.size≤g:=fun g hg=>(hown2.lt g hg).1
 obtain ⟨hl2,A2,c2,rfl,hx2⟩:=Rk.of_own hown2
 obtain ⟨g2,cs2,T2,rfl,ks,hcs2⟩:=hx2 hRpos
 have o_ks: ¬O g2:=fun h=>by have:=hAV2.lt h;have:=hge2 g2 rfl;omega
 have hsyms:Hid (∀(i:Nat) (r:Nat×Nat),(refSorted ts)[i]? =some r→cs2[i]? =some (Value.int .i64 (symOf ts r))):=Lib.hid (fun (i:Nat) (r:Nat×Nat) hr=>by
  have hi:=(List.getElem?_eq_some_iff.1 hr).1
  refine (hcs2 _ (by omega)).trans ?_
  unfold intCells;rw [List.getElem?_map,List.getElem?_map,hr];rfl)
 clear hAV2 hown2 hge2 hl2 hx2 hcs2
 have c_ks:=f3 ks;have l_ksW2:=lt_of ks
 have hl2:=lt_of ks
 have hl1:=lt_of kr
 go_wp2_with fail
 refine wg fun V3 hV_V3=> ?_
 refine nnf3 hV_V3 hA hF ka kr ks ?_;clear hA hF ka kr ks c_ka c_kx c_kr c_ks kx;intro hn_V3 z_V3 hA hF ka c_ka kr c_kr ks c_ks
 obtain ⟨kp,c_kp,o_kp,l_kpV3⟩:=nN hn_V3 hV_V3 (W2.heap.size)
 obtain ⟨kt,c_kt,o_kt,l_ktV3⟩:=nN hn_V3 hV_V3 (W2.heap.size+1)
 clear hV_V3 hn_V3
 obtain ⟨R,hR⟩: ∃R,R=refSorted ts:=⟨_,rfl⟩
 rw [←hR] at hrows hsyms hRpos
 have hsm:R.length≤500:=by rw [hR];exact sorted_small ts
 have hlt1: ∀(i:Nat) (r:Nat×Nat),R[i]? =some r→ ∃d,ds[r.1]? =some d∧(rowsM ds)[i]? =some (d.1,(r.2:Int),symOf ts r):=by
  intro i r hr
  obtain ⟨t,ht, -⟩:=sorted_valid (hR▸List.mem_of_getElem? hr)
  have h1:=(List.getElem?_eq_some_iff.1 ht).1
  obtain ⟨d,hd⟩:=at_some (show r.1<ds.length by omega)
  refine ⟨d,hd,?_⟩
  unfold rowsM
  rw [←Hts.out,←hR,List.getElem?_map,hr]
  simp [List.getD,hd]
 have hLlen:(rowsM ds).length=R.length:=by unfold rowsM;rw [←Hts.out,←hR,List.length_map]
 have Hlt1:=Lib.hid hlt1;have HR:=Lib.hid hR
 simp only [←hR]
 clear hlt1 hR
 have hneq:g1≠W2.heap.size∧g1≠W2.heap.size+1∧g2≠W2.heap.size∧g2≠W2.heap.size+1∧w.heap.size≠W2.heap.size∧w.heap.size≠W2.heap.size+1∧w.heap.size<W2.heap.size:=by
  have:=lt_of ka
  omega
 obtain ⟨ne1,ne2,ne3,ne4,ne5,ne6,hww⟩:=hneq
 have hY: ∀x,twoX W2.heap.size (W2.heap.size+1) x→w.heap.size≤x:=by
  intro x hx
  rcases hx with rfl|rfl<;>omega
 have hdoc:Hid (Rd2 V3 (.slice (some ad) ds.length cap) ds):=Lib.hid (HD.out.fr hF HO.out (fun h=>h))
 have HF3:=Lib.hid hF
 go_loopg [14,40] R.length (fun k p1 p2 wr=> ∃(i:Nat) (st:Bst) (O':Nat→Prop),p1= .int .i64 st.n∧p2= .int .i64 (i:Int)∧i+k=R.length∧AP wr (.pointer q) st.s O'∧Hid (Fr noX O O' w wr)
  ∧wr.heap[W2.heap.size]? =some (.cells #[.int .i64 st.p.wave, .int .i64 st.p.marks, .int .i64 st.p.spots, .int .i64 st.p.table] 30 (0,0))∧wr.heap[W2.heap.size+1]? =some (.cells #[.bool st.ok] 4 (0,0))∧wr.heap[w.heap.size]? =some (.cells #[.pointer q] 25 (0,0))
  ∧wr.heap[g1]? =some (.cells cs1 T1 (0,0))∧wr.heap[g2]? =some (.cells cs2 T2 (0,0))∧ ¬O' (W2.heap.size)∧ ¬O' (W2.heap.size+1)∧ ¬O' w.heap.size∧ ¬O' g1∧ ¬O' g2∧ ¬O' ad.block∧Hid (Rd2 wr (.slice (some ad) ds.length cap) ds)∧Hid (bRows rate ((rowsM ds).drop i) i st=some B1))
 case atStart=>exact ⟨0,_,O,rfl,rfl,by omega,hA,HF3,kp,kt,ka,kr,ks,o_kp,o_kt,o_ka,o_kr,o_ks,HO.out,hdoc,H1⟩
 case round=>
  clear ka kr ks kp kt c_ka c_kr c_ks c_kp c_kt hA hF hdoc HF3 o_kp o_kt o_ka o_kr o_ks
  obtain ⟨i,st,O1,rfl,rfl,hk,hA,HF,kp,kt,ka,kr,ks,o_kp,o_kt,o_ka,o_kr,o_ks,oD,hdoc,Hb⟩:=hrel
  have hok:=bRows_ok Hb.out ho1
  by_cases hlt:i<R.length
  ·
   obtain ⟨k,rfl⟩: ∃k,gk=k+1:=⟨gk - 1,by omega⟩
   obtain ⟨r,hr⟩:=at_some hlt
   obtain ⟨d,hd,hx⟩:=Hlt1.out i r hr
   have hb:=Hb.out
   rw [drop_at hx] at hb
   unfold bRows at hb
   rw [hok,if_pos rfl] at hb
   obtain ⟨st2,hst2,hb2⟩:=Option.bind_eq_some_iff.1 hb
   unfold bStep at hst2
   obtain ⟨r1,hr1',hst2⟩:=Option.bind_eq_some_iff.1 hst2
   dsimp only at hr1' hst2
   obtain ⟨r2,hr2',hst2⟩:=Option.bind_eq_some_iff.1 hst2
   obtain ⟨t1,ht1⟩: ∃t,nextA st.ok st.p.wave r1=t:=⟨_,rfl⟩
   rw [ht1] at hr2' hst2
   obtain ⟨t2,ht2⟩: ∃t,nextA t1.2.1 st.p.marks r2=t:=⟨_,rfl⟩
   rw [ht2] at hst2
   have Hr1:=Lib.hid hr1';have Hr2:=Lib.hid hr2';have Hst2:=Lib.hid hst2;have Hb2:=Lib.hid hb2;have Ht1:=Lib.hid ht1;have Ht2:=Lib.hid ht2
   obtain ⟨rc1,rc2⟩:=hrows.out i r hr
   have rc3:=hsyms.out i r hr
   have n1:decide ((i:Int)<(R.length:Int))=true:=by simpa using hlt
   have n2:(i:Int)<(R.length:Int):=by omega
   have E3:=Lib.hid (step_wrap i 500 (by omega) (by omega))
   have hd1:=(List.getElem?_eq_some_iff.1 hd).1
   have n3:(r.1:Int)<(ds.length:Int):=by omega
   have Hd:=Lib.hid hd;have Hlt:=Lib.hid hlt
   clear hb hr1' hr2' hst2 hb2 ht1 ht2 hr hx hd hlt Hb hd1
   have hF:=Fr.refl ((twoX W2.heap.size (W2.heap.size+1))) O1 wr
   have c_ka:=f3 ka;have l_kawr:=lt_of ka
   have c_kr:=f3 kr;have l_krwr:=lt_of kr
   have c_ks:=f3 ks;have l_kswr:=lt_of ks
   have c_kp:=f3 kp;have l_kpwr:=lt_of kp
   have c_kt:=f3 kt;have l_ktwr:=lt_of kt
   go_wp2_with fail
   refine wg fun V4 hV_V4=> ?_
   refine nef5 hV_V4 hA hF ka kr ks kp kt ?_;clear hA hF ka kr ks kp kt c_ka c_kr c_ks c_kp c_kt;intro z_V4 hA hF ka c_ka kr c_kr ks c_ks kp c_kp kt c_kt
   clear hV_V4
   refine dr (fun v=>Sm v V4 (w.heap.size)∧Sm v V4 (g1)∧Sm v V4 (g2)∧Sm v V4 (W2.heap.size)∧Sm v V4 (W2.heap.size+1)∧(V4.heap.size≤v.heap.size)∧True) ⟨fun _=>rfl,fun _=>rfl,fun _=>rfl,fun _=>rfl,fun _=>rfl,Nat.le_refl _,trivial⟩ fun V4d hV_V4d hHeld=> ?_
   have v_ka:=c_ka.1;have v_kr:=c_kr.1;have v_ks:=c_ks.1;have v_kp:=c_kp.1;have v_kt:=c_kt.1
   refine nef5 hV_V4d hA hF ka kr ks kp kt ?_;clear hA hF ka kr ks kp kt c_ka c_kr c_ks c_kp c_kt;intro z_V4d hA hF ka c_ka kr c_kr ks c_ks kp c_kp kt c_kt
   clear hV_V4d
   refine ta 0 hHeld ?_
   refine ta 1 hHeld ?_
   refine ta 2 hHeld ?_
   refine ta 3 hHeld ?_
   refine ta 4 hHeld ?_
   refine ta 5 hHeld ?_
   refine ta 6 hHeld ?_
   refine ta 7 hHeld ?_
   refine rd 8 rfl fun K hK=> ?_
   go_simp
   try simp only [IntWalk.i64_left]
   refine wC (wInsert_calls st.s O1 _ _ _ r1 Hr1.out _ hA) fun W5 O2 hA_W5 hf_W5=> ?_
   refine wif5 hf_W5 hF ka o_ka kr o_kr ks o_ks kp o_kp kt o_kt ?_;clear hA hF ka o_ka kr o_kr ks o_ks kp o_kp kt o_kt c_ka c_kr c_ks c_kp c_kt hf_W5;intro z_W5 hF ka c_ka o_ka kr c_kr o_kr ks c_ks o_ks kp c_kp o_kp kt c_kt o_kt;have hA:=hA_W5;clear hA_W5
   refine ho hK ⟨vv c_ka v_ka,vv c_kr v_kr,vv c_ks v_ks,vv c_kp v_kp,vv c_kt v_kt,by omega,trivial⟩ fun hHeld=> ?_
   clear hK K
   refine ta 9 hHeld ?_
   refine ta 10 hHeld ?_
   refine ta 11 hHeld ?_
   refine rd 12 rfl fun K hK=> ?_
   go_simp
   refine ho hK hHeld fun hHeld=> ?_
   clear hK K
   refine rd 13 rfl fun K hK=> ?_
   go_simp
   refine ho hK hHeld fun hHeld=> ?_
   clear hK K
   refine wd ?_
   go_wp2_with fail
   refine cg fun V5 hV_V5=> ?_
   refine nef5 hV_V5 hA hF ka kr ks kp kt ?_;clear hA hF ka kr ks kp kt c_ka c_kr c_ks c_kp c_kt;intro z_V5 hA hF ka c_ka kr c_kr ks c_ks kp c_kp kt c_kt
   clear hV_V5
   refine tC (next_t (W2.heap.size+1) w.heap.size st.ok st.p.wave r1 t1 Ht1.out _ hA kt ka o_kt o_ka ne6) fun W6 O3 hT hf=> ?_
   refine tx4 hT.hA hT.blk hT.no hf hF ka o_ka kr o_kr ks o_ks kp o_kp ?_;clear hA hF kt c_kt o_kt ka o_ka kr o_kr ks o_ks kp o_kp c_ka c_kr c_ks c_kp hT hf;intro z_W6 hA hF kt c_kt o_kt ka c_ka o_ka kr c_kr o_kr ks c_ks o_ks kp c_kp o_kp
   go_wp2_with fail
   refine cg fun V6 hV_V6=> ?_
   refine nef5 hV_V6 hA hF ka kr ks kp kt ?_;clear hA hF ka kr ks kp kt c_ka c_kr c_ks c_kp c_kt;intro z_V6 hA hF ka c_ka kr c_kr ks c_ks kp c_kp kt c_kt
   clear hV_V6
   have hadlt:ad.block<w.heap.size:=by
    obtain ⟨A,c,hv,hc⟩:=HD.out
    obtain ⟨rfl, -,rfl⟩:=Value.slice.inj hv
    obtain ⟨ad',ha,hlt, -⟩:=hc hlen
    obtain rfl:=Option.some.inj ha
    exact hlt
   have hX: ¬twoX W2.heap.size (W2.heap.size+1) ad.block:=by unfold twoX;omega
   by_cases hm:(r.2:Int) % rate=0
   ·
    have m1:((r.2:Int) % rate==0)=true:=by rw [hm];rfl
    have hst:=Hst2.out
    rw [if_pos hm] at hst
    obtain ⟨r3,hr3',hst⟩:=Option.bind_eq_some_iff.1 hst
    obtain ⟨u,hu,hst⟩:=Option.map_eq_some_iff.1 hst
    obtain ⟨t3,ht3⟩: ∃t,nextA t2.2.1 st.p.spots r3=t:=⟨_,rfl⟩
    rw [ht3] at hu hst
    have Hr3:=Lib.hid hr3';have Hu:=Lib.hid hu;have Hst:=Lib.hid hst;have Ht3:=Lib.hid ht3;have Hm:=Lib.hid hm
    have e2:decide ((r.2:Int) % rate=0)=((r.2:Int) % rate==0):=rfl
    have Hr2':Hid (bInsert t1.2.2 st.p.marks (i:Int) ((r.2:Int) % rate==0)=some r2):=Lib.hid Hr2.out
    rw [m1] at Hr2'⊢
    clear hst hr3' hu ht3 hm e2
    refine wC (bInsert_calls (s:=t1.2.2) _ _ _ r2 Hr2'.out _ hA) fun W7 O4 hA_W7 hf_W7=> ?_
    refine wif5 hf_W7 hF ka o_ka kr o_kr ks o_ks kp o_kp kt o_kt ?_;clear hA hF ka o_ka kr o_kr ks o_ks kp o_kp kt o_kt c_ka c_kr c_ks c_kp c_kt hf_W7;intro z_W7 hF ka c_ka o_ka kr c_kr o_kr ks c_ks o_ks kp c_kp o_kp kt c_kt o_kt;have hA:=hA_W7;clear hA_W7
    go_wp2_with fail
    refine cg fun V7 hV_V7=> ?_
    refine nef5 hV_V7 hA hF ka kr ks kp kt ?_;clear hA hF ka kr ks kp kt c_ka c_kr c_ks c_kp c_kt;intro z_V7 hA hF ka c_ka kr c_kr ks c_ks kp c_kp kt c_kt
    clear hV_V7
    refine tC (next_t (W2.heap.size+1) w.heap.size t1.2.1 st.p.marks r2 t2 Ht2.out _ hA kt ka o_kt o_ka ne6) fun W8 O5 hT hf=> ?_
    refine tx4 hT.hA hT.blk hT.no hf hF ka o_ka kr o_kr ks o_ks kp o_kp ?_;clear hA hF kt c_kt o_kt ka o_ka kr o_kr ks o_ks kp o_kp c_ka c_kr c_ks c_kp hT hf;intro z_W8 hA hF kt c_kt o_kt ka c_ka o_ka kr c_kr o_kr ks c_ks o_ks kp c_kp o_kp
    go_wp2_with fail
    refine wg fun V8 hV_V8=> ?_
    refine nef5 hV_V8 hA hF ka kr ks kp kt ?_;clear hA hF ka kr ks kp kt c_ka c_kr c_ks c_kp c_kt;intro z_V8 hA hF ka c_ka kr c_kr ks c_ks kp c_kp kt c_kt
    clear hV_V8
    obtain ⟨c_d_lt,c_d, -⟩:(ad.add (r.1*2)).block<V8.heap.size∧V8.cell? (ad.add (r.1*2))=some (.int .i64 d.1)∧True:=by
     obtain ⟨A,c,hv,hc⟩:=hdoc.out.fr hF oD hX
     obtain ⟨rfl, -,rfl⟩:=Value.slice.inj hv
     obtain ⟨ad',ha,hlt,hc⟩:=hc hlen
     obtain rfl:=Option.some.inj ha
     obtain ⟨q1,q2, -⟩:=hc r.1 d Hd.out
     exact ⟨q1,q2,trivial⟩
    have c_d_no: ¬O5 (ad.add (r.1*2)).block:=by
     rw [block_of_add]
     exact hF.not_own (by have:=hF.size;omega) oD
    refine dr (fun v=>(v.cell? (ad.add (r.1*2))=some (.int .i64 d.1))∧Sm v V8 (w.heap.size)∧Sm v V8 (g1)∧Sm v V8 (g2)∧Sm v V8 (W2.heap.size)∧Sm v V8 (W2.heap.size+1)∧(V8.heap.size≤v.heap.size)∧True) ⟨c_d,fun _=>rfl,fun _=>rfl,fun _=>rfl,fun _=>rfl,fun _=>rfl,Nat.le_refl _,trivial⟩ fun V8d hV_V8d hHeld=> ?_
    have v_ka:=c_ka.1;have v_kr:=c_kr.1;have v_ks:=c_ks.1;have v_kp:=c_kp.1;have v_kt:=c_kt.1
    replace c_d:V8d.cell? (ad.add (r.1*2))=some (.int .i64 d.1):=by rw [hV_V8d];exact c_d
    replace c_d_lt:((ad.add (r.1*2))).block<V8d.heap.size:=by rw [hV_V8d];exact c_d_lt
    refine nef5 hV_V8d hA hF ka kr ks kp kt ?_;clear hA hF ka kr ks kp kt c_ka c_kr c_ks c_kp c_kt;intro z_V8d hA hF ka c_ka kr c_kr ks c_ks kp c_kp kt c_kt
    clear hV_V8d
    refine ta 0 hHeld ?_
    refine ta 1 hHeld ?_
    refine ta 2 hHeld ?_
    refine ta 3 hHeld ?_
    refine ta 4 hHeld ?_
    refine ta 5 hHeld ?_
    refine ta 6 hHeld ?_
    refine ta 7 hHeld ?_
    refine ta 8 hHeld ?_
    refine ta 9 hHeld ?_
    refine ta 10 hHeld ?_
    refine ta 11 hHeld ?_
    refine ta 12 hHeld ?_
    refine ta 13 hHeld ?_
    refine ta 14 hHeld ?_
    refine ta 15 hHeld ?_
    refine ta 16 hHeld ?_
    refine ta 17 hHeld ?_
    refine ta 18 hHeld ?_
    refine rd 19 rfl fun K hK=> ?_
    go_simp
    try simp only [IntWalk.i64_left]
    refine wC (lInsert_calls (s:=t2.2.2) _ _ (d.1,(r.2:Int)) r3 Hr3.out _ hA) fun W9 O6 hA_W9 hf_W9=> ?_
    have q_ka:=hf_W9.keep ka o_ka (fun h=>h)
    have q_kr:=hf_W9.keep kr o_kr (fun h=>h)
    have q_ks:=hf_W9.keep ks o_ks (fun h=>h)
    have q_kp:=hf_W9.keep kp o_kp (fun h=>h)
    have q_kt:=hf_W9.keep kt o_kt (fun h=>h)
    replace o_ka:=hf_W9.not_own (lt_of ka) o_ka
    clear ka c_ka;have ka:=q_ka;clear q_ka
    have c_ka:=f3 ka;have l_kaW9:=lt_of ka
    replace o_kr:=hf_W9.not_own (lt_of kr) o_kr
    clear kr c_kr;have kr:=q_kr;clear q_kr
    have c_kr:=f3 kr;have l_krW9:=lt_of kr
    replace o_ks:=hf_W9.not_own (lt_of ks) o_ks
    clear ks c_ks;have ks:=q_ks;clear q_ks
    have c_ks:=f3 ks;have l_ksW9:=lt_of ks
    replace o_kp:=hf_W9.not_own (lt_of kp) o_kp
    clear kp c_kp;have kp:=q_kp;clear q_kp
    have c_kp:=f3 kp;have l_kpW9:=lt_of kp
    replace o_kt:=hf_W9.not_own (lt_of kt) o_kt
    clear kt c_kt;have kt:=q_kt;clear q_kt
    have c_kt:=f3 kt;have l_ktW9:=lt_of kt
    replace c_d:=(cell_same (hf_W9.block _ c_d_lt c_d_no (fun h=>h))).trans c_d
    clear c_d_lt c_d_no
    replace hF:=hF.trans hf_W9.widen
    have z_W9:=hf_W9.size
    clear hA hf_W9;have hA:=hA_W9;clear hA_W9
    refine ho hK ⟨c_d,vv c_ka v_ka,vv c_kr v_kr,vv c_ks v_ks,vv c_kp v_kp,vv c_kt v_kt,by omega,trivial⟩ fun hHeld=> ?_
    clear hK K
    refine ta 20 hHeld ?_
    refine ta 21 hHeld ?_
    refine ta 22 hHeld ?_
    refine rd 23 rfl fun K hK=> ?_
    go_simp
    refine ho hK hHeld fun hHeld=> ?_
    clear hK K
    refine rd 24 rfl fun K hK=> ?_
    go_simp
    refine ho hK hHeld fun hHeld=> ?_
    clear hK K
    refine wd ?_
    go_wp2_with fail
    refine cg fun V9 hV_V9=> ?_
    refine nef5 hV_V9 hA hF ka kr ks kp kt ?_;clear hA hF ka kr ks kp kt c_ka c_kr c_ks c_kp c_kt;intro z_V9 hA hF ka c_ka kr c_kr ks c_ks kp c_kp kt c_kt
    clear hV_V9
    refine tC (next_t (W2.heap.size+1) w.heap.size t2.2.1 st.p.spots r3 t3 Ht3.out _ hA kt ka o_kt o_ka ne6) fun W10 O7 hT hf=> ?_
    refine tx4 hT.hA hT.blk hT.no hf hF ka o_ka kr o_kr ks o_ks kp o_kp ?_;clear hA hF kt c_kt o_kt ka o_ka kr o_kr ks o_ks kp o_kp c_ka c_kr c_ks c_kp hT hf;intro z_W10 hA hF kt c_kt o_kt ka c_ka o_ka kr c_kr o_kr ks c_ks o_ks kp c_kp o_kp
    go_wp2_with fail
    refine cg fun V10 hV_V10=> ?_
    refine nef5 hV_V10 hA hF ka kr ks kp kt ?_;clear hA hF ka kr ks kp kt c_ka c_kr c_ks c_kp c_kt;intro z_V10 hA hF ka c_ka kr c_kr ks c_ks kp c_kp kt c_kt
    clear hV_V10
    refine wC (work_calls (s:=t3.2.2) 1073741824 u Hu.out _ hA) fun W11 O8 hA_W11 hf_W11=> ?_
    refine wif5 hf_W11 hF ka o_ka kr o_kr ks o_ks kp o_kp kt o_kt ?_;clear hA hF ka o_ka kr o_kr ks o_ks kp o_kp kt o_kt c_ka c_kr c_ks c_kp c_kt hf_W11;intro z_W11 hF ka c_ka o_ka kr c_kr o_kr ks c_ks o_ks kp c_kp o_kp kt c_kt o_kt;have hA:=hA_W11;clear hA_W11
    obtain rfl:=Hst.out
    have HF2:=Lib.hid (HF.out.trans_own hF hY)
    have hdoc2:=Lib.hid (hdoc.out.fr hF oD hX)
    have oD2:=hF.not_own (by have:=HF.out.size;omega) oD
    have HA2:=Lib.hid hA
    clear hF hdoc oD hA
    go_wp2_with fail
    go_roundg k
    case measure=>omega
    case rel=>exact ⟨i+1,_,O8,rfl,by first|rfl|(rw [E3.out];rfl),by omega,HA2.out,HF2,kp,kt,ka,kr,ks,o_kp,o_kt,o_ka,o_kr,o_ks,oD2,hdoc2,Lib.hid (by exact Hb2.out)⟩
   ·
    have m1:((r.2:Int) % rate==0)=false:=by rw [beq_eq_false_iff_ne];exact hm
    have hst:=Hst2.out
    rw [if_neg hm] at hst
    obtain ⟨u,hu,hst⟩:=Option.map_eq_some_iff.1 hst
    have Hu:=Lib.hid hu;have Hst:=Lib.hid hst;have Hm:=Lib.hid hm
    have Hr2':Hid (bInsert t1.2.2 st.p.marks (i:Int) ((r.2:Int) % rate==0)=some r2):=Lib.hid Hr2.out
    rw [m1] at Hr2'⊢
    clear hst hu hm
    refine wC (bInsert_calls (s:=t1.2.2) _ _ _ r2 Hr2'.out _ hA) fun W7 O4 hA_W7 hf_W7=> ?_
    refine wif5 hf_W7 hF ka o_ka kr o_kr ks o_ks kp o_kp kt o_kt ?_;clear hA hF ka o_ka kr o_kr ks o_ks kp o_kp kt o_kt c_ka c_kr c_ks c_kp c_kt hf_W7;intro z_W7 hF ka c_ka o_ka kr c_kr o_kr ks c_ks o_ks kp c_kp o_kp kt c_kt o_kt;have hA:=hA_W7;clear hA_W7
    go_wp2_with fail
    refine cg fun V7 hV_V7=> ?_
    refine nef5 hV_V7 hA hF ka kr ks kp kt ?_;clear hA hF ka kr ks kp kt c_ka c_kr c_ks c_kp c_kt;intro z_V7 hA hF ka c_ka kr c_kr ks c_ks kp c_kp kt c_kt
    clear hV_V7
    refine tC (next_t (W2.heap.size+1) w.heap.size t1.2.1 st.p.marks r2 t2 Ht2.out _ hA kt ka o_kt o_ka ne6) fun W8 O5 hT hf=> ?_
    refine tx4 hT.hA hT.blk hT.no hf hF ka o_ka kr o_kr ks o_ks kp o_kp ?_;clear hA hF kt c_kt o_kt ka o_ka kr o_kr ks o_ks kp o_kp c_ka c_kr c_ks c_kp hT hf;intro z_W8 hA hF kt c_kt o_kt ka c_ka o_ka kr c_kr o_kr ks c_ks o_ks kp c_kp o_kp
    go_wp2_with fail
    refine cg fun V8 hV_V8=> ?_
    refine nef5 hV_V8 hA hF ka kr ks kp kt ?_;clear hA hF ka kr ks kp kt c_ka c_kr c_ks c_kp c_kt;intro z_V8 hA hF ka c_ka kr c_kr ks c_ks kp c_kp kt c_kt
    clear hV_V8
    refine wC (work_calls (s:=t2.2.2) 1073741824 u Hu.out _ hA) fun W11 O8 hA_W11 hf_W11=> ?_
    refine wif5 hf_W11 hF ka o_ka kr o_kr ks o_ks kp o_kp kt o_kt ?_;clear hA hF ka o_ka kr o_kr ks o_ks kp o_kp kt o_kt c_ka c_kr c_ks c_kp c_kt hf_W11;intro z_W11 hF ka c_ka o_ka kr c_kr o_kr ks c_ks o_ks kp c_kp o_kp kt c_kt o_kt;have hA:=hA_W11;clear hA_W11
    obtain rfl:=Hst.out
    have HF2:=Lib.hid (HF.out.trans_own hF hY)
    have hdoc2:=Lib.hid (hdoc.out.fr hF oD hX)
    have oD2:=hF.not_own (by have:=HF.out.size;omega) oD
    have HA2:=Lib.hid hA
    clear hF hdoc oD hA
    go_wp2_with fail
    go_roundg k
    case measure=>omega
    case rel=>exact ⟨i+1,(⟨u.2,t2.2.1,⟨t1.1,t2.1,st.p.spots,st.p.table⟩,st.n⟩:Bst),O8,rfl,by first|rfl|(rw [E3.out];rfl),by omega,HA2.out,HF2,kp,kt,ka,kr,ks,o_kp,o_kt,o_ka,o_kr,o_ks,oD2,hdoc2,Lib.hid (by exact Hb2.out)⟩
  ·
   obtain rfl:i=R.length:=by omega
   have hb:=Hb.out
   rw [List.drop_of_length_le (by omega)] at hb
   unfold bRows at hb
   obtain rfl:=Option.some.inj hb
   have n1:decide ((R.length:Int)<(R.length:Int))=false:=by simp
   clear hb Hb hlt hk
   go_wp2_with fail
   go_loopg [126] ds.length (fun k p1 wr=> ∃(i:Nat) (st:Bst) (O':Nat→Prop),p1= .int .i64 (i:Int)∧i+k=ds.length∧AP wr (.pointer q) st.s O'∧Hid (Fr noX O O' w wr)
    ∧wr.heap[W2.heap.size]? =some (.cells #[.int .i64 st.p.wave, .int .i64 st.p.marks, .int .i64 st.p.spots, .int .i64 st.p.table] 30 (0,0))∧wr.heap[W2.heap.size+1]? =some (.cells #[.bool st.ok] 4 (0,0))∧wr.heap[w.heap.size]? =some (.cells #[.pointer q] 25 (0,0))
    ∧ ¬O' (W2.heap.size)∧ ¬O' (W2.heap.size+1)∧ ¬O' w.heap.size∧ ¬O' ad.block∧Hid (Rd2 wr (.slice (some ad) ds.length cap) ds)∧Hid (bTable ((docsM ds).drop i) st=some B2))
   case atStart=>exact ⟨0,_,O1,rfl,by omega,hA,HF,kp,kt,ka,o_kp,o_kt,o_ka,oD,hdoc,H2⟩
   case round=>
    clear hA HF kp kt ka kr ks o_kp o_kt o_ka o_kr o_ks oD hdoc
    obtain ⟨i,st,O1,rfl,hk,hA,HF,kp,kt,ka,o_kp,o_kt,o_ka,oD,hdoc,Hb⟩:=hrel
    have hadlt:ad.block<w.heap.size:=by
     obtain ⟨A,c,hv,hc⟩:=HD.out
     obtain ⟨rfl, -,rfl⟩:=Value.slice.inj hv
     obtain ⟨ad',ha,hlt, -⟩:=hc hlen
     obtain rfl:=Option.some.inj ha
     exact hlt
    have hX: ¬twoX W2.heap.size (W2.heap.size+1) ad.block:=by unfold twoX;omega
    by_cases hlt:i<ds.length
    ·
     obtain ⟨k,rfl⟩: ∃k,gk=k+1:=⟨gk - 1,by omega⟩
     obtain ⟨d,hd⟩:=at_some hlt
     have hx:(docsM ds)[i]? =some (d.1,(d.2.length:Int)):=by unfold docsM;rw [List.getElem?_map,hd];rfl
     have hb:=Hb.out
     rw [drop_at hx] at hb
     unfold bTable at hb
     obtain ⟨a,ha,hb⟩:=Option.bind_eq_some_iff.1 hb
     have hla:a.length≤50000:=by
      by_cases h:a.length≤50000
      ·
       exact h
      ·
       rw [if_neg h] at hb;cases hb
     rw [if_pos hla] at hb
     obtain ⟨r,hr,hb⟩:=Option.bind_eq_some_iff.1 hb
     obtain ⟨t,ht⟩: ∃t,nextA st.ok st.p.table r=t:=⟨_,rfl⟩
     rw [ht] at hb
     dsimp only at hr
     have Ha:=Lib.hid ha;have Hr:=Lib.hid hr;have Hb2:=Lib.hid hb;have Ht:=Lib.hid ht
     have m1:decide ((i:Int)<(ds.length:Int))=true:=by simpa using hlt
     have m2:(i:Int)<(ds.length:Int):=by omega
     have E3:=Lib.hid (step_wrap i 500 (by omega) (by omega))
     obtain ⟨cd1,cd2⟩:wr.cell? (ad.add (i*2))=some (.int .i64 d.1)∧wr.cell? ⟨(ad.add (i*2)).block,(ad.add (i*2)).off+1,none⟩=some (.string ⟨d.2.toArray⟩):=by
      obtain ⟨A,c,hv,hc⟩:=hdoc.out
      obtain ⟨rfl, -,rfl⟩:=Value.slice.inj hv
      obtain ⟨ad',ha,hlt,hc⟩:=hc hlen
      obtain rfl:=Option.some.inj ha
      obtain ⟨-,q1,q2⟩:=hc i d hd
      exact ⟨q1,q2⟩
     clear hb ha hr ht hd hx hlt Hb
     have hF:=Fr.refl ((twoX W2.heap.size (W2.heap.size+1))) O1 wr
     have c_ka:=f3 ka;have l_kawr:=lt_of ka
     have c_kp:=f3 kp;have l_kpwr:=lt_of kp
     have c_kt:=f3 kt;have l_ktwr:=lt_of kt
     go_wp2_with fail
     refine cg fun V4 hV_V4=> ?_
     refine nef3 hV_V4 hA hF ka kp kt ?_;clear hA hF ka kp kt c_ka c_kp c_kt;intro z_V4 hA hF ka c_ka kp c_kp kt c_kt
     clear hV_V4
     refine wC (tAdd_calls _ _ _ a Ha.out hla r Hr.out _ hA) fun W5 O2 hA_W5 hf_W5=> ?_
     refine wif3 hf_W5 hF ka o_ka kp o_kp kt o_kt ?_;clear hA hF ka o_ka kp o_kp kt o_kt c_ka c_kp c_kt hf_W5;intro z_W5 hF ka c_ka o_ka kp c_kp o_kp kt c_kt o_kt;have hA:=hA_W5;clear hA_W5
     go_wp2_with fail
     refine cg fun V5 hV_V5=> ?_
     refine nef3 hV_V5 hA hF ka kp kt ?_;clear hA hF ka kp kt c_ka c_kp c_kt;intro z_V5 hA hF ka c_ka kp c_kp kt c_kt
     clear hV_V5
     refine tC (next_t (W2.heap.size+1) w.heap.size st.ok st.p.table r t Ht.out _ hA kt ka o_kt o_ka ne6) fun W6 O3 hT hf=> ?_
     refine tx2 hT.hA hT.blk hT.no hf hF ka o_ka kp o_kp ?_;clear hA hF kt c_kt o_kt ka o_ka kp o_kp c_ka c_kp hT hf;intro z_W6 hA hF kt c_kt o_kt ka c_ka o_ka kp c_kp o_kp
     clear cd1 cd2
     go_wp2_with fail
     refine handed_gen fun V6 hV_V6=> ?_
     refine nef3 hV_V6 hA hF ka kp kt ?_;clear hA hF ka kp kt c_ka c_kp c_kt;intro z_V6 hA hF ka c_ka kp c_kp kt c_kt
     clear hV_V6
     have HF2:=Lib.hid (HF.out.trans_own hF hY)
     have hdoc2:=Lib.hid (hdoc.out.fr hF oD hX)
     have oD2:=hF.not_own (by have:=HF.out.size;omega) oD
     go_roundg k
     case measure=>omega
     case rel=>exact ⟨i+1,(⟨t.2.2,t.2.1,⟨st.p.wave,st.p.marks,st.p.spots,t.1⟩,st.n⟩:Bst),O3,by first|rfl|(rw [E3.out];rfl),by omega,hA,HF2,kp,kt,ka,o_kp,o_kt,o_ka,oD2,hdoc2,Lib.hid (by exact Hb2.out)⟩
    ·
     obtain rfl:i=ds.length:=by omega
     have hDlen:(docsM ds).length=ds.length:=by unfold docsM;rw [List.length_map]
     have hb:=Hb.out
     rw [List.drop_of_length_le (by omega)] at hb
     unfold bTable at hb
     obtain rfl:=Option.some.inj hb
     have m1:decide ((ds.length:Int)<(ds.length:Int))=false:=by simp
     have h3:=H3.out
     unfold bEnd at h3
     rw [ho2,if_pos rfl] at h3
     obtain ⟨t4,ht4⟩: ∃t,nextA true 0 (vMake st.s st.p)=t:=⟨_,rfl⟩
     rw [ht4] at h3
     dsimp only at h3
     obtain ⟨u,hu,h3⟩:=Option.map_eq_some_iff.1 h3
     rw [ho2] at kt
     have Hu:=Lib.hid hu;have H3':=Lib.hid h3;have Ht4:=Lib.hid ht4
     have hok4:t4.2.1=true:=congrArg (fun x=>x.2.1) h3
     clear hb Hb hlt hk h3 hu ht4
     have hF:=Fr.refl ((twoX W2.heap.size (W2.heap.size+1))) O1 wr
     have c_ka:=f3 ka;have l_kawr:=lt_of ka
     have c_kp:=f3 kp;have l_kpwr:=lt_of kp
     have c_kt:=f3 kt;have l_ktwr:=lt_of kt
     go_wp2_with fail
     refine cg fun V4 hV_V4=> ?_
     refine nef3 hV_V4 hA hF ka kp kt ?_;clear hA hF ka kp kt c_ka c_kp c_kt;intro z_V4 hA hF ka c_ka kp c_kp kt c_kt
     clear hV_V4
     refine wC (vMake_calls st.p _ hA) fun W5 O2 hA_W5 hf_W5=> ?_
     refine wif3 hf_W5 hF ka o_ka kp o_kp kt o_kt ?_;clear hA hF ka o_ka kp o_kp kt o_kt c_ka c_kp c_kt hf_W5;intro z_W5 hF ka c_ka o_ka kp c_kp o_kp kt c_kt o_kt;have hA:=hA_W5;clear hA_W5
     go_wp2_with fail
     refine cg fun V5 hV_V5=> ?_
     refine nef3 hV_V5 hA hF ka kp kt ?_;clear hA hF ka kp kt c_ka c_kp c_kt;intro z_V5 hA hF ka c_ka kp c_kp kt c_kt
     clear hV_V5
     refine tC (next_t (W2.heap.size+1) w.heap.size true 0 (vMake st.s st.p) t4 Ht4.out _ hA kt ka o_kt o_ka ne6) fun W6 O3 hT hf=> ?_
     refine tx2 hT.hA hT.blk hT.no hf hF ka o_ka kp o_kp ?_;clear hA hF kt c_kt o_kt ka o_ka kp o_kp c_ka c_kp hT hf;intro z_W6 hA hF kt c_kt o_kt ka c_ka o_ka kp c_kp o_kp
     rw [hok4] at kt
     go_wp2_with fail
     refine wg fun V6 hV_V6=> ?_
     refine nnf3 hV_V6 hA hF ka kp kt ?_;clear hA hF ka kp kt c_ka c_kp c_kt;intro hn_V6 z_V6 hA hF ka c_ka kp c_kp kt c_kt
     obtain ⟨kl,c_kl,o_kl,l_klV6⟩:=nN hn_V6 hV_V6 (W6.heap.size)
     clear hV_V6 hn_V6
     have HF6:=Lib.hid (HF.out.trans_own hF hY)
     have HA6:=Lib.hid hA
     have ka2:=ka;have kt2:=kt;have o_ka2:=o_ka;have o_kt2:=o_kt
     clear hA hF HF kp c_kp o_kp ka c_ka kt c_kt o_ka o_kt c_kl
     go_loopw [171] (fun y w3=> ∃i:Nat,i≤4∧y= .int .i64 i∧ ∃O',AP w3 (.pointer q) ([st.p.wave,st.p.marks,st.p.spots,st.p.table].take i|>.foldl dropP t4.2.2) O'∧Fr noX O O' w w3∧w3.heap[W6.heap.size]? =some (.cells #[.int .i64 st.p.wave, .int .i64 st.p.marks, .int .i64 st.p.spots, .int .i64 st.p.table] 3 (0,0))∧w3.heap[w.heap.size]? =some (.cells #[.pointer q] 25 (0,0))∧w3.heap[W2.heap.size+1]? =some (.cells #[.bool true] 4 (0,0))∧ ¬O' W6.heap.size∧ ¬O' w.heap.size∧ ¬O' (W2.heap.size+1)) (fun y _=>4 - (intOf y).toNat)
     case atStart=>exact ⟨0,by omega,rfl,_,HA6.out,HF6.out,kl,ka2,kt2,o_kl,o_ka2,o_kt2⟩
     case round=>
      clear HA6 HF6 kl ka2 kt2 o_kl o_ka2 o_kt2
      obtain ⟨i,hi,rfl,O',hA',hF',kl,ka2,kt2,o_kl,o_ka2,o_kt2⟩:=hrel
      have c_kl:=cells_of kl
      rcases (show i=0∨i=1∨i=2∨i=3∨i=4 by omega) with rfl|rfl|rfl|rfl|rfl
      ·
       have HA:=Lib.hid hA';have HF5:=Lib.hid hF';clear hA' hF'
       by_cases hz:st.p.wave=0
       ·
        have z1:(st.p.wave !=0)=false:=by simp [hz]
        have hd:Hid ((dropP t4.2.2 st.p.wave)=t4.2.2):=Lib.hid (by show dropP _ _=_;unfold dropP;rw [if_pos hz])
        clear hz
        go_wp2_with fail
        go_roundw
        case rel=>exact ⟨1,by omega,rfl,O',by show AP wr (.pointer q) (dropP t4.2.2 st.p.wave) O';rw [hd.out];exact HA.out,HF5.out,kl,ka2,kt2,o_kl,o_ka2,o_kt2⟩
        case measure=>simp [intOf]
       ·
        have z1:(st.p.wave !=0)=true:=by simp [hz]
        have hd:Hid ((dropP t4.2.2 st.p.wave)=(t4.2.2).drop st.p.wave):=Lib.hid (by show dropP _ _=_;unfold dropP;rw [if_neg hz])
        clear hz
        have c_ka2:=cells_of ka2
        go_wp2_with fail
        refine (drop_calls _ _ HA.out).mono ?_
        rintro e1 w1 ⟨rfl,O3,hA1,hf1⟩
        go_wp2_with fail
        go_roundw
        case rel=>exact ⟨1,by omega,rfl,O3,by show AP w1 (.pointer q) (dropP t4.2.2 st.p.wave) O3;rw [hd.out];exact hA1,HF5.out.trans hf1.widen,hf1.keep kl o_kl (fun h=>h),hf1.keep ka2 o_ka2 (fun h=>h),hf1.keep kt2 o_kt2 (fun h=>h),hf1.not_own (lt_of kl) o_kl,hf1.not_own (lt_of ka2) o_ka2,hf1.not_own (lt_of kt2) o_kt2⟩
        case measure=>simp [intOf]
      ·
       have HA:=Lib.hid hA';have HF5:=Lib.hid hF';clear hA' hF'
       by_cases hz:st.p.marks=0
       ·
        have z1:(st.p.marks !=0)=false:=by simp [hz]
        have hd:Hid ((dropP (dropP t4.2.2 st.p.wave) st.p.marks)=(dropP t4.2.2 st.p.wave)):=Lib.hid (by show dropP _ _=_;unfold dropP;rw [if_pos hz])
        clear hz
        go_wp2_with fail
        go_roundw
        case rel=>exact ⟨2,by omega,rfl,O',by show AP wr (.pointer q) (dropP (dropP t4.2.2 st.p.wave) st.p.marks) O';rw [hd.out];exact HA.out,HF5.out,kl,ka2,kt2,o_kl,o_ka2,o_kt2⟩
        case measure=>simp [intOf]
       ·
        have z1:(st.p.marks !=0)=true:=by simp [hz]
        have hd:Hid ((dropP (dropP t4.2.2 st.p.wave) st.p.marks)=((dropP t4.2.2 st.p.wave)).drop st.p.marks):=Lib.hid (by show dropP _ _=_;unfold dropP;rw [if_neg hz])
        clear hz
        have c_ka2:=cells_of ka2
        go_wp2_with fail
        refine (drop_calls _ _ HA.out).mono ?_
        rintro e1 w1 ⟨rfl,O3,hA1,hf1⟩
        go_wp2_with fail
        go_roundw
        case rel=>exact ⟨2,by omega,rfl,O3,by show AP w1 (.pointer q) (dropP (dropP t4.2.2 st.p.wave) st.p.marks) O3;rw [hd.out];exact hA1,HF5.out.trans hf1.widen,hf1.keep kl o_kl (fun h=>h),hf1.keep ka2 o_ka2 (fun h=>h),hf1.keep kt2 o_kt2 (fun h=>h),hf1.not_own (lt_of kl) o_kl,hf1.not_own (lt_of ka2) o_ka2,hf1.not_own (lt_of kt2) o_kt2⟩
        case measure=>simp [intOf]
      ·
       have HA:=Lib.hid hA';have HF5:=Lib.hid hF';clear hA' hF'
       by_cases hz:st.p.spots=0
       ·
        have z1:(st.p.spots !=0)=false:=by simp [hz]
        have hd:Hid ((dropP (dropP (dropP t4.2.2 st.p.wave) st.p.marks) st.p.spots)=(dropP (dropP t4.2.2 st.p.wave) st.p.marks)):=Lib.hid (by show dropP _ _=_;unfold dropP;rw [if_pos hz])
        clear hz
        go_wp2_with fail
        go_roundw
        case rel=>exact ⟨3,by omega,rfl,O',by show AP wr (.pointer q) (dropP (dropP (dropP t4.2.2 st.p.wave) st.p.marks) st.p.spots) O';rw [hd.out];exact HA.out,HF5.out,kl,ka2,kt2,o_kl,o_ka2,o_kt2⟩
        case measure=>simp [intOf]
       ·
        have z1:(st.p.spots !=0)=true:=by simp [hz]
        have hd:Hid ((dropP (dropP (dropP t4.2.2 st.p.wave) st.p.marks) st.p.spots)=((dropP (dropP t4.2.2 st.p.wave) st.p.marks)).drop st.p.spots):=Lib.hid (by show dropP _ _=_;unfold dropP;rw [if_neg hz])
        clear hz
        have c_ka2:=cells_of ka2
        go_wp2_with fail
        refine (drop_calls _ _ HA.out).mono ?_
        rintro e1 w1 ⟨rfl,O3,hA1,hf1⟩
        go_wp2_with fail
        go_roundw
        case rel=>exact ⟨3,by omega,rfl,O3,by show AP w1 (.pointer q) (dropP (dropP (dropP t4.2.2 st.p.wave) st.p.marks) st.p.spots) O3;rw [hd.out];exact hA1,HF5.out.trans hf1.widen,hf1.keep kl o_kl (fun h=>h),hf1.keep ka2 o_ka2 (fun h=>h),hf1.keep kt2 o_kt2 (fun h=>h),hf1.not_own (lt_of kl) o_kl,hf1.not_own (lt_of ka2) o_ka2,hf1.not_own (lt_of kt2) o_kt2⟩
        case measure=>simp [intOf]
      ·
       have HA:=Lib.hid hA';have HF5:=Lib.hid hF';clear hA' hF'
       by_cases hz:st.p.table=0
       ·
        have z1:(st.p.table !=0)=false:=by simp [hz]
        have hd:Hid ((dropP (dropP (dropP (dropP t4.2.2 st.p.wave) st.p.marks) st.p.spots) st.p.table)=(dropP (dropP (dropP t4.2.2 st.p.wave) st.p.marks) st.p.spots)):=Lib.hid (by show dropP _ _=_;unfold dropP;rw [if_pos hz])
        clear hz
        go_wp2_with fail
        go_roundw
        case rel=>exact ⟨4,by omega,rfl,O',by show AP wr (.pointer q) (dropP (dropP (dropP (dropP t4.2.2 st.p.wave) st.p.marks) st.p.spots) st.p.table) O';rw [hd.out];exact HA.out,HF5.out,kl,ka2,kt2,o_kl,o_ka2,o_kt2⟩
        case measure=>simp [intOf]
       ·
        have z1:(st.p.table !=0)=true:=by simp [hz]
        have hd:Hid ((dropP (dropP (dropP (dropP t4.2.2 st.p.wave) st.p.marks) st.p.spots) st.p.table)=((dropP (dropP (dropP t4.2.2 st.p.wave) st.p.marks) st.p.spots)).drop st.p.table):=Lib.hid (by show dropP _ _=_;unfold dropP;rw [if_neg hz])
        clear hz
        have c_ka2:=cells_of ka2
        go_wp2_with fail
        refine (drop_calls _ _ HA.out).mono ?_
        rintro e1 w1 ⟨rfl,O3,hA1,hf1⟩
        go_wp2_with fail
        go_roundw
        case rel=>exact ⟨4,by omega,rfl,O3,by show AP w1 (.pointer q) (dropP (dropP (dropP (dropP t4.2.2 st.p.wave) st.p.marks) st.p.spots) st.p.table) O3;rw [hd.out];exact hA1,HF5.out.trans hf1.widen,hf1.keep kl o_kl (fun h=>h),hf1.keep ka2 o_ka2 (fun h=>h),hf1.keep kt2 o_kt2 (fun h=>h),hf1.not_own (lt_of kl) o_kl,hf1.not_own (lt_of ka2) o_ka2,hf1.not_own (lt_of kt2) o_kt2⟩
        case measure=>simp [intOf]
      ·
       have HA:=Lib.hid hA';have HF5:=Lib.hid hF';clear hA' hF' c_kl
       have hA7:AP wr (.pointer q) (dropP (dropP (dropP (dropP t4.2.2 st.p.wave) st.p.marks) st.p.spots) st.p.table) O':=HA.out
       have HA7:=Lib.hid hA7;clear hA7 HA
       have c_ka2:=cells_of ka2
       have hlast:root=t4.1∧s'=u.2:=by
        have h3:=H3'.out
        rw [hok4] at h3
        simp only [Bool.true_eq_false,false_and,if_false,Prod.mk.injEq] at h3
        exact ⟨h3.1.symm,h3.2.2.symm⟩
       obtain ⟨rfl,rfl⟩:=hlast
       go_wp2_with fail
       refine (work_calls 1073741824 u Hu.out _ HA7.out).mono ?_
       rintro e8 W8 ⟨rfl,O8,hA8,hf8⟩
       have kt8:=hf8.keep kt2 o_kt2 (fun h=>h)
       have c_kt8:=cells_of kt8
       have HA8:=Lib.hid hA8
       have HF8:=Lib.hid (HF5.out.trans hf8)
       clear hA8 hf8
       have hA:=HA8.out
       clear c_kt8 c_ka2
       have hF:=Fr.refl (noX) O8 W8
       have c_kt8:=f3 kt8;have l_kt8W8:=lt_of kt8
       go_wp2_with fail
       refine wg fun V9 hV_V9=> ?_
       refine nef1 hV_V9 hA hF kt8 ?_;clear hA hF kt8 c_kt8;intro z_V9 hA hF kt8 c_kt8
       clear hV_V9
       refine dr (fun v=>Sm v V9 (W2.heap.size+1)∧(V9.heap.size≤v.heap.size)∧AP v (.pointer q) u.2 O8) ⟨fun _=>rfl,Nat.le_refl _,hA.drew⟩ fun V9d hV_V9d hHeld=> ?_
       have v_kt8:=c_kt8.1
       refine nef1 hV_V9d hA hF kt8 ?_;clear hA hF kt8 c_kt8;intro z_V9d hA hF kt8 c_kt8
       clear hV_V9d
       refine ta 0 hHeld ?_
       refine ta 1 hHeld ?_
       refine rd 2 rfl fun K hK=> ?_
       go_simp
       refine ho hK hHeld fun hHeld=> ?_
       clear hK K
       refine rd 3 rfl fun K hK=> ?_
       go_simp
       refine ho hK hHeld fun hHeld=> ?_
       clear hK K
       refine wd ?_
       have HFF:=Lib.hid (HF8.out.trans hF)
       have HAA:=Lib.hid hA
       clear hF hA
       go_wp2_with fail
       go_ret2
       exact ⟨rfl,O8,HAA.out,HFF.out⟩
end Go.Proofs.YtjeofpkhgmefgaaGreat
namespace Go.Proofs.YtjeofpkhgmefgaaGreat
open Go.RowKit
attribute [local go_sem ↓] Go.wp_at_zero Go.wp_at_succ
attribute [local go_sem] str_len
structure Told (s:Ar) (root:Int) (ds:Docs):Prop where
  text: ∀id,pText s root id=some (match placeD ds id with|none=>([],false)|some k=>((ds.getD k (0,[])).2,true))
  all:lAll s (vOf s root).table=some (docsM ds)
  len:lLen s (vOf s root).table≤50000
  rows:vRows s root=tot ds+ds.length
  docs:vDocs s root=ds.length
theorem VR.told {s:Ar} {H:List Int} (hI:Inv s H) {h:Int} {ds:Docs} {rate:Int} (hv:VR s h ds rate) (hR:Right ds):Told s h ds:=by
  have hl:=hR.len
  refine ⟨hv.text hI hR,hv.all hI (by omega),?_,by rw [hv.rows hI (by omega),rows_tot hR];omega,hv.docs hI (by omega)⟩
  rw [(hv.parts hI (by omega)).2.2.2.1.len hI];unfold docsM;simp;omega
theorem placeD_at {ds:Docs} (h:Right ds) {j:Nat} {d:Int×List UInt8} (hd:ds[j]? =some d):placeD ds d.1=some j:=by
  obtain ⟨hj,rfl⟩:=List.getElem?_eq_some_iff.1 hd
  refine List.findIdx?_eq_some_iff_getElem.2 ⟨hj,by simp,fun i hi=> ?_⟩
  have:=List.pairwise_iff_getElem.1 h.nodup i j (by simp;omega) (by simp;omega) hi
  simpa using this
theorem Told.at {s:Ar} {root:Int} {ds:Docs} (t:Told s root ds) (h:Right ds) {j:Nat} {d:Int×List UInt8} (hd:ds[j]? =some d):pText s root d.1=some (d.2,true):=by
  rw [t.text,placeD_at h hd]
  simp [List.getD,hd]
variable {ap : Value} {O : Nat → Prop}
set_option maxHeartbeats 1000000 in
theorem bld_calls (rate : Int) (hr1 : 1 ≤ rate) (hr2 : rate ≤ 1000) (ds : Docs) (hR : Right ds) (htot : tot ds ≤ 60) (hne : ds ≠ []) (ad : Addr) (cap : Nat) (w : World) (hD : Rd2 w (.slice (some ad) ds.length cap) ds) (hO : ¬ O ad.block) (hA : AP w ap (Ar.new 6000) O) :
    Calls Tryz.prog 18 #[ap, .int .i64 rate, .slice (some ad) ds.length cap] w fun e w'=> ∃root s' O',e= .returned (.tuple #[.int .i64 root, .bool true])∧AP w' ap s' O'∧Fr noX O O' w w'∧Told s' root ds:=by
  have hl:=hR.len
  obtain ⟨B1,B2,root,s',h1,o1,h2,o2,h3,hI, -, -,hv⟩:=build_parts (Inv.new 6000 (by omega)) rfl hR hne rate (by show 10000+160*(tot ds+ds.length)≤8*6000;omega)
  refine (build_calls rate hr1 hr2 ds ad cap hne hR.right w hD hO hA B1 B2 h1 o1 h2 o2 root s' h3).mono ?_
  rintro e w' ⟨he,O',a,b⟩
  exact ⟨root,s',O',he,a,b,hv.told hI hR⟩
set_option maxRecDepth 100000 in
set_option maxHeartbeats 2000000 in
theorem bldnil_calls (q : Option Addr) (rate : Int) (A : Option Addr) (n cap : Nat) (hn : ((n : Int) == 0) = true) (w : World) :
    Calls Tryz.prog 18 #[.pointer q, .int .i64 rate, .slice A n cap] w fun e w'=>e= .returned (.tuple #[.int .i64 0, .bool true])∧Below w.heap.size w w':=by
  go_enter Tryz.func18,Tryz.ntmps18
  go_wp2_with fail
  go_ret2
  exact ⟨rfl,(Below.refl w.heap.size w).alloc (Nat.le_refl _) _⟩
theorem pick_at (i:Int) (n:Nat) (hn:0<n): -(n:Int)≤i.tmod (n:Int)∧i.tmod (n:Int)<n∧ ∃K:Nat,(i.tmod (n:Int)+n) % (n:Int)=(K:Int)∧K<n:=by
  have h:=Int.tmod_lt_of_pos i (show (0:Int)<(n:Int) by omega)
  have h2:=Int.tmod_lt_of_pos (-i) (show (0:Int)<(n:Int) by omega)
  rw [Int.neg_tmod] at h2
  have h3:=Int.emod_nonneg (i.tmod (n:Int)+n) (show (n:Int)≠0 by omega)
  have h4:=Int.emod_lt_of_pos (i.tmod (n:Int)+n) (show (0:Int)<(n:Int) by omega)
  exact ⟨by omega,h,((i.tmod (n:Int)+n) % (n:Int)).toNat,by omega,by omega⟩
end Go.Proofs.YtjeofpkhgmefgaaGreat
namespace Go.Proofs.YtjeofpkhgmefgaaGreat
open Go.RowKit Go.ChangeShapes Go.WideShapes Go.Deep
section
variable {H : Type} {enc : TypeId × Value → H} {P : Program} {w : World} {base : Nat} {spare : Nat → Bool} {held : Bool}
theorem open_slice_fields {t e : TypeId} {fs : Array Field} {fuel : Nat} {cs : List Value} {x : DataW H × List MemPlace} (ht : P.underlying t = some (.slice e)) (he : P.underlying e = some (.struct fs))
    (hone:oneCellFields P fs=true) (hC:P.cellsOf e=fs.size) (h:DataW.trod enc P w base spare held fuel t cs=some x):
    (cs=[.slice none 0 0]∧x=(.nil,[]))∨
    ∃(a:Addr) (len cap m:Nat) (D:Nat→DataW H) (Pl:Nat→List MemPlace),cs=[.slice (some a) len cap]∧base≤a.block∧len≤cap∧cap≤maxLen∧m=(if spare a.block then cap else len)∧
      x=(.slice ((List.range len).map D) ((List.range (m - len)).map fun j=>D (len+j)),MemPlace.row a (m*fs.size)++(List.range m).flatMap Pl)∧
      ∀i,i<m→ ∃(ys:List (DataW H×List MemPlace)) (n:Nat),D i= .agg (ys.map (·.1))∧Pl i=ys.flatMap (·.2)∧ys.length=fs.size∧
        ∀(j:Nat) (f:Field),fs[j]? =some f→ ∃(v:Value) (y:DataW H×List MemPlace),w.cell? (a.add (i*fs.size+j))=some v∧ys[j]? =some y∧DataW.trod enc P w base spare held n f.type [v]=some y:=by
  rcases open_slice ht h with h0|⟨a,len,cap,m,n,D,Pl,hcs,hb,hl,hm,hmm,hx,hi⟩
  · exact .inl h0
  · refine .inr ⟨a,len,cap,m,D,Pl,hcs,hb,hl,hm,hmm,by rw [hC] at hx;exact hx,fun i him=> ?_⟩
    obtain ⟨cs',hc,ht'⟩:=hi i him
    rw [hC] at hc
    obtain ⟨ys,n',hn',hy,hlen,hyl,hf⟩:=DataW.trod_struct he ht'
    obtain ⟨_,hcl,hat⟩:=World.cells?_some hc
    simp only [Prod.mk.injEq] at hy
    refine ⟨ys,n',hy.1,hy.2,hyl,fun j f hj=> ?_⟩
    obtain ⟨ho,hk⟩:=hone_of hone j f hj
    have hjl:j<fs.size:=(Array.getElem?_eq_some_iff.1 hj).1
    have hcell:=hat j hjl
    have hv:cs'[j]? =some (cs'[j]'(by omega)):=List.getElem?_eq_getElem (by omega)
    have h1:=hf j f hj
    rw [ho,hk] at h1
    have hone':(cs'.drop j).take 1=[cs'[j]'(by omega)]:=by
      rw [List.drop_eq_getElem_cons (by omega)]
      rfl
    rw [hone'] at h1
    have hys:ys[j]? =some (ys[j]'(by omega)):=List.getElem?_eq_getElem (by omega)
    refine ⟨_,_,?_,hys,h1.trans hys⟩
    rw [←Go.Deep.add_add,hcell,hv]
end
def IdOk (ds:List (Int×List UInt8)):Prop:= ∀d∈ds,(Lit.int .i64 d.1).wf=true
theorem str_of (s:ByteArray):Value.string s=strOf s.data.toList:=by unfold strOf;cases s;rfl
theorem add_one (a:Addr) (n:Nat):(⟨(a.add n).block,(a.add n).off+1,none⟩:Addr)=a.add (n+1):=by
  unfold Addr.add
  rw [if_neg (by omega: ¬n+1=0)]
  split
  · rename_i h;subst h;rfl
  · rfl
theorem read_docs {H : Type} {enc : TypeId × Value → H} {P : Program} {w : World} {held : Bool} {t e : TypeId} {f0 f1 : Field} {A : Option Addr} {len cap : Nat} {d : DataW H} {p : List MemPlace}
    (ht:P.underlying t=some (.slice e)) (he:P.underlying e=some (.struct #[f0,f1])) (hone:oneCellFields P #[f0,f1]=true) (hC:P.cellsOf e=2) (h0:P.underlying f0.type=some (.int .i64)) (h1:P.underlying f1.type=some .string)
    (h:DataW.Trod enc P w 0 (fun _=>true) held t (.slice A len cap) d p): ∃ds:List (Int×List UInt8),ds.length=len∧ds.length≤maxLen∧Rd2 w (.slice A len cap) ds∧IdOk ds:=by
  obtain ⟨m,hm⟩:=h
  have hlt:=DataW.trod_lt m _ _ _ hm
  simp only [Value.cells] at hm
  rcases open_slice_fields ht he hone hC hm with ⟨hc, -⟩|⟨a,l',c',m',D,Pl,hc, -,hl,hcm,hmm,hx,hi⟩
  · simp only [List.cons.injEq,Value.slice.injEq,and_true] at hc
    obtain ⟨rfl,rfl,rfl⟩:=hc
    exact ⟨[],rfl,by simp,⟨none,0,rfl,fun h=>absurd h (by simp)⟩,fun d hd=>by cases hd⟩
  · simp only [List.cons.injEq,Value.slice.injEq,and_true] at hc
    obtain ⟨rfl,rfl,rfl⟩:=hc
    have hmc:len≤m':=by rw [hmm];split<;>omega
    have key: ∀i,i<len→ ∃x:Int×List UInt8,(a.add (i*2)).block<w.heap.size∧w.cell? (a.add (i*2))=some (.int .i64 x.1)∧w.cell? ⟨(a.add (i*2)).block,(a.add (i*2)).off+1,none⟩=some (strOf x.2)∧(Lit.int .i64 x.1).wf=true:=by
      intro i hil
      obtain ⟨ys,n, -, -, -,hf⟩:=hi i (by omega)
      obtain ⟨v0,y0,c0, -,t0⟩:=hf 0 f0 rfl
      obtain ⟨v1,y1,c1, -,t1⟩:=hf 1 f1 rfl
      obtain ⟨x0,e0, -,w0⟩:=DataW.trod_int h0 t0
      obtain ⟨x1,e1, -, -⟩:=DataW.trod_string h1 t1
      simp only [List.cons.injEq,and_true] at e0 e1
      subst e0 e1
      refine ⟨(x0,x1.data.toList),?_,c0,?_,w0⟩
      · exact World.block_lt_of_cell? w _ c0
      · rw [←str_of,add_one];exact c1
    have hget: ∀i,(h:i<len)→((List.range len).map fun i=>if h:i<len then (key i h).choose else ((0:Int),([]:List UInt8)))[i]? =some (key i h).choose:=fun i h=>by
      rw [List.getElem?_map,List.getElem?_range h,Option.map_some,dif_pos h]
    have hlen:((List.range len).map fun i=>if h:i<len then (key i h).choose else ((0:Int),([]:List UInt8))).length=len:=by simp
    refine ⟨_,hlen,by rw [hlen];omega,⟨some a,cap,by rw [hlen],fun hn=>⟨a,rfl,?_,fun i d hd=> ?_⟩⟩,fun d hd=> ?_⟩
    · rw [hlen] at hn
      have:=(key 0 hn).choose_spec.1
      simpa [Addr.add] using this
    · have hil:i<len:=by rw [←hlen];exact (List.getElem?_eq_some_iff.1 hd).1
      rw [hget i hil] at hd
      obtain rfl:=Option.some.inj hd
      obtain ⟨a1,a2,a3, -⟩:=(key i hil).choose_spec
      exact ⟨a1,a2,a3⟩
    · obtain ⟨i,hi⟩:=List.getElem?_of_mem hd
      have hil:i<len:=by rw [←hlen];exact (List.getElem?_eq_some_iff.1 hi).1
      rw [hget i hil] at hi
      obtain rfl:=Option.some.inj hi
      exact (key i hil).choose_spec.2.2.2
end Go.Proofs.YtjeofpkhgmefgaaGreat
namespace Go.Proofs.YtjeofpkhgmefgaaGreat
open Go.RowKit
theorem bldS_calls {w0 W : World} {p : Addr} {L : List (Nat × Obj)} (n : Nat) (hn1 : 2700 ≤ n) (hn2 : n ≤ 6000) (h : St w0 W (.pointer (some p)) (Ar.new n) L) (rate : Int) (hr1 : 1 ≤ rate) (hr2 : rate ≤ 1000) (ds : Docs) (hR : Right ds) (htot : tot ds ≤ 60) (A : Option Addr) (cap : Nat) (hD : Rd2 w0 (.slice A ds.length cap) ds) :
    Calls Tryz.prog 18 #[.pointer (some p), .int .i64 rate, .slice A ds.length cap] W fun e w'=> ∃root s',e= .returned (.tuple #[.int .i64 root, .bool true])∧St w0 w' (.pointer (some p)) s' L∧Inv s' [root]∧s'.wait=[]∧s'.size=n∧VR s' root ds rate∧(root=0↔ds=[]):=by
  by_cases hne:ds=[]
  · subst hne
    refine (bldnil_calls (some p) rate A 0 cap rfl W).mono ?_
    rintro e w' ⟨he,hb⟩
    exact ⟨0,_,he,h.below hb,(Inv.new n hn2).zero_cons (by simp),rfl,rfl,⟨.inl ⟨rfl,rfl⟩,fun h=>absurd rfl h⟩,⟨fun _=>rfl,fun _=>rfl⟩⟩
  · obtain ⟨A',c',hv,h2⟩:=id hD
    obtain ⟨rfl, -,rfl⟩:=Value.slice.inj hv
    obtain ⟨ad,rfl,hlt, -⟩:=h2 (List.length_pos_iff.2 hne)
    have hl:=hR.len
    obtain ⟨O,hA,hO,hL⟩:=h.ex
    obtain ⟨B1,B2,root,s',h1,o1,h2',o2,h3,hI,hz,h0,hv,hwt⟩:=build_partsW (Inv.new n hn2) rfl hR hne rate (by show 10000+160*(tot ds+ds.length)≤8*n;omega)
    refine (build_calls rate hr1 hr2 ds ad cap hne hR.right W (hD.below h.bel) (fun hq=>by have:=hO _ hq;omega) hA B1 B2 h1 o1 h2' o2 root s' h3).mono ?_
    rintro e w' ⟨he,O',a,b⟩
    exact ⟨root,s',he,h.did (O':=O') ⟨O,hA,hO,hL,a,b⟩,hI,hwt,hz,hv,⟨fun e=>absurd e h0,fun e=>absurd e hne⟩⟩
theorem law_guard (ds : Docs) (rate : Int) (hid : IdOk ds) :
    (few ds=false∨(few ds=true∧((ds.length:Int)==0)=true)∨(few ds=true∧((ds.length:Int)==0)=false∧decide (rate<1)=true)∨(few ds=true∧((ds.length:Int)==0)=false∧decide (rate<1)=false∧decide (16<rate)=true))∨
    (few ds=true∧((ds.length:Int)==0)=false∧decide (rate<1)=false∧decide (16<rate)=false∧Right ds∧tot ds≤60∧1≤rate∧rate≤16∧ds≠[]):=by
  cases hf:few ds with
  | false=>exact .inl (.inl rfl)
  | true=>
    obtain ⟨hR,htot,hl10⟩:=few_right hf hid
    by_cases hz:ds.length=0
    · exact .inl (.inr (.inl ⟨rfl,by rw [hz];rfl⟩))
    have d0:((ds.length:Int)==0)=false:=by rw [beq_eq_false_iff_ne];omega
    by_cases h1:rate<1
    · exact .inl (.inr (.inr (.inl ⟨rfl,d0,by simpa using h1⟩)))
    by_cases h2:16<rate
    · exact .inl (.inr (.inr (.inr ⟨rfl,d0,by simpa using h1,by simpa using h2⟩)))
    exact .inr ⟨rfl,d0,by simpa using h1,by simpa using h2,hR,htot,by omega,by omega,fun e=>hz (by rw [e];rfl)⟩
end Go.Proofs.YtjeofpkhgmefgaaGreat
namespace Go.Proofs.YtjeofpkhgmefgaaGreat
open Go.RowKit Go.Shelf
attribute [local go_sem ↓] Go.wp_at_zero Go.wp_at_succ
def encI (x:Int×Int):List Value:=[.int .i64 x.1, .int .i64 x.2]
theorem neqItem:NeqAt Tryz.prog 85 (fun x:Int×Int=> .agg (encI x).toArray) (fun x y=>x==y):=by
  refine ⟨fun x y w=> ?_,GuardAt.agg _ (by kernel_rfl)⟩
  have u3:=Tryz.underlying3
  have a3:=Tryz.isAgg3
  have z3:=Tryz.sizeOf3
  have hS:Tryz.prog.underlying 85=some (.struct (Tryz.prog.fieldsOf 85)):=by kernel_rfl
  have hp:Tryz.prog.stoodInHeld 85=false:=by kernel_rfl
  obtain ⟨x1,x2⟩:=x
  obtain ⟨y1,y2⟩:=y
  simp only [encI]
  rw [run_neq_struct,show (10000:Nat)=9999+1 from rfl,run_equalIn_agg w 9999 85 _ _ hS hp]
  simp only [Program.fieldsOf,Tryz.underlying85]
  go_simp
  by_cases h1:x1=y1<;>by_cases h2:x2=y2<;>simp [h1,h2]
theorem allEq_items {α:Type} [BEq α] [LawfulBEq α]: ∀(a b:List α),Lib.allEq (fun x y=>x==y) a b=(a==b)
  | [],[]=>rfl
  | [],_::_=>rfl
  | _::_,[]=>rfl
  | x::a,y::b=>by
    unfold Lib.allEq
    rw [allEq_items a b];rfl
theorem equal_short {F : Nat} (hwalk : ∀ (A B : Option Addr) (n m c d : Nat) (w : World), n ≠ m ∨ n = 0 → n ≤ 50000 → m ≤ 50000 → Calls Tryz.prog F #[.slice A n c, .slice B m d] w fun e w' => e = .returned (.bool (decide (n = m))) ∧ Below w.heap.size w w')
    {α:Type} [BEq α] [LawfulBEq α] (a b:List α) (ha:a.length≤50000) (hb:b.length≤50000) (h:a.length≠b.length∨a.length=0) (A B:Option Addr) (c d:Nat) (w:World):
    Calls Tryz.prog F #[.slice A a.length c, .slice B b.length d] w fun e w'=>e= .returned (.bool (a==b))∧Below w.heap.size w w':=by
  have hx:=hwalk A B a.length b.length c d w h ha hb
  have:decide (a.length=b.length)=(a==b):=by
    by_cases e:a.length=b.length
    · rcases h with h|h
      · exact absurd e h
      · have h1:a=[]:=List.length_eq_zero_iff.1 h
        have h2:b=[]:=List.length_eq_zero_iff.1 (by omega)
        rw [h1,h2];rfl
    · have:a≠b:=fun q=>e (congrArg List.length q)
      rw [decide_eq_false e]
      simp [this]
  rw [this] at hx;exact hx
theorem itemCells_enc (l:List (Int×Int)) (j:Nat) (hj:j<l.length) (i:Nat) (v:Value) (hv:(encI l[j]!)[i]? =some v):(itemCells l)[j*2+i]? =some v:=by
  obtain ⟨h1,h2⟩:=itemCells_at l j l[j] (List.getElem?_eq_getElem hj)
  rw [getElem!_pos l j hj] at hv
  unfold encI at hv
  match i with
  | 0=>simp at hv;rw [←hv];exact h1
  | 1=>simp at hv;rw [←hv];exact h2
  | i+2=>simp at hv
set_option maxRecDepth 100000 in
set_option maxHeartbeats 2000000 in
theorem eqItem_short (A B:Option Addr) (n m c d:Nat) (w:World) (h:n≠m∨n=0) (hn:n≤50000) (hm:m≤50000):Calls Tryz.prog 65 #[.slice A n c, .slice B m d] w fun e w'=>e= .returned (.bool (decide (n=m)))∧Below w.heap.size w w':=by
  by_cases e:n=m
  · subst e
    obtain rfl:n=0:=by omega
    rw [decide_eq_true rfl]
    go_enter Tryz.func65,Tryz.ntmps65
    go_wp2_with fail
    go_loopg [13] 0 (fun k p wr=>p= .int .i64 0∧Hid (Below w.heap.size w wr))
    case atStart=>exact ⟨rfl,Lib.hid (Below.refl _ _)⟩
    case round=>
      obtain ⟨rfl,HB⟩:=hrel
      go_wp2_with fail
      go_ret
      exact ⟨rfl,HB.out⟩
  · have e1: ¬(n:Int)=(m:Int):=by omega
    rw [decide_eq_false e]
    clear h e
    go_enter Tryz.func65,Tryz.ntmps65
    go_wp2_with fail
    go_ret
    exact ⟨rfl,Below.refl _ _⟩
theorem eqItem_calls (v1 v2 : Value) (a b : List (Int × Int)) (ha : a.length ≤ 50000) (hb : b.length ≤ 50000) (w : World) (h1 : Rx w 2 v1 a.length (itemCells a)) (h2 : Rx w 2 v2 b.length (itemCells b)) :
    Calls Tryz.prog 65 #[v1,v2] w fun e w'=>e= .returned (.bool (a==b))∧Below w.heap.size w w':=by
  obtain ⟨-,A,c,rfl,h1⟩:=h1
  obtain ⟨-,B,d,rfl,h2⟩:=h2
  by_cases h:a.length≠b.length∨a.length=0
  · exact equal_short eqItem_short a b ha hb h A B c d w
  · obtain ⟨g1,rfl, -,c1⟩:=h1 (by omega)
    obtain ⟨g2,rfl, -,c2⟩:=h2 (by omega)
    have hcon:=AnyQ.slices_Equal Tryz.layEqItem 2 Tryz.isAgg85 Tryz.sizeOf85 encI (fun _=>rfl) (fun x y=>x==y) neqItem g1 0 a.length c g2 0 b.length d a b w (Nat.le_refl _) (Nat.le_refl _) (by omega) (by omega) (fun j hj i v hv=>by
      have h2:i<2:=by
        rcases Nat.lt_or_ge i 2 with h|h
        · exact h
        · rw [List.getElem?_eq_none (by simp [encI];omega)] at hv;cases hv
      rw [Nat.zero_add,c1 _ (by omega)];exact itemCells_enc a j hj i v hv) (fun j hj i v hv=>by
      have h2:i<2:=by
        rcases Nat.lt_or_ge i 2 with h|h
        · exact h
        · rw [List.getElem?_eq_none (by simp [encI];omega)] at hv;cases hv
      rw [Nat.zero_add,c2 _ (by omega)];exact itemCells_enc b j hj i v hv)
    rw [List.take_length,List.take_length,allEq_items] at hcon
    refine Calls.mono hcon ?_
    rintro e w' ⟨rfl,q,rfl⟩
    exact ⟨rfl,below_drewN (Below.refl _ _) q⟩
set_option maxRecDepth 100000 in
set_option maxHeartbeats 2000000 in
theorem eqInt_short (A B:Option Addr) (n m c d:Nat) (w:World) (h:n≠m∨n=0) (hn:n≤50000) (hm:m≤50000):Calls Tryz.prog 67 #[.slice A n c, .slice B m d] w fun e w'=>e= .returned (.bool (decide (n=m)))∧Below w.heap.size w w':=by
  by_cases e:n=m
  · subst e
    obtain rfl:n=0:=by omega
    rw [decide_eq_true rfl]
    go_enter Tryz.func67,Tryz.ntmps67
    go_wp2_with fail
    go_loopg [13] 0 (fun k p wr=>p= .int .i64 0∧Hid (Below w.heap.size w wr))
    case atStart=>exact ⟨rfl,Lib.hid (Below.refl _ _)⟩
    case round=>
      obtain ⟨rfl,HB⟩:=hrel
      go_wp2_with fail
      go_ret
      exact ⟨rfl,HB.out⟩
  · have e1: ¬(n:Int)=(m:Int):=by omega
    rw [decide_eq_false e]
    clear h e
    go_enter Tryz.func67,Tryz.ntmps67
    go_wp2_with fail
    go_ret
    exact ⟨rfl,Below.refl _ _⟩
theorem eqInt_calls (v1 v2 : Value) (a b : List Int) (ha : a.length ≤ 50000) (hb : b.length ≤ 50000) (w : World) (h1 : Rx w 1 v1 a.length (a.map fun x => .int .i64 x)) (h2 : Rx w 1 v2 b.length (b.map fun x => .int .i64 x)) :
    Calls Tryz.prog 67 #[v1,v2] w fun e w'=>e= .returned (.bool (a==b))∧Below w.heap.size w w':=by
  obtain ⟨-,A,c,rfl,h1⟩:=h1
  obtain ⟨-,B,d,rfl,h2⟩:=h2
  by_cases h:a.length≠b.length∨a.length=0
  · exact equal_short eqInt_short a b ha hb h A B c d w
  · obtain ⟨g1,rfl, -,c1⟩:=h1 (by omega)
    obtain ⟨g2,rfl, -,c2⟩:=h2 (by omega)
    have hcon:=AnyE.slices_Equal Tryz.layEqInt (fun x=> .int .i64 x) (fun x y=>x==y) (NeqAt.int Tryz.prog 3 .i64) g1 0 a.length c g2 0 b.length d a b w (Nat.le_refl _) (Nat.le_refl _) (by omega) (by omega) (fun j hj=>by
      rw [Nat.zero_add,c1 _ (by omega),List.getElem?_map,List.getElem?_eq_getElem hj,getElem!_pos a j hj];rfl) (fun j hj=>by
      rw [Nat.zero_add,c2 _ (by omega),List.getElem?_map,List.getElem?_eq_getElem hj,getElem!_pos b j hj];rfl)
    rw [List.take_length,List.take_length,allEq_items] at hcon
    refine Calls.mono hcon ?_
    rintro e w' ⟨rfl,q,rfl⟩
    exact ⟨rfl,below_drewN (Below.refl _ _) q⟩
set_option maxRecDepth 100000 in
set_option maxHeartbeats 2000000 in
theorem eqBool_short (A B:Option Addr) (n m c d:Nat) (w:World) (h:n≠m∨n=0) (hn:n≤50000) (hm:m≤50000):Calls Tryz.prog 70 #[.slice A n c, .slice B m d] w fun e w'=>e= .returned (.bool (decide (n=m)))∧Below w.heap.size w w':=by
  by_cases e:n=m
  · subst e
    obtain rfl:n=0:=by omega
    rw [decide_eq_true rfl]
    go_enter Tryz.func70,Tryz.ntmps70
    go_wp2_with fail
    go_loopg [13] 0 (fun k p wr=>p= .int .i64 0∧Hid (Below w.heap.size w wr))
    case atStart=>exact ⟨rfl,Lib.hid (Below.refl _ _)⟩
    case round=>
      obtain ⟨rfl,HB⟩:=hrel
      go_wp2_with fail
      go_ret
      exact ⟨rfl,HB.out⟩
  · have e1: ¬(n:Int)=(m:Int):=by omega
    rw [decide_eq_false e]
    clear h e
    go_enter Tryz.func70,Tryz.ntmps70
    go_wp2_with fail
    go_ret
    exact ⟨rfl,Below.refl _ _⟩
theorem eqBool_calls (v1 v2 : Value) (a b : List Bool) (ha : a.length ≤ 50000) (hb : b.length ≤ 50000) (w : World) (h1 : Rx w 1 v1 a.length (a.map fun x => .bool x)) (h2 : Rx w 1 v2 b.length (b.map fun x => .bool x)) :
    Calls Tryz.prog 70 #[v1,v2] w fun e w'=>e= .returned (.bool (a==b))∧Below w.heap.size w w':=by
  obtain ⟨-,A,c,rfl,h1⟩:=h1
  obtain ⟨-,B,d,rfl,h2⟩:=h2
  by_cases h:a.length≠b.length∨a.length=0
  · exact equal_short eqBool_short a b ha hb h A B c d w
  · obtain ⟨g1,rfl, -,c1⟩:=h1 (by omega)
    obtain ⟨g2,rfl, -,c2⟩:=h2 (by omega)
    have hcon:=AnyE.slices_Equal Tryz.layEqBool (fun x=> .bool x) (fun x y=>x==y) (NeqAt.bool 4 Tryz.underlying4) g1 0 a.length c g2 0 b.length d a b w (Nat.le_refl _) (Nat.le_refl _) (by omega) (by omega) (fun j hj=>by
      rw [Nat.zero_add,c1 _ (by omega),List.getElem?_map,List.getElem?_eq_getElem hj,getElem!_pos a j hj];rfl) (fun j hj=>by
      rw [Nat.zero_add,c2 _ (by omega),List.getElem?_map,List.getElem?_eq_getElem hj,getElem!_pos b j hj];rfl)
    rw [List.take_length,List.take_length,allEq_items] at hcon
    refine Calls.mono hcon ?_
    rintro e w' ⟨rfl,q,rfl⟩
    exact ⟨rfl,below_drewN (Below.refl _ _) q⟩
end Go.Proofs.YtjeofpkhgmefgaaGreat
namespace Go.Proofs.YtjeofpkhgmefgaaGreat
open Go.RowKit
attribute [local go_sem ↓] Go.wp_at_zero Go.wp_at_succ
variable {ap : Value} {s : Ar} {O : Nat → Prop}
set_option maxRecDepth 100000 in
set_option maxHeartbeats 2000000 in
theorem bAll_calls (h : Int) (l : List Bool) (hr : bAll s h = some l) (hl : l.length ≤ 50000) (w : World) (hA : AP w ap s O) :
    Calls Tryz.prog 71 #[ap, .int .i64 h] w fun e w'=> ∃v,e= .returned v∧w'.ownsRow w.heap.size 4 1 v l.length (l.map fun x=> .bool x)∧Below w.heap.size w w':=by
  have hA0:=Lib.hid hA
  have hr':=Lib.hid hr
  have hlen:l.length=(bLen s h).toNat:=eachO_len _ _ _ hr
  clear hr
  go_enter Tryz.func71,Tryz.ntmps71
  go_wp2_with fail
  refine cg fun V hV_V=> ?_
  have hB:=Below.refl w.heap.size w
  refine nea0 hV_V hA hB ?_;clear hA hB;intro z_V hA hB
  clear hV_V
  refine rC (bLen_calls _ _ hA) fun W1 hb_W1=> ?_
  refine bea0 hb_W1 hA hB ?_;clear hb_W1 hA hB;intro z_W1 hA hB
  go_wp2_with fail
  refine wg fun V1 hV_V1=> ?_
  refine nea0 hV_V1 hA hB ?_;clear hA hB;intro z_V1 hA hB
  clear hV_V1
  go_loopg [5,12] (bLen s h).toNat (fun k p q wr=> ∃(i:Int) (d0 rest:List Bool),q= .int .i64 i∧0≤i∧i≤50000∧(d0.length:Int)=i∧k=(bLen s h - i).toNat∧Hid (eachO (fun i=>(bGet s h i).map (·.1)) k i=some rest)∧Hid (l=d0++rest)∧Hid (wr.ownsRow w.heap.size 4 1 p d0.length (d0.map fun x=> .bool x))∧Below w.heap.size w wr)
  case atStart=>exact ⟨0,[],l,rfl,by omega,by omega,rfl,by simp,hr',Lib.hid rfl,Lib.hid (own_nil _ _ _ _),hB⟩
  case round=>
    clear hA hB hr'
    obtain ⟨i,d0,rest,rfl,hi0,hi1,hdl,hk,He,Hl,Hown,hB0⟩:=hrel
    have hA:=hA0.out.below hB0
    by_cases hlt:i<bLen s h
    · have d1:decide (i<bLen s h)=true:=by simpa using hlt
      obtain ⟨k,rfl⟩: ∃k,gk=k+1:=⟨gk - 1,by omega⟩
      have he:=He.out
      unfold eachO at he
      obtain ⟨x,hx,he⟩:=Option.bind_eq_some_iff.1 he
      obtain ⟨rest',he',hrest⟩:=Option.bind_eq_some_iff.1 he
      obtain ⟨g,hg,hgx⟩:=Option.map_eq_some_iff.1 hx
      have hrest:=Option.some.inj hrest
      have hlx:l.length=d0.length+(1+rest'.length):=by rw [Hl.out,←hrest];simp;omega
      have Hg:=Lib.hid hg
      have Hx:=Lib.hid hgx
      have He':=Lib.hid he'
      have Hl':Hid (l=(d0++[x])++rest'):=Lib.hid (by rw [Hl.out,←hrest];simp)
      clear He Hl he hx he' hrest hg hgx
      have hw0:=hB0.size
      have HB0:=Lib.hid hB0;clear hB0
      have hB:=Below.refl wr.heap.size wr
      go_wp2_with fail
      refine cg fun V2 hV_V2=> ?_
      refine nea0 hV_V2 hA hB ?_;clear hA hB;intro z_V2 hA hB
      clear hV_V2
      refine rC (bGet_calls _ _ g Hg.out _ hA) fun W2 hb_W2=> ?_
      refine bea0 hb_W2 hA hB ?_;clear hb_W2 hA hB;intro z_W2 hA hB
      have Hbl:=Lib.hid (below_step HB0.out hB)
      have hown:=own_below Hown.out hB
      clear Hown
      go_wp2_with (at_builtin;refine wpList_push _ (by rfl) _ _ 56 (by rfl) (w.heap.size) 4 (.bool false) 1 1 Tryz.underlying56 (by kernel_rfl) (by rfl) (by omega) _ _ _ (by rfl) hown _ (by rfl) (by rfl) (by simp [Value.oneCell']) (by unfold maxLen;omega) (by omega) (by omega) ?_;intro g_W c_W W3 hown_W hlow_W hlt_W)
      have h1:wrap64 (i+1)=i+1:=IntWalk.wrap64_in _ (by omega)
      go_wp2_with fail
      go_roundg k
      case measure=>omega
      case rel=>
        refine ⟨i+1,d0++[x],rest',by rw [←h1],by omega,by omega,by simp;omega,by omega,He',Hl',?_,low_step Hbl.out (by omega) hlow_W⟩
        rw [List.map_append,List.length_append,←Hx.out]
        exact Lib.hid hown_W
    · have d1:decide (i<bLen s h)=false:=by simpa using hlt
      obtain rfl:gk=0:=by omega
      have he:=He.out
      unfold eachO at he
      obtain rfl:=Option.some.inj he
      have hl2:=Hl.out
      simp only [List.append_nil] at hl2
      have hn:d0.length=l.length:=by rw [hl2]
      clear He Hl he
      go_wp2_with fail
      go_ret
      refine ⟨u5,rfl,?_,hB0⟩
      rw [hl2];exact Hown.out
set_option maxRecDepth 100000 in
set_option maxHeartbeats 2000000 in
theorem wAll_calls (h : Int) (l : List Int) (hr : wAll s h = some l) (hl : l.length ≤ 50000) (w : World) (hA : AP w ap s O) :
    Calls Tryz.prog 68 #[ap, .int .i64 h] w fun e w'=> ∃v,e= .returned v∧w'.ownsRow w.heap.size 3 1 v l.length (l.map fun x=> .int .i64 x)∧Below w.heap.size w w':=by
  have hA0:=Lib.hid hA
  have hr':=Lib.hid hr
  have hlen:l.length=(wLen s h).toNat:=eachO_len _ _ _ hr
  clear hr
  go_enter Tryz.func68,Tryz.ntmps68
  go_wp2_with fail
  refine cg fun V hV_V=> ?_
  have hB:=Below.refl w.heap.size w
  refine nea0 hV_V hA hB ?_;clear hA hB;intro z_V hA hB
  clear hV_V
  refine rC (wLen_calls _ _ hA) fun W1 hb_W1=> ?_
  refine bea0 hb_W1 hA hB ?_;clear hb_W1 hA hB;intro z_W1 hA hB
  go_wp2_with fail
  refine wg fun V1 hV_V1=> ?_
  refine nea0 hV_V1 hA hB ?_;clear hA hB;intro z_V1 hA hB
  clear hV_V1
  go_loopg [5,12] (wLen s h).toNat (fun k p q wr=> ∃(i:Int) (d0 rest:List Int),q= .int .i64 i∧0≤i∧i≤50000∧(d0.length:Int)=i∧k=(wLen s h - i).toNat∧Hid (eachO (fun i=>(wGet s h i).map (·.1)) k i=some rest)∧Hid (l=d0++rest)∧Hid (wr.ownsRow w.heap.size 3 1 p d0.length (d0.map fun x=> .int .i64 x))∧Below w.heap.size w wr)
  case atStart=>exact ⟨0,[],l,rfl,by omega,by omega,rfl,by simp,hr',Lib.hid rfl,Lib.hid (own_nil _ _ _ _),hB⟩
  case round=>
    clear hA hB hr'
    obtain ⟨i,d0,rest,rfl,hi0,hi1,hdl,hk,He,Hl,Hown,hB0⟩:=hrel
    have hA:=hA0.out.below hB0
    by_cases hlt:i<wLen s h
    · have d1:decide (i<wLen s h)=true:=by simpa using hlt
      obtain ⟨k,rfl⟩: ∃k,gk=k+1:=⟨gk - 1,by omega⟩
      have he:=He.out
      unfold eachO at he
      obtain ⟨x,hx,he⟩:=Option.bind_eq_some_iff.1 he
      obtain ⟨rest',he',hrest⟩:=Option.bind_eq_some_iff.1 he
      obtain ⟨g,hg,hgx⟩:=Option.map_eq_some_iff.1 hx
      have hrest:=Option.some.inj hrest
      have hlx:l.length=d0.length+(1+rest'.length):=by rw [Hl.out,←hrest];simp;omega
      have Hg:=Lib.hid hg
      have Hx:=Lib.hid hgx
      have He':=Lib.hid he'
      have Hl':Hid (l=(d0++[x])++rest'):=Lib.hid (by rw [Hl.out,←hrest];simp)
      clear He Hl he hx he' hrest hg hgx
      have hw0:=hB0.size
      have HB0:=Lib.hid hB0;clear hB0
      have hB:=Below.refl wr.heap.size wr
      go_wp2_with fail
      refine cg fun V2 hV_V2=> ?_
      refine nea0 hV_V2 hA hB ?_;clear hA hB;intro z_V2 hA hB
      clear hV_V2
      refine rC (wGet_calls _ _ g Hg.out _ hA) fun W2 hb_W2=> ?_
      refine bea0 hb_W2 hA hB ?_;clear hb_W2 hA hB;intro z_W2 hA hB
      have Hbl:=Lib.hid (below_step HB0.out hB)
      have hown:=own_below Hown.out hB
      clear Hown
      go_wp2_with (at_builtin;refine wpList_push _ (by rfl) _ _ 46 (by rfl) (w.heap.size) 3 (.int .i64 0) 1 8 Tryz.underlying46 (by kernel_rfl) (by rfl) (by omega) _ _ _ (by rfl) hown _ (by rfl) (by rfl) (by simp [Value.oneCell']) (by unfold maxLen;omega) (by omega) (by omega) ?_;intro g_W c_W W3 hown_W hlow_W hlt_W)
      have h1:wrap64 (i+1)=i+1:=IntWalk.wrap64_in _ (by omega)
      go_wp2_with fail
      go_roundg k
      case measure=>omega
      case rel=>
        refine ⟨i+1,d0++[x],rest',by rw [←h1],by omega,by omega,by simp;omega,by omega,He',Hl',?_,low_step Hbl.out (by omega) hlow_W⟩
        rw [List.map_append,List.length_append,←Hx.out]
        exact Lib.hid hown_W
    · have d1:decide (i<wLen s h)=false:=by simpa using hlt
      obtain rfl:gk=0:=by omega
      have he:=He.out
      unfold eachO at he
      obtain rfl:=Option.some.inj he
      have hl2:=Hl.out
      simp only [List.append_nil] at hl2
      have hn:d0.length=l.length:=by rw [hl2]
      clear He Hl he
      go_wp2_with fail
      go_ret
      refine ⟨u5,rfl,?_,hB0⟩
      rw [hl2];exact Hown.out
end Go.Proofs.YtjeofpkhgmefgaaGreat
namespace Go.Proofs.YtjeofpkhgmefgaaGreat
open Go.RowKit
theorem wpList_push2 {P : Program} {ops : Array Oper} {rest : List Oper} {o : Oper} {a : Act} {Q : Exit → Act → World → Prop} (w : World) (hgd : o.guard = none) (s x : Operand) (t : TypeId)
    (ho:o.op= .call {callee:= .builtin .append,args:= #[s,x],argTypes:= #[t,t]})
    (base:Nat) (e:TypeId) (z:Value) (size bytes:Nat) (ht:P.underlying t=some (.slice e)) (hi:(P.info? e).map (fun i=>(i.zero,i.size,i.bytes))=some (some z,size,bytes))
    (hzs:z.cells.size=size) (hsz:0<size) (v:Value) (n:Nat) (xs:List Value) (hs:a.eval s=v) (hown:w.ownsRow base e size v n xs)
    (news:Array Value) (hl:news.size=size) (hx:a.eval x= .slice (some ⟨w.heap.size,0,none⟩) 1 1) (h1: ∀u∈news.toList,u.oneCell'=true) (h63:n+1≤maxLen) (hbytes:(n+1)*bytes≤140737488355328) (hbase:base≤w.heap.size)
    (h: ∀g cap w',w'.ownsRow base e size (.slice (some ⟨g,0,none⟩) (n+1) cap) (n+1) (xs++news.toList)→Below base w w'→g<w'.heap.size→w.grownBy w' v.ownBlock→(v.ownBlock=some g∨w.heap.size≤g)→wpList P ops Q rest (a.put o.dst (.slice (some ⟨g,0,none⟩) (n+1) cap)) w'):
    wpList P ops Q (o::rest) a (w.alloc (.cells news e)):=by
  obtain ⟨i0,hi0,hz0,hz1,hz2⟩:=info_parts hi
  refine wpList_append_lies _ hgd s x t ho base e i0 z size bytes ht hi0 hz0 hz1 hz2 hzs hsz v n xs hs (hown.alloc _) ⟨w.heap.size,0,none⟩ 1 1 news.toList hx (by simpa using hl) ?_ h1 (by omega) h63 hbytes (by simp;omega) (w.heap.size+1) (by simp) ?_
  · intro j u hu
    have hk:=cells_of (blk_new w (.cells news e) w.heap.size rfl) j
    rw [show (⟨w.heap.size,0,none⟩:Addr).add j=⟨w.heap.size,j,none⟩ by unfold Addr.add;split<;>simp_all]
    rw [hk];simpa using hu
  · intro g cap w' h2 hg hat hlt
    have h0:=World.grownBy_alloc w (.cells news e) v.ownBlock
    refine h g cap w' h2 ?_ hlt ⟨hg.os.trans h0.os,hg.tape.trans h0.tape,hg.output.trans h0.output,Nat.le_trans h0.size hg.size,fun k hk hne=>(hg.block k (Nat.lt_of_lt_of_le hk h0.size) hne).trans (h0.block k hk hne)⟩ (hat.imp id fun q=>by omega)
    refine ((Below.refl base w).alloc hbase _).grown hg (by simp;omega) ?_
    intro k hk
    rcases hown.2 with ⟨rfl,_⟩|⟨g',cap',cur,rfl,hge,_⟩
    · simp [Value.ownBlock] at hk
    · simp [Value.ownBlock] at hk;omega
theorem step_push2 {P : Program} {ops : Array Oper} {o : Oper} {a : Act} {K : Act → World → Prop} {Q : Exit → Act → World → Prop} {E : Prop} (w : World) (hwant : Region.wanted o (yielded ops a.tmps) = true) (s x : Operand) (t : TypeId)
    (ho:o.op= .call {callee:= .builtin .append,args:= #[s,x],argTypes:= #[t,t]})
    (base:Nat) (e:TypeId) (z:Value) (size bytes:Nat) (ht:P.underlying t=some (.slice e)) (hi:(P.info? e).map (fun i=>(i.zero,i.size,i.bytes))=some (some z,size,bytes))
    (hzs:z.cells.size=size) (hsz:0<size) (v:Value) (n:Nat) (xs:List Value) (hs:a.eval s=v) (hown:w.ownsRow base e size v n xs)
    (news:Array Value) (hl:news.size=size) (hx:a.eval x= .slice (some ⟨w.heap.size,0,none⟩) 1 1) (h1: ∀u∈news.toList,u.oneCell'=true) (h63:n+1≤maxLen) (hbytes:(n+1)*bytes≤140737488355328) (hbase:base≤w.heap.size)
    (h: ∀g cap w',w'.ownsRow base e size (.slice (some ⟨g,0,none⟩) (n+1) cap) (n+1) (xs++news.toList)→Below base w w'→g<w'.heap.size→w.grownBy w' v.ownBlock→(v.ownBlock=some g∨w.heap.size≤g)→K (a.put o.dst (.slice (some ⟨g,0,none⟩) (n+1) cap)) w'):
    if Region.wanted o (yielded ops a.tmps)=true then Oper.wp P o a (w.alloc (.cells news e)) K Q else E:=by
  rw [if_pos hwant]
  obtain ⟨i0,hi0,hz0,hz1,hz2⟩:=info_parts hi
  refine wp_append_lies _ s x t ho base e i0 z size bytes ht hi0 hz0 hz1 hz2 hzs hsz v n xs hs (hown.alloc _) ⟨w.heap.size,0,none⟩ 1 1 news.toList hx (by simpa using hl) ?_ h1 (by omega) h63 hbytes (by simp;omega) (w.heap.size+1) (by simp) ?_
  · intro j u hu
    have hk:=cells_of (blk_new w (.cells news e) w.heap.size rfl) j
    rw [show (⟨w.heap.size,0,none⟩:Addr).add j=⟨w.heap.size,j,none⟩ by unfold Addr.add;split<;>simp_all]
    rw [hk];simpa using hu
  · intro g cap w' h2 hg hat hlt
    have h0:=World.grownBy_alloc w (.cells news e) v.ownBlock
    refine h g cap w' h2 ?_ hlt ⟨hg.os.trans h0.os,hg.tape.trans h0.tape,hg.output.trans h0.output,Nat.le_trans h0.size hg.size,fun k hk hne=>(hg.block k (Nat.lt_of_lt_of_le hk h0.size) hne).trans (h0.block k hk hne)⟩ (hat.imp id fun q=>by omega)
    refine ((Below.refl base w).alloc hbase _).grown hg (by simp;omega) ?_
    intro k hk
    rcases hown.2 with ⟨rfl,_⟩|⟨g',cap',cur,rfl,hge,_⟩
    · simp [Value.ownBlock] at hk
    · simp [Value.ownBlock] at hk;omega
structure Ow2 (w:World) (base:Nat) (e1:TypeId) (s1:Nat) (v1:Value) (n1:Nat) (x1:List Value) (e2:TypeId) (s2:Nat) (v2:Value) (n2:Nat) (x2:List Value):Prop where
  a:w.ownsRow base e1 s1 v1 n1 x1
  b:w.ownsRow base e2 s2 v2 n2 x2
  ne: ∀k,v1.ownBlock=some k→v2.ownBlock≠some k
section
variable {w w' : World} {base : Nat} {e1 e2 : TypeId} {s1 s2 n1 n2 : Nat} {v1 v2 : Value} {x1 x2 : List Value}
theorem Ow2.nil (w:World) (base:Nat) (e1:TypeId) (s1:Nat) (e2:TypeId) (s2:Nat):Ow2 w base e1 s1 (.slice none 0 0) 0 [] e2 s2 (.slice none 0 0) 0 []:=⟨own_nil _ _ _ _,own_nil _ _ _ _,fun k h=>by simp [Value.ownBlock] at h⟩
theorem Ow2.below (h:Ow2 w base e1 s1 v1 n1 x1 e2 s2 v2 n2 x2) (hb:Below w.heap.size w w'):Ow2 w' base e1 s1 v1 n1 x1 e2 s2 v2 n2 x2:=⟨own_below h.a hb,own_below h.b hb,h.ne⟩
theorem Ow2.swap (h:Ow2 w base e1 s1 v1 n1 x1 e2 s2 v2 n2 x2):Ow2 w base e2 s2 v2 n2 x2 e1 s1 v1 n1 x1:=⟨h.b,h.a,fun k h2 h1=>h.ne k h1 h2⟩
theorem Ow2.push (h:Ow2 w base e1 s1 v1 n1 x1 e2 s2 v2 n2 x2) {g c m:Nat} {x:List Value} (ho:w'.ownsRow base e1 s1 (.slice (some ⟨g,0,none⟩) m c) m x) (hg:w.grownBy w' v1.ownBlock) (hat:v1.ownBlock=some g∨w.heap.size≤g):Ow2 w' base e1 s1 (.slice (some ⟨g,0,none⟩) m c) m x e2 s2 v2 n2 x2:=by
  refine ⟨ho,h.b.kept hg ?_,fun k hk h2=> ?_⟩
  · cases h2:v2.ownBlock with
    | none=>exact .inl rfl
    | some k=>exact .inr fun e=>h.ne k e.symm h2
  · simp [Value.ownBlock] at hk
    subst hk
    rcases hat with hat|hat
    · exact h.ne g hat h2
    · have:=(h.b.lt g h2).2;omega
end
end Go.Proofs.YtjeofpkhgmefgaaGreat
namespace Go.Proofs.YtjeofpkhgmefgaaGreat
open Go.RowKit
attribute [local go_sem ↓] Go.wp_at_zero Go.wp_at_succ
variable {ap : Value} {s : Ar} {O : Nat → Prop}
theorem str_lenU (l:List UInt8) (w:World):(Builtin.len_ #[9] 3 #[.string ⟨l.toArray⟩]).run Tryz.prog w= .ok (.int .i64 (l.length:Int)) w:=str_len l w
def DRows (w:World) (base:Nat) (p1 p2:Value) (ds:Docs):Prop:=Ow2 w base 9 1 p1 ds.length ((ds.map (·.2)).map strOf) 85 2 p2 ds.length (itemCells (docsM ds))
def RRows (w:World) (base:Nat) (p1 p2:Value) (rate:Int) (ds:Docs) (R:List (Nat×Nat)):Prop:=Ow2 w base 4 1 p1 R.length ((R.map (mkR rate)).map fun x=> .bool x) 85 2 p2 (R.filter (mkR rate)).length (itemCells ((R.filter (mkR rate)).map (spR ds)))
theorem own_kept2 {w w' w3:World} {base n:Nat} {e:TypeId} {size:Nat} {v v1:Value} {xs:List Value} (h:w.ownsRow base e size v n xs) (hb:Below w.heap.size w w') (hg:w'.grownBy w3 v1.ownBlock) (hne: ∀k,v1.ownBlock=some k→v.ownBlock≠some k):w3.ownsRow base e size v n xs:=by
  refine (own_below h hb).kept hg ?_
  cases h2:v.ownBlock with
  | none=>exact .inl rfl
  | some k=>exact .inr fun e=>hne k e.symm h2
theorem docsM_snoc (ds:Docs) (d:Int×List UInt8):docsM (ds++[d])=docsM ds++[(d.1,(d.2.length:Int))]:=by unfold docsM;simp
section
attribute [local go_sem] str_lenU
theorem check_no (root rate : Int) (vl : Value) (h : ¬ (vIs s root = true ∧ 1 ≤ rate ∧ rate ≤ 16)) (w : World) (hA : AP w ap s O) :
    Calls Tryz.prog 22 #[ap, .int .i64 root, .int .i64 rate,vl] w fun e w'=>e= .returned (.bool false)∧Below w.heap.size w w':=by
  cases hv:vIs s root with
  | false=>
    go_enter Tryz.func22,Tryz.ntmps22
    go_wp2_with fail
    refine cg fun V hV_V=> ?_
    have hB:=Below.refl w.heap.size w
    refine nea0 hV_V hA hB ?_;clear hA hB;intro z_V hA hB
    clear hV_V
    refine rC (vOf_calls _ _ hA) fun W1 hb_W1=> ?_
    refine bea0 hb_W1 hA hB ?_;clear hb_W1 hA hB;intro z_W1 hA hB
    unfold Parts.val
    rw [hv]
    go_wp2_with fail
    go_ret
    exact ⟨rfl,by (repeat' first|with_reducible assumption|with_reducible exact Below.refl _ _|with_reducible refine Below.alloc ?_ ?_ _|with_reducible refine Below.setCell ?_ ?_ _|with_reducible refine below_drewN ?_ _|with_reducible refine Below.drew ?_|exact Nat.le_refl _|((try dsimp only);omega)|(simp only [siz_alloc,siz_set];omega))⟩
  | true=>
    by_cases h1:rate<1
    · go_enter Tryz.func22,Tryz.ntmps22
      go_wp2_with fail
      refine cg fun V hV_V=> ?_
      have hB:=Below.refl w.heap.size w
      refine nea0 hV_V hA hB ?_;clear hA hB;intro z_V hA hB
      clear hV_V
      refine rC (vOf_calls _ _ hA) fun W1 hb_W1=> ?_
      refine bea0 hb_W1 hA hB ?_;clear hb_W1 hA hB;intro z_W1 hA hB
      unfold Parts.val
      rw [hv]
      go_wp2_with fail
      go_ret
      exact ⟨rfl,by (repeat' first|with_reducible assumption|with_reducible exact Below.refl _ _|with_reducible refine Below.alloc ?_ ?_ _|with_reducible refine Below.setCell ?_ ?_ _|with_reducible refine below_drewN ?_ _|with_reducible refine Below.drew ?_|exact Nat.le_refl _|((try dsimp only);omega)|(simp only [siz_alloc,siz_set];omega))⟩
    · have h2 : 16 < rate := by
        rcases Int.lt_or_le 16 rate with h2|h2
        · exact h2
        · exact absurd ⟨hv,by omega,h2⟩ h
      go_enter Tryz.func22,Tryz.ntmps22
      go_wp2_with fail
      refine cg fun V hV_V=> ?_
      have hB:=Below.refl w.heap.size w
      refine nea0 hV_V hA hB ?_;clear hA hB;intro z_V hA hB
      clear hV_V
      refine rC (vOf_calls _ _ hA) fun W1 hb_W1=> ?_
      refine bea0 hb_W1 hA hB ?_;clear hb_W1 hA hB;intro z_W1 hA hB
      unfold Parts.val
      rw [hv]
      go_wp2_with fail
      go_ret
      exact ⟨rfl,by (repeat' first|with_reducible assumption|with_reducible exact Below.refl _ _|with_reducible refine Below.alloc ?_ ?_ _|with_reducible refine Below.setCell ?_ ?_ _|with_reducible refine below_drewN ?_ _|with_reducible refine Below.drew ?_|exact Nat.le_refl _|((try dsimp only);omega)|(simp only [siz_alloc,siz_set];omega))⟩
theorem check_end (root rate : Int) (ds : Docs) (r : Bool) (hr : vCheck s root rate ds = some r) (h1 : vIs s root = true ∧ 1 ≤ rate ∧ rate ≤ 16) (h2 : refRight (txt ds) = true) :
    ∃a,lAll s (vOf s root).table=some a∧a.length≤50000∧((a==docsM ds)=false∧r=false∨(a==docsM ds)=true∧
      ∃b,wAll s (vOf s root).wave=some b∧b.length≤50000∧((b==symsM (txt ds))=false∧r=false∨(b==symsM (txt ds))=true∧
      ∃c,bAll s (vOf s root).marks=some c∧c.length≤50000∧((c==marksM rate (txt ds))=false∧r=false∨(c==marksM rate (txt ds))=true∧
      ∃d,lAll s (vOf s root).spots=some d∧d.length≤50000∧r=(d==spotsM rate ds)))):=by
  unfold vCheck at hr
  rw [if_pos h1,if_pos h2] at hr
  obtain ⟨a,ha,hr⟩:=Option.bind_eq_some_iff.1 hr
  by_cases la:a.length≤50000
  · rw [if_pos la] at hr
    refine ⟨a,ha,la,?_⟩
    cases ea:(a==docsM ds) with
    | false=>rw [ea,if_neg (by decide)] at hr;exact .inl ⟨rfl,(Option.some.inj hr).symm⟩
    | true=>
      rw [ea,if_pos rfl] at hr
      obtain ⟨b,hb,hr⟩:=Option.bind_eq_some_iff.1 hr
      by_cases lb:b.length≤50000
      · rw [if_pos lb] at hr
        refine .inr ⟨rfl,b,hb,lb,?_⟩
        cases eb:(b==symsM (txt ds)) with
        | false=>rw [eb,if_neg (by decide)] at hr;exact .inl ⟨rfl,(Option.some.inj hr).symm⟩
        | true=>
          rw [eb,if_pos rfl] at hr
          obtain ⟨c,hc,hr⟩:=Option.bind_eq_some_iff.1 hr
          by_cases lc:c.length≤50000
          · rw [if_pos lc] at hr
            refine .inr ⟨rfl,c,hc,lc,?_⟩
            cases ec:(c==marksM rate (txt ds)) with
            | false=>rw [ec,if_neg (by decide)] at hr;exact .inl ⟨rfl,(Option.some.inj hr).symm⟩
            | true=>
              rw [ec,if_pos rfl] at hr
              obtain ⟨d,hd,hr⟩:=Option.bind_eq_some_iff.1 hr
              by_cases ld:d.length≤50000
              · rw [if_pos ld] at hr
                exact .inr ⟨rfl,d,hd,ld,(Option.some.inj hr).symm⟩
              · rw [if_neg ld] at hr;cases hr
          · rw [if_neg lc] at hr;cases hr
      · rw [if_neg lb] at hr;cases hr
  · rw [if_neg la] at hr;cases hr
set_option maxRecDepth 100000 in
set_option maxHeartbeats 8000000 in
theorem check_yes (root rate : Int) (ds : Docs) (vl : Value) (r : Bool) (hr : vCheck s root rate ds = some r) (hc : vIs s root = true ∧ 1 ≤ rate ∧ rate ≤ 16) (hn : ds.length ≤ 50000) (h40 : ∀ t, t ∈ txt ds → t.length ≤ 50000) (w : World) (hA : AP w ap s O) (hd : Rd2 w vl ds) :
    Calls Tryz.prog 22 #[ap, .int .i64 root, .int .i64 rate,vl] w fun e w'=>e= .returned (.bool r)∧Below w.heap.size w w':=by
  obtain ⟨hv,hr1,hr2⟩:=hc
  have HR:=Lib.hid hr;have HN:=Lib.hid hn;have H40:=Lib.hid h40;have HV:=Lib.hid hv
  have HD:=Lib.hid hd
  have htl:(txt ds).length=ds.length:=by simp
  have HTL:=Lib.hid htl
  obtain ⟨A,cap,rfl, -⟩:=hd
  have r1:decide (rate<1)=false:=by simp;omega
  have r2:decide (16<rate)=false:=by simp;omega
  have r0:rate≠0:=by omega
  have HRT:=Lib.hid (And.intro hr1 hr2)
  clear hr hn h40 hr1 hr2 htl
  go_enter Tryz.func22,Tryz.ntmps22
  go_wp2_with fail
  refine cg fun V hV_V=> ?_
  have hB:=Below.refl w.heap.size w
  refine nea0 hV_V hA hB ?_;clear hA hB;intro z_V hA hB
  clear hV_V
  refine rC (vOf_calls _ _ hA) fun W1 hb_W1=> ?_
  refine bea0 hb_W1 hA hB ?_;clear hb_W1 hA hB;intro z_W1 hA hB
  unfold Parts.val
  rw [hv]
  have HW1:=hB.size
  go_wp2_with fail
  refine wg fun V1 hV_V1=> ?_
  refine nna0 hV_V1 hA hB ?_;clear hA hB;intro hn_V1 z_V1 hA hB
  obtain ⟨kp,c_kp,o_kp,l_kpV1⟩:=nN hn_V1 hV_V1 (W1.heap.size)
  clear hV_V1 hn_V1
  have HA1:=Lib.hid hA;have HB1:=Lib.hid hB;have KP:=Lib.hid kp;have HD1:=Lib.hid (HD.out.below hB)
  have hz1:=hB.size
  clear hA hB kp c_kp hv
  generalize hkb:W1.heap.size=kb at*
  go_loopg [11,12,38] ds.length (fun k p1 p2 q wr=> ∃i:Nat,q= .int .i64 (i:Int)∧i+k=ds.length∧Hid (DRows wr V1.heap.size p1 p2 (ds.take i))∧Hid (Below V1.heap.size V1 wr))
  case atStart=>exact ⟨0,rfl,by omega,Lib.hid (Ow2.nil _ _ _ _ _ _),Lib.hid (Below.refl _ _)⟩
  case round=>
    obtain ⟨i,rfl,hk,Hrow,HB⟩:=hrel
    have hw1:=HB.out.size
    by_cases hlt:i<ds.length
    · obtain ⟨k,rfl⟩: ∃k,gk=k+1:=⟨gk - 1,by omega⟩
      obtain ⟨d,hdi⟩:=at_some hlt
      obtain ⟨A',cap',hv,h2⟩:=HD1.out.below HB.out
      obtain ⟨ad,rfl,hg,hc⟩:=h2 (by omega)
      obtain ⟨rfl, -,rfl⟩:=Value.slice.inj hv
      obtain ⟨hlb,c1,c2⟩:=hc i d hdi
      have n1:decide ((i:Int)<(ds.length:Int))=true:=by simpa using hlt
      have n2:(i:Int)<(ds.length:Int):=by omega
      have hN:=HN.out
      have E3:=Lib.hid (step_wrap i 50000 (by omega) (by omega))
      have hi5:i≤50000:=by omega
      have htake:Hid (ds.take (i+1)=ds.take i++[d]):=Lib.hid (by rw [List.take_succ_eq_append_getElem hlt,(List.getElem_eq_iff hlt).2 hdi])
      have hil:(ds.take i).length=i:=by rw [List.length_take];omega
      have hR:=Hrow.out
      unfold DRows at hR
      rw [hil] at hR
      have HRow:=Lib.hid hR
      have HL1:=Lib.hid hR.a.lt;have HL2:=Lib.hid hR.b.lt
      have HNE:=Lib.hid hR.ne
      replace c2:wr.cell? ⟨(ad.add (i*2)).block,(ad.add (i*2)).off+1,none⟩=some (.string ⟨d.2.toArray⟩):=c2
      clear h2 hc hv hdi hR Hrow hil hN
      go_wp2_with (
        at_builtin
        first
        | (refine wpList_push2 _ (by rfl) _ _ 48 (by rfl) (V1.heap.size) 9 (.string ⟨#[]⟩) 1 16 Tryz.underlying48 (by kernel_rfl) (by rfl) (by omega) _ _ _ (by rfl) (own_below HRow.out.a (by (repeat' first | with_reducible assumption | with_reducible exact Below.refl _ _ | with_reducible refine Below.alloc ?_ ?_ _ | with_reducible refine Below.setCell ?_ ?_ _ | with_reducible refine below_drewN ?_ _ | with_reducible refine Below.drew ?_ | exact Nat.le_refl _ | ((try dsimp only); omega) | (simp only [siz_alloc, siz_set]; omega)))) _ (by rfl) (by rw [siz_alloc]; rfl) (by simp [Value.oneCell']) (by unfold maxLen; omega) (by omega) (by simp only [siz_alloc, siz_set]; omega) ?_
           intro g_W c_W W3 hown_W hlow_W hlt_W hgr_W hat_W
           have kd:=(hgr_W.block wr.heap.size (by rw [siz_alloc];omega) (fun e=>by have:=HL1.out _ e.symm;omega)).trans (blk_new wr _ _ rfl)
           have HHob:=Lib.hid (own_kept2 HRow.out.b (show Below wr.heap.size wr _ by (repeat' first|with_reducible assumption|with_reducible exact Below.refl _ _|with_reducible refine Below.alloc ?_ ?_ _|with_reducible refine Below.setCell ?_ ?_ _|with_reducible refine below_drewN ?_ _|with_reducible refine Below.drew ?_|exact Nat.le_refl _|((try dsimp only);omega)|(simp only [siz_alloc,siz_set];omega))) hgr_W HNE.out)
           have c_kd:=cells_of kd
           have f_kd:=free_of kd
           have l_kd:=lt_of kd
           have hz3:=hgr_W.size
           rw [siz_alloc] at hz3
           have HLow3:=Lib.hid (low_step HB.out (Nat.le_refl _) (Below.trans (by (repeat' first|with_reducible assumption|with_reducible exact Below.refl _ _|with_reducible refine Below.alloc ?_ ?_ _|with_reducible refine Below.setCell ?_ ?_ _|with_reducible refine below_drewN ?_ _|with_reducible refine Below.drew ?_|exact Nat.le_refl _|((try dsimp only);omega)|(simp only [siz_alloc,siz_set];omega))) hlow_W))
           have Hown:=Lib.hid hown_W
           have Hgr:=Lib.hid hgr_W
           have Hat:=Lib.hid hat_W
           clear hown_W hgr_W hat_W hlow_W)
        | (refine wpList_push2 _ (by rfl) _ _ 93 (by rfl) (V1.heap.size) 85 (.agg #[.int .i64 0, .int .i64 0]) 2 16 Tryz.underlying93 (by kernel_rfl) (by rfl) (by omega) _ _ _ (by rfl) HHob.out _ (by rfl) (by rfl) (by simp [Value.oneCell']) (by unfold maxLen; omega) (by omega) (by omega) ?_
           intro g_X c_X W5 hown_X hlow_X hlt_X hgr_X hat_X
           have Hown2:=Lib.hid hown_X
           have Hgr2:=Lib.hid hgr_X
           have Hat2:=Lib.hid hat_X
           have HLow5:=Lib.hid hlow_X
           clear hown_X hgr_X hat_X hlow_X))
      go_wp2_with fail
      go_roundg k
      case measure=>omega
      case rel=>
        refine ⟨i+1,by first|rfl|(rw [E3.out];rfl),by omega,Lib.hid ?_,Lib.hid (low_step HLow3.out (Nat.le_refl _) HLow5.out)⟩
        have h3:=(HRow.out.below (show Below wr.heap.size wr _ by (repeat' first|with_reducible assumption|with_reducible exact Below.refl _ _|with_reducible refine Below.alloc ?_ ?_ _|with_reducible refine Below.setCell ?_ ?_ _|with_reducible refine below_drewN ?_ _|with_reducible refine Below.drew ?_|exact Nat.le_refl _|((try dsimp only);omega)|(simp only [siz_alloc,siz_set];omega)))).push Hown.out Hgr.out Hat.out
        have h5:=(h3.swap.push Hown2.out Hgr2.out Hat2.out).swap
        unfold DRows
        rw [htake.out,docsM_snoc,itemCells_append,List.map_append,List.map_append,List.length_append,List.length_take,Nat.min_eq_left (by omega)]
        exact h5
    · have hi:i=ds.length:=by omega
      have n1:decide ((i:Int)<(ds.length:Int))=false:=by simpa using hlt
      have hrow:=Hrow.out
      rw [hi,List.take_length] at hrow
      have HRW:=Lib.hid hrow
      clear hrow Hrow hk
      go_wp2_with fail
      refine (rowsSorted_calls _ (txt ds) (by rw [HTL.out];exact HN.out) _ (by rw [HTL.out];exact Rk.of_own HRW.out.a)).mono ?_
      rintro e2 W2 ⟨v2,rfl,hrk,hb2⟩
      have HX2:=Lib.hid (below_step HB.out hb2)
      have HRW2:=Lib.hid (Ow2.below HRW.out hb2)
      have hw2:=HX2.out.size
      obtain ⟨R,hR⟩: ∃R,R=refSorted (txt ds):=⟨_,rfl⟩
      rw [←hR] at hrk
      have hsm:R.length≤500:=by rw [hR];exact sorted_small _
      have Hval:Hid (∀x,x∈R→ ∃t,(txt ds)[x.1]? =some t∧x.2≤t.length):=Lib.hid (fun x hx=>sorted_valid (hR▸hx))
      have HRR:=Lib.hid hR
      have HRK:=Lib.hid hrk
      obtain ⟨-,A2,c2,rfl, -⟩:=hrk
      clear hR hb2 HB HRW n1 hi hlt
      go_wp2_with fail
      go_loopg [13,14,60] R.length (fun k p13 p14 q wr=> ∃i:Nat,q= .int .i64 (i:Int)∧i+k=R.length∧Hid (RRows wr W2.heap.size p14 p13 rate ds (R.take i))∧Hid (Below W2.heap.size W2 wr))
      case atStart=>exact ⟨0,rfl,by omega,Lib.hid (Ow2.nil _ _ _ _ _ _),Lib.hid (Below.refl _ _)⟩
      case round=>
        obtain ⟨i,rfl,hk,Hrow,HB⟩:=hrel
        have hwr:=HB.out.size
        by_cases hlt:i<R.length
        · obtain ⟨k,rfl⟩: ∃k,gk=k+1:=⟨gk - 1,by omega⟩
          obtain ⟨x,hx⟩:=at_some hlt
          obtain ⟨t,ht,hxt⟩:=Hval.out x (List.mem_of_getElem? hx)
          obtain ⟨-,A',cap',hv,h2⟩:=HRK.out.below HB.out
          obtain ⟨g1,cs1,T1,rfl,kg1,hcs1⟩:=h2 (by omega)
          obtain ⟨rfl, -,rfl⟩:=Value.slice.inj hv
          have c1a:cs1[i*2]? =some (.int .i64 (x.1:Int)):=(hcs1 _ (by omega)).trans (rowCells_at hx).1
          have c1b:cs1[i*2+1]? =some (.int .i64 (x.2:Int)):=(hcs1 _ (by omega)).trans (rowCells_at hx).2
          clear h2 hv hcs1
          have n1:decide ((i:Int)<(R.length:Int))=true:=by simpa using hlt
          have n2:(i:Int)<(R.length:Int):=by omega
          have E3:=Lib.hid (step_wrap i 500 (by omega) (by omega))
          have htake:Hid (R.take (i+1)=R.take i++[x]):=Lib.hid (by rw [List.take_succ_eq_append_getElem hlt,(List.getElem_eq_iff hlt).2 hx])
          have hil:(R.take i).length=i:=by rw [List.length_take];omega
          have hfl:((R.take i).filter (mkR rate)).length≤500:=by have:=List.length_filter_le (mkR rate) (R.take i);omega
          have hR:=Hrow.out
          unfold RRows at hR
          rw [hil] at hR
          have HRow:=Lib.hid hR
          have HL1:=Lib.hid hR.a.lt;have HL2:=Lib.hid hR.b.lt
          have HNE:=Lib.hid hR.ne
          clear hR Hrow hil
          by_cases hm:(x.2:Int) % rate=0
          · have m1:((x.2:Int) % rate==0)=true:=by rw [hm];rfl
            have hmk:Hid (mkR rate x=true):=Lib.hid (decide_eq_true hm)
            have hdx:x.1<ds.length:=by have:=(List.getElem?_eq_some_iff.1 ht).1;rw [HTL.out] at this;exact this
            obtain ⟨d,hdi⟩:=at_some hdx
            have Hsp:Hid (spR ds x=(d.1,(x.2:Int))):=Lib.hid (by unfold spR;simp [List.getD,hdi])
            have Hdi:=Lib.hid hdi
            have n3:(x.1:Int)<(ds.length:Int):=by omega
            clear hm hdi ht hxt
            have c_kg1:=f3 kg1;have l_kg1wr:=lt_of kg1
            go_wp2_with (
              at_builtin
              (refine wpList_push2 _ (by rfl) _ _ 56 (by rfl) (W2.heap.size) 4 (.bool false) 1 1 Tryz.underlying56 (by kernel_rfl) (by rfl) (by omega) _ _ _ (by rfl) (own_below HRow.out.a (by (repeat' first|with_reducible assumption|with_reducible exact Below.refl _ _|with_reducible refine Below.alloc ?_ ?_ _|with_reducible refine Below.setCell ?_ ?_ _|with_reducible refine below_drewN ?_ _|with_reducible refine Below.drew ?_|exact Nat.le_refl _|((try dsimp only);omega)|(simp only [siz_alloc,siz_set];omega)))) _ (by rfl) (by rw [siz_alloc];rfl) (by simp [Value.oneCell']) (by unfold maxLen;omega) (by omega) (by simp only [siz_alloc,siz_set];omega) ?_
               intro g_W c_W W3 hown_W hlow_W hlt_W hgr_W hat_W
               have kr:=(hgr_W.block wr.heap.size (by rw [siz_alloc];omega) (fun e=>by have:=HL1.out _ e.symm;omega)).trans (blk_new wr _ _ rfl)
               have h3:=Lib.hid ((HRow.out.below (show Below wr.heap.size wr _ by (repeat' first|with_reducible assumption|with_reducible exact Below.refl _ _|with_reducible refine Below.alloc ?_ ?_ _|with_reducible refine Below.setCell ?_ ?_ _|with_reducible refine below_drewN ?_ _|with_reducible refine Below.drew ?_|exact Nat.le_refl _|((try dsimp only);omega)|(simp only [siz_alloc,siz_set];omega)))).push hown_W hgr_W hat_W)
               have HLow3:=Lib.hid (low_step HB.out (Nat.le_refl _) (Below.trans (by (repeat' first|with_reducible assumption|with_reducible exact Below.refl _ _|with_reducible refine Below.alloc ?_ ?_ _|with_reducible refine Below.setCell ?_ ?_ _|with_reducible refine below_drewN ?_ _|with_reducible refine Below.drew ?_|exact Nat.le_refl _|((try dsimp only);omega)|(simp only [siz_alloc,siz_set];omega))) hlow_W))
               have hz3:=hgr_W.size
               rw [siz_alloc] at hz3
               clear hown_W hgr_W hat_W hlow_W))
            go_wp2_with fail
            refine wp_gen fun V3 hV3=> ?_
            have hb3:Below W3.heap.size W3 V3:=by rw [hV3];(repeat' first|with_reducible assumption|with_reducible exact Below.refl _ _|with_reducible refine Below.alloc ?_ ?_ _|with_reducible refine Below.setCell ?_ ?_ _|with_reducible refine below_drewN ?_ _|with_reducible refine Below.drew ?_|exact Nat.le_refl _|((try dsimp only);omega)|(simp only [siz_alloc,siz_set];omega))
            clear hV3
            have hzv:=hb3.size
            have HX3:=Lib.hid (below_step HX2.out HLow3.out)
            have HX4:=Lib.hid (below_step HX3.out hb3)
            obtain ⟨ad,hvl,hlb,c1d⟩: ∃ad,A=some ad∧(ad.add (x.1*2)).block<W2.heap.size∧V3.cell? (ad.add (x.1*2))=some (.int .i64 d.1):=by
              obtain ⟨A',cap',hv,h2⟩:=HD1.out
              obtain ⟨ad,rfl,hg,hc⟩:=h2 (by omega)
              obtain ⟨rfl, -, -⟩:=Value.slice.inj hv
              obtain ⟨q1,q2, -⟩:=hc x.1 d Hdi.out
              exact ⟨ad,rfl,by omega,(HX4.out.cell (by exact q1)).trans q2⟩
            subst hvl
            replace kr:=keep_blk hb3 kr
            have H3:=Lib.hid (h3.out.below hb3)
            have HLow4:=Lib.hid (low_step HLow3.out (Nat.le_refl _) (hb3.mono (by have:=HLow3.out.size;omega)))
            have hL3:=H3.out.b.lt
            have HLb:=Lib.hid hlb
            clear hb3 c_kg1 kg1
            have c_kr:=f3 kr;have l_krV3:=lt_of kr
            have hadb:V3.heap.size≥W2.heap.size:=by have:=HLow4.out.size;omega
            refine wp_region_noPanic ?_
            refine wp_region_held_drew (S:=fun v=>(v.cell? (ad.add (x.1*2))=some (.int .i64 d.1))∧(∀o,v.cell? ⟨wr.heap.size,o,none⟩=V3.cell? ⟨wr.heap.size,o,none⟩)∧Below W2.heap.size V3 v) (by kernel_rfl) ⟨c1d,fun _=>rfl,(Below.refl _ _).drew⟩ (fun hHeld=> ?_)
            have hB_d:Below V3.heap.size V3 V3.drew:=(Below.refl _ _).drew
            generalize V3.drew=V3d at hHeld hB_d⊢
            refine ta 0 hHeld ?_
            refine ta 1 hHeld ?_
            refine ta 2 hHeld ?_
            refine ta 3 hHeld ?_
            refine ta 4 hHeld ?_
            refine ta 5 hHeld ?_
            refine ta 6 hHeld ?_
            refine ta 7 hHeld ?_
            refine ta 8 hHeld ?_
            refine ta 9 hHeld ?_
            have hown3:=Lib.hid (own_below H3.out.b hB_d)
            have hH3d:=Lib.hid (Ow2.below H3.out hB_d)
            have hlow3d:=Lib.hid hHeld.2.2
            have heq3:=Lib.hid hHeld.2.1
            have hz3d:=hB_d.size
            have hS: ∀v,(∀o,v.cell? ⟨wr.heap.size,o,none⟩=V3.cell? ⟨wr.heap.size,o,none⟩)→Below W2.heap.size V3 v→((v.cell? (ad.add (x.1*2))=some (.int .i64 d.1))∧(∀o,v.cell? ⟨wr.heap.size,o,none⟩=V3.cell? ⟨wr.heap.size,o,none⟩)∧Below W2.heap.size V3 v):=fun v h1 h2=>⟨(h2.cell (by exact hlb)).trans c1d,h1,h2⟩
            have HS:=Lib.hid hS
            clear c1d hS
            refine rd 10 rfl fun K hK=> ?_
            go_simp
            refine ho hK (HS.out _ (fun o=>(((Below.refl V3d.heap.size V3d).alloc (Nat.le_refl _) _).cell (by show wr.heap.size<V3d.heap.size;omega)).trans (heq3.out o)) (hlow3d.out.alloc (by omega) _)) fun hHeld=> ?_
            clear hK K
            refine rd 11 rfl fun K hK=> ?_
            refine step_push2 _ (by rfl) _ _ 93 (by rfl) (W2.heap.size) 85 (.agg #[.int .i64 0, .int .i64 0]) 2 16 Tryz.underlying93 (by kernel_rfl) (by rfl) (by omega) _ _ _ (by rfl) hown3.out _ (by rfl) (by rfl) (by simp [Value.oneCell']) (by unfold maxLen;omega) (by omega) (by omega) ?_
            intro g_X c_X W5 hown_X hlow_X hlt_X hgr_X hat_X
            refine ho hK (HS.out _ (fun o=>(World.cell?_of_block (hgr_X.block wr.heap.size (by omega) (fun e=>by have:=HL2.out _ e.symm;omega))).trans (heq3.out o)) (hlow3d.out.trans hlow_X)) fun hHeld=> ?_
            clear hK K
            refine rd 12 rfl fun K hK=> ?_
            go_simp
            refine ho hK hHeld fun hHeld=> ?_
            clear hK K
            refine wpAnyH_done (by kernel_rfl) ?_ _
            refine NoPanic.normal ?_
            have H5:=Lib.hid (hH3d.out.swap.push hown_X hgr_X hat_X).swap
            have HLow5:=Lib.hid (low_step (low_step HLow4.out (Nat.le_refl _) hlow3d.out) (Nat.le_refl _) hlow_X)
            clear hHeld hown_X hlow_X hgr_X hat_X
            go_wp2_with fail
            go_roundg k
            case measure=>omega
            case rel=>
              refine ⟨i+1,by first|rfl|(rw [E3.out];rfl),by omega,Lib.hid ?_,HLow5⟩
              have h5:=H5.out
              unfold RRows
              have e1:[x].map (spR ds)=[(d.1,(x.2:Int))]:=by rw [List.map_cons,List.map_nil,Hsp.out]
              have e2:[x].map (mkR rate)=[true]:=by rw [List.map_cons,List.map_nil,hmk.out]
              rw [htake.out,List.map_append,e2,List.map_append,List.filter_append,List.filter_cons_of_pos (by rw [hmk.out]),List.filter_nil,List.map_append,e1,itemCells_append,List.length_append,List.length_append,List.length_take,Nat.min_eq_left (by omega)]
              exact h5
          · have m1:((x.2:Int) % rate==0)=false:=by rw [beq_eq_false_iff_ne];exact hm
            have hmk:Hid (mkR rate x=false):=Lib.hid (decide_eq_false hm)
            clear hm
            have c_kg1:=f3 kg1;have l_kg1wr:=lt_of kg1
            go_wp2_with (
              at_builtin
              (refine wpList_push2 _ (by rfl) _ _ 56 (by rfl) (W2.heap.size) 4 (.bool false) 1 1 Tryz.underlying56 (by kernel_rfl) (by rfl) (by omega) _ _ _ (by rfl) (own_below HRow.out.a (by (repeat' first|with_reducible assumption|with_reducible exact Below.refl _ _|with_reducible refine Below.alloc ?_ ?_ _|with_reducible refine Below.setCell ?_ ?_ _|with_reducible refine below_drewN ?_ _|with_reducible refine Below.drew ?_|exact Nat.le_refl _|((try dsimp only);omega)|(simp only [siz_alloc,siz_set];omega)))) _ (by rfl) (by rw [siz_alloc];rfl) (by simp [Value.oneCell']) (by unfold maxLen;omega) (by omega) (by simp only [siz_alloc,siz_set];omega) ?_
               intro g_W c_W W3 hown_W hlow_W hlt_W hgr_W hat_W))
            go_wp2_with fail
            go_roundg k
            case measure=>omega
            case rel=>
              refine ⟨i+1,by first|rfl|(rw [E3.out];rfl),by omega,Lib.hid ?_,Lib.hid (low_step HB.out (Nat.le_refl _) (Below.trans (by (repeat' first|with_reducible assumption|with_reducible exact Below.refl _ _|with_reducible refine Below.alloc ?_ ?_ _|with_reducible refine Below.setCell ?_ ?_ _|with_reducible refine below_drewN ?_ _|with_reducible refine Below.drew ?_|exact Nat.le_refl _|((try dsimp only);omega)|(simp only [siz_alloc,siz_set];omega))) hlow_W))⟩
              have h3:=(HRow.out.below (show Below wr.heap.size wr _ by (repeat' first|with_reducible assumption|with_reducible exact Below.refl _ _|with_reducible refine Below.alloc ?_ ?_ _|with_reducible refine Below.setCell ?_ ?_ _|with_reducible refine below_drewN ?_ _|with_reducible refine Below.drew ?_|exact Nat.le_refl _|((try dsimp only);omega)|(simp only [siz_alloc,siz_set];omega)))).push hown_W hgr_W hat_W
              unfold RRows
              rw [htake.out,List.map_append,List.map_append,List.filter_append,List.filter_cons_of_neg (by rw [hmk.out];decide),List.filter_nil,List.append_nil,List.length_append,List.length_take,Nat.min_eq_left (by omega),List.map_cons,hmk.out]
              exact h3
        · have hi:i=R.length:=by omega
          have n1:decide ((i:Int)<(R.length:Int))=false:=by simpa using hlt
          have hrow:=Hrow.out
          rw [hi,List.take_length] at hrow
          have HRM:=Lib.hid hrow
          have hBw:=below_step HX2.out HB.out
          have hA:=HA1.out.below hBw
          have kp:=keep_blk hBw KP.out
          have HBW:=Lib.hid (below_step HB1.out hBw)
          have HDW:=Lib.hid (Ow2.below HRW2.out HB.out)
          have hdl:(docsM ds).length=ds.length:=by unfold docsM;simp
          have hHN:=HN.out
          have Rt:Hid (Rk wr 1 u11 (txt ds).length ((txt ds).map strOf)):=Lib.hid (by rw [HTL.out];exact Rk.of_own HDW.out.a)
          clear hrow Hrow hBw HB
          have hB:=Below.refl wr.heap.size wr
          have c_kp:=f3 kp;have l_kpwr:=lt_of kp
          go_wp2_with fail
          refine rC (rowsRight_calls _ (txt ds) (by rw [HTL.out];exact HN.out) _ Rt.out) fun W5 hb_W5=> ?_
          refine bea1 hb_W5 hA hB kp ?_;clear hb_W5 hA hB kp c_kp;intro z_W5 hA hB kp c_kp
          have hr:=HR.out
          cases hrt:refRight (txt ds) with
          | false=>
            have hrf:r=false:=by
              unfold vCheck at hr
              rw [if_pos ⟨HV.out,HRT.out.1,HRT.out.2⟩,hrt,if_neg (by decide)] at hr
              exact (Option.some.inj hr).symm
            subst hrf
            go_wp2_with fail
            go_ret
            exact ⟨rfl,below_step HBW.out hB⟩
          | true=>
            obtain ⟨a,ha,la,hcase⟩:=check_end root rate ds r hr ⟨HV.out,HRT.out.1,HRT.out.2⟩ hrt
            have HC:=Lib.hid hcase
            clear hr hcase hrt
            go_wp2_with fail
            refine (lAll_calls _ a ha la _ hA).mono ?_
            rintro e_W6 W6 ⟨v6,rfl,hown6,hb_W6⟩
            refine bea1 hb_W6 hA hB kp ?_;clear hb_W6 hA hB kp c_kp;intro z_W6 hA hB kp c_kp
            have HX6:=Lib.hid (Rx.of_own hown6)
            have HDB:=Lib.hid ((Rx.of_own HDW.out.b).below hB)
            clear hown6
            go_wp2_with fail
            refine rC (eqItem_calls _ _ a (docsM ds) la (by omega) _ HX6.out (by rw [hdl];exact HDB.out)) fun W7 hb_W7=> ?_
            refine bea1 hb_W7 hA hB kp ?_;clear hb_W7 hA hB kp c_kp;intro z_W7 hA hB kp c_kp
            rcases HC.out with ⟨e,rfl⟩|⟨e,b,hb,lb,hcase⟩
            · rw [e]
              clear e HC
              go_wp2_with fail
              go_ret
              exact ⟨rfl,below_step HBW.out hB⟩
            rw [e]
            have HC2:=Lib.hid hcase
            clear e HC hcase
            go_wp2_with fail
            refine (wAll_calls _ b hb lb _ hA).mono ?_
            rintro e_W8 W8 ⟨v8,rfl,hown8,hb_W8⟩
            refine bea1 hb_W8 hA hB kp ?_;clear hb_W8 hA hB kp c_kp;intro z_W8 hA hB kp c_kp
            have HX8:=Lib.hid (Rx.of_own hown8)
            clear hown8
            go_wp2_with fail
            refine (rowsSymbols_calls _ (txt ds) (by rw [HTL.out];exact HN.out) H40.out _ (Rt.out.below hB)).mono ?_
            rintro e9 W9 ⟨v9,rfl,hown9,hb9⟩
            have HX9:=Lib.hid (HX8.out.below hb9)
            have HY9:=Lib.hid (Rx.of_own hown9)
            replace hA:=hA.below hb9
            replace hB:=below_step hB hb9
            replace kp:=keep_blk hb9 kp
            clear hb9 hown9 c_kp
            have c_kp:=f3 kp;have l_kpW9:=lt_of kp
            have hsy:((refSorted (txt ds)).map (symOf (txt ds))).length≤50000:=by rw [List.length_map];have:=sorted_small (txt ds);omega
            have HY9':Hid (Rx W9 1 v9 ((refSorted (txt ds)).map (symOf (txt ds))).length (((refSorted (txt ds)).map (symOf (txt ds))).map fun x=> .int .i64 x)):=Lib.hid (by rw [List.length_map];exact HY9.out)
            go_wp2_with fail
            refine rC (eqInt_calls _ _ b ((refSorted (txt ds)).map (symOf (txt ds))) lb hsy _ HX9.out HY9'.out) fun W10 hb_W10=> ?_
            refine bea1 hb_W10 hA hB kp ?_;clear hb_W10 hA hB kp c_kp;intro z_W10 hA hB kp c_kp
            rcases HC2.out with ⟨e,rfl⟩|⟨e,c,hcc,lc,hcase⟩
            · unfold symsM at e
              rw [e]
              clear e HC2
              go_wp2_with fail
              go_ret
              exact ⟨rfl,below_step HBW.out hB⟩
            unfold symsM at e
            rw [e]
            have HC3:=Lib.hid hcase
            clear e HC2 hcase
            go_wp2_with fail
            refine (bAll_calls _ c hcc lc _ hA).mono ?_
            rintro e_W11 W11 ⟨v11,rfl,hown11,hb_W11⟩
            refine bea1 hb_W11 hA hB kp ?_;clear hb_W11 hA hB kp c_kp;intro z_W11 hA hB kp c_kp
            have HX11:=Lib.hid (Rx.of_own hown11)
            have HRA:Hid (Rx W11 1 u14 (marksM rate (txt ds)).length ((marksM rate (txt ds)).map fun x=> .bool x)):=Lib.hid (by
              unfold marksM;rw [←HRR.out,List.length_map];exact (Rx.of_own HRM.out.a).below hB)
            have hml:(marksM rate (txt ds)).length≤50000:=by unfold marksM;rw [List.length_map];have:=sorted_small (txt ds);omega
            clear hown11
            go_wp2_with fail
            refine rC (eqBool_calls _ _ c (marksM rate (txt ds)) lc hml _ HX11.out HRA.out) fun W12 hb_W12=> ?_
            refine bea1 hb_W12 hA hB kp ?_;clear hb_W12 hA hB kp c_kp;intro z_W12 hA hB kp c_kp
            rcases HC3.out with ⟨e,rfl⟩|⟨e,d,hdd,ld,hrr⟩
            · rw [e]
              clear e HC3
              go_wp2_with fail
              go_ret
              exact ⟨rfl,below_step HBW.out hB⟩
            rw [e]
            have HC4:=Lib.hid hrr
            clear e HC3 hrr
            go_wp2_with fail
            refine (lAll_calls _ d hdd ld _ hA).mono ?_
            rintro e_W13 W13 ⟨v13,rfl,hown13,hb_W13⟩
            refine bea1 hb_W13 hA hB kp ?_;clear hb_W13 hA hB kp c_kp;intro z_W13 hA hB kp c_kp
            have HX13:=Lib.hid (Rx.of_own hown13)
            have HRB:Hid (Rx W13 2 u13 (spotsM rate ds).length (itemCells (spotsM rate ds))):=Lib.hid (by
              unfold spotsM;rw [←HRR.out,List.length_map];exact (Rx.of_own HRM.out.b).below hB)
            have hsl:(spotsM rate ds).length≤50000:=by unfold spotsM;rw [List.length_map];have h1:=sorted_small (txt ds);have h2:=List.length_filter_le (mkR rate) (refSorted (txt ds));omega
            clear hown13
            go_wp2_with fail
            refine rC (eqItem_calls _ _ d (spotsM rate ds) ld hsl _ HX13.out HRB.out) fun W14 hb_W14=> ?_
            refine bea1 hb_W14 hA hB kp ?_;clear hb_W14 hA hB kp c_kp;intro z_W14 hA hB kp c_kp
            go_wp2_with fail
            go_ret
            exact ⟨congrArg (fun b=>Ending.returned (.bool b)) HC4.out.symm,below_step HBW.out hB⟩
theorem check_calls (root rate : Int) (ds : Docs) (vl : Value) (r : Bool) (hr : vCheck s root rate ds = some r) (hn : ds.length ≤ 50000) (h40 : ∀ t, t ∈ txt ds → t.length ≤ 50000) (w : World) (hA : AP w ap s O) (hd : Rd2 w vl ds) :
    Calls Tryz.prog 22 #[ap, .int .i64 root, .int .i64 rate,vl] w fun e w'=>e= .returned (.bool r)∧Below w.heap.size w w':=by
  by_cases hc:vIs s root=true∧1≤rate∧rate≤16
  · exact check_yes root rate ds vl r hr hc hn h40 w hA hd
  · have : r = false := by
      unfold vCheck at hr
      rw [if_neg hc] at hr
      exact (Option.some.inj hr).symm
    rw [this]
    exact check_no root rate vl hc w hA
end
end Go.Proofs.YtjeofpkhgmefgaaGreat
namespace Go.Proofs.YtjeofpkhgmefgaaGreat
open Go.RowKit
attribute [local go_sem ↓] Go.wp_at_zero Go.wp_at_succ
attribute [local go_sem] str_len
def okP (x:Pt):Bool:=decide (-1≤x.pos)&&(decide (x.pos≤x.text.length)&&(decide (x.text.length≤50000)&&decide (1≤x.rate)))
theorem okP_ok {x:Pt} (h:okP x=true):PtOk x:=by
  unfold okP at h
  simp only [Bool.and_eq_true,decide_eq_true_eq] at h
  exact ⟨h.1,h.2.1,h.2.2.1,h.2.2.2⟩
def aliveP:Option (Bool×Bool):=
  (Pt.new (Ar.new 2000) 0 2 1 [97]).step.bind fun r1=>r1.2.2.step.bind fun r2=>r2.2.2.step.bind fun r3=>r3.2.2.step.bind fun r4=>
  (vCheck r4.2.2.s r4.2.2.root 2 [(1,[97])]).map fun c=>(okP r1.2.2&&(okP r2.2.2&&okP r3.2.2),!r1.1&&(!r2.1&&(!r3.1&&(r4.1&&(decide (r1.2.1=0)&&(decide (r2.2.1=0)&&(decide (r3.2.1=0)&&(decide (r4.2.1=0)&&(c&&decide (r4.2.2.left=0))))))))))
set_option maxRecDepth 1000000 in
theorem aliveP_eq:aliveP=some (true,true):=by decide+kernel
theorem alive_steps: ∃x:Nat→Pt,x 0=Pt.new (Ar.new 2000) 0 2 1 [97]∧(∀k,k<4→PtOk (x k)∧(x k).step=some (decide (k=3),0,x (k+1)))∧vCheck (x 4).s (x 4).root 2 [(1,[97])]=some true∧(x 4).left=0:=by
  have hm:=aliveP_eq
  unfold aliveP at hm
  obtain ⟨⟨o1,f1,x1⟩,h1,hm⟩:=Option.bind_eq_some_iff.1 hm
  obtain ⟨⟨o2,f2,x2⟩,h2,hm⟩:=Option.bind_eq_some_iff.1 hm
  obtain ⟨⟨o3,f3,x3⟩,h3,hm⟩:=Option.bind_eq_some_iff.1 hm
  obtain ⟨⟨o4,f4,x4⟩,h4,hm⟩:=Option.bind_eq_some_iff.1 hm
  obtain ⟨c,hc,hm⟩:=Option.map_eq_some_iff.1 hm
  simp only [Prod.mk.injEq,Bool.and_eq_true,Bool.not_eq_true',decide_eq_true_eq] at hm
  obtain ⟨⟨k1,k2,k3⟩,rfl,rfl,rfl,rfl,rfl,rfl,rfl,rfl,rfl,hl⟩:=hm
  refine ⟨fun k=>match k with|0=>Pt.new (Ar.new 2000) 0 2 1 [97]|1=>x1|2=>x2|3=>x3|_=>x4,rfl,fun k hk=> ?_,hc,hl⟩
  have h4':k=0∨k=1∨k=2∨k=3:=by omega
  rcases h4' with rfl|rfl|rfl|rfl
  · exact ⟨okP_ok (x:=Pt.new (Ar.new 2000) 0 2 1 [97]) (by decide+kernel),h1⟩
  · exact ⟨okP_ok k1,h2⟩
  · exact ⟨okP_ok k2,h3⟩
  · exact ⟨okP_ok k3,h4⟩
set_option maxRecDepth 100000 in
set_option maxHeartbeats 2000000 in
theorem alive13_calls (w:World):Calls Tryz.prog 35 #[] w fun e w'=>e= .returned (.bool true)∧Below w.heap.size w w':=by
  obtain ⟨x,hx0,hxs,hck,hlf⟩:=alive_steps
  have HX:=Lib.hid hxs;have HC:=Lib.hid hck;have HL:=Lib.hid hlf
  have HL0:Hid ((x 0).left=4):=Lib.hid (by rw [hx0];decide+kernel)
  clear hxs hck hlf
  go_enter Tryz.func35,Tryz.ntmps35
  go_wp2_with fail
  refine (new_calls 2000 (by omega) (by omega) _).mono ?_
  rintro e1 W1 ⟨p,O,rfl,hA,hO,hb1⟩
  have HS:=Lib.hid (St.new hb1 hA hO)
  clear hA hO hb1
  go_wp2_with fail
  have hcon:=HS.out.put 0 2 1 [97] [] (by decide+kernel) (by decide) (by decide+kernel) (by omega) (by omega) (by omega) rfl (by decide) (by decide+kernel)
  rw [←hx0] at hcon
  unfold strOf at hcon
  refine hcon.mono ?_
  rintro e2 W2 ⟨b,rfl,h2⟩
  have H2:=Lib.hid h2
  clear h2 hcon HS hx0
  go_wp2_with fail
  refine (H2.out.same fun O hT=>pLeft_calls _ hT).mono ?_
  rintro e3 W3 ⟨rfl,h3⟩
  have H3:=Lib.hid h3
  clear h3 H2
  rw [HL0.out]
  go_wp2_with fail
  go_loopg [4] 4 (fun m c wr=> ∃k:Nat,c= .int .i64 (k:Int)∧k+m=4∧Hid (Sp w wr (.pointer (some ⟨p,0,none⟩)) b (x k) []))
  case atStart=>exact ⟨0,rfl,by omega,H3⟩
  case round=>
    obtain ⟨k,rfl,hk,H⟩:=hrel
    by_cases hlt:k<4
    · obtain ⟨m,rfl⟩: ∃m,gk=m+1:=⟨gk - 1,by omega⟩
      obtain ⟨hok,hst⟩:=HX.out k hlt
      have n1:decide ((k:Int)<4)=true:=by simp;omega
      have e5:wrap64 ((k:Int)+1)=(k:Int)+1:=IntWalk.wrap64_in _ (by omega)
      have HE5:=Lib.hid e5
      have n3:(((k:Int)==3):Bool)=decide (k=3):=by
        by_cases e:k=3
        · subst e;rfl
        · rw [decide_eq_false e,beq_eq_false_iff_ne];omega
      have HOK:=Lib.hid hok;have HST:=Lib.hid hst
      clear hok hst e5 hlt
      go_wp2_with fail
      refine (H.out.act fun O hT=>pStep_calls (x k) HOK.out _ HST.out _ hT).mono ?_
      rintro e4 W4 ⟨rfl,h4⟩
      have H4:=Lib.hid h4
      clear h4
      dsimp only
      rw [←n3]
      go_wp2_with fail
      have e5:=HE5.out
      go_roundg m
      case measure=>omega
      case rel=>exact ⟨k+1,by first|rfl|(rw [e5];rfl),by omega,H4⟩
    · have n1:decide ((k:Int)<4)=false:=by simp;omega
      obtain rfl:k=4:=by omega
      go_wp2_with fail
      refine (H.out.same fun O hT=>pLeft_calls _ hT).mono ?_
      rintro e5 W5 ⟨rfl,h5⟩
      have H5:=Lib.hid h5
      clear h5 H
      rw [HL.out]
      go_wp2_with fail
      refine (H5.out.same fun O hT=>pRoot_calls _ hT).mono ?_
      rintro e6 W6 ⟨rfl,h6⟩
      have H6:=Lib.hid h6
      clear h6 H5
      go_wp2_with fail
      refine calls_gen fun V7 hV7=> ?_
      have H7:=Lib.hid (H6.out.box _ hV7)
      clear hV7
      refine (H7.out.st.read fun O hA=>check_calls (x 4).root 2 [(1,[97])] _ true HC.out (by simp) (by simp) _ hA (rd2_box H7.out.at0)).mono ?_
      rintro e8 W8 ⟨rfl,h8⟩
      have H8:=Lib.hid h8
      clear h8
      go_wp2_with fail
      go_ret
      exact ⟨rfl,H8.out.bel⟩
end Go.Proofs.YtjeofpkhgmefgaaGreat
namespace Go.Proofs.YtjeofpkhgmefgaaGreat
open Go.RowKit
attribute [local go_sem ↓] Go.wp_at_zero Go.wp_at_succ
attribute [local go_sem] str_len
variable {s : Ar} {O : Nat → Prop}
set_option maxRecDepth 100000 in
set_option maxHeartbeats 4000000 in
theorem pNew_many (p : Addr) (root rate id : Int) (t : List UInt8) (l : List (Int × Int)) (hl : lAll s (vOf s root).table = some l) (hll : l.length ≤ 50000)
    (hvi:vIs s root=true) (h1:1≤rate) (h2:rate≤16) (h3:1≤id) (hpl:(placeIn id l 0).2=false) (h4:t.length≤40) (h10:10≤vDocs s root) (w:World) (hA:AP w (.pointer (some p)) s O):
    Calls Tryz.prog 38 #[.pointer (some p), .int .i64 root, .int .i64 rate, .int .i64 id,strOf t] w fun e w'=>e= .returned (.tuple #[.pointer none, .int .i64 8])∧Below w.heap.size w w':=by
  have Hl:=Lib.hid hl;have Hll:=Lib.hid hll
  have d1:decide (rate<1)=false:=by simp;omega
  have d2:decide (16<rate)=false:=by simp;omega
  have d3:decide (id<1)=false:=by simp;omega
  have d4:decide (t.length≤40)=true:=by simpa using h4
  have d5:decide (10≤vDocs s root)=true:=by simp;omega
  clear hl hll h1 h2 h3 h4 h10
  go_enter Tryz.func38,Tryz.ntmps38
  go_wp2_with fail
  refine cg fun V hV_V=> ?_
  have hB:=Below.refl w.heap.size w
  refine nea0 hV_V hA hB ?_;clear hA hB;intro z_V hA hB
  clear hV_V
  refine rC (vOf_calls root _ hA) fun W1 hb_W1=> ?_
  refine bea0 hb_W1 hA hB ?_;clear hb_W1 hA hB;intro z_W1 hA hB
  unfold Parts.val
  rw [hvi]
  go_wp2_with fail
  refine calls_gen fun V2 hV_V2=> ?_
  refine nna0 hV_V2 hA hB ?_;clear hA hB;intro hn_V2 z_V2 hA hB
  obtain ⟨kp,c_kp,o_kp,l_kpV2⟩:=nN hn_V2 hV_V2 (W1.heap.size)
  clear hV_V2 hn_V2
  refine rC (tPlace_calls _ id l Hl.out Hll.out _ hA) fun W3 hb_W3=> ?_
  refine bea1 hb_W3 hA hB kp ?_;clear hb_W3 hA hB kp c_kp;intro z_W3 hA hB kp c_kp
  rw [hpl]
  go_wp2_with fail
  refine (symText_calls t _).mono ?_
  rintro e4 w4 ⟨rfl,rfl⟩
  rw [d4]
  go_wp2_with fail
  refine cg fun V4 hV_V4=> ?_
  refine nea1 hV_V4 hA hB kp ?_;clear hA hB kp c_kp;intro z_V4 hA hB kp c_kp
  clear hV_V4
  refine rC (vDocs_calls root _ hA) fun W5 hb_W5=> ?_
  refine bea1 hb_W5 hA hB kp ?_;clear hb_W5 hA hB kp c_kp;intro z_W5 hA hB kp c_kp
  go_wp2_with fail
  go_ret2
  exact ⟨rfl,by (repeat' first|with_reducible assumption|with_reducible exact Below.refl _ _|with_reducible refine Below.alloc ?_ ?_ _|with_reducible refine Below.setCell ?_ ?_ _|with_reducible refine below_drewN ?_ _|with_reducible refine Below.drew ?_|exact Nat.le_refl _|((try dsimp only);omega)|(simp only [siz_alloc,siz_set];omega))⟩
end Go.Proofs.YtjeofpkhgmefgaaGreat
namespace Go.Proofs.YtjeofpkhgmefgaaGreat
open Go.RowKit
attribute [local go_sem ↓] Go.wp_at_zero Go.wp_at_succ
attribute [local go_sem] lt_s2 lt_s3 lt_s4 str_len
variable {ap : Value} {O : Nat → Prop} {tb : Nat}
set_option maxRecDepth 100000 in
theorem pStep_over (x : Pt) (hov : x.over = true) (w : World) (hT : PB w tb ap x O) :
    Calls Tryz.prog 40 #[.pointer (some ⟨tb,0,none⟩)] w fun e w'=>e= .returned (.tuple #[.bool true, .int .i64 10])∧w=w':=by
  go_enter Tryz.func40,Tryz.ntmps40
  go_wp2_with fail
  refine wp_scope_ghost 0 (fun n a' wr=>(False)∧ ∃u1 u2 u3 u4 u5 u6 u7 u8 u9 u10 u11 u12 u13 u14 u15 u16 u17 u18 u19 u20 u21 u22 u23 u24 u25 u26 u27 u28 u29 u30 u31 u32 u33 u34 u35 u36 u37 u38 u39 u40 u41 u42 u43 u44 u45 u46 u47 u48 u49 u50 u51 u52 u53 u54 u55 u56:Value,a'={tmps:= #[(.pointer (some ⟨tb,0,none⟩):Value),u1,u2,u3,u4,u5,u6,u7,u8,u9,u10,u11,u12,u13,u14,u15,u16,u17,u18,u19,u20,u21,u22,u23,u24,u25,u26,u27,u28,u29,u30,u31,u32,u33,u34,u35,u36,u37,u38,u39,u40,u41,u42,u43,u44,u45,u46,u47,u48,u49,u50,u51,u52,u53,u54,u55,u56],defers:=[]}) (by rfl) ?first ?pass
  case first=>
    intro hrest
    clear hrest
    have kt:=hT.blk
    rw [hov] at kt
    have c_kt:=f3 kt;have l_ktw:=lt_of kt
    go_wp2_with fail
    simp only [Exit.jump]
    go_ret2
    exact ⟨rfl,rfl⟩
  case pass=>
    rintro n a' wr ⟨h, -⟩
    exact h.elim
set_option maxRecDepth 100000 in
theorem pHeld_over (x : Pt) (hov : x.over = true) (w : World) (hT : PB w tb ap x O) :
    Calls Tryz.prog 42 #[.pointer (some ⟨tb,0,none⟩)] w fun e w'=>e= .returned (.slice none 0 0)∧w=w':=by
  have kt:=hT.blk
  rw [hov] at kt
  go_enter Tryz.func42,Tryz.ntmps42
  have c_kt:=f3 kt;have l_ktw:=lt_of kt
  go_wp2_with fail
  go_ret
  exact ⟨rfl,rfl⟩
end Go.Proofs.YtjeofpkhgmefgaaGreat

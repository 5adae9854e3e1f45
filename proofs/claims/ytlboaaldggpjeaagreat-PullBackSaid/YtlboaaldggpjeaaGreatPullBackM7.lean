/- Part 7 of what PullBack needs: the walks of the program's functions, and plain facts. -/
import Derived.Test.YtlboaaldggpjeaaGreatPullBackM6
set_option linter.unusedSimpArgs false
set_option linter.unusedVariables false
set_option linter.unnecessarySimpa false
namespace Go.Proofs.YtlboaaldggpjeaaGreat
set_option maxRecDepth 100000
set_option maxHeartbeats 8000000
section
open Go.RowKit
def rowX (ds:Docs) (r:Nat×Nat):Int×Int×Int:=((ds.getD r.1 (0,[])).1,(r.2:Int),symOf (txt ds) r)
def partX (ds:Docs) (d:Int×List UInt8) (a:Nat):List (Int×Int×Int):=(part (txt (ds++[d])) ds.length a).map (rowX (ds++[d]))
section
variable {ds : Docs} {d : Int × List UInt8} {rate : Int}
theorem txt_snoc:txt (ds++[d])=txt ds++[d.2]:=by simp
theorem txt_new:(txt (ds++[d]))[ds.length]? =some d.2:=by simp
theorem txt_len:(txt (ds++[d])).length=ds.length+1:=by simp
theorem partX_old (h:refRight (txt ds)=true):partX ds d (d.2.length+1)=rowsM ds:=by
  unfold partX
  have h1:=part_old (txt ds) d.2
  rw [List.length_map] at h1
  rw [txt_snoc,h1]
  have h2:refSorted (txt ds)=all (txt ds):=by unfold refSorted;rw [if_pos h];rfl
  unfold rowsM
  rw [h2]
  refine List.map_congr_left fun r hr=> ?_
  have hlt:r.1<(txt ds).length:=docs_lt ((all_docs (txt ds)).mem_iff.1 hr)
  have hlt':r.1<ds.length:=by simpa using hlt
  unfold rowX
  have e1:(ds++[d]).getD r.1 (0,[])=ds.getD r.1 (0,[]):=by
    rw [List.getD_eq_getElem?_getD,List.getD_eq_getElem?_getD,List.getElem?_append_left hlt']
  have e2:symOf (txt (ds++[d])) r=symOf (txt ds) r:=by unfold symOf;rw [txt_snoc,getD_app hlt]
  rw [e1,e2]
theorem partX_new (h:refRight (txt (ds++[d]))=true):partX ds d 0=rowsM (ds++[d]):=by
  unfold partX
  rw [part_zero txt_len]
  have h2:refSorted (txt (ds++[d]))=all (txt (ds++[d])):=by unfold refSorted;rw [if_pos h];rfl
  unfold rowsM
  rw [h2];rfl
theorem insA_map2 {α β:Type} (f:α→β) (l:List α) (i:Nat) (x:α):(insA l i x).map f=insA (l.map f) i (f x):=by unfold insA;simp [List.map_take,List.map_drop]
theorem insA_filter {α:Type} (p:α→Bool) (l:List α) (i:Nat) (x:α):(insA l i x).filter p=if p x then insA (l.filter p) ((l.take i).countP p) x else l.filter p:=by
  unfold insA
  rw [List.filter_append,List.filter_cons]
  have hl:l.filter p=(l.take i).filter p++(l.drop i).filter p:=by rw [←List.filter_append,List.take_append_drop]
  have hc:(l.take i).countP p=((l.take i).filter p).length:=List.countP_eq_length_filter
  by_cases hp:p x=true
  · rw [if_pos hp,if_pos hp,hl,hc,List.take_left,List.drop_left]
  · rw [if_neg hp,if_neg hp,hl]
def rowI (ds:Docs) (d:Int×List UInt8) (a:Nat):Nat:=below (txt (ds++[d])) (ds.length,a) (part (txt (ds++[d])) ds.length (a+1))
def newX (ds:Docs) (d:Int×List UInt8) (a:Nat):Int×Int×Int:=(d.1,(a:Int),symOf (txt (ds++[d])) (ds.length,a))
theorem rowX_new (a:Nat):rowX (ds++[d]) (ds.length,a)=newX ds d a:=by
  unfold rowX newX
  have:(ds++[d]).getD ds.length (0,[])=d:=by simp [List.getD_eq_getElem?_getD]
  rw [this]
theorem partX_step {a:Nat} (ha:a≤d.2.length):partX ds d a=insA (partX ds d (a+1)) (rowI ds d a) (newX ds d a):=by
  unfold partX rowI
  rw [part_step txt_new ha,insA_map2,rowX_new]
theorem rowI_le (a:Nat):rowI ds d a≤(partX ds d (a+1)).length:=by unfold rowI partX;rw [List.length_map];exact below_le _ _
theorem partX_syms (a:Nat):rowW (partX ds d a)=(part (txt (ds++[d])) ds.length a).map (symOf (txt (ds++[d]))):=by unfold rowW partX;rw [List.map_map];rfl
theorem rowI_end:rowI ds d d.2.length=ds.length:=part_end txt_new txt_len
theorem rowI_next {a:Nat} (ha:a<d.2.length):rowI ds d a=(rowW (partX ds d (a+2))).countP (fun y=>decide (y<(newX ds d (a+1)).2.2))+1+((rowW (partX ds d (a+2))).take (rowI ds d (a+1))).count (newX ds d (a+1)).2.2:=by
  rw [partX_syms]
  exact part_next txt_new txt_len ha
theorem rowW_ins (L:List (Int×Int×Int)) (i:Nat) (x:Int×Int×Int):rowW (insA L i x)=insA (rowW L) i x.2.2:=by unfold rowW;exact insA_map2 _ _ _ _
theorem rowM_ins (L:List (Int×Int×Int)) (i:Nat) (x:Int×Int×Int):rowM rate (insA L i x)=insL (rowM rate L) i (mkd rate x):=by unfold rowM;exact insA_map _ _ _ _
theorem rowS_ins (L:List (Int×Int×Int)) (i:Nat) (x:Int×Int×Int):rowS rate (insA L i x)=if mkd rate x then insA (rowS rate L) ((L.take i).countP (mkd rate)) (x.1,x.2.1) else rowS rate L:=by
  unfold rowS
  rw [insA_filter]
  split
  · exact insA_map2 _ _ _ _
  · rfl
theorem partX_small (hR:refRight (txt (ds++[d]))=true) (a:Nat):(partX ds d a).length≤500:=by
  unfold partX part
  rw [List.length_map]
  have h1:=List.length_filter_le (inP ds.length a) (all (txt (ds++[d])))
  have h2:refSorted (txt (ds++[d]))=all (txt (ds++[d])):=by unfold refSorted;rw [if_pos hR];rfl
  have h3:=sorted_small (txt (ds++[d]))
  rw [h2] at h3
  omega
theorem partX_sy (a:Nat):Sy (rowW (partX ds d a)):=fun x hx=>by
  rw [partX_syms] at hx
  obtain ⟨r, -,rfl⟩:=List.mem_map.1 hx
  exact sym_bound r
end
theorem put_at (p:Parts): ∀i,p.put i (p.at i)=p
  | 0=>rfl
  | 1=>rfl
  | 2=>rfl
  | _+3=>rfl
theorem swap_eq (x:Pt) (i:Nat) (r:Int×Int×Ar):x.swap i r=((if r.2.1=0 then 0 else r.2.1),{x with s:=(nextA true (x.p.at i) r).2.2,p:=x.p.put i (nextA true (x.p.at i) r).1}):=by
  unfold Pt.swap nextA
  by_cases e:r.2.1=0
  · rw [if_pos e,if_pos e,if_pos e]
    dsimp only
    have:(if x.p.at i=0 then r.2.2 else r.2.2.drop (x.p.at i))=r.2.2.drop (x.p.at i):=by
      split
      · rename_i q;rw [q,drop_zero]
      · rfl
    rw [this]
  · rw [if_neg e,if_neg e,if_neg e]
    rw [put_at]
theorem swap_T {s : Ar} {H1 H2 : List Int} {h : Int} {r : Int × Int × Ar} {c : Nat} {P : Tr → Prop} (hr : Rs s r (H1 ++ h :: H2) c P) :
    Inv (nextA true h r).2.2 (H1++(nextA true h r).1::H2)∧Grow s (nextA true h r).2.2∧(nextA true h r).2.2.busyN≤s.busyN+c∧
    ((r.2.1=0∧ ∃t',Rep (nextA true h r).2.2 (nextA true h r).1 t'∧P t')∨(r.2.1=2∧(nextA true h r).1=h∧s.size<s.busyN+c)):=by
  obtain ⟨i1,g1,c1,q1⟩:=nextA_T true hr
  refine ⟨i1,g1,c1,?_⟩
  rcases hr.res with ⟨z, -⟩|⟨z, -,z2⟩
  · rcases q1 with ⟨-,q⟩|⟨q, -⟩
    · exact .inl ⟨z,q⟩
    · unfold nextA at q;rw [if_pos z] at q;cases q
  · rcases q1 with ⟨q, -⟩|⟨-,q, -⟩
    · unfold nextA at q;rw [if_neg (by omega)] at q;cases q
    · exact .inr ⟨z,q,z2⟩
structure Pv (x:Pt) (H:List Int) (ds:Docs) (d:Int×List UInt8) (rate:Int) (a:Nat):Prop where
  inv:Inv x.s (x.p.wave::x.p.marks::x.p.spots::x.p.table::H)
  w:HasW x.s x.p.wave (rowW (partX ds d a))
  m:HasB x.s x.p.marks (rowM rate (partX ds d a))
  sp:HasL x.s x.p.spots (rowS rate (partX ds d a))
  t:HasL x.s x.p.table (docsM (ds++[d]))
  id:x.id=d.1
  text:x.text=d.2
  rt:x.rate=rate
  begun:x.begun=true
  over:x.over=false
  root:x.root=0
  pos:x.pos=(a:Int) - 1
  row:1≤a→x.row=(rowI ds d (a - 1):Nat)
structure Pe (x0 x:Pt) (H:List Int):Prop where
  inv:Inv x.s (x.p.wave::x.p.marks::x.p.spots::x.p.table::H)
  src:x.src=x0.src
  over:x.over=false
  root:x.root=x0.root
theorem sym_eq {x:Pt} {H:List Int} {ds:Docs} {d:Int×List UInt8} {rate:Int} {a:Nat} (h:Pv x H ds d rate (a+1)) (ha:a≤d.2.length):x.sym=(newX ds d a).2.2:=by
  have hp:=h.pos
  unfold Pt.sym newX symOf
  dsimp only
  rw [getD_at txt_new,h.text,hp]
  by_cases e:a=0
  · subst e;rw [if_neg (by omega),if_pos rfl]
  · rw [if_pos (by omega),if_neg e]
    rw [show ((((a+1:Nat):Int) - 1 - 1).toNat)=a - 1 by omega]
def costR (n:Nat):Nat:=13*n+50
theorem rowS_count (rate:Int) (L:List (Int×Int×Int)) (i:Nat):((rowM rate L).take i).count true=(L.take i).countP (mkd rate):=by
  unfold rowM
  rw [←List.map_take,List.count,List.countP_map]
  congr 1
  funext x
  simp
theorem next_num {b k n:Nat} (h1:b≤500) (h2:k≤500) (e:n=b+1+k):wrap64 (wrap64 ((b:Int)+1)+(k:Int))=(n:Int):=by
  have q:wrap64 ((b:Int)+1)=(b:Int)+1:=w64 (by omega) (by omega)
  rw [q]
  clear q
  rw [w64 (by omega) (by omega),e];omega
theorem pinsert_T {x : Pt} {H : List Int} {ds : Docs} {d : Int × List UInt8} {rate : Int} {a : Nat} (h : Pv x H ds d rate (a + 1)) (hR : Right (ds ++ [d])) (ha : a ≤ d.2.length) (hH : H.length ≤ 1000) :
    ∃r,x.insert=some r∧Grow x.s r.2.s∧r.2.s.busyN≤x.s.busyN+costR (partX ds d (a+1)).length∧
      ((r.1=0∧r.2.src=x.src∧Pv r.2 H ds d rate a)∨(r.1=2∧x.s.size<x.s.busyN+costR (partX ds d (a+1)).length∧Pe x r.2 H)):=by
  have hn:=partX_small hR.right (a+1)
  have hsy:=partX_sy (ds:=ds) (d:=d) (a+1)
  have hlw:(rowW (partX ds d (a+1))).length=(partX ds d (a+1)).length:=by simp [rowW]
  have hlm:(rowM rate (partX ds d (a+1))).length=(partX ds d (a+1)).length:=by simp [rowM]
  have hls:=rowS_length rate (partX ds d (a+1))
  have hri:=rowI_le (ds:=ds) (d:=d) a
  have hw:WR x.s 9 x.p.wave (rowW (partX ds d (a+1))):=⟨h.w,fun h0=>h.inv.pos (by simp) h0,by omega,hsy⟩
  have hc:0≤(newX ds d a).2.2∧(newX ds d a).2.2<257:=sym_bound _
  have hrow:x.row=(rowI ds d a:Nat):=h.row (by omega)
  have hsym:=sym_eq h ha
  have hid:x.id=(newX ds d a).1:=h.id
  have hpos:x.pos=(newX ds d a).2.1:=by rw [h.pos];show ((a+1:Nat):Int) - 1=(a:Int);omega
  have hmk:(x.pos % x.rate=0)↔mkd rate (newX ds d a)=true:=by
    rw [hpos,h.rt]
    exact decide_eq_true_iff.symm
  have hXid:=hR.id d (by simp)
  have hX:ItOk ((newX ds d a).1,(newX ds d a).2.1):=by
    have h40:=(right_len hR.right).2 ds.length
    rw [getD_at txt_new] at h40
    exact ⟨⟨by show 0≤d.1;omega,hXid.2⟩,by show 0≤(a:Int)∧(a:Int)<_;omega⟩
  have hstep:=partX_step (ds:=ds) (d:=d) ha
  have hnx:1≤a→wrap64 (wrap64 (((rowW (partX ds d (a+1))).countP (fun y=>decide (y<(newX ds d a).2.2)):Nat)+1)+(((rowW (partX ds d (a+1))).take (rowI ds d a)).count (newX ds d a).2.2:Nat))=(rowI ds d (a - 1):Nat):=fun h1=>by
    have e:=rowI_next (ds:=ds) (d:=d) (a:=a - 1) (by omega)
    rw [show a - 1+2=a+1 by omega,show a - 1+1=a by omega] at e
    have b1:=List.countP_le_length (p:=fun y=>decide (y<(newX ds d a).2.2)) (l:=rowW (partX ds d (a+1)))
    have b2:=List.count_le_length (a:=(newX ds d a).2.2) (l:=(rowW (partX ds d (a+1))).take (rowI ds d a))
    rw [List.length_take] at b2
    exact next_num (Nat.le_trans b1 (by rw [hlw];exact hn)) (Nat.le_trans b2 (Nat.le_trans (Nat.min_le_right _ _) (by rw [hlw];exact hn))) e
  have hhm:=h.m;have hhsp:=h.sp;have hht:=h.t;have hinv:=h.inv;have hoid:=h.id;have hotx:=h.text;have hort:=h.rt;have hobg:=h.begun;have hoov:=h.over;have hort2:=h.root
  clear h
  generalize hL:partX ds d (a+1)=L at*
  generalize hXg:newX ds d a=X at*
  generalize hi:rowI ds d a=i at*
  obtain ⟨r1,e1,R1⟩:=wInsert_R hinv (by simp;omega) hw (i:Int) X.2.2 (by omega) (by omega) hc
  rw [Int.toNat_natCast] at R1
  obtain ⟨i1,g1,c1,q1⟩:=swap_T (H1:=[]) (H2:=x.p.marks::x.p.spots::x.p.table::H) R1
  have hins : x.insert = if (x.swap 0 r1).1 = 0 then
      (if x.pos % x.rate=0 then
        (bRank (x.swap 0 r1).2.s (x.swap 0 r1).2.p.marks x.row).bind fun j=>(lInsert (x.swap 0 r1).2.s (x.swap 0 r1).2.p.spots j (x.id,x.pos)).bind fun r2=>
        if ((x.swap 0 r1).2.swap 2 r2).1=0 then ((x.swap 0 r1).2.swap 2 r2).2.mark (wrap64 (wrap64 (((rowW L).countP (fun y=>decide (y<X.2.2)):Nat)+1)+(((rowW L).take i).count X.2.2:Nat))) true
        else some ((x.swap 0 r1).2.swap 2 r2)
       else (x.swap 0 r1).2.mark (wrap64 (wrap64 (((rowW L).countP (fun y=>decide (y<X.2.2)):Nat)+1)+(((rowW L).take i).count X.2.2:Nat))) false)
    else some (x.swap 0 r1):=by
    unfold Pt.insert
    rw [hsym,hrow,hw.before hinv hc,Option.bind_some,hw.rank hinv hc (i:Int) (by omega) (by omega),Option.bind_some,Int.toNat_natCast,e1,Option.bind_some]
  rw [hins]
  generalize hNX:wrap64 (wrap64 (((rowW L).countP (fun y=>decide (y<X.2.2)):Nat)+1)+(((rowW L).take i).count X.2.2:Nat))=NX at*
  clear hins
  have E1:=swap_eq x 0 r1
  have hat0:x.p.at 0=x.p.wave:=rfl
  rw [hat0] at E1
  obtain ⟨n1,hn1⟩: ∃n1,nextA true x.p.wave r1=n1:=⟨_,rfl⟩
  rw [hn1] at E1 i1 g1 c1 q1
  have hg1:=g1.size
  rcases q1 with ⟨z,t1,p1,p2⟩|⟨z,a2,a3⟩
  · rw [if_pos z] at E1
    rw [E1]
    dsimp only
    rw [if_pos rfl]
    have hbm:BR n1.2.2 x.p.marks (rowM rate L):=⟨hhm.grow g1,fun h0=>i1.pos (by simp) h0,by omega⟩
    have fin : ∀ (y : Pt) (ls : List (Int × Int)), y.p.wave = n1.1 → y.p.marks = x.p.marks → y.p.table = x.p.table → y.row = (i : Int) → y.pos = X.2.1 → y.id = x.id → y.text = x.text → y.rate = x.rate → y.begun = true → y.over = false → y.root = 0 → y.src = x.src →
        Inv y.s (n1.1::x.p.marks::y.p.spots::x.p.table::H)→Grow n1.2.2 y.s→y.s.busyN≤n1.2.2.busyN+(3*(rowS rate L).length+4)→HasL y.s y.p.spots (rowS rate (insA L i X))→
        ∃r,y.mark NX (mkd rate X)=some r∧Grow x.s r.2.s∧r.2.s.busyN≤x.s.busyN+costR L.length∧((r.1=0∧r.2.src=x.src∧Pv r.2 H ds d rate a)∨(r.1=2∧x.s.size<x.s.busyN+costR L.length∧Pe x r.2 H)):=by
      intro y ls yw ym yt yr yp yi ytx yrt yb yo yroot ysrc hI hG hB hS
      have hbm2:BR y.s x.p.marks (rowM rate L):=⟨(hhm.grow g1).grow hG,fun h0=>hI.pos (by simp) h0,by omega⟩
      obtain ⟨r3,e3,R3⟩:=bInsert_R hI (by simp;omega) hbm2 (i:Int) (mkd rate X) (by omega) (by omega)
      rw [Int.toNat_natCast] at R3
      obtain ⟨i3,g3,c3,q3⟩:=swap_T (H1:=[n1.1]) (H2:=y.p.spots::x.p.table::H) R3
      have hmark:y.mark NX (mkd rate X)=some (({y with s:=r3.2.2,row:=NX,pos:=wrap64 (y.pos - 1)}:Pt).swap 1 r3):=by
        unfold Pt.mark
        rw [ym,yr,e3];rfl
      have E3:=swap_eq {y with s:=r3.2.2,row:=NX,pos:=wrap64 (y.pos - 1)} 1 r3
      have hat1:(({y with s:=r3.2.2,row:=NX,pos:=wrap64 (y.pos - 1)}:Pt).p.at 1)=x.p.marks:=ym
      rw [hat1] at E3
      rw [hmark,E3]
      generalize nextA true x.p.marks r3=n3 at*
      have hg3:=g3.size
      have hgy:=hG.size
      refine ⟨_,rfl,(g1.trans hG).trans g3,by dsimp only;unfold costR;omega,?_⟩
      rcases q3 with ⟨z3,t3,p3,p4⟩|⟨z3,b2,b3⟩
      · refine .inl ⟨by rw [if_pos z3],ysrc,?_⟩
        have hx1:X.2.1=(a:Int):=by rw [←hXg];rfl
        refine ⟨?_,?_,?_,?_,?_,yi.trans hoid,ytx.trans hotx,yrt.trans hort,yb,yo,yroot,?_,fun h1=>hnx h1⟩
        · show Inv n3.2.2 (y.p.wave::n3.1::y.p.spots::y.p.table::H)
          rw [yw,yt];exact i3
        · show HasW n3.2.2 y.p.wave _
          rw [yw,hstep,rowW_ins];exact ⟨t1,(p1.grow hG).grow g3,p2⟩
        · show HasB n3.2.2 n3.1 _
          rw [hstep,rowM_ins];exact ⟨t3,p3,p4⟩
        · show HasL n3.2.2 y.p.spots _
          rw [hstep];exact hS.grow g3
        · show HasL n3.2.2 y.p.table _
          rw [yt];exact ((hht.grow g1).grow hG).grow g3
        · show wrap64 (y.pos - 1)=(a:Int) - 1
          have:=(right_len hR.right).2 ds.length
          rw [getD_at txt_new] at this
          rw [yp,hx1,w64 (by omega) (by omega)]
      · refine .inr ⟨by rw [if_neg (by omega)];exact z3,by unfold costR;omega,?_⟩
        refine ⟨?_,ysrc,yo,yroot.trans hort2.symm⟩
        show Inv n3.2.2 (y.p.wave::n3.1::y.p.spots::y.p.table::H)
        rw [yw,yt];exact i3
    by_cases hm:mkd rate X=true
    · rw [if_pos (hmk.2 hm)]
      show∃r,((bRank n1.2.2 x.p.marks x.row).bind fun j=>(lInsert n1.2.2 x.p.spots j (x.id,x.pos)).bind fun r2=>_)=some r∧_
      have eb:bRank n1.2.2 x.p.marks x.row=some (((L.take i).countP (mkd rate):Nat):Int):=by rw [hrow,hbm.rank i1 (i:Int) (by omega) (by omega),Int.toNat_natCast,rowS_count]
      rw [eb,Option.bind_some]
      have hbs:LR n1.2.2 x.p.spots (rowS rate L):=⟨hhsp.grow g1,fun h0=>i1.pos (by simp) h0,by omega⟩
      have hcl:(L.take i).countP (mkd rate)≤(rowS rate L).length:=by
        unfold rowS
        rw [List.length_map,←List.countP_eq_length_filter]
        exact (List.take_sublist i L).countP_le
      obtain ⟨r2,e2,R2⟩:=lInsert_R i1 (by simp;omega) hbs (((L.take i).countP (mkd rate):Nat):Int) hX (by omega) (by omega)
      rw [Int.toNat_natCast] at R2
      obtain ⟨i2,g2,c2,q2⟩:=swap_T (H1:=[n1.1,x.p.marks]) (H2:=x.p.table::H) R2
      have e2':lInsert n1.2.2 x.p.spots (((L.take i).countP (mkd rate):Nat):Int) (x.id,x.pos)=some r2:=by rw [hid,hpos];exact e2
      rw [e2',Option.bind_some]
      have E2:=swap_eq {x with s:=n1.2.2,p:=x.p.put 0 n1.1} 2 r2
      have hat2:(({x with s:=n1.2.2,p:=x.p.put 0 n1.1}:Pt).p.at 2)=x.p.spots:=rfl
      rw [hat2] at E2
      rw [E2]
      generalize nextA true x.p.spots r2=n2 at*
      have hg2:=g2.size
      rcases q2 with ⟨z2,t2,p3,p4⟩|⟨z2,b2,b3⟩
      · rw [if_pos z2]
        dsimp only
        rw [if_pos rfl,←hm]
        exact fin {x with s:=n2.2.2,p:=(x.p.put 0 n1.1).put 2 n2.1} [] rfl rfl rfl hrow hpos rfl rfl rfl hobg hoov hort2 rfl i2 g2 c2 (by rw [rowS_ins,if_pos hm];exact ⟨t2,p3,p4⟩)
      · rw [if_neg (by omega)]
        dsimp only
        rw [if_neg (by omega)]
        refine ⟨_,rfl,g1.trans g2,by dsimp only;unfold costR;omega, .inr ⟨z2,by unfold costR;omega,?_⟩⟩
        exact ⟨i2,rfl,hoov,rfl⟩
    · rw [if_neg (fun q=>hm (hmk.1 q)),←Bool.eq_false_iff.2 hm]
      exact fin {x with s:=n1.2.2,p:=x.p.put 0 n1.1} [] rfl rfl rfl hrow hpos rfl rfl rfl hobg hoov hort2 rfl i1 (Grow.refl _) (by show n1.2.2.busyN≤_;omega) (by rw [rowS_ins,if_neg hm];exact hhsp.grow g1)
  · rw [if_neg (by omega)] at E1
    rw [E1]
    dsimp only
    rw [if_neg (by omega)]
    refine ⟨_,rfl,g1,by dsimp only;unfold costR;omega, .inr ⟨z,by unfold costR;omega,?_⟩⟩
    exact ⟨i1,rfl,hoov,rfl⟩
end
section
open Go.RowKit
theorem VR.busy {s:Ar} {root:Int} {ds:Docs} {rate:Int} (hI:Inv s [root]) (hv:VR s root ds rate) (hw:s.wait=[]):8*s.busyN≤2048+56*(rowsM ds).length+16*ds.length:=by
  rcases hv.ex with ⟨rfl,rfl⟩|⟨t,hr,tw,tm,tsp,tt,rfl,h1,h2,h3,h4⟩
  · have:=hI.busy_le hw (T:=[.nil]) ⟨.nil,trivial⟩
    simp only [sizes,List.map_cons,List.map_nil,List.sum_cons,List.sum_nil,Tr.size] at this
    omega
  · have:=hI.busy_le hw (T:=[_]) ⟨hr,trivial⟩
    simp only [sizes,List.map_cons,List.map_nil,List.sum_cons,List.sum_nil,Tr.size] at this
    have a1:=h1.size;have a2:=h2.size;have a3:=h3.size;have a4:=h4.size
    have b1:=rowS_length rate (rowsM ds)
    have b2:(rowW (rowsM ds)).length=(rowsM ds).length:=by simp [rowW]
    have b3:(rowM rate (rowsM ds)).length=(rowsM ds).length:=by simp [rowM]
    have b4:(docsM ds).length=ds.length:=by simp [docsM]
    omega
theorem VR.root {s:Ar} {root:Int} {ds:Docs} {rate:Int} (hv:VR s root ds rate) (h0:root≠0):s.has root=true∧s.get root=⟨6,(vOf s root).wave,(vOf s root).marks,(vOf s root).spots,(vOf s root).table,0,0⟩:=by
  rcases hv.ex with ⟨rfl,rfl⟩|⟨t,hr,tw,tm,tsp,tt,rfl,h1,h2,h3,h4⟩
  · exact absurd rfl h0
  · obtain ⟨k0,k1,k2,k3,hh,hg, -⟩:=hr.get
    have hvi:vIs s root=true:=by
      unfold vIs
      rw [hh,hg]
      simp [hv.live h0]
    have hz:vOf s root=⟨k0,k1,k2,k3⟩:=by unfold vOf;rw [if_pos ⟨h0,hvi⟩,hg]
    rw [hz];exact ⟨hh,hg⟩
end
section
open Go.RowKit
structure P0 (x:Pt) (H:List Int) (ds:Docs) (d:Int×List UInt8) (rate:Int):Prop where
  inv:Inv x.s (x.src::H)
  vr:VR x.s x.src ds rate
  id:x.id=d.1
  text:x.text=d.2
  rt:x.rate=rate
  begun:x.begun=false
  over:x.over=false
  root:x.root=0
  pos:x.pos=(d.2.length:Int)
  p0:x.p=Parts.zero
theorem inv_filter {s:Ar} {H:List Int}: ∀(l:List Int),Inv s (l++H)→Inv s ((l.filter fun h=> !decide (h=0))++H)
  | [],h=>h
  | k::l,h=>by
    rw [List.filter_cons]
    by_cases hk:k=0
    · rw [hk] at h
      rw [if_neg (by simp [hk])]
      exact inv_filter l (Inv.tail_zero h)
    · rw [if_pos (by simp [hk])]
      have h1:Inv s (l++(k::H)):=h.perm List.perm_middle.symm
      have h2:=inv_filter l h1
      exact h2.perm List.perm_middle
theorem insI_perm' (x:Int): ∀l:List Int,(insI x l).Perm (x::l)
  | []=>List.Perm.refl _
  | y::l=>by
    unfold insI
    split
    · exact List.Perm.refl _
    · exact ((insI_perm' x l).cons y).trans (List.Perm.swap x y l)
theorem sortI_perm': ∀l:List Int,(sortI l).Perm l
  | []=>List.Perm.refl _
  | x::l=>(insI_perm' x (sortI l)).trans ((sortI_perm' l).cons x)
theorem stop_T {x:Pt} {H:List Int} (h:Inv x.s (x.src::x.p.wave::x.p.marks::x.p.spots::x.p.table::H)) (ho:x.over=false):Inv x.stop.s H∧Grow x.s x.stop.s∧x.stop.s.busyN=x.s.busyN:=by
  have hh:x.held=(sortI [x.src,x.p.wave,x.p.marks,x.p.spots,x.p.table]).filter fun h=> !decide (h=0):=by unfold Pt.held;rw [ho,if_neg (by decide)]
  show Inv (x.s.dropAll x.held) H∧Grow x.s (x.s.dropAll x.held)∧(x.s.dropAll x.held).busyN=_
  rw [hh]
  have h1:Inv x.s ([x.src,x.p.wave,x.p.marks,x.p.spots,x.p.table]++H):=h
  have h2:Inv x.s (sortI [x.src,x.p.wave,x.p.marks,x.p.spots,x.p.table]++H):=h1.perm ((sortI_perm' _).symm.append_right H)
  exact ⟨Inv.dropAll (inv_filter _ h2),Grow.dropAll _ _,busyN_dropAll _ _⟩
theorem keep1 {s:Ar} {H:List Int} {k:Int} (h:Inv s H) (hH:H.length≤900000) (hk:k≠0→s.cnt k≠0):Inv (s.keep k) (k::H)∧Grow s (s.keep k)∧(s.keep k).busyN=s.busyN∧ ∀j,s.cnt j≠0→(s.keep k).cnt j≠0:=by
  by_cases e:k=0
  · subst e
    rw [keep_zero]
    exact ⟨h.zero_cons (by omega),Grow.refl _,rfl,fun j hj=>hj⟩
  · have hI:=h.keep (by omega) (hk e)
    refine ⟨hI,Grow.keep _ _,busyN_keep _ _,fun j hj=> ?_⟩
    exact h.live hI (Grow.keep _ _) (fun y=>by rw [List.count_cons];omega) hj
theorem begin_T {x : Pt} {H : List Int} {ds : Docs} {d : Int × List UInt8} {rate : Int} (h : P0 x H ds d rate) (hR : Right (ds ++ [d])) (hH : H.length ≤ 900) :
    ∃r,x.begin=some r∧Grow x.s r.2.s∧r.2.s.busyN≤x.s.busyN+40∧
      ((r.1=0∧r.2.src=x.src∧Pv r.2 (x.src::H) ds d rate (d.2.length+1))∨(r.1=2∧x.s.size<x.s.busyN+40∧Pe x r.2 (x.src::H))):=by
  have hlen:=hR.len
  rw [List.length_append,List.length_cons,List.length_nil] at hlen
  have hrd:refRight (txt ds)=true:=by
    have:=hR.right
    unfold refRight at this⊢
    simp only [Bool.and_eq_true,List.all_eq_true,decide_eq_true_eq] at this⊢
    refine ⟨fun t ht=>this.1 t (by rw [txt_snoc];exact List.mem_append.2 (.inl ht)),by rw [List.length_map];omega⟩
  obtain ⟨pw,pm,psp,pt,hvi⟩:=h.vr.parts h.inv (by omega)
  obtain ⟨q,hq⟩: ∃q,vOf x.s x.src=q:=⟨_,rfl⟩
  rw [hq] at pw pm psp pt
  have k1:=keep1 h.inv (by simp;omega) pw.live
  have k2:=keep1 k1.1 (by simp;omega) (fun e=>k1.2.2.2 _ (pm.live e))
  have k3:=keep1 k2.1 (by simp;omega) (fun e=>k2.2.2.2 _ (k1.2.2.2 _ (psp.live e)))
  have k4:=keep1 k3.1 (by simp;omega) (fun e=>k3.2.2.2 _ (k2.2.2.2 _ (k1.2.2.2 _ (pt.live e))))
  have hkp:keepP x.s q=(((x.s.keep q.wave).keep q.marks).keep q.spots).keep q.table:=rfl
  have hG:Grow x.s (keepP x.s q):=((k1.2.1.trans k2.2.1).trans k3.2.1).trans k4.2.1
  have hB:(keepP x.s q).busyN=x.s.busyN:=by rw [hkp,k4.2.2.1,k3.2.2.1,k2.2.2.1,k1.2.2.1]
  have hI:Inv (keepP x.s q) (q.wave::q.marks::q.spots::q.table::x.src::H):=k4.1.perm (by
    have e1:(q.table::q.spots::q.marks::q.wave::x.src::H)=[q.table,q.spots,q.marks,q.wave]++(x.src::H):=rfl
    have e2:(q.wave::q.marks::q.spots::q.table::x.src::H)=[q.wave,q.marks,q.spots,q.table]++(x.src::H):=rfl
    rw [e1,e2]
    refine List.Perm.append_right _ ?_
    have:[q.wave,q.marks,q.spots,q.table]=[q.table,q.spots,q.marks,q.wave].reverse:=rfl
    rw [this]
    exact (List.reverse_perm _).symm)
  obtain ⟨s1,hs1⟩: ∃s1,keepP x.s q=s1:=⟨_,rfl⟩
  rw [hs1] at hG hB hI
  clear hkp k1 k2 k3 k4
  have hlt:LR s1 q.table (docsM ds):=⟨by obtain ⟨t,a,b⟩:=pt.ex;exact ⟨t,a.grow hG,b⟩,fun e=>hI.pos (by simp) e,by simp [docsM];omega⟩
  have hd:=hR.id d (by simp)
  have h40:=(right_len hR.right).2 ds.length
  rw [getD_at txt_new] at h40
  have hnn: ∀y∈docsM ds,y.1≠d.1:=fun y hy e=>by
    unfold docsM at hy
    obtain ⟨z,hz,rfl⟩:=List.mem_map.1 hy
    have hn:=hR.nodup
    rw [List.map_append,List.nodup_append] at hn
    exact hn.2.2 z.1 (List.mem_map.2 ⟨z,hz,rfl⟩) d.1 (by simp) e
  have hdl:(docsM ds).length=ds.length:=by simp [docsM]
  obtain ⟨r,e1,R⟩:=tAdd_R hI (by simp;omega) hlt (x:=(d.1,(d.2.length:Int))) ⟨hd.1,hd.2,by omega,by omega⟩ hnn (by omega)
  have hst:x.start={x with s:=s1,p:=q,begun:=true,row:=(ds.length:Int)}:=by
    unfold Pt.start
    rw [hq]
    rw [hs1,hlt.len hI,hdl]
  have hb:x.begin=some (x.start.swap 3 r):=by
    unfold Pt.begin
    rw [hst]
    dsimp only
    rw [hlt.all hI,Option.bind_some,if_pos (by omega),h.id,h.text,e1];rfl
  obtain ⟨i1,g1,c1,q1⟩:=swap_T (H1:=[q.wave,q.marks,q.spots]) (H2:=x.src::H) R
  have E:=swap_eq x.start 3 r
  have hat:x.start.p.at 3=q.table:=by rw [hst];rfl
  rw [hat] at E
  rw [hb,E]
  generalize nextA true q.table r=n1 at*
  rw [hst]
  have hgs:=hG.size
  refine ⟨_,rfl,hG.trans g1,by dsimp only;omega,?_⟩
  rcases q1 with ⟨z,t1,p1,p2⟩|⟨z,a2,a3⟩
  · refine .inl ⟨by rw [if_pos z],rfl,?_⟩
    have hX:=partX_old (d:=d) hrd
    have hdn:docsM (ds++[d])=docsM ds++[(d.1,(d.2.length:Int))]:=by unfold docsM;simp
    refine ⟨?_,?_,?_,?_,?_,h.id,h.text,h.rt,rfl,h.over,h.root,?_,?_⟩
    · exact i1.perm (by exact List.Perm.refl _)
    · show HasW n1.2.2 q.wave _
      rw [hX];obtain ⟨t,a,b⟩:=pw.ex;exact ⟨t,(a.grow hG).grow g1,b⟩
    · show HasB n1.2.2 q.marks _
      rw [hX];obtain ⟨t,a,b⟩:=pm.ex;exact ⟨t,(a.grow hG).grow g1,b⟩
    · show HasL n1.2.2 q.spots _
      rw [hX];obtain ⟨t,a,b⟩:=psp.ex;exact ⟨t,(a.grow hG).grow g1,b⟩
    · show HasL n1.2.2 n1.1 _
      rw [hdn];exact ⟨t1,p1,p2⟩
    · show x.pos=((d.2.length+1:Nat):Int) - 1
      rw [h.pos];omega
    · intro _
      show (ds.length:Int)=_
      rw [show d.2.length+1 - 1=d.2.length by omega,rowI_end]
  · refine .inr ⟨by rw [if_neg (by omega)];exact z,by omega,⟨?_,rfl,h.over,rfl⟩⟩
    exact i1.perm (List.Perm.refl _)
theorem end_T {x : Pt} {H : List Int} {ds : Docs} {d : Int × List UInt8} {rate : Int} (h : Pv x (x.src :: H) ds d rate 0) (hR : Right (ds ++ [d])) (hH : H.length ≤ 900) :
    ∃e y,x.step=some (true,e,y)∧Grow x.s y.s∧y.s.busyN≤x.s.busyN+1∧y.over=true∧
      ((e=0∧y.root≠0∧Inv y.s (y.root::H)∧VR y.s y.root (ds++[d]) rate)∨(e=2∧y.root=0∧x.s.busyN=x.s.size∧Inv y.s H)):=by
  obtain ⟨tt,ht1,ht2⟩:=h.t
  have htn:x.p.table≠0:=by
    rcases ht2 with ⟨-,q⟩|ht2
    · unfold docsM at q;simp at q
    · exact ht1.ne_ofL ht2
  have hmk:vMake x.s x.p=x.s.make ⟨6,x.p.wave,x.p.marks,x.p.spots,x.p.table,0,0⟩:=by
    unfold vMake;rw [if_neg (fun q=>htn q.2.2.2)]
  have hst:x.step=some (true,(vMake x.s x.p).2.1,({x with s:=(vMake x.s x.p).2.2,root:=(vMake x.s x.p).1}:Pt).stop):=by
    unfold Pt.step
    rw [h.over,if_neg (by decide),h.begun,if_pos rfl,if_neg (by have:=h.pos;omega)]
  rw [hst,hmk]
  rcases h.inv.make (by simp;omega) ⟨6,x.p.wave,x.p.marks,x.p.spots,x.p.table,0,0⟩ ⟨by dsimp only;omega,by dsimp only;omega⟩ U64.zero (fun k hk h0=>h.inv.pos (by simp [Nd.kids] at hk;simp;rcases hk with q|q|q|q<;>simp [q]) h0) with ⟨m1,m2⟩|⟨f,f1,f2,f3,m1,m2,m3,m4,m5,m6,m7⟩
  · rw [m1]
    have hI:Inv x.s (x.src::x.p.wave::x.p.marks::x.p.spots::x.p.table::H):=h.inv.perm (by
      have e1:(x.p.wave::x.p.marks::x.p.spots::x.p.table::x.src::H)=[x.p.wave,x.p.marks,x.p.spots,x.p.table]++x.src::H:=rfl
      rw [e1];exact List.perm_middle)
    obtain ⟨s1,s2,s3⟩:=stop_T (x:={x with s:=x.s,root:=0}) hI h.over
    exact ⟨_,_,rfl,s2,Nat.le_trans (Nat.le_of_eq s3) (Nat.le_succ _),rfl, .inr ⟨rfl,rfl,m2,s1⟩⟩
  · generalize x.s.make ⟨6,x.p.wave,x.p.marks,x.p.spots,x.p.table,0,0⟩=r at*
    have hI:Inv r.2.2 (x.src::x.p.wave::x.p.marks::x.p.spots::x.p.table::((f:Int)::H)):=m3.perm (by
      have e1:((f:Int)::x.p.wave::x.p.marks::x.p.spots::x.p.table::x.src::H)=[(f:Int),x.p.wave,x.p.marks,x.p.spots,x.p.table]++x.src::H:=rfl
      rw [e1]
      refine List.perm_middle.trans (List.Perm.cons _ ?_)
      show ((f:Int)::([x.p.wave,x.p.marks,x.p.spots,x.p.table]++H)).Perm ([x.p.wave,x.p.marks,x.p.spots,x.p.table]++(f:Int)::H)
      exact List.perm_middle.symm)
    obtain ⟨s1,s2,s3⟩:=stop_T (x:={x with s:=r.2.2,root:=r.1}) hI h.over
    have hf0:(f:Int)≠0:=by omega
    have hfh:r.2.2.has (f:Int)=true:=has_iff.2 ⟨by omega,by rw [m4.size];omega,by simpa using m5⟩
    obtain ⟨tw,w1,w2⟩:=h.w
    obtain ⟨tm,n1,n2⟩:=h.m
    obtain ⟨tsp,p1,p2⟩:=h.sp
    have hX:=partX_new hR.right
    rw [hX] at w2 n2 p2
    have hrep:Rep r.2.2 (f:Int) (.nd 6 0 0 tw tm tsp tt):= .nd hfh (by rw [get_nat hfh,Int.toNat_natCast,m6]) (w1.grow m4) (n1.grow m4) (p1.grow m4) (ht1.grow m4)
    refine ⟨_,_,rfl,m4.trans s2,?_,rfl, .inl ⟨m2,?_,?_,?_⟩⟩
    · rw [s3];exact Nat.le_of_eq m7
    · show r.1≠0
      rw [m1];exact hf0
    · show Inv _ (r.1::H)
      rw [m1];exact s1
    · show VR _ r.1 _ _
      rw [m1]
      exact ⟨.inr ⟨_,hrep.grow s2,tw,tm,tsp,tt,rfl,w2,n2,p2,ht2⟩,fun _=>s1.pos (by simp) hf0⟩
end
section
open Go.RowKit
theorem VR.move {s s':Ar} {h:Int} {ds:Docs} {rate:Int} (hv:VR s h ds rate) (hr: ∀t,Rep s h t→Rep s' h t) (hl:h≠0→s'.cnt h≠0):VR s' h ds rate:=by
  refine ⟨?_,hl⟩
  rcases hv.ex with h0|⟨t,ht,hvt⟩
  · exact .inl h0
  · exact .inr ⟨t,hr t ht,hvt⟩
def Stage (x:Pt) (H:List Int) (ds:Docs) (d:Int×List UInt8) (rate:Int) (j:Nat):Prop:=
  (j=d.2.length+3∧P0 x H ds d rate)∨(∃a,j=a+1∧a≤d.2.length+1∧Pv x (x.src::H) ds d rate a)∨(j=0∧x.over=true∧x.root≠0∧Inv x.s (x.root::H)∧VR x.s x.root (ds++[d]) rate)
section
variable {x : Pt} {H : List Int} {ds : Docs} {d : Int × List UInt8} {rate : Int}
theorem Stage.left {j:Nat} (h:Stage x H ds d rate j) (hl:d.2.length≤40):x.left=(j:Int):=by
  unfold Pt.left
  rcases h with ⟨rfl,h⟩|⟨a,rfl,ha,h⟩|⟨rfl,h, -⟩
  · rw [h.over,if_neg (by decide),h.begun,if_neg (by decide),h.text,w64 (by omega) (by omega)];omega
  · rw [h.over,if_neg (by decide),h.begun,if_pos rfl,h.pos,w64 (by omega) (by omega)];omega
  · rw [h,if_pos rfl];rfl
def Stage.list (x:Pt) (H:List Int) (j:Nat):List Int:=if j=0 then x.root::H else if x.begun then x.p.wave::x.p.marks::x.p.spots::x.p.table::x.src::H else x.src::H
theorem Stage.list_len (x:Pt) (H:List Int) (j:Nat):(Stage.list x H j).length≤H.length+5:=by
  unfold Stage.list
  split
  · simp
  · split<;>simp
theorem Stage.list_mem (x:Pt) (H:List Int) (j:Nat) {k:Int} (hk:k∈H):k∈Stage.list x H j:=by
  unfold Stage.list
  split
  · simp [hk]
  · split<;>simp [hk]
theorem Stage.inv {j:Nat} (h:Stage x H ds d rate j):Inv x.s (Stage.list x H j):=by
  unfold Stage.list
  rcases h with ⟨rfl,h⟩|⟨a,rfl,ha,h⟩|⟨rfl,h,h2,h3, -⟩
  · rw [if_neg (by omega),h.begun,if_neg (by decide)];exact h.inv
  · rw [if_neg (by omega),h.begun,if_pos rfl];exact h.inv
  · rw [if_pos rfl];exact h3
theorem Pv.work {a:Nat} (h:Pv x H ds d rate a) {s':Ar} (hI:Inv s' (x.p.wave::x.p.marks::x.p.spots::x.p.table::H)) (hs:Stay x.s s' (x.p.wave::x.p.marks::x.p.spots::x.p.table::H)):Pv {x with s:=s'} H ds d rate a:=
  ⟨hI,h.w.stay hs (by simp),h.m.stay hs (by simp),h.sp.stay hs (by simp),h.t.stay hs (by simp),h.id,h.text,h.rt,h.begun,h.over,h.root,h.pos,h.row⟩
theorem partX_le (hR:refRight (txt (ds++[d]))=true) (a:Nat):(partX ds d a).length≤(rowsM (ds++[d])).length:=by
  rw [←partX_new hR]
  unfold partX
  rw [List.length_map,List.length_map,part_zero txt_len]
  exact List.length_filter_le _ _
def PtIn (x:Pt):Prop:= -1≤x.pos∧x.pos≤x.text.length∧x.text.length≤50000∧1≤x.rate
theorem stage_step {j : Nat} (h : Stage x H ds d rate (j + 1)) (hR : Right (ds ++ [d])) (hr1 : 1 ≤ rate) (hH : H.length ≤ 900) (hroom : x.s.busyN + costR (rowsM (ds ++ [d])).length ≤ x.s.size) :
    PtIn x∧ ∃y u,x.step=some (decide (j=0),0,y)∧y.s.work 1073741824=some u∧Stage {y with s:=u.2} H ds d rate j∧u.2.wait=[]∧u.2.size=x.s.size∧
      Stage y H ds d rate j∧(1≤j→y.src=x.src)∧Inv u.2 (Stage.list y H j)∧Stay x.s u.2 H∧ ∀k t,k∈Stage.list y H j→Rep x.s k t→Rep u.2 k t:=by
  have h40:=(right_len hR.right).2 ds.length
  rw [getD_at txt_new] at h40
  have key:PtIn x∧ ∃y,x.step=some (decide (j=0),0,y)∧Grow x.s y.s∧Stage y H ds d rate j∧(1≤j→y.begun=true∧y.src=x.src):=by
    rcases h with ⟨hj,h⟩|⟨a,hj,ha,h⟩|⟨hj, -⟩
    · obtain rfl:j=d.2.length+2:=by omega
      refine ⟨⟨by rw [h.pos];omega,by rw [h.pos,h.text];exact Int.le_refl _,by rw [h.text];omega,by rw [h.rt];exact hr1⟩,?_⟩
      obtain ⟨r,e1,g1,c1,q1⟩:=begin_T h hR hH
      rcases q1 with ⟨z,hs,hp⟩|⟨-,hf, -⟩
      · refine ⟨r.2,?_,g1, .inr (.inl ⟨d.2.length+1,rfl,Nat.le_refl _,by rw [hs];exact hp⟩),fun _=>⟨hp.begun,hs⟩⟩
        unfold Pt.step
        rw [h.over,if_neg (by decide),h.begun,if_neg (by decide),e1]
        show some (Pt.asked r)=_
        unfold Pt.asked
        rw [if_pos z,hp.over,decide_eq_false (by omega)]
      · unfold costR at hroom;omega
    · obtain rfl:j=a:=by omega
      refine ⟨⟨by rw [h.pos];omega,by rw [h.pos,h.text];omega,by rw [h.text];omega,by rw [h.rt];exact hr1⟩,?_⟩
      cases j with
      | zero=>
        obtain ⟨e,y,e1,g1,c1,o1,q1⟩:=end_T h hR hH
        rcases q1 with ⟨rfl,hr0,hI,hv⟩|⟨-, -,hf, -⟩
        · exact ⟨y,by rw [e1];rfl,g1, .inr (.inr ⟨rfl,o1,hr0,hI,hv⟩),fun q=>by omega⟩
        · unfold costR at hroom;omega
      | succ b=>
        obtain ⟨r,e1,g1,c1,q1⟩:=pinsert_T h hR (by omega) (by simp;omega)
        rcases q1 with ⟨z,hs,hp⟩|⟨-,hf, -⟩
        · refine ⟨r.2,?_,g1, .inr (.inl ⟨b,rfl,by omega,by rw [hs];exact hp⟩),fun _=>⟨hp.begun,hs⟩⟩
          unfold Pt.step
          rw [h.over,if_neg (by decide),h.begun,if_pos rfl,if_pos (by rw [h.pos];omega),e1]
          show some (Pt.asked r)=_
          unfold Pt.asked
          rw [if_pos z,hp.over,decide_eq_false (by omega)]
        · have:=partX_le hR.right (b+1)
          unfold costR at hroom hf;omega
    · omega
  have hx0:=h.inv
  obtain ⟨hin,y,e1,g1,hy,hyb⟩:=key
  refine ⟨hin,y,?_⟩
  have hI:=hy.inv
  obtain ⟨u,w1,w2,w3, -,w5⟩:=hI.work (by have:=Stage.list_len y H j;omega) 1073741824
  refine ⟨u,e1,w1,?_,w5 (by omega),w3.size.trans g1.size,hy,fun q=>(hyb q).2,w2,((g1.stay hx0).mono fun k hk _=>Stage.list_mem x H (j+1) hk).trans (w3.mono fun k hk _=>Stage.list_mem y H j hk),fun k t hk ht=>(ht.grow g1).held w3 hk⟩
  rcases hy with ⟨hj,h0⟩|⟨a,hj,ha,hp⟩|⟨hj,o,r0,hI0,hv⟩
  · exact absurd (hyb (by omega)).1 (by rw [h0.begun];decide)
  · refine .inr (.inl ⟨a,hj,ha,?_⟩)
    unfold Stage.list at w2 w3
    rw [if_neg (by omega),hp.begun,if_pos rfl] at w2 w3
    exact hp.work w2 w3
  · subst hj
    unfold Stage.list at w2 w3
    rw [if_pos rfl] at w2 w3
    exact .inr (.inr ⟨rfl,o,r0,w2,hv.move (fun t ht=>ht.held w3 (by simp)) (fun q=>w2.pos (by simp) q)⟩)
theorem stage_stop {j:Nat} (h:Stage x H ds d rate (j+1)) (hH:H.length≤900):Inv x.stop.s H∧Grow x.s x.stop.s∧x.over=false:=by
  rcases h with ⟨hj,h⟩|⟨a,hj,ha,h⟩|⟨hj, -⟩
  · have hI : Inv x.s (x.src :: x.p.wave :: x.p.marks :: x.p.spots :: x.p.table :: H) := by
      rw [h.p0]
      have h1:=(((h.inv.zero_cons (by simp;omega)).zero_cons (by simp;omega)).zero_cons (by simp;omega)).zero_cons (by simp;omega)
      refine h1.perm ?_
      have e1:((0:Int)::0::0::0::x.src::H)=[0,0,0,0]++x.src::H:=rfl
      rw [e1];exact List.perm_middle
    obtain ⟨a,b, -⟩:=stop_T hI h.over
    exact ⟨a,b,h.over⟩
  · have hI : Inv x.s (x.src :: x.p.wave :: x.p.marks :: x.p.spots :: x.p.table :: H) := h.inv.perm (by
      have e1:(x.p.wave::x.p.marks::x.p.spots::x.p.table::x.src::H)=[x.p.wave,x.p.marks,x.p.spots,x.p.table]++x.src::H:=rfl
      rw [e1];exact List.perm_middle)
    obtain ⟨a,b, -⟩:=stop_T hI h.over
    exact ⟨a,b,h.over⟩
  · omega
theorem root_refs1 {s:Ar} {root:Int} (hI:Inv s [root]) (hw:s.wait=[]) (h0:root≠0):s.refs root=0:=by
  obtain ⟨rk,hrk⟩:=hI.rank
  have hlt: ∀{x k:Int},s.has x=true→k∈(s.get x).kids→k≠0→rk k.toNat<rk x.toNat:=fun {x k} hx hkx hk0=>by
    obtain ⟨n,rfl,n1,n2,n3⟩:=has_nat hx
    rw [get_nat hx,Int.toNat_natCast] at hkx
    rw [Int.toNat_natCast]
    exact hrk n n1 n2 n3 k hkx hk0
  have hall: ∀x,Rc s [root] x→rk x.toNat≤rk root.toNat:=fun x hx=>by
    induction hx with
    | held h1 h2=>rw [List.mem_singleton.1 h1];exact Nat.le_refl _
    | @kid y k hr h1 h2 ih=>exact Nat.le_of_lt (Nat.lt_of_lt_of_le (hlt (hI.rc hr).1 h1 h2) ih)
  refine refsTo_zero _ _ _ _ fun n n1 n2 n3 hm=> ?_
  have hn:s.has (n:Int)=true:=has_iff.2 ⟨by omega,by omega,by simpa using n3⟩
  have hm':root∈(s.get (n:Int)).kids:=by rw [get_nat hn,Int.toNat_natCast];exact hm
  have h1:=hlt hn hm' h0
  have h2:=hall _ (hI.reached hw hn)
  omega
theorem cnt_one {s:Ar} {root:Int} (hI:Inv s [root]) (hw:s.wait=[]) (h0:root≠0):s.cnt root=1:=by
  obtain ⟨n,rfl,n1,n2,n3⟩:=has_nat (hI.held root (by simp) h0)
  rw [Ar.cnt_nat n1 n2,hI.cnt n n1 n2 n3,root_refs1 hI hw h0]
  simp
def Sz (s:Ar) (B:Nat) (k:Int):Prop:= ∃t,Rep s k t∧8*t.size≤B
theorem VR.sz {s:Ar} {k:Int} {ds':Docs} {rate':Int} (hv:VR s k ds' rate'):Sz s (2048+56*(rowsM ds').length+16*ds'.length) k:=by
  rcases hv.ex with ⟨rfl,rfl⟩|⟨t,hr,tw,tm,tsp,tt,rfl,h1,h2,h3,h4⟩
  · exact ⟨.nil, .nil,by simp [Tr.size]⟩
  · refine ⟨_,hr,?_⟩
    simp only [Tr.size]
    have a1:=h1.size;have a2:=h2.size;have a3:=h3.size;have a4:=h4.size
    have b1:=rowS_length rate' (rowsM ds')
    have b2:(rowW (rowsM ds')).length=(rowsM ds').length:=by simp [rowW]
    have b3:(rowM rate' (rowsM ds')).length=(rowsM ds').length:=by simp [rowM]
    have b4:(docsM ds').length=ds'.length:=by simp [docsM]
    omega
theorem sz_reps {s:Ar} {B:Nat}: ∀{H:List Int},(∀k∈H,Sz s B k)→ ∃T,Reps s H T∧8*sizes T≤H.length*B
  | [],_=>⟨[],trivial,by simp [sizes]⟩
  | k::H,h=>by
    obtain ⟨t,a,b⟩:=h k (by simp)
    obtain ⟨T,c,e⟩:=sz_reps (H:=H) fun q hq=>h q (by simp [hq])
    refine ⟨t::T,⟨a,c⟩,?_⟩
    have e1:sizes (t::T)=t.size+sizes T:=by simp [sizes]
    have e2:(H.length+1)*B=H.length*B+B:=Nat.succ_mul _ _
    rw [e1,List.length_cons,e2]
    omega
theorem stage_busy {j B : Nat} (h : Stage x H ds d rate j) (hR : Right (ds ++ [d])) (hw : x.s.wait = []) (hs : j ≠ 0 → Sz x.s B x.src) (hH : ∀ k ∈ H, Sz x.s B k) :
    8*x.s.busyN≤(H.length+1)*B+2048+56*(rowsM (ds++[d])).length+16*(ds.length+1):=by
  obtain ⟨T,hT1,hT2⟩:=sz_reps hH
  have e2:(H.length+1)*B=H.length*B+B:=Nat.succ_mul _ _
  rw [e2]
  rcases h with ⟨rfl,h⟩|⟨a,rfl,ha,h⟩|⟨rfl, -, -,hI,hv⟩
  · obtain ⟨t0,r0,b0⟩:=hs (by omega)
    have:=h.inv.busy_le hw (T:=t0::T) ⟨r0,hT1⟩
    have e:sizes (t0::T)=t0.size+sizes T:=by simp [sizes]
    omega
  · obtain ⟨t0,r0,b0⟩:=hs (by omega)
    obtain ⟨t1,a1,b1⟩:=h.w
    obtain ⟨t2,a2,b2⟩:=h.m
    obtain ⟨t3,a3,b3⟩:=h.sp
    obtain ⟨t4,a4,b4⟩:=h.t
    have:=h.inv.busy_le hw (T:=t1::t2::t3::t4::t0::T) ⟨a1,a2,a3,a4,r0,hT1⟩
    have e:sizes (t1::t2::t3::t4::t0::T)=t1.size+(t2.size+(t3.size+(t4.size+(t0.size+sizes T)))):=by simp [sizes]
    have c1:=b1.size;have c2:=b2.size;have c3:=b3.size;have c4:=b4.size
    have l1:=rowS_length rate (partX ds d a)
    have l2:(rowW (partX ds d a)).length=(partX ds d a).length:=by simp [rowW]
    have l3:(rowM rate (partX ds d a)).length=(partX ds d a).length:=by simp [rowM]
    have l4:(docsM (ds++[d])).length=ds.length+1:=by simp [docsM]
    have l5:=partX_le hR.right a
    omega
  · obtain ⟨t0,r0,b0⟩:=hv.sz
    have:=hI.busy_le hw (T:=t0::T) ⟨r0,hT1⟩
    have e:sizes (t0::T)=t0.size+sizes T:=by simp [sizes]
    rw [List.length_append,List.length_cons,List.length_nil] at b0
    omega
end
end
section
open Go.RowKit
structure LoopT (s0:Ar) (root:Int) (ds:Docs) (d:Int×List UInt8) (rate:Int) (j:Nat) (x:Pt):Prop where
  st:Stage x [root] ds d rate j
  wt:x.s.wait=[]
  stay:Stay s0 x.s [root]
  src:x.src=root
  size:x.s.size=6000
  busy:8*x.s.busyN≤30000
section
variable {s0 : Ar} {root : Int} {ds : Docs} {d : Int × List UInt8} {rate : Int} {j : Nat} {x : Pt}
theorem LoopT.next (h : LoopT s0 root ds d rate (j + 1) x) (hj : 1 ≤ j) (hv : VR s0 root ds rate) (hRd : Right (ds ++ [d])) (hrows : (rowsM (ds ++ [d])).length ≤ 111) (hrows0 : (rowsM ds).length ≤ 70) (hl : ds.length < 10) (h1 : 1 ≤ rate) :
    PtIn x∧ ∃y u,x.step=some (false,0,y)∧y.s.work 1073741824=some u∧LoopT s0 root ds d rate j {y with s:=u.2}:=by
  obtain ⟨hin,y,u,e1,e2,e3,e4,e5, -,e7, -,e9, -⟩:=stage_step h.st hRd h1 (by simp) (by have:=h.busy;have:=h.size;unfold costR;omega)
  refine ⟨hin,y,u,by rw [e1,decide_eq_false (by omega)],e2,e3,e4,h.stay.trans e9,(e7 hj).trans h.src,e5.trans h.size,?_⟩
  have hz:Sz u.2 6128 root:=by
    obtain ⟨t,ht,hb⟩:=hv.sz
    exact ⟨t,ht.held (h.stay.trans e9) (by simp),by omega⟩
  have hb:=stage_busy (x:={y with s:=u.2}) (B:=6128) e3 hRd e4 (fun _=>by show Sz u.2 6128 y.src;rw [e7 hj,h.src];exact hz) (fun k hk=>by rw [List.mem_singleton.1 hk];exact hz)
  show 8*u.2.busyN≤30000
  replace hb:8*u.2.busyN≤_:=hb
  simp only [List.length_cons,List.length_nil] at hb
  omega
theorem stage_root {H:List Int} (h:Stage x H ds d rate (j+1)):x.root=0:=by
  rcases h with ⟨hj,h⟩|⟨a,hj,ha,h⟩|⟨hj, -⟩
  · exact h.root
  · exact h.root
  · omega
theorem LoopT.stop (h : LoopT s0 root ds d rate (j + 1) x) (hI : Inv s0 [root]) (hw : s0.wait = []) (hv : VR s0 root ds rate) (hR : Right ds) (h1 : 1 ≤ rate) (h2 : rate ≤ 16) :
    ∃u,x.stop.s.work 1073741824=some u∧x.stop.root=0∧u.2.busy=s0.busy∧(root≠0→u.2.cnt root=1)∧vCheck u.2 root rate ds=some true:=by
  obtain ⟨a1,a2, -⟩:=stage_stop h.st (by simp)
  obtain ⟨u,w1,w2,w3, -,w5⟩:=a1.work (by simp) 1073741824
  have hw2:=w5 (by omega)
  have hst:Stay s0 u.2 [root]:=(h.stay.trans ((a2.stay h.st.inv).mono fun k hk _=>Stage.list_mem x [root] (j+1) hk)).trans w3
  have hv2:VR u.2 root ds rate:=hv.move (fun t ht=>ht.held hst (by simp)) (fun e=>w2.pos (by simp) e)
  have hr0:=stage_root h.st
  refine ⟨u,w1,hr0,?_,cnt_one w2 hw2,hv2.check_own w2 hR h1 h2⟩
  rw [w2.busy,hI.busy]
  rw [hI.busy_same hw w2 hw2 hst]
theorem LoopT.nextK {k M : Nat} (h : LoopT s0 root ds d rate (d.2.length + 3 - k) x) (hk : k < M) (hM : M ≤ d.2.length + 2) (hv : VR s0 root ds rate) (hRd : Right (ds ++ [d])) (hrows : (rowsM (ds ++ [d])).length ≤ 111) (hrows0 : (rowsM ds).length ≤ 70) (hl : ds.length < 10) (h1 : 1 ≤ rate) :
    PtIn x∧ ∃y u,x.step=some (false,0,y)∧y.s.work 1073741824=some u∧LoopT s0 root ds d rate (d.2.length+3 - (k+1)) {y with s:=u.2}:=by
  rw [show d.2.length+3 - k=(d.2.length+3 - (k+1))+1 by omega] at h
  exact h.next (by omega) hv hRd hrows hrows0 hl h1
end
end
section
open Go.RowKit
structure LoopS (s0:Ar) (root:Int) (ds:Docs) (d:Int×List UInt8) (rate:Int) (j:Nat) (x:Pt):Prop where
  st:Stage x [root] ds d rate j
  wt:x.s.wait=[]
  stay:Stay s0 x.s [root]
  src:1≤j→x.src=root
  size:x.s.size=6000
  busy:8*x.s.busyN≤30000
section
variable {s0 : Ar} {root : Int} {ds : Docs} {d : Int × List UInt8} {rate : Int} {j : Nat} {x : Pt}
theorem LoopS.next (h : LoopS s0 root ds d rate (j + 1) x) (hv : VR s0 root ds rate) (hRd : Right (ds ++ [d])) (hrows : (rowsM (ds ++ [d])).length ≤ 111) (hrows0 : (rowsM ds).length ≤ 70) (hl : ds.length < 10) (h1 : 1 ≤ rate) :
    PtIn x∧ ∃y u,x.step=some (decide (j=0),0,y)∧y.s.work 1073741824=some u∧LoopS s0 root ds d rate j {y with s:=u.2}:=by
  obtain ⟨hin,y,u,e1,e2,e3,e4,e5, -,e7, -,e9, -⟩:=stage_step h.st hRd h1 (by simp) (by have:=h.busy;have:=h.size;unfold costR;omega)
  refine ⟨hin,y,u,e1,e2,e3,e4,h.stay.trans e9,fun q=>(e7 q).trans (h.src (by omega)),e5.trans h.size,?_⟩
  have hz:Sz u.2 6128 root:=by
    obtain ⟨t,ht,hb⟩:=hv.sz
    exact ⟨t,ht.held (h.stay.trans e9) (by simp),by omega⟩
  have hb:=stage_busy (x:={y with s:=u.2}) (B:=6128) e3 hRd e4 (fun q=>by show Sz u.2 6128 y.src;rw [e7 (by omega),h.src (by omega)];exact hz) (fun k hk=>by rw [List.mem_singleton.1 hk];exact hz)
  show 8*u.2.busyN≤30000
  replace hb:8*u.2.busyN≤_:=hb
  simp only [List.length_cons,List.length_nil] at hb
  omega
theorem held_inv {H:List Int} (h:Stage x H ds d rate (j+1)) (hH:H.length≤900):Inv x.s (x.held++H)∧x.held.length≤5:=by
  have key:Inv x.s (x.src::x.p.wave::x.p.marks::x.p.spots::x.p.table::H)∧x.over=false:=by
    rcases h with ⟨hj,h⟩|⟨a,hj,ha,h⟩|⟨hj, -⟩
    · refine ⟨?_,h.over⟩
      rw [h.p0]
      have h1:=(((h.inv.zero_cons (by simp;omega)).zero_cons (by simp;omega)).zero_cons (by simp;omega)).zero_cons (by simp;omega)
      refine h1.perm ?_
      have e1:((0:Int)::0::0::0::x.src::H)=[0,0,0,0]++x.src::H:=rfl
      rw [e1];exact List.perm_middle
    · exact ⟨h.inv.perm (by
        have e1:(x.p.wave::x.p.marks::x.p.spots::x.p.table::x.src::H)=[x.p.wave,x.p.marks,x.p.spots,x.p.table]++x.src::H:=rfl
        rw [e1];exact List.perm_middle),h.over⟩
    · omega
  have e:x.held=(sortI [x.src,x.p.wave,x.p.marks,x.p.spots,x.p.table]).filter fun h=> !decide (h=0):=by
    unfold Pt.held;rw [key.2,if_neg (by decide)]
  have hp:=sortI_perm' [x.src,x.p.wave,x.p.marks,x.p.spots,x.p.table]
  refine ⟨?_,?_⟩
  · rw [e]
    refine inv_filter _ ?_
    have h1:Inv x.s ([x.src,x.p.wave,x.p.marks,x.p.spots,x.p.table]++H):=key.1
    exact h1.perm (hp.symm.append_right H)
  · rw [e]
    refine Nat.le_trans (List.length_filter_le _ _) ?_
    rw [hp.length_eq];simp
theorem LoopS.done (h : LoopS s0 root ds d rate 0 x) (hv : VR s0 root ds rate) (hR : Right ds) (hRd : Right (ds ++ [d])) (h1 : 1 ≤ rate) (h2 : rate ≤ 16) :
    x.over=true∧x.root≠0∧Inv x.s [x.root,root]∧vCheck x.s x.root rate (ds++[d])=some true∧vCheck x.s root rate ds=some true∧x.s.cntE x.root=0∧(root≠0→(x.s.drop x.root).cntE root=0)∧
      ∃u,((x.s.drop x.root).drop root).work 1073741824=some u∧u.2.busy=0:=by
  obtain ⟨o,r0,hI,hv2⟩:x.over=true∧x.root≠0∧Inv x.s [x.root,root]∧VR x.s x.root (ds++[d]) rate:=by
    rcases h.st with ⟨hj, -⟩|⟨a,hj, -⟩|⟨-,h⟩
    · omega
    · omega
    · exact h
  have hI2:=hI.drop
  have hI3:=hI2.drop
  obtain ⟨u,w1,w2,w3, -,w5⟩:=hI3.work (by simp) 1073741824
  have hw:=w5 (by omega)
  have hz:=w2.busy_le hw (T:=[]) trivial
  have hv3:VR x.s root ds rate:=hv.move (fun t ht=>ht.held h.stay (by simp)) (fun e=>hI.pos (by simp) e)
  refine ⟨o,r0,hI,hv2.check_own hI hRd h1 h2,hv3.check_own hI hR h1 h2,?_,fun e=> ?_,u,w1,?_⟩
  · unfold Ar.cntE;rw [if_neg (hI.pos (by simp) r0)]
  · unfold Ar.cntE;rw [if_neg (hI2.pos (by simp) e)]
  · rw [w2.busy]
    simp [sizes] at hz
    rw [hz];rfl
theorem LoopS.nextK {k N : Nat} (h : LoopS s0 root ds d rate (N - k) x) (hkN : k < N) (hv : VR s0 root ds rate) (hRd : Right (ds ++ [d])) (hrows : (rowsM (ds ++ [d])).length ≤ 111) (hrows0 : (rowsM ds).length ≤ 70) (hl : ds.length < 10) (h1 : 1 ≤ rate) (h40 : d.2.length ≤ 40) :
    PtIn x∧x.left=((N - k:Nat):Int)∧(Inv x.s (x.held++[root])∧x.held.length≤5)∧ ∃y u,x.step=some (decide (N - (k+1)=0),0,y)∧y.s.work 1073741824=some u∧LoopS s0 root ds d rate (N - (k+1)) {y with s:=u.2}:=by
  have e:N - k=(N - (k+1))+1:=by omega
  rw [e] at h⊢
  obtain ⟨a,b⟩:=h.next hv hRd hrows hrows0 hl h1
  exact ⟨a,h.st.left h40,held_inv h.st (by simp),b⟩
end
end
section
open Go.RowKit
structure LoopG (root:Int) (H:List Int) (ds:Docs) (d:Int×List UInt8) (rate:Int) (j:Nat) (x:Pt):Prop where
  st:Stage x H ds d rate j
  src:1≤j→x.src=root
  size:x.s.size=6000
  busy:8*x.s.busyN≤30000
  sz:1≤j∨root∈H→Sz x.s 6128 root
  hH:H=[]∨H=[root]
section
variable {root : Int} {H : List Int} {ds : Docs} {d : Int × List UInt8} {rate : Int} {j : Nat} {x : Pt}
theorem LoopG.len (h:LoopG root H ds d rate j x):H.length≤1:=by rcases h.hH with e|e<;>rw [e]<;>simp
theorem Stage.src_mem (h:Stage x H ds d rate j) (hj:1≤j):x.src∈Stage.list x H j:=by
  unfold Stage.list
  rw [if_neg (by omega)]
  split<;>simp
theorem LoopG.next (h : LoopG root H ds d rate (j + 1) x) (hRd : Right (ds ++ [d])) (hrows : (rowsM (ds ++ [d])).length ≤ 111) (hl : ds.length < 10) (h1 : 1 ≤ rate) :
    PtIn x∧ ∃y u,x.step=some (decide (j=0),0,y)∧y.s.work 1073741824=some u∧LoopG root H ds d rate j {y with s:=u.2}:=by
  have hlen:=h.len
  obtain ⟨hin,y,u,e1,e2,e3,e4,e5,e6,e7, -, -,e10⟩:=stage_step h.st hRd h1 (by omega) (by have:=h.busy;have:=h.size;unfold costR;omega)
  have hz:1≤j∨root∈H→Sz u.2 6128 root:=fun hq=>by
    obtain ⟨t,ht,hb⟩:=h.sz (.inl (by omega))
    refine ⟨t,e10 root t ?_ ht,hb⟩
    rcases hq with hq|hq
    · have:=e6.src_mem hq
      rw [e7 hq,h.src (by omega)] at this
      exact this
    · exact Stage.list_mem y H j hq
  refine ⟨hin,y,u,e1,e2,e3,fun q=>(e7 q).trans (h.src (by omega)),e5.trans h.size,?_,hz,h.hH⟩
  have hb:=stage_busy (x:={y with s:=u.2}) (B:=6128) e3 hRd e4 (fun q=>by show Sz u.2 6128 y.src;rw [e7 (by omega),h.src (by omega)];exact hz (.inl (by omega))) (fun k hk=>by
    have hk':k=root:=by rcases h.hH with e|e<;>rw [e] at hk<;>simp at hk;exact hk
    rw [hk'] at hk⊢
    exact hz (.inr hk))
  show 8*u.2.busyN≤30000
  replace hb:8*u.2.busyN≤_:=hb
  have:(H.length+1)*6128≤2*6128:=Nat.mul_le_mul_right _ (by omega)
  omega
theorem LoopG.done (h : LoopG root H ds d rate 0 x) (hRd : Right (ds ++ [d])) (h1 : 1 ≤ rate) (h2 : rate ≤ 16) :
    x.over=true∧x.root≠0∧Inv x.s (x.root::H)∧VR x.s x.root (ds++[d]) rate∧vCheck x.s x.root rate (ds++[d])=some true:=by
  rcases h.st with ⟨hj, -⟩|⟨a,hj, -⟩|⟨-,a,b,c,e⟩
  · omega
  · omega
  · exact ⟨a,b,c,e,e.check_own c hRd h1 h2⟩
theorem LoopG.held (h:LoopG root [] ds d rate (j+1) x):Inv x.s x.held∧x.held.length≤5∧(root≠0→1≤x.s.cnt root):=by
  obtain ⟨a,b⟩:=held_inv h.st (by simp)
  rw [List.append_nil] at a
  refine ⟨a,b,fun h0=> ?_⟩
  have hI:=h.st.inv
  have hm:=h.st.src_mem (by omega)
  rw [h.src (by omega)] at hm
  have:=hI.cpos (hI.held root hm h0) (hI.pos hm h0)
  omega
theorem new0_T {s:Ar} (hI:Inv s [root]) (hv:VR s root ds rate) (hz:s.size=6000) (hb:8*s.busyN≤30000) (hr:(rowsM ds).length≤70) (hl:ds.length≤10):LoopG root [root] ds d rate (d.2.length+3) (Pt.new s root rate d.1 d.2):=by
  have hk:=keep1 (k:=root) hI (by simp) (fun e=>hI.pos (by simp) e)
  refine ⟨.inl ⟨rfl,hk.1,hv.move (fun t ht=>ht.grow hk.2.1) (fun e=>hk.1.pos (by simp) e),rfl,rfl,rfl,rfl,rfl,rfl,rfl,rfl⟩,fun _=>rfl,(Ar.keep_size _ _).trans hz,by show 8*(s.keep root).busyN≤30000;rw [hk.2.2.1];exact hb,fun _=> ?_, .inr rfl⟩
  obtain ⟨t,a,b⟩:=hv.sz
  exact ⟨t,a.grow hk.2.1,by omega⟩
theorem LoopG.next_doc (h : LoopG root [root] ds d rate 0 x) (hRd : Right (ds ++ [d])) (h1 : 1 ≤ rate) (h2 : rate ≤ 16) :
    Inv (x.s.drop root) [x.root]∧VR (x.s.drop root) x.root (ds++[d]) rate∧(x.s.drop root).size=6000∧8*(x.s.drop root).busyN≤30000∧x.root≠0:=by
  obtain ⟨-,b,c,e, -⟩:=h.done hRd h1 h2
  have hI:Inv (x.s.drop root) [x.root]:=(c.perm (List.Perm.swap _ _ _)).drop
  refine ⟨hI,e.move (fun t ht=>ht.grow (Grow.drop _ _)) (fun q=>hI.pos (by simp) q),(Grow.drop x.s root).size.trans h.size,by rw [busyN_drop];exact h.busy,b⟩
end
end
section
open Go.RowKit
theorem right_take {ds:Docs} (hR:Right ds) (n:Nat):Right (ds.take n):=by
  refine ⟨?_,fun y hy=>hR.id y (List.mem_of_mem_take hy),?_⟩
  · have h:=hR.right
    unfold refRight at h⊢
    simp only [Bool.and_eq_true,List.all_eq_true,decide_eq_true_eq,List.length_map] at h⊢
    refine ⟨fun t ht=>h.1 t ?_,by rw [List.length_take];omega⟩
    obtain ⟨y,hy,rfl⟩:=List.mem_map.1 ht
    exact List.mem_map.2 ⟨y,List.mem_of_mem_take hy,rfl⟩
  · rw [List.map_take];exact List.Sublist.nodup (List.take_sublist _ _) hR.nodup
theorem tot_append (a b:Docs):tot (a++b)=tot a+tot b:=by unfold tot;simp
theorem into_step {ds : Docs} (hR : Right ds) (htot : tot ds ≤ 60) {i : Nat} {d : Int × List UInt8} (hd : ds[i]? = some d) :
    Right (ds.take i)∧Right (ds.take i++[d])∧ds.take (i+1)=ds.take i++[d]∧(∀y∈ds.take i,y.1≠d.1)∧(ds.take i).length<10∧d.2.length≤40∧1≤d.1∧(rowsM (ds.take i)).length≤70∧(rowsM (ds.take i++[d])).length≤111:=by
  have hi:=(List.getElem?_eq_some_iff.1 hd).1
  have he:=(List.getElem?_eq_some_iff.1 hd).2
  have e1:ds.take (i+1)=ds.take i++[d]:=by rw [List.take_succ_eq_append_getElem hi,he]
  have h1:=right_take hR i
  have h2:=right_take hR (i+1)
  rw [e1] at h2
  have hl:=hR.len
  have hn:=h2.nodup
  rw [List.map_append,List.nodup_append] at hn
  have h40:=(right_len hR.right).2 i
  rw [getD_at (show (txt ds)[i]? =some d.2 by rw [List.getElem?_map,hd];rfl)] at h40
  have ht:tot ds=tot (ds.take i)+tot (ds.drop i):=by rw [←tot_append,List.take_append_drop]
  have hr1:=rows_tot h1
  have hr2:=rows_tot h2
  rw [tot_append] at hr2
  have hd1:tot [d]=d.2.length:=by unfold tot;simp
  have hlt:(ds.take i).length=i:=by rw [List.length_take];omega
  refine ⟨h1,h2,e1,fun y hy e=>hn.2.2 y.1 (List.mem_map.2 ⟨y,hy,rfl⟩) d.1 (by simp) e,by omega,by omega,(hR.id d (List.mem_of_getElem? hd)).1,by omega,?_⟩
  rw [hr2,hd1,List.length_append,List.length_cons,List.length_nil]
  omega
structure LoopI (s:Ar) (root:Int) (ds:Docs) (rate:Int) (i:Nat):Prop where
  inv:Inv s [root]
  vr:VR s root (ds.take i) rate
  size:s.size=6000
  busy:8*s.busyN≤30000
  zero:root=0↔i=0
theorem LoopI.start (ds:Docs) (rate:Int):LoopI (Ar.new 6000) 0 ds rate 0:=by
  have hI:=(Inv.new 6000 (by omega)).zero_cons (by simp)
  refine ⟨hI,⟨.inl ⟨rfl,by simp⟩,fun h=>absurd rfl h⟩,rfl,?_,by simp⟩
  have:(Ar.new 6000).busyN=0:=by unfold Ar.busyN;exact usedTo_none _ _ fun _ _ _=>rfl
  omega
section
variable {s : Ar} {root : Int} {ds : Docs} {rate : Int} {i : Nat} {d : Int × List UInt8} {x : Pt}
theorem LoopI.new (h:LoopI s root ds rate i) (hR:Right ds) (htot:tot ds≤60) (hd:ds[i]? =some d):LoopG root [root] (ds.take i) d rate (d.2.length+3) (Pt.new s root rate d.1 d.2):=by
  obtain ⟨-, -, -, -,h5, -, -,h8, -⟩:=into_step hR htot hd
  exact new0_T h.inv h.vr h.size h.busy h8 (by omega)
theorem LoopI.next (h:LoopG root [root] (ds.take i) d rate 0 x) (hR:Right ds) (htot:tot ds≤60) (hd:ds[i]? =some d) (h1:1≤rate) (h2:rate≤16):LoopI (x.s.drop root) x.root ds rate (i+1):=by
  obtain ⟨-,hRd,e, -⟩:=into_step hR htot hd
  obtain ⟨a,b,c,f,g⟩:=h.next_doc hRd h1 h2
  exact ⟨a,by rw [e];exact b,c,f,⟨fun q=>absurd q g,fun q=>by omega⟩⟩
theorem LoopI.asks (h : LoopI s root ds rate i) (hR : Right ds) (htot : tot ds ≤ 60) (hd : ds[i]? = some d) :
    lAll s (vOf s root).table=some (docsM (ds.take i))∧(docsM (ds.take i)).length≤50000∧vIs s root=true∧1≤d.1∧(placeIn d.1 (docsM (ds.take i)) 0).2=false∧d.2.length≤40∧vDocs s root<10:=by
  obtain ⟨h1, -, -,h4,h5,h6,h7, -⟩:=into_step hR htot hd
  refine ⟨h.vr.all h.inv (by omega),by simp only [docsM,List.length_map];omega,vr_is h.inv h.vr h1,h7,?_,h6,by rw [h.vr.docs h.inv (by omega)];omega⟩
  rw [placeIn_none d.1 (docsM (ds.take i)) 0 (fun y hy=>by unfold docsM at hy;obtain ⟨z,hz,rfl⟩:=List.mem_map.1 hy;exact h4 z hz)]
end
end
section
open Go.RowKit
end
section
open Go.RowKit
attribute [local go_sem ↓] Go.wp_at_zero Go.wp_at_succ
attribute [local go_sem] str_len
theorem into_calls {w0 W : World} {p : Addr} {L : List (Nat × Obj)} (h : St w0 W (.pointer (some p)) (Ar.new 6000) L) (rate : Int) (hr1 : 1 ≤ rate) (hr2 : rate ≤ 16) (ds : Docs) (hR : Right ds) (htot : tot ds ≤ 60) (A : Option Addr) (cap : Nat) (hD : Rd2 w0 (.slice A ds.length cap) ds) :
    Calls Tryz.prog 22 #[.pointer (some p), .int .i64 rate, .slice A ds.length cap] W fun e w'=> ∃root s',e= .returned (.tuple #[.int .i64 root, .bool true])∧St w0 w' (.pointer (some p)) s' L∧LoopI s' root ds rate ds.length:=by
  have HS:=Lib.hid h;have HK:=Lib.hid hD;have HR:=Lib.hid hR;have HT:=Lib.hid htot;have H1:=Lib.hid hr1;have H2:=Lib.hid hr2
  have HL:=Lib.hid hR.len
  clear h hD hR htot hr1 hr2
  go_enter Tryz.func22,Tryz.ntmps22
  go_wp2_with fail
  go_loopg [8,16] ds.length (fun k c8 c16 wr=> ∃(i:Nat) (root:Int) (s:Ar),c8= .int .i64 root∧c16= .int .i64 (i:Int)∧i+k=ds.length∧Hid (St w0 wr (.pointer (some p)) s L∧LoopI s root ds rate i))
  case atStart=>exact ⟨0,0,_,rfl,rfl,by omega,Lib.hid ⟨HS.out,LoopI.start ds rate⟩⟩
  case round=>
    obtain ⟨i,root,s,rfl,rfl,hk,HX⟩:=hrel
    clear HS
    by_cases hlt:i<ds.length
    · obtain ⟨k,rfl⟩: ∃k,gk=k+1:=⟨gk - 1,by omega⟩
      obtain ⟨d,hd⟩:=at_some hlt
      obtain ⟨A',cap',hv,h2⟩:=HK.out.below HX.out.1.bel
      obtain ⟨ad,rfl,hg,hc⟩:=h2 (by omega)
      obtain ⟨rfl, -,rfl⟩:=Value.slice.inj hv
      obtain ⟨-,c1,c2⟩:=hc i d hd
      have n1:decide ((i:Int)<(ds.length:Int))=true:=by simpa using hlt
      have n2:(i:Int)<(ds.length:Int):=by omega
      have E3:Hid (wrap64 ((i:Int)+1)=(i:Int)+1):=Lib.hid (IntWalk.wrap64_in _ (by have:=HL.out;omega))
      have Hd:=Lib.hid hd
      have HG:=Lib.hid (LoopI.new HX.out.2 HR.out HT.out hd)
      have HKK:Hid (i+1+k=ds.length):=Lib.hid (by omega)
      clear h2 hc hv hd
      replace c2:wr.cell? ⟨(ad.add (i*2)).block,(ad.add (i*2)).off+1,none⟩=some (.string ⟨d.2.toArray⟩):=c2
      go_wp2_with fail
      refine calls_gen fun V hV=> ?_
      have HS1:=Lib.hid (HX.out.1.below (nB hV))
      clear hV c1 c2 n1 n2 hk hlt hg
      obtain ⟨q1,q2,q3,q4,q5,q6,q7⟩:=LoopI.asks HX.out.2 HR.out HT.out Hd.out
      refine (HS1.out.put root rate d.1 d.2 _ q1 q2 q3 H1.out H2.out q4 q5 q6 q7).mono ?_
      rintro e1 W1 ⟨b,rfl,h1⟩
      have H1':=Lib.hid h1
      clear h1 HS1 q1 q2 q3 q4 q5 q6 q7
      go_wp2_with fail
      go_loopg [12,13] (d.2.length+3) (fun m c12 c13 wr2=> ∃(x:Pt),c13= .bool (decide (m=0))∧Hid (Sp w0 wr2 (.pointer (some p)) b x L∧LoopG root [root] (ds.take i) d rate m x))
      case atStart=>exact ⟨_,by simp,Lib.hid ⟨H1'.out,HG.out⟩⟩
      case round=>
        obtain ⟨x,rfl,HY⟩:=hrel
        clear H1' HG
        cases gk with
        | succ j=>
          have d0:decide (j+1=0)=false:=by simp
          obtain ⟨-,hRd, -, -,h10, -, -, -,hrw⟩:=into_step HR.out HT.out Hd.out
          obtain ⟨hin,y,u,y4,y5,y6⟩:=HY.out.2.next hRd hrw h10 H1.out
          have HY4:=Lib.hid y4;have HY5:=Lib.hid y5;have HY6:=Lib.hid y6
          have HOK:Hid (PtOk x):=Lib.hid ⟨hin.1,hin.2.1,hin.2.2.1,hin.2.2.2⟩
          clear y4 y5 y6 hin hRd h10 hrw
          rw [d0]
          clear d0
          go_wp2_with fail
          refine (HY.out.1.act fun O hT=>pStep_calls x HOK.out _ HY4.out _ hT).mono ?_
          rintro e11 W11 ⟨rfl,h11⟩
          have H11:=Lib.hid h11
          clear h11
          go_wp2_with fail
          refine (H11.out.write fun O hA=>work_calls _ _ HY5.out _ hA).mono ?_
          rintro e12 W12 ⟨rfl,h12⟩
          have H12:=Lib.hid h12
          clear h12 H11
          go_wp2_with fail
          go_roundg j
          case measure=>exact Nat.lt_succ_self _
          case rel=>exact ⟨_,rfl,Lib.hid ⟨H12.out,HY6.out⟩⟩
        | zero=>
          have d0:decide ((0:Nat)=0)=true:=rfl
          have HN:=Lib.hid (LoopI.next HY.out.2 HR.out HT.out Hd.out H1.out H2.out)
          have HC:Hid (root≠0→x.s.cntE root=0):=Lib.hid (fun h0=>by
            obtain ⟨-, -,hI, -⟩:=HY.out.2.done (into_step HR.out HT.out Hd.out).2.1 H1.out H2.out
            unfold Ar.cntE;rw [if_neg (hI.pos (by simp) h0)])
          rw [d0]
          clear d0
          by_cases h0:root=0
          · have d1:(root !=0)=false:=by rw [h0];rfl
            have HE:Hid (x.s.drop root=x.s):=Lib.hid (by rw [h0,drop_zero])
            clear h0
            go_wp2_with fail
            refine (HY.out.1.same fun O hT=>pRoot_calls _ hT).mono ?_
            rintro e14 W14 ⟨rfl,h14⟩
            have H14:=Lib.hid h14
            clear h14
            go_wp2_with fail
            have e3:=E3.out
            go_roundg k
            case measure=>omega
            case rel=>exact ⟨i+1,x.root,x.s.drop root,rfl,by first|rfl|(rw [e3];rfl),HKK.out,Lib.hid ⟨by rw [HE.out];exact H14.out.st,HN.out⟩⟩
          · have d1:(root !=0)=true:=by simpa using h0
            clear h0
            go_wp2_with fail
            refine (HY.out.1.write fun O hA=>drop_calls root _ hA).mono ?_
            rintro e13 W13 ⟨rfl,h13⟩
            have H13:=Lib.hid h13
            clear h13
            go_wp2_with fail
            refine (H13.out.same fun O hT=>pRoot_calls _ hT).mono ?_
            rintro e14 W14 ⟨rfl,h14⟩
            have H14:=Lib.hid h14
            clear h14 H13
            go_wp2_with fail
            have e3:=E3.out
            go_roundg k
            case measure=>omega
            case rel=>exact ⟨i+1,x.root,x.s.drop root,rfl,by first|rfl|(rw [e3];rfl),HKK.out,Lib.hid ⟨H14.out.st,HN.out⟩⟩
    · have hi:i=ds.length:=by omega
      subst hi
      have n1:decide ((ds.length:Int)<(ds.length:Int))=false:=by simp
      go_wp2_with fail
      go_ret2
      exact ⟨root,s,rfl,HX.out.1,HX.out.2⟩
end
section
open Go.RowKit
attribute [local go_sem ↓] Go.wp_at_zero Go.wp_at_succ
attribute [local go_sem] str_len
theorem place_calls (v : Value) (ds : Docs) (id : Int) (hl : ds.length ≤ 50000) (w : World) (h : Rd2 w v ds) :
    Calls Tryz.prog 16 #[v, .int .i64 id] w fun e w'=>e= .returned (.int .i64 (placeZ id ds 0))∧Below w.heap.size w w':=by
  obtain ⟨R,hR⟩: ∃R,placeZ id ds 0=R:=⟨_,rfl⟩
  rw [hR]
  have HR:=Lib.hid hR;clear hR
  have HK:=Lib.hid h
  obtain ⟨A,cap,rfl,h2⟩:=h
  clear h2
  go_enter Tryz.func16,Tryz.ntmps16
  go_wp2_with fail
  go_loopg [5] ds.length (fun k p wr=> ∃i:Nat,p= .int .i64 (i:Int)∧i+k=ds.length∧Hid (placeZ id (ds.drop i) i=R)∧Below w.heap.size w wr)
  case atStart=>exact ⟨0,rfl,by omega,HR,Below.refl _ _⟩
  case round=>
    obtain ⟨i,rfl,hk,Hl,hB⟩:=hrel
    by_cases hlt:i<ds.length
    · obtain ⟨k,rfl⟩: ∃k,gk=k+1:=⟨gk - 1,by omega⟩
      obtain ⟨d,hd⟩:=at_some hlt
      have hl2:=Hl.out
      rw [drop_at hd,placeZ] at hl2
      obtain ⟨A',cap',hv,h2⟩:=HK.out.below hB
      obtain ⟨ad,rfl,hg,hc⟩:=h2 (by omega)
      obtain ⟨rfl, -,rfl⟩:=Value.slice.inj hv
      obtain ⟨-,c1,c2⟩:=hc i d hd
      have n1:decide ((i:Int)<(ds.length:Int))=true:=by simpa using hlt
      have n2:(i:Int)<(ds.length:Int):=by omega
      have e3:wrap64 ((i:Int)+1)=(i:Int)+1:=IntWalk.wrap64_in _ (by omega)
      clear hc c2 h2 hv Hl hd
      by_cases he:d.1=id
      · have d1:(d.1==id)=true:=by simpa using he
        rw [if_pos he] at hl2
        have HL:=Lib.hid hl2
        clear hl2 he
        go_wp2_with fail
        go_ret
        exact ⟨by rw [←HL.out];rfl,hB⟩
      · have d1:(d.1==id)=false:=by simpa using he
        rw [if_neg he] at hl2
        have HL:=Lib.hid hl2
        clear hl2 he
        go_wp2_with fail
        go_roundg k
        case measure=>omega
        case rel=>exact ⟨i+1,by first|rfl|(rw [e3];rfl),by omega,HL,hB⟩
    · have hi:i=ds.length:=by omega
      have hl2:=Hl.out
      rw [hi,List.drop_length,placeZ] at hl2
      have HL:=Lib.hid hl2
      have n1:decide ((i:Int)<(ds.length:Int))=false:=by simpa using hlt
      clear hl2 Hl
      go_wp2_with fail
      go_ret
      exact ⟨by rw [←HL.out];rfl,hB⟩
theorem mright_calls (v : Value) (ds : Docs) (hl : ds.length ≤ 50000) (w : World) (h : Rd2 w v ds) :
    Calls Tryz.prog 55 #[v] w fun e w'=>e= .returned (.bool (mRight ds))∧Below w.heap.size w w':=by
  obtain ⟨R,hR⟩: ∃R,mRight ds=R:=⟨_,rfl⟩
  rw [hR]
  have HR:=Lib.hid hR;clear hR
  have HK:=Lib.hid h
  obtain ⟨A,cap,rfl,h2⟩:=h
  clear h2
  go_enter Tryz.func55,Tryz.ntmps55
  go_wp2_with fail
  go_loopg [3] ds.length (fun k p wr=> ∃i:Nat,p= .int .i64 (i:Int)∧i+k=ds.length∧Hid (mrFrom ds (ds.drop i) i=R)∧Hid (Below w.heap.size w wr))
  case atStart=>exact ⟨0,rfl,by omega,HR,Lib.hid (Below.refl _ _)⟩
  case round=>
    obtain ⟨i,rfl,hk,Hl,HB⟩:=hrel
    by_cases hlt:i<ds.length
    · obtain ⟨k,rfl⟩: ∃k,gk=k+1:=⟨gk - 1,by omega⟩
      obtain ⟨d,hd⟩:=at_some hlt
      have hl2:=Hl.out
      rw [drop_at hd,mrFrom] at hl2
      have HR2:=Lib.hid (HK.out.below HB.out)
      obtain ⟨A',cap',hv,h2⟩:=HR2.out
      obtain ⟨ad,rfl,hg,hc⟩:=h2 (by omega)
      obtain ⟨rfl, -,rfl⟩:=Value.slice.inj hv
      obtain ⟨-,c1,c2⟩:=hc i d hd
      have n1:decide ((i:Int)<(ds.length:Int))=true:=by simpa using hlt
      have n2:(i:Int)<(ds.length:Int):=by omega
      have e3:wrap64 ((i:Int)+1)=(i:Int)+1:=IntWalk.wrap64_in _ (by omega)
      clear hc h2 hv Hl hd
      replace c2:wr.cell? ⟨(ad.add (i*2)).block,(ad.add (i*2)).off+1,none⟩=some (strOf d.2):=c2
      have hend: ∀W2,Below wr.heap.size wr W2→Below w.heap.size w W2:=fun W2 hb=>below_step HB.out hb
      by_cases g1:1≤d.1
      · have d1:decide (d.1<1)=false:=by simp;omega
        rw [decide_eq_true g1,Bool.true_and] at hl2
        by_cases g2:d.2.length≤40
        · have d2:decide ((40:Int)<(d.2.length:Int))=false:=by simp;omega
          rw [decide_eq_true g2,Bool.true_and] at hl2
          by_cases g3:placeZ d.1 ds 0=(i:Int)
          · have d3:(placeZ d.1 ds 0==(i:Int))=true:=by simpa using g3
            rw [decide_eq_true g3,Bool.true_and] at hl2
            have HL:=Lib.hid hl2
            clear hl2 g1 g2 g3
            go_wp2_with fail
            refine (place_calls _ ds _ hl _ HR2.out).mono ?_
            rintro e1 W1 ⟨rfl,hb1⟩
            have HB1:=Lib.hid (hend _ hb1);clear hb1
            go_wp2_with fail
            go_roundg k
            case measure=>omega
            case rel=>exact ⟨i+1,by first|rfl|(rw [e3];rfl),by omega,HL,HB1⟩
          · have d3:(placeZ d.1 ds 0==(i:Int))=false:=by simpa using g3
            rw [decide_eq_false g3,Bool.false_and] at hl2
            have HL:=Lib.hid hl2
            clear hl2 g1 g2 g3
            go_wp2_with fail
            refine (place_calls _ ds _ hl _ HR2.out).mono ?_
            rintro e1 W1 ⟨rfl,hb1⟩
            have HB1:=Lib.hid (hend _ hb1);clear hb1
            go_wp2_with fail
            go_ret
            exact ⟨by rw [←HL.out];rfl,HB1.out⟩
        · have d2:decide ((40:Int)<(d.2.length:Int))=true:=by simp;omega
          rw [decide_eq_false g2,Bool.false_and] at hl2
          have HL:=Lib.hid hl2
          clear hl2 g1 g2
          go_wp2_with fail
          go_ret
          exact ⟨by rw [←HL.out];rfl,HB.out⟩
      · have d1:decide (d.1<1)=true:=by simp;omega
        rw [decide_eq_false g1,Bool.false_and] at hl2
        have HL:=Lib.hid hl2
        clear hl2 g1
        go_wp2_with fail
        go_ret
        exact ⟨by rw [←HL.out];rfl,HB.out⟩
    · have hi:i=ds.length:=by omega
      have hl2:=Hl.out
      rw [hi,List.drop_length,mrFrom] at hl2
      have HL:=Lib.hid hl2
      have n1:decide ((i:Int)<(ds.length:Int))=false:=by simpa using hlt
      clear hl2 Hl
      go_wp2_with fail
      go_ret
      exact ⟨by rw [←HL.out];first|rfl|(show Ending.returned (Value.bool (decide ((ds.length:Int)≤10)))=_;congr 2;exact decide_eq_decide.2 (by omega)),HB.out⟩
theorem few_calls (v : Value) (ds : Docs) (hl : ds.length ≤ maxLen) (w : World) (h : Rd2 w v ds) :
    Calls Tryz.prog 15 #[v] w fun e w'=>e= .returned (.bool (few ds))∧Below w.heap.size w w':=by
  obtain ⟨R,hR⟩: ∃R,few ds=R:=⟨_,rfl⟩
  rw [hR]
  have HR:=Lib.hid hR;clear hR
  have HK:=Lib.hid h
  have HM:=Lib.hid hl
  clear hl
  obtain ⟨A,cap,rfl,h2⟩:=h
  clear h2
  go_enter Tryz.func15,Tryz.ntmps15
  go_wp2_with fail
  go_loopg [3,7] ds.length (fun k p q wr=> ∃(i:Nat) (n:Int),p= .int .i64 n∧q= .int .i64 (i:Int)∧i+k=ds.length∧Hid (sumW (ds.drop i) n=sumW ds 0)∧Below w.heap.size w wr)
  case atStart=>exact ⟨0,0,rfl,rfl,by omega,Lib.hid rfl,Below.refl _ _⟩
  case round=>
    obtain ⟨i,n,rfl,rfl,hk,Hl,hB⟩:=hrel
    by_cases hlt:i<ds.length
    · obtain ⟨k,rfl⟩: ∃k,gk=k+1:=⟨gk - 1,by omega⟩
      obtain ⟨d,hd⟩:=at_some hlt
      have hl2:=Hl.out
      rw [drop_at hd,sumW] at hl2
      obtain ⟨A',cap',hv,h2⟩:=HK.out.below hB
      obtain ⟨ad,rfl,hg,hc⟩:=h2 (by omega)
      obtain ⟨rfl, -,rfl⟩:=Value.slice.inj hv
      obtain ⟨-,c1,c2⟩:=hc i d hd
      have n1:decide ((i:Int)<(ds.length:Int))=true:=by simpa using hlt
      have n2:(i:Int)<(ds.length:Int):=by omega
      have e3:wrap64 ((i:Int)+1)=(i:Int)+1:=wrap_len HM.out hlt
      replace c2:wr.cell? ⟨(ad.add (i*2)).block,(ad.add (i*2)).off+1,none⟩=some (strOf d.2):=c2
      have HL:=Lib.hid hl2
      clear hc c1 h2 hv Hl hd hl2
      go_wp2_with fail
      go_roundg k
      case measure=>omega
      case rel=>exact ⟨i+1,_,rfl,by first|rfl|(rw [e3];rfl),by omega,HL,hB⟩
    · have hi:i=ds.length:=by omega
      have hl2:=Hl.out
      rw [hi,List.drop_length,sumW] at hl2
      have n1:decide ((i:Int)<(ds.length:Int))=false:=by simpa using hlt
      have HB:=Lib.hid hB
      clear Hl hB
      have hr:=HR.out
      unfold few at hr
      rw [←hl2] at hr
      by_cases g1:ds.length≤12
      · have d1:decide ((ds.length:Int)≤12)=true:=by simp;omega
        rw [decide_eq_true g1,Bool.true_and] at hr
        by_cases g2:n≤60
        · have d2:decide (n≤60)=true:=by simpa using g2
          rw [d2,Bool.true_and] at hr
          have hl5:=Lib.hid (show ds.length≤50000 by omega)
          have HR2:=Lib.hid hr
          clear g1 g2 hl2 hr
          go_wp2_with fail
          refine (mright_calls _ ds hl5.out _ (HK.out.below HB.out)).mono ?_
          rintro e1 W1 ⟨rfl,hb1⟩
          have HB1:=Lib.hid (below_step HB.out hb1);clear hb1
          go_wp2_with fail
          go_ret
          exact ⟨by rw [←HR2.out];rfl,HB1.out⟩
        · have d2:decide (n≤60)=false:=by simpa using g2
          rw [d2,Bool.false_and] at hr
          have HR2:=Lib.hid hr
          clear g1 g2 hl2 hr
          go_wp2_with fail
          go_ret
          exact ⟨by rw [←HR2.out];rfl,HB.out⟩
      · have d1:decide ((ds.length:Int)≤12)=false:=by simp;omega
        rw [decide_eq_false g1,Bool.false_and] at hr
        have HR2:=Lib.hid hr
        clear g1 hl2 hr
        go_wp2_with fail
        go_ret
        exact ⟨by rw [←HR2.out];rfl,HB.out⟩
end
section
open Go.RowKit
attribute [local go_sem ↓] Go.wp_at_zero Go.wp_at_succ
attribute [local go_sem] str_len
variable {ap : Value} {s : Ar} {O : Nat → Prop}
theorem cell_same {w w':World} {a:Addr} (h:w'.heap[a.block]? =w.heap[a.block]?):w'.cell? a=w.cell? a:=by
 unfold World.cell?
 rw [h]
theorem Rd2.fr {w w':World} {X O O':Nat→Prop} {ad:Addr} {cap:Nat} {ds:List (Int×List UInt8)} (h:Rd2 w (.slice (some ad) ds.length cap) ds) (hF:Fr X O O' w w') (h1: ¬O ad.block) (h2: ¬X ad.block):Rd2 w' (.slice (some ad) ds.length cap) ds:=by
 obtain ⟨A,c,hv,hc⟩:=h
 obtain ⟨rfl, -,rfl⟩:=Value.slice.inj hv
 refine ⟨_,_,rfl,fun hn=> ?_⟩
 obtain ⟨ad',ha,hlt,hc⟩:=hc hn
 obtain rfl:=Option.some.inj ha
 have hb:=hF.block _ hlt h1 h2
 refine ⟨ad,rfl,Nat.lt_of_lt_of_le hlt hF.size,fun i d hd=> ?_⟩
 obtain ⟨c0,c1,c2⟩:=hc i d hd
 have hb':w'.heap[(ad.add (i*2)).block]? =w.heap[(ad.add (i*2)).block]? :=by rw [block_of_add];exact hb
 exact ⟨Nat.lt_of_lt_of_le c0 hF.size,(cell_same hb').trans c1,(cell_same (by exact hb')).trans c2⟩
theorem below_fr {w W1 W2:World} {O O':Nat→Prop} (hb:Below w.heap.size w W1) (hF:Fr noX O O' W1 W2) (hO: ∀b,O b→w.heap.size≤b):Below w.heap.size w W2:=
 ⟨hF.os.trans hb.os,hF.tape.trans hb.tape,hF.output.trans hb.output,Nat.le_trans hb.size hF.size,fun k hk=>(hF.block k (Nat.lt_of_lt_of_le hk hb.size) (fun h=>by have:=hO k h;omega) (fun h=>h)).trans (hb.block k hk)⟩
theorem bRows_ok {rate:Int}: ∀{l:List (Int×Int×Int)} {i:Int} {b b':Bst},bRows rate l i b=some b'→b'.ok=true→b.ok=true
 | [],i,b,b',h,ho=>by cases h;exact ho
 | x::l,i,b,b',h,ho=>by
  unfold bRows at h
  cases hb:b.ok with
  | true=>rfl
  | false=>rw [hb,if_neg (by decide)] at h;cases h;rw [hb] at ho;cases ho
theorem build_calls (rate:Int) (hr1:1≤rate) (hr2:rate≤1000) (ds:List (Int×List UInt8)) (ad:Addr) (cap:Nat) (hne:ds≠[]) (hrt:refRight (ds.map (·.2))=true) (w:World) (hD:Rd2 w (.slice (some ad) ds.length cap) ds) (hO: ¬O ad.block) (hA:AP w ap s O)
  (B1 B2:Bst) (h1:bRows rate (rowsM ds) 0 ⟨s,true,Parts.zero,0⟩=some B1) (ho1:B1.ok=true) (h2:bTable (docsM ds) B1=some B2) (ho2:B2.ok=true) (root:Int) (s':Ar) (h3:bEnd B2=some (root,true,s')):
  Calls Tryz.prog 19 #[ap, .int .i64 rate, .slice (some ad) ds.length cap] w fun e w'=>e= .returned (.tuple #[.int .i64 root, .bool true])∧Did noX ap s' O w w':=by
 have hlen:0<ds.length:=List.length_pos_iff.2 hne
 obtain ⟨hn10,h40⟩:=right_len hrt
 rw [List.length_map] at hn10
 have d0:((ds.length:Int)==0)=false:=by rw [beq_eq_false_iff_ne];omega
 have HD:=Lib.hid hD;have H1:=Lib.hid h1;have H2:=Lib.hid h2;have H3:=Lib.hid h3;have H40:=Lib.hid h40;have HO:=Lib.hid hO
 clear hD h1 h2 h3 h40 hne
 obtain ⟨ts,hts⟩: ∃ts,ts=ds.map (·.2):=⟨_,rfl⟩
 have htl:ts.length=ds.length:=by rw [hts,List.length_map]
 rw [←hts] at hrt
 have H40':Hid (∀t,t∈ts→t.length≤50000):=Lib.hid (fun t ht=>by
  obtain ⟨i,hi,rfl⟩:=List.getElem_of_mem ht
  have:=(right_len hrt).2 i
  rw [getD_at (List.getElem?_eq_getElem hi)] at this
  omega)
 have Hts:=Lib.hid hts;clear hts
 obtain ⟨q,rfl⟩:=hA.ptr
 go_enter Tryz.func19,Tryz.ntmps19
 go_wp2_with fail
 refine cg fun V0 hV_V0=> ?_
 have hF:=Fr.refl (noX) O w
 refine nnf0 hV_V0 hA hF ?_;clear hA hF;intro hn_V0 z_V0 hA hF
 obtain ⟨ka,c_ka,o_ka,l_kaV0⟩:=nN hn_V0 hV_V0 (w.heap.size)
 clear hV_V0 hn_V0
 have hAV0:=hA
 refine (texts_calls _ ds (by omega) _ (HD.out.fr hF HO.out (fun h=>h))).mono ?_
 rintro e_W0 W0 ⟨v0,rfl,hown0,hb_W0⟩
 refine bef1 hb_W0 hA hF ka ?_;clear hb_W0 hA hF ka c_ka;intro z_W0 hA hF ka c_ka
 have hge0: ∀g,v0.ownBlock=some g→V0.heap.size≤g:=fun g hg=>(hown0.lt g hg).1
 obtain ⟨hl0,A0,c0,rfl,hx0⟩:=Rk.of_own hown0
 obtain ⟨g0,cs0,T0,rfl,kx,hcs0⟩:=hx0 (by omega)
 have o_kx: ¬O g0:=fun h=>by have:=hAV0.lt h;have:=hge0 g0 rfl;omega
 have HX0:Hid (∀V:World,V.heap[g0]? =some (.cells cs0 T0 (0,0))→Rk V 1 (.slice (some ⟨g0,0,none⟩) ds.length c0) ts.length (ts.map strOf)):=Lib.hid (fun V hV=>by
  rw [Hts.out,List.length_map]
  exact ⟨hl0,_,_,rfl,fun _=>⟨g0,cs0,T0,rfl,hV,hcs0⟩⟩)
 clear hAV0 hown0 hge0 hl0 hx0 hcs0
 have c_kx:=f3 kx;have l_kxW0:=lt_of kx
 go_wp2_with fail
 refine cg fun V1 hV_V1=> ?_
 refine nef2 hV_V1 hA hF ka kx ?_;clear hA hF ka kx c_ka c_kx;intro z_V1 hA hF ka c_ka kx c_kx
 clear hV_V1
 have hAV1:=hA
 refine (sorted_calls _ ts (by omega) _ (HX0.out _ kx)).mono ?_
 rintro e_W1 W1 ⟨v1,rfl,hown1,hb_W1⟩
 refine bef2 hb_W1 hA hF ka kx ?_;clear hb_W1 hA hF ka kx c_ka c_kx;intro z_W1 hA hF ka c_ka kx c_kx
 have hge1: ∀g,v1.ownBlock=some g→V1.heap.size≤g:=fun g hg=>(hown1.lt g hg).1
 have hRpos:0<(refSorted ts).length:=by
  unfold refSorted;rw [if_pos hrt,refFold_length]
  obtain ⟨n,hn⟩: ∃n,ts.length=n+1:=⟨ts.length - 1,by omega⟩
  rw [hn,←upto_next,upto_snoc];simp
 obtain ⟨hl1,A1,c1,rfl,hx1⟩:=Rk.of_own hown1
 obtain ⟨g1,cs1,T1,rfl,kr,hcs1⟩:=hx1 hRpos
 have o_kr: ¬O g1:=fun h=>by have:=hAV1.lt h;have:=hge1 g1 rfl;omega
 have hrows:Hid (∀(i:Nat) (r:Nat×Nat),(refSorted ts)[i]? =some r→cs1[i*2]? =some (Value.int .i64 (r.1:Int))∧cs1[i*2+1]? =some (Value.int .i64 (r.2:Int))):=Lib.hid (fun (i:Nat) (r:Nat×Nat) hr=>by
  have hi:=(List.getElem?_eq_some_iff.1 hr).1
  exact ⟨(hcs1 _ (by omega)).trans (rowCells_at hr).1,(hcs1 _ (by omega)).trans (rowCells_at hr).2⟩)
 clear hAV1 hown1 hge1 hl1 hx1 hcs1
 have c_kr:=f3 kr;have l_krW1:=lt_of kr
 go_wp2_with fail
 refine cg fun V2 hV_V2=> ?_
 refine nef3 hV_V2 hA hF ka kx kr ?_;clear hA hF ka kx kr c_ka c_kx c_kr;intro z_V2 hA hF ka c_ka kx c_kx kr c_kr
 clear hV_V2
 have hAV2:=hA
 refine (symbols_calls _ ts (by omega) H40'.out _ (HX0.out _ kx)).mono ?_
 rintro e_W2 W2 ⟨v2,rfl,hown2,hb_W2⟩
 refine bef3 hb_W2 hA hF ka kx kr ?_;clear hb_W2 hA hF ka kx kr c_ka c_kx c_kr;intro z_W2 hA hF ka c_ka kx c_kx kr c_kr
 have hge2: ∀g,v2.ownBlock=some g→V2.heap.size≤g:=fun g hg=>(hown2.lt g hg).1
 obtain ⟨hl2,A2,c2,rfl,hx2⟩:=Rk.of_own hown2
 obtain ⟨g2,cs2,T2,rfl,ks,hcs2⟩:=hx2 hRpos
 have o_ks: ¬O g2:=fun h=>by have:=hAV2.lt h;have:=hge2 g2 rfl;omega
 have hsyms:Hid (∀(i:Nat) (r:Nat×Nat),(refSorted ts)[i]? =some r→cs2[i]? =some (Value.int .i64 (symOf ts r))):=Lib.hid (fun (i:Nat) (r:Nat×Nat) hr=>by
  have hi:=(List.getElem?_eq_some_iff.1 hr).1
  refine (hcs2 _ (by omega)).trans ?_
  unfold intCells;rw [List.getElem?_map,List.getElem?_map,hr];rfl)
 clear hAV2 hown2 hge2 hl2 hx2 hcs2
 have c_ks:=f3 ks;have l_ksW2:=lt_of ks
 have hl2:=lt_of ks
 have hl1:=lt_of kr
 go_wp2_with fail
 refine wg fun V3 hV_V3=> ?_
 refine nnf3 hV_V3 hA hF ka kr ks ?_;clear hA hF ka kr ks c_ka c_kx c_kr c_ks kx;intro hn_V3 z_V3 hA hF ka c_ka kr c_kr ks c_ks
 obtain ⟨kp,c_kp,o_kp,l_kpV3⟩:=nN hn_V3 hV_V3 (W2.heap.size)
 obtain ⟨kt,c_kt,o_kt,l_ktV3⟩:=nN hn_V3 hV_V3 (W2.heap.size+1)
 clear hV_V3 hn_V3
 obtain ⟨R,hR⟩: ∃R,R=refSorted ts:=⟨_,rfl⟩
 rw [←hR] at hrows hsyms hRpos
 have hsm:R.length≤500:=by rw [hR];exact sorted_small ts
 have hlt1: ∀(i:Nat) (r:Nat×Nat),R[i]? =some r→ ∃d,ds[r.1]? =some d∧(rowsM ds)[i]? =some (d.1,(r.2:Int),symOf ts r):=by
  intro i r hr
  obtain ⟨t,ht, -⟩:=sorted_valid (hR▸List.mem_of_getElem? hr)
  have h1:=(List.getElem?_eq_some_iff.1 ht).1
  obtain ⟨d,hd⟩:=at_some (show r.1<ds.length by omega)
  refine ⟨d,hd,?_⟩
  unfold rowsM
  rw [←Hts.out,←hR,List.getElem?_map,hr]
  simp [List.getD,hd]
 have hLlen:(rowsM ds).length=R.length:=by unfold rowsM;rw [←Hts.out,←hR,List.length_map]
 have Hlt1:=Lib.hid hlt1;have HR:=Lib.hid hR
 simp only [←hR]
 clear hlt1 hR
 have hneq:g1≠W2.heap.size∧g1≠W2.heap.size+1∧g2≠W2.heap.size∧g2≠W2.heap.size+1∧w.heap.size≠W2.heap.size∧w.heap.size≠W2.heap.size+1∧w.heap.size<W2.heap.size:=by
  have:=lt_of ka
  omega
 obtain ⟨ne1,ne2,ne3,ne4,ne5,ne6,hww⟩:=hneq
 have hY: ∀x,twoX W2.heap.size (W2.heap.size+1) x→w.heap.size≤x:=by
  intro x hx
  rcases hx with rfl|rfl<;>omega
 have hdoc:Hid (Rd2 V3 (.slice (some ad) ds.length cap) ds):=Lib.hid (HD.out.fr hF HO.out (fun h=>h))
 have HF3:=Lib.hid hF
 go_loopg [14,40] R.length (fun k p1 p2 wr=> ∃(i:Nat) (st:Bst) (O':Nat→Prop),p1= .int .i64 st.n∧p2= .int .i64 (i:Int)∧i+k=R.length∧AP wr (.pointer q) st.s O'∧Hid (Fr noX O O' w wr)
  ∧wr.heap[W2.heap.size]? =some (.cells #[.int .i64 st.p.wave, .int .i64 st.p.marks, .int .i64 st.p.spots, .int .i64 st.p.table] 52 (0,0))∧wr.heap[W2.heap.size+1]? =some (.cells #[.bool st.ok] 4 (0,0))∧wr.heap[w.heap.size]? =some (.cells #[.pointer q] 26 (0,0))
  ∧wr.heap[g1]? =some (.cells cs1 T1 (0,0))∧wr.heap[g2]? =some (.cells cs2 T2 (0,0))∧ ¬O' (W2.heap.size)∧ ¬O' (W2.heap.size+1)∧ ¬O' w.heap.size∧ ¬O' g1∧ ¬O' g2∧ ¬O' ad.block∧Hid (Rd2 wr (.slice (some ad) ds.length cap) ds)∧Hid (bRows rate ((rowsM ds).drop i) i st=some B1))
 case atStart=>exact ⟨0,_,O,rfl,rfl,by omega,hA,HF3,kp,kt,ka,kr,ks,o_kp,o_kt,o_ka,o_kr,o_ks,HO.out,hdoc,H1⟩
 case round=>
  clear ka kr ks kp kt c_ka c_kr c_ks c_kp c_kt hA hF hdoc HF3 o_kp o_kt o_ka o_kr o_ks
  obtain ⟨i,st,O1,rfl,rfl,hk,hA,HF,kp,kt,ka,kr,ks,o_kp,o_kt,o_ka,o_kr,o_ks,oD,hdoc,Hb⟩:=hrel
  have hok:=bRows_ok Hb.out ho1
  by_cases hlt:i<R.length
  ·
   obtain ⟨k,rfl⟩: ∃k,gk=k+1:=⟨gk - 1,by omega⟩
   obtain ⟨r,hr⟩:=at_some hlt
   obtain ⟨d,hd,hx⟩:=Hlt1.out i r hr
   have hb:=Hb.out
   rw [drop_at hx] at hb
   unfold bRows at hb
   rw [hok,if_pos rfl] at hb
   obtain ⟨st2,hst2,hb2⟩:=Option.bind_eq_some_iff.1 hb
   unfold bStep at hst2
   obtain ⟨r1,hr1',hst2⟩:=Option.bind_eq_some_iff.1 hst2
   dsimp only at hr1' hst2
   obtain ⟨r2,hr2',hst2⟩:=Option.bind_eq_some_iff.1 hst2
   obtain ⟨t1,ht1⟩: ∃t,nextA st.ok st.p.wave r1=t:=⟨_,rfl⟩
   rw [ht1] at hr2' hst2
   obtain ⟨t2,ht2⟩: ∃t,nextA t1.2.1 st.p.marks r2=t:=⟨_,rfl⟩
   rw [ht2] at hst2
   have Hr1:=Lib.hid hr1';have Hr2:=Lib.hid hr2';have Hst2:=Lib.hid hst2;have Hb2:=Lib.hid hb2;have Ht1:=Lib.hid ht1;have Ht2:=Lib.hid ht2
   obtain ⟨rc1,rc2⟩:=hrows.out i r hr
   have rc3:=hsyms.out i r hr
   have n1:decide ((i:Int)<(R.length:Int))=true:=by simpa using hlt
   have n2:(i:Int)<(R.length:Int):=by omega
   have E3:=Lib.hid (step_wrap i 500 (by omega) (by omega))
   have hd1:=(List.getElem?_eq_some_iff.1 hd).1
   have n3:(r.1:Int)<(ds.length:Int):=by omega
   have Hd:=Lib.hid hd;have Hlt:=Lib.hid hlt
   clear hb hr1' hr2' hst2 hb2 ht1 ht2 hr hx hd hlt Hb hd1
   have hF:=Fr.refl ((twoX W2.heap.size (W2.heap.size+1))) O1 wr
   have c_ka:=f3 ka;have l_kawr:=lt_of ka
   have c_kr:=f3 kr;have l_krwr:=lt_of kr
   have c_ks:=f3 ks;have l_kswr:=lt_of ks
   have c_kp:=f3 kp;have l_kpwr:=lt_of kp
   have c_kt:=f3 kt;have l_ktwr:=lt_of kt
   go_wp2_with fail
   refine wg fun V4 hV_V4=> ?_
   refine nef5 hV_V4 hA hF ka kr ks kp kt ?_;clear hA hF ka kr ks kp kt c_ka c_kr c_ks c_kp c_kt;intro z_V4 hA hF ka c_ka kr c_kr ks c_ks kp c_kp kt c_kt
   clear hV_V4
   refine dr (fun v=>Sm v V4 (w.heap.size)∧Sm v V4 (g1)∧Sm v V4 (g2)∧Sm v V4 (W2.heap.size)∧Sm v V4 (W2.heap.size+1)∧(V4.heap.size≤v.heap.size)∧True) ⟨fun _=>rfl,fun _=>rfl,fun _=>rfl,fun _=>rfl,fun _=>rfl,Nat.le_refl _,trivial⟩ fun V4d hV_V4d hHeld=> ?_
   have v_ka:=c_ka.1;have v_kr:=c_kr.1;have v_ks:=c_ks.1;have v_kp:=c_kp.1;have v_kt:=c_kt.1
   refine nef5 hV_V4d hA hF ka kr ks kp kt ?_;clear hA hF ka kr ks kp kt c_ka c_kr c_ks c_kp c_kt;intro z_V4d hA hF ka c_ka kr c_kr ks c_ks kp c_kp kt c_kt
   clear hV_V4d
   refine ta 0 hHeld ?_
   refine ta 1 hHeld ?_
   refine ta 2 hHeld ?_
   refine ta 3 hHeld ?_
   refine ta 4 hHeld ?_
   refine ta 5 hHeld ?_
   refine ta 6 hHeld ?_
   refine ta 7 hHeld ?_
   refine rd 8 rfl fun K hK=> ?_
   go_simp
   try simp only [IntWalk.i64_left]
   refine wC (wInsert_calls st.s O1 _ _ _ r1 Hr1.out _ hA) fun W5 O2 hA_W5 hf_W5=> ?_
   refine wif5 hf_W5 hF ka o_ka kr o_kr ks o_ks kp o_kp kt o_kt ?_;clear hA hF ka o_ka kr o_kr ks o_ks kp o_kp kt o_kt c_ka c_kr c_ks c_kp c_kt hf_W5;intro z_W5 hF ka c_ka o_ka kr c_kr o_kr ks c_ks o_ks kp c_kp o_kp kt c_kt o_kt;have hA:=hA_W5;clear hA_W5
   refine ho hK ⟨vv c_ka v_ka,vv c_kr v_kr,vv c_ks v_ks,vv c_kp v_kp,vv c_kt v_kt,by omega,trivial⟩ fun hHeld=> ?_
   clear hK K
   refine ta 9 hHeld ?_
   refine ta 10 hHeld ?_
   refine ta 11 hHeld ?_
   refine rd 12 rfl fun K hK=> ?_
   go_simp
   refine ho hK hHeld fun hHeld=> ?_
   clear hK K
   refine rd 13 rfl fun K hK=> ?_
   go_simp
   refine ho hK hHeld fun hHeld=> ?_
   clear hK K
   refine wd ?_
   go_wp2_with fail
   refine cg fun V5 hV_V5=> ?_
   refine nef5 hV_V5 hA hF ka kr ks kp kt ?_;clear hA hF ka kr ks kp kt c_ka c_kr c_ks c_kp c_kt;intro z_V5 hA hF ka c_ka kr c_kr ks c_ks kp c_kp kt c_kt
   clear hV_V5
   refine tC (next_t (W2.heap.size+1) w.heap.size st.ok st.p.wave r1 t1 Ht1.out _ hA kt ka o_kt o_ka ne6) fun W6 O3 hT hf=> ?_
   refine tx4 hT.hA hT.blk hT.no hf hF ka o_ka kr o_kr ks o_ks kp o_kp ?_;clear hA hF kt c_kt o_kt ka o_ka kr o_kr ks o_ks kp o_kp c_ka c_kr c_ks c_kp hT hf;intro z_W6 hA hF kt c_kt o_kt ka c_ka o_ka kr c_kr o_kr ks c_ks o_ks kp c_kp o_kp
   go_wp2_with fail
   refine cg fun V6 hV_V6=> ?_
   refine nef5 hV_V6 hA hF ka kr ks kp kt ?_;clear hA hF ka kr ks kp kt c_ka c_kr c_ks c_kp c_kt;intro z_V6 hA hF ka c_ka kr c_kr ks c_ks kp c_kp kt c_kt
   clear hV_V6
   have hadlt:ad.block<w.heap.size:=by
    obtain ⟨A,c,hv,hc⟩:=HD.out
    obtain ⟨rfl, -,rfl⟩:=Value.slice.inj hv
    obtain ⟨ad',ha,hlt, -⟩:=hc hlen
    obtain rfl:=Option.some.inj ha
    exact hlt
   have hX: ¬twoX W2.heap.size (W2.heap.size+1) ad.block:=by unfold twoX;omega
   by_cases hm:(r.2:Int) % rate=0
   ·
    have m1:((r.2:Int) % rate==0)=true:=by rw [hm];rfl
    have hst:=Hst2.out
    rw [if_pos hm] at hst
    obtain ⟨r3,hr3',hst⟩:=Option.bind_eq_some_iff.1 hst
    obtain ⟨u,hu,hst⟩:=Option.map_eq_some_iff.1 hst
    obtain ⟨t3,ht3⟩: ∃t,nextA t2.2.1 st.p.spots r3=t:=⟨_,rfl⟩
    rw [ht3] at hu hst
    have Hr3:=Lib.hid hr3';have Hu:=Lib.hid hu;have Hst:=Lib.hid hst;have Ht3:=Lib.hid ht3;have Hm:=Lib.hid hm
    have e2:decide ((r.2:Int) % rate=0)=((r.2:Int) % rate==0):=rfl
    have Hr2':Hid (bInsert t1.2.2 st.p.marks (i:Int) ((r.2:Int) % rate==0)=some r2):=Lib.hid Hr2.out
    rw [m1] at Hr2'⊢
    clear hst hr3' hu ht3 hm e2
    refine wC (bInsert_calls (s:=t1.2.2) _ _ _ r2 Hr2'.out _ hA) fun W7 O4 hA_W7 hf_W7=> ?_
    refine wif5 hf_W7 hF ka o_ka kr o_kr ks o_ks kp o_kp kt o_kt ?_;clear hA hF ka o_ka kr o_kr ks o_ks kp o_kp kt o_kt c_ka c_kr c_ks c_kp c_kt hf_W7;intro z_W7 hF ka c_ka o_ka kr c_kr o_kr ks c_ks o_ks kp c_kp o_kp kt c_kt o_kt;have hA:=hA_W7;clear hA_W7
    go_wp2_with fail
    refine cg fun V7 hV_V7=> ?_
    refine nef5 hV_V7 hA hF ka kr ks kp kt ?_;clear hA hF ka kr ks kp kt c_ka c_kr c_ks c_kp c_kt;intro z_V7 hA hF ka c_ka kr c_kr ks c_ks kp c_kp kt c_kt
    clear hV_V7
    refine tC (next_t (W2.heap.size+1) w.heap.size t1.2.1 st.p.marks r2 t2 Ht2.out _ hA kt ka o_kt o_ka ne6) fun W8 O5 hT hf=> ?_
    refine tx4 hT.hA hT.blk hT.no hf hF ka o_ka kr o_kr ks o_ks kp o_kp ?_;clear hA hF kt c_kt o_kt ka o_ka kr o_kr ks o_ks kp o_kp c_ka c_kr c_ks c_kp hT hf;intro z_W8 hA hF kt c_kt o_kt ka c_ka o_ka kr c_kr o_kr ks c_ks o_ks kp c_kp o_kp
    go_wp2_with fail
    refine wg fun V8 hV_V8=> ?_
    refine nef5 hV_V8 hA hF ka kr ks kp kt ?_;clear hA hF ka kr ks kp kt c_ka c_kr c_ks c_kp c_kt;intro z_V8 hA hF ka c_ka kr c_kr ks c_ks kp c_kp kt c_kt
    clear hV_V8
    obtain ⟨c_d_lt,c_d, -⟩:(ad.add (r.1*2)).block<V8.heap.size∧V8.cell? (ad.add (r.1*2))=some (.int .i64 d.1)∧True:=by
     obtain ⟨A,c,hv,hc⟩:=hdoc.out.fr hF oD hX
     obtain ⟨rfl, -,rfl⟩:=Value.slice.inj hv
     obtain ⟨ad',ha,hlt,hc⟩:=hc hlen
     obtain rfl:=Option.some.inj ha
     obtain ⟨q1,q2, -⟩:=hc r.1 d Hd.out
     exact ⟨q1,q2,trivial⟩
    have c_d_no: ¬O5 (ad.add (r.1*2)).block:=by
     rw [block_of_add]
     exact hF.not_own (by have:=hF.size;omega) oD
    refine dr (fun v=>(v.cell? (ad.add (r.1*2))=some (.int .i64 d.1))∧Sm v V8 (w.heap.size)∧Sm v V8 (g1)∧Sm v V8 (g2)∧Sm v V8 (W2.heap.size)∧Sm v V8 (W2.heap.size+1)∧(V8.heap.size≤v.heap.size)∧True) ⟨c_d,fun _=>rfl,fun _=>rfl,fun _=>rfl,fun _=>rfl,fun _=>rfl,Nat.le_refl _,trivial⟩ fun V8d hV_V8d hHeld=> ?_
    have v_ka:=c_ka.1;have v_kr:=c_kr.1;have v_ks:=c_ks.1;have v_kp:=c_kp.1;have v_kt:=c_kt.1
    replace c_d:V8d.cell? (ad.add (r.1*2))=some (.int .i64 d.1):=by rw [hV_V8d];exact c_d
    replace c_d_lt:((ad.add (r.1*2))).block<V8d.heap.size:=by rw [hV_V8d];exact c_d_lt
    refine nef5 hV_V8d hA hF ka kr ks kp kt ?_;clear hA hF ka kr ks kp kt c_ka c_kr c_ks c_kp c_kt;intro z_V8d hA hF ka c_ka kr c_kr ks c_ks kp c_kp kt c_kt
    clear hV_V8d
    refine ta 0 hHeld ?_
    refine ta 1 hHeld ?_
    refine ta 2 hHeld ?_
    refine ta 3 hHeld ?_
    refine ta 4 hHeld ?_
    refine ta 5 hHeld ?_
    refine ta 6 hHeld ?_
    refine ta 7 hHeld ?_
    refine ta 8 hHeld ?_
    refine ta 9 hHeld ?_
    refine ta 10 hHeld ?_
    refine ta 11 hHeld ?_
    refine ta 12 hHeld ?_
    refine ta 13 hHeld ?_
    refine ta 14 hHeld ?_
    refine ta 15 hHeld ?_
    refine ta 16 hHeld ?_
    refine ta 17 hHeld ?_
    refine ta 18 hHeld ?_
    refine rd 19 rfl fun K hK=> ?_
    go_simp
    try simp only [IntWalk.i64_left]
    refine wC (lInsert_calls (s:=t2.2.2) _ _ (d.1,(r.2:Int)) r3 Hr3.out _ hA) fun W9 O6 hA_W9 hf_W9=> ?_
    have q_ka:=hf_W9.keep ka o_ka (fun h=>h)
    have q_kr:=hf_W9.keep kr o_kr (fun h=>h)
    have q_ks:=hf_W9.keep ks o_ks (fun h=>h)
    have q_kp:=hf_W9.keep kp o_kp (fun h=>h)
    have q_kt:=hf_W9.keep kt o_kt (fun h=>h)
    replace o_ka:=hf_W9.not_own (lt_of ka) o_ka
    clear ka c_ka;have ka:=q_ka;clear q_ka
    have c_ka:=f3 ka;have l_kaW9:=lt_of ka
    replace o_kr:=hf_W9.not_own (lt_of kr) o_kr
    clear kr c_kr;have kr:=q_kr;clear q_kr
    have c_kr:=f3 kr;have l_krW9:=lt_of kr
    replace o_ks:=hf_W9.not_own (lt_of ks) o_ks
    clear ks c_ks;have ks:=q_ks;clear q_ks
    have c_ks:=f3 ks;have l_ksW9:=lt_of ks
    replace o_kp:=hf_W9.not_own (lt_of kp) o_kp
    clear kp c_kp;have kp:=q_kp;clear q_kp
    have c_kp:=f3 kp;have l_kpW9:=lt_of kp
    replace o_kt:=hf_W9.not_own (lt_of kt) o_kt
    clear kt c_kt;have kt:=q_kt;clear q_kt
    have c_kt:=f3 kt;have l_ktW9:=lt_of kt
    replace c_d:=(cell_same (hf_W9.block _ c_d_lt c_d_no (fun h=>h))).trans c_d
    clear c_d_lt c_d_no
    replace hF:=hF.trans hf_W9.widen
    have z_W9:=hf_W9.size
    clear hA hf_W9;have hA:=hA_W9;clear hA_W9
    refine ho hK ⟨c_d,vv c_ka v_ka,vv c_kr v_kr,vv c_ks v_ks,vv c_kp v_kp,vv c_kt v_kt,by omega,trivial⟩ fun hHeld=> ?_
    clear hK K
    refine ta 20 hHeld ?_
    refine ta 21 hHeld ?_
    refine ta 22 hHeld ?_
    refine rd 23 rfl fun K hK=> ?_
    go_simp
    refine ho hK hHeld fun hHeld=> ?_
    clear hK K
    refine rd 24 rfl fun K hK=> ?_
    go_simp
    refine ho hK hHeld fun hHeld=> ?_
    clear hK K
    refine wd ?_
    go_wp2_with fail
    refine cg fun V9 hV_V9=> ?_
    refine nef5 hV_V9 hA hF ka kr ks kp kt ?_;clear hA hF ka kr ks kp kt c_ka c_kr c_ks c_kp c_kt;intro z_V9 hA hF ka c_ka kr c_kr ks c_ks kp c_kp kt c_kt
    clear hV_V9
    refine tC (next_t (W2.heap.size+1) w.heap.size t2.2.1 st.p.spots r3 t3 Ht3.out _ hA kt ka o_kt o_ka ne6) fun W10 O7 hT hf=> ?_
    refine tx4 hT.hA hT.blk hT.no hf hF ka o_ka kr o_kr ks o_ks kp o_kp ?_;clear hA hF kt c_kt o_kt ka o_ka kr o_kr ks o_ks kp o_kp c_ka c_kr c_ks c_kp hT hf;intro z_W10 hA hF kt c_kt o_kt ka c_ka o_ka kr c_kr o_kr ks c_ks o_ks kp c_kp o_kp
    go_wp2_with fail
    refine cg fun V10 hV_V10=> ?_
    refine nef5 hV_V10 hA hF ka kr ks kp kt ?_;clear hA hF ka kr ks kp kt c_ka c_kr c_ks c_kp c_kt;intro z_V10 hA hF ka c_ka kr c_kr ks c_ks kp c_kp kt c_kt
    clear hV_V10
    refine wC (work_calls (s:=t3.2.2) 1073741824 u Hu.out _ hA) fun W11 O8 hA_W11 hf_W11=> ?_
    refine wif5 hf_W11 hF ka o_ka kr o_kr ks o_ks kp o_kp kt o_kt ?_;clear hA hF ka o_ka kr o_kr ks o_ks kp o_kp kt o_kt c_ka c_kr c_ks c_kp c_kt hf_W11;intro z_W11 hF ka c_ka o_ka kr c_kr o_kr ks c_ks o_ks kp c_kp o_kp kt c_kt o_kt;have hA:=hA_W11;clear hA_W11
    obtain rfl:=Hst.out
    have HF2:=Lib.hid (HF.out.trans_own hF hY)
    have hdoc2:=Lib.hid (hdoc.out.fr hF oD hX)
    have oD2:=hF.not_own (by have:=HF.out.size;omega) oD
    have HA2:=Lib.hid hA
    clear hF hdoc oD hA
    go_wp2_with fail
    go_roundg k
    case measure=>omega
    case rel=>exact ⟨i+1,_,O8,rfl,by first|rfl|(rw [E3.out];rfl),by omega,HA2.out,HF2,kp,kt,ka,kr,ks,o_kp,o_kt,o_ka,o_kr,o_ks,oD2,hdoc2,Lib.hid (by exact Hb2.out)⟩
   ·
    have m1:((r.2:Int) % rate==0)=false:=by rw [beq_eq_false_iff_ne];exact hm
    have hst:=Hst2.out
    rw [if_neg hm] at hst
    obtain ⟨u,hu,hst⟩:=Option.map_eq_some_iff.1 hst
    have Hu:=Lib.hid hu;have Hst:=Lib.hid hst;have Hm:=Lib.hid hm
    have Hr2':Hid (bInsert t1.2.2 st.p.marks (i:Int) ((r.2:Int) % rate==0)=some r2):=Lib.hid Hr2.out
    rw [m1] at Hr2'⊢
    clear hst hu hm
    refine wC (bInsert_calls (s:=t1.2.2) _ _ _ r2 Hr2'.out _ hA) fun W7 O4 hA_W7 hf_W7=> ?_
    refine wif5 hf_W7 hF ka o_ka kr o_kr ks o_ks kp o_kp kt o_kt ?_;clear hA hF ka o_ka kr o_kr ks o_ks kp o_kp kt o_kt c_ka c_kr c_ks c_kp c_kt hf_W7;intro z_W7 hF ka c_ka o_ka kr c_kr o_kr ks c_ks o_ks kp c_kp o_kp kt c_kt o_kt;have hA:=hA_W7;clear hA_W7
    go_wp2_with fail
    refine cg fun V7 hV_V7=> ?_
    refine nef5 hV_V7 hA hF ka kr ks kp kt ?_;clear hA hF ka kr ks kp kt c_ka c_kr c_ks c_kp c_kt;intro z_V7 hA hF ka c_ka kr c_kr ks c_ks kp c_kp kt c_kt
    clear hV_V7
    refine tC (next_t (W2.heap.size+1) w.heap.size t1.2.1 st.p.marks r2 t2 Ht2.out _ hA kt ka o_kt o_ka ne6) fun W8 O5 hT hf=> ?_
    refine tx4 hT.hA hT.blk hT.no hf hF ka o_ka kr o_kr ks o_ks kp o_kp ?_;clear hA hF kt c_kt o_kt ka o_ka kr o_kr ks o_ks kp o_kp c_ka c_kr c_ks c_kp hT hf;intro z_W8 hA hF kt c_kt o_kt ka c_ka o_ka kr c_kr o_kr ks c_ks o_ks kp c_kp o_kp
    go_wp2_with fail
    refine cg fun V8 hV_V8=> ?_
    refine nef5 hV_V8 hA hF ka kr ks kp kt ?_;clear hA hF ka kr ks kp kt c_ka c_kr c_ks c_kp c_kt;intro z_V8 hA hF ka c_ka kr c_kr ks c_ks kp c_kp kt c_kt
    clear hV_V8
    refine wC (work_calls (s:=t2.2.2) 1073741824 u Hu.out _ hA) fun W11 O8 hA_W11 hf_W11=> ?_
    refine wif5 hf_W11 hF ka o_ka kr o_kr ks o_ks kp o_kp kt o_kt ?_;clear hA hF ka o_ka kr o_kr ks o_ks kp o_kp kt o_kt c_ka c_kr c_ks c_kp c_kt hf_W11;intro z_W11 hF ka c_ka o_ka kr c_kr o_kr ks c_ks o_ks kp c_kp o_kp kt c_kt o_kt;have hA:=hA_W11;clear hA_W11
    obtain rfl:=Hst.out
    have HF2:=Lib.hid (HF.out.trans_own hF hY)
    have hdoc2:=Lib.hid (hdoc.out.fr hF oD hX)
    have oD2:=hF.not_own (by have:=HF.out.size;omega) oD
    have HA2:=Lib.hid hA
    clear hF hdoc oD hA
    go_wp2_with fail
    go_roundg k
    case measure=>omega
    case rel=>exact ⟨i+1,(⟨u.2,t2.2.1,⟨t1.1,t2.1,st.p.spots,st.p.table⟩,st.n⟩:Bst),O8,rfl,by first|rfl|(rw [E3.out];rfl),by omega,HA2.out,HF2,kp,kt,ka,kr,ks,o_kp,o_kt,o_ka,o_kr,o_ks,oD2,hdoc2,Lib.hid (by exact Hb2.out)⟩
  ·
   obtain rfl:i=R.length:=by omega
   have hb:=Hb.out
   rw [List.drop_of_length_le (by omega)] at hb
   unfold bRows at hb
   obtain rfl:=Option.some.inj hb
   have n1:decide ((R.length:Int)<(R.length:Int))=false:=by simp
   clear hb Hb hlt hk
   go_wp2_with fail
   go_loopg [126] ds.length (fun k p1 wr=> ∃(i:Nat) (st:Bst) (O':Nat→Prop),p1= .int .i64 (i:Int)∧i+k=ds.length∧AP wr (.pointer q) st.s O'∧Hid (Fr noX O O' w wr)
    ∧wr.heap[W2.heap.size]? =some (.cells #[.int .i64 st.p.wave, .int .i64 st.p.marks, .int .i64 st.p.spots, .int .i64 st.p.table] 52 (0,0))∧wr.heap[W2.heap.size+1]? =some (.cells #[.bool st.ok] 4 (0,0))∧wr.heap[w.heap.size]? =some (.cells #[.pointer q] 26 (0,0))
    ∧ ¬O' (W2.heap.size)∧ ¬O' (W2.heap.size+1)∧ ¬O' w.heap.size∧ ¬O' ad.block∧Hid (Rd2 wr (.slice (some ad) ds.length cap) ds)∧Hid (bTable ((docsM ds).drop i) st=some B2))
   case atStart=>exact ⟨0,_,O1,rfl,by omega,hA,HF,kp,kt,ka,o_kp,o_kt,o_ka,oD,hdoc,H2⟩
   case round=>
    clear hA HF kp kt ka kr ks o_kp o_kt o_ka o_kr o_ks oD hdoc
    obtain ⟨i,st,O1,rfl,hk,hA,HF,kp,kt,ka,o_kp,o_kt,o_ka,oD,hdoc,Hb⟩:=hrel
    have hadlt:ad.block<w.heap.size:=by
     obtain ⟨A,c,hv,hc⟩:=HD.out
     obtain ⟨rfl, -,rfl⟩:=Value.slice.inj hv
     obtain ⟨ad',ha,hlt, -⟩:=hc hlen
     obtain rfl:=Option.some.inj ha
     exact hlt
    have hX: ¬twoX W2.heap.size (W2.heap.size+1) ad.block:=by unfold twoX;omega
    by_cases hlt:i<ds.length
    ·
     obtain ⟨k,rfl⟩: ∃k,gk=k+1:=⟨gk - 1,by omega⟩
     obtain ⟨d,hd⟩:=at_some hlt
     have hx:(docsM ds)[i]? =some (d.1,(d.2.length:Int)):=by unfold docsM;rw [List.getElem?_map,hd];rfl
     have hb:=Hb.out
     rw [drop_at hx] at hb
     unfold bTable at hb
     obtain ⟨a,ha,hb⟩:=Option.bind_eq_some_iff.1 hb
     have hla:a.length≤50000:=by
      by_cases h:a.length≤50000
      ·
       exact h
      ·
       rw [if_neg h] at hb;cases hb
     rw [if_pos hla] at hb
     obtain ⟨r,hr,hb⟩:=Option.bind_eq_some_iff.1 hb
     obtain ⟨t,ht⟩: ∃t,nextA st.ok st.p.table r=t:=⟨_,rfl⟩
     rw [ht] at hb
     dsimp only at hr
     have Ha:=Lib.hid ha;have Hr:=Lib.hid hr;have Hb2:=Lib.hid hb;have Ht:=Lib.hid ht
     have m1:decide ((i:Int)<(ds.length:Int))=true:=by simpa using hlt
     have m2:(i:Int)<(ds.length:Int):=by omega
     have E3:=Lib.hid (step_wrap i 500 (by omega) (by omega))
     obtain ⟨cd1,cd2⟩:wr.cell? (ad.add (i*2))=some (.int .i64 d.1)∧wr.cell? ⟨(ad.add (i*2)).block,(ad.add (i*2)).off+1,none⟩=some (.string ⟨d.2.toArray⟩):=by
      obtain ⟨A,c,hv,hc⟩:=hdoc.out
      obtain ⟨rfl, -,rfl⟩:=Value.slice.inj hv
      obtain ⟨ad',ha,hlt,hc⟩:=hc hlen
      obtain rfl:=Option.some.inj ha
      obtain ⟨-,q1,q2⟩:=hc i d hd
      exact ⟨q1,q2⟩
     clear hb ha hr ht hd hx hlt Hb
     have hF:=Fr.refl ((twoX W2.heap.size (W2.heap.size+1))) O1 wr
     have c_ka:=f3 ka;have l_kawr:=lt_of ka
     have c_kp:=f3 kp;have l_kpwr:=lt_of kp
     have c_kt:=f3 kt;have l_ktwr:=lt_of kt
     go_wp2_with fail
     refine cg fun V4 hV_V4=> ?_
     refine nef3 hV_V4 hA hF ka kp kt ?_;clear hA hF ka kp kt c_ka c_kp c_kt;intro z_V4 hA hF ka c_ka kp c_kp kt c_kt
     clear hV_V4
     refine wC (tAdd_calls _ _ _ a Ha.out hla r Hr.out _ hA) fun W5 O2 hA_W5 hf_W5=> ?_
     refine wif3 hf_W5 hF ka o_ka kp o_kp kt o_kt ?_;clear hA hF ka o_ka kp o_kp kt o_kt c_ka c_kp c_kt hf_W5;intro z_W5 hF ka c_ka o_ka kp c_kp o_kp kt c_kt o_kt;have hA:=hA_W5;clear hA_W5
     go_wp2_with fail
     refine cg fun V5 hV_V5=> ?_
     refine nef3 hV_V5 hA hF ka kp kt ?_;clear hA hF ka kp kt c_ka c_kp c_kt;intro z_V5 hA hF ka c_ka kp c_kp kt c_kt
     clear hV_V5
     refine tC (next_t (W2.heap.size+1) w.heap.size st.ok st.p.table r t Ht.out _ hA kt ka o_kt o_ka ne6) fun W6 O3 hT hf=> ?_
     refine tx2 hT.hA hT.blk hT.no hf hF ka o_ka kp o_kp ?_;clear hA hF kt c_kt o_kt ka o_ka kp o_kp c_ka c_kp hT hf;intro z_W6 hA hF kt c_kt o_kt ka c_ka o_ka kp c_kp o_kp
     clear cd1 cd2
     go_wp2_with fail
     refine handed_gen fun V6 hV_V6=> ?_
     refine nef3 hV_V6 hA hF ka kp kt ?_;clear hA hF ka kp kt c_ka c_kp c_kt;intro z_V6 hA hF ka c_ka kp c_kp kt c_kt
     clear hV_V6
     have HF2:=Lib.hid (HF.out.trans_own hF hY)
     have hdoc2:=Lib.hid (hdoc.out.fr hF oD hX)
     have oD2:=hF.not_own (by have:=HF.out.size;omega) oD
     go_roundg k
     case measure=>omega
     case rel=>exact ⟨i+1,(⟨t.2.2,t.2.1,⟨st.p.wave,st.p.marks,st.p.spots,t.1⟩,st.n⟩:Bst),O3,by first|rfl|(rw [E3.out];rfl),by omega,hA,HF2,kp,kt,ka,o_kp,o_kt,o_ka,oD2,hdoc2,Lib.hid (by exact Hb2.out)⟩
    ·
     obtain rfl:i=ds.length:=by omega
     have hDlen:(docsM ds).length=ds.length:=by unfold docsM;rw [List.length_map]
     have hb:=Hb.out
     rw [List.drop_of_length_le (by omega)] at hb
     unfold bTable at hb
     obtain rfl:=Option.some.inj hb
     have m1:decide ((ds.length:Int)<(ds.length:Int))=false:=by simp
     have h3:=H3.out
     unfold bEnd at h3
     rw [ho2,if_pos rfl] at h3
     obtain ⟨t4,ht4⟩: ∃t,nextA true 0 (vMake st.s st.p)=t:=⟨_,rfl⟩
     rw [ht4] at h3
     dsimp only at h3
     obtain ⟨u,hu,h3⟩:=Option.map_eq_some_iff.1 h3
     rw [ho2] at kt
     have Hu:=Lib.hid hu;have H3':=Lib.hid h3;have Ht4:=Lib.hid ht4
     have hok4:t4.2.1=true:=congrArg (fun x=>x.2.1) h3
     clear hb Hb hlt hk h3 hu ht4
     have hF:=Fr.refl ((twoX W2.heap.size (W2.heap.size+1))) O1 wr
     have c_ka:=f3 ka;have l_kawr:=lt_of ka
     have c_kp:=f3 kp;have l_kpwr:=lt_of kp
     have c_kt:=f3 kt;have l_ktwr:=lt_of kt
     go_wp2_with fail
     refine cg fun V4 hV_V4=> ?_
     refine nef3 hV_V4 hA hF ka kp kt ?_;clear hA hF ka kp kt c_ka c_kp c_kt;intro z_V4 hA hF ka c_ka kp c_kp kt c_kt
     clear hV_V4
     refine wC (vMake_calls st.p _ hA) fun W5 O2 hA_W5 hf_W5=> ?_
     refine wif3 hf_W5 hF ka o_ka kp o_kp kt o_kt ?_;clear hA hF ka o_ka kp o_kp kt o_kt c_ka c_kp c_kt hf_W5;intro z_W5 hF ka c_ka o_ka kp c_kp o_kp kt c_kt o_kt;have hA:=hA_W5;clear hA_W5
     go_wp2_with fail
     refine cg fun V5 hV_V5=> ?_
     refine nef3 hV_V5 hA hF ka kp kt ?_;clear hA hF ka kp kt c_ka c_kp c_kt;intro z_V5 hA hF ka c_ka kp c_kp kt c_kt
     clear hV_V5
     refine tC (next_t (W2.heap.size+1) w.heap.size true 0 (vMake st.s st.p) t4 Ht4.out _ hA kt ka o_kt o_ka ne6) fun W6 O3 hT hf=> ?_
     refine tx2 hT.hA hT.blk hT.no hf hF ka o_ka kp o_kp ?_;clear hA hF kt c_kt o_kt ka o_ka kp o_kp c_ka c_kp hT hf;intro z_W6 hA hF kt c_kt o_kt ka c_ka o_ka kp c_kp o_kp
     rw [hok4] at kt
     go_wp2_with fail
     refine wg fun V6 hV_V6=> ?_
     refine nnf3 hV_V6 hA hF ka kp kt ?_;clear hA hF ka kp kt c_ka c_kp c_kt;intro hn_V6 z_V6 hA hF ka c_ka kp c_kp kt c_kt
     obtain ⟨kl,c_kl,o_kl,l_klV6⟩:=nN hn_V6 hV_V6 (W6.heap.size)
     clear hV_V6 hn_V6
     have HF6:=Lib.hid (HF.out.trans_own hF hY)
     have HA6:=Lib.hid hA
     have ka2:=ka;have kt2:=kt;have o_ka2:=o_ka;have o_kt2:=o_kt
     clear hA hF HF kp c_kp o_kp ka c_ka kt c_kt o_ka o_kt c_kl
     go_loopw [171] (fun y w3=> ∃i:Nat,i≤4∧y= .int .i64 i∧ ∃O',AP w3 (.pointer q) ([st.p.wave,st.p.marks,st.p.spots,st.p.table].take i|>.foldl dropP t4.2.2) O'∧Fr noX O O' w w3∧w3.heap[W6.heap.size]? =some (.cells #[.int .i64 st.p.wave, .int .i64 st.p.marks, .int .i64 st.p.spots, .int .i64 st.p.table] 3 (0,0))∧w3.heap[w.heap.size]? =some (.cells #[.pointer q] 26 (0,0))∧w3.heap[W2.heap.size+1]? =some (.cells #[.bool true] 4 (0,0))∧ ¬O' W6.heap.size∧ ¬O' w.heap.size∧ ¬O' (W2.heap.size+1)) (fun y _=>4 - (intOf y).toNat)
     case atStart=>exact ⟨0,by omega,rfl,_,HA6.out,HF6.out,kl,ka2,kt2,o_kl,o_ka2,o_kt2⟩
     case round=>
      clear HA6 HF6 kl ka2 kt2 o_kl o_ka2 o_kt2
      obtain ⟨i,hi,rfl,O',hA',hF',kl,ka2,kt2,o_kl,o_ka2,o_kt2⟩:=hrel
      have c_kl:=cells_of kl
      rcases (show i=0∨i=1∨i=2∨i=3∨i=4 by omega) with rfl|rfl|rfl|rfl|rfl
      ·
       have HA:=Lib.hid hA';have HF5:=Lib.hid hF';clear hA' hF'
       by_cases hz:st.p.wave=0
       ·
        have z1:(st.p.wave !=0)=false:=by simp [hz]
        have hd:Hid ((dropP t4.2.2 st.p.wave)=t4.2.2):=Lib.hid (by show dropP _ _=_;unfold dropP;rw [if_pos hz])
        clear hz
        go_wp2_with fail
        go_roundw
        case rel=>exact ⟨1,by omega,rfl,O',by show AP wr (.pointer q) (dropP t4.2.2 st.p.wave) O';rw [hd.out];exact HA.out,HF5.out,kl,ka2,kt2,o_kl,o_ka2,o_kt2⟩
        case measure=>simp [intOf]
       ·
        have z1:(st.p.wave !=0)=true:=by simp [hz]
        have hd:Hid ((dropP t4.2.2 st.p.wave)=(t4.2.2).drop st.p.wave):=Lib.hid (by show dropP _ _=_;unfold dropP;rw [if_neg hz])
        clear hz
        have c_ka2:=cells_of ka2
        go_wp2_with fail
        refine (drop_calls _ _ HA.out).mono ?_
        rintro e1 w1 ⟨rfl,O3,hA1,hf1⟩
        go_wp2_with fail
        go_roundw
        case rel=>exact ⟨1,by omega,rfl,O3,by show AP w1 (.pointer q) (dropP t4.2.2 st.p.wave) O3;rw [hd.out];exact hA1,HF5.out.trans hf1.widen,hf1.keep kl o_kl (fun h=>h),hf1.keep ka2 o_ka2 (fun h=>h),hf1.keep kt2 o_kt2 (fun h=>h),hf1.not_own (lt_of kl) o_kl,hf1.not_own (lt_of ka2) o_ka2,hf1.not_own (lt_of kt2) o_kt2⟩
        case measure=>simp [intOf]
      ·
       have HA:=Lib.hid hA';have HF5:=Lib.hid hF';clear hA' hF'
       by_cases hz:st.p.marks=0
       ·
        have z1:(st.p.marks !=0)=false:=by simp [hz]
        have hd:Hid ((dropP (dropP t4.2.2 st.p.wave) st.p.marks)=(dropP t4.2.2 st.p.wave)):=Lib.hid (by show dropP _ _=_;unfold dropP;rw [if_pos hz])
        clear hz
        go_wp2_with fail
        go_roundw
        case rel=>exact ⟨2,by omega,rfl,O',by show AP wr (.pointer q) (dropP (dropP t4.2.2 st.p.wave) st.p.marks) O';rw [hd.out];exact HA.out,HF5.out,kl,ka2,kt2,o_kl,o_ka2,o_kt2⟩
        case measure=>simp [intOf]
       ·
        have z1:(st.p.marks !=0)=true:=by simp [hz]
        have hd:Hid ((dropP (dropP t4.2.2 st.p.wave) st.p.marks)=((dropP t4.2.2 st.p.wave)).drop st.p.marks):=Lib.hid (by show dropP _ _=_;unfold dropP;rw [if_neg hz])
        clear hz
        have c_ka2:=cells_of ka2
        go_wp2_with fail
        refine (drop_calls _ _ HA.out).mono ?_
        rintro e1 w1 ⟨rfl,O3,hA1,hf1⟩
        go_wp2_with fail
        go_roundw
        case rel=>exact ⟨2,by omega,rfl,O3,by show AP w1 (.pointer q) (dropP (dropP t4.2.2 st.p.wave) st.p.marks) O3;rw [hd.out];exact hA1,HF5.out.trans hf1.widen,hf1.keep kl o_kl (fun h=>h),hf1.keep ka2 o_ka2 (fun h=>h),hf1.keep kt2 o_kt2 (fun h=>h),hf1.not_own (lt_of kl) o_kl,hf1.not_own (lt_of ka2) o_ka2,hf1.not_own (lt_of kt2) o_kt2⟩
        case measure=>simp [intOf]
      ·
       have HA:=Lib.hid hA';have HF5:=Lib.hid hF';clear hA' hF'
       by_cases hz:st.p.spots=0
       ·
        have z1:(st.p.spots !=0)=false:=by simp [hz]
        have hd:Hid ((dropP (dropP (dropP t4.2.2 st.p.wave) st.p.marks) st.p.spots)=(dropP (dropP t4.2.2 st.p.wave) st.p.marks)):=Lib.hid (by show dropP _ _=_;unfold dropP;rw [if_pos hz])
        clear hz
        go_wp2_with fail
        go_roundw
        case rel=>exact ⟨3,by omega,rfl,O',by show AP wr (.pointer q) (dropP (dropP (dropP t4.2.2 st.p.wave) st.p.marks) st.p.spots) O';rw [hd.out];exact HA.out,HF5.out,kl,ka2,kt2,o_kl,o_ka2,o_kt2⟩
        case measure=>simp [intOf]
       ·
        have z1:(st.p.spots !=0)=true:=by simp [hz]
        have hd:Hid ((dropP (dropP (dropP t4.2.2 st.p.wave) st.p.marks) st.p.spots)=((dropP (dropP t4.2.2 st.p.wave) st.p.marks)).drop st.p.spots):=Lib.hid (by show dropP _ _=_;unfold dropP;rw [if_neg hz])
        clear hz
        have c_ka2:=cells_of ka2
        go_wp2_with fail
        refine (drop_calls _ _ HA.out).mono ?_
        rintro e1 w1 ⟨rfl,O3,hA1,hf1⟩
        go_wp2_with fail
        go_roundw
        case rel=>exact ⟨3,by omega,rfl,O3,by show AP w1 (.pointer q) (dropP (dropP (dropP t4.2.2 st.p.wave) st.p.marks) st.p.spots) O3;rw [hd.out];exact hA1,HF5.out.trans hf1.widen,hf1.keep kl o_kl (fun h=>h),hf1.keep ka2 o_ka2 (fun h=>h),hf1.keep kt2 o_kt2 (fun h=>h),hf1.not_own (lt_of kl) o_kl,hf1.not_own (lt_of ka2) o_ka2,hf1.not_own (lt_of kt2) o_kt2⟩
        case measure=>simp [intOf]
      ·
       have HA:=Lib.hid hA';have HF5:=Lib.hid hF';clear hA' hF'
       by_cases hz:st.p.table=0
       ·
        have z1:(st.p.table !=0)=false:=by simp [hz]
        have hd:Hid ((dropP (dropP (dropP (dropP t4.2.2 st.p.wave) st.p.marks) st.p.spots) st.p.table)=(dropP (dropP (dropP t4.2.2 st.p.wave) st.p.marks) st.p.spots)):=Lib.hid (by show dropP _ _=_;unfold dropP;rw [if_pos hz])
        clear hz
        go_wp2_with fail
        go_roundw
        case rel=>exact ⟨4,by omega,rfl,O',by show AP wr (.pointer q) (dropP (dropP (dropP (dropP t4.2.2 st.p.wave) st.p.marks) st.p.spots) st.p.table) O';rw [hd.out];exact HA.out,HF5.out,kl,ka2,kt2,o_kl,o_ka2,o_kt2⟩
        case measure=>simp [intOf]
       ·
        have z1:(st.p.table !=0)=true:=by simp [hz]
        have hd:Hid ((dropP (dropP (dropP (dropP t4.2.2 st.p.wave) st.p.marks) st.p.spots) st.p.table)=((dropP (dropP (dropP t4.2.2 st.p.wave) st.p.marks) st.p.spots)).drop st.p.table):=Lib.hid (by show dropP _ _=_;unfold dropP;rw [if_neg hz])
        clear hz
        have c_ka2:=cells_of ka2
        go_wp2_with fail
        refine (drop_calls _ _ HA.out).mono ?_
        rintro e1 w1 ⟨rfl,O3,hA1,hf1⟩
        go_wp2_with fail
        go_roundw
        case rel=>exact ⟨4,by omega,rfl,O3,by show AP w1 (.pointer q) (dropP (dropP (dropP (dropP t4.2.2 st.p.wave) st.p.marks) st.p.spots) st.p.table) O3;rw [hd.out];exact hA1,HF5.out.trans hf1.widen,hf1.keep kl o_kl (fun h=>h),hf1.keep ka2 o_ka2 (fun h=>h),hf1.keep kt2 o_kt2 (fun h=>h),hf1.not_own (lt_of kl) o_kl,hf1.not_own (lt_of ka2) o_ka2,hf1.not_own (lt_of kt2) o_kt2⟩
        case measure=>simp [intOf]
      ·
       have HA:=Lib.hid hA';have HF5:=Lib.hid hF';clear hA' hF' c_kl
       have hA7:AP wr (.pointer q) (dropP (dropP (dropP (dropP t4.2.2 st.p.wave) st.p.marks) st.p.spots) st.p.table) O':=HA.out
       have HA7:=Lib.hid hA7;clear hA7 HA
       have c_ka2:=cells_of ka2
       have hlast:root=t4.1∧s'=u.2:=by
        have h3:=H3'.out
        rw [hok4] at h3
        simp only [Bool.true_eq_false,false_and,if_false,Prod.mk.injEq] at h3
        exact ⟨h3.1.symm,h3.2.2.symm⟩
       obtain ⟨rfl,rfl⟩:=hlast
       go_wp2_with fail
       refine (work_calls 1073741824 u Hu.out _ HA7.out).mono ?_
       rintro e8 W8 ⟨rfl,O8,hA8,hf8⟩
       have kt8:=hf8.keep kt2 o_kt2 (fun h=>h)
       have c_kt8:=cells_of kt8
       have HA8:=Lib.hid hA8
       have HF8:=Lib.hid (HF5.out.trans hf8)
       clear hA8 hf8
       have hA:=HA8.out
       clear c_kt8 c_ka2
       have hF:=Fr.refl (noX) O8 W8
       have c_kt8:=f3 kt8;have l_kt8W8:=lt_of kt8
       go_wp2_with fail
       refine wg fun V9 hV_V9=> ?_
       refine nef1 hV_V9 hA hF kt8 ?_;clear hA hF kt8 c_kt8;intro z_V9 hA hF kt8 c_kt8
       clear hV_V9
       refine dr (fun v=>Sm v V9 (W2.heap.size+1)∧(V9.heap.size≤v.heap.size)∧AP v (.pointer q) u.2 O8) ⟨fun _=>rfl,Nat.le_refl _,hA.drew⟩ fun V9d hV_V9d hHeld=> ?_
       have v_kt8:=c_kt8.1
       refine nef1 hV_V9d hA hF kt8 ?_;clear hA hF kt8 c_kt8;intro z_V9d hA hF kt8 c_kt8
       clear hV_V9d
       refine ta 0 hHeld ?_
       refine ta 1 hHeld ?_
       refine rd 2 rfl fun K hK=> ?_
       go_simp
       refine ho hK hHeld fun hHeld=> ?_
       clear hK K
       refine rd 3 rfl fun K hK=> ?_
       go_simp
       refine ho hK hHeld fun hHeld=> ?_
       clear hK K
       refine wd ?_
       have HFF:=Lib.hid (HF8.out.trans hF)
       have HAA:=Lib.hid hA
       clear hF hA
       go_wp2_with fail
       go_ret2
       exact ⟨rfl,O8,HAA.out,HFF.out⟩
end
section
open Go.RowKit
attribute [local go_sem ↓] Go.wp_at_zero Go.wp_at_succ
attribute [local go_sem] str_len
structure Told (s:Ar) (root:Int) (ds:Docs):Prop where
  text: ∀id,pText s root id=some (match placeD ds id with|none=>([],false)|some k=>((ds.getD k (0,[])).2,true))
  all:lAll s (vOf s root).table=some (docsM ds)
  len:lLen s (vOf s root).table≤50000
  rows:vRows s root=tot ds+ds.length
  docs:vDocs s root=ds.length
theorem VR.told {s:Ar} {H:List Int} (hI:Inv s H) {h:Int} {ds:Docs} {rate:Int} (hv:VR s h ds rate) (hR:Right ds):Told s h ds:=by
  have hl:=hR.len
  refine ⟨hv.text hI hR,hv.all hI (by omega),?_,by rw [hv.rows hI (by omega),rows_tot hR];omega,hv.docs hI (by omega)⟩
  rw [(hv.parts hI (by omega)).2.2.2.1.len hI];unfold docsM;simp;omega
theorem placeD_at {ds:Docs} (h:Right ds) {j:Nat} {d:Int×List UInt8} (hd:ds[j]? =some d):placeD ds d.1=some j:=by
  obtain ⟨hj,rfl⟩:=List.getElem?_eq_some_iff.1 hd
  refine List.findIdx?_eq_some_iff_getElem.2 ⟨hj,by simp,fun i hi=> ?_⟩
  have:=List.pairwise_iff_getElem.1 h.nodup i j (by simp;omega) (by simp;omega) hi
  simpa using this
theorem Told.at {s:Ar} {root:Int} {ds:Docs} (t:Told s root ds) (h:Right ds) {j:Nat} {d:Int×List UInt8} (hd:ds[j]? =some d):pText s root d.1=some (d.2,true):=by
  rw [t.text,placeD_at h hd]
  simp [List.getD,hd]
variable {ap : Value} {O : Nat → Prop}
end
section
open Go.RowKit
end
section
open Go.RowKit
attribute [local go_sem ↓] Go.wp_at_zero Go.wp_at_succ
section
attribute [local go_sem] str_len run_cplx
theorem rpath_calls (l:List UInt8) (hl:l.length≤48) (w:World):Calls Tryz.prog 129 #[strOf l] w fun e w'=> ∃v,e= .returned v∧w'.ownsRow w.heap.size 102 1 v (l.length+1) (pathCells (pathOf (0,0) l))∧Below w.heap.size w w':=by
  go_enter Tryz.func129,Tryz.ntmps129
  have h0:=World.ownsRow_lit (base:=w.heap.size) (e:=102) (size:=1) w #[.complex .f64 0 0] 1 (Nat.le_refl _) (by unfold maxLen;omega) rfl
  have h1:pathCells (pathOf (0,0) (l.take 0))=[.complex .f64 0 0]:=by simp [pathCells,pathOf,zb_zero]
  have hB:=below_box w (.cells #[.complex .f64 0 0] 102 (0,0))
  have H0:=Lib.hid h0;have HB:=Lib.hid hB;have H1:=Lib.hid h1;clear h0 hB h1
  go_wp2_with fail
  go_loopg [3,4,5,6] l.length (fun k p1 p2 v q wr=> ∃(i:Nat) (z:Int×Int),q= .int .i64 (i:Int)∧p1= .int .i64 z.1∧p2= .int .i64 z.2∧i+k=l.length∧Hid (z=(l.take i).foldl (fun z b=>stepOf b z) (0,0))∧Hid (wr.ownsRow w.heap.size 102 1 v (i+1) (pathCells (pathOf (0,0) (l.take i))))∧Hid (Below w.heap.size w wr))
  case atStart=>exact ⟨0,(0,0),rfl,rfl,rfl,by omega,Lib.hid rfl,Lib.hid (by rw [H1.out];exact H0.out),HB⟩
  case round=>
    clear H0 HB H1
    obtain ⟨i,⟨x,y⟩,rfl,rfl,rfl,hk,Hz,Hown,HB0⟩:=hrel
    by_cases hlt:i<l.length
    · have d1:decide ((i:Int)<(l.length:Int))=true:=by simpa using hlt
      obtain ⟨k,rfl⟩: ∃k,gk=k+1:=⟨gk - 1,by omega⟩
      obtain ⟨b,hb⟩:=at_some hlt
      have hix:=str_index l i b hb
      have hz:=Hz.out
      have hnear:=nearTake l hl i
      have hstep:l.take (i+1)=l.take i++[b]:=by
        rw [List.take_succ_eq_append_getElem hlt,(List.getElem_eq_iff hlt).2 hb]
      rw [←hz] at hnear
      have hz2:Hid (stepOf b (x,y)=(l.take (i+1)).foldl (fun z b=>stepOf b z) (0,0)):=Lib.hid (by rw [hstep,List.foldl_append,←hz];rfl)
      have hpath:Hid (pathCells (pathOf (0,0) (l.take (i+1)))=pathCells (pathOf (0,0) (l.take i))++[.complex .f64 (zb (stepOf b (x,y)).1) (zb (stepOf b (x,y)).2)]):=Lib.hid (by
        rw [hstep,pathOf_snoc,←hz];unfold pathCells;rw [List.map_append];rfl)
      have hw0:=HB0.out.size
      dsimp only at hnear
      have E3:=Lib.hid (step_wrap i 50 (by omega) (by omega))
      clear hz hstep hb
      rcases (show b.toNat % 4=0∨b.toNat % 4=1∨b.toNat % 4=2∨b.toNat % 4=3 by omega) with h|h|h|h
      · have hs:Hid (stepOf b (x,y)=(x+1,y)):=Lib.hid (by unfold stepOf;simp [h])
        have hm:(b.toNat:Int) % 4=0:=by omega
        clear h
        go_wp2_with (at_builtin;refine wpList_push _ (by rfl) _ _ 161 (by rfl) (w.heap.size) 102 (.complex .f64 0 0) 1 16 Tryz.underlying161 (by kernel_rfl) (by rfl) (by omega) _ _ _ (by rfl) Hown.out _ (by rfl) (by rfl) (by simp [Value.oneCell']) (by unfold maxLen;omega) (by omega) (by omega) ?_;intro g_W c_W W5 hown_W hlow_W hlt_W)
        go_wp2_with fail
        go_roundg k
        case measure=>omega
        case rel=>exact ⟨i+1,(x+1,y),by first|rfl|(rw [E3.out];rfl),by rfl,by rfl,by omega,Lib.hid (by rw [←hs.out];exact hz2.out),Lib.hid (by rw [hpath.out,hs.out];exact hown_W),Lib.hid (low_step HB0.out (Nat.le_refl _) hlow_W)⟩
      · have hs:Hid (stepOf b (x,y)=(x,y+1)):=Lib.hid (by unfold stepOf;simp [h])
        have hm:(b.toNat:Int) % 4=1:=by omega
        clear h
        go_wp2_with (at_builtin;refine wpList_push _ (by rfl) _ _ 161 (by rfl) (w.heap.size) 102 (.complex .f64 0 0) 1 16 Tryz.underlying161 (by kernel_rfl) (by rfl) (by omega) _ _ _ (by rfl) Hown.out _ (by rfl) (by rfl) (by simp [Value.oneCell']) (by unfold maxLen;omega) (by omega) (by omega) ?_;intro g_W c_W W5 hown_W hlow_W hlt_W)
        go_wp2_with fail
        go_roundg k
        case measure=>omega
        case rel=>exact ⟨i+1,(x,y+1),by first|rfl|(rw [E3.out];rfl),by rfl,by rfl,by omega,Lib.hid (by rw [←hs.out];exact hz2.out),Lib.hid (by rw [hpath.out,hs.out];exact hown_W),Lib.hid (low_step HB0.out (Nat.le_refl _) hlow_W)⟩
      · have hs:Hid (stepOf b (x,y)=(x - 1,y)):=Lib.hid (by unfold stepOf;simp [h])
        have hm:(b.toNat:Int) % 4=2:=by omega
        clear h
        go_wp2_with (at_builtin;refine wpList_push _ (by rfl) _ _ 161 (by rfl) (w.heap.size) 102 (.complex .f64 0 0) 1 16 Tryz.underlying161 (by kernel_rfl) (by rfl) (by omega) _ _ _ (by rfl) Hown.out _ (by rfl) (by rfl) (by simp [Value.oneCell']) (by unfold maxLen;omega) (by omega) (by omega) ?_;intro g_W c_W W5 hown_W hlow_W hlt_W)
        go_wp2_with fail
        go_roundg k
        case measure=>omega
        case rel=>exact ⟨i+1,(x - 1,y),by first|rfl|(rw [E3.out];rfl),by rfl,by rfl,by omega,Lib.hid (by rw [←hs.out];exact hz2.out),Lib.hid (by rw [hpath.out,hs.out];exact hown_W),Lib.hid (low_step HB0.out (Nat.le_refl _) hlow_W)⟩
      · have hs:Hid (stepOf b (x,y)=(x,y - 1)):=Lib.hid (by unfold stepOf;simp [h])
        have hm:(b.toNat:Int) % 4=3:=by omega
        clear h
        go_wp2_with (at_builtin;refine wpList_push _ (by rfl) _ _ 161 (by rfl) (w.heap.size) 102 (.complex .f64 0 0) 1 16 Tryz.underlying161 (by kernel_rfl) (by rfl) (by omega) _ _ _ (by rfl) Hown.out _ (by rfl) (by rfl) (by simp [Value.oneCell']) (by unfold maxLen;omega) (by omega) (by omega) ?_;intro g_W c_W W5 hown_W hlow_W hlt_W)
        go_wp2_with fail
        go_roundg k
        case measure=>omega
        case rel=>exact ⟨i+1,(x,y - 1),by first|rfl|(rw [E3.out];rfl),by rfl,by rfl,by omega,Lib.hid (by rw [←hs.out];exact hz2.out),Lib.hid (by rw [hpath.out,hs.out];exact hown_W),Lib.hid (low_step HB0.out (Nat.le_refl _) hlow_W)⟩
    · have d1:decide ((i:Int)<(l.length:Int))=false:=by simpa using hlt
      obtain rfl:i=l.length:=by omega
      have Hown':=Hown.out
      rw [List.take_length] at Hown'
      have HO:=Lib.hid Hown';clear Hown' Hown
      go_wp2_with fail
      go_ret
      exact ⟨u5,rfl,HO.out,HB0.out⟩
theorem rend_calls (l:List UInt8) (hl:l.length≤48) (w:World):Calls Tryz.prog 73 #[strOf l] w fun e w'=>e= .returned (.complex .f64 (zb (walkOf l).1) (zb (walkOf l).2))∧Below w.heap.size w w':=by
  go_enter Tryz.func73,Tryz.ntmps73
  go_wp2_with fail
  refine cg fun V hV_V=> ?_
  have hB:=Below.refl w.heap.size w
  refine neb0 hV_V hB ?_;clear hB;intro z_V hB
  clear hV_V
  refine (rpath_calls l hl _).mono ?_
  rintro e1 W1 ⟨v,rfl,hown,hb1⟩
  have hB1:=Lib.hid (below_step hB hb1)
  rcases hown.2 with ⟨-,h0⟩|⟨g,cap,cur,rfl,hg,hc, -, -, -, -⟩
  · omega
  have hci:W1.cell? ⟨g,l.length,none⟩=some (.complex .f64 (zb (walkOf l).1) (zb (walkOf l).2)):=by
    have h1:=hown.cellAt l.length (by omega)
    rw [h1]
    unfold pathCells walkOf
    rw [List.getElem?_map,pathOf_last];rfl
  have n1:(l.length:Int)<(l.length:Int)+1:=by omega
  have e1:wrap64 ((l.length:Int)+1 - 1)=(l.length:Int):=by rw [show (l.length:Int)+1 - 1=(l.length:Int) by omega];exact step_id l.length 48 hl (by omega)
  clear hown hc hb1 hB
  go_wp2_with fail
  go_ret
  exact ⟨rfl,hB1.out⟩
end
end
section
open Go.RowKit
attribute [local go_sem ↓] Go.wp_at_zero Go.wp_at_succ
attribute [local go_sem] str_len
def aliveM:Option (Bool×Bool×Bool×List UInt8×Bool×Bool):=
  (bRows 2 (rowsM [(7,[97,98,100])]) 0 ⟨Ar.new 2000,true,Parts.zero,0⟩).bind fun b1=>(bTable (docsM [(7,[97,98,100])]) b1).bind fun b2=>(bEnd b2).bind fun e=>
  (pText e.2.2 e.1 7).map fun t=>(b1.ok,b2.ok,e.2.1,t.1,t.2,decide (lLen e.2.2 (vOf e.2.2 e.1).table≤50000))
theorem aliveM_eq:aliveM=some (true,true,true,[97,98,100],true,true):=by decide+kernel
theorem ceq0 (w:World):(binOp BinOp.eql 102 (.complex .f64 13830554455654793216 4607182418800017408) (.complex .f64 13830554455654793216 4607182418800017408)).run Tryz.prog w= .ok (.bool true) w:=by kernel_rfl
theorem ceq1 (w:World):(binOp BinOp.eql 102 (.complex .f64 (zb (walkOf [97,98]).1) (zb (walkOf [97,98]).2)) (.complex .f64 (zb (walkOf [97,98]).1) (zb (walkOf [97,98]).2))).run Tryz.prog w= .ok (.bool true) w:=by
  have e1:zb (walkOf [97,98]).1=13830554455654793216:=by decide+kernel
  have e2:zb (walkOf [97,98]).2=4607182418800017408:=by decide+kernel
  rw [e1,e2];exact ceq0 w
theorem alive16_calls (w:World):Calls Tryz.prog 21 #[] w fun e w'=>e= .returned (.bool true)∧Below w.heap.size w w':=by
  have hm:=aliveM_eq
  unfold aliveM at hm
  obtain ⟨b1,h1,hm⟩:=Option.bind_eq_some_iff.1 hm
  obtain ⟨b2,h2,hm⟩:=Option.bind_eq_some_iff.1 hm
  obtain ⟨⟨root,ok,s'⟩,h3,hm⟩:=Option.bind_eq_some_iff.1 hm
  obtain ⟨t,ht,hm⟩:=Option.map_eq_some_iff.1 hm
  simp only [Prod.mk.injEq] at hm
  obtain ⟨o1,o2,rfl,ht1,ht2,hll⟩:=hm
  have hll':lLen s' (vOf s' root).table≤50000:=of_decide_eq_true hll
  obtain ⟨t1,t2⟩:=t
  dsimp only at ht1 ht2
  subst ht1 ht2
  have H1:=Lib.hid h1;have H2:=Lib.hid h2;have H3:=Lib.hid h3;have Ht:=Lib.hid ht;have Hll:=Lib.hid hll';have O1:=Lib.hid o1;have O2:=Lib.hid o2
  clear h1 h2 h3 ht hll hll' o1 o2
  go_enter Tryz.func21,Tryz.ntmps21
  go_wp2_with fail
  refine cg fun V hV_V=> ?_
  have hB:=Below.refl w.heap.size w
  refine neb0 hV_V hB ?_;clear hB;intro z_V hB
  clear hV_V
  refine (new_calls 2000 (by omega) (by omega) _).mono ?_
  rintro e1 W1 ⟨p,O,rfl,hA,hO,hb1⟩
  have hB1:=below_step hB hb1
  have hO2: ∀b,O b→w.heap.size≤b:=fun b hb=>Nat.le_trans hB.size (hO b hb)
  have HA:=Lib.hid hA;have HB1:=Lib.hid hB1;have HO:=Lib.hid hO2
  clear hA hO hb1 hB hB1 hO2
  go_wp2_with fail
  refine calls_gen fun V2 hV2=> ?_
  have hA2:AP V2 (.pointer (some ⟨p,0,none⟩)) (Ar.new 2000) O:=by rw [hV2];exact HA.out.alloc _
  have hk2:V2.heap[W1.heap.size]? =some (.cells #[.int .i64 7,strOf [97,98,100]] 31 (0,0)):=by rw [hV2];exact blk_new _ _ _ rfl
  have hB2:Below w.heap.size w V2:=by rw [hV2];exact HB1.out.alloc HB1.out.size _
  clear hV2
  have hD:Rd2 V2 (.slice (some ⟨W1.heap.size,0,none⟩) ([(7,[97,98,100])]:List (Int×List UInt8)).length 1) [(7,[97,98,100])]:=by
    refine ⟨_,_,rfl,fun _=>⟨_,rfl,lt_of hk2,fun i d hd=> ?_⟩⟩
    obtain rfl:i=0:=by have:=(List.getElem?_eq_some_iff.1 hd).1;simp at this;omega
    obtain rfl:(7,[97,98,100])=d:=by simpa using hd
    refine ⟨by rw [block_of_add];exact lt_of hk2,?_,?_⟩
    · rw [show (0*2:Nat)=0 from rfl,add_zero_off,cells_of hk2];rfl
    · rw [show (0*2:Nat)=0 from rfl,add_zero_off,cells_of hk2];rfl
  have hnO: ¬O W1.heap.size:=HA.out.new (Nat.le_refl _)
  refine (build_calls 2 (by omega) (by omega) [(7,[97,98,100])] ⟨W1.heap.size,0,none⟩ 1 (by simp) (by decide) V2 hD hnO hA2 b1 b2 H1.out O1.out H2.out O2.out root s' H3.out).mono ?_
  rintro e3 W3 ⟨rfl,O3,hA3,hf3⟩
  have HA3:=Lib.hid hA3;have HB3:=Lib.hid (below_fr hB2 hf3 HO.out)
  clear hA3 hf3 hD hk2 hA2 hB2 hnO
  go_wp2_with fail
  refine (text_calls root 7 _ Ht.out Hll.out _ HA3.out).mono ?_
  rintro e4 W4 ⟨rfl,hb4⟩
  have HA4:=Lib.hid (HA3.out.below hb4);have HB4:=Lib.hid (below_step HB3.out hb4)
  clear hb4
  rw [show strOf [97,98,100]=Value.string ⟨#[97,98,100]⟩ from rfl]
  go_wp2_with fail
  refine (plot_calls root 7 2 _ Ht.out Hll.out _ HA4.out).mono ?_
  rintro e5 W5 ⟨rfl,hb5⟩
  have HB5:=Lib.hid (below_step HB4.out hb5)
  clear hb5
  have ep:partOf (([97,98,100]:List UInt8),true) 0 2=([97,98],0):=by decide
  rw [ep]
  have eq1:plotOf (([97,98]:List UInt8),(0:Int))= .complex .f64 (zb (walkOf [97,98]).1) (zb (walkOf [97,98]).2):=rfl
  rw [eq1]
  have ec:=ceq1
  clear ep eq1
  go_wp2_with fail
  rw [show Value.string ⟨#[97,98]⟩=strOf [97,98] from rfl]
  refine (rend_calls [97,98] (by simp) _).mono ?_
  rintro e6 W6 ⟨rfl,hb6⟩
  have HB6:=Lib.hid (below_step HB5.out hb6)
  clear hb6
  go_wp2_with fail
  go_ret
  exact ⟨rfl,HB6.out⟩
end
section
open Go.RowKit
attribute [local go_sem ↓] Go.wp_at_zero Go.wp_at_succ
attribute [local go_sem] str_len
theorem str_guardB (a b:List UInt8) (o1 o2:Operand) (w:World):(eqGuard BinOp.neq 9 o1 o2 (.string ⟨a.toArray⟩) (.string ⟨b.toArray⟩)).run Tryz.prog w= .ok () w:=by
  simp [eqGuard,Sem.run_pure]
theorem str_notB (a:List UInt8) (w:World):(binOp BinOp.neq 9 (.string ⟨a.toArray⟩) (.string ⟨a.toArray⟩)).run Tryz.prog w= .ok (.bool false) w:=by
  rw [binOp_string_neq]
  simp [Sem.run_pure]
theorem part_whole (t:List UInt8):partOf (t,true) 0 (t.length:Int)=(t,0):=by
  unfold partOf
  rw [if_neg (by simp),if_neg (by dsimp only;omega)]
  simp
theorem pullBack_walk (A : Option Addr) (cap : Nat) (ds : Docs) (rate : Int) (hl : ds.length ≤ maxLen) (hid : IdOk ds) (w : World) (h : Rd2 w (.slice A ds.length cap) ds) :
    Calls Tryz.prog 4 #[.slice A ds.length cap, .int .i64 rate] w fun e w'=>e= .returned (.bool true)∧Below w.heap.size w w':=by
  have HK:=Lib.hid h;clear h
  cases hf:few ds with
  | false=>
    have Hf:=Lib.hid hf;clear hf
    go_enter Tryz.func4,Tryz.ntmps4
    go_wp2_with fail
    refine (few_calls _ ds hl _ HK.out).mono ?_
    rintro e0 W0 ⟨rfl,hb1⟩
    rw [Hf.out]
    have HB0:=Lib.hid hb1;clear hb1
    go_wp2_with fail
    refine (alive16_calls _).mono ?_
    rintro e1 W1 ⟨rfl,hb1⟩
    have HB1:=Lib.hid (below_step HB0.out hb1);clear hb1
    go_wp2_with fail
    go_ret
    exact ⟨rfl,HB1.out⟩
  | true=>
    obtain ⟨hR,htot,hl10⟩:=few_right hf hid
    have Hf:=Lib.hid hf
    have d0:decide (10<(ds.length:Int))=false:=by simp only [decide_eq_false_iff_not];omega
    have hcase:(decide (rate<1)=true∨(decide (rate<1)=false∧decide (16<rate)=true))∨(decide (rate<1)=false∧decide (16<rate)=false):=by
      simp only [decide_eq_true_eq,decide_eq_false_iff_not];omega
    rcases hcase with hno|⟨d1,d2⟩
    · clear hf hR htot hl10
      rcases hno with d1|⟨d1,d2⟩<;>
      (go_enter Tryz.func4,Tryz.ntmps4
       go_wp2_with fail
       refine (few_calls _ ds hl _ HK.out).mono ?_
       rintro e0 W0 ⟨rfl,hb1⟩
       rw [Hf.out]
       have HB0:=Lib.hid hb1;clear hb1
       go_wp2_with fail
       refine (alive16_calls _).mono ?_
       rintro e2 W2 ⟨rfl,hb2⟩
       have HB2:=Lib.hid (below_step HB0.out hb2)
       clear hb2
       go_wp2_with fail
       go_ret
       exact ⟨rfl,HB2.out⟩)
    have hb8:1≤rate∧rate≤16:=by simp only [decide_eq_false_iff_not] at d1 d2;omega
    have H2:=Lib.hid hb8.1;have H3:=Lib.hid hb8.2
    have HR:=Lib.hid hR;have HT:=Lib.hid htot;have H10:=Lib.hid hl10
    clear hf hb8 hR htot hl10
    go_enter Tryz.func4,Tryz.ntmps4
    go_wp2_with fail
    refine (few_calls _ ds hl _ HK.out).mono ?_
    rintro e0 W0 ⟨rfl,hb1⟩
    rw [Hf.out]
    have HB0:=Lib.hid hb1;clear hb1
    go_wp2_with fail
    refine (alive16_calls _).mono ?_
    rintro e2 W2 ⟨rfl,hb2⟩
    have HB2:=Lib.hid (below_step HB0.out hb2)
    clear hb2 d0 d1 d2
    go_wp2_with fail
    refine (new_calls 6000 (by omega) (by omega) _).mono ?_
    rintro e3 W3 ⟨p,O,rfl,hA,hO,hb3⟩
    have HS3:Hid (St w W3 (.pointer (some ⟨p,0,none⟩)) (Ar.new 6000) []):=Lib.hid (St.new (below_step HB2.out hb3) hA fun b hb=>Nat.le_trans HB2.out.size (hO b hb))
    clear hA hO hb3
    go_wp2_with fail
    refine (into_calls HS3.out rate H2.out H3.out ds HR.out HT.out A cap HK.out).mono ?_
    rintro e4 W4 ⟨root,s,rfl,hS,hI⟩
    have hv:=hI.vr
    rw [List.take_length] at hv
    have hpt:=hv.parts hI.inv (by have:=H10.out;omega)
    have hdl:(docsM ds).length=ds.length:=by simp [docsM]
    have HLA:=Lib.hid (hv.all hI.inv (by have:=H10.out;omega))
    have HLN:Hid (lLen s (vOf s root).table≤50000):=Lib.hid (by rw [hpt.2.2.2.1.len hI.inv,hdl];have:=H10.out;omega)
    have HTX:Hid (∀d∈ds,pText s root d.1=some (d.2,true)):=Lib.hid (fun d hd=>by
      obtain ⟨k,hk⟩:=List.getElem?_of_mem hd
      rw [hv.text hI.inv HR.out d.1,placeD_at HR.out hk]
      show some ((ds.getD k (0,[])).2,true)=_
      rw [List.getD_eq_getElem?_getD,hk];rfl)
    have HS4:=Lib.hid hS
    clear hS hI hv hpt hdl HS3
    go_wp2_with fail
    obtain ⟨O4,hA4,hO4,hL4⟩:=HS4.out.ex
    refine (docs_calls root ds HLA.out (by have:=H10.out;omega) HTX.out HLN.out _ hA4).mono ?_
    rintro e5 W5 ⟨A5,c5,rfl,hown5,hb5⟩
    have HS5:=Lib.hid (HS4.out.below hb5)
    have HRD:=Lib.hid (rd2_own hown5)
    clear hown5 hb5 hA4 hO4 hL4 HS4
    go_wp2_with fail
    refine (sameDocs_calls _ _ ds (by have:=H10.out;omega) _ HRD.out (HK.out.below HS5.out.bel)).mono ?_
    rintro e6 W6 ⟨rfl,hb6⟩
    have HS6:=Lib.hid (HS5.out.below hb6)
    clear hb6 HS5 HRD
    go_wp2_with fail
    go_loopg [9,10,11,12,13,55] ds.length (fun k c9 c10 c11 c12 c13 q wr=> ∃i:Nat,q= .int .i64 (i:Int)∧i+k=ds.length∧Hid (St w wr (.pointer (some ⟨p,0,none⟩)) s []))
    case atStart=>exact ⟨0,rfl,by omega,HS6⟩
    case round=>
      obtain ⟨i,rfl,hk,HX⟩:=hrel
      clear HS6
      by_cases hlt:i<ds.length
      · obtain ⟨k,rfl⟩: ∃k,gk=k+1:=⟨gk - 1,by omega⟩
        obtain ⟨d,hd⟩:=at_some hlt
        obtain ⟨A',cap',hv,q1⟩:=HK.out.below HX.out.bel
        obtain ⟨ad,rfl,hg,hc⟩:=q1 (by omega)
        obtain ⟨rfl, -,rfl⟩:=Value.slice.inj hv
        obtain ⟨-,c1,c2⟩:=hc i d hd
        have n1:decide ((i:Int)<(ds.length:Int))=true:=by simpa using hlt
        have n2:(i:Int)<(ds.length:Int):=by omega
        have e3:wrap64 ((i:Int)+1)=(i:Int)+1:=IntWalk.wrap64_in _ (by have:=H10.out;omega)
        have HE3:=Lib.hid e3
        have hd1:=HTX.out d (List.mem_of_getElem? hd)
        have HD1:=Lib.hid hd1
        have HPW:=Lib.hid (part_whole d.2)
        have HKM:=Lib.hid (show i+1+k=ds.length∧k<k+1 by omega)
        replace c2:wr.cell? ⟨(ad.add (i*2)).block,(ad.add (i*2)).off+1,none⟩=some (.string ⟨d.2.toArray⟩):=c2
        clear hc hd hv q1 e3 hd1 hk hlt
        go_wp2_with fail
        refine calls_gen fun V hV=> ?_
        have H7:=Lib.hid (HX.out.box _ hV)
        clear hV c1 c2 HX
        refine (H7.out.read fun O hA=>text_calls root d.1 (d.2,true) HD1.out HLN.out _ hA).mono ?_
        rintro e8 W8 ⟨rfl,h8⟩
        have H8:=Lib.hid h8
        have kd:=h8.at0
        clear h8 H7
        obtain ⟨c_kd,f_kd,l_kd⟩:=f3 kd
        clear kd
        dsimp only
        unfold strOf
        go_wp2_with fail
        refine (H8.out.read fun O hA=>part_calls root d.1 0 (d.2.length:Int) (d.2,true) HD1.out HLN.out _ hA).mono ?_
        rintro e9 W9 ⟨rfl,h9⟩
        have H9:=Lib.hid h9
        have kd:=h9.at0
        clear h9 H8 c_kd f_kd
        obtain ⟨c_kd,f_kd,l_kd9⟩:=f3 kd
        clear kd
        rw [HPW.out]
        dsimp only
        unfold strOf
        have s1:=str_guardB d.2 d.2
        have s2:=str_notB d.2
        have e3:=HE3.out
        go_wp2_with fail
        go_roundg k
        case measure=>exact HKM.out.2
        case rel=>exact ⟨i+1,by first|rfl|(rw [e3];rfl),HKM.out.1,Lib.hid (H9.out.less (fun _ h=>by cases h))⟩
      · have n1:decide ((i:Int)<(ds.length:Int))=false:=by simpa using hlt
        go_wp2_with fail
        go_ret
        exact ⟨rfl,HX.out.bel⟩
end
end Go.Proofs.YtlboaaldggpjeaaGreat

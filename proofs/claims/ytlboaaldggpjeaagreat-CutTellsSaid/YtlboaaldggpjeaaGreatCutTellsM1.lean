/- Part 1 of what CutTells needs: the walks of the program's functions, and plain facts. -/
import Derived.Test.YtlboaaldggpjeaaGreatCoreM9
import Derived.Deep.Slices
import Derived.Deep.Fields
import Derived.ChangeSame
import Derived.WideShapes
set_option linter.unusedSimpArgs false
set_option linter.unusedVariables false
set_option linter.unnecessarySimpa false
namespace Go.Proofs.YtlboaaldggpjeaaGreat
open Go.RowKit Go.ChangeShapes Go.WideShapes Go.Deep
section
variable {H : Type} {enc : TypeId × Value → H} {P : Program} {w : World} {base : Nat} {spare : Nat → Bool} {held : Bool}
theorem open_slice_fields14 {t e : TypeId} {fs : Array Field} {fuel : Nat} {cs : List Value} {x : DataW H × List MemPlace} (ht : P.underlying t = some (.slice e)) (he : P.underlying e = some (.struct fs))
    (hone:oneCellFields P fs=true) (hC:P.cellsOf e=fs.size) (h:DataW.trod enc P w base spare held fuel t cs=some x):
    (cs=[.slice none 0 0]∧x=(.nil,[]))∨
    ∃(a:Addr) (len cap m:Nat) (D:Nat→DataW H) (Pl:Nat→List MemPlace),cs=[.slice (some a) len cap]∧base≤a.block∧len≤cap∧cap≤maxLen∧m=(if spare a.block then cap else len)∧
      x=(.slice ((List.range len).map D) ((List.range (m - len)).map fun j=>D (len+j)),MemPlace.row a (m*fs.size)++(List.range m).flatMap Pl)∧
      ∀i,i<m→ ∃(ys:List (DataW H×List MemPlace)) (n:Nat),D i= .agg (ys.map (·.1))∧Pl i=ys.flatMap (·.2)∧ys.length=fs.size∧
        ∀(j:Nat) (f:Field),fs[j]? =some f→ ∃(v:Value) (y:DataW H×List MemPlace),w.cell? (a.add (i*fs.size+j))=some v∧ys[j]? =some y∧DataW.trod enc P w base spare held n f.type [v]=some y:=by
  rcases open_slice ht h with h0|⟨a,len,cap,m,n,D,Pl,hcs,hb,hl,hm,hmm,hx,hi⟩
  · exact .inl h0
  · refine .inr ⟨a,len,cap,m,D,Pl,hcs,hb,hl,hm,hmm,by rw [hC] at hx;exact hx,fun i him=> ?_⟩
    obtain ⟨cs',hc,ht'⟩:=hi i him
    rw [hC] at hc
    obtain ⟨ys,n',hn',hy,hlen,hyl,hf⟩:=DataW.trod_struct he ht'
    obtain ⟨_,hcl,hat⟩:=World.cells?_some hc
    simp only [Prod.mk.injEq] at hy
    refine ⟨ys,n',hy.1,hy.2,hyl,fun j f hj=> ?_⟩
    obtain ⟨ho,hk⟩:=hone_of hone j f hj
    have hjl:j<fs.size:=(Array.getElem?_eq_some_iff.1 hj).1
    have hcell:=hat j hjl
    have hv:cs'[j]? =some (cs'[j]'(by omega)):=List.getElem?_eq_getElem (by omega)
    have h1:=hf j f hj
    rw [ho,hk] at h1
    have hone':(cs'.drop j).take 1=[cs'[j]'(by omega)]:=by
      rw [List.drop_eq_getElem_cons (by omega)]
      rfl
    rw [hone'] at h1
    have hys:ys[j]? =some (ys[j]'(by omega)):=List.getElem?_eq_getElem (by omega)
    refine ⟨_,_,?_,hys,h1.trans hys⟩
    rw [←Go.Deep.add_add,hcell,hv]
end
theorem str_of14 (s:ByteArray):Value.string s=strOf s.data.toList:=by unfold strOf;cases s;rfl
theorem add_one14 (a:Addr) (n:Nat):(⟨(a.add n).block,(a.add n).off+1,none⟩:Addr)=a.add (n+1):=by
  unfold Addr.add
  rw [if_neg (by omega: ¬n+1=0)]
  split
  · rename_i h;subst h;rfl
  · rfl
theorem read_docs14 {H : Type} {enc : TypeId × Value → H} {P : Program} {w : World} {held : Bool} {t e : TypeId} {f0 f1 : Field} {A : Option Addr} {len cap : Nat} {d : DataW H} {p : List MemPlace}
    (ht:P.underlying t=some (.slice e)) (he:P.underlying e=some (.struct #[f0,f1])) (hone:oneCellFields P #[f0,f1]=true) (hC:P.cellsOf e=2) (h0:P.underlying f0.type=some (.int .i64)) (h1:P.underlying f1.type=some .string)
    (h:DataW.Trod enc P w 0 (fun _=>true) held t (.slice A len cap) d p): ∃ds:List (Int×List UInt8),ds.length=len∧ds.length≤maxLen∧Rd2 w (.slice A len cap) ds∧IdOk ds:=by
  obtain ⟨m,hm⟩:=h
  have hlt:=DataW.trod_lt m _ _ _ hm
  simp only [Value.cells] at hm
  rcases open_slice_fields14 ht he hone hC hm with ⟨hc, -⟩|⟨a,l',c',m',D,Pl,hc, -,hl,hcm,hmm,hx,hi⟩
  · simp only [List.cons.injEq,Value.slice.injEq,and_true] at hc
    obtain ⟨rfl,rfl,rfl⟩:=hc
    exact ⟨[],rfl,by simp,⟨none,0,rfl,fun h=>absurd h (by simp)⟩,fun d hd=>by cases hd⟩
  · simp only [List.cons.injEq,Value.slice.injEq,and_true] at hc
    obtain ⟨rfl,rfl,rfl⟩:=hc
    have hmc:len≤m':=by rw [hmm];split<;>omega
    have key: ∀i,i<len→ ∃x:Int×List UInt8,(a.add (i*2)).block<w.heap.size∧w.cell? (a.add (i*2))=some (.int .i64 x.1)∧w.cell? ⟨(a.add (i*2)).block,(a.add (i*2)).off+1,none⟩=some (strOf x.2)∧(Lit.int .i64 x.1).wf=true:=by
      intro i hil
      obtain ⟨ys,n, -, -, -,hf⟩:=hi i (by omega)
      obtain ⟨v0,y0,c0, -,t0⟩:=hf 0 f0 rfl
      obtain ⟨v1,y1,c1, -,t1⟩:=hf 1 f1 rfl
      obtain ⟨x0,e0, -,w0⟩:=DataW.trod_int h0 t0
      obtain ⟨x1,e1, -, -⟩:=DataW.trod_string h1 t1
      simp only [List.cons.injEq,and_true] at e0 e1
      subst e0 e1
      refine ⟨(x0,x1.data.toList),?_,c0,?_,w0⟩
      · exact World.block_lt_of_cell? w _ c0
      · rw [←str_of14,add_one14];exact c1
    have hget: ∀i,(h:i<len)→((List.range len).map fun i=>if h:i<len then (key i h).choose else ((0:Int),([]:List UInt8)))[i]? =some (key i h).choose:=fun i h=>by
      rw [List.getElem?_map,List.getElem?_range h,Option.map_some,dif_pos h]
    have hlen:((List.range len).map fun i=>if h:i<len then (key i h).choose else ((0:Int),([]:List UInt8))).length=len:=by simp
    refine ⟨_,hlen,by rw [hlen];omega,⟨some a,cap,by rw [hlen],fun hn=>⟨a,rfl,?_,fun i d hd=> ?_⟩⟩,fun d hd=> ?_⟩
    · rw [hlen] at hn
      have:=(key 0 hn).choose_spec.1
      simpa [Addr.add] using this
    · have hil:i<len:=by rw [←hlen];exact (List.getElem?_eq_some_iff.1 hd).1
      rw [hget i hil] at hd
      obtain rfl:=Option.some.inj hd
      obtain ⟨a1,a2,a3, -⟩:=(key i hil).choose_spec
      exact ⟨a1,a2,a3⟩
    · obtain ⟨i,hi⟩:=List.getElem?_of_mem hd
      have hil:i<len:=by rw [←hlen];exact (List.getElem?_eq_some_iff.1 hi).1
      rw [hget i hil] at hi
      obtain rfl:=Option.some.inj hi
      exact (key i hil).choose_spec.2.2.2
end Go.Proofs.YtlboaaldggpjeaaGreat
namespace Go.Proofs.YtlboaaldggpjeaaGreat
open Go.RowKit
attribute [local go_sem ↓] Go.wp_at_zero Go.wp_at_succ
attribute [local go_sem] str_len
theorem wpList_onC {P:Program} {ops:Array Oper} {Q:Exit→Act→World→Prop} {rest:List Oper} {o:Oper} {a:Act} {w:World} (hw:Region.wanted o (yielded ops a.tmps)=true) (h:wpList P ops Q ({o with guard:=none}::rest) a w):wpList P ops Q (o::rest) a w:=by
  unfold wpList at h⊢
  rw [if_pos hw]
  rw [if_pos (show Region.wanted {o with guard:=none} (yielded ops a.tmps)=true from rfl)] at h
  exact h
theorem placeZ_get (id:Int): ∀(l:Docs) (i:Int),0≤i→0≤placeZ id l i→ ∃(k:Nat) (d:Int×List UInt8),placeZ id l i=i+k∧l[k]? =some d∧d.1=id
  | [],i,_,h=>by unfold placeZ at h;omega
  | y::l,i,hi,h=>by
    unfold placeZ at h⊢
    by_cases e:y.1=id
    · rw [if_pos e];exact ⟨0,y,by omega,rfl,e⟩
    · rw [if_neg e] at h⊢
      obtain ⟨k,d,h1,h2,h3⟩:=placeZ_get id l (i+1) (by omega) h
      exact ⟨k+1,d,by omega,by simpa using h2,h3⟩
theorem placeZ_not (id:Int): ∀(l:Docs) (i:Int),0≤i→placeZ id l i<0→ ∀y∈l,y.1≠id
  | [],_,_,_,y,hy=>by cases hy
  | d::l,i,hi,h,y,hy=>by
    unfold placeZ at h
    by_cases e:d.1=id
    · rw [if_pos e] at h;omega
    · rw [if_neg e] at h
      rcases List.mem_cons.1 hy with rfl|hy
      · exact e
      · exact placeZ_not id l (i+1) (by omega) h y hy
theorem tellC_num {k gk N:Nat} (hk:k+gk=N) (hkN:k<N) (hN:N≤83):(∃m,gk=m+1)∧wrap64 ((k:Int)+1)=(k:Int)+1∧decide ((k:Int)<(N:Int))=true∧wrap64 ((N:Int) - (k:Int))=((N - k:Nat):Int)∧wrap64 ((N:Int) - 1)=(N:Int) - 1∧((((k:Int)==(N:Int) - 1):Bool)=decide (N - (k+1)=0)):=by
  refine ⟨⟨gk - 1,by omega⟩,IntWalk.wrap64_in _ (by omega),by simpa using hkN,by rw [IntWalk.wrap64_in _ (by omega)];omega,IntWalk.wrap64_in _ (by omega),?_⟩
  by_cases e:N - (k+1)=0
  · rw [decide_eq_true e,beq_iff_eq];omega
  · rw [decide_eq_false e,beq_eq_false_iff_ne];omega
set_option maxRecDepth 100000 in
set_option maxHeartbeats 8000000 in
theorem cutTells_walk (A : Option Addr) (cap : Nat) (ds : Docs) (id rate : Int) (hl : ds.length ≤ maxLen) (hid : IdOk ds) (w : World) (h : Rd2 w (.slice A ds.length cap) ds) :
    Calls Tryz.prog 9 #[.slice A ds.length cap, .int .i64 id, .int .i64 rate] w fun e w'=>e= .returned (.bool true)∧Below w.heap.size w w':=by
  have HK:=Lib.hid h;clear h
  cases hf:few ds with
  | false=>
    have Hf:=Lib.hid hf;clear hf
    go_enter Tryz.func9,Tryz.ntmps9
    go_wp2_with fail
    refine (few_calls _ ds hl _ HK.out).mono ?_
    rintro e0 W0 ⟨rfl,hb1⟩
    rw [Hf.out]
    have HB0:=Lib.hid hb1;clear hb1
    go_wp2_with fail
    refine (alive14_calls _).mono ?_
    rintro e1 W1 ⟨rfl,hb1⟩
    have HB1:=Lib.hid (below_step HB0.out hb1);clear hb1
    go_wp2_with fail
    go_ret
    exact ⟨rfl,HB1.out⟩
  | true=>
  obtain ⟨hR,htot,hl10⟩:=few_right hf hid
  have hrows0:=rows_tot hR
  have Hf:=Lib.hid hf;have HR:=Lib.hid hR;have HT:=Lib.hid htot
  have H10:Hid (ds.length≤10):=Lib.hid hl10
  have HRW:Hid ((rowsM ds).length≤70):=Lib.hid (by omega)
  have HL10:Hid (ds.length≤50000):=Lib.hid (by omega)
  clear hR htot hl10 hrows0 hf
  go_enter Tryz.func9,Tryz.ntmps9
  go_wp2_with fail
  refine (few_calls _ ds hl _ HK.out).mono ?_
  rintro e0 W0 ⟨rfl,hb1⟩
  rw [Hf.out]
  have HB0:=Lib.hid hb1;clear hb1
  go_wp2_with fail
  refine (alive14_calls _).mono ?_
  rintro e2 W2 ⟨rfl,hb2⟩
  have HB2:=Lib.hid (below_step HB0.out hb2)
  clear hb2
  go_wp2_with fail
  refine (new_calls 6000 (by omega) (by omega) _).mono ?_
  rintro e3 W3 ⟨p,O,rfl,hA,hO,hb3⟩
  have HS:Hid (St w W3 (.pointer (some ⟨p,0,none⟩)) (Ar.new 6000) []):=Lib.hid (St.new (below_step HB2.out hb3) hA fun b hb=>Nat.le_trans HB2.out.size (hO b hb))
  clear hA hO hb3
  have hrate:(decide (1≤rate)=false∨(decide (1≤rate)=true∧decide (rate≤16)=false))∨(decide (1≤rate)=true∧decide (rate≤16)=true):=by
    simp only [decide_eq_true_eq,decide_eq_false_iff_not];omega
  rcases hrate with hno|⟨r1,r2⟩
  · have hbad:rate<1∨16<rate:=by simp only [decide_eq_true_eq,decide_eq_false_iff_not] at hno;omega
    have HBAD:=Lib.hid hbad
    clear hbad
    rcases hno with r1|⟨r1,r2⟩<;>
    (go_wp2_with fail
     refine (HS.out.read fun O hA=>cNew_arg _ 0 rate id (.inr (.inr HBAD.out)) _ hA).mono ?_
     rintro e3 W3 ⟨rfl,h3⟩
     have HS3:=Lib.hid h3
     clear h3
     go_wp2_with fail
     go_ret
     exact ⟨rfl,HS3.out.bel⟩)
  have H2:Hid (1≤rate):=Lib.hid (by simpa using r1)
  have H3:Hid (rate≤16):=Lib.hid (by simpa using r2)
  go_wp2_with fail
  refine (bldS_calls 6000 (by omega) (by omega) HS.out rate H2.out (by have:=H3.out;omega) ds HR.out HT.out A cap HK.out).mono ?_
  rintro e4 W4 ⟨root,s,rfl,hS,hI,hwt,hsz,hv,hroot⟩
  have HS4:=Lib.hid hS;have HI:=Lib.hid hI;have HWT:=Lib.hid hwt;have HSZ:=Lib.hid hsz;have HV:=Lib.hid hv;have HRO:=Lib.hid hroot
  clear hS hI hwt hsz hv hroot r1 r2
  obtain ⟨P,hP⟩: ∃P,placeZ id ds 0=P:=⟨_,rfl⟩
  have HP:=Lib.hid hP
  have hcase:(decide (P<0)=true∧P<0)∨(decide (P<0)=false∧0≤P):=by simp only [decide_eq_true_eq,decide_eq_false_iff_not];omega
  rcases hcase with ⟨d1,g1⟩|⟨d1,g1⟩
  · have HN:=Lib.hid (placeZ_not id ds 0 (by omega) (by rw [hP];exact g1))
    clear hP g1
    go_wp2_with fail
    refine (HS4.out.read fun O hA=>cNew_none _ root rate id (docsM ds) (HV.out.all HI.out (by have:=H10.out;omega)) (by simp [docsM];have:=H10.out;omega) (HV.out.parts HI.out (by have:=H10.out;omega)).2.2.2.2 H2.out H3.out
      (by rw [placeIn_none id (docsM ds) 0 (fun y hy=>by unfold docsM at hy;obtain ⟨z,hz,rfl⟩:=List.mem_map.1 hy;exact HN.out z hz)]) _ hA).mono ?_
    rintro e5 W5 ⟨rfl,h5⟩
    have HS5:=Lib.hid h5
    clear h5
    go_wp2_with fail
    refine (place_calls _ ds id HL10.out _ (HK.out.below HS5.out.bel)).mono ?_
    rintro e6 W6 ⟨rfl,hb6⟩
    rw [HP.out]
    have HS6:=Lib.hid (HS5.out.below hb6)
    clear hb6
    go_wp2_with fail
    go_ret
    exact ⟨rfl,HS6.out.bel⟩
  obtain ⟨j,d,hj,hd,hdi⟩:=placeZ_get id ds 0 (by omega) (by rw [hP];exact g1)
  have hPj:P=(j:Int):=by rw [←hP,hj];omega
  subst hPj
  subst hdi
  have hjl:=(List.getElem?_eq_some_iff.1 hd).1
  have h40:d.2.length≤40:=by have:=(right_len HR.out.right).2 j;rwa [show (txt ds).getD j []=d.2 by rw [List.getD,List.getElem?_map,hd];rfl] at this
  obtain ⟨r,r1,r2,r3,r4,r5,r6⟩:=newC_in HI.out HV.out HR.out hd
  have hbz:=HV.out.busy HI.out HWT.out
  have hlg:=newC0_T HI.out HV.out HSZ.out (by have:=HRW.out;have:=H10.out;omega) hd (by have:=HRW.out;omega) H10.out
  have hcon:=HS4.out.cut root rate d.1 (j:Int) (docsM ds) r r1 r2 r3 H2.out H3.out r4 r5
  rw [r6] at hcon
  obtain ⟨x0,hx0⟩: ∃x0,Ct.new s root d.1 (d.2.length:Int) (j:Int)=x0:=⟨_,rfl⟩
  rw [hx0] at hlg hcon
  have hr0:root≠0:=fun e=>by have:=HRO.out.1 e;subst this;simp at hjl
  have he1:ds.eraseIdx j=[]↔ds.length=1:=by
    rw [←List.length_eq_zero_iff,List.length_eraseIdx,if_pos hjl];omega
  obtain ⟨N,hN⟩: ∃N,2*d.2.length+3=N:=⟨_,rfl⟩
  rw [hN] at hlg
  have HW2:Hid (wrap64 (2*(d.2.length:Int))=2*(d.2.length:Int)):=Lib.hid (IntWalk.wrap64_in _ (by omega))
  have HW3:Hid (wrap64 (2*(d.2.length:Int)+3)=(N:Int)):=Lib.hid (by rw [IntWalk.wrap64_in _ (by omega)];omega)
  have HNB:Hid (N≤83):=Lib.hid (by omega)
  have HCON:=Lib.hid hcon;have HLG:=Lib.hid hlg;have HR0:=Lib.hid hr0;have HE1:=Lib.hid he1;have HD:=Lib.hid hd;have HJL:=Lib.hid hjl
  obtain ⟨l1,l2,l3,l4⟩:lessD ds d.1=ds.eraseIdx j∧Right (lessD ds d.1)∧(lessD ds d.1).length≤50000∧ ∀t,t∈txt (lessD ds d.1)→t.length≤50000:=by
    have e:=lessD_era HR.out hd
    have hR:Right (lessD ds d.1):=e▸HR.out.era j
    exact ⟨e,hR,by have:=lessD_len ds d.1;have:=H10.out;omega,hR.txt50⟩
  have HL1:=Lib.hid l1;have HL3:=Lib.hid l3;have HL4:=Lib.hid l4
  have n9:(j:Int)<(ds.length:Int):=by omega
  clear hj hP g1 hd h40 r1 r2 r3 r4 r5 r6 hbz hlg hcon hx0 hr0 he1 hN hjl l1 l2 l3 l4
  obtain ⟨ad,rfl⟩: ∃ad,A=some ad:=by
    obtain ⟨A',c',hv,h2⟩:=HK.out
    obtain ⟨rfl, -,rfl⟩:=Value.slice.inj hv
    obtain ⟨ad,rfl, -⟩:=h2 (by omega)
    exact ⟨ad,rfl⟩
  go_wp2_with fail
  refine HCON.out.mono ?_
  rintro e6 W6 ⟨b,rfl,h6⟩
  have HS6:=Lib.hid h6
  clear h6 HCON HS4
  go_wp2_with fail
  refine (place_calls _ ds d.1 HL10.out _ (HK.out.below HS6.out.bel)).mono ?_
  rintro e7 W7 ⟨rfl,hb7⟩
  rw [HP.out]
  have HS7:=Lib.hid (HS6.out.below hb7)
  clear hb7 HS6
  obtain ⟨c1,c2⟩:W7.cell? (ad.add (j*2))=some (.int .i64 d.1)∧W7.cell? ⟨(ad.add (j*2)).block,(ad.add (j*2)).off+1,none⟩=some (.string ⟨d.2.toArray⟩):=by
    obtain ⟨A',c',hv,h2⟩:=HK.out.below HS7.out.bel
    obtain ⟨rfl, -,rfl⟩:=Value.slice.inj hv
    obtain ⟨ad',ha, -,hc⟩:=h2 (by omega)
    obtain rfl:=Option.some.inj ha
    exact (hc j d HD.out).2
  have hw2:=HW2.out
  have hw3:=HW3.out
  go_upto_region 22 with fail
  clear hw2 hw3
  go_wp2_with fail
  try rw [HW2.out]
  try rw [HW3.out]
  clear c1 c2 d1 n9
  go_loopg [15,16,17] N (fun m c c16 c17 wr=> ∃(k:Nat) (x:Ct),c= .int .i64 (k:Int)∧k+m=N∧Hid (Sc w wr (.pointer (some ⟨p,0,none⟩)) b x []∧LoopC root [root] ds j d rate (N - k) x))
  case atStart=>exact ⟨0,_,rfl,by omega,Lib.hid ⟨HS7.out,HLG.out⟩⟩
  case round=>
    obtain ⟨k,x,rfl,hk,HX⟩:=hrel
    clear HS7
    by_cases hkN:k<N
    · obtain ⟨⟨m,rfl⟩,e6,n2,e7,e8,e9⟩:=tellC_num hk hkN HNB.out
      have hls:=HX.out.2
      rw [show N - k=(N - (k+1))+1 by omega] at hls
      have y1:=hls.st.left HR.out HD.out
      rw [show (N - (k+1))+1=N - k by omega] at y1
      obtain ⟨y2,y3⟩:=heldC_inv hls.st
      obtain ⟨y,u,y4,y5,y6, -, -, -⟩:=hls.next HR.out HD.out (by have:=HRW.out;omega) H10.out
      have HY1:=Lib.hid y1;have HY2:=Lib.hid y2;have HY3:=Lib.hid y3;have HY4:=Lib.hid y4;have HY5:=Lib.hid y5;have HY6:=Lib.hid y6
      have HE6:=Lib.hid e6;have HE8:=Lib.hid e8;have HE9:=Lib.hid e9
      have HOK:Hid (CtOk x):=Lib.hid (hls.st.ok HR.out HD.out)
      have HKM:=Lib.hid (show k+1+m=N∧m<m+1 by omega)
      clear y1 y2 y3 y4 y5 y6 e6 e8 e9 hk hls
      obtain ⟨F,hF⟩: ∃F:Nat,N - k=F:=⟨_,rfl⟩
      rw [hF] at e7 HY1
      clear hF
      go_wp2_with fail
      refine (HX.out.1.read fun O A cap hT=>cLeft_calls _ hT).mono ?_
      rintro e10 W10 ⟨rfl,h10⟩
      have H10':=Lib.hid h10
      clear h10
      rw [HY1.out]
      go_wp2_with fail
      obtain ⟨O,A,cap,hT,hrest⟩:=H10'.out.ex
      refine (cHeld_calls _ hT).mono ?_
      rintro e11 W11 ⟨v,rfl,hown,hb11⟩
      have HOWN:=Lib.hid hown
      have hz:=hb11.size
      have hb5:=HY3.out
      have HB11:=Lib.hid hb11
      clear hT hrest hown hb11
      go_wp2_with (at_builtin;refine wpList_onC (by rfl) ?_;refine wpList_push2 _ (by rfl) _ _ 44 (by rfl) (W10.heap.size) 3 (.int .i64 0) 1 8 Tryz.underlying44 (by kernel_rfl) (by rfl) (by omega) _ _ _ (by rfl) HOWN.out _ (by rfl) (by rfl) (by simp [Value.oneCell']) (by unfold maxLen;omega) (by omega) (by omega) ?_;intro g c W12 hown12 hlow12 hlt12 hgr12 hat12)
      have HS12:=Lib.hid (H10'.out.below (low_step HB11.out (Nat.le_refl _) hlow12))
      have hrx:=Rx.of_own hown12
      clear hown12 hlow12 hlt12 hgr12 hat12 HOWN H10' HB11 hz
      have HRX:Hid (Rx W12 1 (.slice (some ⟨g,0,none⟩) (x.held.length+1) c) (x.held++[root]).length ((x.held++[root]).map fun k=> .int .i64 k)):=Lib.hid (by simpa using hrx)
      clear hrx
      refine (HS12.out.read fun O A cap hT=>counted_calls HY2.out (x.held++[root]) (fun _ _=>rfl) (by simp;omega) _ _ hT.hA HRX.out).mono ?_
      rintro e13 W13 ⟨rfl,h13⟩
      have H13:=Lib.hid h13
      clear h13 HS12 HRX
      go_wp2_with fail
      clear e7
      refine (H13.out.act fun O A cap hT hR=>cStep_calls x HOK.out _ HY4.out _ hT hR).mono ?_
      rintro e14 W14 ⟨rfl,h14⟩
      have H14:=Lib.hid h14
      clear h14 H13
      dsimp only
      rw [←HE9.out]
      have e8:=HE8.out
      go_wp2_with fail
      clear e8
      refine (H14.out.write fun O hA=>work_calls _ _ HY5.out _ hA).mono ?_
      rintro e15 W15 ⟨rfl,h15⟩
      have H15:=Lib.hid h15
      clear h15 H14
      go_wp2_with fail
      have e6:=HE6.out
      go_roundg m
      case measure=>exact HKM.out.2
      case rel=>exact ⟨k+1,_,by first|rfl|(rw [e6];rfl),HKM.out.1,Lib.hid ⟨H15.out,HY6.out⟩⟩
    · obtain ⟨rfl,n2⟩:k=N∧decide ((N:Int)<(N:Int))=false:=⟨by omega,by simp⟩
      have hls:=HX.out.2
      rw [Nat.sub_self] at hls
      obtain ⟨z1,z2,z3,z4,z5⟩:=hls.done HR.out H2.out H3.out
      have z6:=(hls.vr (by simp)).check_own z2 HR.out H2.out H3.out
      obtain ⟨q1,q2,q3,u,q4,q5⟩:=drops_work z2
      rw [←HL1.out] at z4
      have HZ1:=Lib.hid z1;have HZ2:=Lib.hid z2;have HZ4:=Lib.hid z4;have HZ6:=Lib.hid z6;have Q1:=Lib.hid q1;have Q3:=Lib.hid (q3 HR0.out);have Q4:=Lib.hid q4;have Q5:=Lib.hid q5
      have HLF:Hid (x.left=0):=Lib.hid (by unfold Ct.left;rw [z1,if_pos rfl])
      have HHE:Hid (x.stop.s=x.s):=Lib.hid (by unfold Ct.stop Ct.held;rw [z1,if_pos rfl];rfl)
      have hxz:((x.root==0)=true∧((ds.length:Int)==1)=true∧Hid (x.root=0))∨((x.root==0)=false∧((ds.length:Int)==1)=false∧Hid (x.root≠0)):=by
        have:=z5.trans HE1.out
        by_cases e:x.root=0
        · have h1:=this.1 e
          exact .inl ⟨by simpa using e,by rw [h1];rfl,Lib.hid e⟩
        · have h1:ds.length≠1:=fun q=>e (this.2 q)
          exact .inr ⟨by simpa using e,by rw [beq_eq_false_iff_ne];omega,Lib.hid e⟩
      clear z1 z2 z3 z4 z5 z6 q1 q2 q3 q4 q5 hls hk hkN
      go_wp2_with fail
      refine (HX.out.1.same fun O A cap hT=>cStep_over x HZ1.out _ hT).mono ?_
      rintro e10 W10 ⟨rfl,h10⟩
      have H10':=Lib.hid h10
      clear h10 HX
      go_wp2_with fail
      refine (H10'.out.same fun O A cap hT=>cRoot_calls _ hT).mono ?_
      rintro e11 W11 ⟨rfl,h11⟩
      have H11:=Lib.hid h11
      clear h11 H10'
      go_wp2_with fail
      refine (H11.out.read fun O A cap hT=>cLeft_calls _ hT).mono ?_
      rintro e12 W12 ⟨rfl,h12⟩
      have H12:=Lib.hid h12
      clear h12 H11
      rw [HLF.out]
      rcases hxz with ⟨d3,d4,hx0⟩|⟨d3,d4,hx0⟩<;>
      (skip
       go_wp2_with fail
       refine (without_calls _ ds d.1 HL10.out _ (HK.out.below H12.out.bel)).mono ?_
       rintro e14 W14 ⟨A14,c14,rfl,hrd14,hb14⟩
       have H14:=Lib.hid (H12.out.below hb14)
       have HRD:=Lib.hid hrd14
       clear hrd14 hb14 H12
       go_wp2_with fail
       refine (H14.out.read fun O A cap hT=>check_calls x.root rate (lessD ds d.1) _ true HZ4.out HL3.out HL4.out _ hT.hA HRD.out).mono ?_
       rintro e15 W15 ⟨rfl,h15⟩
       have H15:=Lib.hid h15
       clear h15 H14 HRD
       go_wp2_with fail
       refine (H15.out.read fun O A cap hT=>check_calls root rate ds _ true HZ6.out HL10.out HR.out.txt50 _ hT.hA (HK.out.below H15.out.bel)).mono ?_
       rintro e16 W16 ⟨rfl,h16⟩
       have H16:=Lib.hid h16
       clear h16 H15
       go_wp2_with fail
       refine calls_gen fun V hV=> ?_
       have H17:=Lib.hid (H16.out.box _ hV)
       clear hV H16
       refine (H17.out.read fun O A cap hT=>counted_calls HZ2.out [x.root,root] (fun _ _=>rfl) (by simp) _ _ hT.hA (Rx.cells H17.out.at0 rfl)).mono ?_
       rintro e18 W18 ⟨rfl,h18⟩
       have H18:=Lib.hid h18
       clear h18 H17
       go_wp2_with fail
       refine (H18.out.act fun O A cap hT hR=>(cStop_calls x _ hT).mono fun e w' ⟨he,hD⟩=>⟨he,didr_of hR hD rfl⟩).mono ?_
       rintro e19 W19 ⟨rfl,h19⟩
       obtain ⟨A19,cap19,hst19⟩:=h19.st
       rw [HHE.out] at hst19
       have H19:=Lib.hid (hst19.less (L':=[]) (fun _ h=>by cases h))
       clear h19 hst19 H18)
      · replace hx0:=hx0.out
        rw [hx0]
        have hq3:=Q3.out;have hq4:=Q4.out
        rw [hx0,drop_zero] at hq3 hq4
        have Q3':=Lib.hid hq3;have Q4':=Lib.hid hq4
        clear hq3 hq4 hx0 d3 d4
        go_wp2_with fail
        refine (H19.out.write fun O hA=>drop_calls root _ hA).mono ?_
        rintro e21 W21 ⟨rfl,h21⟩
        have H21:=Lib.hid h21
        clear h21 H19
        rw [Q3'.out]
        go_wp2_with fail
        refine (H21.out.write fun O hA=>work_calls _ _ Q4'.out _ hA).mono ?_
        rintro e22 W22 ⟨rfl,h22⟩
        have H22:=Lib.hid h22
        clear h22 H21
        go_wp2_with fail
        refine (H22.out.same fun O hA=>used_calls _ hA).mono ?_
        rintro e23 W23 ⟨rfl,h23⟩
        have H23:=Lib.hid h23
        clear h23 H22
        rw [Q5.out]
        go_wp2_with fail
        go_ret
        exact ⟨rfl,H23.out.bel⟩
      · replace hx0:=hx0.out
        have d9:(x.root !=0)=true:=by simpa using hx0
        have HQ1:=Lib.hid (Q1.out hx0)
        clear hx0 d3 d4
        go_wp2_with fail
        refine (H19.out.write fun O hA=>drop_calls x.root _ hA).mono ?_
        rintro e20 W20 ⟨rfl,h20⟩
        have H20:=Lib.hid h20
        clear h20 H19
        rw [HQ1.out]
        go_wp2_with fail
        refine (H20.out.write fun O hA=>drop_calls root _ hA).mono ?_
        rintro e21 W21 ⟨rfl,h21⟩
        have H21:=Lib.hid h21
        clear h21 H20
        rw [Q3.out]
        go_wp2_with fail
        refine (H21.out.write fun O hA=>work_calls _ _ Q4.out _ hA).mono ?_
        rintro e22 W22 ⟨rfl,h22⟩
        have H22:=Lib.hid h22
        clear h22 H21
        go_wp2_with fail
        refine (H22.out.same fun O hA=>used_calls _ hA).mono ?_
        rintro e23 W23 ⟨rfl,h23⟩
        have H23:=Lib.hid h23
        clear h23 H22
        rw [Q5.out]
        go_wp2_with fail
        go_ret
        exact ⟨rfl,H23.out.bel⟩
end Go.Proofs.YtlboaaldggpjeaaGreat

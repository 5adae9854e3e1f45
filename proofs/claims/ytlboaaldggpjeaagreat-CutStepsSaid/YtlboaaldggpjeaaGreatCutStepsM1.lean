/- Part 1 of what CutSteps needs: the walks of the program's functions, and plain facts. -/
import Derived.Test.YtlboaaldggpjeaaGreatCoreM9
import Derived.Deep.Slices
import Derived.Deep.Fields
import Derived.ChangeSame
import Derived.WideShapes
set_option linter.unusedSimpArgs false
set_option linter.unusedVariables false
set_option linter.unnecessarySimpa false
namespace Go.Proofs.YtlboaaldggpjeaaGreat
open Go.RowKit Go.ChangeShapes Go.WideShapes Go.Deep
section
variable {H : Type} {enc : TypeId × Value → H} {P : Program} {w : World} {base : Nat} {spare : Nat → Bool} {held : Bool}
theorem open_slice_fields14 {t e : TypeId} {fs : Array Field} {fuel : Nat} {cs : List Value} {x : DataW H × List MemPlace} (ht : P.underlying t = some (.slice e)) (he : P.underlying e = some (.struct fs))
    (hone:oneCellFields P fs=true) (hC:P.cellsOf e=fs.size) (h:DataW.trod enc P w base spare held fuel t cs=some x):
    (cs=[.slice none 0 0]∧x=(.nil,[]))∨
    ∃(a:Addr) (len cap m:Nat) (D:Nat→DataW H) (Pl:Nat→List MemPlace),cs=[.slice (some a) len cap]∧base≤a.block∧len≤cap∧cap≤maxLen∧m=(if spare a.block then cap else len)∧
      x=(.slice ((List.range len).map D) ((List.range (m - len)).map fun j=>D (len+j)),MemPlace.row a (m*fs.size)++(List.range m).flatMap Pl)∧
      ∀i,i<m→ ∃(ys:List (DataW H×List MemPlace)) (n:Nat),D i= .agg (ys.map (·.1))∧Pl i=ys.flatMap (·.2)∧ys.length=fs.size∧
        ∀(j:Nat) (f:Field),fs[j]? =some f→ ∃(v:Value) (y:DataW H×List MemPlace),w.cell? (a.add (i*fs.size+j))=some v∧ys[j]? =some y∧DataW.trod enc P w base spare held n f.type [v]=some y:=by
  rcases open_slice ht h with h0|⟨a,len,cap,m,n,D,Pl,hcs,hb,hl,hm,hmm,hx,hi⟩
  · exact .inl h0
  · refine .inr ⟨a,len,cap,m,D,Pl,hcs,hb,hl,hm,hmm,by rw [hC] at hx;exact hx,fun i him=> ?_⟩
    obtain ⟨cs',hc,ht'⟩:=hi i him
    rw [hC] at hc
    obtain ⟨ys,n',hn',hy,hlen,hyl,hf⟩:=DataW.trod_struct he ht'
    obtain ⟨_,hcl,hat⟩:=World.cells?_some hc
    simp only [Prod.mk.injEq] at hy
    refine ⟨ys,n',hy.1,hy.2,hyl,fun j f hj=> ?_⟩
    obtain ⟨ho,hk⟩:=hone_of hone j f hj
    have hjl:j<fs.size:=(Array.getElem?_eq_some_iff.1 hj).1
    have hcell:=hat j hjl
    have hv:cs'[j]? =some (cs'[j]'(by omega)):=List.getElem?_eq_getElem (by omega)
    have h1:=hf j f hj
    rw [ho,hk] at h1
    have hone':(cs'.drop j).take 1=[cs'[j]'(by omega)]:=by
      rw [List.drop_eq_getElem_cons (by omega)]
      rfl
    rw [hone'] at h1
    have hys:ys[j]? =some (ys[j]'(by omega)):=List.getElem?_eq_getElem (by omega)
    refine ⟨_,_,?_,hys,h1.trans hys⟩
    rw [←Go.Deep.add_add,hcell,hv]
end
theorem str_of14 (s:ByteArray):Value.string s=strOf s.data.toList:=by unfold strOf;cases s;rfl
theorem add_one14 (a:Addr) (n:Nat):(⟨(a.add n).block,(a.add n).off+1,none⟩:Addr)=a.add (n+1):=by
  unfold Addr.add
  rw [if_neg (by omega: ¬n+1=0)]
  split
  · rename_i h;subst h;rfl
  · rfl
theorem read_docs14 {H : Type} {enc : TypeId × Value → H} {P : Program} {w : World} {held : Bool} {t e : TypeId} {f0 f1 : Field} {A : Option Addr} {len cap : Nat} {d : DataW H} {p : List MemPlace}
    (ht:P.underlying t=some (.slice e)) (he:P.underlying e=some (.struct #[f0,f1])) (hone:oneCellFields P #[f0,f1]=true) (hC:P.cellsOf e=2) (h0:P.underlying f0.type=some (.int .i64)) (h1:P.underlying f1.type=some .string)
    (h:DataW.Trod enc P w 0 (fun _=>true) held t (.slice A len cap) d p): ∃ds:List (Int×List UInt8),ds.length=len∧ds.length≤maxLen∧Rd2 w (.slice A len cap) ds∧IdOk ds:=by
  obtain ⟨m,hm⟩:=h
  have hlt:=DataW.trod_lt m _ _ _ hm
  simp only [Value.cells] at hm
  rcases open_slice_fields14 ht he hone hC hm with ⟨hc, -⟩|⟨a,l',c',m',D,Pl,hc, -,hl,hcm,hmm,hx,hi⟩
  · simp only [List.cons.injEq,Value.slice.injEq,and_true] at hc
    obtain ⟨rfl,rfl,rfl⟩:=hc
    exact ⟨[],rfl,by simp,⟨none,0,rfl,fun h=>absurd h (by simp)⟩,fun d hd=>by cases hd⟩
  · simp only [List.cons.injEq,Value.slice.injEq,and_true] at hc
    obtain ⟨rfl,rfl,rfl⟩:=hc
    have hmc:len≤m':=by rw [hmm];split<;>omega
    have key: ∀i,i<len→ ∃x:Int×List UInt8,(a.add (i*2)).block<w.heap.size∧w.cell? (a.add (i*2))=some (.int .i64 x.1)∧w.cell? ⟨(a.add (i*2)).block,(a.add (i*2)).off+1,none⟩=some (strOf x.2)∧(Lit.int .i64 x.1).wf=true:=by
      intro i hil
      obtain ⟨ys,n, -, -, -,hf⟩:=hi i (by omega)
      obtain ⟨v0,y0,c0, -,t0⟩:=hf 0 f0 rfl
      obtain ⟨v1,y1,c1, -,t1⟩:=hf 1 f1 rfl
      obtain ⟨x0,e0, -,w0⟩:=DataW.trod_int h0 t0
      obtain ⟨x1,e1, -, -⟩:=DataW.trod_string h1 t1
      simp only [List.cons.injEq,and_true] at e0 e1
      subst e0 e1
      refine ⟨(x0,x1.data.toList),?_,c0,?_,w0⟩
      · exact World.block_lt_of_cell? w _ c0
      · rw [←str_of14,add_one14];exact c1
    have hget: ∀i,(h:i<len)→((List.range len).map fun i=>if h:i<len then (key i h).choose else ((0:Int),([]:List UInt8)))[i]? =some (key i h).choose:=fun i h=>by
      rw [List.getElem?_map,List.getElem?_range h,Option.map_some,dif_pos h]
    have hlen:((List.range len).map fun i=>if h:i<len then (key i h).choose else ((0:Int),([]:List UInt8))).length=len:=by simp
    refine ⟨_,hlen,by rw [hlen];omega,⟨some a,cap,by rw [hlen],fun hn=>⟨a,rfl,?_,fun i d hd=> ?_⟩⟩,fun d hd=> ?_⟩
    · rw [hlen] at hn
      have:=(key 0 hn).choose_spec.1
      simpa [Addr.add] using this
    · have hil:i<len:=by rw [←hlen];exact (List.getElem?_eq_some_iff.1 hd).1
      rw [hget i hil] at hd
      obtain rfl:=Option.some.inj hd
      obtain ⟨a1,a2,a3, -⟩:=(key i hil).choose_spec
      exact ⟨a1,a2,a3⟩
    · obtain ⟨i,hi⟩:=List.getElem?_of_mem hd
      have hil:i<len:=by rw [←hlen];exact (List.getElem?_eq_some_iff.1 hi).1
      rw [hget i hil] at hi
      obtain rfl:=Option.some.inj hi
      exact (key i hil).choose_spec.2.2.2
end Go.Proofs.YtlboaaldggpjeaaGreat
namespace Go.Proofs.YtlboaaldggpjeaaGreat
open Go.RowKit
attribute [local go_sem ↓] Go.wp_at_zero Go.wp_at_succ
attribute [local go_sem] str_len
theorem stepsC_num {n G:Nat} (hG:G=n+1) (hn:n≤83):decide (1<(G:Int))=decide (n≠0)∧wrap64 ((G:Int) - 1)=(n:Int):=by
  subst hG
  refine ⟨?_,by rw [IntWalk.wrap64_in _ (by omega)];omega⟩
  rw [decide_eq_decide];omega
theorem StageC.done0 {x:Ct} {H:List Int} {ds:Docs} {k:Nat} {d:Int×List UInt8} {rate:Int} (h:StageC x H ds k d rate 0) (hR:Right ds) (h1:1≤rate) (h2:rate≤16):vCheck x.s x.root rate (ds.eraseIdx k)=some true∧x.left=0:=by
  rcases h with ⟨a,ha,hj,h3⟩|⟨m,hm,hj,h3⟩|⟨-,a,b,c,e⟩
  · omega
  · omega
  · exact ⟨c.check_own b (hR.era k) h1 h2,by unfold Ct.left;rw [a,if_pos rfl]⟩
set_option maxRecDepth 100000 in
set_option maxHeartbeats 8000000 in
theorem cutSteps_walk (A : Option Addr) (cap : Nat) (ds : Docs) (i rate : Int) (hl : ds.length ≤ maxLen) (hid : IdOk ds) (w : World) (h : Rd2 w (.slice A ds.length cap) ds) :
    Calls Tryz.prog 7 #[.slice A ds.length cap, .int .i64 i, .int .i64 rate] w fun e w'=>e= .returned (.bool true)∧Below w.heap.size w w':=by
  have HK:=Lib.hid h;clear h
  cases hf:few ds with
  | false=>
    have Hf:=Lib.hid hf;clear hf
    go_enter Tryz.func7,Tryz.ntmps7
    go_wp2_with fail
    refine (few_calls _ ds hl _ HK.out).mono ?_
    rintro e0 W0 ⟨rfl,hb1⟩
    rw [Hf.out]
    have HB0:=Lib.hid hb1;clear hb1
    go_wp2_with fail
    refine (alive14_calls _).mono ?_
    rintro e1 W1 ⟨rfl,hb1⟩
    have HB1:=Lib.hid (below_step HB0.out hb1);clear hb1
    go_wp2_with fail
    go_ret
    exact ⟨rfl,HB1.out⟩
  | true=>
    have Hf:=Lib.hid hf
    have hcase : (((ds.length : Int) == 0) = true ∨ (((ds.length : Int) == 0) = false ∧ (decide (rate < 1) = true ∨ (decide (rate < 1) = false ∧ decide (16 < rate) = true)))) ∨
        (((ds.length:Int)==0)=false∧decide (rate<1)=false∧decide (16<rate)=false):=by
      simp only [decide_eq_true_eq,decide_eq_false_iff_not,beq_iff_eq,beq_eq_false_iff_ne,ne_eq];omega
    rcases hcase with hno|⟨d0,d1,d2⟩
    · clear hf
      rcases hno with d0|⟨d0,d1|⟨d1,d2⟩⟩<;>
      (go_enter Tryz.func7,Tryz.ntmps7
       go_wp2_with fail
       refine (few_calls _ ds hl _ HK.out).mono ?_
       rintro e0 W0 ⟨rfl,hb1⟩
       rw [Hf.out]
       have HB0:=Lib.hid hb1;clear hb1
       go_wp2_with fail
       refine (alive14_calls _).mono ?_
       rintro e2 W2 ⟨rfl,hb2⟩
       have HB2:=Lib.hid (below_step HB0.out hb2)
       clear hb2
       go_wp2_with fail
       go_ret
       exact ⟨rfl,HB2.out⟩)
    have hb8:1≤ds.length∧1≤rate∧rate≤16:=by
      simp only [decide_eq_false_iff_not,beq_eq_false_iff_ne,ne_eq] at d0 d1 d2;omega
    obtain ⟨n0,n1,n2⟩:=hb8
    obtain ⟨j,d,PK⟩:=pick_of hf hid n0 i HK.out
    obtain ⟨ad,rfl⟩:=PK.out.ad
    have H2:=Lib.hid n1;have H3:=Lib.hid n2
    clear hf n0 n1 n2
    go_enter Tryz.func7,Tryz.ntmps7
    go_wp2_with fail
    refine (few_calls _ ds hl _ HK.out).mono ?_
    rintro e0 W0 ⟨rfl,hb1⟩
    rw [Hf.out]
    have HB0:=Lib.hid hb1;clear hb1
    go_wp2_with fail
    refine (alive14_calls _).mono ?_
    rintro e2 W2 ⟨rfl,hb2⟩
    have HB2:=Lib.hid (below_step HB0.out hb2)
    clear hb2 d0 d1 d2
    go_wp2_with fail
    refine (new_calls 6000 (by omega) (by omega) _).mono ?_
    rintro e3 W3 ⟨p,O,rfl,hA,hO,hb3⟩
    have HS3:Hid (St w W3 (.pointer (some ⟨p,0,none⟩)) (Ar.new 6000) []):=Lib.hid (St.new (below_step HB2.out hb3) hA fun b hb=>Nat.le_trans HB2.out.size (hO b hb))
    clear hA hO hb3
    go_wp2_with fail
    refine (bldS_calls 6000 (by omega) (by omega) HS3.out rate H2.out (by have:=H3.out;omega) ds PK.out.right PK.out.tot (some ad) cap HK.out).mono ?_
    rintro e4 W4 ⟨root,s,rfl,hS,hI,hwt,hsz,hv,hroot⟩
    obtain ⟨c1,c2⟩:=PK.out.cells (HK.out.below hS.bel)
    obtain ⟨r,r1,r2,r3,r4,r5,r6⟩:=newC_in hI hv PK.out.right PK.out.sel
    have hbz:=hv.busy hI hwt
    have hrw:=PK.out.rows;have hl10:=PK.out.len
    have hlg:=newC0_T hI hv hsz (by omega) PK.out.sel (by omega) hl10
    obtain ⟨x0,hx0⟩: ∃x0,Ct.new s root d.1 (d.2.length:Int) (j:Int)=x0:=⟨_,rfl⟩
    rw [hx0] at hlg
    have HLG:=Lib.hid hlg
    have HS4:=Lib.hid hS
    have R1:=Lib.hid r1;have R2:=Lib.hid r2;have R3:=Lib.hid r3;have R4:=Lib.hid r4;have R5:=Lib.hid r5
    have HX0:Hid (Ct.new s root d.1 r.1.2 (j:Int)=x0):=Lib.hid (by rw [r6];exact hx0)
    have h40:=PK.out.d40
    have HW2:Hid (wrap64 (2*(d.2.length:Int))=2*(d.2.length:Int)):=Lib.hid (IntWalk.wrap64_in _ (by omega))
    obtain ⟨N,hN⟩: ∃N,2*d.2.length+2=N:=⟨_,rfl⟩
    have HW3:Hid (wrap64 (2*(d.2.length:Int)+3)=(N:Int)+1):=Lib.hid (by rw [IntWalk.wrap64_in _ (by omega)];omega)
    have HLF:Hid (x0.left=(N:Int)+1):=Lib.hid (by rw [hlg.st.left PK.out.right PK.out.sel];omega)
    have HNB:Hid (N≤83):=Lib.hid (by omega)
    have HLG2:Hid (LoopC root [root] ds j d rate (N+1) x0):=Lib.hid (by rw [show N+1=2*d.2.length+3 by omega];exact hlg)
    clear HLG
    clear hS hI hwt hsz hv hroot r1 r2 r3 r4 r5 r6 hbz hrw hl10 hlg hx0 h40 hN
    obtain ⟨t1,t2,t3,t4,t5⟩:=PK.out.num
    go_wp2_with fail
    rw [show Value.string ⟨d.2.toArray⟩=strOf d.2 from rfl]
    refine calls_gen fun V5 hV5=> ?_
    have HS5:=Lib.hid (HS4.out.box _ hV5)
    clear hV5 c1 c2 t1 t2 t3 t4 t5
    obtain ⟨gd,hgd⟩: ∃gd,W4.heap.size=gd:=⟨_,rfl⟩
    rw [hgd] at HS5⊢
    clear hgd
    have hcon:=HS5.out.cut root rate d.1 (j:Int) (docsM ds) r R1.out R2.out R3.out H2.out H3.out R4.out R5.out
    rw [HX0.out] at hcon
    have HCON:=Lib.hid hcon
    clear hcon HS4 HS5 R1 R2 R3 R4 R5 HX0
    refine HCON.out.mono ?_
    rintro e6 W6 ⟨b,rfl,h6⟩
    have H6:=Lib.hid h6
    have kd:W6.heap[gd]? =some (.cells #[.int .i64 d.1, .string ⟨d.2.toArray⟩] 31 (0,0)):=h6.at0
    obtain ⟨c_kd,f_kd,l_kd⟩:=f3 kd
    clear kd h6 HCON
    go_upto_region 7 with fail
    have hB:=Below.refl w.heap.size w
    refine edr 20 (fun v=>HeldB W6 v) (HeldB.start W6) fun X hX hHeld=> ?_
    clear hX
    refine eta 0 (HeldB.ext W6) hHeld fun X hX hHeld=> ?_
    clear hX
    refine eta 1 (HeldB.ext W6) hHeld fun X hX hHeld=> ?_
    clear hX
    refine eta 2 (HeldB.ext W6) hHeld fun X hX hHeld=> ?_
    clear hX
    refine eta 3 (HeldB.ext W6) hHeld fun X hX hHeld=> ?_
    clear hX
    refine eta 4 (HeldB.ext W6) hHeld fun X hX hHeld=> ?_
    clear hX
    refine eta 5 (HeldB.ext W6) hHeld fun X hX hHeld=> ?_
    clear hX
    refine eta 6 (HeldB.ext W6) hHeld fun X hX hHeld=> ?_
    clear hX
    refine eta 7 (HeldB.ext W6) hHeld fun X hX hHeld=> ?_
    clear hX
    refine eta 8 (HeldB.ext W6) hHeld fun X hX hHeld=> ?_
    clear hX
    refine eta 9 (HeldB.ext W6) hHeld fun X hX hHeld=> ?_
    clear hX
    refine eta 10 (HeldB.ext W6) hHeld fun X hX hHeld=> ?_
    clear hX
    refine eta 11 (HeldB.ext W6) hHeld fun X hX hHeld=> ?_
    clear hX
    refine eca 12 (f:= ?_) (args:= ?_) (v:= ?_) (HeldB.ext W6) hHeld ?_ (fun v hSv=> ?_) fun X hX hHeld=> ?_
    rotate_left 3
    focus (intro v hSv;go_simp;constructor<;>with_reducible rfl)
    focus (exact H6.out.leftE v hSv)
    clear hX
    refine eta 13 (HeldB.ext W6) hHeld fun X hX hHeld=> ?_
    clear hX
    refine eta 14 (HeldB.ext W6) hHeld fun X hX hHeld=> ?_
    clear hX
    refine eta 15 (HeldB.ext W6) hHeld fun X hX hHeld=> ?_
    clear hX
    refine eta 16 (HeldB.ext W6) hHeld fun X hX hHeld=> ?_
    clear hX
    refine eta 17 (HeldB.ext W6) hHeld fun X hX hHeld=> ?_
    clear hX
    try simp only [IntWalk.i64_left]
    rw [HW2.out,HW3.out,HLF.out]
    refine eta 18 (HeldB.ext W6) hHeld fun X hX hHeld=> ?_
    clear hX
    refine eta 19 (HeldB.ext W6) hHeld fun X hX hHeld=> ?_
    clear hX
    refine ewd ?_
    have H7:=Lib.hid (H6.out.below hHeld.1)
    clear hHeld c_kd f_kd H6
    go_wp2_with fail
    refine (H7.out.read fun O A cap hT=>cLeft_calls _ hT).mono ?_
    rintro e8 W8 ⟨rfl,h8⟩
    have H8:=Lib.hid h8
    clear h8 H7
    rw [HLF.out]
    go_wp2_with fail
    clear HW2 HW3 HLF
    go_loopg [13,14,15] N (fun m c13 c14 c15 wr=> ∃(n G:Nat) (x:Ct),c13= .int .i64 (G:Int)∧G=n+1∧n=m∧n≤N∧Hid (Sc w wr (.pointer (some ⟨p,0,none⟩)) b x [(gd, .cells #[.int .i64 d.1,strOf d.2] 31 (0,0))]∧LoopC root [root] ds j d rate (n+1) x))
    case atStart=>exact ⟨N,N+1,x0,rfl,rfl,rfl,Nat.le_refl _,Lib.hid ⟨H8.out,HLG2.out⟩⟩
    case round=>
      obtain ⟨n,G,x,rfl,hG,hk,hnN,HX⟩:=hrel
      clear H8 HLG2
      obtain ⟨y,u,y4,y5,y6,y7,y8,y9⟩:=HX.out.2.next PK.out.right PK.out.sel (by have:=PK.out.rows;omega) PK.out.len
      have y1:=y7.left PK.out.right PK.out.sel
      have HY1:=Lib.hid y1;have HY4:=Lib.hid y4;have HY5:=Lib.hid y5;have HY6:=Lib.hid y6;have HY7:=Lib.hid y7
      have HCK:Hid (vCheck y.s root rate ds=some true):=Lib.hid ((y9 (by simp)).check_own y7.inv PK.out.right H2.out H3.out)
      have HOK:Hid (CtOk x):=Lib.hid (HX.out.2.st.ok PK.out.right PK.out.sel)
      have HL10:Hid (ds.length≤50000):=Lib.hid (by have:=PK.out.len;omega)
      clear y1 y4 y5 y6 y7 y8 y9
      have hnum:=stepsC_num hG (by have:=HNB.out;omega)
      cases n with
      | succ n=>
        obtain ⟨q1,q2⟩:=hnum
        rw [decide_eq_true (show n+1≠0 by omega)] at q1
        have hz:=HY7.out.root0
        have HRZ:=Lib.hid hz;have HQ2:=Lib.hid q2
        rw [decide_eq_false (show¬n+1=0 by omega)] at HY4
        obtain ⟨m,rfl⟩: ∃m,gk=m+1:=⟨gk - 1,by omega⟩
        have HM:Hid (n=m∧n≤N):=Lib.hid (by omega)
        clear hz hk hnN hG
        obtain ⟨F,hF⟩: ∃F:Nat,n+1=F:=⟨_,rfl⟩
        rw [hF] at q2 HY1 HQ2
        have HF:=Lib.hid hF
        clear hF
        go_wp2_with fail
        refine (HX.out.1.act fun O A cap hT hR=>cStep_calls x HOK.out _ HY4.out _ hT hR).mono ?_
        rintro e9 W9 ⟨rfl,h9⟩
        have H9:=Lib.hid h9
        clear h9
        go_wp2_with fail
        refine (H9.out.read fun O A cap hT=>cLeft_calls _ hT).mono ?_
        rintro e10 W10 ⟨rfl,h10⟩
        have H10:=Lib.hid h10
        clear h10 H9
        rw [HY1.out]
        go_wp2_with fail
        refine (H10.out.same fun O A cap hT=>cRoot_calls _ hT).mono ?_
        rintro e11 W11 ⟨rfl,h11⟩
        have H11:=Lib.hid h11
        clear h11 H10
        rw [HRZ.out]
        go_wp2_with fail
        refine (H11.out.read fun O A cap hT=>check_calls root rate ds _ true HCK.out HL10.out PK.out.right.txt50 _ hT.hA (HK.out.below H11.out.bel)).mono ?_
        rintro e12 W12 ⟨rfl,h12⟩
        have H12:=Lib.hid h12
        clear h12 H11
        go_wp2_with fail
        refine (H12.out.write fun O hA=>work_calls _ _ HY5.out _ hA).mono ?_
        rintro e13 W13 ⟨rfl,h13⟩
        have H13:=Lib.hid h13
        clear h13 H12
        go_wp2_with fail
        have q2:=HQ2.out
        go_roundg m
        case measure=>omega
        case rel=>exact ⟨n,F,_,by first|rfl|(rw [q2]),HF.out.symm,HM.out.1,HM.out.2,Lib.hid ⟨H13.out,by first|exact HY6.out|exact HF.out▸HY6.out⟩⟩
      | zero=>
        obtain ⟨q1, -⟩:=hnum
        rw [decide_eq_false (show¬(0:Nat)≠0 by omega)] at q1
        rw [decide_eq_true rfl] at HY4
        obtain ⟨z1,z2⟩:=HY7.out.done0 PK.out.right H2.out H3.out
        obtain ⟨l1,l2,l3,l4⟩:=PK.out.less
        rw [←l1] at z1
        have HZ1:=Lib.hid z1;have HZ2:=Lib.hid z2;have HL3:=Lib.hid l3;have HL4:=Lib.hid l4
        clear z1 z2 l1 l2 l3 l4 hk hnN hG
        go_wp2_with fail
        refine (HX.out.1.act fun O A cap hT hR=>cStep_calls x HOK.out _ HY4.out _ hT hR).mono ?_
        rintro e9 W9 ⟨rfl,h9⟩
        have H9:=Lib.hid h9
        have kd:=h9.at0
        clear h9 HX
        obtain ⟨c_kd,f_kd,l_kd⟩:=f3 kd
        clear kd
        go_upto_region 17 with fail
        have hB:=Below.refl w.heap.size w
        refine edr 22 (fun v=>HeldB W9 v) (HeldB.start W9) fun X hX hHeld=> ?_
        clear hX
        refine eta 0 (HeldB.ext W9) hHeld fun X hX hHeld=> ?_
        clear hX
        refine eta 1 (HeldB.ext W9) hHeld fun X hX hHeld=> ?_
        clear hX
        refine eta 2 (HeldB.ext W9) hHeld fun X hX hHeld=> ?_
        clear hX
        refine eta 3 (HeldB.ext W9) hHeld fun X hX hHeld=> ?_
        clear hX
        refine eta 4 (HeldB.ext W9) hHeld fun X hX hHeld=> ?_
        clear hX
        refine eta 5 (HeldB.ext W9) hHeld fun X hX hHeld=> ?_
        clear hX
        refine eta 6 (HeldB.ext W9) hHeld fun X hX hHeld=> ?_
        clear hX
        refine eca 7 (f:= ?_) (args:= ?_) (v:= ?_) (HeldB.ext W9) hHeld ?_ (fun v hSv=> ?_) fun X hX hHeld=> ?_
        rotate_left 3
        focus (intro v hSv;go_simp;constructor<;>with_reducible rfl)
        focus (exact H9.out.leftE v hSv)
        clear hX
        rw [HZ2.out]
        refine eta 8 (HeldB.ext W9) hHeld fun X hX hHeld=> ?_
        clear hX
        refine eta 9 (HeldB.ext W9) hHeld fun X hX hHeld=> ?_
        clear hX
        refine eta 10 (HeldB.ext W9) hHeld fun X hX hHeld=> ?_
        clear hX
        refine eta 11 (HeldB.ext W9) hHeld fun X hX hHeld=> ?_
        clear hX
        refine eta 12 (HeldB.ext W9) hHeld fun X hX hHeld=> ?_
        clear hX
        refine eca 13 (f:= ?_) (args:= ?_) (v:= ?_) (HeldB.ext W9) hHeld ?_ (fun v hSv=> ?_) fun X hX hHeld=> ?_
        rotate_left 3
        focus (intro v hSv;go_simp;constructor<;>with_reducible rfl)
        focus (exact H9.out.rootE v hSv)
        clear hX
        refine eta 14 (HeldB.ext W9) hHeld fun X hX hHeld=> ?_
        clear hX
        refine eta 15 (HeldB.ext W9) hHeld fun X hX hHeld=> ?_
        clear hX
        refine eta 16 (HeldB.ext W9) hHeld fun X hX hHeld=> ?_
        clear hX
        refine eta 17 (HeldB.ext W9) hHeld fun X hX hHeld=> ?_
        clear hX
        clear c_kd f_kd
        refine erd (rs:=[18]) (by kernel_rfl) (by simp) (eall rfl (fun K hK=> ?_) (fun _ h=>by cases h))
        go_simp
        refine (without_calls _ ds d.1 HL10.out _ (HK.out.below ((H9.out.below hHeld.1).bel))).mono ?_
        rintro e14 X14 ⟨A14,c14,rfl,hrd14,hb14⟩
        have hHeld14:=HeldB.call hHeld hb14
        refine eho hK hHeld14 fun Y14 hY14=> ?_
        replace hHeld:=HeldB.ext _ _ _ hHeld14 hY14
        have HRD:=Lib.hid (hrd14.below hY14)
        clear hHeld14 hrd14 hb14 hY14 hK K
        refine erd (rs:=[19]) (by kernel_rfl) (by simp) (eall rfl (fun K hK=> ?_) (fun _ h=>by cases h))
        go_simp
        obtain ⟨O9,A9,cap9,hT9, -⟩:=(H9.out.below hHeld.1).ex
        refine (check_calls y.root rate (lessD ds d.1) _ true HZ1.out HL3.out HL4.out _ hT9.hA HRD.out).mono ?_
        rintro e15 X15 ⟨rfl,hb15⟩
        have hHeld15:=HeldB.call hHeld hb15
        refine eho hK hHeld15 fun Y15 hY15=> ?_
        replace hHeld:=HeldB.ext _ _ _ hHeld15 hY15
        clear hHeld15 hb15 hY15 hK K hT9 HRD
        refine eta 20 (HeldB.ext W9) hHeld fun X hX hHeld=> ?_
        clear hX
        refine eta 21 (HeldB.ext W9) hHeld fun X hX hHeld=> ?_
        clear hX
        refine ewd ?_
        have HBE:=Lib.hid (below_step H9.out.bel hHeld.1)
        go_wp2_with fail
        go_ret
        exact ⟨rfl,HBE.out⟩
end Go.Proofs.YtlboaaldggpjeaaGreat

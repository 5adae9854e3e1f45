/- Part 1 of what CutHeld needs: the walks of the program's functions, and plain facts. -/
import Derived.Test.YtlboaaldggpjeaaGreatCoreM9
import Derived.Deep.Slices
import Derived.Deep.Fields
import Derived.ChangeSame
import Derived.WideShapes
set_option linter.unusedSimpArgs false
set_option linter.unusedVariables false
set_option linter.unnecessarySimpa false
namespace Go.Proofs.YtlboaaldggpjeaaGreat
open Go.RowKit Go.ChangeShapes Go.WideShapes Go.Deep
section
variable {H : Type} {enc : TypeId × Value → H} {P : Program} {w : World} {base : Nat} {spare : Nat → Bool} {held : Bool}
theorem open_slice_fields14 {t e : TypeId} {fs : Array Field} {fuel : Nat} {cs : List Value} {x : DataW H × List MemPlace} (ht : P.underlying t = some (.slice e)) (he : P.underlying e = some (.struct fs))
    (hone:oneCellFields P fs=true) (hC:P.cellsOf e=fs.size) (h:DataW.trod enc P w base spare held fuel t cs=some x):
    (cs=[.slice none 0 0]∧x=(.nil,[]))∨
    ∃(a:Addr) (len cap m:Nat) (D:Nat→DataW H) (Pl:Nat→List MemPlace),cs=[.slice (some a) len cap]∧base≤a.block∧len≤cap∧cap≤maxLen∧m=(if spare a.block then cap else len)∧
      x=(.slice ((List.range len).map D) ((List.range (m - len)).map fun j=>D (len+j)),MemPlace.row a (m*fs.size)++(List.range m).flatMap Pl)∧
      ∀i,i<m→ ∃(ys:List (DataW H×List MemPlace)) (n:Nat),D i= .agg (ys.map (·.1))∧Pl i=ys.flatMap (·.2)∧ys.length=fs.size∧
        ∀(j:Nat) (f:Field),fs[j]? =some f→ ∃(v:Value) (y:DataW H×List MemPlace),w.cell? (a.add (i*fs.size+j))=some v∧ys[j]? =some y∧DataW.trod enc P w base spare held n f.type [v]=some y:=by
  rcases open_slice ht h with h0|⟨a,len,cap,m,n,D,Pl,hcs,hb,hl,hm,hmm,hx,hi⟩
  · exact .inl h0
  · refine .inr ⟨a,len,cap,m,D,Pl,hcs,hb,hl,hm,hmm,by rw [hC] at hx;exact hx,fun i him=> ?_⟩
    obtain ⟨cs',hc,ht'⟩:=hi i him
    rw [hC] at hc
    obtain ⟨ys,n',hn',hy,hlen,hyl,hf⟩:=DataW.trod_struct he ht'
    obtain ⟨_,hcl,hat⟩:=World.cells?_some hc
    simp only [Prod.mk.injEq] at hy
    refine ⟨ys,n',hy.1,hy.2,hyl,fun j f hj=> ?_⟩
    obtain ⟨ho,hk⟩:=hone_of hone j f hj
    have hjl:j<fs.size:=(Array.getElem?_eq_some_iff.1 hj).1
    have hcell:=hat j hjl
    have hv:cs'[j]? =some (cs'[j]'(by omega)):=List.getElem?_eq_getElem (by omega)
    have h1:=hf j f hj
    rw [ho,hk] at h1
    have hone':(cs'.drop j).take 1=[cs'[j]'(by omega)]:=by
      rw [List.drop_eq_getElem_cons (by omega)]
      rfl
    rw [hone'] at h1
    have hys:ys[j]? =some (ys[j]'(by omega)):=List.getElem?_eq_getElem (by omega)
    refine ⟨_,_,?_,hys,h1.trans hys⟩
    rw [←Go.Deep.add_add,hcell,hv]
end
theorem str_of14 (s:ByteArray):Value.string s=strOf s.data.toList:=by unfold strOf;cases s;rfl
theorem add_one14 (a:Addr) (n:Nat):(⟨(a.add n).block,(a.add n).off+1,none⟩:Addr)=a.add (n+1):=by
  unfold Addr.add
  rw [if_neg (by omega: ¬n+1=0)]
  split
  · rename_i h;subst h;rfl
  · rfl
theorem read_docs14 {H : Type} {enc : TypeId × Value → H} {P : Program} {w : World} {held : Bool} {t e : TypeId} {f0 f1 : Field} {A : Option Addr} {len cap : Nat} {d : DataW H} {p : List MemPlace}
    (ht:P.underlying t=some (.slice e)) (he:P.underlying e=some (.struct #[f0,f1])) (hone:oneCellFields P #[f0,f1]=true) (hC:P.cellsOf e=2) (h0:P.underlying f0.type=some (.int .i64)) (h1:P.underlying f1.type=some .string)
    (h:DataW.Trod enc P w 0 (fun _=>true) held t (.slice A len cap) d p): ∃ds:List (Int×List UInt8),ds.length=len∧ds.length≤maxLen∧Rd2 w (.slice A len cap) ds∧IdOk ds:=by
  obtain ⟨m,hm⟩:=h
  have hlt:=DataW.trod_lt m _ _ _ hm
  simp only [Value.cells] at hm
  rcases open_slice_fields14 ht he hone hC hm with ⟨hc, -⟩|⟨a,l',c',m',D,Pl,hc, -,hl,hcm,hmm,hx,hi⟩
  · simp only [List.cons.injEq,Value.slice.injEq,and_true] at hc
    obtain ⟨rfl,rfl,rfl⟩:=hc
    exact ⟨[],rfl,by simp,⟨none,0,rfl,fun h=>absurd h (by simp)⟩,fun d hd=>by cases hd⟩
  · simp only [List.cons.injEq,Value.slice.injEq,and_true] at hc
    obtain ⟨rfl,rfl,rfl⟩:=hc
    have hmc:len≤m':=by rw [hmm];split<;>omega
    have key: ∀i,i<len→ ∃x:Int×List UInt8,(a.add (i*2)).block<w.heap.size∧w.cell? (a.add (i*2))=some (.int .i64 x.1)∧w.cell? ⟨(a.add (i*2)).block,(a.add (i*2)).off+1,none⟩=some (strOf x.2)∧(Lit.int .i64 x.1).wf=true:=by
      intro i hil
      obtain ⟨ys,n, -, -, -,hf⟩:=hi i (by omega)
      obtain ⟨v0,y0,c0, -,t0⟩:=hf 0 f0 rfl
      obtain ⟨v1,y1,c1, -,t1⟩:=hf 1 f1 rfl
      obtain ⟨x0,e0, -,w0⟩:=DataW.trod_int h0 t0
      obtain ⟨x1,e1, -, -⟩:=DataW.trod_string h1 t1
      simp only [List.cons.injEq,and_true] at e0 e1
      subst e0 e1
      refine ⟨(x0,x1.data.toList),?_,c0,?_,w0⟩
      · exact World.block_lt_of_cell? w _ c0
      · rw [←str_of14,add_one14];exact c1
    have hget: ∀i,(h:i<len)→((List.range len).map fun i=>if h:i<len then (key i h).choose else ((0:Int),([]:List UInt8)))[i]? =some (key i h).choose:=fun i h=>by
      rw [List.getElem?_map,List.getElem?_range h,Option.map_some,dif_pos h]
    have hlen:((List.range len).map fun i=>if h:i<len then (key i h).choose else ((0:Int),([]:List UInt8))).length=len:=by simp
    refine ⟨_,hlen,by rw [hlen];omega,⟨some a,cap,by rw [hlen],fun hn=>⟨a,rfl,?_,fun i d hd=> ?_⟩⟩,fun d hd=> ?_⟩
    · rw [hlen] at hn
      have:=(key 0 hn).choose_spec.1
      simpa [Addr.add] using this
    · have hil:i<len:=by rw [←hlen];exact (List.getElem?_eq_some_iff.1 hd).1
      rw [hget i hil] at hd
      obtain rfl:=Option.some.inj hd
      obtain ⟨a1,a2,a3, -⟩:=(key i hil).choose_spec
      exact ⟨a1,a2,a3⟩
    · obtain ⟨i,hi⟩:=List.getElem?_of_mem hd
      have hil:i<len:=by rw [←hlen];exact (List.getElem?_eq_some_iff.1 hi).1
      rw [hget i hil] at hi
      obtain rfl:=Option.some.inj hi
      exact (key i hil).choose_spec.2.2.2
end Go.Proofs.YtlboaaldggpjeaaGreat
namespace Go.Proofs.YtlboaaldggpjeaaGreat
open Go.RowKit
attribute [local go_sem ↓] Go.wp_at_zero Go.wp_at_succ
attribute [local go_sem] str_len
theorem holdC_num {k gk S:Nat} (hk:k+gk=S) (hkS:k<S) (hS:S≤100):(∃m,gk=m+1)∧wrap64 ((k:Int)+1)=(k:Int)+1∧decide ((k:Int)<(S:Int))=true:=
  ⟨⟨gk - 1,by omega⟩,IntWalk.wrap64_in _ (by omega),by simpa using hkS⟩
set_option maxRecDepth 100000 in
set_option maxHeartbeats 8000000 in
theorem cutHeld_walk (A : Option Addr) (cap : Nat) (ds : Docs) (i rate steps : Int) (hl : ds.length ≤ maxLen) (hid : IdOk ds) (w : World) (h : Rd2 w (.slice A ds.length cap) ds) :
    Calls Tryz.prog 13 #[.slice A ds.length cap, .int .i64 i, .int .i64 rate, .int .i64 steps] w fun e w'=>e= .returned (.bool true)∧Below w.heap.size w w':=by
  have HK:=Lib.hid h;clear h
  cases hf:few ds with
  | false=>
    have Hf:=Lib.hid hf;clear hf
    go_enter Tryz.func13,Tryz.ntmps13
    go_wp2_with fail
    refine (few_calls _ ds hl _ HK.out).mono ?_
    rintro e0 W0 ⟨rfl,hb1⟩
    rw [Hf.out]
    have HB0:=Lib.hid hb1;clear hb1
    go_wp2_with fail
    refine (alive14_calls _).mono ?_
    rintro e1 W1 ⟨rfl,hb1⟩
    have HB1:=Lib.hid (below_step HB0.out hb1);clear hb1
    go_wp2_with fail
    go_ret
    exact ⟨rfl,HB1.out⟩
  | true=>
    have Hf:=Lib.hid hf
    have hcase : (((ds.length : Int) == 0) = true ∨ (((ds.length : Int) == 0) = false ∧ (decide (rate < 1) = true ∨ (decide (rate < 1) = false ∧ (decide (16 < rate) = true ∨ (decide (16 < rate) = false ∧ (decide (steps < 0) = true ∨ (decide (steps < 0) = false ∧ decide (100 < steps) = true)))))))) ∨
        (((ds.length:Int)==0)=false∧decide (rate<1)=false∧decide (16<rate)=false∧decide (steps<0)=false∧decide (100<steps)=false):=by
      simp only [decide_eq_true_eq,decide_eq_false_iff_not,beq_iff_eq,beq_eq_false_iff_ne,ne_eq];omega
    rcases hcase with hno|⟨d0,d1,d2,d3,d4⟩
    · clear hf
      rcases hno with d0|⟨d0,d1|⟨d1,d2|⟨d2,d3|⟨d3,d4⟩⟩⟩⟩<;>
      (go_enter Tryz.func13,Tryz.ntmps13
       go_wp2_with fail
       refine (few_calls _ ds hl _ HK.out).mono ?_
       rintro e0 W0 ⟨rfl,hb1⟩
       rw [Hf.out]
       have HB0:=Lib.hid hb1;clear hb1
       go_wp2_with fail
       refine (alive14_calls _).mono ?_
       rintro e2 W2 ⟨rfl,hb2⟩
       have HB2:=Lib.hid (below_step HB0.out hb2)
       clear hb2
       go_wp2_with fail
       go_ret
       exact ⟨rfl,HB2.out⟩)
    have hb8:1≤ds.length∧1≤rate∧rate≤16∧0≤steps∧steps≤100:=by
      simp only [decide_eq_false_iff_not,beq_eq_false_iff_ne,ne_eq] at d0 d1 d2 d3 d4;omega
    obtain ⟨n0,n1,n2,n3,n4⟩:=hb8
    obtain ⟨j,d,PK⟩:=pick_of hf hid n0 i HK.out
    obtain ⟨ad,rfl⟩:=PK.out.ad
    obtain ⟨S,rfl⟩: ∃S:Nat,steps=(S:Int):=⟨steps.toNat,by omega⟩
    have HS:=Lib.hid (show S≤100 by omega)
    have H2:=Lib.hid n1;have H3:=Lib.hid n2
    clear hf n0 n1 n2 n3 n4
    go_enter Tryz.func13,Tryz.ntmps13
    go_wp2_with fail
    refine (few_calls _ ds hl _ HK.out).mono ?_
    rintro e0 W0 ⟨rfl,hb1⟩
    rw [Hf.out]
    have HB0:=Lib.hid hb1;clear hb1
    go_wp2_with fail
    refine (alive14_calls _).mono ?_
    rintro e2 W2 ⟨rfl,hb2⟩
    have HB2:=Lib.hid (below_step HB0.out hb2)
    clear hb2 d0 d1 d2 d3 d4
    go_wp2_with fail
    refine (new_calls 6000 (by omega) (by omega) _).mono ?_
    rintro e3 W3 ⟨p,O,rfl,hA,hO,hb3⟩
    have HS3:Hid (St w W3 (.pointer (some ⟨p,0,none⟩)) (Ar.new 6000) []):=Lib.hid (St.new (below_step HB2.out hb3) hA fun b hb=>Nat.le_trans HB2.out.size (hO b hb))
    clear hA hO hb3
    go_wp2_with fail
    refine (bldS_calls 6000 (by omega) (by omega) HS3.out rate H2.out (by have:=H3.out;omega) ds PK.out.right PK.out.tot (some ad) cap HK.out).mono ?_
    rintro e4 W4 ⟨root,s,rfl,hS,hI,hwt,hsz,hv,hroot⟩
    obtain ⟨c1,c2⟩:=PK.out.cells (HK.out.below hS.bel)
    obtain ⟨r,r1,r2,r3,r4,r5,r6⟩:=newC_in hI hv PK.out.right PK.out.sel
    have hbz:=hv.busy hI hwt
    have hrw:=PK.out.rows;have hl10:=PK.out.len
    have hlg:=newC1_T hI hv hsz (by omega) PK.out.sel (by omega) hl10
    obtain ⟨x0,hx0⟩: ∃x0,Ct.new s root d.1 (d.2.length:Int) (j:Int)=x0:=⟨_,rfl⟩
    have hr0:root≠0:=fun e=>by have:=hroot.1 e;have:=PK.out.pos;rw [‹ds=[]›] at this;simp at this
    have HC0:Hid (x0.s.cntE root=0):=Lib.hid (by
      have hk:=keep1 (k:=root) hI (by simp) (fun e=>hI.pos (by simp) e)
      rw [←hx0]
      show (s.keep root).cntE root=0
      unfold Ar.cntE;rw [if_neg (hk.1.pos (by simp) hr0)])
    rw [hx0] at hlg
    have HLG:=Lib.hid hlg;have HR0:=Lib.hid hr0
    have HS4:=Lib.hid hS
    have R1:=Lib.hid r1;have R2:=Lib.hid r2;have R3:=Lib.hid r3;have R4:=Lib.hid r4;have R5:=Lib.hid r5
    have HX0:Hid (Ct.new s root d.1 r.1.2 (j:Int)=x0):=Lib.hid (by rw [r6];exact hx0)
    clear hS hI hwt hsz hv hroot r1 r2 r3 r4 r5 r6 hbz hrw hl10 hlg hx0 hr0
    obtain ⟨t1,t2,t3,t4,t5⟩:=PK.out.num
    go_wp2_with fail
    rw [show Value.string ⟨d.2.toArray⟩=strOf d.2 from rfl]
    refine calls_gen fun V5 hV5=> ?_
    have HS5:=Lib.hid (HS4.out.box _ hV5)
    clear hV5 c1 c2 t1 t2 t3 t4 t5
    obtain ⟨gd,hgd⟩: ∃gd,W4.heap.size=gd:=⟨_,rfl⟩
    rw [hgd] at HS5⊢
    clear hgd
    have hcon:=HS5.out.cut root rate d.1 (j:Int) (docsM ds) r R1.out R2.out R3.out H2.out H3.out R4.out R5.out
    rw [HX0.out] at hcon
    have HCON:=Lib.hid hcon
    clear hcon HS4 HS5 R1 R2 R3 R4 R5 HX0
    refine HCON.out.mono ?_
    rintro e6 W6 ⟨b,rfl,h6⟩
    have H6:=Lib.hid h6
    clear h6 HCON
    go_wp2_with fail
    refine (H6.out.write fun O hA=>drop_calls root _ hA).mono ?_
    rintro e7 W7 ⟨rfl,h7⟩
    have H7:=Lib.hid h7
    clear h7 H6
    rw [HC0.out]
    go_wp2_with fail
    go_loopg [14,15,16] S (fun m c13 c14 c15 wr=> ∃(k n:Nat) (x:Ct),c15= .int .i64 (k:Int)∧c14= .bool (decide (n=0))∧k+m=S∧Hid (Sc w wr (.pointer (some ⟨p,0,none⟩)) b x [(gd, .cells #[.int .i64 d.1,strOf d.2] 31 (0,0))]∧LoopC root [] ds j d rate n x))
    case atStart=>exact ⟨0,2*d.2.length+3,_,rfl,by simp,by omega,Lib.hid ⟨H7.out,HLG.out⟩⟩
    case round=>
      obtain ⟨k,n,x,rfl,rfl,hk,HX⟩:=hrel
      clear H7 HLG
      cases n with
      | succ n=>
        have d0:decide (n+1=0)=false:=by simp
        by_cases hkS:k<S
        · obtain ⟨⟨m,rfl⟩,e6,n2⟩:=holdC_num hk hkS HS.out
          obtain ⟨y1,y2,y3⟩:=HX.out.2.held
          obtain ⟨y,u,y4,y5,y6, -, -, -⟩:=HX.out.2.next PK.out.right PK.out.sel (by have:=PK.out.rows;omega) PK.out.len
          have HY1:=Lib.hid y1;have HY2:=Lib.hid y2;have HY3:=Lib.hid (y3 HR0.out);have HY4:=Lib.hid y4;have HY5:=Lib.hid y5;have HY6:=Lib.hid y6
          have HE6:=Lib.hid e6
          have HOK:Hid (CtOk x):=Lib.hid (HX.out.2.st.ok PK.out.right PK.out.sel)
          have HKM:=Lib.hid (show k+1+m=S∧m<m+1 by omega)
          clear y1 y2 y3 y4 y5 y6 e6 hk
          rw [d0]
          obtain ⟨C,hC⟩: ∃C,x.s.cnt root=C:=⟨_,rfl⟩
          rw [hC] at HY3
          have HC:=Lib.hid hC
          have n3:decide (C<1)=false:=by have:=HY3.out;simp;omega
          clear hC d0
          go_wp2_with fail
          refine (HX.out.1.same fun O A cap hT=>count_calls root _ hT.hA).mono ?_
          rintro e8 W8 ⟨rfl,h8⟩
          rw [HC.out]
          have H8:=Lib.hid h8
          clear h8
          go_wp2_with fail
          obtain ⟨O,A,cap,hT,hrest⟩:=H8.out.ex
          refine (cHeld_calls _ hT).mono ?_
          rintro e9 W9 ⟨v,rfl,hown,hb9⟩
          have H9:=Lib.hid (H8.out.below hb9)
          have HRX:=Lib.hid (Rx.of_own hown)
          clear hT hrest hown hb9 H8
          go_wp2_with fail
          refine (H9.out.read fun O A cap hT=>counted_calls HY1.out x.held (fun _ _=>rfl) (by have:=HY2.out;omega) _ _ hT.hA HRX.out).mono ?_
          rintro e10 W10 ⟨rfl,h10⟩
          have H10:=Lib.hid h10
          clear h10 H9 HRX
          go_wp2_with fail
          refine (H10.out.act fun O A cap hT hR=>cStep_calls x HOK.out _ HY4.out _ hT hR).mono ?_
          rintro e11 W11 ⟨rfl,h11⟩
          have H11:=Lib.hid h11
          clear h11 H10
          go_wp2_with fail
          refine (H11.out.write fun O hA=>work_calls _ _ HY5.out _ hA).mono ?_
          rintro e12 W12 ⟨rfl,h12⟩
          have H12:=Lib.hid h12
          clear h12 H11
          go_wp2_with fail
          have e6:=HE6.out
          go_roundg m
          case measure=>exact HKM.out.2
          case rel=>exact ⟨k+1,n,_,by first|rfl|(rw [e6];rfl),rfl,HKM.out.1,Lib.hid ⟨H12.out,HY6.out⟩⟩
        · obtain ⟨rfl,n2⟩:k=S∧decide ((S:Int)<(S:Int))=false:=⟨by omega,by simp⟩
          obtain ⟨z1,u,z2,z3⟩:=HX.out.2.stop0
          have HZ2:=Lib.hid z2;have HZ3:=Lib.hid z3
          clear z1 z2 z3 hk hkS
          rw [d0]
          go_wp2_with fail
          refine (HX.out.1.act fun O A cap hT hR=>(cStop_calls x _ hT).mono fun e w' ⟨he,hD⟩=>⟨he,didr_of hR hD rfl⟩).mono ?_
          rintro e10 W10 ⟨rfl,h10⟩
          have H10:=Lib.hid h10
          clear h10
          go_wp2_with fail
          refine (H10.out.write fun O hA=>work_calls _ _ HZ2.out _ hA).mono ?_
          rintro e11 W11 ⟨rfl,h11⟩
          have H11:=Lib.hid h11
          clear h11 H10
          go_wp2_with fail
          refine (H11.out.same fun O A cap hT=>used_calls _ hT.hA).mono ?_
          rintro e12 W12 ⟨rfl,h12⟩
          have H12:=Lib.hid h12
          clear h12 H11
          dsimp only
          rw [HZ3.out]
          go_wp2_with fail
          refine (H12.out.same fun O A cap hT=>cHeld_over _ rfl _ hT).mono ?_
          rintro e13 W13 ⟨rfl,h13⟩
          have H13:=Lib.hid h13
          clear h13 H12
          go_wp2_with fail
          go_ret
          exact ⟨rfl,H13.out.bel⟩
      | zero=>
        have d0:decide ((0:Nat)=0)=true:=rfl
        obtain ⟨z1,z2,z3,z4,z5⟩:=HX.out.2.done PK.out.right H2.out H3.out
        obtain ⟨l1,l2,l3,l4⟩:=PK.out.less
        rw [←l1] at z4
        have HZ1:=Lib.hid z1;have HZ2:=Lib.hid z2;have HZ4:=Lib.hid z4;have HL3:=Lib.hid l3;have HL4:=Lib.hid l4
        have HL10:Hid (ds.length≤50000):=Lib.hid (by have:=PK.out.len;omega)
        clear z1 z2 z3 z4 z5 l1 l2 l3 l4
        have hkk:(k<S∧decide ((k:Int)<(S:Int))=true)∨(¬k<S∧decide ((k:Int)<(S:Int))=false):=by simp only [decide_eq_true_eq,decide_eq_false_iff_not];omega
        clear hk
        rw [d0]
        clear d0
        rcases hkk with ⟨n3,n2⟩|⟨n3,n2⟩<;>
        (skip
         have kd:=HX.out.1.at0
         obtain ⟨c_kd,f_kd,l_kd⟩:=f3 kd
         clear kd
         go_upto_region 23 with fail
         refine edr 23 (fun v=>HeldB wr v) (HeldB.start wr) fun X hX hHeld=> ?_
         clear hX
         refine eta 0 (HeldB.ext wr) hHeld fun X hX hHeld=> ?_
         clear hX
         refine eca 1 (f:= ?_) (args:= ?_) (v:= ?_) (HeldB.ext wr) hHeld ?_ (fun v hSv=> ?_) fun X hX hHeld=> ?_
         rotate_left 3
         focus (intro v hSv;go_simp;constructor<;>with_reducible rfl)
         focus (exact HX.out.1.heldE HZ1.out v hSv)
         clear hX
         refine eta 2 (HeldB.ext wr) hHeld fun X hX hHeld=> ?_
         clear hX
         refine eta 3 (HeldB.ext wr) hHeld fun X hX hHeld=> ?_
         clear hX
         refine eta 4 (HeldB.ext wr) hHeld fun X hX hHeld=> ?_
         clear hX
         refine eta 5 (HeldB.ext wr) hHeld fun X hX hHeld=> ?_
         clear hX
         refine eta 6 (HeldB.ext wr) hHeld fun X hX hHeld=> ?_
         clear hX
         refine eca 7 (f:= ?_) (args:= ?_) (v:= ?_) (HeldB.ext wr) hHeld ?_ (fun v hSv=> ?_) fun X hX hHeld=> ?_
         rotate_left 3
         focus (intro v hSv;go_simp;constructor<;>with_reducible rfl)
         focus (exact HX.out.1.rootE v hSv)
         clear hX
         refine eta 8 (HeldB.ext wr) hHeld fun X hX hHeld=> ?_
         clear hX
         refine eta 9 (HeldB.ext wr) hHeld fun X hX hHeld=> ?_
         clear hX
         refine eta 10 (HeldB.ext wr) hHeld fun X hX hHeld=> ?_
         clear hX
         refine eta 11 (HeldB.ext wr) hHeld fun X hX hHeld=> ?_
         clear hX
         clear c_kd f_kd
         refine erd (rs:=[12]) (by kernel_rfl) (by simp) (eall rfl (fun K hK=> ?_) (fun _ h=>by cases h))
         go_simp
         refine (without_calls _ ds d.1 HL10.out _ (HK.out.below ((HX.out.1.below hHeld.1).bel))).mono ?_
         rintro e14 X14 ⟨A14,c14,rfl,hrd14,hb14⟩
         have hHeld14:=HeldB.call hHeld hb14
         refine eho hK hHeld14 fun Y14 hY14=> ?_
         replace hHeld:=HeldB.ext _ _ _ hHeld14 hY14
         have HRD:=Lib.hid (hrd14.below hY14)
         clear hHeld14 hrd14 hb14 hY14 hK K
         refine erd (rs:=[13]) (by kernel_rfl) (by simp) (eall rfl (fun K hK=> ?_) (fun _ h=>by cases h))
         go_simp
         obtain ⟨O9,A9,cap9,hT9, -⟩:=(HX.out.1.below hHeld.1).ex
         refine (check_calls x.root rate (lessD ds d.1) _ true HZ4.out HL3.out HL4.out _ hT9.hA HRD.out).mono ?_
         rintro e15 X15 ⟨rfl,hb15⟩
         have hHeld15:=HeldB.call hHeld hb15
         refine eho hK hHeld15 fun Y15 hY15=> ?_
         replace hHeld:=HeldB.ext _ _ _ hHeld15 hY15
         clear hHeld15 hb15 hY15 hK K hT9 HRD
         refine eta 14 (HeldB.ext wr) hHeld fun X hX hHeld=> ?_
         clear hX
         refine eta 15 (HeldB.ext wr) hHeld fun X hX hHeld=> ?_
         clear hX
         refine eta 16 (HeldB.ext wr) hHeld fun X hX hHeld=> ?_
         clear hX
         refine eta 17 (HeldB.ext wr) hHeld fun X hX hHeld=> ?_
         clear hX
         refine eca 18 (f:= ?_) (args:= ?_) (v:= ?_) (HeldB.ext wr) hHeld ?_ (fun v hSv=> ?_) fun X hX hHeld=> ?_
         rotate_left 3
         focus (intro v hSv;go_simp;constructor<;>with_reducible rfl)
         focus (exact HX.out.1.rootE v hSv)
         clear hX
         refine erd (rs:=[19]) (by kernel_rfl) (by simp) (eall rfl (fun K hK=> ?_) (fun _ h=>by cases h))
         go_simp
         have hHeld16:=HeldB.alloc hHeld (.cells #[.int .i64 x.root] 3)
         refine eho hK hHeld16 fun Y16 hY16=> ?_
         have kr:=keep_blk hY16 (blk_new _ _ _ rfl)
         replace hHeld:=HeldB.ext _ _ _ hHeld16 hY16
         clear hHeld16 hY16 hK K
         refine erd (rs:=[20]) (by kernel_rfl) (by simp) (eall rfl (fun K hK=> ?_) (fun _ h=>by cases h))
         go_simp
         obtain ⟨O9,A9,cap9,hT9, -⟩:=(HX.out.1.below hHeld.1).ex
         refine (counted_calls HZ2.out [x.root] (fun _ _=>rfl) (by simp) _ _ hT9.hA (Rx.cells kr rfl)).mono ?_
         rintro e17 X17 ⟨rfl,hb17⟩
         have hHeld17:=HeldB.call hHeld hb17
         refine eho hK hHeld17 fun Y17 hY17=> ?_
         replace hHeld:=HeldB.ext _ _ _ hHeld17 hY17
         clear hHeld17 hb17 hY17 hK K hT9 kr
         refine eta 21 (HeldB.ext wr) hHeld fun X hX hHeld=> ?_
         clear hX
         refine eta 22 (HeldB.ext wr) hHeld fun X hX hHeld=> ?_
         clear hX
         refine ewd ?_
         have HBE:=Lib.hid (below_step HX.out.1.bel hHeld.1)
         go_wp2_with fail
         go_ret
         exact ⟨rfl,HBE.out⟩)
end Go.Proofs.YtlboaaldggpjeaaGreat

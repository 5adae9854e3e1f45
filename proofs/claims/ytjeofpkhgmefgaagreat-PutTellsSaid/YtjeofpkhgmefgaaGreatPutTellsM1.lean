/- Part 1 of what PutTells needs: the walks of the program's functions, and plain facts. -/
import Derived.Test.YtjeofpkhgmefgaaGreatCoreM8
import Derived.Deep.CutRange
set_option linter.unusedSimpArgs false
set_option linter.unusedVariables false
set_option linter.unnecessarySimpa false
namespace Go.Proofs.YtjeofpkhgmefgaaGreat
open Go.RowKit
attribute [local go_sem ↓] Go.wp_at_zero Go.wp_at_succ
attribute [local go_sem] str_len
theorem wpList_on {P:Program} {ops:Array Oper} {Q:Exit→Act→World→Prop} {rest:List Oper} {o:Oper} {a:Act} {w:World} (hw:Region.wanted o (yielded ops a.tmps)=true) (h:wpList P ops Q ({o with guard:=none}::rest) a w):wpList P ops Q (o::rest) a w:=by
  unfold wpList at h⊢
  rw [if_pos hw]
  rw [if_pos (show Region.wanted {o with guard:=none} (yielded ops a.tmps)=true from rfl)] at h
  exact h
theorem placeZ_neg (id:Int): ∀(l:Docs) (i:Int),0≤i→placeZ id l i<0→ ∀y∈l,y.1≠id
  | [],_,_,_,y,hy=>by cases hy
  | d::l,i,hi,h,y,hy=>by
    unfold placeZ at h
    by_cases e:d.1=id
    · rw [if_pos e] at h;omega
    · rw [if_neg e] at h
      rcases List.mem_cons.1 hy with rfl|hy
      · exact e
      · exact placeZ_neg id l (i+1) (by omega) h y hy
theorem placeZ_pos (id:Int): ∀(l:Docs) (i:Int),0≤placeZ id l i→(placeIn id (docsM l) i).2=true
  | [],i,h=>by unfold placeZ at h;omega
  | d::l,i,h=>by
    unfold placeZ at h
    unfold docsM
    rw [List.map_cons]
    unfold placeIn
    by_cases e:d.1=id
    · rw [if_pos e]
    · rw [if_neg e] at h
      rw [if_neg e]
      exact placeZ_pos id l (i+1) h
theorem txt40 {ds:Docs} (hR:Right ds): ∀t,t∈txt ds→t.length≤50000:=fun t ht=>by
  obtain ⟨i,hi⟩:=List.getElem?_of_mem ht
  have:=(right_len hR.right).2 i
  rw [getD_at hi] at this;omega
def bad (ds:Docs) (d:Int×List UInt8):Prop:=d.1<1∨0≤placeZ d.1 ds 0∨40<d.2.length
set_option maxRecDepth 100000 in
set_option maxHeartbeats 8000000 in
theorem putTells_walk (A : Option Addr) (cap : Nat) (ds : Docs) (d : Int × List UInt8) (rate : Int) (hl : ds.length ≤ maxLen) (hid : IdOk ds) (hwf : (Lit.int .i64 d.1).wf = true) (w : World) (h : Rd2 w (.slice A ds.length cap) ds) :
    Calls Tryz.prog 8 #[.slice A ds.length cap, .agg #[.int .i64 d.1,strOf d.2], .int .i64 rate] w fun e w'=>e= .returned (.bool true)∧Below w.heap.size w w':=by
  have hd64:d.1<9223372036854775808:=by simp [Lit.wf,IntKind.min,IntKind.max,IntKind.bits,IntKind.signed] at hwf;omega
  clear hwf
  have HK:=Lib.hid h;clear h
  have hguard:few ds=false∨(few ds=true∧decide (100<(d.2.length:Int))=true)∨(few ds=true∧decide (100<(d.2.length:Int))=false):=by
    cases few ds<;>simp;omega
  rcases hguard with hf|⟨hf,d0⟩|⟨hf,d0⟩
  iterate 2
    (unfold strOf
     go_enter Tryz.func8,Tryz.ntmps8
     go_wp2_with fail
     refine calls_gen fun V0 hV0=> ?_
     have hb0:Below w.heap.size w V0:=by rw [hV0];exact below_box _ _
     have kd:V0.heap[w.heap.size]? =some (.cells #[.int .i64 d.1,strOf d.2] 42 (0,0)):=by rw [hV0];exact blk_new _ _ _ rfl
     clear hV0
     refine (few_calls _ ds hl _ (HK.out.below hb0)).mono ?_
     rintro e0 W0 ⟨rfl,hb1⟩
     rw [hf]
     replace kd:=keep_blk hb1 kd
     obtain ⟨c_kd,f_kd,l_kd⟩:=f3 kd
     have HB0:=Lib.hid (below_step hb0 hb1);clear hb0 hb1 hf
     go_wp2_with fail
     refine (alive13_calls _).mono ?_
     rintro e1 W1 ⟨rfl,hb1⟩
     have HB1:=Lib.hid (below_step HB0.out hb1);clear hb1
     go_wp2_with fail
     go_ret
     exact ⟨rfl,HB1.out⟩)
  obtain ⟨hR,htot,hl10⟩:=few_right hf hid
  have hrows0:=rows_tot hR
  have HR:=Lib.hid hR;have HT:=Lib.hid htot;have HD64:=Lib.hid hd64
  have H10:Hid (ds.length≤10):=Lib.hid hl10
  have HL10:Hid (ds.length≤50000):=Lib.hid (by omega)
  clear hR htot hl10 hrows0 hd64
  unfold strOf
  go_enter Tryz.func8,Tryz.ntmps8
  go_wp2_with fail
  refine calls_gen fun V0 hV0=> ?_
  have hb0:Below w.heap.size w V0:=by rw [hV0];exact below_box _ _
  have kd:V0.heap[w.heap.size]? =some (.cells #[.int .i64 d.1,strOf d.2] 42 (0,0)):=by rw [hV0];exact blk_new _ _ _ rfl
  clear hV0
  refine (few_calls _ ds hl _ (HK.out.below hb0)).mono ?_
  rintro e0 W0 ⟨rfl,hb1⟩
  rw [hf]
  replace kd:=keep_blk hb1 kd
  obtain ⟨c_kd,f_kd,l_kd⟩:=f3 kd
  have HB0:=Lib.hid (below_step hb0 hb1);clear hb0 hb1 hf
  go_wp2_with fail
  refine (alive13_calls _).mono ?_
  rintro e2 W2 ⟨rfl,hb2⟩
  replace kd:=keep_blk hb2 kd
  have HB2:=Lib.hid (below_step HB0.out hb2)
  clear hb2 c_kd f_kd d0
  go_wp2_with fail
  refine (new_calls 6000 (by omega) (by omega) _).mono ?_
  rintro e3 W3 ⟨p,O,rfl,hA,hO,hb3⟩
  have hlt:=lt_of kd
  have HS:Hid (St w W3 (.pointer (some ⟨p,0,none⟩)) (Ar.new 6000) [(w.heap.size, .cells #[.int .i64 d.1,strOf d.2] 42 (0,0))]):=Lib.hid
    ⟨⟨O,hA,fun b hb=>Nat.le_trans HB2.out.size (hO b hb),fun y hy=>by
      obtain rfl:y=(w.heap.size, .cells #[.int .i64 d.1,strOf d.2] 42 (0,0)):=by simpa using hy
      exact ⟨keep_blk hb3 kd,fun hq=>by have:=hO _ hq;dsimp only at this;omega⟩⟩,below_step HB2.out hb3⟩
  clear hA hO hb3 kd hlt
  have hrate:(decide (1≤rate)=false∨(decide (1≤rate)=true∧decide (rate≤16)=false))∨(decide (1≤rate)=true∧decide (rate≤16)=true):=by
    simp only [decide_eq_true_eq,decide_eq_false_iff_not];omega
  rcases hrate with hno|⟨r1,r2⟩
  · have hbad:rate<1∨16<rate:=by simp only [decide_eq_true_eq,decide_eq_false_iff_not] at hno;omega
    have HBAD:=Lib.hid hbad
    clear hbad
    rcases hno with r1|⟨r1,r2⟩<;>
    (skip
     have kd:=HS.out.at0
     obtain ⟨c_kd,f_kd,l_kd5⟩:=f3 kd
     go_wp2_with fail
     refine (HS.out.read fun O hA=>pNew_no _ 0 rate d.1 d.2 [] (by decide+kernel) (by decide) (by rcases HBAD.out with q|q<;>simp [q]) _ hA).mono ?_
     rintro e3 W3 ⟨rfl,h3⟩
     have HS3:=Lib.hid h3
     clear h3 kd c_kd f_kd
     go_wp2_with fail
     go_ret
     exact ⟨rfl,HS3.out.bel⟩)
  have H2:Hid (1≤rate):=Lib.hid (by simpa using r1)
  have H3:Hid (rate≤16):=Lib.hid (by simpa using r2)
  go_wp2_with fail
  refine (bldS_calls 6000 (by omega) (by omega) HS.out rate H2.out (by have:=H3.out;omega) ds HR.out HT.out A cap HK.out).mono ?_
  rintro e4 W4 ⟨root,s,rfl,hS,hI,hwt,hsz,hv,hroot⟩
  have HS4:=Lib.hid hS;have HI:=Lib.hid hI;have HWT:=Lib.hid hwt;have HSZ:=Lib.hid hsz;have HV:=Lib.hid hv
  have kd:=hS.at0
  clear hS hI hwt hsz hv hroot
  obtain ⟨c_kd,f_kd,l_kd5⟩:=f3 kd
  go_wp2_with fail
  clear kd c_kd f_kd r1 r2
  obtain ⟨P,hP⟩: ∃P,placeZ d.1 ds 0=P:=⟨_,rfl⟩
  have HP:=Lib.hid hP
  have hb : ((decide (d.1 < 1) = true ∨ (decide (d.1 < 1) = false ∧ decide (0 ≤ P) = true) ∨ (decide (d.1 < 1) = false ∧ decide (0 ≤ P) = false ∧ decide (40 < (d.2.length : Int)) = true)) ∧ (d.1 < 1 ∨ 0 ≤ P ∨ 40 < d.2.length)) ∨
      (decide (d.1<1)=false∧decide (0≤P)=false∧decide (40<(d.2.length:Int))=false∧1≤d.1∧P<0∧d.2.length≤40):=by
    simp only [decide_eq_true_eq,decide_eq_false_iff_not];omega
  have HLL:Hid ((docsM ds).length≤50000):=Lib.hid (by simp [docsM];exact HL10.out)
  have HALL:=Lib.hid (HV.out.all HI.out (by have:=H10.out;omega))
  rcases hb with ⟨hno,hbad⟩|⟨d1,d2,d3,g1,g2,g3⟩
  · have HBAD : Hid (d.1 < 1 ∨ (placeIn d.1 (docsM ds) 0).2 = true ∨ 40 < d.2.length) := Lib.hid (by
      rcases hbad with q|q|q
      · exact .inl q
      · exact .inr (.inl (placeZ_pos d.1 ds 0 (by rw [hP];exact q)))
      · exact .inr (.inr q))
    clear hbad hP
    refine (HS4.out.read fun O hA=>pNew_no _ root rate d.1 d.2 (docsM ds) HALL.out HLL.out (by rcases HBAD.out with q|q|q<;>simp [q]) _ hA).mono ?_
    rintro e5 W5 ⟨rfl,h5⟩
    have HS5:=Lib.hid h5
    clear h5
    rcases hno with d1|⟨d1,d2⟩|⟨d1,d2,d3⟩<;>
    (skip
     have kd:=HS5.out.at0
     obtain ⟨c_kd,f_kd,l_kd6⟩:=f3 kd
     go_wp2_with fail
     try
       refine (place_calls _ ds d.1 HL10.out _ (HK.out.below HS5.out.bel)).mono ?_
       rintro e6 W6 ⟨rfl,hb6⟩
       rw [HP.out]
       replace HS5:=Lib.hid (HS5.out.below hb6)
       clear hb6 kd c_kd f_kd
       have kd:=HS5.out.at0
       obtain ⟨c_kd,f_kd,l_kd7⟩:=f3 kd
       go_wp2_with fail
     go_ret
     exact ⟨rfl,HS5.out.bel⟩)
  have HN:=Lib.hid (placeZ_neg d.1 ds 0 (by omega) (by rw [hP];exact g2))
  have HPI:Hid ((placeIn d.1 (docsM ds) 0).2=false):=Lib.hid (by rw [placeIn_none d.1 (docsM ds) 0 (fun y hy=>by unfold docsM at hy;obtain ⟨z,hz,rfl⟩:=List.mem_map.1 hy;exact HN.out z hz)])
  have H4:=Lib.hid g1;have H6:=Lib.hid g3
  clear g1 g2 g3 hP
  have hten:(decide (10≤(ds.length:Int))=true∧10≤ds.length)∨(decide (10≤(ds.length:Int))=false∧ds.length<10):=by
    simp only [decide_eq_true_eq,decide_eq_false_iff_not];omega
  have HDOCS:=Lib.hid (HV.out.docs HI.out (by have:=H10.out;omega))
  rcases hten with ⟨d4,g4⟩|⟨d4,g4⟩
  · have H11:=Lib.hid g4
    clear g4
    refine (HS4.out.read fun O hA=>pNew_many _ root rate d.1 d.2 (docsM ds) HALL.out HLL.out (vr_is HI.out HV.out HR.out) H2.out H3.out H4.out HPI.out H6.out (by rw [HDOCS.out];have:=H11.out;omega) _ hA).mono ?_
    rintro e5 W5 ⟨rfl,h5⟩
    have HS5:=Lib.hid h5
    have kd:=h5.at0
    clear h5
    obtain ⟨c_kd,f_kd,l_kd6⟩:=f3 kd
    go_wp2_with fail
    refine (place_calls _ ds d.1 HL10.out _ (HK.out.below HS5.out.bel)).mono ?_
    rintro e6 W6 ⟨rfl,hb6⟩
    rw [HP.out]
    replace HS5:=Lib.hid (HS5.out.below hb6)
    clear hb6 kd c_kd f_kd
    have kd:=HS5.out.at0
    obtain ⟨c_kd,f_kd,l_kd7⟩:=f3 kd
    go_wp2_with fail
    go_ret
    exact ⟨rfl,HS5.out.bel⟩
  have HRd:=Lib.hid (right_snoc HR.out g4 H4.out HD64.out H6.out HN.out)
  have H1:=Lib.hid g4
  clear g4
  refine (HS4.out.put root rate d.1 d.2 (docsM ds) HALL.out HLL.out (vr_is HI.out HV.out HR.out) H2.out H3.out H4.out HPI.out H6.out (by rw [HDOCS.out];have:=H1.out;omega)).mono ?_
  rintro e6 W6 ⟨b,rfl,h6⟩
  have HS6:=Lib.hid h6
  have kd:=h6.at0
  clear h6
  obtain ⟨c_kd,f_kd,l_kd6⟩:=f3 kd
  go_wp2_with fail
  refine (place_calls _ ds d.1 HL10.out _ (HK.out.below HS6.out.bel)).mono ?_
  rintro e7 W7 ⟨rfl,hb7⟩
  rw [HP.out]
  have HS7:=Lib.hid (HS6.out.below hb7)
  clear hb7 kd c_kd f_kd HS6
  have kd:=HS7.out.at0
  obtain ⟨c_kd,f_kd,l_kd7⟩:=f3 kd
  go_wp2_with fail
  clear kd c_kd f_kd d1 d2 d3 d4
  have HZ0:Hid ((Pt.new s root rate d.1 d.2).root=0):=Lib.hid rfl
  refine (HS7.out.same fun O hT=>pRoot_calls _ hT).mono ?_
  rintro e8 W8 ⟨rfl,h8⟩
  have HS8:=Lib.hid h8
  have kd:=h8.at0
  clear h8 HS7
  rw [HZ0.out]
  obtain ⟨c_kd,f_kd,l_kd8⟩:=f3 kd
  obtain ⟨t1,t2,t3,t4,t5,t6⟩:=new_T (d:=d) HI.out HWT.out HV.out
  have hbz:=HV.out.busy HI.out HWT.out
  have htd:tot (ds++[d])=tot ds+d.2.length:=by unfold tot;simp
  have HRows:Hid ((rowsM (ds++[d])).length≤111):=Lib.hid (by rw [rows_tot HRd.out,htd];simp;have:=HT.out;have:=H6.out;have:=H1.out;omega)
  have HRows0:Hid ((rowsM ds).length≤70):=Lib.hid (by rw [rows_tot HR.out];have:=HT.out;have:=H1.out;omega)
  have HLS:Hid (LoopS s root ds d rate (d.2.length+3) (Pt.new s root rate d.1 d.2)):=Lib.hid ⟨t1,t2,t3,fun _=>rfl,t4.trans HSZ.out,by rw [t5];have:=HRows0.out;have:=H1.out;omega⟩
  obtain ⟨N,hN⟩: ∃N,d.2.length+3=N:=⟨_,rfl⟩
  rw [hN] at HLS
  have HW3:Hid (wrap64 ((d.2.length:Int)+3)=(N:Int)):=Lib.hid (by rw [IntWalk.wrap64_in _ (by have:=H6.out;omega)];omega)
  have HNB:Hid (N≤43):=Lib.hid (by have:=H6.out;omega)
  clear t1 t2 t3 t4 t5 t6 hbz htd hN
  have hw3:=HW3.out
  go_upto_region 22 with fail
  clear hw3
  go_wp2_with fail
  rw [HW3.out]
  go_loopg [14,15,16] N (fun m c c15 c16 wr=> ∃(k:Nat) (x:Pt),c= .int .i64 (k:Int)∧k+m=N∧Hid (Sp w wr (.pointer (some ⟨p,0,none⟩)) b x [(w.heap.size, .cells #[.int .i64 d.1,strOf d.2] 42 (0,0))]∧LoopS s root ds d rate (N - k) x))
  case atStart=>exact ⟨0,_,rfl,by omega,Lib.hid ⟨HS8.out,HLS.out⟩⟩
  case round=>
    obtain ⟨k,x,rfl,hk,HX⟩:=hrel
    clear HS8 kd c_kd f_kd
    by_cases hkN:k<N
    · obtain ⟨⟨m,rfl⟩,e6,n2,e7,e8,e9⟩:=tell_num hk hkN HNB.out
      obtain ⟨hin,y1,⟨y2,y3⟩,y,u,y4,y5,y6⟩:=HX.out.2.nextK hkN HV.out HRd.out HRows.out HRows0.out H1.out H2.out H6.out
      have HY1:=Lib.hid y1;have HY2:=Lib.hid y2;have HY3:=Lib.hid y3;have HY4:=Lib.hid y4;have HY5:=Lib.hid y5;have HY6:=Lib.hid y6
      have HE6:=Lib.hid e6;have HE8:=Lib.hid e8;have HE9:=Lib.hid e9
      have HOK:Hid (PtOk x):=Lib.hid ⟨hin.1,hin.2.1,hin.2.2.1,hin.2.2.2⟩
      have HKM:=Lib.hid (step_more hk)
      clear y1 y2 y3 y4 y5 y6 hin e6 e8 e9 hk
      obtain ⟨F,hF⟩: ∃F:Nat,N - k=F:=⟨_,rfl⟩
      rw [hF] at e7 HY1
      clear hF
      go_wp2_with fail
      refine (HX.out.1.same fun O hT=>pLeft_calls _ hT).mono ?_
      rintro e10 W10 ⟨rfl,h10⟩
      have H10':=Lib.hid h10
      clear h10
      rw [HY1.out]
      go_wp2_with fail
      obtain ⟨O,hT,hO,hL⟩:=H10'.out.ex
      refine (pHeld_calls _ hT).mono ?_
      rintro e11 W11 ⟨v,rfl,hown,hb11⟩
      have HOWN:=Lib.hid hown
      have hz:=hb11.size
      have hb5:=HY3.out
      have HB11:=Lib.hid hb11
      clear hT hO hL hown hb11
      go_wp2_with (at_builtin;refine wpList_on (by rfl) ?_;refine wpList_push2 _ (by rfl) _ _ 46 (by rfl) (W10.heap.size) 3 (.int .i64 0) 1 8 Tryz.underlying46 (by kernel_rfl) (by rfl) (by omega) _ _ _ (by rfl) HOWN.out _ (by rfl) (by rfl) (by simp [Value.oneCell']) (by unfold maxLen;omega) (by omega) (by omega) ?_;intro g c W12 hown12 hlow12 hlt12 hgr12 hat12)
      have HS12:=Lib.hid (H10'.out.below (low_step HB11.out (Nat.le_refl _) hlow12))
      have hrx:=Rx.of_own hown12
      clear hown12 hlow12 hlt12 hgr12 hat12 HOWN H10' HB11 hz
      have HRX:Hid (Rx W12 1 (.slice (some ⟨g,0,none⟩) (x.held.length+1) c) (x.held++[root]).length ((x.held++[root]).map fun k=> .int .i64 k)):=Lib.hid (by simpa using hrx)
      clear hrx
      refine (HS12.out.read fun O hT=>counted_calls HY2.out (x.held++[root]) (fun _ _=>rfl) (by simp;omega) _ _ hT.hA HRX.out).mono ?_
      rintro e13 W13 ⟨rfl,h13⟩
      have H13:=Lib.hid h13
      clear h13 HS12 HRX
      go_wp2_with fail
      clear e7
      refine (H13.out.act fun O hT=>pStep_calls x HOK.out _ HY4.out _ hT).mono ?_
      rintro e14 W14 ⟨rfl,h14⟩
      have H14:=Lib.hid h14
      clear h14 H13
      dsimp only
      rw [←HE9.out]
      have e8:=HE8.out
      go_wp2_with fail
      clear e8
      refine (H14.out.write fun O hA=>work_calls _ _ HY5.out _ hA).mono ?_
      rintro e15 W15 ⟨rfl,h15⟩
      have H15:=Lib.hid h15
      clear h15 H14
      go_wp2_with fail
      have e6:=HE6.out
      go_roundg m
      case measure=>exact HKM.out.2
      case rel=>exact ⟨k+1,_,by first|rfl|(rw [e6];rfl),HKM.out.1,Lib.hid ⟨H15.out,HY6.out⟩⟩
    · obtain ⟨rfl,n2⟩:=step_end hk hkN
      have hls:=HX.out.2
      rw [Nat.sub_self] at hls
      obtain ⟨z1,z2,z3,z4,z5,z6,z7,u,z8,z9⟩:=hls.done HV.out HR.out HRd.out H2.out H3.out
      have HZ1:=Lib.hid z1;have HZ2:=Lib.hid z2;have HZ3:=Lib.hid z3;have HZ4:=Lib.hid z4;have HZ5:=Lib.hid z5;have HZ6:=Lib.hid z6;have HZ7:=Lib.hid z7;have HZ8:=Lib.hid z8;have HZ9:=Lib.hid z9
      have HLF:Hid (x.left=0):=Lib.hid (by unfold Pt.left;rw [z1,if_pos rfl])
      have HHE:Hid (x.held=[]):=Lib.hid (by unfold Pt.held;rw [z1,if_pos rfl])
      clear z1 z2 z3 z4 z5 z6 z7 z8 z9 hls hk hkN
      go_wp2_with fail
      refine (HX.out.1.same fun O hT=>pStep_over x HZ1.out _ hT).mono ?_
      rintro e10 W10 ⟨rfl,h10⟩
      have H10':=Lib.hid h10
      clear h10 HX
      go_wp2_with fail
      refine (H10'.out.same fun O hT=>pRoot_calls _ hT).mono ?_
      rintro e11 W11 ⟨rfl,h11⟩
      have H11':=Lib.hid h11
      clear h11 H10'
      go_upto_region 33 with fail
      have hk0:=H11'.out.at0
      obtain ⟨c_kd,f_kd,l_kd9⟩:=f3 hk0
      clear hk0
      refine wp_region_noPanic ?_
      refine wp_region_held_drew (S:=fun v=>Below W11.heap.size W11 v∧(W11.heap.size≤v.heap.size)∧ ∀b o,b<W11.heap.size→v.cell? ⟨b,o,none⟩=W11.cell? ⟨b,o,none⟩) (by kernel_rfl) (HeldB.start W11) (fun hHeld=> ?_)
      have hB_d:Below W11.heap.size W11 W11.drew:=(Below.refl _ _).drew
      generalize W11.drew=W11d at hHeld hB_d⊢
      refine ta 0 hHeld ?_
      refine ta 1 hHeld ?_
      refine ta 2 hHeld ?_
      refine ta 3 hHeld ?_
      refine ta 4 hHeld ?_
      refine ta 5 hHeld ?_
      refine ta 6 hHeld ?_
      refine ta 7 hHeld ?_
      refine rd 8 rfl fun K hK=> ?_
      go_simp
      obtain ⟨O8,hT8, -⟩:=(H11'.out.below hHeld.1).ex
      refine (pLeft_calls _ hT8).mono ?_
      rintro e12 w12 ⟨rfl,rfl⟩
      rw [HLF.out]
      refine ho hK (hHeld) fun hHeld=> ?_
      clear hK K
      clear hT8
      refine ta 9 hHeld ?_
      refine ta 10 hHeld ?_
      refine ta 11 hHeld ?_
      refine ta 12 hHeld ?_
      refine rd 13 rfl fun K hK=> ?_
      go_simp
      obtain ⟨O9,hT9, -⟩:=(H11'.out.below hHeld.1).ex
      refine (pHeld_over x HZ1.out _ hT9).mono ?_
      rintro e13 w13 ⟨rfl,rfl⟩
      refine ho hK (hHeld) fun hHeld=> ?_
      clear hK K
      clear hT9
      refine ta 14 hHeld ?_
      refine ta 15 hHeld ?_
      refine ta 16 hHeld ?_
      refine ta 17 hHeld ?_
      refine ta 18 hHeld ?_
      refine ta 19 hHeld ?_
      refine ta 20 hHeld ?_
      refine ta 21 hHeld ?_
      refine ta 23 hHeld ?_
      refine wpAnyH_ready (rs:=[22,24]) (by kernel_rfl) (by simp) ?_
      refine ready_at rfl (fun K hK=> ?_) (ready_at rfl (fun K hK=> ?_) AllReadyH.nil)
      clear c_kd f_kd
      refine step_moreN (by rfl) _ _ 22 (by rfl) (base:=W11.heap.size) (e:=42) (.agg #[.int .i64 0, .string ⟨#[]⟩]) 2 24 (by omega) Tryz.underlying22 (by kernel_rfl) (by rfl) (v:= .slice none 0 0) (by rfl) (own_nil _ _ _ _) (by rfl) (rds_docs (HK.out.below ((H11'.out.below hHeld.1).bel))) (docCells_one ds) (nm:=ds.length) (by omega) (by have:=H10.out;omega) (by omega) (hHeld.2.1) ?_
      intro A4 c4 W12 hown4 hlow4 hkeep4
      refine ho hK (HeldB.low hHeld hlow4) fun hHeld=> ?_
      clear hK K
      refine rd 24 rfl fun K hK=> ?_
      go_simp
      refine ho hK (HeldB.alloc hHeld _) fun hHeld=> ?_
      clear hK K
      refine rd 25 rfl fun K hK=> ?_
      refine step_moreN (by rfl) _ _ 22 (by rfl) (base:=W11.heap.size) (e:=42) (.agg #[.int .i64 0, .string ⟨#[]⟩]) 2 24 (by omega) Tryz.underlying22 (by kernel_rfl) (by rfl) (v:= .slice A4 ds.length c4) (by rfl) (hown4.alloc _) (by rfl) (rds_one W12 #[.int .i64 d.1,strOf d.2] 42 2 rfl) (docCells_one [d]) (nm:=ds.length+1) (by omega) (by have:=H10.out;omega) (by omega) (hHeld.2.1) ?_
      intro A5 c5 W13 hown5 hlow5 hkeep5
      refine ho hK (HeldB.low hHeld hlow5) fun hHeld=> ?_
      clear hK K
      clear hown4 hlow4 hkeep4 hlow5 hkeep5
      rotate_left
      clear c_kd f_kd
      go_simp
      refine ho hK (HeldB.alloc hHeld _) fun hHeld=> ?_
      clear hK K
      refine rd 22 rfl fun K hK=> ?_
      refine step_moreN (by rfl) _ _ 22 (by rfl) (base:=W11.heap.size) (e:=42) (.agg #[.int .i64 0, .string ⟨#[]⟩]) 2 24 (by omega) Tryz.underlying22 (by kernel_rfl) (by rfl) (v:= .slice none 0 0) (by rfl) (own_nil _ _ _ _) (by rfl) (rds_docs (HK.out.below ((H11'.out.below hHeld.1).bel))) (docCells_one ds) (nm:=ds.length) (by omega) (by have:=H10.out;omega) (by omega) (hHeld.2.1) ?_
      intro A4 c4 W12 hown4 hlow4 hkeep4
      refine ho hK (HeldB.low hHeld hlow4) fun hHeld=> ?_
      clear hK K
      refine rd 25 rfl fun K hK=> ?_
      refine step_moreN (by rfl) _ _ 22 (by rfl) (base:=W11.heap.size) (e:=42) (.agg #[.int .i64 0, .string ⟨#[]⟩]) 2 24 (by omega) Tryz.underlying22 (by kernel_rfl) (by rfl) (v:= .slice A4 ds.length c4) (by rfl) (hown4) (by rfl) ((rds_one W11d #[.int .i64 d.1,strOf d.2] 42 2 rfl).below (hkeep4 _ (Nat.le_refl _) (by simp [Value.ownBlock]))) (docCells_one [d]) (nm:=ds.length+1) (by omega) (by have:=H10.out;omega) (by omega) (hHeld.2.1) ?_
      intro A5 c5 W13 hown5 hlow5 hkeep5
      refine ho hK (HeldB.low hHeld hlow5) fun hHeld=> ?_
      clear hK K
      clear hown4 hlow4 hkeep4 hlow5 hkeep5
      iterate 2
        (have HD2:Hid (Rd2 W13 (.slice A5 (ds.length+1) c5) (ds++[d])):=Lib.hid (rd2_own (ds:=ds++[d]) (by rw [docCells_append,List.length_append];exact hown5))
         clear hown5
         refine rd 26 rfl fun K hK=> ?_
         go_simp
         obtain ⟨O14,hT14, -⟩:=(H11'.out.below hHeld.1).ex
         refine (check_calls x.root rate (ds++[d]) _ true HZ4.out (by rw [List.length_append];have:=H10.out;simp;omega) (txt40 HRd.out) _ hT14.hA HD2.out).mono ?_
         rintro e14 W14 ⟨rfl,hb14⟩
         refine ho hK (HeldB.call hHeld hb14) fun hHeld=> ?_
         clear hK K
         clear hT14 hb14 HD2
         refine ta 27 hHeld ?_
         refine ta 28 hHeld ?_
         refine ta 29 hHeld ?_
         refine ta 30 hHeld ?_
         refine ta 31 hHeld ?_
         refine ta 32 hHeld ?_
         refine ta 33 hHeld ?_
         refine rd 34 rfl fun K hK=> ?_
         go_simp
         obtain ⟨O15,hT15, -⟩:=(H11'.out.below hHeld.1).ex
         refine (check_calls root rate ds _ true HZ5.out HL10.out (txt40 HR.out) _ hT15.hA (HK.out.below ((H11'.out.below hHeld.1).bel))).mono ?_
         rintro e15 W15 ⟨rfl,hb15⟩
         refine ho hK (HeldB.call hHeld hb15) fun hHeld=> ?_
         clear hK K
         clear hT15 hb15
         refine ta 35 hHeld ?_
         refine ta 36 hHeld ?_
         refine ta 37 hHeld ?_
         refine ta 38 hHeld ?_
         refine ta 39 hHeld ?_
         refine ta 40 hHeld ?_
         refine rd 41 rfl fun K hK=> ?_
         go_simp
         refine ho hK (HeldB.alloc hHeld _) fun hHeld=> ?_
         clear hK K
         refine rd 42 rfl fun K hK=> ?_
         go_simp
         obtain ⟨O16,hT16, -⟩:=(H11'.out.below hHeld.1).ex
         refine (counted_calls HZ3.out [x.root,root] (fun _ _=>rfl) (by simp) _ _ hT16.hA (Rx.cells (blk_new _ _ _ rfl) rfl)).mono ?_
         rintro e16 W16 ⟨rfl,hb16⟩
         refine ho hK (HeldB.call hHeld hb16) fun hHeld=> ?_
         clear hK K
         clear hT16 hb16
         refine ta 43 hHeld ?_
         refine ta 44 hHeld ?_
         refine wd ?_
         have H16:=Lib.hid (H11'.out.below hHeld.1)
         clear hHeld hB_d H11'
         go_wp2_with fail
         refine (H16.out.act fun O hT=>pStop_calls x _ hT).mono ?_
         rintro e17 W17 ⟨rfl,h17⟩
         have hst:x.stop.s=x.s:=by unfold Pt.stop;rw [HHE.out];rfl
         have H17:Hid (St w W17 (.pointer (some ⟨p,0,none⟩)) x.s [(w.heap.size, .cells #[.int .i64 d.1,strOf d.2] 42 (0,0))]):=Lib.hid (by rw [←hst];exact h17.st)
         clear h17 H16 hst
         go_wp2_with fail
         refine (H17.out.write fun O hA=>drop_calls x.root _ hA).mono ?_
         rintro e18 W18 ⟨rfl,h18⟩
         have H18:=Lib.hid h18
         clear h18 H17
         rw [HZ6.out]
         by_cases h0:root=0
         · have d9:(root !=0)=false:=by rw [h0];rfl
           have HW8:Hid ((x.s.drop x.root).work 1073741824=some u):=Lib.hid (by have:=HZ8.out;rw [h0,drop_zero] at this;exact this)
           clear h0
           go_wp2_with fail
           refine (H18.out.write fun O hA=>work_calls _ _ HW8.out _ hA).mono ?_
           rintro e19 W19 ⟨rfl,h19⟩
           have H19:=Lib.hid h19
           clear h19 H18
           go_wp2_with fail
           refine (H19.out.same fun O hA=>used_calls _ hA).mono ?_
           rintro e20 W20 ⟨rfl,h20⟩
           have H20:=Lib.hid h20
           clear h20 H19
           rw [HZ9.out]
           go_wp2_with fail
           go_ret
           exact ⟨rfl,H20.out.bel⟩
         · have d9:(root !=0)=true:=by simpa using h0
           have HC0:=Lib.hid (HZ7.out h0)
           clear h0
           go_wp2_with fail
           refine (H18.out.write fun O hA=>drop_calls root _ hA).mono ?_
           rintro e19 W19 ⟨rfl,h19⟩
           have H19:=Lib.hid h19
           clear h19 H18
           rw [HC0.out]
           go_wp2_with fail
           refine (H19.out.write fun O hA=>work_calls _ _ HZ8.out _ hA).mono ?_
           rintro e20 W20 ⟨rfl,h20⟩
           have H20:=Lib.hid h20
           clear h20 H19
           go_wp2_with fail
           refine (H20.out.same fun O hA=>used_calls _ hA).mono ?_
           rintro e21 W21 ⟨rfl,h21⟩
           have H21:=Lib.hid h21
           clear h21 H20
           rw [HZ9.out]
           go_wp2_with fail
           go_ret
           exact ⟨rfl,H21.out.bel⟩)
end Go.Proofs.YtjeofpkhgmefgaaGreat

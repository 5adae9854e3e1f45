/- Part 1 of what PutStops needs: the walks of the program's functions, and plain facts. -/
import Derived.Test.YtjeofpkhgmefgaaGreatCoreM8
import Derived.Deep.CutRange
set_option linter.unusedSimpArgs false
set_option linter.unusedVariables false
set_option linter.unnecessarySimpa false
namespace Go.Proofs.YtjeofpkhgmefgaaGreat
open Go.RowKit
attribute [local go_sem ↓] Go.wp_at_zero Go.wp_at_succ
attribute [local go_sem] lt_s2 lt_s3 lt_s4 str_len
theorem pRoot_nil (w:World):Calls Tryz.prog 41 #[.pointer none] w fun e w'=>e= .returned (.int .i64 0)∧w=w':=by
  go_enter Tryz.func41,Tryz.ntmps41
  go_wp2_with fail
  go_ret
  exact ⟨rfl,rfl⟩
theorem pLeft_nil (w:World):Calls Tryz.prog 39 #[.pointer none] w fun e w'=>e= .returned (.int .i64 0)∧w=w':=by
  go_enter Tryz.func39,Tryz.ntmps39
  go_wp2_with fail
  go_ret
  exact ⟨rfl,rfl⟩
theorem pHeld_nil (w:World):Calls Tryz.prog 42 #[.pointer none] w fun e w'=>e= .returned (.slice none 0 0)∧w=w':=by
  go_enter Tryz.func42,Tryz.ntmps42
  go_wp2_with fail
  go_ret
  exact ⟨rfl,rfl⟩
set_option maxRecDepth 100000 in
theorem pStop_nil (w:World):Calls Tryz.prog 43 #[.pointer none] w fun e w'=>e= .returned (.tuple #[])∧w=w':=by
  go_enter Tryz.func43,Tryz.ntmps43
  go_wp2_with fail
  refine (pHeld_nil _).mono ?_
  rintro e0 w0 ⟨rfl,rfl⟩
  go_wp2_with fail
  go_loopw [7] (fun c wr=>c= .int .i64 0∧wr=w) (fun _ _=>0)
  case atStart=>exact ⟨rfl,rfl⟩
  case round=>
    obtain ⟨rfl,rfl⟩:=hrel
    go_wp2_with fail
    go_end0
    exact ⟨rfl,rfl⟩
set_option maxRecDepth 100000 in
theorem pStep_nil (w:World):Calls Tryz.prog 40 #[.pointer none] w fun e w'=>e= .returned (.tuple #[.bool true, .int .i64 10])∧w=w':=by
  go_enter Tryz.func40,Tryz.ntmps40
  go_wp2_with fail
  refine wp_scope_ghost 0 (fun n a' wr=>(False)∧ ∃u1 u2 u3 u4 u5 u6 u7 u8 u9 u10 u11 u12 u13 u14 u15 u16 u17 u18 u19 u20 u21 u22 u23 u24 u25 u26 u27 u28 u29 u30 u31 u32 u33 u34 u35 u36 u37 u38 u39 u40 u41 u42 u43 u44 u45 u46 u47 u48 u49 u50 u51 u52 u53 u54 u55 u56:Value,a'={tmps:= #[(.pointer none:Value),u1,u2,u3,u4,u5,u6,u7,u8,u9,u10,u11,u12,u13,u14,u15,u16,u17,u18,u19,u20,u21,u22,u23,u24,u25,u26,u27,u28,u29,u30,u31,u32,u33,u34,u35,u36,u37,u38,u39,u40,u41,u42,u43,u44,u45,u46,u47,u48,u49,u50,u51,u52,u53,u54,u55,u56],defers:=[]}) (by rfl) ?first ?pass
  case first=>
    intro hrest
    clear hrest
    go_wp2_with fail
    simp only [Exit.jump]
    go_ret2
    exact ⟨rfl,rfl⟩
  case pass=>
    rintro n a' wr ⟨h, -⟩
    exact h.elim
end Go.Proofs.YtjeofpkhgmefgaaGreat
namespace Go.Proofs.YtjeofpkhgmefgaaGreat
open Go.RowKit
attribute [local go_sem ↓] Go.wp_at_zero Go.wp_at_succ
attribute [local go_sem] str_len
theorem placeZ_neg (id:Int): ∀(l:Docs) (i:Int),0≤i→placeZ id l i<0→ ∀y∈l,y.1≠id
  | [],_,_,_,y,hy=>by cases hy
  | d::l,i,hi,h,y,hy=>by
    unfold placeZ at h
    by_cases e:d.1=id
    · rw [if_pos e] at h;omega
    · rw [if_neg e] at h
      rcases List.mem_cons.1 hy with rfl|hy
      · exact e
      · exact placeZ_neg id l (i+1) (by omega) h y hy
set_option maxRecDepth 100000 in
set_option maxHeartbeats 8000000 in
theorem putStops_walk (A : Option Addr) (cap : Nat) (ds : Docs) (d : Int × List UInt8) (rate steps : Int) (hl : ds.length ≤ maxLen) (hid : IdOk ds) (hwf : (Lit.int .i64 d.1).wf = true) (w : World) (h : Rd2 w (.slice A ds.length cap) ds) :
    Calls Tryz.prog 10 #[.slice A ds.length cap, .agg #[.int .i64 d.1,strOf d.2], .int .i64 rate, .int .i64 steps] w fun e w'=>e= .returned (.bool true)∧Below w.heap.size w w':=by
  have HK:=Lib.hid h;clear h
  have hd64:d.1<9223372036854775808:=by simp [Lit.wf,IntKind.min,IntKind.max,IntKind.bits,IntKind.signed] at hwf;omega
  clear hwf
  cases hf:few ds with
  | false=>
    have Hf:=Lib.hid hf;clear hf
    unfold strOf
    go_enter Tryz.func10,Tryz.ntmps10
    go_wp2_with fail
    refine calls_gen fun V0 hV0=> ?_
    have hb0:Below w.heap.size w V0:=by rw [hV0];exact below_box _ _
    clear hV0
    refine (few_calls _ ds hl _ (HK.out.below hb0)).mono ?_
    rintro e0 W0 ⟨rfl,hb1⟩
    rw [Hf.out]
    have HB0:=Lib.hid (below_step hb0 hb1);clear hb0 hb1
    go_wp2_with fail
    refine (alive13_calls _).mono ?_
    rintro e1 W1 ⟨rfl,hb1⟩
    have HB1:=Lib.hid (below_step HB0.out hb1);clear hb1
    go_wp2_with fail
    go_ret
    exact ⟨rfl,HB1.out⟩
  | true=>
    obtain ⟨hR,htot,hl10⟩:=few_right hf hid
    have Hf:=Lib.hid hf;clear hf
    obtain ⟨P,hP⟩: ∃P,placeZ d.1 ds 0=P:=⟨_,rfl⟩
    have HP:=Lib.hid hP
    have HL10:Hid (ds.length≤50000):=Lib.hid (by omega)
    have hcase : (decide (10 ≤ (ds.length : Int)) = true ∨ (decide (10 ≤ (ds.length : Int)) = false ∧ (decide (rate < 1) = true ∨ (decide (rate < 1) = false ∧ (decide (16 < rate) = true ∨ (decide (16 < rate) = false ∧ (decide (d.1 < 1) = true ∨ (decide (d.1 < 1) = false ∧ (decide (0 ≤ P) = true ∨ (decide (0 ≤ P) = false ∧ (decide (40 < (d.2.length : Int)) = true ∨ (decide (40 < (d.2.length : Int)) = false ∧ (decide (steps < 0) = true ∨ (decide (steps < 0) = false ∧ decide (50 < steps) = true)))))))))))))) ∨
        (decide (10≤(ds.length:Int))=false∧decide (rate<1)=false∧decide (16<rate)=false∧decide (d.1<1)=false∧decide (0≤P)=false∧decide (40<(d.2.length:Int))=false∧decide (steps<0)=false∧decide (50<steps)=false):=by
      simp only [decide_eq_true_eq,decide_eq_false_iff_not];omega
    rcases hcase with hno|⟨d1,d2,d3,d4,d5,d6,d7,d8⟩
    · clear hR htot hl10 hP
      rcases hno with d1|⟨d1,d2|⟨d2,d3|⟨d3,d4|⟨d4,d5|⟨d5,d6|⟨d6,d7|⟨d7,d8⟩⟩⟩⟩⟩⟩⟩<;>
      (unfold strOf
       go_enter Tryz.func10,Tryz.ntmps10
       go_wp2_with fail
       refine calls_gen fun V0 hV0=> ?_
       have hb0:Below w.heap.size w V0:=by rw [hV0];exact below_box _ _
       have kd:V0.heap[w.heap.size]? =some (.cells #[.int .i64 d.1,strOf d.2] 42 (0,0)):=by rw [hV0];exact blk_new _ _ _ rfl
       clear hV0
       refine (few_calls _ ds hl _ (HK.out.below hb0)).mono ?_
       rintro e0 W0 ⟨rfl,hb1⟩
       rw [Hf.out]
       replace kd:=keep_blk hb1 kd
       have HB0:=Lib.hid (below_step hb0 hb1);clear hb0 hb1
       obtain ⟨c_kd,f_kd,l_kd⟩:=f3 kd
       go_wp2_with fail
       first
         | (refine (place_calls _ ds d.1 HL10.out _ (HK.out.below HB0.out)).mono ?_
            rintro e1 W1 ⟨rfl,hb1⟩
            rw [HP.out]
            replace kd:=keep_blk hb1 kd
            clear c_kd f_kd
            obtain ⟨c_kd,f_kd,l_kd⟩:=f3 kd
            have HB1:=Lib.hid (below_step HB0.out hb1)
            clear hb1
            go_wp2_with fail
            refine (alive13_calls _).mono ?_
            rintro e2 W2 ⟨rfl,hb2⟩
            have HB2:=Lib.hid (below_step HB1.out hb2)
            clear hb2
            go_wp2_with fail
            go_ret
            exact ⟨rfl,HB2.out⟩)
         | (refine (alive13_calls _).mono ?_
            rintro e2 W2 ⟨rfl,hb2⟩
            have HB2:=Lib.hid (below_step HB0.out hb2)
            clear hb2
            go_wp2_with fail
            go_ret
            exact ⟨rfl,HB2.out⟩))
    have hb8:ds.length<10∧1≤rate∧rate≤16∧1≤d.1∧P<0∧d.2.length≤40∧0≤steps∧steps≤50:=by
      simp only [decide_eq_false_iff_not] at d1 d2 d3 d4 d5 d6 d7 d8;omega
    obtain ⟨n1,n2,n3,n4,n5,n6,n7,n8⟩:=hb8
    have hnot:=placeZ_neg d.1 ds 0 (by omega) (by rw [hP];exact n5)
    have hRd:=right_snoc hR n1 n4 hd64 n6 hnot
    have hrows:=rows_tot hRd
    have hrows0:=rows_tot hR
    have htd:tot (ds++[d])=tot ds+d.2.length:=by unfold tot;simp
    have H40:Hid (∀t,t∈txt ds→t.length≤50000):=Lib.hid fun t ht=>by
      have h:=hR.right
      unfold refRight at h
      simp only [Bool.and_eq_true,List.all_eq_true,decide_eq_true_eq] at h
      have:=h.1 t ht
      omega
    have HR:=Lib.hid hR;have HRd:=Lib.hid hRd;have HT:=Lib.hid htot;have HN:=Lib.hid hnot
    have HRows:Hid ((rowsM (ds++[d])).length≤111):=Lib.hid (by rw [hrows,htd];simp;omega)
    have HRows0:Hid ((rowsM ds).length≤70):=Lib.hid (by rw [hrows0];omega)
    have H1:=Lib.hid n1;have H2:=Lib.hid n2;have H3:=Lib.hid n3;have H4:=Lib.hid n4;have H6:=Lib.hid n6;have H7:=Lib.hid n7;have H8:=Lib.hid n8
    obtain ⟨M,hM⟩: ∃M:Nat,min steps ((d.2.length:Int)+2)=(M:Int):=⟨(min steps ((d.2.length:Int)+2)).toNat,by omega⟩
    have HM:=Lib.hid hM
    have HM2:Hid (M≤d.2.length+2):=Lib.hid (by omega)
    have HW2:Hid (wrap64 ((d.2.length:Int)+2)=(d.2.length:Int)+2):=Lib.hid (IntWalk.wrap64_in _ (by omega))
    clear hR htot hl10 hP hRd hrows hrows0 htd hnot n1 n2 n3 n4 n5 n6 n7 n8 hM
    unfold strOf
    go_enter Tryz.func10,Tryz.ntmps10
    go_wp2_with fail
    refine calls_gen fun V0 hV0=> ?_
    have hb0:Below w.heap.size w V0:=by rw [hV0];exact below_box _ _
    have kd:V0.heap[w.heap.size]? =some (.cells #[.int .i64 d.1,strOf d.2] 42 (0,0)):=by rw [hV0];exact blk_new _ _ _ rfl
    clear hV0
    refine (few_calls _ ds hl _ (HK.out.below hb0)).mono ?_
    rintro e0 W0 ⟨rfl,hb1⟩
    rw [Hf.out]
    replace kd:=keep_blk hb1 kd
    have HB0:=Lib.hid (below_step hb0 hb1);clear hb0 hb1
    obtain ⟨c_kd,f_kd,l_kd⟩:=f3 kd
    go_wp2_with fail
    refine (place_calls _ ds d.1 HL10.out _ (HK.out.below HB0.out)).mono ?_
    rintro e1 W1 ⟨rfl,hb1⟩
    rw [HP.out]
    replace kd:=keep_blk hb1 kd
    clear c_kd f_kd
    obtain ⟨c_kd,f_kd,l_kd1⟩:=f3 kd
    have HB1:=Lib.hid (below_step HB0.out hb1)
    clear hb1
    go_wp2_with fail
    refine (alive13_calls _).mono ?_
    rintro e2 W2 ⟨rfl,hb2⟩
    replace kd:=keep_blk hb2 kd
    have HB2:=Lib.hid (below_step HB1.out hb2)
    clear hb2 c_kd f_kd d1 d2 d3 d4 d5 d6 d7 d8
    go_wp2_with fail
    refine (new_calls 6000 (by omega) (by omega) _).mono ?_
    rintro e3 W3 ⟨p,O,rfl,hA,hO,hb3⟩
    have hlt:=lt_of kd
    have HS:Hid (St w W3 (.pointer (some ⟨p,0,none⟩)) (Ar.new 6000) [(w.heap.size, .cells #[.int .i64 d.1,strOf d.2] 42 (0,0))]):=Lib.hid
      ⟨⟨O,hA,fun b hb=>Nat.le_trans HB2.out.size (hO b hb),fun y hy=>by
        obtain rfl:y=(w.heap.size, .cells #[.int .i64 d.1,strOf d.2] 42 (0,0)):=by simpa using hy
        exact ⟨keep_blk hb3 kd,fun hq=>by have:=hO _ hq;dsimp only at this;omega⟩⟩,below_step HB2.out hb3⟩
    clear hA hO hb3 kd hlt
    go_wp2_with fail
    refine (bldS_calls 6000 (by omega) (by omega) HS.out rate H2.out (by have:=H3.out;omega) ds HR.out HT.out A cap HK.out).mono ?_
    rintro e4 W4 ⟨root,s,rfl,hS,hI,hwt,hsz,hv,hroot⟩
    have HS4:=Lib.hid hS;have HI:=Lib.hid hI;have HWT:=Lib.hid hwt;have HSZ:=Lib.hid hsz;have HV:=Lib.hid hv
    clear hS hI hwt hsz hv hroot
    go_wp2_with fail
    refine (HS4.out.same fun O hA=>used_calls _ hA).mono ?_
    rintro e5 W5 ⟨rfl,h5⟩
    have HS5:=Lib.hid h5
    have kd:=h5.at0
    clear h5
    obtain ⟨c_kd,f_kd,l_kd5⟩:=f3 kd
    have hcon:=HS5.out.put root rate d.1 d.2 (docsM ds) (HV.out.all HI.out (by have:=H1.out;omega)) (by simp [docsM];have:=H1.out;omega) (vr_is HI.out HV.out HR.out) H2.out H3.out H4.out
      (by rw [placeIn_none d.1 (docsM ds) 0 (fun y hy=>by unfold docsM at hy;obtain ⟨z,hz,rfl⟩:=List.mem_map.1 hy;exact HN.out z hz)]) H6.out (by rw [HV.out.docs HI.out (by have:=H1.out;omega)];have:=H1.out;omega)
    have HCON:=Lib.hid hcon
    clear hcon
    go_wp2_with fail
    refine HCON.out.mono ?_
    rintro e6 W6 ⟨b,rfl,h6⟩
    obtain ⟨t1,t2,t3,t4,t5,t6⟩:=new_T (ds:=ds) (d:=d) HI.out HWT.out HV.out
    have hbz:=HV.out.busy HI.out HWT.out
    have HLT:Hid (LoopT s root ds d rate (d.2.length+3) (Pt.new s root rate d.1 d.2)):=Lib.hid ⟨t1,t2,t3,rfl,t4.trans HSZ.out,by rw [t5];have:=HRows0.out;have:=H1.out;omega⟩
    have H6':=Lib.hid h6;have HT6:=Lib.hid t6
    clear h6 t1 t2 t3 t4 t5 t6 hbz HCON c_kd f_kd kd
    go_upto_region 9 with fail
    go_cut [108] from 93 (fun s108 wx=>s108= .bool false∧Hid (∃x,Sp w wx (.pointer (some ⟨p,0,none⟩)) b x [(w.heap.size, .cells #[.int .i64 d.1,strOf d.2] 42 (0,0))]∧LoopT s root ds d rate (d.2.length+3) x))
    case first=>
      by_cases h0:root=0
      · have d0:(root !=0)=false:=by simpa using h0
        clear h0
        go_wp2_with fail
        go_meet
        exact ⟨rfl,Lib.hid ⟨_,H6'.out,HLT.out⟩⟩
      · have d0:(root !=0)=true:=by simpa using h0
        have h2:=HT6.out h0
        clear h0
        go_wp2_with fail
        refine (H6'.out.same fun O hT=>count_calls root _ hT.hA).mono ?_
        rintro e7 W7 ⟨rfl,h7⟩
        rw [h2]
        have H7':=Lib.hid h7
        clear h7
        go_wp2_with fail
        go_meet
        exact ⟨rfl,Lib.hid ⟨_,H7'.out,HLT.out⟩⟩
    case rest=>
      obtain ⟨rfl,HLA2⟩:=hcut
      clear HLT H6' HT6
      go_wp2_with fail
      go_loopg [15] M (fun m c wr=> ∃(k:Nat) (x:Pt),c= .int .i64 (k:Int)∧k+m=M∧Hid (Sp w wr (.pointer (some ⟨p,0,none⟩)) b x [(w.heap.size, .cells #[.int .i64 d.1,strOf d.2] 42 (0,0))]∧LoopT s root ds d rate (d.2.length+3 - k) x))
      case atStart=>
        obtain ⟨x,hx⟩:=HLA2.out
        exact ⟨0,x,rfl,by omega,Lib.hid hx⟩
      case round=>
        obtain ⟨k,x,rfl,hk,HX⟩:=hrel
        have kd:=HX.out.1.at0
        obtain ⟨c_kd,f_kd,l_kd6⟩:=f3 kd
        by_cases hkm:k<M
        · obtain ⟨⟨m,rfl⟩,e6,n2⟩:=step_num hk hkm HM2.out H6.out
          obtain ⟨hin,y,u,y1,y2,y3⟩:=HX.out.2.nextK hkm HM2.out HV.out HRd.out HRows.out HRows0.out H1.out H2.out
          have HY1:=Lib.hid y1;have HY2:=Lib.hid y2;have HY3:=Lib.hid y3
          have HE6:=Lib.hid e6
          have HOK:Hid (PtOk x):=Lib.hid ⟨hin.1,hin.2.1,hin.2.2.1,hin.2.2.2⟩
          have HKM:=Lib.hid (step_more hk)
          clear y1 y2 y3 hin e6 hk
          have hw2:=HW2.out
          have hm:=HM.out
          go_wp2_with fail
          clear hw2 hm
          refine (HX.out.1.act fun O hT=>pStep_calls x HOK.out _ HY1.out _ hT).mono ?_
          rintro e8 W8 ⟨rfl,h8⟩
          have H8':=Lib.hid h8
          clear h8
          go_wp2_with fail
          refine (H8'.out.write fun O hA=>work_calls _ _ HY2.out _ hA).mono ?_
          rintro e9 W9 ⟨rfl,h9⟩
          have H9':=Lib.hid h9
          clear h9 H8'
          go_wp2_with fail
          have e6:=HE6.out
          go_roundg m
          case measure=>exact HKM.out.2
          case rel=>exact ⟨k+1,_,by first|rfl|(rw [e6];rfl),HKM.out.1,Lib.hid ⟨H9'.out,HY3.out⟩⟩
        · obtain ⟨rfl,n2⟩:=step_end hk hkm
          have HOKS:Hid (PtOk x.stop):=Lib.hid (have hin:=LoopT.okK HX.out.2 HM2.out H2.out H6.out;⟨hin.1,hin.2.1,hin.2.2.1,hin.2.2.2⟩)
          obtain ⟨u,y1,y2,y3,y4,y5⟩:=HX.out.2.stopK HM2.out HI.out HWT.out HV.out HR.out H2.out H3.out
          have HY1:=Lib.hid y1;have HY2:=Lib.hid y2;have HY3:=Lib.hid y3;have HY4:=Lib.hid y4;have HY5:=Lib.hid y5
          clear y1 y2 y3 y4 y5 hk
          have hw2:=HW2.out
          have hm:=HM.out
          go_wp2_with fail
          clear hw2 hm n2 hkm
          refine (HX.out.1.act fun O hT=>pStop_calls x _ hT).mono ?_
          rintro e10 W10 ⟨rfl,h10⟩
          have H10:=Lib.hid h10
          clear h10
          go_wp2_with fail
          refine (H10.out.act fun O hT=>pStop_calls x.stop _ hT).mono ?_
          rintro e11 W11 ⟨rfl,h11⟩
          rw [stop_stop] at h11
          have H11:=Lib.hid h11
          clear h11 H10
          go_wp2_with fail
          refine (H11.out.act fun O hT=>pStep_calls x.stop HOKS.out _ (step_stop x) _ hT).mono ?_
          rintro e12 W12 ⟨rfl,h12⟩
          have H12:=Lib.hid h12
          clear h12 H11
          go_wp2_with fail
          refine (H12.out.write fun O hA=>work_calls _ _ HY1.out _ hA).mono ?_
          rintro e13 W13 ⟨rfl,h13⟩
          obtain ⟨z,hz⟩: ∃z:Pt,{x.stop with s:=u.2}=z:=⟨_,rfl⟩
          rw [hz] at h13
          have HZL:Hid (z.left=0):=Lib.hid (by rw [←hz];rfl)
          have HZR:Hid (z.root=0):=Lib.hid (by rw [←hz];exact HY2.out)
          have HZB:Hid (z.s.busy=s.busy):=Lib.hid (by rw [←hz];exact HY3.out)
          have HZC:Hid (root≠0→z.s.cnt root=1):=Lib.hid (by rw [←hz];exact HY4.out)
          have HZV:Hid (vCheck z.s root rate ds=some true):=Lib.hid (by rw [←hz];exact HY5.out)
          have H13:=Lib.hid h13
          clear h13 H12 hz HY1 HY2 HY3 HY4 HY5 HX
          go_wp2_with fail
          refine (pStep_nil _).mono ?_
          rintro e14 W14 ⟨rfl,rfl⟩
          go_wp2_with fail
          refine (pStop_nil _).mono ?_
          rintro e15 W15 ⟨rfl,rfl⟩
          go_wp2_with fail
          refine (H13.out.same fun O hT=>pLeft_calls _ hT).mono ?_
          rintro e16 W16 ⟨rfl,h16⟩
          have H16:=Lib.hid h16
          clear h16 H13
          rw [HZL.out]
          go_wp2_with fail
          refine (H16.out.same fun O hT=>pRoot_calls _ hT).mono ?_
          rintro e17 W17 ⟨rfl,h17⟩
          have H17:=Lib.hid h17
          clear h17 H16
          rw [HZR.out]
          go_wp2_with fail
          refine (H17.out.same fun O hT=>used_calls _ hT.hA).mono ?_
          rintro e18 W18 ⟨rfl,h18⟩
          have H18:=Lib.hid h18
          clear h18 H17
          rw [HZB.out]
          by_cases h0:root=0
          · have d0:(root==0)=true:=by simpa using h0
            clear h0
            go_wp2_with fail
            refine (H18.out.read fun O hT=>check_calls root rate ds _ true HZV.out HL10.out H40.out _ hT.hA (HK.out.below H18.out.bel)).mono ?_
            rintro e20 W20 ⟨rfl,h20⟩
            have H20:=Lib.hid h20
            clear h20 H18
            go_wp2_with fail
            refine (pRoot_nil _).mono ?_
            rintro e21 W21 ⟨rfl,rfl⟩
            go_wp2_with fail
            refine (pLeft_nil _).mono ?_
            rintro e22 W22 ⟨rfl,rfl⟩
            go_wp2_with fail
            refine (pHeld_nil _).mono ?_
            rintro e23 W23 ⟨rfl,rfl⟩
            go_wp2_with fail
            go_ret
            exact ⟨rfl,H20.out.bel⟩
          · have d0:(root==0)=false:=by simpa using h0
            have h2:=HZC.out h0
            clear h0
            go_wp2_with fail
            refine (H18.out.same fun O hT=>count_calls root _ hT.hA).mono ?_
            rintro e19 W19 ⟨rfl,h19⟩
            have H19:=Lib.hid h19
            clear h19 H18
            rw [h2]
            go_wp2_with fail
            refine (H19.out.read fun O hT=>check_calls root rate ds _ true HZV.out HL10.out H40.out _ hT.hA (HK.out.below H19.out.bel)).mono ?_
            rintro e20 W20 ⟨rfl,h20⟩
            have H20:=Lib.hid h20
            clear h20 H19
            go_wp2_with fail
            refine (pRoot_nil _).mono ?_
            rintro e21 W21 ⟨rfl,rfl⟩
            go_wp2_with fail
            refine (pLeft_nil _).mono ?_
            rintro e22 W22 ⟨rfl,rfl⟩
            go_wp2_with fail
            refine (pHeld_nil _).mono ?_
            rintro e23 W23 ⟨rfl,rfl⟩
            go_wp2_with fail
            go_ret
            exact ⟨rfl,H20.out.bel⟩
end Go.Proofs.YtjeofpkhgmefgaaGreat

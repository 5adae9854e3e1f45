/- Part 1 of what PutHeld needs: the walks of the program's functions, and plain facts. -/
import Derived.Test.YtjeofpkhgmefgaaGreatCoreM8
set_option linter.unusedSimpArgs false
set_option linter.unusedVariables false
set_option linter.unnecessarySimpa false
namespace Go.Proofs.YtjeofpkhgmefgaaGreat
open Go.RowKit
theorem wpList_if {P:Program} {ops:Array Oper} {Q:Exit→Act→World→Prop} {rest:List Oper} {o:Oper} {a:Act} {w:World} (h:if Region.wanted o (yielded ops a.tmps)=true then Oper.wp P o a w (wpList P ops Q rest) Q else wpList P ops Q rest (a.put o.dst undef) w):wpList P ops Q (o::rest) a w:=by
  unfold wpList
  by_cases hw:Region.wanted o (yielded ops a.tmps)=true
  · rw [if_pos hw] at h⊢;exact .inl h
  · rw [if_neg hw] at h⊢;exact h
theorem placeZ_neg (id:Int): ∀(l:Docs) (i:Int),0≤i→placeZ id l i<0→ ∀y∈l,y.1≠id
  | [],_,_,_,y,hy=>by cases hy
  | d::l,i,hi,h,y,hy=>by
    unfold placeZ at h
    by_cases e:d.1=id
    · rw [if_pos e] at h;omega
    · rw [if_neg e] at h
      rcases List.mem_cons.1 hy with rfl|hy
      · exact e
      · exact placeZ_neg id l (i+1) (by omega) h y hy
theorem txt40 {ds:Docs} (hR:Right ds): ∀t,t∈txt ds→t.length≤50000:=fun t ht=>by
  obtain ⟨i,hi⟩:=List.getElem?_of_mem ht
  have:=(right_len hR.right).2 i
  rw [getD_at hi] at this;omega
end Go.Proofs.YtjeofpkhgmefgaaGreat
namespace Go.Proofs.YtjeofpkhgmefgaaGreat
open Go.RowKit
attribute [local go_sem ↓] Go.wp_at_zero Go.wp_at_succ
attribute [local go_sem] str_len
theorem hold_num {k gk S:Nat} (hk:k+gk=S) (hkS:k<S) (hS:S≤15):(∃m,gk=m+1)∧wrap64 ((k:Int)+1)=(k:Int)+1∧decide ((k:Int)<(S:Int))=true:=
  ⟨⟨gk - 1,by omega⟩,IntWalk.wrap64_in _ (by omega),by simpa using hkS⟩
set_option maxRecDepth 100000 in
set_option maxHeartbeats 8000000 in
theorem putHeld_walk (A : Option Addr) (cap : Nat) (ds : Docs) (t : List UInt8) (rate steps : Int) (hl : ds.length ≤ maxLen) (hid : IdOk ds) (ht : t.length ≤ maxLen) (w : World) (h : Rd2 w (.slice A ds.length cap) ds) :
    Calls Tryz.prog 11 #[.slice A ds.length cap,strOf t, .int .i64 rate, .int .i64 steps] w fun e w'=>e= .returned (.bool true)∧Below w.heap.size w w':=by
  have HK:=Lib.hid h;clear h
  cases hf:few ds with
  | false=>
    have Hf:=Lib.hid hf;clear hf
    go_enter Tryz.func11,Tryz.ntmps11
    go_wp2_with fail
    refine (few_calls _ ds hl _ HK.out).mono ?_
    rintro e0 W0 ⟨rfl,hb1⟩
    rw [Hf.out]
    have HB0:=Lib.hid hb1;clear hb1
    go_wp2_with fail
    refine (alive13_calls _).mono ?_
    rintro e1 W1 ⟨rfl,hb1⟩
    have HB1:=Lib.hid (below_step HB0.out hb1);clear hb1
    go_wp2_with fail
    go_ret
    exact ⟨rfl,HB1.out⟩
  | true=>
    obtain ⟨hR,htot,hl10⟩:=few_right hf hid
    have Hf:=Lib.hid hf;clear hf
    obtain ⟨D1,hD1⟩: ∃D1:Int,D1=1048576:=⟨_,rfl⟩
    have HD:=Lib.hid hD1
    obtain ⟨P,hP⟩: ∃P,placeZ D1 ds 0=P:=⟨_,rfl⟩
    have HP:Hid (placeZ 1048576 ds 0=P):=Lib.hid (by rw [←hD1];exact hP)
    have HL10:Hid (ds.length≤50000):=Lib.hid (by omega)
    have hcase : (((ds.length : Int) == 0) = true ∨ (((ds.length : Int) == 0) = false ∧ (decide (10 ≤ (ds.length : Int)) = true ∨ (decide (10 ≤ (ds.length : Int)) = false ∧ (decide (0 ≤ P) = true ∨ (decide (0 ≤ P) = false ∧ (decide (12 < (t.length : Int)) = true ∨ (decide (12 < (t.length : Int)) = false ∧ (decide (rate < 1) = true ∨ (decide (rate < 1) = false ∧ (decide (16 < rate) = true ∨ (decide (16 < rate) = false ∧ (decide (steps < 0) = true ∨ (decide (steps < 0) = false ∧ decide (15 < steps) = true)))))))))))))) ∨
        (((ds.length:Int)==0)=false∧decide (10≤(ds.length:Int))=false∧decide (0≤P)=false∧decide (12<(t.length:Int))=false∧decide (rate<1)=false∧decide (16<rate)=false∧decide (steps<0)=false∧decide (15<steps)=false):=by
      clear hD1 HD hP HP
      simp only [decide_eq_true_eq,decide_eq_false_iff_not,beq_iff_eq,beq_eq_false_iff_ne,ne_eq];omega
    rcases hcase with hno|⟨d0,d1,d2,d3,d4,d5,d6,d7⟩
    · clear hR htot hl10 hP hD1
      rcases hno with d0|⟨d0,d1|⟨d1,d2|⟨d2,d3|⟨d3,d4|⟨d4,d5|⟨d5,d6|⟨d6,d7⟩⟩⟩⟩⟩⟩⟩<;>
      (go_enter Tryz.func11,Tryz.ntmps11
       go_wp2_with fail
       refine (few_calls _ ds hl _ HK.out).mono ?_
       rintro e0 W0 ⟨rfl,hb1⟩
       rw [Hf.out]
       have HB0:=Lib.hid hb1;clear hb1
       go_wp2_with fail
       first
         | (refine (place_calls _ ds 1048576 HL10.out _ (HK.out.below HB0.out)).mono ?_
            rintro e1 W1 ⟨rfl,hb1⟩
            rw [HP.out]
            have HB1:=Lib.hid (below_step HB0.out hb1)
            clear hb1
            go_wp2_with fail
            refine (alive13_calls _).mono ?_
            rintro e2 W2 ⟨rfl,hb2⟩
            have HB2:=Lib.hid (below_step HB1.out hb2)
            clear hb2
            go_wp2_with fail
            go_ret
            exact ⟨rfl,HB2.out⟩)
         | (refine (alive13_calls _).mono ?_
            rintro e2 W2 ⟨rfl,hb2⟩
            have HB2:=Lib.hid (below_step HB0.out hb2)
            clear hb2
            go_wp2_with fail
            go_ret
            exact ⟨rfl,HB2.out⟩))
    have hb8:1≤ds.length∧ds.length<10∧P<0∧t.length≤12∧1≤rate∧rate≤16∧0≤steps∧steps≤15:=by
      clear hD1 HD hP HP
      simp only [decide_eq_false_iff_not,beq_eq_false_iff_ne,ne_eq] at d0 d1 d2 d3 d4 d5 d6 d7;omega
    obtain ⟨n0,n1,n2,n3,n4,n5,n6,n7⟩:=hb8
    have hnot:=placeZ_neg D1 ds 0 (by omega) (by rw [hP];exact n2)
    have hD1p:1≤D1∧D1<9223372036854775808:=by rw [hD1];decide
    obtain ⟨d,hd⟩: ∃d:Int×List UInt8,d=(D1,t):=⟨_,rfl⟩
    have hRd:Right (ds++[d]):=right_snoc hR n1 (by rw [hd];exact hD1p.1) (by rw [hd];exact hD1p.2) (by rw [hd];show t.length≤40;omega) (by rw [hd];exact hnot)
    have hrows:=rows_tot hRd
    have hrows0:=rows_tot hR
    have htd:tot (ds++[d])=tot ds+t.length:=by rw [hd];unfold tot;simp
    have HR:=Lib.hid hR;have HRd:=Lib.hid hRd;have HT:=Lib.hid htot;have HN:=Lib.hid hnot
    have HRows:Hid ((rowsM (ds++[d])).length≤111):=Lib.hid (by rw [hrows,htd];simp;omega)
    have HRows0:Hid ((rowsM ds).length≤70):=Lib.hid (by rw [hrows0];omega)
    have H0:=Lib.hid n0;have H1:=Lib.hid n1;have H2:=Lib.hid n4;have H3:=Lib.hid n5;have H6:=Lib.hid n3;have HDp:=Lib.hid hD1p
    obtain ⟨S,rfl⟩: ∃S:Nat,steps=(S:Int):=⟨steps.toNat,by omega⟩
    have HS15:Hid (S≤15):=Lib.hid (by omega)
    have Hd:=Lib.hid hd
    clear hR htot hl10 hP hRd hrows hrows0 htd hnot n0 n1 n2 n3 n4 n5 n6 n7 hd hD1 hD1p
    go_enter Tryz.func11,Tryz.ntmps11
    go_wp2_with fail
    refine (few_calls _ ds hl _ HK.out).mono ?_
    rintro e0 W0 ⟨rfl,hb1⟩
    rw [Hf.out]
    have HB0:=Lib.hid hb1;clear hb1
    go_wp2_with fail
    refine (place_calls _ ds 1048576 HL10.out _ (HK.out.below HB0.out)).mono ?_
    rintro e1 W1 ⟨rfl,hb1⟩
    rw [HP.out]
    have HB1:=Lib.hid (below_step HB0.out hb1)
    clear hb1
    go_wp2_with fail
    refine (alive13_calls _).mono ?_
    rintro e2 W2 ⟨rfl,hb2⟩
    have HB2:=Lib.hid (below_step HB1.out hb2)
    clear hb2 d0 d1 d2 d3 d4 d5 d6 d7
    go_wp2_with fail
    refine (new_calls 6000 (by omega) (by omega) _).mono ?_
    rintro e3 W3 ⟨p,O,rfl,hA,hO,hb3⟩
    have HS:Hid (St w W3 (.pointer (some ⟨p,0,none⟩)) (Ar.new 6000) []):=Lib.hid (St.new (below_step HB2.out hb3) hA fun b hb=>Nat.le_trans HB2.out.size (hO b hb))
    clear hA hO hb3
    go_wp2_with fail
    refine (bldS_calls 6000 (by omega) (by omega) HS.out rate H2.out (by have:=H3.out;omega) ds HR.out HT.out A cap HK.out).mono ?_
    rintro e4 W4 ⟨root,s,rfl,hS,hI,hwt,hsz,hv,hroot⟩
    have HS4:=Lib.hid hS;have HI:=Lib.hid hI;have HWT:=Lib.hid hwt;have HSZ:=Lib.hid hsz;have HV:=Lib.hid hv
    have HR0:Hid (root≠0):=Lib.hid (fun e=>by have:=H0.out;rw [hroot.1 e] at this;simp at this)
    clear hS hI hwt hsz hv hroot
    have hcon:=HS4.out.put root rate D1 t (docsM ds) (HV.out.all HI.out (by have:=H1.out;omega)) (by simp [docsM];have:=H1.out;omega) (vr_is HI.out HV.out HR.out) H2.out H3.out HDp.out.1
      (by rw [placeIn_none D1 (docsM ds) 0 (fun y hy=>by unfold docsM at hy;obtain ⟨z,hz,rfl⟩:=List.mem_map.1 hy;exact HN.out z hz)]) (by have:=H6.out;omega) (by rw [HV.out.docs HI.out (by have:=H1.out;omega)];have:=H1.out;omega)
    have hbz:=HV.out.busy HI.out HWT.out
    have hlg:=new1_T (d:=d) HI.out HV.out HSZ.out (by have:=HRows0.out;have:=H1.out;omega) HRows0.out (by have:=H1.out;omega)
    have e1:d.1=D1:=by rw [Hd.out]
    have e2:d.2=t:=by rw [Hd.out]
    rw [e1,e2] at hlg
    obtain ⟨x0,hx0⟩: ∃x0,Pt.new s root rate D1 t=x0:=⟨_,rfl⟩
    rw [hx0] at hlg hcon
    have HC0:Hid (x0.s.cntE root=0):=Lib.hid (by
      have hk:=keep1 (k:=root) HI.out (by simp) (fun e=>HI.out.pos (by simp) e)
      rw [←hx0]
      show (s.keep root).cntE root=0
      unfold Ar.cntE;rw [if_neg (hk.1.pos (by simp) HR0.out)])
    rw [HD.out] at hcon
    have HCON:=Lib.hid hcon;have HLG:=Lib.hid hlg
    clear hcon hlg hbz hx0 e1 e2
    go_wp2_with fail
    refine HCON.out.mono ?_
    rintro e6 W6 ⟨b,rfl,h6⟩
    have H6':=Lib.hid h6
    clear h6 HCON
    go_wp2_with fail
    refine (H6'.out.write fun O hA=>drop_calls root _ hA).mono ?_
    rintro e7 W7 ⟨rfl,h7⟩
    have H7':=Lib.hid h7
    clear h7 H6'
    rw [HC0.out]
    go_wp2_with fail
    go_loopg [13,14,15] S (fun m c13 c14 c15 wr=> ∃(k j:Nat) (x:Pt),c15= .int .i64 (k:Int)∧c14= .bool (decide (j=0))∧k+m=S∧Hid (Sp w wr (.pointer (some ⟨p,0,none⟩)) b x []∧LoopG root [] ds d rate j x))
    case atStart=>exact ⟨0,t.length+3,_,rfl,by simp,by omega,Lib.hid ⟨H7'.out,HLG.out⟩⟩
    case round=>
      obtain ⟨k,j,x,rfl,rfl,hk,HX⟩:=hrel
      clear H7' HLG HS4 HS
      cases j with
      | succ j=>
        have d0:decide (j+1=0)=false:=by simp
        by_cases hkS:k<S
        · obtain ⟨⟨m,rfl⟩,e6,n2⟩:=hold_num hk hkS HS15.out
          obtain ⟨y1,y2,y3⟩:=HX.out.2.held
          obtain ⟨hin,y,u,y4,y5,y6⟩:=HX.out.2.next HRd.out HRows.out H1.out H2.out
          have HY1:=Lib.hid y1;have HY2:=Lib.hid y2;have HY3:=Lib.hid (y3 HR0.out);have HY4:=Lib.hid y4;have HY5:=Lib.hid y5;have HY6:=Lib.hid y6
          have HE6:=Lib.hid e6
          have HOK:Hid (PtOk x):=Lib.hid ⟨hin.1,hin.2.1,hin.2.2.1,hin.2.2.2⟩
          have HKM:=Lib.hid (step_more hk)
          clear y1 y2 y3 y4 y5 y6 hin e6 hk
          rw [d0]
          obtain ⟨C,hC⟩: ∃C,x.s.cnt root=C:=⟨_,rfl⟩
          rw [hC] at HY3
          have HC:=Lib.hid hC
          have n3:decide (C<1)=false:=by have:=HY3.out;simp;omega
          clear hC d0
          go_wp2_with fail
          refine (HX.out.1.same fun O hT=>count_calls root _ hT.hA).mono ?_
          rintro e8 W8 ⟨rfl,h8⟩
          rw [HC.out]
          have H8':=Lib.hid h8
          clear h8
          go_wp2_with fail
          obtain ⟨O,hT,hO,hL⟩:=H8'.out.ex
          refine (pHeld_calls _ hT).mono ?_
          rintro e9 W9 ⟨v,rfl,hown,hb9⟩
          have H9':=Lib.hid (H8'.out.below hb9)
          have HRX:=Lib.hid (Rx.of_own hown)
          clear hT hO hL hown hb9 H8'
          go_wp2_with fail
          refine (H9'.out.read fun O hT=>counted_calls HY1.out x.held (fun _ _=>rfl) (by have:=HY2.out;omega) _ _ hT.hA HRX.out).mono ?_
          rintro e10 W10 ⟨rfl,h10⟩
          have H10:=Lib.hid h10
          clear h10 H9' HRX
          go_wp2_with fail
          refine (H10.out.act fun O hT=>pStep_calls x HOK.out _ HY4.out _ hT).mono ?_
          rintro e11 W11 ⟨rfl,h11⟩
          have H11:=Lib.hid h11
          clear h11 H10
          go_wp2_with fail
          refine (H11.out.write fun O hA=>work_calls _ _ HY5.out _ hA).mono ?_
          rintro e12 W12 ⟨rfl,h12⟩
          have H12:=Lib.hid h12
          clear h12 H11
          go_wp2_with fail
          have e6:=HE6.out
          go_roundg m
          case measure=>exact HKM.out.2
          case rel=>exact ⟨k+1,j,_,by first|rfl|(rw [e6];rfl),rfl,HKM.out.1,Lib.hid ⟨H12.out,HY6.out⟩⟩
        · obtain ⟨rfl,n2⟩:=step_end hk hkS
          obtain ⟨z1,u,z2,z3⟩:=HX.out.2.stop0
          have HZ2:=Lib.hid z2;have HZ3:=Lib.hid z3
          clear z1 z2 z3 hk hkS
          rw [d0]
          go_wp2_with fail
          refine (HX.out.1.act fun O hT=>pStop_calls x _ hT).mono ?_
          rintro e10 W10 ⟨rfl,h10⟩
          have H10:=Lib.hid h10
          clear h10
          go_wp2_with fail
          refine (H10.out.write fun O hA=>work_calls _ _ HZ2.out _ hA).mono ?_
          rintro e11 W11 ⟨rfl,h11⟩
          have H11:=Lib.hid h11
          clear h11 H10
          go_wp2_with fail
          refine (H11.out.same fun O hT=>used_calls _ hT.hA).mono ?_
          rintro e12 W12 ⟨rfl,h12⟩
          have H12:=Lib.hid h12
          clear h12 H11
          dsimp only
          rw [HZ3.out]
          go_wp2_with fail
          refine (H12.out.same fun O hT=>pHeld_over _ rfl _ hT).mono ?_
          rintro e13 W13 ⟨rfl,h13⟩
          have H13:=Lib.hid h13
          clear h13 H12
          go_wp2_with fail
          go_ret
          exact ⟨rfl,H13.out.bel⟩
      | zero=>
        have d0:decide ((0:Nat)=0)=true:=rfl
        obtain ⟨z1,z2,z3,z4,z5⟩:=HX.out.2.done HRd.out H2.out H3.out
        have hd2:d=(1048576,t):=by rw [Hd.out,HD.out]
        have H40:=Lib.hid (txt40 HRd.out)
        rw [hd2] at z5 H40
        have HZ1:=Lib.hid z1;have HZ3:=Lib.hid z3;have HZ5:=Lib.hid z5
        clear hd2
        clear z1 z2 z3 z4 z5
        have hkk:(k<S∧decide ((k:Int)<(S:Int))=true)∨(¬k<S∧decide ((k:Int)<(S:Int))=false):=by simp only [decide_eq_true_eq,decide_eq_false_iff_not];omega
        clear hk
        rw [d0]
        clear d0
        unfold strOf
        rcases hkk with ⟨n3,n2⟩|⟨n3,n2⟩<;>
        (skip
         go_wp2_with fail
         refine (HX.out.1.same fun O hT=>pHeld_over _ HZ1.out _ hT).mono ?_
         rintro e13 W13 ⟨rfl,h13⟩
         have H13:=Lib.hid h13
         clear h13
         go_wp2_with fail
         refine (H13.out.same fun O hT=>pRoot_calls _ hT).mono ?_
         rintro e14 W14 ⟨rfl,h14⟩
         have H14:=Lib.hid h14
         clear h14 H13
         go_wp2_with (at_builtin;first
           | (refine wpList_if ?_;refine step_moreN (by rfl) _ _ 22 (by rfl) (base:=W14.heap.size) (e:=42) (.agg #[.int .i64 0, .string ⟨#[]⟩]) 2 24 (by omega) Tryz.underlying22 (by kernel_rfl) (by rfl) (v:= .slice none 0 0) (by rfl) (own_nil _ _ _ _) (by rfl) (rds_docs (HK.out.below H14.out.bel)) (docCells_one ds) (nm:=ds.length) (by omega) (by have:=H1.out;omega) (by omega) (Nat.le_refl _) ?_;intro A4 c4 W15 hown4 hlow4 hkeep4;obtain ⟨v4,hv4⟩: ∃v4,Value.slice A4 ds.length c4=v4:=⟨_,rfl⟩;rw [hv4] at hown4⊢;clear hv4)
           | (refine wpList_if ?_;refine step_moreN (by rfl) _ _ 22 (by rfl) (base:=W14.heap.size) (e:=42) (.agg #[.int .i64 0, .string ⟨#[]⟩]) 2 24 (by omega) Tryz.underlying22 (by kernel_rfl) (by rfl) (v:=v4) (by rfl) (hown4.alloc _) (by rfl) (rds_one W15 #[.int .i64 1048576,strOf t] 42 2 rfl) (docCells_one [(1048576,t)]) (nm:=ds.length+1) (by omega) (by have:=H1.out;omega) (by omega) (by have:=hlow4.size;rw [siz_alloc];omega) ?_;intro A5 c5 W16 hown5 hlow5 hkeep5))
         have HD2:Hid (Rd2 W16 (.slice A5 (ds.length+1) c5) (ds++[(1048576,t)])):=Lib.hid (rd2_own (ds:=ds++[(1048576,t)]) (by rw [docCells_append,List.length_append];exact hown5))
         have H16:=Lib.hid (H14.out.below ((hlow4.alloc hlow4.size _).trans hlow5))
         clear hown4 hlow4 hkeep4 hown5 hlow5 hkeep5 H14
         refine (H16.out.read fun O hT=>check_calls x.root rate (ds++[(1048576,t)]) _ true HZ5.out (by rw [List.length_append];have:=H1.out;simp;omega) H40.out _ hT.hA HD2.out).mono ?_
         rintro e17 W17 ⟨rfl,h17⟩
         have H17:=Lib.hid h17
         clear h17 H16 HD2
         go_wp2_with fail
         refine (H17.out.same fun O hT=>pRoot_calls _ hT).mono ?_
         rintro e18 W18 ⟨rfl,h18⟩
         have H18:=Lib.hid h18
         clear h18 H17
         go_wp2_with fail
         refine calls_gen fun V hV=> ?_
         have H19:=Lib.hid (H18.out.box _ hV)
         clear hV H18
         refine (H19.out.read fun O hT=>counted_calls HZ3.out [x.root] (fun _ _=>rfl) (by simp) _ _ hT.hA (Rx.cells H19.out.at0 rfl)).mono ?_
         rintro e20 W20 ⟨rfl,h20⟩
         have H20:=Lib.hid h20
         clear h20 H19
         go_wp2_with fail
         go_ret
         exact ⟨rfl,H20.out.bel⟩)
end Go.Proofs.YtjeofpkhgmefgaaGreat

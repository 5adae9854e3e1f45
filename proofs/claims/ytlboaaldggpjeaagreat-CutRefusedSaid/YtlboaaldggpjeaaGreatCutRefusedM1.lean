/- Part 1 of what CutRefused needs: the walks of the program's functions, and plain facts. -/
import Derived.Test.YtlboaaldggpjeaaGreatCoreM9
set_option linter.unusedSimpArgs false
set_option linter.unusedVariables false
set_option linter.unnecessarySimpa false
namespace Go.Proofs.YtlboaaldggpjeaaGreat
open Go.RowKit
attribute [local go_sem ↓] Go.wp_at_zero Go.wp_at_succ
attribute [local go_sem] str_len
theorem ap_none14 (w:World):AP w (.pointer none) Ar.none (fun _=>False):=⟨Ar.Wq.new 0 (by omega), .inl ⟨rfl,rfl,fun _ h=>h.elim⟩⟩
theorem refused_right:Right [(5,[97,98])]:=⟨by decide+kernel,by decide,by decide⟩
theorem keep_made (s:Ar) (k:Int):(s.keep k).made=s.made:=by unfold Ar.keep;split<;>rfl
theorem vr_nil (s:Ar) (rate:Int):VR s 0 [] rate:=⟨.inl ⟨rfl,rfl⟩,fun e=>absurd rfl e⟩
set_option maxRecDepth 100000 in
set_option maxHeartbeats 4000000 in
theorem cutRefused_walk (id rate : Int) (w : World) :
    Calls Tryz.prog 12 #[.int .i64 id, .int .i64 rate] w fun e w'=>e= .returned (.bool true)∧Below w.heap.size w w':=by
  have HR:=Lib.hid refused_right
  go_enter Tryz.func12,Tryz.ntmps12
  go_wp2_with fail
  refine (alive14_calls _).mono ?_
  rintro e1 W1 ⟨rfl,hb1⟩
  have HB1:=Lib.hid hb1
  clear hb1
  go_wp2_with fail
  refine (new_calls 2000 (by omega) (by omega) _).mono ?_
  rintro e2 W2 ⟨p,O,rfl,hA,hO,hb2⟩
  have HS:=Lib.hid (St.new (below_step HB1.out hb2) hA fun b hb=>Nat.le_trans HB1.out.size (hO b hb))
  clear hA hO hb2
  go_wp2_with fail
  refine calls_gen fun V3 hV3=> ?_
  have HS3:=Lib.hid (HS.out.box _ hV3)
  clear hV3
  have kg:=HS3.out.at0
  refine (bldG_calls (ds:=[(5,[97,98])]) 2000 (by omega) HS3.out 2 (by omega) (by omega) HR.out (by decide) (some ⟨W2.heap.size,0,none⟩) 1 (rd2_cells kg rfl (by decide)) (fun a ha _ O _ _ hL=>by cases ha;exact (hL _ (List.mem_singleton.2 rfl)).2)).mono ?_
  rintro e4 W4 ⟨root,s,rfl,hS,hI,hwt,hsz,hv,hroot⟩
  have hr0:root≠0:=fun e=>by have:=hroot.1 e;cases this
  have hk:([(5,[97,98])]:Docs)[0]? =some (5,[97,98]):=rfl
  obtain ⟨r,r1,r2,r3,r4,r5,r6⟩:=newC_in hI hv HR.out hk
  have hv0:=vr_nil s 1
  have q1:=hv0.all hI (by simp)
  have q2:=(hv0.parts hI (by simp)).2.2.2.2
  have hc1:=cnt_one hI hwt hr0
  have hc2:=(new_T (d:=(1,[])) hI hwt hv).2.2.2.2.2 hr0
  replace hc2:(s.keep root).cnt root=2:=hc2
  have HS4:=Lib.hid (hS.less (L':=[]) (fun _ h=>by cases h))
  have R1:=Lib.hid r1;have R3:=Lib.hid r3;have R4:=Lib.hid r4;have R5:=Lib.hid r5;have Q1:=Lib.hid q1;have Q2:=Lib.hid q2;have C1:=Lib.hid hc1;have C2:=Lib.hid hc2
  have hK:=keep1 (k:=root) hI (by simp) (fun e=>hI.pos (by simp) e)
  have QK1:=Lib.hid ((vr_nil (s.keep root) 1).all hK.1 (by simp));have QK2:=Lib.hid ((vr_nil (s.keep root) 1).parts hK.1 (by simp)).2.2.2.2
  clear hS hI hwt hsz hv hroot hr0 hk r1 r2 r3 r4 r5 r6 hv0 q1 q2 hc1 hc2 kg HS HS3 hK
  go_wp2_with fail
  refine (HS4.out.same fun O hA=>made_calls _ hA).mono ?_
  rintro e5 W5 ⟨rfl,h5⟩
  have H5:=Lib.hid h5
  clear h5 HS4
  obtain ⟨M,hM⟩: ∃M,s.made=M:=⟨_,rfl⟩
  rw [hM]
  have HM:=Lib.hid hM
  clear hM
  have hcase:(decide (rate<1)=true∨(decide (rate<1)=false∧decide (16<rate)=true))∨(decide (rate<1)=false∧decide (16<rate)=false∧(id !=5)=true)∨(decide (rate<1)=false∧decide (16<rate)=false∧(id !=5)=false):=by
    simp only [decide_eq_true_eq,decide_eq_false_iff_not,bne_iff_ne,bne_eq_false_iff_eq];omega
  rcases hcase with hno|⟨d1,d2,d3⟩|⟨d1,d2,d3⟩
  · have hbad:rate<1∨16<rate:=by simp only [decide_eq_true_eq,decide_eq_false_iff_not] at hno;omega
    go_wp2_with fail
    refine (H5.out.read fun O hA=>cNew_arg _ root rate id (.inr (.inr hbad)) _ hA).mono ?_
    rintro e6 W6 ⟨rfl,h6⟩
    have H6:=Lib.hid h6
    clear h6 H5 hbad
    rcases hno with d1|⟨d1,d2⟩<;>
    (go_wp2_with fail
     refine (cNew_arg (s:=Ar.none) (O:=fun _=>False) (.pointer none) 0 1 1 (.inl rfl) _ (ap_none14 _)).mono ?_
     rintro e7 W7 ⟨rfl,hb7⟩
     have H7:=Lib.hid (H6.out.below hb7)
     clear hb7
     go_wp2_with fail
     refine (H7.out.read fun O hA=>cNew_none _ 0 1 5 _ Q1.out (by decide) Q2.out (by omega) (by omega) rfl _ hA).mono ?_
     rintro e8 W8 ⟨rfl,h8⟩
     have H8:=Lib.hid h8
     clear h8 H7
     go_wp2_with fail
     refine (H8.out.same fun O hA=>made_calls _ hA).mono ?_
     rintro e9 W9 ⟨rfl,h9⟩
     have H9:=Lib.hid h9
     clear h9 H8
     rw [HM.out]
     go_wp2_with fail
     refine (H9.out.same fun O hA=>count_calls root _ hA).mono ?_
     rintro e10 W10 ⟨rfl,h10⟩
     have H10:=Lib.hid h10
     clear h10 H9
     rw [C1.out]
     go_wp2_with fail
     go_ret
     exact ⟨rfl,H10.out.bel⟩)
  · have h5:id≠5:=by simpa using d3
    have h12:1≤rate∧rate≤16:=by simp only [decide_eq_false_iff_not] at d1 d2;omega
    go_wp2_with fail
    refine (H5.out.read fun O hA=>cNew_none _ root rate id _ R1.out (by decide) R3.out h12.1 h12.2 (by
      rw [placeIn_none id _ 0 (fun y hy=>by
        rw [List.mem_singleton.1 hy];exact fun e=>h5 e.symm)]) _ hA).mono ?_
    rintro e6 W6 ⟨rfl,h6⟩
    have H6:=Lib.hid h6
    clear h6 H5 h5 h12
    go_wp2_with fail
    refine (cNew_arg (s:=Ar.none) (O:=fun _=>False) (.pointer none) 0 1 1 (.inl rfl) _ (ap_none14 _)).mono ?_
    rintro e7 W7 ⟨rfl,hb7⟩
    have H7:=Lib.hid (H6.out.below hb7)
    clear hb7
    go_wp2_with fail
    refine (H7.out.read fun O hA=>cNew_none _ 0 1 5 _ Q1.out (by decide) Q2.out (by omega) (by omega) rfl _ hA).mono ?_
    rintro e8 W8 ⟨rfl,h8⟩
    have H8:=Lib.hid h8
    clear h8 H7
    go_wp2_with fail
    refine (H8.out.same fun O hA=>made_calls _ hA).mono ?_
    rintro e9 W9 ⟨rfl,h9⟩
    have H9:=Lib.hid h9
    clear h9 H8
    rw [HM.out]
    go_wp2_with fail
    refine (H9.out.same fun O hA=>count_calls root _ hA).mono ?_
    rintro e10 W10 ⟨rfl,h10⟩
    have H10:=Lib.hid h10
    clear h10 H9
    rw [C1.out]
    go_wp2_with fail
    go_ret
    exact ⟨rfl,H10.out.bel⟩
  · obtain rfl:id=5:=by simpa using d3
    have h12:1≤rate∧rate≤16:=by simp only [decide_eq_false_iff_not] at d1 d2;omega
    clear d3
    go_wp2_with fail
    refine (H5.out.cut root rate 5 0 _ r R1.out (by decide) R3.out h12.1 h12.2 R4.out R5.out).mono ?_
    rintro e6 W6 ⟨b,rfl,h6⟩
    obtain ⟨A6,cap6,h6'⟩:=h6.st
    have H6:Hid (St w W6 (.pointer (some ⟨p,0,none⟩)) (s.keep root) _):=Lib.hid h6'
    clear h6 h6' H5 h12
    go_wp2_with fail
    refine (cNew_arg (s:=Ar.none) (O:=fun _=>False) (.pointer none) 0 1 1 (.inl rfl) _ (ap_none14 _)).mono ?_
    rintro e7 W7 ⟨rfl,hb7⟩
    have H7:=Lib.hid (H6.out.below hb7)
    clear hb7
    go_wp2_with fail
    refine (H7.out.read fun O hA=>cNew_none _ 0 1 5 _ QK1.out (by decide) QK2.out (by omega) (by omega) rfl _ hA).mono ?_
    rintro e8 W8 ⟨rfl,h8⟩
    have H8:=Lib.hid h8
    clear h8 H7
    go_wp2_with fail
    refine (H8.out.same fun O hA=>made_calls _ hA).mono ?_
    rintro e9 W9 ⟨rfl,h9⟩
    have H9:=Lib.hid h9
    clear h9 H8
    rw [keep_made,HM.out]
    go_wp2_with fail
    refine (H9.out.same fun O hA=>count_calls root _ hA).mono ?_
    rintro e10 W10 ⟨rfl,h10⟩
    have H10:=Lib.hid h10
    clear h10 H9
    rw [C2.out]
    go_wp2_with fail
    go_ret
    exact ⟨rfl,H10.out.bel⟩
end Go.Proofs.YtlboaaldggpjeaaGreat

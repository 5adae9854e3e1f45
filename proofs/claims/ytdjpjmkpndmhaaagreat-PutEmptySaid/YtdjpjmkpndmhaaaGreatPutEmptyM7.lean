/- Part 7 of what PutEmpty needs: the walks of the program's functions, and plain facts. -/
import Derived.Test.YtdjpjmkpndmhaaaGreatPutEmptyM6
import Derived.Laws.StructEq
import Derived.Deep.Slices
import Derived.Deep.Fields
import Derived.ChangeSame
import Derived.WideShapes
set_option linter.unusedSimpArgs false
set_option linter.unusedVariables false
set_option linter.unnecessarySimpa false
namespace Go.Proofs.YtdjpjmkpndmhaaaGreat
open Go.RowKit Go.Sort
attribute [local go_sem ↓] Go.wp_at_zero Go.wp_at_succ
attribute [local go_sem] lt_s2 lt_s3 lt_s4 str_len
variable {ap : Value} {O : Nat → Prop} {tb : Nat}
set_option maxRecDepth 100000 in
set_option maxHeartbeats 4000000 in
theorem pInsert_calls (x : Pt) (hp : 0 ≤ x.pos) (hp2 : x.pos ≤ x.text.length) (ht : x.text.length ≤ 50000) (hrate : 1 ≤ x.rate) (r : Int × Pt) (hr : x.insert = some r) (w : World) (hT : PB w tb ap x O) :
    Calls Tryz.prog 98 #[.pointer (some ⟨tb,0,none⟩)] w fun e w'=>e= .returned (.int .i64 r.1)∧DidP tb ap r.2 O w w':=by
  unfold Pt.insert at hr
  obtain ⟨b,h_b,h_r⟩:=Option.bind_eq_some_iff.1 hr
  have Hb:=Lib.hid h_b;clear h_b hr;have hr:=h_r;clear h_r
  obtain ⟨k,h_b,h_r⟩:=Option.bind_eq_some_iff.1 hr
  have Hk:=Lib.hid h_b;clear h_b hr;have hr:=h_r;clear h_r
  obtain ⟨r1,h_b,h_r⟩:=Option.bind_eq_some_iff.1 hr
  have Hr1:=Lib.hid h_b;clear h_b hr;have hr:=h_r;clear h_r
  obtain ⟨g1,e1,s1⟩:=r1
  have Hr:=Lib.hid hr;have Hp:=Lib.hid hp;have Hp2:=Lib.hid hp2;have Ht:=Lib.hid ht;have Hrate:=Lib.hid hrate
  clear hr ht hrate hp hp2
  go_enter Tryz.func98,Tryz.ntmps98
  have hA:=hT.hA
  have kt:=hT.blk
  have o_kt:=hT.no
  obtain ⟨c_kt,f_kt,l_kt_w⟩:=f3 kt
  go_upto_if 12 with fail
  refine wp_gen fun V hV_V=> ?_
  replace kt:=kK hV_V kt
  have hF:Fr ((oneX tb)) O O w V:=nF hV_V
  replace hA:AP V ap x.s O:=nA hV_V
  have z_V:=zS hV_V
  clear hV_V c_kt f_kt
  obtain ⟨c_kt,f_kt,l_kt_V⟩:=f3 kt
  go_cut [3] from 8 (fun s3 wx=>s3= .int .i64 x.sym∧AP wx ap x.s O∧Fr (oneX tb) O O w wx∧wx.heap[tb]? =some (.cells #[ap, .int .i64 x.src, .int .i64 x.rate, .int .i64 x.id,strOf x.text, .int .i64 x.p.wave, .int .i64 x.p.marks, .int .i64 x.p.spots, .int .i64 x.p.table, .int .i64 x.pos, .int .i64 x.row, .bool x.begun, .bool x.over, .int .i64 x.root] 125 (0,0)))
  case first=>
    by_cases h0:0<x.pos
    · have d0:decide (0<x.pos)=true:=by simpa using h0
      obtain ⟨n,hn⟩: ∃n:Nat,x.pos=(n:Int)+1:=⟨(x.pos - 1).toNat,by omega⟩
      have hlt:n<x.text.length:=by have:=Hp2.out;omega
      obtain ⟨u,hu⟩: ∃u,x.text[n]? =some u:=⟨_,List.getElem?_eq_getElem hlt⟩
      have hsym:Hid (x.sym=(u.toNat:Int)+1):=Lib.hid (by
        unfold Pt.sym
        rw [if_pos h0,hn,show ((n:Int)+1 - 1).toNat=n by omega,List.getD_eq_getElem?_getD,hu];rfl)
      have e1:wrap64 (x.pos - 1)=(n:Int):=by rw [IntWalk.wrap64_in _ (by have:=Ht.out;omega)];omega
      have hix:=fun v=>str_index x.text n u hu v
      clear h0 hlt hn hu
      rw [d0]
      go_wp2_with fail
      refine wp_gen fun V1 hV_V1=> ?_
      replace kt:=kK hV_V1 kt
      replace hF:Fr ((oneX tb)) O O w V1:=nF hV_V1
      replace hA:AP V1 ap x.s O:=nA hV_V1
      have z_V1:=zS hV_V1
      clear hV_V1 c_kt f_kt
      obtain ⟨c_kt,f_kt,l_kt_V1⟩:=f3 kt
      refine wp_region_noPanic ?_
      refine wp_region_held_drew (S:=fun v=>(∀o,v.cell? ⟨tb,o,none⟩=V1.cell? ⟨tb,o,none⟩)∧(V1.heap.size≤v.heap.size)∧AP v ap x.s O) (by kernel_rfl) ⟨(fun _=>rfl),(Nat.le_refl _),hA.drew⟩ (fun hHeld=> ?_)
      generalize hV_V1d:V1.drew=V1d at hHeld⊢
      have d_kt:=dK hV_V1d kt
      clear c_kt f_kt
      replace hA:=hA.drew;rw [hV_V1d] at hA
      replace hF:=hF.drew;rw [hV_V1d] at hF
      have z_V1d:=dZ hV_V1d
      have v_kt:=cells_of kt
      clear kt;have kt:=d_kt;clear d_kt
      obtain ⟨c_kt,f_kt,l_kt_V1d⟩:=f3 kt
      clear hV_V1d
      refine tz 0 rfl hHeld ?_
      try simp only [PT]
      refine tz 1 rfl hHeld ?_
      try simp only [PT]
      refine tz 2 rfl hHeld ?_
      try simp only [PT]
      refine tz 3 rfl hHeld ?_
      try simp only [PT]
      refine tz 4 rfl hHeld ?_
      try simp only [PT]
      refine tz 5 rfl hHeld ?_
      try simp only [PT]
      refine tz 6 rfl hHeld ?_
      try simp only [PT]
      refine tz 7 rfl hHeld ?_
      try simp only [PT]
      refine tz 8 rfl hHeld ?_
      try simp only [PT]
      refine tz 9 rfl hHeld ?_
      try simp only [PT]
      refine rd 10 rfl fun K hK=> ?_
      go_simp
      try simp only [IntWalk.i64_left]
      refine (symof_calls u _).mono ?_
      rintro e_W1 W1 ⟨rfl,hb_W1⟩
      replace hA:=hA.below hb_W1
      replace hF:=hF.below hb_W1
      replace kt:=keep_blk hb_W1 kt
      have z_W1:=hb_W1.size
      clear hb_W1 c_kt f_kt
      obtain ⟨c_kt,f_kt,l_kt_W1⟩:=f3 kt
      refine hK.out _ _ ⟨(fun o=>(c_kt o).trans (v_kt o).symm),(by omega),hA⟩ (fun hHeld=> ?_)
      clear hK K
      try simp only [PT]
      refine rd 11 rfl fun K hK=> ?_
      go_simp
      refine hK.out _ _ hHeld (fun hHeld=> ?_)
      clear hK K
      try simp only [PT]
      refine wpAnyH_done (by kernel_rfl) ?_ _
      refine NoPanic.normal ?_
      go_wp2_with fail
      go_meet
      exact ⟨by rw [hsym.out],hA,hF,kt⟩
    · have d0:decide (0<x.pos)=false:=by simpa using h0
      have hsym:Hid (x.sym=0):=Lib.hid (by unfold Pt.sym;rw [if_neg h0])
      clear h0
      rw [d0]
      go_wp2_with fail
      go_meet
      exact ⟨by rw [hsym.out],hA,hF,kt⟩
  case rest=>
    clear hA hF kt c_kt f_kt
    obtain ⟨rfl,hA,hF,kt⟩:=hcut
    obtain ⟨c_kt,f_kt,l_kt_wc⟩:=f3 kt
    go_wp2_with fail
    refine wp_gen fun V2 hV_V2=> ?_
    replace kt:=kK hV_V2 kt
    replace hF:Fr ((oneX tb)) O O w V2:=nF hV_V2
    replace hA:AP V2 ap x.s O:=nA hV_V2
    have z_V2:=zS hV_V2
    clear hV_V2 c_kt f_kt
    obtain ⟨c_kt,f_kt,l_kt_V2⟩:=f3 kt
    refine wp_region_noPanic ?_
    refine wp_region_held_drew (S:=fun v=>(∀o,v.cell? ⟨tb,o,none⟩=V2.cell? ⟨tb,o,none⟩)∧(V2.heap.size≤v.heap.size)∧AP v ap x.s O) (by kernel_rfl) ⟨(fun _=>rfl),(Nat.le_refl _),hA.drew⟩ (fun hHeld=> ?_)
    generalize hV_V2d:V2.drew=V2d at hHeld⊢
    have d_kt:=dK hV_V2d kt
    clear c_kt f_kt
    replace hA:=hA.drew;rw [hV_V2d] at hA
    replace hF:=hF.drew;rw [hV_V2d] at hF
    have z_V2d:=dZ hV_V2d
    have v_kt:=cells_of kt
    clear kt;have kt:=d_kt;clear d_kt
    obtain ⟨c_kt,f_kt,l_kt_V2d⟩:=f3 kt
    clear hV_V2d
    refine tz 0 rfl hHeld ?_
    try simp only [PT]
    refine tz 1 rfl hHeld ?_
    try simp only [PT]
    refine tz 2 rfl hHeld ?_
    try simp only [PT]
    refine tz 3 rfl hHeld ?_
    try simp only [PT]
    refine tz 4 rfl hHeld ?_
    try simp only [PT]
    refine tz 5 rfl hHeld ?_
    try simp only [PT]
    refine tz 6 rfl hHeld ?_
    try simp only [PT]
    refine tz 7 rfl hHeld ?_
    try simp only [PT]
    refine tz 8 rfl hHeld ?_
    try simp only [PT]
    refine tz 9 rfl hHeld ?_
    try simp only [PT]
    refine tz 12 rfl hHeld ?_
    try simp only [PT]
    refine tz 13 rfl hHeld ?_
    try simp only [PT]
    refine tz 14 rfl hHeld ?_
    try simp only [PT]
    refine tz 15 rfl hHeld ?_
    try simp only [PT]
    refine tz 16 rfl hHeld ?_
    try simp only [PT]
    refine tz 17 rfl hHeld ?_
    try simp only [PT]
    refine tz 18 rfl hHeld ?_
    try simp only [PT]
    refine tz 19 rfl hHeld ?_
    try simp only [PT]
    refine tz 20 rfl hHeld ?_
    try simp only [PT]
    refine tz 21 rfl hHeld ?_
    try simp only [PT]
    refine tz 22 rfl hHeld ?_
    try simp only [PT]
    refine tz 23 rfl hHeld ?_
    try simp only [PT]
    refine tz 24 rfl hHeld ?_
    try simp only [PT]
    refine tz 25 rfl hHeld ?_
    try simp only [PT]
    refine rd 10 rfl fun K hK=> ?_
    go_simp
    try simp only [IntWalk.i64_left]
    refine (wBefore_calls _ _ b Hb.out _ hA).mono ?_
    rintro e_W2 W2 ⟨rfl,hb_W2⟩
    replace hA:=hA.below hb_W2
    replace hF:=hF.below hb_W2
    replace kt:=keep_blk hb_W2 kt
    have z_W2:=hb_W2.size
    clear hb_W2 c_kt f_kt
    obtain ⟨c_kt,f_kt,l_kt_W2⟩:=f3 kt
    refine hK.out _ _ ⟨(fun o=>(c_kt o).trans (v_kt o).symm),(by omega),hA⟩ (fun hHeld=> ?_)
    clear hK K
    try simp only [PT]
    refine tz 11 rfl hHeld ?_
    try simp only [PT]
    refine rd 26 rfl fun K hK=> ?_
    go_simp
    try simp only [IntWalk.i64_left]
    refine (wRank_calls _ _ _ k Hk.out _ hA).mono ?_
    rintro e_W3 W3 ⟨rfl,hb_W3⟩
    replace hA:=hA.below hb_W3
    replace hF:=hF.below hb_W3
    replace kt:=keep_blk hb_W3 kt
    have z_W3:=hb_W3.size
    clear hb_W3 c_kt f_kt
    obtain ⟨c_kt,f_kt,l_kt_W3⟩:=f3 kt
    refine hK.out _ _ ⟨(fun o=>(c_kt o).trans (v_kt o).symm),(by omega),hA⟩ (fun hHeld=> ?_)
    clear hK K
    try simp only [PT]
    refine tz 27 rfl hHeld ?_
    try simp only [PT]
    refine rd 28 rfl fun K hK=> ?_
    go_simp
    refine hK.out _ _ hHeld (fun hHeld=> ?_)
    clear hK K
    try simp only [PT]
    refine wpAnyH_done (by kernel_rfl) ?_ _
    refine NoPanic.normal ?_
    go_wp2_with fail
    refine wp_gen fun V3 hV_V3=> ?_
    replace kt:=kK hV_V3 kt
    replace hF:Fr ((oneX tb)) O O w V3:=nF hV_V3
    replace hA:AP V3 ap x.s O:=nA hV_V3
    have z_V3:=zS hV_V3
    clear hV_V3 c_kt f_kt
    obtain ⟨c_kt,f_kt,l_kt_V3⟩:=f3 kt
    refine wp_region_noPanic ?_
    refine wp_region_held_drew (S:=fun v=>(∀o,v.cell? ⟨tb,o,none⟩=V3.cell? ⟨tb,o,none⟩)∧(V3.heap.size≤v.heap.size)∧True) (by kernel_rfl) ⟨(fun _=>rfl),(Nat.le_refl _),trivial⟩ (fun hHeld=> ?_)
    generalize hV_V3d:V3.drew=V3d at hHeld⊢
    have d_kt:=dK hV_V3d kt
    clear c_kt f_kt
    replace hA:=hA.drew;rw [hV_V3d] at hA
    replace hF:=hF.drew;rw [hV_V3d] at hF
    have z_V3d:=dZ hV_V3d
    have v_kt:=cells_of kt
    clear kt;have kt:=d_kt;clear d_kt
    obtain ⟨c_kt,f_kt,l_kt_V3d⟩:=f3 kt
    clear hV_V3d
    refine tz 0 rfl hHeld ?_
    try simp only [PT]
    refine tz 1 rfl hHeld ?_
    try simp only [PT]
    refine tz 2 rfl hHeld ?_
    try simp only [PT]
    refine tz 3 rfl hHeld ?_
    try simp only [PT]
    refine tz 4 rfl hHeld ?_
    try simp only [PT]
    refine tz 5 rfl hHeld ?_
    try simp only [PT]
    refine tz 6 rfl hHeld ?_
    try simp only [PT]
    refine tz 7 rfl hHeld ?_
    try simp only [PT]
    refine tz 8 rfl hHeld ?_
    try simp only [PT]
    refine tz 9 rfl hHeld ?_
    try simp only [PT]
    refine tz 10 rfl hHeld ?_
    try simp only [PT]
    refine tz 11 rfl hHeld ?_
    try simp only [PT]
    refine tz 12 rfl hHeld ?_
    try simp only [PT]
    refine tz 13 rfl hHeld ?_
    try simp only [PT]
    refine rd 14 rfl fun K hK=> ?_
    go_simp
    try simp only [IntWalk.i64_left]
    refine (wInsert_calls x.s _ _ _ _ (g1,e1,s1) Hr1.out _ hA).mono ?_
    rintro e_W4 W4 ⟨rfl,O1,hA_W4,hf_W4⟩
    have q_kt:=hf_W4.keep kt o_kt (fun h=>h)
    replace o_kt:=hf_W4.not_own (lt_of kt) o_kt
    clear kt c_kt f_kt;have kt:=q_kt;clear q_kt
    obtain ⟨c_kt,f_kt,l_kt_W4⟩:=f3 kt
    replace hF:=hF.trans hf_W4.widen
    have z_W4:=hf_W4.size
    clear hA hf_W4;have hA:=hA_W4;clear hA_W4
    refine hK.out _ _ ⟨(fun o=>(c_kt o).trans (v_kt o).symm),(by omega),trivial⟩ (fun hHeld=> ?_)
    clear hK K
    try simp only [PT]
    refine tz 15 rfl hHeld ?_
    try simp only [PT]
    refine tz 16 rfl hHeld ?_
    try simp only [PT]
    refine tz 17 rfl hHeld ?_
    try simp only [PT]
    refine rd 18 rfl fun K hK=> ?_
    go_simp
    refine hK.out _ _ hHeld (fun hHeld=> ?_)
    clear hK K
    try simp only [PT]
    refine rd 19 rfl fun K hK=> ?_
    go_simp
    refine hK.out _ _ hHeld (fun hHeld=> ?_)
    clear hK K
    try simp only [PT]
    refine wpAnyH_done (by kernel_rfl) ?_ _
    refine NoPanic.normal ?_
    by_cases he1:e1=0
    · subst he1
      obtain ⟨s2,hs2⟩: ∃s2,s1.drop x.p.wave=s2:=⟨_,rfl⟩
      obtain ⟨p2,hp2⟩: ∃p2:Parts,(⟨g1,x.p.marks,x.p.spots,x.p.table⟩:Parts)=p2:=⟨_,rfl⟩
      have E1:x.swap 0 (g1,0,s1)=(0,{x with s:=s2,p:=p2}):=by rw [←hs2,←hp2];rfl
      have hr:=Hr.out
      rw [E1] at hr
      dsimp only at hr
      rw [if_pos rfl] at hr
      have HR2:=Lib.hid hr
      have hsw:=fun v hT=>pSwap_calls (ap:=ap) (O:=O1) (tb:=tb) x 0 (by omega) (g1,0,s1) v hT
      rw [E1] at hsw
      dsimp only at hsw
      clear E1 hr hs2 hp2 Hr Hr1
      go_wp2_with fail
      refine calls_gen fun V5 hV_V5=> ?_
      replace kt:=kK hV_V5 kt
      replace hF:Fr ((oneX tb)) O O1 w V5:=nF hV_V5
      replace hA:AP V5 ap s1 O1:=nA hV_V5
      have z_V5:=zS hV_V5
      clear hV_V5 c_kt f_kt
      obtain ⟨c_kt,f_kt,l_kt_V5⟩:=f3 kt
      refine (hsw _ ⟨hA,kt,o_kt⟩).mono ?_
      rintro e_W5 W5 ⟨rfl,O2,hT_W5,hf_W5⟩
      clear kt c_kt f_kt o_kt;have kt:=hT_W5.blk;have o_kt:=hT_W5.no
      obtain ⟨c_kt,f_kt,l_kt_W5⟩:=f3 kt
      replace hF:=hF.trans hf_W5
      have z_W5:=hf_W5.size
      clear hA hf_W5;have hA:=hT_W5.hA;clear hT_W5
      clear hsw
      go_wp2_with fail
      refine wp_gen fun V6 hV_V6=> ?_
      replace kt:=kK hV_V6 kt
      replace hF:Fr ((oneX tb)) O O2 w V6:=nF hV_V6
      replace hA:AP V6 ap s2 O2:=nA hV_V6
      have z_V6:=zS hV_V6
      clear hV_V6 c_kt f_kt
      obtain ⟨c_kt,f_kt,l_kt_V6⟩:=f3 kt
      have hr0: ¬x.rate=0:=by have:=Hrate.out;omega
      refine wp_region_noPanic ?_
      refine wp_region_held_drew (S:=fun v=>(∀o,v.cell? ⟨tb,o,none⟩=V6.cell? ⟨tb,o,none⟩)∧(V6.heap.size≤v.heap.size)∧AP v ap s2 O2) (by kernel_rfl) ⟨(fun _=>rfl),(Nat.le_refl _),hA.drew⟩ (fun hHeld=> ?_)
      generalize hV_V6d:V6.drew=V6d at hHeld⊢
      have d_kt:=dK hV_V6d kt
      clear c_kt f_kt
      replace hA:=hA.drew;rw [hV_V6d] at hA
      replace hF:=hF.drew;rw [hV_V6d] at hF
      have z_V6d:=dZ hV_V6d
      have v_kt:=cells_of kt
      clear kt;have kt:=d_kt;clear d_kt
      obtain ⟨c_kt,f_kt,l_kt_V6d⟩:=f3 kt
      clear hV_V6d
      refine tz 0 rfl hHeld ?_
      try simp only [PT]
      refine tz 1 rfl hHeld ?_
      try simp only [PT]
      refine tz 2 rfl hHeld ?_
      try simp only [PT]
      refine tz 3 rfl hHeld ?_
      try simp only [PT]
      refine tz 4 rfl hHeld ?_
      try simp only [PT]
      refine tz 5 rfl hHeld ?_
      try simp only [PT]
      refine tz 6 rfl hHeld ?_
      try simp only [PT]
      refine tz 7 rfl hHeld ?_
      try simp only [PT]
      refine tz 8 rfl hHeld ?_
      try simp only [PT]
      refine tz 9 rfl hHeld ?_
      try simp only [PT]
      refine rd 10 rfl fun K hK=> ?_
      go_simp
      refine hK.out _ _ hHeld (fun hHeld=> ?_)
      clear hK K
      try simp only [PT]
      refine wpAnyH_done (by kernel_rfl) ?_ _
      refine NoPanic.normal ?_
      have hmk:(x.pos.tmod x.rate==0)=decide (x.pos % x.rate=0):=by
        rw [Int.tmod_eq_emod_of_nonneg Hp.out]
        by_cases e:x.pos % x.rate=0
        · rw [decide_eq_true e];simpa using e
        · rw [decide_eq_false e];simpa using e
      have HMK:=Lib.hid hmk
      clear hr0 hmk
      go_upto_if 91 with fail
      rw [HMK.out]
      clear HMK
      obtain ⟨nx,hnx⟩: ∃nx,wrap64 (wrap64 (b+1)+k)=nx:=⟨_,rfl⟩
      rw [hnx] at HR2⊢
      obtain ⟨mk,hmk⟩: ∃mk,decide (x.pos % x.rate=0)=mk:=⟨_,rfl⟩
      rw [hmk]
      clear hnx
      go_cut [5,6] from 8 (fun s5 s6 wx=> ∃s3 p3 O3,Hid (({x with s:=s3,p:=p3}:Pt).mark nx mk=some r)∧AP wx ap s3 O3∧Fr (oneX tb) O O3 w wx∧wx.heap[tb]? =some (.cells #[ap, .int .i64 x.src, .int .i64 x.rate, .int .i64 x.id,strOf x.text, .int .i64 p3.wave, .int .i64 p3.marks, .int .i64 p3.spots, .int .i64 p3.table, .int .i64 x.pos, .int .i64 x.row, .bool x.begun, .bool x.over, .int .i64 x.root] 125 (0,0))∧ ¬O3 tb)
      case first=>
        cases mk with
        | false=>
          have hr:=HR2.out
          rw [if_neg (by simpa using hmk)] at hr
          have HR3:=Lib.hid hr
          clear hr
          go_wp2_with fail
          go_meet
          exact ⟨s2,p2,O2,HR3,hA,hF,kt,o_kt⟩
        | true=>
          have hr:=HR2.out
          rw [if_pos (by simpa using hmk)] at hr
          clear hmk HR2
          obtain ⟨j,h_b,h_r⟩:=Option.bind_eq_some_iff.1 hr
          have Hj:=Lib.hid h_b;clear h_b hr;have hr:=h_r;clear h_r
          obtain ⟨r2,h_b,h_r⟩:=Option.bind_eq_some_iff.1 hr
          have Hr2:=Lib.hid h_b;clear h_b hr;have hr:=h_r;clear h_r
          obtain ⟨g2,e2,s3⟩:=r2
          have HR3:=Lib.hid hr
          clear hr
          go_wp2_with fail
          refine wp_gen fun V8 hV_V8=> ?_
          replace kt:=kK hV_V8 kt
          replace hF:Fr ((oneX tb)) O O2 w V8:=nF hV_V8
          replace hA:AP V8 ap s2 O2:=nA hV_V8
          have z_V8:=zS hV_V8
          clear hV_V8 c_kt f_kt
          obtain ⟨c_kt,f_kt,l_kt_V8⟩:=f3 kt
          refine wp_region_noPanic ?_
          refine wp_region_held_drew (S:=fun v=>(∀o,v.cell? ⟨tb,o,none⟩=V8.cell? ⟨tb,o,none⟩)∧(V8.heap.size≤v.heap.size)∧True) (by kernel_rfl) ⟨(fun _=>rfl),(Nat.le_refl _),trivial⟩ (fun hHeld=> ?_)
          generalize hV_V8d:V8.drew=V8d at hHeld⊢
          have d_kt:=dK hV_V8d kt
          clear c_kt f_kt
          replace hA:=hA.drew;rw [hV_V8d] at hA
          replace hF:=hF.drew;rw [hV_V8d] at hF
          have z_V8d:=dZ hV_V8d
          have v_kt:=cells_of kt
          clear kt;have kt:=d_kt;clear d_kt
          obtain ⟨c_kt,f_kt,l_kt_V8d⟩:=f3 kt
          clear hV_V8d
          refine tz 0 rfl hHeld ?_
          try simp only [PT]
          refine tz 1 rfl hHeld ?_
          try simp only [PT]
          refine tz 2 rfl hHeld ?_
          try simp only [PT]
          refine tz 3 rfl hHeld ?_
          try simp only [PT]
          refine tz 4 rfl hHeld ?_
          try simp only [PT]
          refine tz 5 rfl hHeld ?_
          try simp only [PT]
          refine tz 6 rfl hHeld ?_
          try simp only [PT]
          refine tz 7 rfl hHeld ?_
          try simp only [PT]
          refine tz 8 rfl hHeld ?_
          try simp only [PT]
          refine tz 9 rfl hHeld ?_
          try simp only [PT]
          refine tz 10 rfl hHeld ?_
          try simp only [PT]
          refine tz 11 rfl hHeld ?_
          try simp only [PT]
          refine tz 12 rfl hHeld ?_
          try simp only [PT]
          refine tz 13 rfl hHeld ?_
          try simp only [PT]
          refine tz 14 rfl hHeld ?_
          try simp only [PT]
          refine tz 15 rfl hHeld ?_
          try simp only [PT]
          refine tz 16 rfl hHeld ?_
          try simp only [PT]
          refine tz 17 rfl hHeld ?_
          try simp only [PT]
          refine tz 18 rfl hHeld ?_
          try simp only [PT]
          refine tz 19 rfl hHeld ?_
          try simp only [PT]
          refine tz 20 rfl hHeld ?_
          try simp only [PT]
          refine tz 21 rfl hHeld ?_
          try simp only [PT]
          refine tz 23 rfl hHeld ?_
          try simp only [PT]
          refine tz 24 rfl hHeld ?_
          try simp only [PT]
          refine tz 25 rfl hHeld ?_
          try simp only [PT]
          refine tz 26 rfl hHeld ?_
          try simp only [PT]
          refine tz 27 rfl hHeld ?_
          try simp only [PT]
          refine tz 28 rfl hHeld ?_
          try simp only [PT]
          refine tz 29 rfl hHeld ?_
          try simp only [PT]
          refine tz 30 rfl hHeld ?_
          try simp only [PT]
          refine tz 31 rfl hHeld ?_
          try simp only [PT]
          refine rd 22 rfl fun K hK=> ?_
          go_simp
          try simp only [IntWalk.i64_left]
          refine (bRank_calls _ _ j Hj.out _ hA).mono ?_
          rintro e_W8 W8 ⟨rfl,hb_W8⟩
          replace hA:=hA.below hb_W8
          replace hF:=hF.below hb_W8
          replace kt:=keep_blk hb_W8 kt
          have z_W8:=hb_W8.size
          clear hb_W8 c_kt f_kt
          obtain ⟨c_kt,f_kt,l_kt_W8⟩:=f3 kt
          refine hK.out _ _ ⟨(fun o=>(c_kt o).trans (v_kt o).symm),(by omega),trivial⟩ (fun hHeld=> ?_)
          clear hK K
          try simp only [PT]
          refine rd 32 rfl fun K hK=> ?_
          go_simp
          try simp only [IntWalk.i64_left]
          refine (lInsert_calls _ _ (x.id,x.pos) (g2,e2,s3) Hr2.out _ hA).mono ?_
          rintro e_W9 W9 ⟨rfl,O3,hA_W9,hf_W9⟩
          have q_kt:=hf_W9.keep kt o_kt (fun h=>h)
          replace o_kt:=hf_W9.not_own (lt_of kt) o_kt
          clear kt c_kt f_kt;have kt:=q_kt;clear q_kt
          obtain ⟨c_kt,f_kt,l_kt_W9⟩:=f3 kt
          replace hF:=hF.trans hf_W9.widen
          have z_W9:=hf_W9.size
          clear hA hf_W9;have hA:=hA_W9;clear hA_W9
          refine hK.out _ _ ⟨(fun o=>(c_kt o).trans (v_kt o).symm),(by omega),trivial⟩ (fun hHeld=> ?_)
          clear hK K
          try simp only [PT]
          refine tz 33 rfl hHeld ?_
          try simp only [PT]
          refine tz 34 rfl hHeld ?_
          try simp only [PT]
          refine tz 35 rfl hHeld ?_
          try simp only [PT]
          refine rd 36 rfl fun K hK=> ?_
          go_simp
          refine hK.out _ _ hHeld (fun hHeld=> ?_)
          clear hK K
          try simp only [PT]
          refine rd 37 rfl fun K hK=> ?_
          go_simp
          refine hK.out _ _ hHeld (fun hHeld=> ?_)
          clear hK K
          try simp only [PT]
          refine wpAnyH_done (by kernel_rfl) ?_ _
          refine NoPanic.normal ?_
          by_cases he2:e2=0
          · subst he2
            obtain ⟨s4,hs4⟩: ∃s4,s3.drop p2.spots=s4:=⟨_,rfl⟩
            obtain ⟨p4,hp4⟩: ∃p4:Parts,(⟨p2.wave,p2.marks,g2,p2.table⟩:Parts)=p4:=⟨_,rfl⟩
            have E2:({x with s:=s2,p:=p2}:Pt).swap 2 (g2,0,s3)=(0,{x with s:=s4,p:=p4}):=by rw [←hs4,←hp4];rfl
            have hr:=HR3.out
            rw [E2] at hr
            dsimp only at hr
            rw [if_pos rfl] at hr
            have HR4:=Lib.hid hr
            have hsw:=fun v hT=>pSwap_calls (ap:=ap) (O:=O3) (tb:=tb) {x with s:=s2,p:=p2} 2 (by omega) (g2,0,s3) v hT
            rw [E2] at hsw
            dsimp only at hsw
            clear E2 hr hs4 hp4 HR3
            go_wp2_with fail
            refine calls_gen fun V10 hV_V10=> ?_
            replace kt:=kK hV_V10 kt
            replace hF:Fr ((oneX tb)) O O3 w V10:=nF hV_V10
            replace hA:AP V10 ap s3 O3:=nA hV_V10
            have z_V10:=zS hV_V10
            clear hV_V10 c_kt f_kt
            obtain ⟨c_kt,f_kt,l_kt_V10⟩:=f3 kt
            refine (hsw _ ⟨hA,kt,o_kt⟩).mono ?_
            rintro e_W10 W10 ⟨rfl,O4,hT_W10,hf_W10⟩
            clear kt c_kt f_kt o_kt;have kt:=hT_W10.blk;have o_kt:=hT_W10.no
            obtain ⟨c_kt,f_kt,l_kt_W10⟩:=f3 kt
            replace hF:=hF.trans hf_W10
            have z_W10:=hf_W10.size
            clear hA hf_W10;have hA:=hT_W10.hA;clear hT_W10
            clear hsw
            go_wp2_with fail
            go_meet
            exact ⟨s4,p4,O4,HR4,hA,hF,kt,o_kt⟩
          · have E2:({x with s:=s2,p:=p2}:Pt).swap 2 (g2,e2,s3)=(e2,{x with s:=s3,p:=p2}):=by unfold Pt.swap;rw [if_neg he2]
            have hr:=HR3.out
            rw [E2] at hr
            dsimp only at hr
            rw [if_neg he2] at hr
            have d2:(e2 !=0)=true:=by simpa using he2
            have HR4:=Lib.hid (Option.some.inj hr)
            have hsw:=fun v hT=>pSwap_calls (ap:=ap) (O:=O3) (tb:=tb) {x with s:=s2,p:=p2} 2 (by omega) (g2,e2,s3) v hT
            rw [E2] at hsw
            dsimp only at hsw
            clear E2 hr HR3 he2
            go_wp2_with fail
            refine calls_gen fun V10 hV_V10=> ?_
            replace kt:=kK hV_V10 kt
            replace hF:Fr ((oneX tb)) O O3 w V10:=nF hV_V10
            replace hA:AP V10 ap s3 O3:=nA hV_V10
            have z_V10:=zS hV_V10
            clear hV_V10 c_kt f_kt
            obtain ⟨c_kt,f_kt,l_kt_V10⟩:=f3 kt
            refine (hsw _ ⟨hA,kt,o_kt⟩).mono ?_
            rintro e_W10 W10 ⟨rfl,O4,hT_W10,hf_W10⟩
            clear kt c_kt f_kt o_kt;have kt:=hT_W10.blk;have o_kt:=hT_W10.no
            obtain ⟨c_kt,f_kt,l_kt_W10⟩:=f3 kt
            replace hF:=hF.trans hf_W10
            have z_W10:=hf_W10.size
            clear hA hf_W10;have hA:=hT_W10.hA;clear hT_W10
            clear hsw
            go_wp2_with fail
            go_ret
            rw [←HR4.out]
            exact ⟨rfl,O4,⟨hA,kt,o_kt⟩,hF⟩
      case rest=>
        clear hA hF kt c_kt f_kt HR2 hmk
        obtain ⟨s3,p3,O3,HM,hA,hF,kt,o_k3⟩:=hcut
        clear o_kt
        have o_kt:=o_k3
        clear o_k3
        obtain ⟨c_kt,f_kt,l_kt_wc⟩:=f3 kt
        have hm:=HM.out
        unfold Pt.mark at hm
        dsimp only at hm
        obtain ⟨r3,hr3,hm⟩:=Option.map_eq_some_iff.1 hm
        obtain ⟨g3,e3,s5⟩:=r3
        dsimp only at hm
        have Hr3:=Lib.hid hr3
        have hsw:=fun Oz v hT=>pSwap_calls (ap:=ap) (O:=Oz) (tb:=tb) {x with s:=s5,p:=p3,row:=nx,pos:=wrap64 (x.pos - 1)} 1 (by omega) (g3,e3,s5) v hT
        rw [hm] at hsw
        dsimp only at hsw
        clear hr3 hm HM
        go_wp2_with fail
        refine wp_gen fun V11 hV_V11=> ?_
        replace kt:=kK hV_V11 kt
        replace hF:Fr ((oneX tb)) O O3 w V11:=nF hV_V11
        replace hA:AP V11 ap s3 O3:=nA hV_V11
        have z_V11:=zS hV_V11
        clear hV_V11 c_kt f_kt
        obtain ⟨c_kt,f_kt,l_kt_V11⟩:=f3 kt
        refine wp_region_noPanic ?_
        refine wp_region_held_drew (S:=fun v=>(∀o,v.cell? ⟨tb,o,none⟩=V11.cell? ⟨tb,o,none⟩)∧(V11.heap.size≤v.heap.size)∧True) (by kernel_rfl) ⟨(fun _=>rfl),(Nat.le_refl _),trivial⟩ (fun hHeld=> ?_)
        generalize hV_V11d:V11.drew=V11d at hHeld⊢
        have d_kt:=dK hV_V11d kt
        clear c_kt f_kt
        replace hA:=hA.drew;rw [hV_V11d] at hA
        replace hF:=hF.drew;rw [hV_V11d] at hF
        have z_V11d:=dZ hV_V11d
        have v_kt:=cells_of kt
        clear kt;have kt:=d_kt;clear d_kt
        obtain ⟨c_kt,f_kt,l_kt_V11d⟩:=f3 kt
        clear hV_V11d
        refine tz 0 rfl hHeld ?_
        try simp only [PT]
        refine tz 1 rfl hHeld ?_
        try simp only [PT]
        refine tz 2 rfl hHeld ?_
        try simp only [PT]
        refine tz 3 rfl hHeld ?_
        try simp only [PT]
        refine tz 4 rfl hHeld ?_
        try simp only [PT]
        refine tz 5 rfl hHeld ?_
        try simp only [PT]
        refine tz 6 rfl hHeld ?_
        try simp only [PT]
        refine tz 7 rfl hHeld ?_
        try simp only [PT]
        refine tz 8 rfl hHeld ?_
        try simp only [PT]
        refine tz 9 rfl hHeld ?_
        try simp only [PT]
        refine tz 10 rfl hHeld ?_
        try simp only [PT]
        refine tz 11 rfl hHeld ?_
        try simp only [PT]
        refine tz 12 rfl hHeld ?_
        try simp only [PT]
        refine tz 13 rfl hHeld ?_
        try simp only [PT]
        refine rd 14 rfl fun K hK=> ?_
        go_simp
        try simp only [IntWalk.i64_left]
        refine (bInsert_calls _ _ mk (g3,e3,s5) Hr3.out _ hA).mono ?_
        rintro e_W11 W11 ⟨rfl,O5,hA_W11,hf_W11⟩
        have q_kt:=hf_W11.keep kt o_kt (fun h=>h)
        replace o_kt:=hf_W11.not_own (lt_of kt) o_kt
        clear kt c_kt f_kt;have kt:=q_kt;clear q_kt
        obtain ⟨c_kt,f_kt,l_kt_W11⟩:=f3 kt
        replace hF:=hF.trans hf_W11.widen
        have z_W11:=hf_W11.size
        clear hA hf_W11;have hA:=hA_W11;clear hA_W11
        refine hK.out _ _ ⟨(fun o=>(c_kt o).trans (v_kt o).symm),(by omega),trivial⟩ (fun hHeld=> ?_)
        clear hK K
        try simp only [PT]
        refine tz 15 rfl hHeld ?_
        try simp only [PT]
        refine tz 16 rfl hHeld ?_
        try simp only [PT]
        refine tz 17 rfl hHeld ?_
        try simp only [PT]
        refine rd 18 rfl fun K hK=> ?_
        go_simp
        refine hK.out _ _ hHeld (fun hHeld=> ?_)
        clear hK K
        try simp only [PT]
        refine rd 19 rfl fun K hK=> ?_
        go_simp
        refine hK.out _ _ hHeld (fun hHeld=> ?_)
        clear hK K
        try simp only [PT]
        refine wpAnyH_done (by kernel_rfl) ?_ _
        refine NoPanic.normal ?_
        go_wp2_with fail
        refine calls_gen fun V12 hV_V12=> ?_
        replace kt:=kK hV_V12 kt
        replace hF:Fr ((oneX tb)) O O5 w V12:=nF hV_V12
        replace hA:AP V12 ap s5 O5:=nA hV_V12
        have z_V12:=zS hV_V12
        clear hV_V12 c_kt f_kt
        obtain ⟨c_kt,f_kt,l_kt_V12⟩:=f3 kt
        refine (hsw _ _ ⟨hA,kt,o_kt⟩).mono ?_
        rintro e_W12 W12 ⟨rfl,O6,hT_W12,hf_W12⟩
        clear kt c_kt f_kt o_kt;have kt:=hT_W12.blk;have o_kt:=hT_W12.no
        obtain ⟨c_kt,f_kt,l_kt_W12⟩:=f3 kt
        replace hF:=hF.trans hf_W12
        have z_W12:=hf_W12.size
        clear hA hf_W12;have hA:=hT_W12.hA;clear hT_W12
        clear hsw
        go_wp2_with fail
        go_ret
        exact ⟨rfl,O6,⟨hA,kt,o_kt⟩,hF⟩
    · have E1:x.swap 0 (g1,e1,s1)=(e1,{x with s:=s1}):=by unfold Pt.swap;rw [if_neg he1]
      have hr:=Hr.out
      rw [E1] at hr
      dsimp only at hr
      rw [if_neg he1] at hr
      have d2:(e1 !=0)=true:=by simpa using he1
      have HR4:=Lib.hid (Option.some.inj hr)
      have hsw:=fun v hT=>pSwap_calls (ap:=ap) (O:=O1) (tb:=tb) x 0 (by omega) (g1,e1,s1) v hT
      rw [E1] at hsw
      dsimp only at hsw
      clear E1 hr Hr he1
      go_wp2_with fail
      refine calls_gen fun V5 hV_V5=> ?_
      replace kt:=kK hV_V5 kt
      replace hF:Fr ((oneX tb)) O O1 w V5:=nF hV_V5
      replace hA:AP V5 ap s1 O1:=nA hV_V5
      have z_V5:=zS hV_V5
      clear hV_V5 c_kt f_kt
      obtain ⟨c_kt,f_kt,l_kt_V5⟩:=f3 kt
      refine (hsw _ ⟨hA,kt,o_kt⟩).mono ?_
      rintro e_W5 W5 ⟨rfl,O2,hT_W5,hf_W5⟩
      clear kt c_kt f_kt o_kt;have kt:=hT_W5.blk;have o_kt:=hT_W5.no
      obtain ⟨c_kt,f_kt,l_kt_W5⟩:=f3 kt
      replace hF:=hF.trans hf_W5
      have z_W5:=hf_W5.size
      clear hA hf_W5;have hA:=hT_W5.hA;clear hT_W5
      clear hsw
      go_wp2_with fail
      go_ret
      rw [←HR4.out]
      exact ⟨rfl,O2,⟨hA,kt,o_kt⟩,hF⟩
end Go.Proofs.YtdjpjmkpndmhaaaGreat
namespace Go.Proofs.YtdjpjmkpndmhaaaGreat
open Go.RowKit Go.Sort
attribute [local go_sem ↓] Go.wp_at_zero Go.wp_at_succ
attribute [local go_sem] lt_s2 lt_s3 lt_s4 str_len
variable {ap : Value} {O : Nat → Prop} {tb : Nat}
structure PtOk (x:Pt):Prop where
  lo: -1≤x.pos
  hi:x.pos≤x.text.length
  len:x.text.length≤50000
  rate:1≤x.rate
set_option maxRecDepth 100000 in
set_option maxHeartbeats 4000000 in
theorem pStep_calls (x : Pt) (hok : PtOk x) (r : Bool × Int × Pt) (hr : x.step = some r) (w : World) (hT : PB w tb ap x O) :
    Calls Tryz.prog 45 #[.pointer (some ⟨tb,0,none⟩)] w fun e w'=>e= .returned (.tuple #[.bool r.1, .int .i64 r.2.1])∧DidP tb ap r.2.2 O w w':=by
  have Hr:=Lib.hid hr;clear hr
  go_enter Tryz.func45,Tryz.ntmps45
  go_wp2_with fail
  refine wp_scope_ghost 0 (fun n a' wr=> ∃e x1 O1,(PB wr tb ap x1 O1∧Fr (oneX tb) O O1 w wr∧Hid (Pt.asked (e,x1)=r))∧ ∃u1 u2 u3 u5 u6 u7 u8 u9 u10 u11 u12 u13 u14 u15 u16 u17 u18 u19 u20 u21 u22 u23 u24 u25 u26 u27 u28 u29 u30 u31 u32 u33 u34 u35 u36 u37 u38 u39 u40 u41 u42 u43 u44 u45 u46 u47 u48 u49 u50 u51 u52 u53 u54 u55 u56:Value,a'={tmps:= #[(.pointer (some ⟨tb,0,none⟩):Value),u1,u2,u3,(.int .i64 e:Value),u5,u6,u7,u8,u9,u10,u11,u12,u13,u14,u15,u16,u17,u18,u19,u20,u21,u22,u23,u24,u25,u26,u27,u28,u29,u30,u31,u32,u33,u34,u35,u36,u37,u38,u39,u40,u41,u42,u43,u44,u45,u46,u47,u48,u49,u50,u51,u52,u53,u54,u55,u56],defers:=[]}) (by rfl) ?first ?pass
  case first=>
    intro hrest
    clear hrest
    have hr:=Hr.out
    unfold Pt.step at hr
    have kt:=hT.blk
    cases ho:x.over with
    | true=>
      rw [ho,if_pos rfl] at hr
      cases hr
      rw [ho] at kt
      obtain ⟨c_kt,f_kt,l_kt_w⟩:=f3 kt
      go_wp2_with fail
      simp only [Exit.jump]
      go_ret2
      exact ⟨rfl,O,hT,Fr.refl _ _ _⟩
    | false=>
      rw [ho,if_neg (by decide)] at hr
      cases hb:x.begun with
      | false=>
        rw [hb,if_neg (by decide)] at hr
        obtain ⟨r1,hr1,rfl⟩:=Option.map_eq_some_iff.1 hr
        have Hr1:=Lib.hid hr1
        clear hr hr1 Hr
        rw [ho,hb] at kt
        obtain ⟨c_kt,f_kt,l_kt_w⟩:=f3 kt
        go_wp2_with fail
        refine (pBegin_calls x r1 Hr1.out _ hT).mono ?_
        rintro e1 W1 ⟨rfl,O1,hT1,hf1⟩
        clear kt c_kt f_kt
        go_wp2_with fail
        go_step3
        refine ⟨rfl,0,r1.1,r1.2,O1,⟨hT1,hf1,Lib.hid rfl⟩,?_⟩
        exact ⟨_,_,_,_,_,_,_,_,_,_,_,_,_,_,_,_,_,_,_,_,_,_,_,_,_,_,_,_,_,_,_,_,_,_,_,_,_,_,_,_,_,_,_,_,_,_,_,_,_,_,_,_,_,_,_,rfl⟩
      | true=>
        rw [hb,if_pos rfl] at hr
        rw [ho,hb] at kt
        by_cases hp:0≤x.pos
        · have d1:decide (0≤x.pos)=true:=by simpa using hp
          rw [if_pos hp] at hr
          obtain ⟨r1,hr1,rfl⟩:=Option.map_eq_some_iff.1 hr
          have Hr1:=Lib.hid hr1
          clear hr hr1 Hr
          obtain ⟨c_kt,f_kt,l_kt_w⟩:=f3 kt
          go_wp2_with fail
          refine (pInsert_calls x hp hok.hi hok.len hok.rate r1 Hr1.out _ hT).mono ?_
          rintro e1 W1 ⟨rfl,O1,hT1,hf1⟩
          clear kt c_kt f_kt
          go_wp2_with fail
          go_step3
          refine ⟨rfl,0,r1.1,r1.2,O1,⟨hT1,hf1,Lib.hid rfl⟩,?_⟩
          exact ⟨_,_,_,_,_,_,_,_,_,_,_,_,_,_,_,_,_,_,_,_,_,_,_,_,_,_,_,_,_,_,_,_,_,_,_,_,_,_,_,_,_,_,_,_,_,_,_,_,_,_,_,_,_,_,_,rfl⟩
        · have d1:decide (0≤x.pos)=false:=by simpa using hp
          rw [if_neg hp] at hr
          cases hr
          clear Hr
          have hA:=hT.hA
          have o_kt:=hT.no
          obtain ⟨c_kt,f_kt,l_kt_w⟩:=f3 kt
          go_wp2_with fail
          refine wp_gen fun V hV_V=> ?_
          replace kt:=kK hV_V kt
          have hF:Fr ((oneX tb)) O O w V:=nF hV_V
          replace hA:AP V ap x.s O:=nA hV_V
          have z_V:=zS hV_V
          clear hV_V c_kt f_kt
          obtain ⟨c_kt,f_kt,l_kt_V⟩:=f3 kt
          refine wp_region_noPanic ?_
          refine wp_region_held_drew (S:=fun v=>(v.cell? ⟨tb,0,none⟩=V.cell? ⟨tb,0,none⟩)∧(v.cell? ⟨tb,5,none⟩=V.cell? ⟨tb,5,none⟩)∧(v.cell? ⟨tb,6,none⟩=V.cell? ⟨tb,6,none⟩)∧(v.cell? ⟨tb,7,none⟩=V.cell? ⟨tb,7,none⟩)∧(v.cell? ⟨tb,8,none⟩=V.cell? ⟨tb,8,none⟩)∧(V.heap.size≤v.heap.size)∧True) (by kernel_rfl) ⟨rfl,rfl,rfl,rfl,rfl,(Nat.le_refl _),trivial⟩ (fun hHeld=> ?_)
          generalize hV_Vd:V.drew=Vd at hHeld⊢
          have d_kt:=dK hV_Vd kt
          clear c_kt f_kt
          replace hA:=hA.drew;rw [hV_Vd] at hA
          replace hF:=hF.drew;rw [hV_Vd] at hF
          have z_Vd:=dZ hV_Vd
          have v_kt:=cells_of kt
          clear kt;have kt:=d_kt;clear d_kt
          obtain ⟨c_kt,f_kt,l_kt_Vd⟩:=f3 kt
          clear hV_Vd
          refine tz 0 rfl hHeld ?_
          try simp only [PT]
          refine tz 1 rfl hHeld ?_
          try simp only [PT]
          refine tz 2 rfl hHeld ?_
          try simp only [PT]
          refine tz 3 rfl hHeld ?_
          try simp only [PT]
          refine tz 4 rfl hHeld ?_
          try simp only [PT]
          refine tz 5 rfl hHeld ?_
          try simp only [PT]
          refine tz 6 rfl hHeld ?_
          try simp only [PT]
          refine tz 7 rfl hHeld ?_
          try simp only [PT]
          refine tz 8 rfl hHeld ?_
          try simp only [PT]
          refine rd 9 rfl fun K hK=> ?_
          go_simp
          try simp only [IntWalk.i64_left]
          refine (vMake_calls x.p _ hA).mono ?_
          rintro e_W W ⟨rfl,O1,hA_W,hf_W⟩
          have q_kt:=hf_W.keep kt o_kt (fun h=>h)
          replace o_kt:=hf_W.not_own (lt_of kt) o_kt
          clear kt c_kt f_kt;have kt:=q_kt;clear q_kt
          obtain ⟨c_kt,f_kt,l_kt_W⟩:=f3 kt
          replace hF:=hF.trans hf_W.widen
          have z_W:=hf_W.size
          clear hA hf_W;have hA:=hA_W;clear hA_W
          refine hK.out _ _ ⟨((c_kt 0).trans (v_kt 0).symm),((c_kt 5).trans (v_kt 5).symm),((c_kt 6).trans (v_kt 6).symm),((c_kt 7).trans (v_kt 7).symm),((c_kt 8).trans (v_kt 8).symm),(by omega),trivial⟩ (fun hHeld=> ?_)
          clear hK K
          try simp only [PT]
          refine tz 10 rfl hHeld ?_
          try simp only [PT]
          refine tz 11 rfl hHeld ?_
          try simp only [PT]
          refine tz 12 rfl hHeld ?_
          try simp only [PT]
          refine tz 13 rfl hHeld ?_
          try simp only [PT]
          refine tz 14 rfl hHeld ?_
          try simp only [PT]
          refine rd 15 rfl fun K hK=> ?_
          go_simp
          refine gen_app (K:=K) (fun D hV_D=> ?_)
          replace kt:=kK hV_D kt
          replace hF:Fr ((oneX tb)) O O1 w D:=nF hV_D
          replace hA:AP D ap ((vMake x.s x.p).2.2) O1:=nA hV_D
          have z_D:=zS hV_D
          clear hV_D c_kt f_kt
          obtain ⟨c_kt,f_kt,l_kt_D⟩:=f3 kt
          refine hK.out _ _ ⟨((c_kt 0).trans (v_kt 0).symm),((c_kt 5).trans (v_kt 5).symm),((c_kt 6).trans (v_kt 6).symm),((c_kt 7).trans (v_kt 7).symm),((c_kt 8).trans (v_kt 8).symm),(by omega),trivial⟩ (fun hHeld=> ?_)
          clear hK K
          try simp only [PT]
          refine rd 16 rfl fun K hK=> ?_
          go_simp
          refine hK.out _ _ hHeld (fun hHeld=> ?_)
          clear hK K
          try simp only [PT]
          refine wpAnyH_done (by kernel_rfl) ?_ _
          refine NoPanic.normal ?_
          go_wp2_with fail
          refine calls_gen fun V2 hV_V2=> ?_
          replace kt:=kK hV_V2 kt
          replace hF:Fr ((oneX tb)) O O1 w V2:=nF hV_V2
          replace hA:AP V2 ap ((vMake x.s x.p).2.2) O1:=nA hV_V2
          have z_V2:=zS hV_V2
          clear hV_V2 c_kt f_kt
          obtain ⟨c_kt,f_kt,l_kt_V2⟩:=f3 kt
          refine (pStop_calls {x with s:=(vMake x.s x.p).2.2,begun:=true,over:=false,root:=(vMake x.s x.p).1} _ ⟨hA,kt,o_kt⟩).mono ?_
          rintro e_W2 W2 ⟨rfl,O2,hT_W2,hf_W2⟩
          clear kt c_kt f_kt o_kt;have kt:=hT_W2.blk;have o_kt:=hT_W2.no
          obtain ⟨c_kt,f_kt,l_kt_W2⟩:=f3 kt
          replace hF:=hF.trans hf_W2
          have z_W2:=hf_W2.size
          clear hA hf_W2;have hA:=hT_W2.hA;clear hT_W2
          go_wp2_with fail
          simp only [Exit.jump]
          go_ret2
          exact ⟨rfl,O2,⟨hA,kt,o_kt⟩,hF⟩
  case pass=>
    rintro n a' wr ⟨e,x1,O1,⟨hT1,hF1,hq⟩,u1,u2,u3,u5,u6,u7,u8,u9,u10,u11,u12,u13,u14,u15,u16,u17,u18,u19,u20,u21,u22,u23,u24,u25,u26,u27,u28,u29,u30,u31,u32,u33,u34,u35,u36,u37,u38,u39,u40,u41,u42,u43,u44,u45,u46,u47,u48,u49,u50,u51,u52,u53,u54,u55,u56,rfl⟩ J hJ
    clear hJ
    have hqo:=hq.out
    unfold Pt.asked at hqo
    by_cases he:e=0
    · subst he
      rw [if_pos rfl] at hqo
      subst hqo
      have kt:=hT1.blk
      obtain ⟨c_kt,f_kt,l_kt_wr⟩:=f3 kt
      go_wp2_with fail
      simp only [Exit.jump]
      go_ret2
      exact ⟨rfl,O1,hT1,hF1⟩
    · rw [if_neg he] at hqo
      subst hqo
      have d1:(e !=0)=true:=by simpa using he
      clear he hq
      go_wp2_with fail
      refine (pStop_calls x1 _ hT1).mono ?_
      rintro e2 W2 ⟨rfl,O2,hT2,hf2⟩
      have kt:=hT2.blk
      have HF:=Lib.hid (hF1.trans hf2)
      clear hF1 hf2
      obtain ⟨c_kt,f_kt,l_kt_W2⟩:=f3 kt
      go_wp2_with fail
      simp only [Exit.jump]
      go_ret2
      exact ⟨rfl,O2,hT2,HF.out⟩
end Go.Proofs.YtdjpjmkpndmhaaaGreat
namespace Go.Proofs.YtdjpjmkpndmhaaaGreat
open Go.RowKit
structure Sp (w0 W:World) (ap:Value) (b:Nat) (x:Pt) (L:List (Nat×Obj)):Prop where
  ex: ∃O,PB W b ap x O∧(∀c,O c→w0.heap.size≤c)∧ ∀y∈L,W.heap[y.1]? =some y.2∧ ¬O y.1∧y.1≠b
  bel:Below w0.heap.size w0 W
  own:w0.heap.size≤b
section
variable {w0 W W' : World} {ap : Value} {b : Nat} {x x' : Pt} {L : List (Nat × Obj)}
theorem Sp.below (h:Sp w0 W ap b x L) (hb:Below W.heap.size W W'):Sp w0 W' ap b x L:=by
  obtain ⟨O,hA,hO,hL⟩:=h.ex
  exact ⟨⟨O,⟨hA.hA.below hb,keep_blk hb hA.blk,hA.no⟩,hO,fun y hy=>⟨keep_blk hb (hL y hy).1,(hL y hy).2⟩⟩,below_step h.bel hb,h.own⟩
theorem Sp.box (h:Sp w0 W ap b x L) (o:Obj) (hv:W'=W.alloc o):Sp w0 W' ap b x ((W.heap.size,o)::L):=by
  subst hv
  have hb:=below_box W o
  have h2:=h.below hb
  obtain ⟨O,hA,hO,hL⟩:=h.ex
  refine ⟨⟨O,⟨hA.hA.below hb,keep_blk hb hA.blk,hA.no⟩,hO,fun y hy=> ?_⟩,below_step h.bel hb,h.own⟩
  rcases List.mem_cons.1 hy with rfl|hy
  · exact ⟨blk_new _ _ _ rfl,hA.hA.new (Nat.le_refl _),by have:=lt_of hA.blk;dsimp only;omega⟩
  · exact ⟨keep_blk hb (hL y hy).1,(hL y hy).2⟩
theorem Sp.at0 {c:Nat} {o:Obj} (h:Sp w0 W ap b x ((c,o)::L)):W.heap[c]? =some o:=by
  obtain ⟨O, -, -,hL⟩:=h.ex
  exact (hL _ (List.mem_cons_self ..)).1
theorem Sp.st (h:Sp w0 W ap b x L):St w0 W ap x.s L:=by
  obtain ⟨O,hA,hO,hL⟩:=h.ex
  exact ⟨⟨O,hA.hA,hO,fun y hy=>⟨(hL y hy).1,(hL y hy).2.1⟩⟩,h.bel⟩
theorem Fr.below_own {X O O':Nat→Prop} (hF:Fr X O O' W W') (hb:Below w0.heap.size w0 W) (hO: ∀c,O c→w0.heap.size≤c) (hX: ∀c,X c→w0.heap.size≤c):Below w0.heap.size w0 W':=
  ⟨hF.os.trans hb.os,hF.tape.trans hb.tape,hF.output.trans hb.output,Nat.le_trans hb.size hF.size,fun k hk=>(hF.block k (Nat.lt_of_lt_of_le hk hb.size) (fun h=>by have:=hO k h;omega) (fun h=>by have:=hX k h;omega)).trans (hb.block k hk)⟩
variable {f : FuncId} {args : Array Value} {r : Ending} {P : Program}
theorem Sp.read (h:Sp w0 W ap b x L) (hc: ∀O,PB W b ap x O→Calls P f args W fun e w'=>e=r∧Below W.heap.size W w'):Calls P f args W fun e w'=>e=r∧Sp w0 w' ap b x L:=by
  obtain ⟨O,hA, -⟩:=h.ex
  exact (hc O hA).mono fun e w' ⟨he,hb⟩=>⟨he,h.below hb⟩
theorem Sp.same (h:Sp w0 W ap b x L) (hc: ∀O,PB W b ap x O→Calls P f args W fun e w'=>e=r∧W=w'):Calls P f args W fun e w'=>e=r∧Sp w0 w' ap b x L:=by
  obtain ⟨O,hA, -⟩:=h.ex
  exact (hc O hA).mono fun e w' ⟨he,hb⟩=>⟨he,hb▸h⟩
theorem Sp.act (h:Sp w0 W ap b x L) (hc: ∀O,PB W b ap x O→Calls P f args W fun e w'=>e=r∧DidP b ap x' O W w'):Calls P f args W fun e w'=>e=r∧Sp w0 w' ap b x' L:=by
  obtain ⟨O,hA,hO,hL⟩:=h.ex
  refine (hc O hA).mono fun e w' ⟨he,O',h1,hF⟩=>⟨he,⟨O',h1,fun c hc=> ?_,fun y hy=>⟨hF.keep (hL y hy).1 (hL y hy).2.1 (fun q=>(hL y hy).2.2 q),fun hy'=> ?_,(hL y hy).2.2⟩⟩,Fr.below_own hF h.bel hO (fun c hc=>by unfold oneX at hc;rw [hc];exact h.own),h.own⟩
  · rcases hF.own c hc with q|q
    · exact hO c q
    · have:=h.bel.size;omega
  · rcases hF.own _ hy' with q|q
    · exact (hL y hy).2.1 q
    · have:=lt_of (hL y hy).1;omega
theorem Sp.write {s':Ar} (h:Sp w0 W ap b x L) (hc: ∀O,AP W ap x.s O→Calls P f args W fun e w'=>e=r∧Did noX ap s' O W w'):Calls P f args W fun e w'=>e=r∧Sp w0 w' ap b {x with s:=s'} L:=by
  obtain ⟨O,hA,hO,hL⟩:=h.ex
  refine (hc O hA.hA).mono fun e w' ⟨he,O',h1,hF⟩=>⟨he,⟨O',⟨h1,hF.keep hA.blk hA.no (fun q=>q),hF.not_own (lt_of hA.blk) hA.no⟩,fun c hc=> ?_,fun y hy=>⟨hF.keep (hL y hy).1 (hL y hy).2.1 (fun q=>q),fun hy'=> ?_,(hL y hy).2.2⟩⟩,fr_below h.bel hF hO,h.own⟩
  · rcases hF.own c hc with q|q
    · exact hO c q
    · have:=h.bel.size;omega
  · rcases hF.own _ hy' with q|q
    · exact (hL y hy).2.1 q
    · have:=lt_of (hL y hy).1;omega
end
theorem St.put {w0 W : World} {p : Addr} {s : Ar} {L : List (Nat × Obj)} (h : St w0 W (.pointer (some p)) s L) (root rate id : Int) (t : List UInt8) (l : List (Int × Int)) (hl : lAll s (vOf s root).table = some l) (hll : l.length ≤ 50000)
    (hvi:vIs s root=true) (h1:1≤rate) (h2:rate≤16) (h3:1≤id) (hpl:(placeIn id l 0).2=false) (h4:t.length≤40) (h10:vDocs s root<10):
    Calls Tryz.prog 43 #[.pointer (some p), .int .i64 root, .int .i64 rate, .int .i64 id,strOf t] W fun e w'=> ∃b,e= .returned (.tuple #[.pointer (some ⟨b,0,none⟩), .int .i64 0])∧Sp w0 w' (.pointer (some p)) b (Pt.new s root rate id t) L:=by
  obtain ⟨O,hA,hO,hL⟩:=h.ex
  refine (pNew_yes p root rate id t l hl hll hvi h1 h2 h3 hpl h4 h10 W hA).mono ?_
  rintro e w' ⟨b,O',he,hb,hp,hF⟩
  have hsz:=h.bel.size
  refine ⟨b,he,⟨O',hp,fun c hc=> ?_,fun y hy=>⟨hF.keep (hL y hy).1 (hL y hy).2 (fun q=>q),fun hy'=> ?_,fun e=> ?_⟩⟩,fr_below h.bel hF hO,Nat.le_trans hsz hb⟩
  · rcases hF.own c hc with q|q
    · exact hO c q
    · omega
  · rcases hF.own _ hy' with q|q
    · exact (hL y hy).2 q
    · have:=lt_of (hL y hy).1;omega
  · have:=lt_of (hL y hy).1;omega
end Go.Proofs.YtdjpjmkpndmhaaaGreat
namespace Go.Proofs.YtdjpjmkpndmhaaaGreat
open Go.RowKit Go.Shelf
attribute [local go_sem ↓] Go.wp_at_zero Go.wp_at_succ
def encI (x:Int×Int):List Value:=[.int .i64 x.1, .int .i64 x.2]
theorem neqItem:NeqAt Tryz.prog 56 (fun x:Int×Int=> .agg (encI x).toArray) (fun x y=>x==y):=by
  refine ⟨fun x y w=> ?_,GuardAt.agg _ (by kernel_rfl)⟩
  have u3:=Tryz.underlying3
  have a3:=Tryz.isAgg3
  have z3:=Tryz.sizeOf3
  have hS:Tryz.prog.underlying 56=some (.struct (Tryz.prog.fieldsOf 56)):=by kernel_rfl
  have hp:Tryz.prog.stoodInHeld 56=false:=by kernel_rfl
  obtain ⟨x1,x2⟩:=x
  obtain ⟨y1,y2⟩:=y
  simp only [encI]
  rw [run_neq_struct,show (10000:Nat)=9999+1 from rfl,run_equalIn_agg w 9999 56 _ _ hS hp]
  simp only [Program.fieldsOf,Tryz.underlying56]
  go_simp
  by_cases h1:x1=y1<;>by_cases h2:x2=y2<;>simp [h1,h2]
theorem allEq_items {α:Type} [BEq α] [LawfulBEq α]: ∀(a b:List α),Lib.allEq (fun x y=>x==y) a b=(a==b)
  | [],[]=>rfl
  | [],_::_=>rfl
  | _::_,[]=>rfl
  | x::a,y::b=>by
    unfold Lib.allEq
    rw [allEq_items a b];rfl
theorem equal_short {F : Nat} (hwalk : ∀ (A B : Option Addr) (n m c d : Nat) (w : World), n ≠ m ∨ n = 0 → n ≤ 50000 → m ≤ 50000 → Calls Tryz.prog F #[.slice A n c, .slice B m d] w fun e w' => e = .returned (.bool (decide (n = m))) ∧ Below w.heap.size w w')
    {α:Type} [BEq α] [LawfulBEq α] (a b:List α) (ha:a.length≤50000) (hb:b.length≤50000) (h:a.length≠b.length∨a.length=0) (A B:Option Addr) (c d:Nat) (w:World):
    Calls Tryz.prog F #[.slice A a.length c, .slice B b.length d] w fun e w'=>e= .returned (.bool (a==b))∧Below w.heap.size w w':=by
  have hx:=hwalk A B a.length b.length c d w h ha hb
  have:decide (a.length=b.length)=(a==b):=by
    by_cases e:a.length=b.length
    · rcases h with h|h
      · exact absurd e h
      · have h1:a=[]:=List.length_eq_zero_iff.1 h
        have h2:b=[]:=List.length_eq_zero_iff.1 (by omega)
        rw [h1,h2];rfl
    · have:a≠b:=fun q=>e (congrArg List.length q)
      rw [decide_eq_false e]
      simp [this]
  rw [this] at hx;exact hx
theorem itemCells_enc (l:List (Int×Int)) (j:Nat) (hj:j<l.length) (i:Nat) (v:Value) (hv:(encI l[j]!)[i]? =some v):(itemCells l)[j*2+i]? =some v:=by
  obtain ⟨h1,h2⟩:=itemCells_at l j l[j] (List.getElem?_eq_getElem hj)
  rw [getElem!_pos l j hj] at hv
  unfold encI at hv
  match i with
  | 0=>simp at hv;rw [←hv];exact h1
  | 1=>simp at hv;rw [←hv];exact h2
  | i+2=>simp at hv
set_option maxRecDepth 100000 in
set_option maxHeartbeats 2000000 in
theorem eqItem_short (A B:Option Addr) (n m c d:Nat) (w:World) (h:n≠m∨n=0) (hn:n≤50000) (hm:m≤50000):Calls Tryz.prog 69 #[.slice A n c, .slice B m d] w fun e w'=>e= .returned (.bool (decide (n=m)))∧Below w.heap.size w w':=by
  by_cases e:n=m
  · subst e
    obtain rfl:n=0:=by omega
    rw [decide_eq_true rfl]
    go_enter Tryz.func69,Tryz.ntmps69
    go_wp2_with fail
    go_loopg [13] 0 (fun k p wr=>p= .int .i64 0∧Hid (Below w.heap.size w wr))
    case atStart=>exact ⟨rfl,Lib.hid (Below.refl _ _)⟩
    case round=>
      obtain ⟨rfl,HB⟩:=hrel
      go_wp2_with fail
      go_ret
      exact ⟨rfl,HB.out⟩
  · have e1: ¬(n:Int)=(m:Int):=by omega
    rw [decide_eq_false e]
    clear h e
    go_enter Tryz.func69,Tryz.ntmps69
    go_wp2_with fail
    go_ret
    exact ⟨rfl,Below.refl _ _⟩
theorem eqItem_calls (v1 v2 : Value) (a b : List (Int × Int)) (ha : a.length ≤ 50000) (hb : b.length ≤ 50000) (w : World) (h1 : Rx w 2 v1 a.length (itemCells a)) (h2 : Rx w 2 v2 b.length (itemCells b)) :
    Calls Tryz.prog 69 #[v1,v2] w fun e w'=>e= .returned (.bool (a==b))∧Below w.heap.size w w':=by
  obtain ⟨-,A,c,rfl,h1⟩:=h1
  obtain ⟨-,B,d,rfl,h2⟩:=h2
  by_cases h:a.length≠b.length∨a.length=0
  · exact equal_short eqItem_short a b ha hb h A B c d w
  · obtain ⟨g1,rfl, -,c1⟩:=h1 (by omega)
    obtain ⟨g2,rfl, -,c2⟩:=h2 (by omega)
    have hcon:=AnyQ.slices_Equal Tryz.layEqItem 2 Tryz.isAgg56 Tryz.sizeOf56 encI (fun _=>rfl) (fun x y=>x==y) neqItem g1 0 a.length c g2 0 b.length d a b w (Nat.le_refl _) (Nat.le_refl _) (by omega) (by omega) (fun j hj i v hv=>by
      have h2:i<2:=by
        rcases Nat.lt_or_ge i 2 with h|h
        · exact h
        · rw [List.getElem?_eq_none (by simp [encI];omega)] at hv;cases hv
      rw [Nat.zero_add,c1 _ (by omega)];exact itemCells_enc a j hj i v hv) (fun j hj i v hv=>by
      have h2:i<2:=by
        rcases Nat.lt_or_ge i 2 with h|h
        · exact h
        · rw [List.getElem?_eq_none (by simp [encI];omega)] at hv;cases hv
      rw [Nat.zero_add,c2 _ (by omega)];exact itemCells_enc b j hj i v hv)
    rw [List.take_length,List.take_length,allEq_items] at hcon
    refine Calls.mono hcon ?_
    rintro e w' ⟨rfl,q,rfl⟩
    exact ⟨rfl,below_drewN (Below.refl _ _) q⟩
set_option maxRecDepth 100000 in
set_option maxHeartbeats 2000000 in
theorem eqInt_short (A B:Option Addr) (n m c d:Nat) (w:World) (h:n≠m∨n=0) (hn:n≤50000) (hm:m≤50000):Calls Tryz.prog 71 #[.slice A n c, .slice B m d] w fun e w'=>e= .returned (.bool (decide (n=m)))∧Below w.heap.size w w':=by
  by_cases e:n=m
  · subst e
    obtain rfl:n=0:=by omega
    rw [decide_eq_true rfl]
    go_enter Tryz.func71,Tryz.ntmps71
    go_wp2_with fail
    go_loopg [13] 0 (fun k p wr=>p= .int .i64 0∧Hid (Below w.heap.size w wr))
    case atStart=>exact ⟨rfl,Lib.hid (Below.refl _ _)⟩
    case round=>
      obtain ⟨rfl,HB⟩:=hrel
      go_wp2_with fail
      go_ret
      exact ⟨rfl,HB.out⟩
  · have e1: ¬(n:Int)=(m:Int):=by omega
    rw [decide_eq_false e]
    clear h e
    go_enter Tryz.func71,Tryz.ntmps71
    go_wp2_with fail
    go_ret
    exact ⟨rfl,Below.refl _ _⟩
theorem eqInt_calls (v1 v2 : Value) (a b : List Int) (ha : a.length ≤ 50000) (hb : b.length ≤ 50000) (w : World) (h1 : Rx w 1 v1 a.length (a.map fun x => .int .i64 x)) (h2 : Rx w 1 v2 b.length (b.map fun x => .int .i64 x)) :
    Calls Tryz.prog 71 #[v1,v2] w fun e w'=>e= .returned (.bool (a==b))∧Below w.heap.size w w':=by
  obtain ⟨-,A,c,rfl,h1⟩:=h1
  obtain ⟨-,B,d,rfl,h2⟩:=h2
  by_cases h:a.length≠b.length∨a.length=0
  · exact equal_short eqInt_short a b ha hb h A B c d w
  · obtain ⟨g1,rfl, -,c1⟩:=h1 (by omega)
    obtain ⟨g2,rfl, -,c2⟩:=h2 (by omega)
    have hcon:=AnyE.slices_Equal Tryz.layEqInt (fun x=> .int .i64 x) (fun x y=>x==y) (NeqAt.int Tryz.prog 3 .i64) g1 0 a.length c g2 0 b.length d a b w (Nat.le_refl _) (Nat.le_refl _) (by omega) (by omega) (fun j hj=>by
      rw [Nat.zero_add,c1 _ (by omega),List.getElem?_map,List.getElem?_eq_getElem hj,getElem!_pos a j hj];rfl) (fun j hj=>by
      rw [Nat.zero_add,c2 _ (by omega),List.getElem?_map,List.getElem?_eq_getElem hj,getElem!_pos b j hj];rfl)
    rw [List.take_length,List.take_length,allEq_items] at hcon
    refine Calls.mono hcon ?_
    rintro e w' ⟨rfl,q,rfl⟩
    exact ⟨rfl,below_drewN (Below.refl _ _) q⟩
set_option maxRecDepth 100000 in
set_option maxHeartbeats 2000000 in
theorem eqBool_short (A B:Option Addr) (n m c d:Nat) (w:World) (h:n≠m∨n=0) (hn:n≤50000) (hm:m≤50000):Calls Tryz.prog 74 #[.slice A n c, .slice B m d] w fun e w'=>e= .returned (.bool (decide (n=m)))∧Below w.heap.size w w':=by
  by_cases e:n=m
  · subst e
    obtain rfl:n=0:=by omega
    rw [decide_eq_true rfl]
    go_enter Tryz.func74,Tryz.ntmps74
    go_wp2_with fail
    go_loopg [13] 0 (fun k p wr=>p= .int .i64 0∧Hid (Below w.heap.size w wr))
    case atStart=>exact ⟨rfl,Lib.hid (Below.refl _ _)⟩
    case round=>
      obtain ⟨rfl,HB⟩:=hrel
      go_wp2_with fail
      go_ret
      exact ⟨rfl,HB.out⟩
  · have e1: ¬(n:Int)=(m:Int):=by omega
    rw [decide_eq_false e]
    clear h e
    go_enter Tryz.func74,Tryz.ntmps74
    go_wp2_with fail
    go_ret
    exact ⟨rfl,Below.refl _ _⟩
theorem eqBool_calls (v1 v2 : Value) (a b : List Bool) (ha : a.length ≤ 50000) (hb : b.length ≤ 50000) (w : World) (h1 : Rx w 1 v1 a.length (a.map fun x => .bool x)) (h2 : Rx w 1 v2 b.length (b.map fun x => .bool x)) :
    Calls Tryz.prog 74 #[v1,v2] w fun e w'=>e= .returned (.bool (a==b))∧Below w.heap.size w w':=by
  obtain ⟨-,A,c,rfl,h1⟩:=h1
  obtain ⟨-,B,d,rfl,h2⟩:=h2
  by_cases h:a.length≠b.length∨a.length=0
  · exact equal_short eqBool_short a b ha hb h A B c d w
  · obtain ⟨g1,rfl, -,c1⟩:=h1 (by omega)
    obtain ⟨g2,rfl, -,c2⟩:=h2 (by omega)
    have hcon:=AnyE.slices_Equal Tryz.layEqBool (fun x=> .bool x) (fun x y=>x==y) (NeqAt.bool 4 Tryz.underlying4) g1 0 a.length c g2 0 b.length d a b w (Nat.le_refl _) (Nat.le_refl _) (by omega) (by omega) (fun j hj=>by
      rw [Nat.zero_add,c1 _ (by omega),List.getElem?_map,List.getElem?_eq_getElem hj,getElem!_pos a j hj];rfl) (fun j hj=>by
      rw [Nat.zero_add,c2 _ (by omega),List.getElem?_map,List.getElem?_eq_getElem hj,getElem!_pos b j hj];rfl)
    rw [List.take_length,List.take_length,allEq_items] at hcon
    refine Calls.mono hcon ?_
    rintro e w' ⟨rfl,q,rfl⟩
    exact ⟨rfl,below_drewN (Below.refl _ _) q⟩
end Go.Proofs.YtdjpjmkpndmhaaaGreat
namespace Go.Proofs.YtdjpjmkpndmhaaaGreat
open Go.RowKit
attribute [local go_sem ↓] Go.wp_at_zero Go.wp_at_succ
variable {ap : Value} {s : Ar} {O : Nat → Prop}
set_option maxRecDepth 100000 in
set_option maxHeartbeats 2000000 in
theorem bAll_calls (h : Int) (l : List Bool) (hr : bAll s h = some l) (hl : l.length ≤ 50000) (w : World) (hA : AP w ap s O) :
    Calls Tryz.prog 75 #[ap, .int .i64 h] w fun e w'=> ∃v,e= .returned v∧w'.ownsRow w.heap.size 4 1 v l.length (l.map fun x=> .bool x)∧Below w.heap.size w w':=by
  have hA0:=Lib.hid hA
  have hr':=Lib.hid hr
  have hlen:l.length=(bLen s h).toNat:=eachO_len _ _ _ hr
  clear hr
  go_enter Tryz.func75,Tryz.ntmps75
  go_wp2_with fail
  refine calls_gen fun V hV_V=> ?_
  have hB:Below w.heap.size w V:=nB hV_V
  replace hA:AP V ap s O:=nA hV_V
  have z_V:=zS hV_V
  clear hV_V
  refine (bLen_calls _ _ hA).mono ?_
  rintro e_W1 W1 ⟨rfl,hb_W1⟩
  replace hA:=hA.below hb_W1
  replace hB:=below_step hB hb_W1
  have z_W1:=hb_W1.size
  clear hb_W1
  go_wp2_with fail
  refine wp_gen fun V1 hV_V1=> ?_
  replace hB:Below w.heap.size w V1:=nB hV_V1
  replace hA:AP V1 ap s O:=nA hV_V1
  have z_V1:=zS hV_V1
  clear hV_V1
  go_loopg [5,12] (bLen s h).toNat (fun k p q wr=> ∃(i:Int) (d0 rest:List Bool),q= .int .i64 i∧0≤i∧i≤50000∧(d0.length:Int)=i∧k=(bLen s h - i).toNat∧Hid (eachO (fun i=>(bGet s h i).map (·.1)) k i=some rest)∧Hid (l=d0++rest)∧Hid (wr.ownsRow w.heap.size 4 1 p d0.length (d0.map fun x=> .bool x))∧Below w.heap.size w wr)
  case atStart=>exact ⟨0,[],l,rfl,by omega,by omega,rfl,by simp,hr',Lib.hid rfl,Lib.hid (own_nil _ _ _ _),hB⟩
  case round=>
    clear hA hB hr'
    obtain ⟨i,d0,rest,rfl,hi0,hi1,hdl,hk,He,Hl,Hown,hB0⟩:=hrel
    have hA:=hA0.out.below hB0
    by_cases hlt:i<bLen s h
    · have d1:decide (i<bLen s h)=true:=by simpa using hlt
      obtain ⟨k,rfl⟩: ∃k,gk=k+1:=⟨gk - 1,by omega⟩
      have he:=He.out
      unfold eachO at he
      obtain ⟨x,hx,he⟩:=Option.bind_eq_some_iff.1 he
      obtain ⟨rest',he',hrest⟩:=Option.bind_eq_some_iff.1 he
      obtain ⟨g,hg,hgx⟩:=Option.map_eq_some_iff.1 hx
      have hrest:=Option.some.inj hrest
      have hlx:l.length=d0.length+(1+rest'.length):=by rw [Hl.out,←hrest];simp;omega
      have Hg:=Lib.hid hg
      have Hx:=Lib.hid hgx
      have He':=Lib.hid he'
      have Hl':Hid (l=(d0++[x])++rest'):=Lib.hid (by rw [Hl.out,←hrest];simp)
      clear He Hl he hx he' hrest hg hgx
      have hw0:=hB0.size
      have HB0:=Lib.hid hB0;clear hB0
      have hB:=Below.refl wr.heap.size wr
      go_wp2_with fail
      refine calls_gen fun V2 hV_V2=> ?_
      replace hB:Below wr.heap.size wr V2:=nB hV_V2
      replace hA:AP V2 ap s O:=nA hV_V2
      have z_V2:=zS hV_V2
      clear hV_V2
      refine (bGet_calls _ _ g Hg.out _ hA).mono ?_
      rintro e_W2 W2 ⟨rfl,hb_W2⟩
      replace hA:=hA.below hb_W2
      replace hB:=below_step hB hb_W2
      have z_W2:=hb_W2.size
      clear hb_W2
      have Hbl:=Lib.hid (below_step HB0.out hB)
      have hown:=own_below Hown.out hB
      clear Hown
      go_wp2_with (at_builtin;refine wpList_push _ (by rfl) _ _ 83 (by rfl) (w.heap.size) 4 (.bool false) 1 1 Tryz.underlying83 (by kernel_rfl) (by rfl) (by omega) _ _ _ (by rfl) hown _ (by rfl) (by rfl) (by simp [Value.oneCell']) (by unfold maxLen;omega) (by omega) (by omega) ?_;intro g_W c_W W3 hown_W hlow_W hlt_W)
      have h1:wrap64 (i+1)=i+1:=IntWalk.wrap64_in _ (by omega)
      go_wp2_with fail
      go_roundg k
      case measure=>omega
      case rel=>
        refine ⟨i+1,d0++[x],rest',by rw [←h1],by omega,by omega,by simp;omega,by omega,He',Hl',?_,low_step Hbl.out (by omega) hlow_W⟩
        rw [List.map_append,List.length_append,←Hx.out]
        exact Lib.hid hown_W
    · have d1:decide (i<bLen s h)=false:=by simpa using hlt
      obtain rfl:gk=0:=by omega
      have he:=He.out
      unfold eachO at he
      obtain rfl:=Option.some.inj he
      have hl2:=Hl.out
      simp only [List.append_nil] at hl2
      have hn:d0.length=l.length:=by rw [hl2]
      clear He Hl he
      go_wp2_with fail
      go_ret
      refine ⟨u5,rfl,?_,hB0⟩
      rw [hl2];exact Hown.out
set_option maxRecDepth 100000 in
set_option maxHeartbeats 2000000 in
theorem wAll_calls (h : Int) (l : List Int) (hr : wAll s h = some l) (hl : l.length ≤ 50000) (w : World) (hA : AP w ap s O) :
    Calls Tryz.prog 72 #[ap, .int .i64 h] w fun e w'=> ∃v,e= .returned v∧w'.ownsRow w.heap.size 3 1 v l.length (l.map fun x=> .int .i64 x)∧Below w.heap.size w w':=by
  have hA0:=Lib.hid hA
  have hr':=Lib.hid hr
  have hlen:l.length=(wLen s h).toNat:=eachO_len _ _ _ hr
  clear hr
  go_enter Tryz.func72,Tryz.ntmps72
  go_wp2_with fail
  refine calls_gen fun V hV_V=> ?_
  have hB:Below w.heap.size w V:=nB hV_V
  replace hA:AP V ap s O:=nA hV_V
  have z_V:=zS hV_V
  clear hV_V
  refine (wLen_calls _ _ hA).mono ?_
  rintro e_W1 W1 ⟨rfl,hb_W1⟩
  replace hA:=hA.below hb_W1
  replace hB:=below_step hB hb_W1
  have z_W1:=hb_W1.size
  clear hb_W1
  go_wp2_with fail
  refine wp_gen fun V1 hV_V1=> ?_
  replace hB:Below w.heap.size w V1:=nB hV_V1
  replace hA:AP V1 ap s O:=nA hV_V1
  have z_V1:=zS hV_V1
  clear hV_V1
  go_loopg [5,12] (wLen s h).toNat (fun k p q wr=> ∃(i:Int) (d0 rest:List Int),q= .int .i64 i∧0≤i∧i≤50000∧(d0.length:Int)=i∧k=(wLen s h - i).toNat∧Hid (eachO (fun i=>(wGet s h i).map (·.1)) k i=some rest)∧Hid (l=d0++rest)∧Hid (wr.ownsRow w.heap.size 3 1 p d0.length (d0.map fun x=> .int .i64 x))∧Below w.heap.size w wr)
  case atStart=>exact ⟨0,[],l,rfl,by omega,by omega,rfl,by simp,hr',Lib.hid rfl,Lib.hid (own_nil _ _ _ _),hB⟩
  case round=>
    clear hA hB hr'
    obtain ⟨i,d0,rest,rfl,hi0,hi1,hdl,hk,He,Hl,Hown,hB0⟩:=hrel
    have hA:=hA0.out.below hB0
    by_cases hlt:i<wLen s h
    · have d1:decide (i<wLen s h)=true:=by simpa using hlt
      obtain ⟨k,rfl⟩: ∃k,gk=k+1:=⟨gk - 1,by omega⟩
      have he:=He.out
      unfold eachO at he
      obtain ⟨x,hx,he⟩:=Option.bind_eq_some_iff.1 he
      obtain ⟨rest',he',hrest⟩:=Option.bind_eq_some_iff.1 he
      obtain ⟨g,hg,hgx⟩:=Option.map_eq_some_iff.1 hx
      have hrest:=Option.some.inj hrest
      have hlx:l.length=d0.length+(1+rest'.length):=by rw [Hl.out,←hrest];simp;omega
      have Hg:=Lib.hid hg
      have Hx:=Lib.hid hgx
      have He':=Lib.hid he'
      have Hl':Hid (l=(d0++[x])++rest'):=Lib.hid (by rw [Hl.out,←hrest];simp)
      clear He Hl he hx he' hrest hg hgx
      have hw0:=hB0.size
      have HB0:=Lib.hid hB0;clear hB0
      have hB:=Below.refl wr.heap.size wr
      go_wp2_with fail
      refine calls_gen fun V2 hV_V2=> ?_
      replace hB:Below wr.heap.size wr V2:=nB hV_V2
      replace hA:AP V2 ap s O:=nA hV_V2
      have z_V2:=zS hV_V2
      clear hV_V2
      refine (wGet_calls _ _ g Hg.out _ hA).mono ?_
      rintro e_W2 W2 ⟨rfl,hb_W2⟩
      replace hA:=hA.below hb_W2
      replace hB:=below_step hB hb_W2
      have z_W2:=hb_W2.size
      clear hb_W2
      have Hbl:=Lib.hid (below_step HB0.out hB)
      have hown:=own_below Hown.out hB
      clear Hown
      go_wp2_with (at_builtin;refine wpList_push _ (by rfl) _ _ 62 (by rfl) (w.heap.size) 3 (.int .i64 0) 1 8 Tryz.underlying62 (by kernel_rfl) (by rfl) (by omega) _ _ _ (by rfl) hown _ (by rfl) (by rfl) (by simp [Value.oneCell']) (by unfold maxLen;omega) (by omega) (by omega) ?_;intro g_W c_W W3 hown_W hlow_W hlt_W)
      have h1:wrap64 (i+1)=i+1:=IntWalk.wrap64_in _ (by omega)
      go_wp2_with fail
      go_roundg k
      case measure=>omega
      case rel=>
        refine ⟨i+1,d0++[x],rest',by rw [←h1],by omega,by omega,by simp;omega,by omega,He',Hl',?_,low_step Hbl.out (by omega) hlow_W⟩
        rw [List.map_append,List.length_append,←Hx.out]
        exact Lib.hid hown_W
    · have d1:decide (i<wLen s h)=false:=by simpa using hlt
      obtain rfl:gk=0:=by omega
      have he:=He.out
      unfold eachO at he
      obtain rfl:=Option.some.inj he
      have hl2:=Hl.out
      simp only [List.append_nil] at hl2
      have hn:d0.length=l.length:=by rw [hl2]
      clear He Hl he
      go_wp2_with fail
      go_ret
      refine ⟨u5,rfl,?_,hB0⟩
      rw [hl2];exact Hown.out
end Go.Proofs.YtdjpjmkpndmhaaaGreat
namespace Go.Proofs.YtdjpjmkpndmhaaaGreat
open Go.RowKit
theorem wpList_push2 {P : Program} {ops : Array Oper} {rest : List Oper} {o : Oper} {a : Act} {Q : Exit → Act → World → Prop} (w : World) (hgd : o.guard = none) (s x : Operand) (t : TypeId)
    (ho:o.op= .call {callee:= .builtin .append,args:= #[s,x],argTypes:= #[t,t]})
    (base:Nat) (e:TypeId) (z:Value) (size bytes:Nat) (ht:P.underlying t=some (.slice e)) (hi:(P.info? e).map (fun i=>(i.zero,i.size,i.bytes))=some (some z,size,bytes))
    (hzs:z.cells.size=size) (hsz:0<size) (v:Value) (n:Nat) (xs:List Value) (hs:a.eval s=v) (hown:w.ownsRow base e size v n xs)
    (news:Array Value) (hl:news.size=size) (hx:a.eval x= .slice (some ⟨w.heap.size,0,none⟩) 1 1) (h1: ∀u∈news.toList,u.oneCell'=true) (h63:n+1≤maxLen) (hbytes:(n+1)*bytes≤140737488355328) (hbase:base≤w.heap.size)
    (h: ∀g cap w',w'.ownsRow base e size (.slice (some ⟨g,0,none⟩) (n+1) cap) (n+1) (xs++news.toList)→Below base w w'→g<w'.heap.size→w.grownBy w' v.ownBlock→(v.ownBlock=some g∨w.heap.size≤g)→wpList P ops Q rest (a.put o.dst (.slice (some ⟨g,0,none⟩) (n+1) cap)) w'):
    wpList P ops Q (o::rest) a (w.alloc (.cells news e)):=by
  obtain ⟨i0,hi0,hz0,hz1,hz2⟩:=info_parts hi
  refine wpList_append_lies _ hgd s x t ho base e i0 z size bytes ht hi0 hz0 hz1 hz2 hzs hsz v n xs hs (hown.alloc _) ⟨w.heap.size,0,none⟩ 1 1 news.toList hx (by simpa using hl) ?_ h1 (by omega) h63 hbytes (by simp;omega) (w.heap.size+1) (by simp) ?_
  · intro j u hu
    have hk:=cells_of (blk_new w (.cells news e) w.heap.size rfl) j
    rw [show (⟨w.heap.size,0,none⟩:Addr).add j=⟨w.heap.size,j,none⟩ by unfold Addr.add;split<;>simp_all]
    rw [hk];simpa using hu
  · intro g cap w' h2 hg hat hlt
    have h0:=World.grownBy_alloc w (.cells news e) v.ownBlock
    refine h g cap w' h2 ?_ hlt ⟨hg.os.trans h0.os,hg.tape.trans h0.tape,hg.output.trans h0.output,Nat.le_trans h0.size hg.size,fun k hk hne=>(hg.block k (Nat.lt_of_lt_of_le hk h0.size) hne).trans (h0.block k hk hne)⟩ (hat.imp id fun q=>by omega)
    refine ((Below.refl base w).alloc hbase _).grown hg (by simp;omega) ?_
    intro k hk
    rcases hown.2 with ⟨rfl,_⟩|⟨g',cap',cur,rfl,hge,_⟩
    · simp [Value.ownBlock] at hk
    · simp [Value.ownBlock] at hk;omega
theorem step_push2 {P : Program} {ops : Array Oper} {o : Oper} {a : Act} {K : Act → World → Prop} {Q : Exit → Act → World → Prop} {E : Prop} (w : World) (hwant : Region.wanted o (yielded ops a.tmps) = true) (s x : Operand) (t : TypeId)
    (ho:o.op= .call {callee:= .builtin .append,args:= #[s,x],argTypes:= #[t,t]})
    (base:Nat) (e:TypeId) (z:Value) (size bytes:Nat) (ht:P.underlying t=some (.slice e)) (hi:(P.info? e).map (fun i=>(i.zero,i.size,i.bytes))=some (some z,size,bytes))
    (hzs:z.cells.size=size) (hsz:0<size) (v:Value) (n:Nat) (xs:List Value) (hs:a.eval s=v) (hown:w.ownsRow base e size v n xs)
    (news:Array Value) (hl:news.size=size) (hx:a.eval x= .slice (some ⟨w.heap.size,0,none⟩) 1 1) (h1: ∀u∈news.toList,u.oneCell'=true) (h63:n+1≤maxLen) (hbytes:(n+1)*bytes≤140737488355328) (hbase:base≤w.heap.size)
    (h: ∀g cap w',w'.ownsRow base e size (.slice (some ⟨g,0,none⟩) (n+1) cap) (n+1) (xs++news.toList)→Below base w w'→g<w'.heap.size→w.grownBy w' v.ownBlock→(v.ownBlock=some g∨w.heap.size≤g)→K (a.put o.dst (.slice (some ⟨g,0,none⟩) (n+1) cap)) w'):
    if Region.wanted o (yielded ops a.tmps)=true then Oper.wp P o a (w.alloc (.cells news e)) K Q else E:=by
  rw [if_pos hwant]
  obtain ⟨i0,hi0,hz0,hz1,hz2⟩:=info_parts hi
  refine wp_append_lies _ s x t ho base e i0 z size bytes ht hi0 hz0 hz1 hz2 hzs hsz v n xs hs (hown.alloc _) ⟨w.heap.size,0,none⟩ 1 1 news.toList hx (by simpa using hl) ?_ h1 (by omega) h63 hbytes (by simp;omega) (w.heap.size+1) (by simp) ?_
  · intro j u hu
    have hk:=cells_of (blk_new w (.cells news e) w.heap.size rfl) j
    rw [show (⟨w.heap.size,0,none⟩:Addr).add j=⟨w.heap.size,j,none⟩ by unfold Addr.add;split<;>simp_all]
    rw [hk];simpa using hu
  · intro g cap w' h2 hg hat hlt
    have h0:=World.grownBy_alloc w (.cells news e) v.ownBlock
    refine h g cap w' h2 ?_ hlt ⟨hg.os.trans h0.os,hg.tape.trans h0.tape,hg.output.trans h0.output,Nat.le_trans h0.size hg.size,fun k hk hne=>(hg.block k (Nat.lt_of_lt_of_le hk h0.size) hne).trans (h0.block k hk hne)⟩ (hat.imp id fun q=>by omega)
    refine ((Below.refl base w).alloc hbase _).grown hg (by simp;omega) ?_
    intro k hk
    rcases hown.2 with ⟨rfl,_⟩|⟨g',cap',cur,rfl,hge,_⟩
    · simp [Value.ownBlock] at hk
    · simp [Value.ownBlock] at hk;omega
structure Ow2 (w:World) (base:Nat) (e1:TypeId) (s1:Nat) (v1:Value) (n1:Nat) (x1:List Value) (e2:TypeId) (s2:Nat) (v2:Value) (n2:Nat) (x2:List Value):Prop where
  a:w.ownsRow base e1 s1 v1 n1 x1
  b:w.ownsRow base e2 s2 v2 n2 x2
  ne: ∀k,v1.ownBlock=some k→v2.ownBlock≠some k
section
variable {w w' : World} {base : Nat} {e1 e2 : TypeId} {s1 s2 n1 n2 : Nat} {v1 v2 : Value} {x1 x2 : List Value}
theorem Ow2.nil (w:World) (base:Nat) (e1:TypeId) (s1:Nat) (e2:TypeId) (s2:Nat):Ow2 w base e1 s1 (.slice none 0 0) 0 [] e2 s2 (.slice none 0 0) 0 []:=⟨own_nil _ _ _ _,own_nil _ _ _ _,fun k h=>by simp [Value.ownBlock] at h⟩
theorem Ow2.below (h:Ow2 w base e1 s1 v1 n1 x1 e2 s2 v2 n2 x2) (hb:Below w.heap.size w w'):Ow2 w' base e1 s1 v1 n1 x1 e2 s2 v2 n2 x2:=⟨own_below h.a hb,own_below h.b hb,h.ne⟩
theorem Ow2.swap (h:Ow2 w base e1 s1 v1 n1 x1 e2 s2 v2 n2 x2):Ow2 w base e2 s2 v2 n2 x2 e1 s1 v1 n1 x1:=⟨h.b,h.a,fun k h2 h1=>h.ne k h1 h2⟩
theorem Ow2.push (h:Ow2 w base e1 s1 v1 n1 x1 e2 s2 v2 n2 x2) {g c m:Nat} {x:List Value} (ho:w'.ownsRow base e1 s1 (.slice (some ⟨g,0,none⟩) m c) m x) (hg:w.grownBy w' v1.ownBlock) (hat:v1.ownBlock=some g∨w.heap.size≤g):Ow2 w' base e1 s1 (.slice (some ⟨g,0,none⟩) m c) m x e2 s2 v2 n2 x2:=by
  refine ⟨ho,h.b.kept hg ?_,fun k hk h2=> ?_⟩
  · cases h2:v2.ownBlock with
    | none=>exact .inl rfl
    | some k=>exact .inr fun e=>h.ne k e.symm h2
  · simp [Value.ownBlock] at hk
    subst hk
    rcases hat with hat|hat
    · exact h.ne g hat h2
    · have:=(h.b.lt g h2).2;omega
end
end Go.Proofs.YtdjpjmkpndmhaaaGreat
namespace Go.Proofs.YtdjpjmkpndmhaaaGreat
open Go.RowKit
attribute [local go_sem ↓] Go.wp_at_zero Go.wp_at_succ
variable {ap : Value} {s : Ar} {O : Nat → Prop}
theorem str_lenU (l:List UInt8) (w:World):(Builtin.len_ #[9] 3 #[.string ⟨l.toArray⟩]).run Tryz.prog w= .ok (.int .i64 (l.length:Int)) w:=str_len l w
def DRows (w:World) (base:Nat) (p1 p2:Value) (ds:Docs):Prop:=Ow2 w base 9 1 p1 ds.length ((ds.map (·.2)).map strOf) 56 2 p2 ds.length (itemCells (docsM ds))
def RRows (w:World) (base:Nat) (p1 p2:Value) (rate:Int) (ds:Docs) (R:List (Nat×Nat)):Prop:=Ow2 w base 4 1 p1 R.length ((R.map (mkR rate)).map fun x=> .bool x) 56 2 p2 (R.filter (mkR rate)).length (itemCells ((R.filter (mkR rate)).map (spR ds)))
theorem own_kept2 {w w' w3:World} {base n:Nat} {e:TypeId} {size:Nat} {v v1:Value} {xs:List Value} (h:w.ownsRow base e size v n xs) (hb:Below w.heap.size w w') (hg:w'.grownBy w3 v1.ownBlock) (hne: ∀k,v1.ownBlock=some k→v.ownBlock≠some k):w3.ownsRow base e size v n xs:=by
  refine (own_below h hb).kept hg ?_
  cases h2:v.ownBlock with
  | none=>exact .inl rfl
  | some k=>exact .inr fun e=>hne k e.symm h2
theorem docsM_snoc (ds:Docs) (d:Int×List UInt8):docsM (ds++[d])=docsM ds++[(d.1,(d.2.length:Int))]:=by unfold docsM;simp
section
attribute [local go_sem] str_lenU
theorem check_no (root rate : Int) (vl : Value) (h : ¬ (vIs s root = true ∧ 1 ≤ rate ∧ rate ≤ 16)) (w : World) (hA : AP w ap s O) :
    Calls Tryz.prog 22 #[ap, .int .i64 root, .int .i64 rate,vl] w fun e w'=>e= .returned (.bool false)∧Below w.heap.size w w':=by
  cases hv:vIs s root with
  | false=>
    go_enter Tryz.func22,Tryz.ntmps22
    go_wp2_with fail
    refine calls_gen fun V hV_V=> ?_
    have hB:Below w.heap.size w V:=nB hV_V
    replace hA:AP V ap s O:=nA hV_V
    have z_V:=zS hV_V
    clear hV_V
    refine (vOf_calls _ _ hA).mono ?_
    rintro e_W1 W1 ⟨rfl,hb_W1⟩
    replace hA:=hA.below hb_W1
    replace hB:=below_step hB hb_W1
    have z_W1:=hb_W1.size
    clear hb_W1
    unfold Parts.val
    rw [hv]
    go_wp2_with fail
    go_ret
    exact ⟨rfl,by (repeat' first|with_reducible assumption|with_reducible exact Below.refl _ _|with_reducible refine Below.alloc ?_ ?_ _|with_reducible refine Below.setCell ?_ ?_ _|with_reducible refine below_drewN ?_ _|with_reducible refine Below.drew ?_|exact Nat.le_refl _|((try dsimp only);omega)|(simp only [siz_alloc,siz_set];omega))⟩
  | true=>
    by_cases h1:rate<1
    ·
      go_enter Tryz.func22,Tryz.ntmps22
      go_wp2_with fail
      refine calls_gen fun V hV_V=> ?_
      have hB:Below w.heap.size w V:=nB hV_V
      replace hA:AP V ap s O:=nA hV_V
      have z_V:=zS hV_V
      clear hV_V
      refine (vOf_calls _ _ hA).mono ?_
      rintro e_W1 W1 ⟨rfl,hb_W1⟩
      replace hA:=hA.below hb_W1
      replace hB:=below_step hB hb_W1
      have z_W1:=hb_W1.size
      clear hb_W1
      unfold Parts.val
      rw [hv]
      go_wp2_with fail
      go_ret
      exact ⟨rfl,by (repeat' first|with_reducible assumption|with_reducible exact Below.refl _ _|with_reducible refine Below.alloc ?_ ?_ _|with_reducible refine Below.setCell ?_ ?_ _|with_reducible refine below_drewN ?_ _|with_reducible refine Below.drew ?_|exact Nat.le_refl _|((try dsimp only);omega)|(simp only [siz_alloc,siz_set];omega))⟩
    ·
      have h2:16<rate:=by
        rcases Int.lt_or_le 16 rate with h2|h2
        ·
          exact h2
        ·
          exact absurd ⟨hv,by omega,h2⟩ h
      go_enter Tryz.func22,Tryz.ntmps22
      go_wp2_with fail
      refine calls_gen fun V hV_V=> ?_
      have hB:Below w.heap.size w V:=nB hV_V
      replace hA:AP V ap s O:=nA hV_V
      have z_V:=zS hV_V
      clear hV_V
      refine (vOf_calls _ _ hA).mono ?_
      rintro e_W1 W1 ⟨rfl,hb_W1⟩
      replace hA:=hA.below hb_W1
      replace hB:=below_step hB hb_W1
      have z_W1:=hb_W1.size
      clear hb_W1
      unfold Parts.val
      rw [hv]
      go_wp2_with fail
      go_ret
      exact ⟨rfl,by (repeat' first|with_reducible assumption|with_reducible exact Below.refl _ _|with_reducible refine Below.alloc ?_ ?_ _|with_reducible refine Below.setCell ?_ ?_ _|with_reducible refine below_drewN ?_ _|with_reducible refine Below.drew ?_|exact Nat.le_refl _|((try dsimp only);omega)|(simp only [siz_alloc,siz_set];omega))⟩
theorem check_end (root rate : Int) (ds : Docs) (r : Bool) (hr : vCheck s root rate ds = some r) (h1 : vIs s root = true ∧ 1 ≤ rate ∧ rate ≤ 16) (h2 : refRight (txt ds) = true) :
    ∃a,lAll s (vOf s root).table=some a∧a.length≤50000∧((a==docsM ds)=false∧r=false∨(a==docsM ds)=true∧
      ∃b,wAll s (vOf s root).wave=some b∧b.length≤50000∧((b==symsM (txt ds))=false∧r=false∨(b==symsM (txt ds))=true∧
      ∃c,bAll s (vOf s root).marks=some c∧c.length≤50000∧((c==marksM rate (txt ds))=false∧r=false∨(c==marksM rate (txt ds))=true∧
      ∃d,lAll s (vOf s root).spots=some d∧d.length≤50000∧r=(d==spotsM rate ds)))):=by
  unfold vCheck at hr
  rw [if_pos h1,if_pos h2] at hr
  obtain ⟨a,ha,hr⟩:=Option.bind_eq_some_iff.1 hr
  by_cases la:a.length≤50000
  ·
    rw [if_pos la] at hr
    refine ⟨a,ha,la,?_⟩
    cases ea:(a==docsM ds) with
    | false=>rw [ea,if_neg (by decide)] at hr;exact .inl ⟨rfl,(Option.some.inj hr).symm⟩
    | true=>
      rw [ea,if_pos rfl] at hr
      obtain ⟨b,hb,hr⟩:=Option.bind_eq_some_iff.1 hr
      by_cases lb:b.length≤50000
      ·
        rw [if_pos lb] at hr
        refine .inr ⟨rfl,b,hb,lb,?_⟩
        cases eb:(b==symsM (txt ds)) with
        | false=>rw [eb,if_neg (by decide)] at hr;exact .inl ⟨rfl,(Option.some.inj hr).symm⟩
        | true=>
          rw [eb,if_pos rfl] at hr
          obtain ⟨c,hc,hr⟩:=Option.bind_eq_some_iff.1 hr
          by_cases lc:c.length≤50000
          ·
            rw [if_pos lc] at hr
            refine .inr ⟨rfl,c,hc,lc,?_⟩
            cases ec:(c==marksM rate (txt ds)) with
            | false=>rw [ec,if_neg (by decide)] at hr;exact .inl ⟨rfl,(Option.some.inj hr).symm⟩
            | true=>
              rw [ec,if_pos rfl] at hr
              obtain ⟨d,hd,hr⟩:=Option.bind_eq_some_iff.1 hr
              by_cases ld:d.length≤50000
              ·
                rw [if_pos ld] at hr
                exact .inr ⟨rfl,d,hd,ld,(Option.some.inj hr).symm⟩
              ·
                rw [if_neg ld] at hr;cases hr
          ·
            rw [if_neg lc] at hr;cases hr
      ·
        rw [if_neg lb] at hr;cases hr
  ·
    rw [if_neg la] at hr;cases hr
set_option maxRecDepth 100000 in
set_option maxHeartbeats 8000000 in
theorem check_yes (root rate : Int) (ds : Docs) (vl : Value) (r : Bool) (hr : vCheck s root rate ds = some r) (hc : vIs s root = true ∧ 1 ≤ rate ∧ rate ≤ 16) (hn : ds.length ≤ 50000) (h40 : ∀ t, t ∈ txt ds → t.length ≤ 50000) (w : World) (hA : AP w ap s O) (hd : Rd2 w vl ds) :
    Calls Tryz.prog 22 #[ap, .int .i64 root, .int .i64 rate,vl] w fun e w'=>e= .returned (.bool r)∧Below w.heap.size w w':=by
  obtain ⟨hv,hr1,hr2⟩:=hc
  have HR:=Lib.hid hr;have HN:=Lib.hid hn;have H40:=Lib.hid h40;have HV:=Lib.hid hv
  have HD:=Lib.hid hd
  have htl:(txt ds).length=ds.length:=by simp
  have HTL:=Lib.hid htl
  obtain ⟨A,cap,rfl, -⟩:=hd
  have r1:decide (rate<1)=false:=by simp;omega
  have r2:decide (16<rate)=false:=by simp;omega
  have r0:rate≠0:=by omega
  have HRT:=Lib.hid (And.intro hr1 hr2)
  clear hr hn h40 hr1 hr2 htl
  go_enter Tryz.func22,Tryz.ntmps22
  go_wp2_with fail
  refine calls_gen fun V hV_V=> ?_
  have hB:Below w.heap.size w V:=nB hV_V
  replace hA:AP V ap s O:=nA hV_V
  have z_V:=zS hV_V
  clear hV_V
  refine (vOf_calls _ _ hA).mono ?_
  rintro e_W1 W1 ⟨rfl,hb_W1⟩
  replace hA:=hA.below hb_W1
  replace hB:=below_step hB hb_W1
  have z_W1:=hb_W1.size
  clear hb_W1
  unfold Parts.val
  rw [hv]
  have HW1:=hB.size
  go_wp2_with fail
  refine wp_gen fun V1 hV_V1=> ?_
  have n_kp:=hbk hV_V1 (W1.heap.size)
  simp (maxDischargeDepth:=9) only [BK,not_false_eq_true,reduceCtorEq] at n_kp
  have o_kp: ¬O (W1.heap.size):=by first|exact hA.new (Nat.le_refl _)|exact hA.new (by omega)
  replace hB:Below w.heap.size w V1:=nB hV_V1
  replace hA:AP V1 ap s O:=nA hV_V1
  have z_V1:=zS hV_V1
  clear hV_V1
  have kp:=n_kp;clear n_kp
  obtain ⟨c_kp,f_kp,l_kp_V1⟩:=f3 kp
  have HA1:=Lib.hid hA;have HB1:=Lib.hid hB;have KP:=Lib.hid kp;have HD1:=Lib.hid (HD.out.below hB)
  have hz1:=hB.size
  clear hA hB kp c_kp f_kp hv
  generalize hkb:W1.heap.size=kb at*
  go_loopg [11,12,38] ds.length (fun k p1 p2 q wr=> ∃i:Nat,q= .int .i64 (i:Int)∧i+k=ds.length∧Hid (DRows wr V1.heap.size p1 p2 (ds.take i))∧Hid (Below V1.heap.size V1 wr))
  case atStart=>exact ⟨0,rfl,by omega,Lib.hid (Ow2.nil _ _ _ _ _ _),Lib.hid (Below.refl _ _)⟩
  case round=>
    obtain ⟨i,rfl,hk,Hrow,HB⟩:=hrel
    have hw1:=HB.out.size
    by_cases hlt:i<ds.length
    ·
      obtain ⟨k,rfl⟩: ∃k,gk=k+1:=⟨gk - 1,by omega⟩
      obtain ⟨d,hdi⟩:=at_some hlt
      obtain ⟨A',cap',hv,h2⟩:=HD1.out.below HB.out
      obtain ⟨ad,rfl,hg,hc⟩:=h2 (by omega)
      obtain ⟨rfl, -,rfl⟩:=Value.slice.inj hv
      obtain ⟨hlb,c1,c2⟩:=hc i d hdi
      have n1:decide ((i:Int)<(ds.length:Int))=true:=by simpa using hlt
      have n2:(i:Int)<(ds.length:Int):=by omega
      have hN:=HN.out
      have E3:=Lib.hid (step_wrap i 50000 (by omega) (by omega))
      have hi5:i≤50000:=by omega
      have htake:Hid (ds.take (i+1)=ds.take i++[d]):=Lib.hid (by rw [List.take_succ_eq_append_getElem hlt,(List.getElem_eq_iff hlt).2 hdi])
      have hil:(ds.take i).length=i:=by rw [List.length_take];omega
      have hR:=Hrow.out
      unfold DRows at hR
      rw [hil] at hR
      have HRow:=Lib.hid hR
      have HL1:=Lib.hid hR.a.lt;have HL2:=Lib.hid hR.b.lt
      have HNE:=Lib.hid hR.ne
      replace c2:wr.cell? ⟨(ad.add (i*2)).block,(ad.add (i*2)).off+1,none⟩=some (.string ⟨d.2.toArray⟩):=c2
      clear h2 hc hv hdi hR Hrow hil hN
      go_wp2_with (
        at_builtin
        first
        | (refine wpList_push2 _ (by rfl) _ _ 42 (by rfl) (V1.heap.size) 9 (.string ⟨#[]⟩) 1 16 Tryz.underlying42 (by kernel_rfl) (by rfl) (by omega) _ _ _ (by rfl) (own_below HRow.out.a (by (repeat' first | with_reducible assumption | with_reducible exact Below.refl _ _ | with_reducible refine Below.alloc ?_ ?_ _ | with_reducible refine Below.setCell ?_ ?_ _ | with_reducible refine below_drewN ?_ _ | with_reducible refine Below.drew ?_ | exact Nat.le_refl _ | ((try dsimp only); omega) | (simp only [siz_alloc, siz_set]; omega)))) _ (by rfl) (by rw [siz_alloc]; rfl) (by simp [Value.oneCell']) (by unfold maxLen; omega) (by omega) (by simp only [siz_alloc, siz_set]; omega) ?_
           intro g_W c_W W3 hown_W hlow_W hlt_W hgr_W hat_W
           have kd:=(hgr_W.block wr.heap.size (by rw [siz_alloc];omega) (fun e=>by have:=HL1.out _ e.symm;omega)).trans (blk_new wr _ _ rfl)
           have HHob:=Lib.hid (own_kept2 HRow.out.b (show Below wr.heap.size wr _ by (repeat' first|with_reducible assumption|with_reducible exact Below.refl _ _|with_reducible refine Below.alloc ?_ ?_ _|with_reducible refine Below.setCell ?_ ?_ _|with_reducible refine below_drewN ?_ _|with_reducible refine Below.drew ?_|exact Nat.le_refl _|((try dsimp only);omega)|(simp only [siz_alloc,siz_set];omega))) hgr_W HNE.out)
           have c_kd:=cells_of kd
           have f_kd:=free_of kd
           have l_kd:=lt_of kd
           have hz3:=hgr_W.size
           rw [siz_alloc] at hz3
           have HLow3:=Lib.hid (low_step HB.out (Nat.le_refl _) (Below.trans (by (repeat' first|with_reducible assumption|with_reducible exact Below.refl _ _|with_reducible refine Below.alloc ?_ ?_ _|with_reducible refine Below.setCell ?_ ?_ _|with_reducible refine below_drewN ?_ _|with_reducible refine Below.drew ?_|exact Nat.le_refl _|((try dsimp only);omega)|(simp only [siz_alloc,siz_set];omega))) hlow_W))
           have Hown:=Lib.hid hown_W
           have Hgr:=Lib.hid hgr_W
           have Hat:=Lib.hid hat_W
           clear hown_W hgr_W hat_W hlow_W)
        | (refine wpList_push2 _ (by rfl) _ _ 97 (by rfl) (V1.heap.size) 56 (.agg #[.int .i64 0, .int .i64 0]) 2 16 Tryz.underlying97 (by kernel_rfl) (by rfl) (by omega) _ _ _ (by rfl) HHob.out _ (by rfl) (by rfl) (by simp [Value.oneCell']) (by unfold maxLen; omega) (by omega) (by omega) ?_
           intro g_X c_X W5 hown_X hlow_X hlt_X hgr_X hat_X
           have Hown2:=Lib.hid hown_X
           have Hgr2:=Lib.hid hgr_X
           have Hat2:=Lib.hid hat_X
           have HLow5:=Lib.hid hlow_X
           clear hown_X hgr_X hat_X hlow_X))
      go_wp2_with fail
      go_roundg k
      case measure=>omega
      case rel=>
        refine ⟨i+1,by first|rfl|(rw [E3.out];rfl),by omega,Lib.hid ?_,Lib.hid (low_step HLow3.out (Nat.le_refl _) HLow5.out)⟩
        have h3:=(HRow.out.below (show Below wr.heap.size wr _ by (repeat' first|with_reducible assumption|with_reducible exact Below.refl _ _|with_reducible refine Below.alloc ?_ ?_ _|with_reducible refine Below.setCell ?_ ?_ _|with_reducible refine below_drewN ?_ _|with_reducible refine Below.drew ?_|exact Nat.le_refl _|((try dsimp only);omega)|(simp only [siz_alloc,siz_set];omega)))).push Hown.out Hgr.out Hat.out
        have h5:=(h3.swap.push Hown2.out Hgr2.out Hat2.out).swap
        unfold DRows
        rw [htake.out,docsM_snoc,itemCells_append,List.map_append,List.map_append,List.length_append,List.length_take,Nat.min_eq_left (by omega)]
        exact h5
    ·
      have hi:i=ds.length:=by omega
      have n1:decide ((i:Int)<(ds.length:Int))=false:=by simpa using hlt
      have hrow:=Hrow.out
      rw [hi,List.take_length] at hrow
      have HRW:=Lib.hid hrow
      clear hrow Hrow hk
      go_wp2_with fail
      refine (rowsSorted_calls _ (txt ds) (by rw [HTL.out];exact HN.out) _ (by rw [HTL.out];exact Rk.of_own HRW.out.a)).mono ?_
      rintro e2 W2 ⟨v2,rfl,hrk,hb2⟩
      have HX2:=Lib.hid (below_step HB.out hb2)
      have HRW2:=Lib.hid (Ow2.below HRW.out hb2)
      have hw2:=HX2.out.size
      obtain ⟨R,hR⟩: ∃R,R=refSorted (txt ds):=⟨_,rfl⟩
      rw [←hR] at hrk
      have hsm:R.length≤500:=by rw [hR];exact sorted_small _
      have Hval:Hid (∀x,x∈R→ ∃t,(txt ds)[x.1]? =some t∧x.2≤t.length):=Lib.hid (fun x hx=>sorted_valid (hR▸hx))
      have HRR:=Lib.hid hR
      have HRK:=Lib.hid hrk
      obtain ⟨-,A2,c2,rfl, -⟩:=hrk
      clear hR hb2 HB HRW n1 hi hlt
      go_wp2_with fail
      go_loopg [13,14,60] R.length (fun k p13 p14 q wr=> ∃i:Nat,q= .int .i64 (i:Int)∧i+k=R.length∧Hid (RRows wr W2.heap.size p14 p13 rate ds (R.take i))∧Hid (Below W2.heap.size W2 wr))
      case atStart=>exact ⟨0,rfl,by omega,Lib.hid (Ow2.nil _ _ _ _ _ _),Lib.hid (Below.refl _ _)⟩
      case round=>
        obtain ⟨i,rfl,hk,Hrow,HB⟩:=hrel
        have hwr:=HB.out.size
        by_cases hlt:i<R.length
        ·
          obtain ⟨k,rfl⟩: ∃k,gk=k+1:=⟨gk - 1,by omega⟩
          obtain ⟨x,hx⟩:=at_some hlt
          obtain ⟨t,ht,hxt⟩:=Hval.out x (List.mem_of_getElem? hx)
          obtain ⟨-,A',cap',hv,h2⟩:=HRK.out.below HB.out
          obtain ⟨g1,cs1,T1,rfl,kg1,hcs1⟩:=h2 (by omega)
          obtain ⟨rfl, -,rfl⟩:=Value.slice.inj hv
          have c1a:cs1[i*2]? =some (.int .i64 (x.1:Int)):=(hcs1 _ (by omega)).trans (rowCells_at hx).1
          have c1b:cs1[i*2+1]? =some (.int .i64 (x.2:Int)):=(hcs1 _ (by omega)).trans (rowCells_at hx).2
          clear h2 hv hcs1
          have n1:decide ((i:Int)<(R.length:Int))=true:=by simpa using hlt
          have n2:(i:Int)<(R.length:Int):=by omega
          have E3:=Lib.hid (step_wrap i 500 (by omega) (by omega))
          have htake:Hid (R.take (i+1)=R.take i++[x]):=Lib.hid (by rw [List.take_succ_eq_append_getElem hlt,(List.getElem_eq_iff hlt).2 hx])
          have hil:(R.take i).length=i:=by rw [List.length_take];omega
          have hfl:((R.take i).filter (mkR rate)).length≤500:=by have:=List.length_filter_le (mkR rate) (R.take i);omega
          have hR:=Hrow.out
          unfold RRows at hR
          rw [hil] at hR
          have HRow:=Lib.hid hR
          have HL1:=Lib.hid hR.a.lt;have HL2:=Lib.hid hR.b.lt
          have HNE:=Lib.hid hR.ne
          clear hR Hrow hil
          by_cases hm:(x.2:Int) % rate=0
          ·
            have m1:((x.2:Int) % rate==0)=true:=by rw [hm];rfl
            have hmk:Hid (mkR rate x=true):=Lib.hid (decide_eq_true hm)
            have hdx:x.1<ds.length:=by have:=(List.getElem?_eq_some_iff.1 ht).1;rw [HTL.out] at this;exact this
            obtain ⟨d,hdi⟩:=at_some hdx
            have Hsp:Hid (spR ds x=(d.1,(x.2:Int))):=Lib.hid (by unfold spR;simp [List.getD,hdi])
            have Hdi:=Lib.hid hdi
            have n3:(x.1:Int)<(ds.length:Int):=by omega
            clear hm hdi ht hxt
            obtain ⟨c_kg1,f_kg1,l_kg1_wr⟩:=f3 kg1
            go_wp2_with (
              at_builtin
              (refine wpList_push2 _ (by rfl) _ _ 83 (by rfl) (W2.heap.size) 4 (.bool false) 1 1 Tryz.underlying83 (by kernel_rfl) (by rfl) (by omega) _ _ _ (by rfl) (own_below HRow.out.a (by (repeat' first|with_reducible assumption|with_reducible exact Below.refl _ _|with_reducible refine Below.alloc ?_ ?_ _|with_reducible refine Below.setCell ?_ ?_ _|with_reducible refine below_drewN ?_ _|with_reducible refine Below.drew ?_|exact Nat.le_refl _|((try dsimp only);omega)|(simp only [siz_alloc,siz_set];omega)))) _ (by rfl) (by rw [siz_alloc];rfl) (by simp [Value.oneCell']) (by unfold maxLen;omega) (by omega) (by simp only [siz_alloc,siz_set];omega) ?_
               intro g_W c_W W3 hown_W hlow_W hlt_W hgr_W hat_W
               have kr:=(hgr_W.block wr.heap.size (by rw [siz_alloc];omega) (fun e=>by have:=HL1.out _ e.symm;omega)).trans (blk_new wr _ _ rfl)
               have h3:=Lib.hid ((HRow.out.below (show Below wr.heap.size wr _ by (repeat' first|with_reducible assumption|with_reducible exact Below.refl _ _|with_reducible refine Below.alloc ?_ ?_ _|with_reducible refine Below.setCell ?_ ?_ _|with_reducible refine below_drewN ?_ _|with_reducible refine Below.drew ?_|exact Nat.le_refl _|((try dsimp only);omega)|(simp only [siz_alloc,siz_set];omega)))).push hown_W hgr_W hat_W)
               have HLow3:=Lib.hid (low_step HB.out (Nat.le_refl _) (Below.trans (by (repeat' first|with_reducible assumption|with_reducible exact Below.refl _ _|with_reducible refine Below.alloc ?_ ?_ _|with_reducible refine Below.setCell ?_ ?_ _|with_reducible refine below_drewN ?_ _|with_reducible refine Below.drew ?_|exact Nat.le_refl _|((try dsimp only);omega)|(simp only [siz_alloc,siz_set];omega))) hlow_W))
               have hz3:=hgr_W.size
               rw [siz_alloc] at hz3
               clear hown_W hgr_W hat_W hlow_W))
            go_wp2_with fail
            refine wp_gen fun V3 hV3=> ?_
            have hb3:Below W3.heap.size W3 V3:=by rw [hV3];(repeat' first|with_reducible assumption|with_reducible exact Below.refl _ _|with_reducible refine Below.alloc ?_ ?_ _|with_reducible refine Below.setCell ?_ ?_ _|with_reducible refine below_drewN ?_ _|with_reducible refine Below.drew ?_|exact Nat.le_refl _|((try dsimp only);omega)|(simp only [siz_alloc,siz_set];omega))
            clear hV3
            have hzv:=hb3.size
            have HX3:=Lib.hid (below_step HX2.out HLow3.out)
            have HX4:=Lib.hid (below_step HX3.out hb3)
            obtain ⟨ad,hvl,hlb,c1d⟩: ∃ad,A=some ad∧(ad.add (x.1*2)).block<W2.heap.size∧V3.cell? (ad.add (x.1*2))=some (.int .i64 d.1):=by
              obtain ⟨A',cap',hv,h2⟩:=HD1.out
              obtain ⟨ad,rfl,hg,hc⟩:=h2 (by omega)
              obtain ⟨rfl, -, -⟩:=Value.slice.inj hv
              obtain ⟨q1,q2, -⟩:=hc x.1 d Hdi.out
              exact ⟨ad,rfl,by omega,(HX4.out.cell (by exact q1)).trans q2⟩
            subst hvl
            replace kr:=keep_blk hb3 kr
            have H3:=Lib.hid (h3.out.below hb3)
            have HLow4:=Lib.hid (low_step HLow3.out (Nat.le_refl _) (hb3.mono (by have:=HLow3.out.size;omega)))
            have hL3:=H3.out.b.lt
            have HLb:=Lib.hid hlb
            clear hb3 c_kg1 f_kg1 kg1
            obtain ⟨c_kr,f_kr,l_kr_V3⟩:=f3 kr
            have hadb:V3.heap.size≥W2.heap.size:=by have:=HLow4.out.size;omega
            refine wp_region_noPanic ?_
            refine wp_region_held_drew (S:=fun v=>(v.cell? (ad.add (x.1*2))=some (.int .i64 d.1))∧(∀o,v.cell? ⟨wr.heap.size,o,none⟩=V3.cell? ⟨wr.heap.size,o,none⟩)∧Below W2.heap.size V3 v) (by kernel_rfl) ⟨c1d,fun _=>rfl,(Below.refl _ _).drew⟩ (fun hHeld=> ?_)
            have hB_d:Below V3.heap.size V3 V3.drew:=(Below.refl _ _).drew
            generalize V3.drew=V3d at hHeld hB_d⊢
            refine tz 0 rfl hHeld ?_
            try simp only [PT]
            refine tz 1 rfl hHeld ?_
            try simp only [PT]
            refine tz 2 rfl hHeld ?_
            try simp only [PT]
            refine tz 3 rfl hHeld ?_
            try simp only [PT]
            refine tz 4 rfl hHeld ?_
            try simp only [PT]
            refine tz 5 rfl hHeld ?_
            try simp only [PT]
            refine tz 6 rfl hHeld ?_
            try simp only [PT]
            refine tz 7 rfl hHeld ?_
            try simp only [PT]
            refine tz 8 rfl hHeld ?_
            try simp only [PT]
            refine tz 9 rfl hHeld ?_
            try simp only [PT]
            have hown3:=Lib.hid (own_below H3.out.b hB_d)
            have hH3d:=Lib.hid (Ow2.below H3.out hB_d)
            have hlow3d:=Lib.hid hHeld.2.2
            have heq3:=Lib.hid hHeld.2.1
            have hz3d:=hB_d.size
            have hS: ∀v,(∀o,v.cell? ⟨wr.heap.size,o,none⟩=V3.cell? ⟨wr.heap.size,o,none⟩)→Below W2.heap.size V3 v→((v.cell? (ad.add (x.1*2))=some (.int .i64 d.1))∧(∀o,v.cell? ⟨wr.heap.size,o,none⟩=V3.cell? ⟨wr.heap.size,o,none⟩)∧Below W2.heap.size V3 v):=fun v h1 h2=>⟨(h2.cell (by exact hlb)).trans c1d,h1,h2⟩
            have HS:=Lib.hid hS
            clear c1d hS
            refine rd 10 rfl fun K hK=> ?_
            go_simp
            refine hK.out _ _ (HS.out _ (fun o=>(((Below.refl V3d.heap.size V3d).alloc (Nat.le_refl _) _).cell (by show wr.heap.size<V3d.heap.size;omega)).trans (heq3.out o)) (hlow3d.out.alloc (by omega) _)) (fun hHeld=> ?_)
            clear hK K
            try simp only [PT]
            refine rd 11 rfl fun K hK=> ?_
            refine step_push2 _ (by rfl) _ _ 97 (by rfl) (W2.heap.size) 56 (.agg #[.int .i64 0, .int .i64 0]) 2 16 Tryz.underlying97 (by kernel_rfl) (by rfl) (by omega) _ _ _ (by rfl) hown3.out _ (by rfl) (by rfl) (by simp [Value.oneCell']) (by unfold maxLen;omega) (by omega) (by omega) ?_
            intro g_X c_X W5 hown_X hlow_X hlt_X hgr_X hat_X
            refine hK.out _ _ (HS.out _ (fun o=>(World.cell?_of_block (hgr_X.block wr.heap.size (by omega) (fun e=>by have:=HL2.out _ e.symm;omega))).trans (heq3.out o)) (hlow3d.out.trans hlow_X)) (fun hHeld=> ?_)
            clear hK K
            try simp only [PT]
            refine rd 12 rfl fun K hK=> ?_
            go_simp
            refine hK.out _ _ hHeld (fun hHeld=> ?_)
            clear hK K
            try simp only [PT]
            refine wpAnyH_done (by kernel_rfl) ?_ _
            refine NoPanic.normal ?_
            have H5:=Lib.hid (hH3d.out.swap.push hown_X hgr_X hat_X).swap
            have HLow5:=Lib.hid (low_step (low_step HLow4.out (Nat.le_refl _) hlow3d.out) (Nat.le_refl _) hlow_X)
            clear hHeld hown_X hlow_X hgr_X hat_X
            go_wp2_with fail
            go_roundg k
            case measure=>omega
            case rel=>
              refine ⟨i+1,by first|rfl|(rw [E3.out];rfl),by omega,Lib.hid ?_,HLow5⟩
              have h5:=H5.out
              unfold RRows
              have e1:[x].map (spR ds)=[(d.1,(x.2:Int))]:=by rw [List.map_cons,List.map_nil,Hsp.out]
              have e2:[x].map (mkR rate)=[true]:=by rw [List.map_cons,List.map_nil,hmk.out]
              rw [htake.out,List.map_append,e2,List.map_append,List.filter_append,List.filter_cons_of_pos (by rw [hmk.out]),List.filter_nil,List.map_append,e1,itemCells_append,List.length_append,List.length_append,List.length_take,Nat.min_eq_left (by omega)]
              exact h5
          ·
            have m1:((x.2:Int) % rate==0)=false:=by rw [beq_eq_false_iff_ne];exact hm
            have hmk:Hid (mkR rate x=false):=Lib.hid (decide_eq_false hm)
            clear hm
            obtain ⟨c_kg1,f_kg1,l_kg1_wr⟩:=f3 kg1
            go_wp2_with (
              at_builtin
              (refine wpList_push2 _ (by rfl) _ _ 83 (by rfl) (W2.heap.size) 4 (.bool false) 1 1 Tryz.underlying83 (by kernel_rfl) (by rfl) (by omega) _ _ _ (by rfl) (own_below HRow.out.a (by (repeat' first|with_reducible assumption|with_reducible exact Below.refl _ _|with_reducible refine Below.alloc ?_ ?_ _|with_reducible refine Below.setCell ?_ ?_ _|with_reducible refine below_drewN ?_ _|with_reducible refine Below.drew ?_|exact Nat.le_refl _|((try dsimp only);omega)|(simp only [siz_alloc,siz_set];omega)))) _ (by rfl) (by rw [siz_alloc];rfl) (by simp [Value.oneCell']) (by unfold maxLen;omega) (by omega) (by simp only [siz_alloc,siz_set];omega) ?_
               intro g_W c_W W3 hown_W hlow_W hlt_W hgr_W hat_W))
            go_wp2_with fail
            go_roundg k
            case measure=>omega
            case rel=>
              refine ⟨i+1,by first|rfl|(rw [E3.out];rfl),by omega,Lib.hid ?_,Lib.hid (low_step HB.out (Nat.le_refl _) (Below.trans (by (repeat' first|with_reducible assumption|with_reducible exact Below.refl _ _|with_reducible refine Below.alloc ?_ ?_ _|with_reducible refine Below.setCell ?_ ?_ _|with_reducible refine below_drewN ?_ _|with_reducible refine Below.drew ?_|exact Nat.le_refl _|((try dsimp only);omega)|(simp only [siz_alloc,siz_set];omega))) hlow_W))⟩
              have h3:=(HRow.out.below (show Below wr.heap.size wr _ by (repeat' first|with_reducible assumption|with_reducible exact Below.refl _ _|with_reducible refine Below.alloc ?_ ?_ _|with_reducible refine Below.setCell ?_ ?_ _|with_reducible refine below_drewN ?_ _|with_reducible refine Below.drew ?_|exact Nat.le_refl _|((try dsimp only);omega)|(simp only [siz_alloc,siz_set];omega)))).push hown_W hgr_W hat_W
              unfold RRows
              rw [htake.out,List.map_append,List.map_append,List.filter_append,List.filter_cons_of_neg (by rw [hmk.out];decide),List.filter_nil,List.append_nil,List.length_append,List.length_take,Nat.min_eq_left (by omega),List.map_cons,hmk.out]
              exact h3
        ·
          have hi:i=R.length:=by omega
          have n1:decide ((i:Int)<(R.length:Int))=false:=by simpa using hlt
          have hrow:=Hrow.out
          rw [hi,List.take_length] at hrow
          have HRM:=Lib.hid hrow
          have hBw:=below_step HX2.out HB.out
          have hA:=HA1.out.below hBw
          have kp:=keep_blk hBw KP.out
          have HBW:=Lib.hid (below_step HB1.out hBw)
          have HDW:=Lib.hid (Ow2.below HRW2.out HB.out)
          have hdl:(docsM ds).length=ds.length:=by unfold docsM;simp
          have hHN:=HN.out
          have Rt:Hid (Rk wr 1 u11 (txt ds).length ((txt ds).map strOf)):=Lib.hid (by rw [HTL.out];exact Rk.of_own HDW.out.a)
          clear hrow Hrow hBw HB
          have hB:=Below.refl wr.heap.size wr
          obtain ⟨c_kp,f_kp,l_kp_wr⟩:=f3 kp
          go_wp2_with fail
          refine (rowsRight_calls _ (txt ds) (by rw [HTL.out];exact HN.out) _ Rt.out).mono ?_
          rintro e_W5 W5 ⟨rfl,hb_W5⟩
          replace hA:=hA.below hb_W5
          replace hB:=below_step hB hb_W5
          replace kp:=keep_blk hb_W5 kp
          have z_W5:=hb_W5.size
          clear hb_W5 c_kp f_kp
          obtain ⟨c_kp,f_kp,l_kp_W5⟩:=f3 kp
          have hr:=HR.out
          cases hrt:refRight (txt ds) with
          | false=>
            have hrf:r=false:=by
              unfold vCheck at hr
              rw [if_pos ⟨HV.out,HRT.out.1,HRT.out.2⟩,hrt,if_neg (by decide)] at hr
              exact (Option.some.inj hr).symm
            subst hrf
            go_wp2_with fail
            go_ret
            exact ⟨rfl,below_step HBW.out hB⟩
          | true=>
            obtain ⟨a,ha,la,hcase⟩:=check_end root rate ds r hr ⟨HV.out,HRT.out.1,HRT.out.2⟩ hrt
            have HC:=Lib.hid hcase
            clear hr hcase hrt
            go_wp2_with fail
            refine (lAll_calls _ a ha la _ hA).mono ?_
            rintro e_W6 W6 ⟨v6,rfl,hown6,hb_W6⟩
            replace hA:=hA.below hb_W6
            replace hB:=below_step hB hb_W6
            replace kp:=keep_blk hb_W6 kp
            have z_W6:=hb_W6.size
            clear hb_W6 c_kp f_kp
            obtain ⟨c_kp,f_kp,l_kp_W6⟩:=f3 kp
            have HX6:=Lib.hid (Rx.of_own hown6)
            have HDB:=Lib.hid ((Rx.of_own HDW.out.b).below hB)
            clear hown6
            go_wp2_with fail
            refine (eqItem_calls _ _ a (docsM ds) la (by omega) _ HX6.out (by rw [hdl];exact HDB.out)).mono ?_
            rintro e_W7 W7 ⟨rfl,hb_W7⟩
            replace hA:=hA.below hb_W7
            replace hB:=below_step hB hb_W7
            replace kp:=keep_blk hb_W7 kp
            have z_W7:=hb_W7.size
            clear hb_W7 c_kp f_kp
            obtain ⟨c_kp,f_kp,l_kp_W7⟩:=f3 kp
            rcases HC.out with ⟨e,rfl⟩|⟨e,b,hb,lb,hcase⟩
            ·
              rw [e]
              clear e HC
              go_wp2_with fail
              go_ret
              exact ⟨rfl,below_step HBW.out hB⟩
            rw [e]
            have HC2:=Lib.hid hcase
            clear e HC hcase
            go_wp2_with fail
            refine (wAll_calls _ b hb lb _ hA).mono ?_
            rintro e_W8 W8 ⟨v8,rfl,hown8,hb_W8⟩
            replace hA:=hA.below hb_W8
            replace hB:=below_step hB hb_W8
            replace kp:=keep_blk hb_W8 kp
            have z_W8:=hb_W8.size
            clear hb_W8 c_kp f_kp
            obtain ⟨c_kp,f_kp,l_kp_W8⟩:=f3 kp
            have HX8:=Lib.hid (Rx.of_own hown8)
            clear hown8
            go_wp2_with fail
            refine (rowsSymbols_calls _ (txt ds) (by rw [HTL.out];exact HN.out) H40.out _ (Rt.out.below hB)).mono ?_
            rintro e9 W9 ⟨v9,rfl,hown9,hb9⟩
            have HX9:=Lib.hid (HX8.out.below hb9)
            have HY9:=Lib.hid (Rx.of_own hown9)
            replace hA:=hA.below hb9
            replace hB:=below_step hB hb9
            replace kp:=keep_blk hb9 kp
            clear hb9 hown9 c_kp f_kp
            obtain ⟨c_kp,f_kp,l_kp_W9⟩:=f3 kp
            have hsy:((refSorted (txt ds)).map (symOf (txt ds))).length≤50000:=by rw [List.length_map];have:=sorted_small (txt ds);omega
            have HY9':Hid (Rx W9 1 v9 ((refSorted (txt ds)).map (symOf (txt ds))).length (((refSorted (txt ds)).map (symOf (txt ds))).map fun x=> .int .i64 x)):=Lib.hid (by rw [List.length_map];exact HY9.out)
            go_wp2_with fail
            refine (eqInt_calls _ _ b ((refSorted (txt ds)).map (symOf (txt ds))) lb hsy _ HX9.out HY9'.out).mono ?_
            rintro e_W10 W10 ⟨rfl,hb_W10⟩
            replace hA:=hA.below hb_W10
            replace hB:=below_step hB hb_W10
            replace kp:=keep_blk hb_W10 kp
            have z_W10:=hb_W10.size
            clear hb_W10 c_kp f_kp
            obtain ⟨c_kp,f_kp,l_kp_W10⟩:=f3 kp
            rcases HC2.out with ⟨e,rfl⟩|⟨e,c,hcc,lc,hcase⟩
            ·
              unfold symsM at e
              rw [e]
              clear e HC2
              go_wp2_with fail
              go_ret
              exact ⟨rfl,below_step HBW.out hB⟩
            unfold symsM at e
            rw [e]
            have HC3:=Lib.hid hcase
            clear e HC2 hcase
            go_wp2_with fail
            refine (bAll_calls _ c hcc lc _ hA).mono ?_
            rintro e_W11 W11 ⟨v11,rfl,hown11,hb_W11⟩
            replace hA:=hA.below hb_W11
            replace hB:=below_step hB hb_W11
            replace kp:=keep_blk hb_W11 kp
            have z_W11:=hb_W11.size
            clear hb_W11 c_kp f_kp
            obtain ⟨c_kp,f_kp,l_kp_W11⟩:=f3 kp
            have HX11:=Lib.hid (Rx.of_own hown11)
            have HRA:Hid (Rx W11 1 u14 (marksM rate (txt ds)).length ((marksM rate (txt ds)).map fun x=> .bool x)):=Lib.hid (by
              unfold marksM;rw [←HRR.out,List.length_map];exact (Rx.of_own HRM.out.a).below hB)
            have hml:(marksM rate (txt ds)).length≤50000:=by unfold marksM;rw [List.length_map];have:=sorted_small (txt ds);omega
            clear hown11
            go_wp2_with fail
            refine (eqBool_calls _ _ c (marksM rate (txt ds)) lc hml _ HX11.out HRA.out).mono ?_
            rintro e_W12 W12 ⟨rfl,hb_W12⟩
            replace hA:=hA.below hb_W12
            replace hB:=below_step hB hb_W12
            replace kp:=keep_blk hb_W12 kp
            have z_W12:=hb_W12.size
            clear hb_W12 c_kp f_kp
            obtain ⟨c_kp,f_kp,l_kp_W12⟩:=f3 kp
            rcases HC3.out with ⟨e,rfl⟩|⟨e,d,hdd,ld,hrr⟩
            ·
              rw [e]
              clear e HC3
              go_wp2_with fail
              go_ret
              exact ⟨rfl,below_step HBW.out hB⟩
            rw [e]
            have HC4:=Lib.hid hrr
            clear e HC3 hrr
            go_wp2_with fail
            refine (lAll_calls _ d hdd ld _ hA).mono ?_
            rintro e_W13 W13 ⟨v13,rfl,hown13,hb_W13⟩
            replace hA:=hA.below hb_W13
            replace hB:=below_step hB hb_W13
            replace kp:=keep_blk hb_W13 kp
            have z_W13:=hb_W13.size
            clear hb_W13 c_kp f_kp
            obtain ⟨c_kp,f_kp,l_kp_W13⟩:=f3 kp
            have HX13:=Lib.hid (Rx.of_own hown13)
            have HRB:Hid (Rx W13 2 u13 (spotsM rate ds).length (itemCells (spotsM rate ds))):=Lib.hid (by
              unfold spotsM;rw [←HRR.out,List.length_map];exact (Rx.of_own HRM.out.b).below hB)
            have hsl:(spotsM rate ds).length≤50000:=by unfold spotsM;rw [List.length_map];have h1:=sorted_small (txt ds);have h2:=List.length_filter_le (mkR rate) (refSorted (txt ds));omega
            clear hown13
            go_wp2_with fail
            refine (eqItem_calls _ _ d (spotsM rate ds) ld hsl _ HX13.out HRB.out).mono ?_
            rintro e_W14 W14 ⟨rfl,hb_W14⟩
            replace hA:=hA.below hb_W14
            replace hB:=below_step hB hb_W14
            replace kp:=keep_blk hb_W14 kp
            have z_W14:=hb_W14.size
            clear hb_W14 c_kp f_kp
            obtain ⟨c_kp,f_kp,l_kp_W14⟩:=f3 kp
            go_wp2_with fail
            go_ret
            exact ⟨congrArg (fun b=>Ending.returned (.bool b)) HC4.out.symm,below_step HBW.out hB⟩
theorem check_calls (root rate : Int) (ds : Docs) (vl : Value) (r : Bool) (hr : vCheck s root rate ds = some r) (hn : ds.length ≤ 50000) (h40 : ∀ t, t ∈ txt ds → t.length ≤ 50000) (w : World) (hA : AP w ap s O) (hd : Rd2 w vl ds) :
    Calls Tryz.prog 22 #[ap, .int .i64 root, .int .i64 rate,vl] w fun e w'=>e= .returned (.bool r)∧Below w.heap.size w w':=by
  by_cases hc:vIs s root=true∧1≤rate∧rate≤16
  ·
    exact check_yes root rate ds vl r hr hc hn h40 w hA hd
  ·
    have:r=false:=by
      unfold vCheck at hr
      rw [if_neg hc] at hr
      exact (Option.some.inj hr).symm
    rw [this]
    exact check_no root rate vl hc w hA
end
end Go.Proofs.YtdjpjmkpndmhaaaGreat
namespace Go.Proofs.YtdjpjmkpndmhaaaGreat
open Go.RowKit
attribute [local go_sem ↓] Go.wp_at_zero Go.wp_at_succ
attribute [local go_sem] str_len
def okP (x:Pt):Bool:=decide (-1≤x.pos)&&(decide (x.pos≤x.text.length)&&(decide (x.text.length≤50000)&&decide (1≤x.rate)))
theorem okP_ok {x:Pt} (h:okP x=true):PtOk x:=by
  unfold okP at h
  simp only [Bool.and_eq_true,decide_eq_true_eq] at h
  exact ⟨h.1,h.2.1,h.2.2.1,h.2.2.2⟩
def aliveP:Option (Bool×Bool):=
  (Pt.new (Ar.new 2000) 0 2 1 [97]).step.bind fun r1=>r1.2.2.step.bind fun r2=>r2.2.2.step.bind fun r3=>r3.2.2.step.bind fun r4=>
  (vCheck r4.2.2.s r4.2.2.root 2 [(1,[97])]).map fun c=>(okP r1.2.2&&(okP r2.2.2&&okP r3.2.2),!r1.1&&(!r2.1&&(!r3.1&&(r4.1&&(decide (r1.2.1=0)&&(decide (r2.2.1=0)&&(decide (r3.2.1=0)&&(decide (r4.2.1=0)&&(c&&decide (r4.2.2.left=0))))))))))
set_option maxRecDepth 1000000 in
theorem aliveP_eq:aliveP=some (true,true):=by decide+kernel
theorem alive_steps: ∃x:Nat→Pt,x 0=Pt.new (Ar.new 2000) 0 2 1 [97]∧(∀k,k<4→PtOk (x k)∧(x k).step=some (decide (k=3),0,x (k+1)))∧vCheck (x 4).s (x 4).root 2 [(1,[97])]=some true∧(x 4).left=0:=by
  have hm:=aliveP_eq
  unfold aliveP at hm
  obtain ⟨⟨o1,f1,x1⟩,h1,hm⟩:=Option.bind_eq_some_iff.1 hm
  obtain ⟨⟨o2,f2,x2⟩,h2,hm⟩:=Option.bind_eq_some_iff.1 hm
  obtain ⟨⟨o3,f3,x3⟩,h3,hm⟩:=Option.bind_eq_some_iff.1 hm
  obtain ⟨⟨o4,f4,x4⟩,h4,hm⟩:=Option.bind_eq_some_iff.1 hm
  obtain ⟨c,hc,hm⟩:=Option.map_eq_some_iff.1 hm
  simp only [Prod.mk.injEq,Bool.and_eq_true,Bool.not_eq_true',decide_eq_true_eq] at hm
  obtain ⟨⟨k1,k2,k3⟩,rfl,rfl,rfl,rfl,rfl,rfl,rfl,rfl,rfl,hl⟩:=hm
  refine ⟨fun k=>match k with|0=>Pt.new (Ar.new 2000) 0 2 1 [97]|1=>x1|2=>x2|3=>x3|_=>x4,rfl,fun k hk=> ?_,hc,hl⟩
  have h4':k=0∨k=1∨k=2∨k=3:=by omega
  rcases h4' with rfl|rfl|rfl|rfl
  · exact ⟨okP_ok (x:=Pt.new (Ar.new 2000) 0 2 1 [97]) (by decide+kernel),h1⟩
  · exact ⟨okP_ok k1,h2⟩
  · exact ⟨okP_ok k2,h3⟩
  · exact ⟨okP_ok k3,h4⟩
set_option maxRecDepth 100000 in
set_option maxHeartbeats 2000000 in
theorem alive13_calls (w:World):Calls Tryz.prog 42 #[] w fun e w'=>e= .returned (.bool true)∧Below w.heap.size w w':=by
  obtain ⟨x,hx0,hxs,hck,hlf⟩:=alive_steps
  have HX:=Lib.hid hxs;have HC:=Lib.hid hck;have HL:=Lib.hid hlf
  have HL0:Hid ((x 0).left=4):=Lib.hid (by rw [hx0];decide+kernel)
  clear hxs hck hlf
  go_enter Tryz.func42,Tryz.ntmps42
  go_wp2_with fail
  refine (new_calls 2000 (by omega) (by omega) _).mono ?_
  rintro e1 W1 ⟨p,O,rfl,hA,hO,hb1⟩
  have HS:=Lib.hid (St.new hb1 hA hO)
  clear hA hO hb1
  go_wp2_with fail
  have hcon:=HS.out.put 0 2 1 [97] [] (by decide+kernel) (by decide) (by decide+kernel) (by omega) (by omega) (by omega) rfl (by decide) (by decide+kernel)
  rw [←hx0] at hcon
  unfold strOf at hcon
  refine hcon.mono ?_
  rintro e2 W2 ⟨b,rfl,h2⟩
  have H2:=Lib.hid h2
  clear h2 hcon HS hx0
  go_wp2_with fail
  refine (H2.out.same fun O hT=>pLeft_calls _ hT).mono ?_
  rintro e3 W3 ⟨rfl,h3⟩
  have H3:=Lib.hid h3
  clear h3 H2
  rw [HL0.out]
  go_wp2_with fail
  go_loopg [4] 4 (fun m c wr=> ∃k:Nat,c= .int .i64 (k:Int)∧k+m=4∧Hid (Sp w wr (.pointer (some ⟨p,0,none⟩)) b (x k) []))
  case atStart=>exact ⟨0,rfl,by omega,H3⟩
  case round=>
    obtain ⟨k,rfl,hk,H⟩:=hrel
    by_cases hlt:k<4
    · obtain ⟨m,rfl⟩: ∃m,gk=m+1:=⟨gk - 1,by omega⟩
      obtain ⟨hok,hst⟩:=HX.out k hlt
      have n1:decide ((k:Int)<4)=true:=by simp;omega
      have e5:wrap64 ((k:Int)+1)=(k:Int)+1:=IntWalk.wrap64_in _ (by omega)
      have HE5:=Lib.hid e5
      have n3:(((k:Int)==3):Bool)=decide (k=3):=by
        by_cases e:k=3
        · subst e;rfl
        · rw [decide_eq_false e,beq_eq_false_iff_ne];omega
      have HOK:=Lib.hid hok;have HST:=Lib.hid hst
      clear hok hst e5 hlt
      go_wp2_with fail
      refine (H.out.act fun O hT=>pStep_calls (x k) HOK.out _ HST.out _ hT).mono ?_
      rintro e4 W4 ⟨rfl,h4⟩
      have H4:=Lib.hid h4
      clear h4
      dsimp only
      rw [←n3]
      go_wp2_with fail
      have e5:=HE5.out
      go_roundg m
      case measure=>omega
      case rel=>exact ⟨k+1,by first|rfl|(rw [e5];rfl),by omega,H4⟩
    · have n1:decide ((k:Int)<4)=false:=by simp;omega
      obtain rfl:k=4:=by omega
      go_wp2_with fail
      refine (H.out.same fun O hT=>pLeft_calls _ hT).mono ?_
      rintro e5 W5 ⟨rfl,h5⟩
      have H5:=Lib.hid h5
      clear h5 H
      rw [HL.out]
      go_wp2_with fail
      refine (H5.out.same fun O hT=>pRoot_calls _ hT).mono ?_
      rintro e6 W6 ⟨rfl,h6⟩
      have H6:=Lib.hid h6
      clear h6 H5
      go_wp2_with fail
      refine calls_gen fun V7 hV7=> ?_
      have H7:=Lib.hid (H6.out.box _ hV7)
      clear hV7
      refine (H7.out.st.read fun O hA=>check_calls (x 4).root 2 [(1,[97])] _ true HC.out (by simp) (by simp) _ hA (rd2_box H7.out.at0)).mono ?_
      rintro e8 W8 ⟨rfl,h8⟩
      have H8:=Lib.hid h8
      clear h8
      go_wp2_with fail
      go_ret
      exact ⟨rfl,H8.out.bel⟩
end Go.Proofs.YtdjpjmkpndmhaaaGreat
namespace Go.Proofs.YtdjpjmkpndmhaaaGreat
open Go.RowKit Go.ChangeShapes Go.WideShapes Go.Deep
section
variable {H : Type} {enc : TypeId × Value → H} {P : Program} {w : World} {base : Nat} {spare : Nat → Bool} {held : Bool}
theorem open_slice_fields {t e : TypeId} {fs : Array Field} {fuel : Nat} {cs : List Value} {x : DataW H × List MemPlace} (ht : P.underlying t = some (.slice e)) (he : P.underlying e = some (.struct fs))
    (hone:oneCellFields P fs=true) (hC:P.cellsOf e=fs.size) (h:DataW.trod enc P w base spare held fuel t cs=some x):
    (cs=[.slice none 0 0]∧x=(.nil,[]))∨
    ∃(a:Addr) (len cap m:Nat) (D:Nat→DataW H) (Pl:Nat→List MemPlace),cs=[.slice (some a) len cap]∧base≤a.block∧len≤cap∧cap≤maxLen∧m=(if spare a.block then cap else len)∧
      x=(.slice ((List.range len).map D) ((List.range (m - len)).map fun j=>D (len+j)),MemPlace.row a (m*fs.size)++(List.range m).flatMap Pl)∧
      ∀i,i<m→ ∃(ys:List (DataW H×List MemPlace)) (n:Nat),D i= .agg (ys.map (·.1))∧Pl i=ys.flatMap (·.2)∧ys.length=fs.size∧
        ∀(j:Nat) (f:Field),fs[j]? =some f→ ∃(v:Value) (y:DataW H×List MemPlace),w.cell? (a.add (i*fs.size+j))=some v∧ys[j]? =some y∧DataW.trod enc P w base spare held n f.type [v]=some y:=by
  rcases open_slice ht h with h0|⟨a,len,cap,m,n,D,Pl,hcs,hb,hl,hm,hmm,hx,hi⟩
  · exact .inl h0
  · refine .inr ⟨a,len,cap,m,D,Pl,hcs,hb,hl,hm,hmm,by rw [hC] at hx;exact hx,fun i him=> ?_⟩
    obtain ⟨cs',hc,ht'⟩:=hi i him
    rw [hC] at hc
    obtain ⟨ys,n',hn',hy,hlen,hyl,hf⟩:=DataW.trod_struct he ht'
    obtain ⟨_,hcl,hat⟩:=World.cells?_some hc
    simp only [Prod.mk.injEq] at hy
    refine ⟨ys,n',hy.1,hy.2,hyl,fun j f hj=> ?_⟩
    obtain ⟨ho,hk⟩:=hone_of hone j f hj
    have hjl:j<fs.size:=(Array.getElem?_eq_some_iff.1 hj).1
    have hcell:=hat j hjl
    have hv:cs'[j]? =some (cs'[j]'(by omega)):=List.getElem?_eq_getElem (by omega)
    have h1:=hf j f hj
    rw [ho,hk] at h1
    have hone':(cs'.drop j).take 1=[cs'[j]'(by omega)]:=by
      rw [List.drop_eq_getElem_cons (by omega)]
      rfl
    rw [hone'] at h1
    have hys:ys[j]? =some (ys[j]'(by omega)):=List.getElem?_eq_getElem (by omega)
    refine ⟨_,_,?_,hys,h1.trans hys⟩
    rw [←Go.Deep.add_add,hcell,hv]
end
def IdOk (ds:List (Int×List UInt8)):Prop:= ∀d∈ds,(Lit.int .i64 d.1).wf=true
theorem str_of (s:ByteArray):Value.string s=strOf s.data.toList:=by unfold strOf;cases s;rfl
theorem add_one (a:Addr) (n:Nat):(⟨(a.add n).block,(a.add n).off+1,none⟩:Addr)=a.add (n+1):=by
  unfold Addr.add
  rw [if_neg (by omega: ¬n+1=0)]
  split
  · rename_i h;subst h;rfl
  · rfl
theorem read_docs {H : Type} {enc : TypeId × Value → H} {P : Program} {w : World} {held : Bool} {t e : TypeId} {f0 f1 : Field} {A : Option Addr} {len cap : Nat} {d : DataW H} {p : List MemPlace}
    (ht:P.underlying t=some (.slice e)) (he:P.underlying e=some (.struct #[f0,f1])) (hone:oneCellFields P #[f0,f1]=true) (hC:P.cellsOf e=2) (h0:P.underlying f0.type=some (.int .i64)) (h1:P.underlying f1.type=some .string)
    (h:DataW.Trod enc P w 0 (fun _=>true) held t (.slice A len cap) d p): ∃ds:List (Int×List UInt8),ds.length=len∧ds.length≤maxLen∧Rd2 w (.slice A len cap) ds∧IdOk ds:=by
  obtain ⟨m,hm⟩:=h
  have hlt:=DataW.trod_lt m _ _ _ hm
  simp only [Value.cells] at hm
  rcases open_slice_fields ht he hone hC hm with ⟨hc, -⟩|⟨a,l',c',m',D,Pl,hc, -,hl,hcm,hmm,hx,hi⟩
  · simp only [List.cons.injEq,Value.slice.injEq,and_true] at hc
    obtain ⟨rfl,rfl,rfl⟩:=hc
    exact ⟨[],rfl,by simp,⟨none,0,rfl,fun h=>absurd h (by simp)⟩,fun d hd=>by cases hd⟩
  · simp only [List.cons.injEq,Value.slice.injEq,and_true] at hc
    obtain ⟨rfl,rfl,rfl⟩:=hc
    have hmc:len≤m':=by rw [hmm];split<;>omega
    have key: ∀i,i<len→ ∃x:Int×List UInt8,(a.add (i*2)).block<w.heap.size∧w.cell? (a.add (i*2))=some (.int .i64 x.1)∧w.cell? ⟨(a.add (i*2)).block,(a.add (i*2)).off+1,none⟩=some (strOf x.2)∧(Lit.int .i64 x.1).wf=true:=by
      intro i hil
      obtain ⟨ys,n, -, -, -,hf⟩:=hi i (by omega)
      obtain ⟨v0,y0,c0, -,t0⟩:=hf 0 f0 rfl
      obtain ⟨v1,y1,c1, -,t1⟩:=hf 1 f1 rfl
      obtain ⟨x0,e0, -,w0⟩:=DataW.trod_int h0 t0
      obtain ⟨x1,e1, -, -⟩:=DataW.trod_string h1 t1
      simp only [List.cons.injEq,and_true] at e0 e1
      subst e0 e1
      refine ⟨(x0,x1.data.toList),?_,c0,?_,w0⟩
      · exact World.block_lt_of_cell? w _ c0
      · rw [←str_of,add_one];exact c1
    have hget: ∀i,(h:i<len)→((List.range len).map fun i=>if h:i<len then (key i h).choose else ((0:Int),([]:List UInt8)))[i]? =some (key i h).choose:=fun i h=>by
      rw [List.getElem?_map,List.getElem?_range h,Option.map_some,dif_pos h]
    have hlen:((List.range len).map fun i=>if h:i<len then (key i h).choose else ((0:Int),([]:List UInt8))).length=len:=by simp
    refine ⟨_,hlen,by rw [hlen];omega,⟨some a,cap,by rw [hlen],fun hn=>⟨a,rfl,?_,fun i d hd=> ?_⟩⟩,fun d hd=> ?_⟩
    · rw [hlen] at hn
      have:=(key 0 hn).choose_spec.1
      simpa [Addr.add] using this
    · have hil:i<len:=by rw [←hlen];exact (List.getElem?_eq_some_iff.1 hd).1
      rw [hget i hil] at hd
      obtain rfl:=Option.some.inj hd
      obtain ⟨a1,a2,a3, -⟩:=(key i hil).choose_spec
      exact ⟨a1,a2,a3⟩
    · obtain ⟨i,hi⟩:=List.getElem?_of_mem hd
      have hil:i<len:=by rw [←hlen];exact (List.getElem?_eq_some_iff.1 hi).1
      rw [hget i hil] at hi
      obtain rfl:=Option.some.inj hi
      exact (key i hil).choose_spec.2.2.2
end Go.Proofs.YtdjpjmkpndmhaaaGreat
namespace Go.Proofs.YtdjpjmkpndmhaaaGreat
open Go.RowKit
def docCells (ds:List (Int×List UInt8)):List Value:=ds.flatMap fun d=>[.int .i64 d.1,strOf d.2]
theorem docCells_append (a b:List (Int×List UInt8)):docCells (a++b)=docCells a++docCells b:=by unfold docCells;rw [List.flatMap_append]
theorem docCells_at: ∀{ds:List (Int×List UInt8)} {i:Nat} {d:Int×List UInt8},ds[i]? =some d→(docCells ds)[i*2]? =some (.int .i64 d.1)∧(docCells ds)[i*2+1]? =some (strOf d.2)
  | x::ds,0,d,h=>by
    obtain rfl:x=d:=by simpa using h
    exact ⟨rfl,rfl⟩
  | x::ds,i+1,d,h=>by
    have:=docCells_at (ds:=ds) (i:=i) (d:=d) (by simpa using h)
    have e:docCells (x::ds)= .int .i64 x.1::strOf x.2::docCells ds:=rfl
    rw [e,show (i+1)*2=i*2+1+1 by omega]
    simpa using this
theorem rd2_own {W:World} {base:Nat} {e:TypeId} {v:Value} {ds:List (Int×List UInt8)} (h:W.ownsRow base e 2 v ds.length (docCells ds)):Rd2 W v ds:=by
  rcases h.2 with ⟨rfl,h0⟩|⟨g,cap,cur,rfl,hg,hc,hcap,hm,hs,hx⟩
  · refine ⟨none,0,?_,fun h=>by omega⟩
    rw [h0]
  · refine ⟨_,cap,rfl,fun hn=>⟨_,rfl,lt_of hc,fun i d hd=> ?_⟩⟩
    have hi:=(List.getElem?_eq_some_iff.1 hd).1
    obtain ⟨c1,c2⟩:=docCells_at hd
    refine ⟨by rw [block_of_add];exact lt_of hc,?_,?_⟩
    · rw [add_zero_off,h.cellAt (i*2) (by omega),c1]
    · have:=h.cellAt (i*2+1) (by omega)
      rw [add_zero_off]
      exact this.trans c2
structure Keeps (base:Nat) (L:List (Nat×Obj)) (v:Value) (ds:List (Int×List UInt8)):Prop where
  own: ∀W:World,(∀x∈L,W.heap[x.1]? =some x.2)→W.ownsRow base 50 2 v ds.length (docCells ds)
  blk: ∀g,v.ownBlock=some g→ ∃o,(g,o)∈L
theorem Keeps.nil (base:Nat):Keeps base [] (.slice none 0 0) []:=⟨fun _ _=>World.ownsRow_nil _ _ _ _,fun g h=>by cases h⟩
theorem Keeps.row {w0 W:World} {ap:Value} {s:Ar} {L:List (Nat×Obj)} {base:Nat} {v:Value} {ds:List (Int×List UInt8)} (h:Keeps base L v ds) (hS:St w0 W ap s L):W.ownsRow base 50 2 v ds.length (docCells ds):=by
  obtain ⟨O, -, -,hL⟩:=hS.ex
  exact h.own W fun x hx=>(hL x hx).1
theorem St.pushed {w0 W W' : World} {ap : Value} {s : Ar} {L : List (Nat × Obj)} {v : Value} {ds : List (Int × List UInt8)} {d : Int × List UInt8} (hS : St w0 W ap s L) (h : Keeps w0.heap.size L v ds) {g cap : Nat}
    (ho:W'.ownsRow w0.heap.size 50 2 (.slice (some ⟨g,0,none⟩) (ds.length+1) cap) (ds.length+1) (docCells (ds++[d]))) (hb:Below w0.heap.size W W') (hg:W.grownBy W' v.ownBlock) (hat:v.ownBlock=some g∨W.heap.size≤g):
    ∃L',St w0 W' ap s L'∧Keeps w0.heap.size L' (.slice (some ⟨g,0,none⟩) (ds.length+1) cap) (ds++[d]):=by
  obtain ⟨O,hA,hO,hL⟩:=hS.ex
  have ho2:=ho
  rcases ho2.2 with ⟨h0, -⟩|⟨g',cap',cur,hv,hge,hc,h1,h2,h3,h4⟩
  · cases h0
  obtain ⟨e1, -,rfl⟩:=Value.slice.inj hv
  cases e1
  have hgo: ¬O g:=by
    rcases hat with e|e
    · obtain ⟨o,hm⟩:=h.blk g e
      exact (hL _ hm).2
    · exact hA.new e
  refine ⟨[(g, .cells cur 50 (0,0))],⟨⟨O,hA.same hg.size fun x hx=>hg.block x (hA.lt hx) fun e=> ?_,hO,fun x hx=> ?_⟩,hS.bel.trans hb⟩,⟨fun W2 hW2=> ?_,fun k hk=> ?_⟩⟩
  · obtain ⟨o,hm⟩:=h.blk x e.symm
    exact (hL _ hm).2 hx
  · obtain rfl:x=(g, .cells cur 50 (0,0)):=by simpa using hx
    exact ⟨hc,hgo⟩
  · have hk:=hW2 (g, .cells cur 50 (0,0)) (by simp)
    rw [List.length_append]
    exact ⟨ho.1, .inr ⟨g,cap,cur,rfl,hge,hk,h1,h2,h3,h4⟩⟩
  · simp [Value.ownBlock] at hk
    subst hk
    exact ⟨.cells cur 50 (0,0),by simp⟩
end Go.Proofs.YtdjpjmkpndmhaaaGreat
namespace Go.Proofs.YtdjpjmkpndmhaaaGreat
open Go.RowKit
def empties (k:Nat):Docs:=(List.range k).map fun (i:Nat)=>((i:Int)+1,([]:List UInt8))
def emptyStep (rate:Int) (k:Nat) (s:Ar) (root:Int):Option (Bool×Int×Ar):=
  (Pt.new s root rate ((k:Int)+1) []).step.bind fun r1=>r1.2.2.step.bind fun r2=>r2.2.2.step.bind fun r3=>
  (lAll s (vOf s root).table).bind fun l=>
  (vCheck r3.2.2.s r3.2.2.root rate (empties (k+1))).map fun c=>
  (c&&(!r1.1&&(!r2.1&&(r3.1&&(decide (r1.2.1=0)&&(decide (r2.2.1=0)&&(decide (r3.2.1=0)&&(decide (vRows r3.2.2.s r3.2.2.root=(k:Int)+1)&&
    (decide (r1.2.2.pos=0)&&decide (r1.2.2.text.length=0)&&decide (r2.2.2.text.length=0)&&(decide (r2.2.2.pos= -1)&&(decide (l.length≤10)&&(!(placeIn ((k:Int)+1) l 0).2&&(vIs s root&&decide (vDocs s root<10))))))))))))),r3.2.2.root,r3.2.2.s)
def emptyAll (rate:Int):Nat→Nat→Ar→Int→Bool
  | 0,_,_,_=>true
  | n+1,k,s,root=>match emptyStep rate k s root with
    | some r=>r.1&&emptyAll rate n (k+1) r.2.2 r.2.1
    | none=>false
def Pt.atR (x:Pt) (ρ:Int):Pt:={x with rate:=ρ}
def atI (ρ:Int) (r:Int×Pt):Int×Pt:=(r.1,r.2.atR ρ)
def atS (ρ:Int) (r:Bool×Int×Pt):Bool×Int×Pt:=(r.1,r.2.1,r.2.2.atR ρ)
variable (ρ : Int)
theorem swap_at1 (x:Pt) (i:Nat) (r:Int×Int×Ar):(x.atR ρ).swap i r=atI ρ (x.swap i r):=by unfold Pt.swap;split<;>rfl
theorem begin_at1 (x:Pt):(x.atR ρ).begin=x.begin.map (atI ρ):=by
  have e:(x.atR ρ).start=x.start.atR ρ:=rfl
  unfold Pt.begin
  rw [e]
  show (lAll x.start.s x.start.p.table).bind _=_
  cases lAll x.start.s x.start.p.table with
  | none=>rfl
  | some a=>
    rw [Option.bind_some,Option.bind_some]
    split
    · show Option.map _ (tAdd x.start.s x.start.p.table x.id x.text.length)=_
      cases tAdd x.start.s x.start.p.table x.id x.text.length with
      | none=>rfl
      | some r=>exact congrArg some (swap_at1 ρ _ _ _)
    · rfl
theorem mark_at1 (x:Pt) (n:Int) (one:Bool):(x.atR ρ).mark n one=(x.mark n one).map (atI ρ):=by
  unfold Pt.mark
  show Option.map _ (bInsert x.s x.p.marks x.row one)=_
  cases bInsert x.s x.p.marks x.row one with
  | none=>rfl
  | some r=>exact congrArg some (swap_at1 ρ {x with s:=r.2.2,row:=n,pos:=wrap64 (x.pos - 1)} 1 _)
theorem insert_at1 (x:Pt) (h0:x.pos=0):(x.atR ρ).insert=x.insert.map (atI ρ):=by
  have e1:(x.atR ρ).pos % (x.atR ρ).rate=0:=by show x.pos % ρ=0;rw [h0];exact Int.zero_emod _
  have e2:x.pos % x.rate=0:=by rw [h0];exact Int.zero_emod _
  unfold Pt.insert
  simp only [e1,e2,if_true]
  show (wBefore x.s x.p.wave x.sym).bind _=_
  cases wBefore x.s x.p.wave x.sym with
  | none=>rfl
  | some b=>
    rw [Option.bind_some,Option.bind_some]
    show (wRank x.s x.p.wave x.sym x.row).bind _=_
    cases wRank x.s x.p.wave x.sym x.row with
    | none=>rfl
    | some k=>
      rw [Option.bind_some,Option.bind_some]
      show (wInsert x.s x.p.wave x.row x.sym).bind _=_
      cases wInsert x.s x.p.wave x.row x.sym with
      | none=>rfl
      | some r1=>
        rw [Option.bind_some,Option.bind_some,swap_at1 ρ]
        show (if (x.swap 0 r1).1=0 then _ else some (atI ρ (x.swap 0 r1)))=_
        split
        · show (bRank (x.swap 0 r1).2.s (x.swap 0 r1).2.p.marks x.row).bind _=_
          cases bRank (x.swap 0 r1).2.s (x.swap 0 r1).2.p.marks x.row with
          | none=>rfl
          | some j=>
            rw [Option.bind_some,Option.bind_some]
            show (lInsert (x.swap 0 r1).2.s (x.swap 0 r1).2.p.spots j (x.id,x.pos)).bind _=_
            cases lInsert (x.swap 0 r1).2.s (x.swap 0 r1).2.p.spots j (x.id,x.pos) with
            | none=>rfl
            | some r2=>
              rw [Option.bind_some,Option.bind_some]
              show (if (((x.swap 0 r1).2.atR ρ).swap 2 r2).1=0 then (((x.swap 0 r1).2.atR ρ).swap 2 r2).2.mark _ true else some (((x.swap 0 r1).2.atR ρ).swap 2 r2))=_
              rw [swap_at1 ρ]
              show (if ((x.swap 0 r1).2.swap 2 r2).1=0 then (((x.swap 0 r1).2.swap 2 r2).2.atR ρ).mark _ true else some (atI ρ ((x.swap 0 r1).2.swap 2 r2)))=_
              split
              · exact mark_at1 ρ _ _ _
              · rfl
        · rfl
theorem asked_at1 (r:Int×Pt):Pt.asked (atI ρ r)=atS ρ (Pt.asked r):=by
  unfold Pt.asked
  show (if r.1=0 then _ else _)=_
  split<;>rfl
theorem step_at1 (x:Pt) (h0:x.pos=0∨x.pos<0):(x.atR ρ).step=x.step.map (atS ρ):=by
  unfold Pt.step
  show (if x.over=true then _ else if x.begun=true then (if 0≤x.pos then _ else _) else _)=_
  split
  · rfl
  · split
    · split
      · rename_i hp
        rw [insert_at1 ρ x (by omega)]
        cases x.insert with
        | none=>rfl
        | some r=>exact congrArg some (asked_at1 ρ r)
      · rfl
    · rw [begin_at1 ρ]
      cases x.begin with
      | none=>rfl
      | some r=>exact congrArg some (asked_at1 ρ r)
theorem empties_txt (k:Nat): ∀t∈txt (empties k),t=[]:=fun t ht=>by
  obtain ⟨d,hd,rfl⟩:=List.mem_map.1 ht
  obtain ⟨i, -,rfl⟩:=List.mem_map.1 hd
  rfl
theorem check_rate1 (s:Ar) (h:Int) (rate:Int) (h1:1≤rate) (h2:rate≤16) (k:Nat):vCheck s h rate (empties k)=vCheck s h 1 (empties k):=by
  have hm: ∀r∈refSorted (txt (empties k)),mkR rate r=mkR 1 r:=fun r hr=>by
    obtain ⟨t,ht,hr2⟩:=sorted_valid hr
    have h0:r.2=0:=by rw [empties_txt k t (List.mem_of_getElem? ht)] at hr2;simpa using hr2
    unfold mkR
    rw [h0]
    simp
  have e1:marksM rate (txt (empties k))=marksM 1 (txt (empties k)):=List.map_congr_left hm
  have e2:spotsM rate (empties k)=spotsM 1 (empties k):=by unfold spotsM;rw [List.filter_congr hm]
  unfold vCheck
  rw [e1,e2]
  by_cases hv:vIs s h=true
  · have c1:vIs s h=true∧(1:Int)≤1∧(1:Int)≤16:=⟨hv,by omega,by omega⟩
    have c2:vIs s h=true∧1≤rate∧rate≤16:=⟨hv,h1,h2⟩
    rw [if_pos c2,if_pos c1]
  · rw [if_neg (fun q=>hv q.1),if_neg (fun q=>hv q.1)]
theorem empty_step {rate : Int} (h1 : 1 ≤ rate) (h2 : rate ≤ 16) {k : Nat} {s : Ar} {root : Int} {r : Bool × Int × Ar} (hr : emptyStep 1 k s root = some r) (hok : r.1 = true) :
    ∃(x:Nat→Pt) (l:List (Int×Int)),x 0=Pt.new s root rate ((k:Int)+1) []∧(∀j,j<3→((-1≤(x j).pos∧(x j).pos≤(x j).text.length∧(x j).text.length≤50000∧1≤(x j).rate)∧(x j).step=some (decide (j=2),0,x (j+1))))∧
      (x 3).s=r.2.2∧(x 3).root=r.2.1∧vCheck r.2.2 r.2.1 rate (empties (k+1))=some true∧vRows r.2.2 r.2.1=(k:Int)+1∧lAll s (vOf s root).table=some l∧l.length≤10∧(placeIn ((k:Int)+1) l 0).2=false∧vIs s root=true∧vDocs s root<10:=by
  unfold emptyStep at hr
  obtain ⟨⟨o1,f1,x1⟩,e1,hr⟩:=Option.bind_eq_some_iff.1 hr
  obtain ⟨⟨o2,f2,x2⟩,e2,hr⟩:=Option.bind_eq_some_iff.1 hr
  obtain ⟨⟨o3,f3,x3⟩,e3,hr⟩:=Option.bind_eq_some_iff.1 hr
  obtain ⟨l,el,hr⟩:=Option.bind_eq_some_iff.1 hr
  obtain ⟨c,ec,hr⟩:=Option.map_eq_some_iff.1 hr
  subst hr
  simp only [Bool.and_eq_true,Bool.not_eq_true',decide_eq_true_eq] at hok
  obtain ⟨rfl,rfl,rfl,rfl,rfl,rfl,rfl,hv,⟨⟨hp1,ht1⟩,ht2⟩,hp2,hl,hpl,hvi,hvd⟩:=hok
  rw [check_rate1 _ _ rate h1 h2] at*
  have s0:=step_at1 rate (Pt.new s root 1 ((k:Int)+1) []) (.inl rfl)
  rw [e1] at s0
  have s1:=step_at1 rate x1 (.inl hp1)
  rw [e2] at s1
  have s2:=step_at1 rate x2 (.inr (by omega))
  rw [e3] at s2
  refine ⟨fun j=>match j with|0=>(Pt.new s root 1 ((k:Int)+1) []).atR rate|1=>x1.atR rate|2=>x2.atR rate|_=>x3.atR rate,l,rfl,fun j hj=> ?_,rfl,rfl,ec,hv,el,hl,hpl,hvi,hvd⟩
  have h3:j=0∨j=1∨j=2:=by omega
  rcases h3 with rfl|rfl|rfl
  · refine ⟨?_,s0⟩
    show -1≤(0:Int)∧(0:Int)≤((0:Nat):Int)∧(0:Nat)≤50000∧1≤rate
    omega
  · refine ⟨?_,s1⟩
    show -1≤x1.pos∧x1.pos≤(x1.text.length:Int)∧x1.text.length≤50000∧1≤rate
    omega
  · refine ⟨?_,s2⟩
    show -1≤x2.pos∧x2.pos≤(x2.text.length:Int)∧x2.text.length≤50000∧1≤rate
    omega
theorem emptyAll_step {n k:Nat} {s:Ar} {root:Int} (h:emptyAll 1 (n+1) k s root=true): ∃r,emptyStep 1 k s root=some r∧r.1=true∧emptyAll 1 n (k+1) r.2.2 r.2.1=true:=by
  unfold emptyAll at h
  cases e:emptyStep 1 k s root with
  | none=>rw [e] at h;cases h
  | some r=>
    rw [e] at h
    simp only [Bool.and_eq_true] at h
    exact ⟨r,rfl,h.1,h.2⟩
end Go.Proofs.YtdjpjmkpndmhaaaGreat
namespace Go.Proofs.YtdjpjmkpndmhaaaGreat
open Go.RowKit
set_option maxRecDepth 1000000 in
theorem empty_one:emptyAll 1 10 0 (Ar.new 6000) 0=true:=by decide+kernel
end Go.Proofs.YtdjpjmkpndmhaaaGreat
namespace Go.Proofs.YtdjpjmkpndmhaaaGreat
open Go.RowKit
attribute [local go_sem ↓] Go.wp_at_zero Go.wp_at_succ
attribute [local go_sem] str_len
theorem empties_snoc (k:Nat):empties (k+1)=empties k++[((k:Int)+1,[])]:=by unfold empties;rw [List.range_succ,List.map_append];rfl
theorem empties_length (k:Nat):(empties k).length=k:=by unfold empties;simp
def EmpAt (w0 W:World) (ap:Value) (k:Nat) (root:Int) (v:Value):Prop:=
  ∃s L,St w0 W ap s L∧Keeps w0.heap.size L v (empties k)∧emptyAll 1 (10 - k) k s root=true
set_option maxRecDepth 100000 in
set_option maxHeartbeats 4000000 in
theorem putEmpty_walk (n rate : Int) (w : World) :
    Calls Tryz.prog 9 #[.int .i64 n, .int .i64 rate] w fun e w'=>e= .returned (.bool true)∧Below w.heap.size w w':=by
  have hcase : (decide (n < 1) = true ∨ (decide (n < 1) = false ∧ decide (10 < n) = true) ∨ (decide (n < 1) = false ∧ decide (10 < n) = false ∧ decide (rate < 1) = true) ∨ (decide (n < 1) = false ∧ decide (10 < n) = false ∧ decide (rate < 1) = false ∧ decide (16 < rate) = true)) ∨
      (decide (n<1)=false∧decide (10<n)=false∧decide (rate<1)=false∧decide (16<rate)=false):=by
    simp only [decide_eq_true_eq,decide_eq_false_iff_not];omega
  rcases hcase with hno|⟨d1,d2,d3,d4⟩
  · rcases hno with d1|⟨d1,d2⟩|⟨d1,d2,d3⟩|⟨d1,d2,d3,d4⟩<;>
    (go_enter Tryz.func9,Tryz.ntmps9
     go_wp2_with fail
     refine (alive13_calls _).mono ?_
     rintro e1 W1 ⟨rfl,hb1⟩
     go_wp2_with fail
     go_ret
     exact ⟨rfl,hb1⟩)
  have hb:1≤n∧n≤10∧1≤rate∧rate≤16:=by simp only [decide_eq_false_iff_not] at d1 d2 d3 d4;omega
  obtain ⟨N,rfl⟩: ∃N:Nat,n=N:=⟨n.toNat,by omega⟩
  have HR1:=Lib.hid hb.2.2.1;have HR2:=Lib.hid hb.2.2.2;have HN:Hid (N≤10):=Lib.hid (by omega)
  clear hb
  go_enter Tryz.func9,Tryz.ntmps9
  go_wp2_with fail
  refine (alive13_calls _).mono ?_
  rintro e1 W1 ⟨rfl,hb1⟩
  have HB1:=Lib.hid hb1
  clear hb1
  go_wp2_with fail
  refine (new_calls 6000 (by omega) (by omega) _).mono ?_
  rintro e2 W2 ⟨p,O,rfl,hA,hO,hb2⟩
  have HS:=Lib.hid (St.new (below_step HB1.out hb2) hA fun b hb=>Nat.le_trans HB1.out.size (hO b hb))
  clear hA hO hb2 d1 d2 d3 d4
  go_wp2_with fail
  go_loopg [6,7,8] N (fun m c6 c7 c8 wr=> ∃(k:Nat) (root:Int),c6= .int .i64 root∧c8= .int .i64 ((k:Int)+1)∧k+m=N∧Hid (EmpAt w wr (.pointer (some ⟨p,0,none⟩)) k root c7))
  case atStart=>exact ⟨0,0,rfl,rfl,by omega,Lib.hid ⟨_,[],HS.out,Keeps.nil _,empty_one⟩⟩
  case round=>
    obtain ⟨k,root,rfl,rfl,hk,HE⟩:=hrel
    by_cases hlt:k<N
    · obtain ⟨m,rfl⟩: ∃m,gk=m+1:=⟨gk - 1,by omega⟩
      obtain ⟨s,L,hS,hK,hE⟩:=HE.out
      have hN:=HN.out
      rw [show 10 - k=(9 - k)+1 by omega] at hE
      obtain ⟨r,hr,hr1,hrn⟩:=emptyAll_step hE
      obtain ⟨x,l,hx0,hxs,hxS,hxR,hck,hvr,hl,hll,hpl,hvi,hvd⟩:=empty_step HR1.out HR2.out hr hr1
      have n1:decide ((k:Int)+1≤(N:Int))=true:=by simp;omega
      have e5:wrap64 ((k:Int)+1+1)=(k:Int)+1+1:=IntWalk.wrap64_in _ (by omega)
      have HS2:=Lib.hid hS;have HK:=Lib.hid hK;have HX:=Lib.hid hxs;have HCK:=Lib.hid hck;have HVR:=Lib.hid hvr;have HRN:=Lib.hid hrn;have HE5:=Lib.hid e5
      have HXR:=Lib.hid hxR;have HXS:=Lib.hid hxS
      have HLT:=Lib.hid hlt
      have hcon:=hS.put root rate ((k:Int)+1) [] l hl (by omega) hvi HR1.out HR2.out (by omega) hpl (by simp) hvd
      rw [←hx0] at hcon
      have HL0:Hid ((x 0).left=3):=Lib.hid (by rw [hx0];show wrap64 ((([]:List UInt8).length:Int)+3)=3;exact IntWalk.wrap64_in _ (by simp))
      unfold strOf at hcon
      clear hS hK hE hr hr1 hrn hxs hck hvr hl hll hpl hvi hvd e5 hxR hxS HE hx0 hlt hN
      go_wp2_with fail
      refine hcon.mono ?_
      rintro e3 W3 ⟨b,rfl,h3⟩
      have H3:=Lib.hid h3
      clear h3 hcon
      go_wp2_with fail
      refine (H3.out.same fun O hT=>pLeft_calls _ hT).mono ?_
      rintro e4 W4 ⟨rfl,h4⟩
      have H4:=Lib.hid h4
      clear h4 H3
      rw [HL0.out]
      go_wp2_with fail
      go_loopg [11] 3 (fun m2 c wr=> ∃j:Nat,c= .int .i64 (j:Int)∧j+m2=3∧Hid (Sp w wr (.pointer (some ⟨p,0,none⟩)) b (x j) L))
      case atStart=>exact ⟨0,rfl,by omega,H4⟩
      case round=>
        obtain ⟨j,rfl,hj,H⟩:=hrel
        by_cases hlt:j<3
        · obtain ⟨m2,rfl⟩: ∃m2,gk=m2+1:=⟨gk - 1,by omega⟩
          obtain ⟨hok,hst⟩:=HX.out j hlt
          have n2:decide ((j:Int)<3)=true:=by simp;omega
          have e6:wrap64 ((j:Int)+1)=(j:Int)+1:=IntWalk.wrap64_in _ (by omega)
          have HE6:=Lib.hid e6
          have n3:(((j:Int)==2):Bool)=decide (j=2):=by
            by_cases e:j=2
            · subst e;rfl
            · rw [decide_eq_false e,beq_eq_false_iff_ne];omega
          have HOK:Hid (PtOk (x j)):=Lib.hid ⟨hok.1,hok.2.1,hok.2.2.1,hok.2.2.2⟩
          have HST:=Lib.hid hst
          clear hok hst e6 hlt
          go_wp2_with fail
          refine (H.out.act fun O hT=>pStep_calls (x j) HOK.out _ HST.out _ hT).mono ?_
          rintro e5 W5 ⟨rfl,h5⟩
          have H5:=Lib.hid h5
          clear h5
          dsimp only
          rw [←n3]
          go_wp2_with fail
          have e6:=HE6.out
          go_roundg m2
          case measure=>omega
          case rel=>exact ⟨j+1,by first|rfl|(rw [e6];rfl),by omega,H5⟩
        · have n2:decide ((j:Int)<3)=false:=by simp;omega
          obtain rfl:j=3:=by omega
          go_wp2_with fail
          refine (H.out.same fun O hT=>pRoot_calls _ hT).mono ?_
          rintro e6 W6 ⟨rfl,h6⟩
          have hst6:=h6.st
          have H6:=Lib.hid (show St w W6 (.pointer (some ⟨p,0,none⟩)) r.2.2 L from HXS.out▸hst6)
          clear h6 H hst6 hj
          rw [HXR.out]
          have hrow:=HK.out.row H6.out
          rw [empties_length] at hrow
          have HRW:=Lib.hid hrow
          have hk10:k<10:=by have:=HLT.out;have:=HN.out;omega
          have hz6:=H6.out.bel.size
          clear hrow
          go_wp2_with (
            at_builtin
            (refine wpList_push2 _ (by rfl) _ _ 22 (by rfl) (w.heap.size) 50 (.agg #[.int .i64 0, .string ⟨#[]⟩]) 2 24 Tryz.underlying22 (by kernel_rfl) (by rfl) (by omega) _ _ _ (by rfl) HRW.out _ (by rfl) (by rfl) (by simp [Value.oneCell']) (by unfold maxLen;omega) (by omega) (by omega) ?_
             intro g c W7 hown7 hlow7 hlt7 hgr7 hat7))
          obtain ⟨L',hS7,hK7⟩:=H6.out.pushed HK.out (d:=((k:Int)+1,[])) (g:=g) (cap:=c) (by rw [empties_length,docCells_append];exact hown7) hlow7 hgr7 hat7
          rw [empties_length,←empties_snoc] at hK7
          have HS7:=Lib.hid hS7;have HK7:=Lib.hid hK7
          clear hS7 hK7 hown7 hlow7 hlt7 hgr7 hat7 H6 HRW hz6
          refine (HS7.out.read fun O hA=>vRows_calls r.2.1 _ hA).mono ?_
          rintro e8 W8 ⟨rfl,h8⟩
          have HS8:=Lib.hid h8
          clear h8 HS7
          rw [HVR.out]
          go_wp2_with fail
          have hrd:Rd2 W8 (.slice (some ⟨g,0,none⟩) (k+1) c) (empties (k+1)):=by
            have:=rd2_own (HK7.out.row HS8.out)
            exact this
          have HRD:=Lib.hid hrd
          clear hrd
          refine (HS8.out.read fun O hA=>check_calls r.2.1 rate (empties (k+1)) _ true HCK.out (by rw [empties_length];omega) (fun t ht=>by rw [empties_txt _ t ht];simp) _ hA HRD.out).mono ?_
          rintro e9 W9 ⟨rfl,h9⟩
          have HS9:=Lib.hid h9
          clear h9 HS8
          go_wp2_with fail
          have e5:=HE5.out
          go_roundg m
          case measure=>omega
          case rel=>exact ⟨k+1,r.2.1,rfl,by first|rfl|(rw [e5];rfl),by omega,Lib.hid ⟨r.2.2,L',HS9.out,HK7.out,by have:=HRN.out;rwa [show 10 - (k+1)=9 - k by omega]⟩⟩
    · have n1:decide ((k:Int)+1≤(N:Int))=false:=by simp;omega
      go_wp2_with fail
      go_ret
      obtain ⟨s,L,hS, -, -⟩:=HE.out
      exact ⟨rfl,hS.bel⟩
end Go.Proofs.YtdjpjmkpndmhaaaGreat

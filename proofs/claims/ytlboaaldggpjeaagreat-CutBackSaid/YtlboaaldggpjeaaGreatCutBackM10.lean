/- Part 10 of what CutBack needs: the walks of the program's functions, and plain facts. -/
import Derived.Test.YtlboaaldggpjeaaGreatCutBackM9
import Derived.Deep.Cut
import Derived.Deep.Onto
set_option linter.unusedSimpArgs false
set_option linter.unusedVariables false
set_option linter.unnecessarySimpa false
namespace Go.Proofs.YtlboaaldggpjeaaGreat
set_option maxRecDepth 100000
set_option maxHeartbeats 8000000
section
open Go.RowKit Go.Sort
attribute [local go_sem ↓] Go.wp_at_zero Go.wp_at_succ
attribute [local go_sem] lt_s2 lt_s3 lt_s4 str_len
variable {ap : Value} {O : Nat → Prop} {tb : Nat}
theorem pBegin_calls (x : Pt) (r : Int × Pt) (hr : x.begin = some r) (w : World) (hT : PB w tb ap x O) :
    Calls Tryz.prog 92 #[.pointer (some ⟨tb,0,none⟩)] w fun e w'=>e= .returned (.int .i64 r.1)∧DidP tb ap r.2 O w w':=by
  have Hr:=Lib.hid hr;clear hr
  go_enter Tryz.func92,Tryz.ntmps92
  have hA:=hT.hA
  have kt:=hT.blk
  have o_kt:=hT.no
  have c_kt:=f3 kt;have l_ktw:=lt_of kt
  go_wp2_with fail
  refine wg fun V hV_V=> ?_
  have hF:=Fr.refl ((oneX tb)) O w
  refine nef1 hV_V hA hF kt ?_;clear hA hF kt c_kt;intro z_V hA hF kt c_kt
  clear hV_V
  go_cut [3,4] from 3 (fun s3 s4 wx=> ∃B,s3= .pointer (some ⟨B,0,none⟩)∧s4= .bool (vIs x.s x.src)∧AP wx ap x.s O∧Fr (oneX tb) O O w wx∧wx.heap[tb]? =some (.cells #[ap, .int .i64 x.src, .int .i64 x.rate, .int .i64 x.id,strOf x.text, .int .i64 x.p.wave, .int .i64 x.p.marks, .int .i64 x.p.spots, .int .i64 x.p.table, .int .i64 x.pos, .int .i64 x.row, .bool x.begun, .bool x.over, .int .i64 x.root] 125 (0,0))∧wx.heap[B]? =some (.cells #[.int .i64 (vOf x.s x.src).wave, .int .i64 (vOf x.s x.src).marks, .int .i64 (vOf x.s x.src).spots, .int .i64 (vOf x.s x.src).table] 52 (0,0))∧ ¬O B∧B≠tb∧w.heap.size≤B)
  case first=>
    refine dr (fun v=>Sm v V (tb)∧(V.heap.size≤v.heap.size)∧AP v ap x.s O) ⟨fun _=>rfl,Nat.le_refl _,hA.drew⟩ fun Vd hV_Vd hHeld=> ?_
    have v_kt:=c_kt.1
    refine nef1 hV_Vd hA hF kt ?_;clear hA hF kt c_kt;intro z_Vd hA hF kt c_kt
    clear hV_Vd
    refine ta 0 hHeld ?_
    refine ta 1 hHeld ?_
    refine ta 2 hHeld ?_
    refine ta 3 hHeld ?_
    refine ta 4 hHeld ?_
    refine ta 5 hHeld ?_
    refine ta 6 hHeld ?_
    refine ta 7 hHeld ?_
    refine wpAnyH_ready (rs:=[8,12]) (by kernel_rfl) (by simp) (ready_at (i:=8) rfl (fun K hK=> ?_) (ready_at (i:=12) rfl (fun K hK=> ?_) AllReadyH.nil))
    · go_simp
      try simp only [IntWalk.i64_left]
      refine rC (vOf_calls x.src _ hA) fun W hb_W=> ?_
      refine bef1 hb_W hA hF kt ?_;clear hb_W hA hF kt c_kt;intro z_W hA hF kt c_kt
      refine ho hK ⟨vv c_kt v_kt,by omega,hA⟩ fun hHeld=> ?_
      clear hK K
      refine ta 9 hHeld ?_
      refine ta 10 hHeld ?_
      refine ta 11 hHeld ?_
      refine rd 12 rfl fun K hK=> ?_
      go_simp
      refine ga (K:=K) fun D hV_D=> ?_
      refine nnf1 hV_D hA hF kt ?_;clear hA hF kt c_kt;intro hn_D z_D hA hF kt c_kt
      obtain ⟨kn,c_kn,o_kn,l_knD⟩:=nN hn_D hV_D (W.heap.size)
      clear hV_D hn_D
      refine ho hK ⟨vv c_kt v_kt,by omega,hA⟩ fun hHeld=> ?_
      clear hK K
      unfold Parts.val
      refine rd 13 rfl fun K hK=> ?_
      go_simp
      refine ga (K:=K) fun D2 hV_D2=> ?_
      refine nef2 hV_D2 hA hF kt kn ?_;clear hA hF kt kn c_kt c_kn;intro z_D2 hA hF kt c_kt kn c_kn
      clear hV_D2
      refine ho hK ⟨vv c_kt v_kt,by omega,hA⟩ fun hHeld=> ?_
      clear hK K
      refine rd 14 rfl fun K hK=> ?_
      go_simp
      refine ho hK hHeld fun hHeld=> ?_
      clear hK K
      refine wd ?_
      go_wp2_with fail
      go_meet
      exact ⟨_,rfl,rfl,hA,hF,kt,kn,o_kn,by omega,by omega⟩
    · go_simp
      refine ga (K:=K) fun D hV_D=> ?_
      refine nnf1 hV_D hA hF kt ?_;clear hA hF kt c_kt;intro hn_D z_D hA hF kt c_kt
      obtain ⟨kn,c_kn,o_kn,l_knD⟩:=nN hn_D hV_D (Vd.heap.size)
      clear hV_D hn_D
      refine ho hK ⟨vv c_kt v_kt,by omega,hA⟩ fun hHeld=> ?_
      clear hK K
      refine rd 8 rfl fun K hK=> ?_
      go_simp
      try simp only [IntWalk.i64_left]
      refine rC (vOf_calls x.src _ hA) fun W hb_W=> ?_
      refine bef2 hb_W hA hF kt kn ?_;clear hb_W hA hF kt kn c_kt c_kn;intro z_W hA hF kt c_kt kn c_kn
      refine ho hK ⟨vv c_kt v_kt,by omega,hA⟩ fun hHeld=> ?_
      clear hK K
      unfold Parts.val
      refine ta 9 hHeld ?_
      refine ta 10 hHeld ?_
      refine ta 11 hHeld ?_
      refine rd 13 rfl fun K hK=> ?_
      go_simp
      refine ga (K:=K) fun D2 hV_D2=> ?_
      refine nef2 hV_D2 hA hF kt kn ?_;clear hA hF kt kn c_kt c_kn;intro z_D2 hA hF kt c_kt kn c_kn
      clear hV_D2
      refine ho hK ⟨vv c_kt v_kt,by omega,hA⟩ fun hHeld=> ?_
      clear hK K
      refine rd 14 rfl fun K hK=> ?_
      go_simp
      refine ho hK hHeld fun hHeld=> ?_
      clear hK K
      refine wd ?_
      go_wp2_with fail
      go_meet
      exact ⟨_,rfl,rfl,hA,hF,kt,kn,o_kn,by omega,by omega⟩
  case rest=>
    obtain ⟨q,hq⟩: ∃q,vOf x.s x.src=q:=⟨_,rfl⟩
    rw [hq] at hcut
    have hr:=Hr.out
    have hst:x.start={x with s:=keepP x.s q,p:=q,begun:=true,row:=lLen (keepP x.s q) q.table}:=by unfold Pt.start;rw [hq]
    unfold Pt.begin at hr
    rw [hst] at hr
    dsimp only at hr
    obtain ⟨a,ha,hr⟩:=Option.bind_eq_some_iff.1 hr
    split at hr
    rotate_left
    · cases hr
    rename_i hal
    obtain ⟨r1,hr1,rfl⟩:=Option.map_eq_some_iff.1 hr
    have Ha:=Lib.hid ha;have Hr1:=Lib.hid hr1;have Hal:=Lib.hid hal
    clear hA hF kt c_kt Hr hr hst ha hr1 hal z_V hq
    obtain ⟨B,rfl,rfl,hA,hF,kt,kn,o_kn,hne,hge⟩:=hcut
    have c_kt:=f3 kt;have l_ktwc:=lt_of kt
    have c_kn:=f3 kn;have l_knwc:=lt_of kn
    go_wp2_with fail
    refine wp_gen fun V2 hV_V2=> ?_
    refine nnf2 hV_V2 hA hF kt kn ?_;clear hA hF kt kn c_kt c_kn;intro hn_V2 z_V2 hA hF kt c_kt kn c_kn
    obtain ⟨kg,c_kg,o_kg,l_kgV2⟩:=nN hn_V2 hV_V2 (wc.heap.size)
    clear hV_V2 hn_V2
    obtain ⟨g,hg⟩: ∃g,wc.heap.size=g:=⟨_,rfl⟩
    rw [hg] at kg o_kg⊢
    have HF:=Lib.hid hF;have HA:=Lib.hid hA;have KT:=Lib.hid kt;have KN:=Lib.hid kn;have KG:=Lib.hid kg
    clear hF hA kt kn kg c_kt c_kn c_kg
    obtain ⟨l,hl⟩: ∃l,[q.wave,q.marks,q.spots,q.table]=l:=⟨_,rfl⟩
    have hl4:l.length=4:=by rw [←hl];rfl
    have Hcell:Hid (∀j (h:j<l.length),(#[Value.int .i64 q.wave, .int .i64 q.marks, .int .i64 q.spots, .int .i64 q.table]:Array Value)[j]? =some (.int .i64 l[j])):=Lib.hid (by subst hl;exact part_cell q)
    have Hl:=Lib.hid hl
    clear hl
    go_loopw [31] (fun c wr=> ∃i:Nat,i≤4∧c= .int .i64 i∧ ∃O',Hid (AP wr ap (keepL x.s (l.take i)) O'∧Fr (oneX tb) O O' w wr∧wr.heap[tb]? =some (.cells #[ap, .int .i64 x.src, .int .i64 x.rate, .int .i64 x.id,strOf x.text, .int .i64 x.p.wave, .int .i64 x.p.marks, .int .i64 x.p.spots, .int .i64 x.p.table, .int .i64 x.pos, .int .i64 x.row, .bool x.begun, .bool x.over, .int .i64 x.root] 125 (0,0))∧wr.heap[B]? =some (.cells #[.int .i64 q.wave, .int .i64 q.marks, .int .i64 q.spots, .int .i64 q.table] 52 (0,0))∧wr.heap[g]? =some (.cells #[.int .i64 q.wave, .int .i64 q.marks, .int .i64 q.spots, .int .i64 q.table] 3 (0,0))∧ ¬O' tb∧ ¬O' B∧ ¬O' g)) (fun c _=>4 - (intOf c).toNat)
    case atStart=>exact ⟨0,Nat.zero_le _,rfl,O,Lib.hid ⟨HA.out,HF.out,KT.out,KN.out,KG.out,o_kt,o_kn,o_kg⟩⟩
    case round=>
      obtain ⟨i,hi,rfl,O',HH⟩:=hrel
      obtain ⟨hA',hF',kt,kn,kg,ot,on,og⟩:=HH.out
      by_cases hlt':i<4
      · have d1:decide (i<4)=true:=by simpa using hlt'
        have cb:=cells_of kg
        have ci:wr.cell? ⟨g,i,none⟩=some (.int .i64 (l[i]'(by omega))):=by rw [cb];exact Hcell.out i (by omega)
        have HD:Hid (keepL x.s (l.take (i+1))=(keepL x.s (l.take i)).keep (l[i]'(by omega))):=Lib.hid (keep_take x.s l i (by omega))
        have KN:=Lib.hid kn;have KG:=Lib.hid kg;have HF':=Lib.hid hF'
        clear cb kn kg hF' HH
        have c_kt:=f3 kt;have l_ktwr:=lt_of kt
        go_wp2_with fail
        refine (keep_calls _ _ hA').mono ?_
        rintro e w1 ⟨rfl,O1,hA1,hf1⟩
        clear c_kt
        go_wp2_with fail
        go_roundw
        case rel=>
          refine ⟨i+1,by omega,by go_num,O1,Lib.hid ⟨by rw [HD.out];exact hA1,HF'.out.trans hf1.widen,hf1.keep kt ot (fun h=>h),hf1.keep KN.out on (fun h=>h),hf1.keep KG.out og (fun h=>h),hf1.not_own (lt_of kt) ot,hf1.not_own (lt_of KN.out) on,hf1.not_own (lt_of KG.out) og⟩⟩
        case measure=>simp [intOf];omega
      · have d1:decide (i<4)=false:=by simpa using hlt'
        obtain rfl:i=4:=by omega
        have hkl:keepL x.s (l.take 4)=keepP x.s q:=by rw [←Hl.out];rfl
        rw [hkl] at hA'
        have hA:=hA';have hF:=hF';have o_kt:=ot;have o_kn:=on
        clear hA' hF' kg og ot on HH HF HA KT KN KG
        have c_kt:=f3 kt;have l_ktwr:=lt_of kt
        have c_kn:=f3 kn;have l_knwr:=lt_of kn
        go_wp2_with fail
        refine wp_gen fun V3 hV_V3=> ?_
        refine nef2 hV_V3 hA hF kt kn ?_;clear hA hF kt kn c_kt c_kn;intro z_V3 hA hF kt c_kt kn c_kn
        clear hV_V3
        refine dr (fun v=>(v.cell? ⟨tb,0,none⟩=V3.cell? ⟨tb,0,none⟩)∧Sm v V3 (B)∧(V3.heap.size≤v.heap.size)∧True) ⟨rfl,fun _=>rfl,Nat.le_refl _,trivial⟩ fun V3d hV_V3d hHeld=> ?_
        have v_kt:=c_kt.1;have v_kn:=c_kn.1
        refine nef2 hV_V3d hA hF kt kn ?_;clear hA hF kt kn c_kt c_kn;intro z_V3d hA hF kt c_kt kn c_kn
        clear hV_V3d
        refine ta 0 hHeld ?_
        refine ta 1 hHeld ?_
        refine ta 2 hHeld ?_
        refine ta 3 hHeld ?_
        refine ta 4 hHeld ?_
        refine ta 5 hHeld ?_
        refine ta 6 hHeld ?_
        refine rd 7 rfl fun K hK=> ?_
        go_simp
        try simp only [IntWalk.i64_left]
        refine rC (tLen_calls _ _ hA) fun W3 hb_W3=> ?_
        refine bef2 hb_W3 hA hF kt kn ?_;clear hb_W3 hA hF kt kn c_kt c_kn;intro z_W3 hA hF kt c_kt kn c_kn
        refine ho hK ⟨vo c_kt v_kt 0,vv c_kn v_kn,by omega,trivial⟩ fun hHeld=> ?_
        clear hK K
        refine ta 8 hHeld ?_
        refine ta 9 hHeld ?_
        refine rd 10 rfl fun K hK=> ?_
        go_simp
        refine ga (K:=K) fun D3 hV_D3=> ?_
        refine nef2 hV_D3 hA hF kt kn ?_;clear hA hF kt kn c_kt c_kn;intro z_D3 hA hF kt c_kt kn c_kn
        clear hV_D3
        refine ho hK ⟨vo c_kt v_kt 0,vv c_kn v_kn,by omega,trivial⟩ fun hHeld=> ?_
        clear hK K
        refine wd ?_
        go_wp2_with fail
        refine wg fun V4 hV_V4=> ?_
        refine nef2 hV_V4 hA hF kt kn ?_;clear hA hF kt kn c_kt c_kn;intro z_V4 hA hF kt c_kt kn c_kn
        clear hV_V4
        refine dr (fun v=>Sm v V4 (tb)∧Sm v V4 (B)∧(V4.heap.size≤v.heap.size)∧True) ⟨fun _=>rfl,fun _=>rfl,Nat.le_refl _,trivial⟩ fun V4d hV_V4d hHeld=> ?_
        have v_kt:=c_kt.1;have v_kn:=c_kn.1
        refine nef2 hV_V4d hA hF kt kn ?_;clear hA hF kt kn c_kt c_kn;intro z_V4d hA hF kt c_kt kn c_kn
        clear hV_V4d
        refine ta 0 hHeld ?_
        refine ta 1 hHeld ?_
        refine ta 2 hHeld ?_
        refine ta 3 hHeld ?_
        refine ta 4 hHeld ?_
        refine ta 5 hHeld ?_
        refine ta 6 hHeld ?_
        refine ta 7 hHeld ?_
        refine ta 8 hHeld ?_
        refine ta 9 hHeld ?_
        refine ta 10 hHeld ?_
        refine ta 11 hHeld ?_
        refine ta 12 hHeld ?_
        refine ta 13 hHeld ?_
        refine ta 14 hHeld ?_
        refine rd 15 rfl fun K hK=> ?_
        go_simp
        try simp only [IntWalk.i64_left]
        refine wC (tAdd_calls q.table x.id x.text.length a Ha.out Hal.out r1 Hr1.out _ hA) fun W5 O5 hA_W5 hf_W5=> ?_
        refine wif2 hf_W5 hF kt o_kt kn o_kn ?_;clear hA hF kt o_kt kn o_kn c_kt c_kn hf_W5;intro z_W5 hF kt c_kt o_kt kn c_kn o_kn;have hA:=hA_W5;clear hA_W5
        refine ho hK ⟨vv c_kt v_kt,vv c_kn v_kn,by omega,trivial⟩ fun hHeld=> ?_
        clear hK K
        refine ta 16 hHeld ?_
        refine ta 17 hHeld ?_
        refine ta 18 hHeld ?_
        refine rd 19 rfl fun K hK=> ?_
        go_simp
        refine ho hK hHeld fun hHeld=> ?_
        clear hK K
        refine rd 20 rfl fun K hK=> ?_
        go_simp
        refine ho hK hHeld fun hHeld=> ?_
        clear hK K
        refine wd ?_
        go_wp2_with fail
        refine cg fun V6 hV_V6=> ?_
        refine nef1 hV_V6 hA hF kt ?_;clear hA hF kt c_kt c_kn kn;intro z_V6 hA hF kt c_kt
        clear hV_V6
        refine tC (pSwap_calls {x with s:=keepP x.s q,p:=q,begun:=true,row:=lLen (keepP x.s q) q.table} 3 (by omega) r1 _ ⟨hA,kt,o_kt⟩) fun W6 O6 hT hf=> ?_
        refine ti0 hT.hA hT.blk hT.no hf hF ?_;clear hA hF kt c_kt o_kt hT hf;intro z_W6 hA hF kt c_kt o_kt
        go_wp2_with fail
        go_ret
        exact ⟨rfl,O6,⟨hA,kt,o_kt⟩,hF⟩
end
section
open Go.RowKit Go.Sort
attribute [local go_sem ↓] Go.wp_at_zero Go.wp_at_succ
attribute [local go_sem] lt_s2 lt_s3 lt_s4 str_len
variable {ap : Value} {O : Nat → Prop} {tb : Nat}
theorem pInsert_calls (x : Pt) (hp : 0 ≤ x.pos) (hp2 : x.pos ≤ x.text.length) (ht : x.text.length ≤ 50000) (hrate : 1 ≤ x.rate) (r : Int × Pt) (hr : x.insert = some r) (w : World) (hT : PB w tb ap x O) :
    Calls Tryz.prog 93 #[.pointer (some ⟨tb,0,none⟩)] w fun e w'=>e= .returned (.int .i64 r.1)∧DidP tb ap r.2 O w w':=by
  unfold Pt.insert at hr
  obtain ⟨b,h_b,h_r⟩:=Option.bind_eq_some_iff.1 hr
  have Hb:=Lib.hid h_b;clear h_b hr;have hr:=h_r;clear h_r
  obtain ⟨k,h_b,h_r⟩:=Option.bind_eq_some_iff.1 hr
  have Hk:=Lib.hid h_b;clear h_b hr;have hr:=h_r;clear h_r
  obtain ⟨r1,h_b,h_r⟩:=Option.bind_eq_some_iff.1 hr
  have Hr1:=Lib.hid h_b;clear h_b hr;have hr:=h_r;clear h_r
  obtain ⟨g1,e1,s1⟩:=r1
  have Hr:=Lib.hid hr;have Hp:=Lib.hid hp;have Hp2:=Lib.hid hp2;have Ht:=Lib.hid ht;have Hrate:=Lib.hid hrate
  clear hr ht hrate hp hp2
  go_enter Tryz.func93,Tryz.ntmps93
  have hA:=hT.hA
  have kt:=hT.blk
  have o_kt:=hT.no
  have c_kt:=f3 kt;have l_ktw:=lt_of kt
  go_upto_if 12 with fail
  refine wp_gen fun V hV_V=> ?_
  have hF:=Fr.refl ((oneX tb)) O w
  refine nef1 hV_V hA hF kt ?_;clear hA hF kt c_kt;intro z_V hA hF kt c_kt
  clear hV_V
  go_cut [3] from 8 (fun s3 wx=>s3= .int .i64 x.sym∧AP wx ap x.s O∧Fr (oneX tb) O O w wx∧wx.heap[tb]? =some (.cells #[ap, .int .i64 x.src, .int .i64 x.rate, .int .i64 x.id,strOf x.text, .int .i64 x.p.wave, .int .i64 x.p.marks, .int .i64 x.p.spots, .int .i64 x.p.table, .int .i64 x.pos, .int .i64 x.row, .bool x.begun, .bool x.over, .int .i64 x.root] 125 (0,0)))
  case first=>
    by_cases h0:0<x.pos
    · have d0:decide (0<x.pos)=true:=by simpa using h0
      obtain ⟨n,hn⟩: ∃n:Nat,x.pos=(n:Int)+1:=⟨(x.pos - 1).toNat,by omega⟩
      have hlt:n<x.text.length:=by have:=Hp2.out;omega
      obtain ⟨u,hu⟩: ∃u,x.text[n]? =some u:=⟨_,List.getElem?_eq_getElem hlt⟩
      have hsym:Hid (x.sym=(u.toNat:Int)+1):=Lib.hid (by
        unfold Pt.sym
        rw [if_pos h0,hn,show ((n:Int)+1 - 1).toNat=n by omega,List.getD_eq_getElem?_getD,hu];rfl)
      have e1:wrap64 (x.pos - 1)=(n:Int):=by rw [IntWalk.wrap64_in _ (by have:=Ht.out;omega)];omega
      have hix:=fun v=>str_index x.text n u hu v
      clear h0 hlt hn hu
      rw [d0]
      go_wp2_with fail
      refine wg fun V1 hV_V1=> ?_
      refine nef1 hV_V1 hA hF kt ?_;clear hA hF kt c_kt;intro z_V1 hA hF kt c_kt
      clear hV_V1
      refine dr (fun v=>Sm v V1 (tb)∧(V1.heap.size≤v.heap.size)∧AP v ap x.s O) ⟨fun _=>rfl,Nat.le_refl _,hA.drew⟩ fun V1d hV_V1d hHeld=> ?_
      have v_kt:=c_kt.1
      refine nef1 hV_V1d hA hF kt ?_;clear hA hF kt c_kt;intro z_V1d hA hF kt c_kt
      clear hV_V1d
      refine ta 0 hHeld ?_
      refine ta 1 hHeld ?_
      refine ta 2 hHeld ?_
      refine ta 3 hHeld ?_
      refine ta 4 hHeld ?_
      refine ta 5 hHeld ?_
      refine ta 6 hHeld ?_
      refine ta 7 hHeld ?_
      refine ta 8 hHeld ?_
      refine ta 9 hHeld ?_
      refine rd 10 rfl fun K hK=> ?_
      go_simp
      try simp only [IntWalk.i64_left]
      refine rC (symof_calls u _) fun W1 hb_W1=> ?_
      refine bef1 hb_W1 hA hF kt ?_;clear hb_W1 hA hF kt c_kt;intro z_W1 hA hF kt c_kt
      refine ho hK ⟨vv c_kt v_kt,by omega,hA⟩ fun hHeld=> ?_
      clear hK K
      refine rd 11 rfl fun K hK=> ?_
      go_simp
      refine ho hK hHeld fun hHeld=> ?_
      clear hK K
      refine wd ?_
      go_wp2_with fail
      go_meet
      exact ⟨by rw [hsym.out],hA,hF,kt⟩
    · have d0:decide (0<x.pos)=false:=by simpa using h0
      have hsym:Hid (x.sym=0):=Lib.hid (by unfold Pt.sym;rw [if_neg h0])
      clear h0
      rw [d0]
      go_wp2_with fail
      go_meet
      exact ⟨by rw [hsym.out],hA,hF,kt⟩
  case rest=>
    clear hA hF kt c_kt
    obtain ⟨rfl,hA,hF,kt⟩:=hcut
    have c_kt:=f3 kt;have l_ktwc:=lt_of kt
    go_wp2_with fail
    refine wg fun V2 hV_V2=> ?_
    refine nef1 hV_V2 hA hF kt ?_;clear hA hF kt c_kt;intro z_V2 hA hF kt c_kt
    clear hV_V2
    refine dr (fun v=>Sm v V2 (tb)∧(V2.heap.size≤v.heap.size)∧AP v ap x.s O) ⟨fun _=>rfl,Nat.le_refl _,hA.drew⟩ fun V2d hV_V2d hHeld=> ?_
    have v_kt:=c_kt.1
    refine nef1 hV_V2d hA hF kt ?_;clear hA hF kt c_kt;intro z_V2d hA hF kt c_kt
    clear hV_V2d
    refine ta 0 hHeld ?_
    refine ta 1 hHeld ?_
    refine ta 2 hHeld ?_
    refine ta 3 hHeld ?_
    refine ta 4 hHeld ?_
    refine ta 5 hHeld ?_
    refine ta 6 hHeld ?_
    refine ta 7 hHeld ?_
    refine ta 8 hHeld ?_
    refine ta 9 hHeld ?_
    refine ta 12 hHeld ?_
    refine ta 13 hHeld ?_
    refine ta 14 hHeld ?_
    refine ta 15 hHeld ?_
    refine ta 16 hHeld ?_
    refine ta 17 hHeld ?_
    refine ta 18 hHeld ?_
    refine ta 19 hHeld ?_
    refine ta 20 hHeld ?_
    refine ta 21 hHeld ?_
    refine ta 22 hHeld ?_
    refine ta 23 hHeld ?_
    refine ta 24 hHeld ?_
    refine ta 25 hHeld ?_
    refine rd 10 rfl fun K hK=> ?_
    go_simp
    try simp only [IntWalk.i64_left]
    refine rC (wBefore_calls _ _ b Hb.out _ hA) fun W2 hb_W2=> ?_
    refine bef1 hb_W2 hA hF kt ?_;clear hb_W2 hA hF kt c_kt;intro z_W2 hA hF kt c_kt
    refine ho hK ⟨vv c_kt v_kt,by omega,hA⟩ fun hHeld=> ?_
    clear hK K
    refine ta 11 hHeld ?_
    refine rd 26 rfl fun K hK=> ?_
    go_simp
    try simp only [IntWalk.i64_left]
    refine rC (wRank_calls _ _ _ k Hk.out _ hA) fun W3 hb_W3=> ?_
    refine bef1 hb_W3 hA hF kt ?_;clear hb_W3 hA hF kt c_kt;intro z_W3 hA hF kt c_kt
    refine ho hK ⟨vv c_kt v_kt,by omega,hA⟩ fun hHeld=> ?_
    clear hK K
    refine ta 27 hHeld ?_
    refine rd 28 rfl fun K hK=> ?_
    go_simp
    refine ho hK hHeld fun hHeld=> ?_
    clear hK K
    refine wd ?_
    go_wp2_with fail
    refine wg fun V3 hV_V3=> ?_
    refine nef1 hV_V3 hA hF kt ?_;clear hA hF kt c_kt;intro z_V3 hA hF kt c_kt
    clear hV_V3
    refine dr (fun v=>Sm v V3 (tb)∧(V3.heap.size≤v.heap.size)∧True) ⟨fun _=>rfl,Nat.le_refl _,trivial⟩ fun V3d hV_V3d hHeld=> ?_
    have v_kt:=c_kt.1
    refine nef1 hV_V3d hA hF kt ?_;clear hA hF kt c_kt;intro z_V3d hA hF kt c_kt
    clear hV_V3d
    refine ta 0 hHeld ?_
    refine ta 1 hHeld ?_
    refine ta 2 hHeld ?_
    refine ta 3 hHeld ?_
    refine ta 4 hHeld ?_
    refine ta 5 hHeld ?_
    refine ta 6 hHeld ?_
    refine ta 7 hHeld ?_
    refine ta 8 hHeld ?_
    refine ta 9 hHeld ?_
    refine ta 10 hHeld ?_
    refine ta 11 hHeld ?_
    refine ta 12 hHeld ?_
    refine ta 13 hHeld ?_
    refine rd 14 rfl fun K hK=> ?_
    go_simp
    try simp only [IntWalk.i64_left]
    refine wC (wInsert_calls x.s _ _ _ _ (g1,e1,s1) Hr1.out _ hA) fun W4 O1 hA_W4 hf_W4=> ?_
    refine wif1 hf_W4 hF kt o_kt ?_;clear hA hF kt o_kt c_kt hf_W4;intro z_W4 hF kt c_kt o_kt;have hA:=hA_W4;clear hA_W4
    refine ho hK ⟨vv c_kt v_kt,by omega,trivial⟩ fun hHeld=> ?_
    clear hK K
    refine ta 15 hHeld ?_
    refine ta 16 hHeld ?_
    refine ta 17 hHeld ?_
    refine rd 18 rfl fun K hK=> ?_
    go_simp
    refine ho hK hHeld fun hHeld=> ?_
    clear hK K
    refine rd 19 rfl fun K hK=> ?_
    go_simp
    refine ho hK hHeld fun hHeld=> ?_
    clear hK K
    refine wd ?_
    by_cases he1:e1=0
    · subst he1
      obtain ⟨s2,hs2⟩: ∃s2,s1.drop x.p.wave=s2:=⟨_,rfl⟩
      obtain ⟨p2,hp2⟩: ∃p2:Parts,(⟨g1,x.p.marks,x.p.spots,x.p.table⟩:Parts)=p2:=⟨_,rfl⟩
      have E1:x.swap 0 (g1,0,s1)=(0,{x with s:=s2,p:=p2}):=by rw [←hs2,←hp2];rfl
      have hr:=Hr.out
      rw [E1] at hr
      dsimp only at hr
      rw [if_pos rfl] at hr
      have HR2:=Lib.hid hr
      have hsw:=fun v hT=>pSwap_calls (ap:=ap) (O:=O1) (tb:=tb) x 0 (by omega) (g1,0,s1) v hT
      rw [E1] at hsw
      dsimp only at hsw
      clear E1 hr hs2 hp2 Hr Hr1
      go_wp2_with fail
      refine cg fun V5 hV_V5=> ?_
      refine nef1 hV_V5 hA hF kt ?_;clear hA hF kt c_kt;intro z_V5 hA hF kt c_kt
      clear hV_V5
      refine tC (hsw _ ⟨hA,kt,o_kt⟩) fun W5 O2 hT hf=> ?_
      refine ti0 hT.hA hT.blk hT.no hf hF ?_;clear hA hF kt c_kt o_kt hT hf;intro z_W5 hA hF kt c_kt o_kt
      clear hsw
      go_wp2_with fail
      refine wg fun V6 hV_V6=> ?_
      refine nef1 hV_V6 hA hF kt ?_;clear hA hF kt c_kt;intro z_V6 hA hF kt c_kt
      clear hV_V6
      have hr0: ¬x.rate=0:=by have:=Hrate.out;omega
      refine dr (fun v=>Sm v V6 (tb)∧(V6.heap.size≤v.heap.size)∧AP v ap s2 O2) ⟨fun _=>rfl,Nat.le_refl _,hA.drew⟩ fun V6d hV_V6d hHeld=> ?_
      have v_kt:=c_kt.1
      refine nef1 hV_V6d hA hF kt ?_;clear hA hF kt c_kt;intro z_V6d hA hF kt c_kt
      clear hV_V6d
      refine ta 0 hHeld ?_
      refine ta 1 hHeld ?_
      refine ta 2 hHeld ?_
      refine ta 3 hHeld ?_
      refine ta 4 hHeld ?_
      refine ta 5 hHeld ?_
      refine ta 6 hHeld ?_
      refine ta 7 hHeld ?_
      refine ta 8 hHeld ?_
      refine ta 9 hHeld ?_
      refine rd 10 rfl fun K hK=> ?_
      go_simp
      refine ho hK hHeld fun hHeld=> ?_
      clear hK K
      refine wd ?_
      have hmk:(x.pos.tmod x.rate==0)=decide (x.pos % x.rate=0):=by
        rw [Int.tmod_eq_emod_of_nonneg Hp.out]
        by_cases e:x.pos % x.rate=0
        · rw [decide_eq_true e];simpa using e
        · rw [decide_eq_false e];simpa using e
      have HMK:=Lib.hid hmk
      clear hr0 hmk
      go_upto_if 91 with fail
      rw [HMK.out]
      clear HMK
      obtain ⟨nx,hnx⟩: ∃nx,wrap64 (wrap64 (b+1)+k)=nx:=⟨_,rfl⟩
      rw [hnx] at HR2⊢
      obtain ⟨mk,hmk⟩: ∃mk,decide (x.pos % x.rate=0)=mk:=⟨_,rfl⟩
      rw [hmk]
      clear hnx
      go_cut [5,6] from 8 (fun s5 s6 wx=> ∃s3 p3 O3,Hid (({x with s:=s3,p:=p3}:Pt).mark nx mk=some r)∧AP wx ap s3 O3∧Fr (oneX tb) O O3 w wx∧wx.heap[tb]? =some (.cells #[ap, .int .i64 x.src, .int .i64 x.rate, .int .i64 x.id,strOf x.text, .int .i64 p3.wave, .int .i64 p3.marks, .int .i64 p3.spots, .int .i64 p3.table, .int .i64 x.pos, .int .i64 x.row, .bool x.begun, .bool x.over, .int .i64 x.root] 125 (0,0))∧ ¬O3 tb)
      case first=>
        cases mk with
        | false=>
          have hr:=HR2.out
          rw [if_neg (by simpa using hmk)] at hr
          have HR3:=Lib.hid hr
          clear hr
          go_wp2_with fail
          go_meet
          exact ⟨s2,p2,O2,HR3,hA,hF,kt,o_kt⟩
        | true=>
          have hr:=HR2.out
          rw [if_pos (by simpa using hmk)] at hr
          clear hmk HR2
          obtain ⟨j,h_b,h_r⟩:=Option.bind_eq_some_iff.1 hr
          have Hj:=Lib.hid h_b;clear h_b hr;have hr:=h_r;clear h_r
          obtain ⟨r2,h_b,h_r⟩:=Option.bind_eq_some_iff.1 hr
          have Hr2:=Lib.hid h_b;clear h_b hr;have hr:=h_r;clear h_r
          obtain ⟨g2,e2,s3⟩:=r2
          have HR3:=Lib.hid hr
          clear hr
          go_wp2_with fail
          refine wg fun V8 hV_V8=> ?_
          refine nef1 hV_V8 hA hF kt ?_;clear hA hF kt c_kt;intro z_V8 hA hF kt c_kt
          clear hV_V8
          refine dr (fun v=>Sm v V8 (tb)∧(V8.heap.size≤v.heap.size)∧True) ⟨fun _=>rfl,Nat.le_refl _,trivial⟩ fun V8d hV_V8d hHeld=> ?_
          have v_kt:=c_kt.1
          refine nef1 hV_V8d hA hF kt ?_;clear hA hF kt c_kt;intro z_V8d hA hF kt c_kt
          clear hV_V8d
          refine ta 0 hHeld ?_
          refine ta 1 hHeld ?_
          refine ta 2 hHeld ?_
          refine ta 3 hHeld ?_
          refine ta 4 hHeld ?_
          refine ta 5 hHeld ?_
          refine ta 6 hHeld ?_
          refine ta 7 hHeld ?_
          refine ta 8 hHeld ?_
          refine ta 9 hHeld ?_
          refine ta 10 hHeld ?_
          refine ta 11 hHeld ?_
          refine ta 12 hHeld ?_
          refine ta 13 hHeld ?_
          refine ta 14 hHeld ?_
          refine ta 15 hHeld ?_
          refine ta 16 hHeld ?_
          refine ta 17 hHeld ?_
          refine ta 18 hHeld ?_
          refine ta 19 hHeld ?_
          refine ta 20 hHeld ?_
          refine ta 21 hHeld ?_
          refine ta 23 hHeld ?_
          refine ta 24 hHeld ?_
          refine ta 25 hHeld ?_
          refine ta 26 hHeld ?_
          refine ta 27 hHeld ?_
          refine ta 28 hHeld ?_
          refine ta 29 hHeld ?_
          refine ta 30 hHeld ?_
          refine ta 31 hHeld ?_
          refine rd 22 rfl fun K hK=> ?_
          go_simp
          try simp only [IntWalk.i64_left]
          refine rC (bRank_calls _ _ j Hj.out _ hA) fun W8 hb_W8=> ?_
          refine bef1 hb_W8 hA hF kt ?_;clear hb_W8 hA hF kt c_kt;intro z_W8 hA hF kt c_kt
          refine ho hK ⟨vv c_kt v_kt,by omega,trivial⟩ fun hHeld=> ?_
          clear hK K
          refine rd 32 rfl fun K hK=> ?_
          go_simp
          try simp only [IntWalk.i64_left]
          refine wC (lInsert_calls _ _ (x.id,x.pos) (g2,e2,s3) Hr2.out _ hA) fun W9 O3 hA_W9 hf_W9=> ?_
          refine wif1 hf_W9 hF kt o_kt ?_;clear hA hF kt o_kt c_kt hf_W9;intro z_W9 hF kt c_kt o_kt;have hA:=hA_W9;clear hA_W9
          refine ho hK ⟨vv c_kt v_kt,by omega,trivial⟩ fun hHeld=> ?_
          clear hK K
          refine ta 33 hHeld ?_
          refine ta 34 hHeld ?_
          refine ta 35 hHeld ?_
          refine rd 36 rfl fun K hK=> ?_
          go_simp
          refine ho hK hHeld fun hHeld=> ?_
          clear hK K
          refine rd 37 rfl fun K hK=> ?_
          go_simp
          refine ho hK hHeld fun hHeld=> ?_
          clear hK K
          refine wd ?_
          by_cases he2:e2=0
          · subst he2
            obtain ⟨s4,hs4⟩: ∃s4,s3.drop p2.spots=s4:=⟨_,rfl⟩
            obtain ⟨p4,hp4⟩: ∃p4:Parts,(⟨p2.wave,p2.marks,g2,p2.table⟩:Parts)=p4:=⟨_,rfl⟩
            have E2:({x with s:=s2,p:=p2}:Pt).swap 2 (g2,0,s3)=(0,{x with s:=s4,p:=p4}):=by rw [←hs4,←hp4];rfl
            have hr:=HR3.out
            rw [E2] at hr
            dsimp only at hr
            rw [if_pos rfl] at hr
            have HR4:=Lib.hid hr
            have hsw:=fun v hT=>pSwap_calls (ap:=ap) (O:=O3) (tb:=tb) {x with s:=s2,p:=p2} 2 (by omega) (g2,0,s3) v hT
            rw [E2] at hsw
            dsimp only at hsw
            clear E2 hr hs4 hp4 HR3
            go_wp2_with fail
            refine cg fun V10 hV_V10=> ?_
            refine nef1 hV_V10 hA hF kt ?_;clear hA hF kt c_kt;intro z_V10 hA hF kt c_kt
            clear hV_V10
            refine tC (hsw _ ⟨hA,kt,o_kt⟩) fun W10 O4 hT hf=> ?_
            refine ti0 hT.hA hT.blk hT.no hf hF ?_;clear hA hF kt c_kt o_kt hT hf;intro z_W10 hA hF kt c_kt o_kt
            clear hsw
            go_wp2_with fail
            go_meet
            exact ⟨s4,p4,O4,HR4,hA,hF,kt,o_kt⟩
          · have E2:({x with s:=s2,p:=p2}:Pt).swap 2 (g2,e2,s3)=(e2,{x with s:=s3,p:=p2}):=by unfold Pt.swap;rw [if_neg he2]
            have hr:=HR3.out
            rw [E2] at hr
            dsimp only at hr
            rw [if_neg he2] at hr
            have d2:(e2 !=0)=true:=by simpa using he2
            have HR4:=Lib.hid (Option.some.inj hr)
            have hsw:=fun v hT=>pSwap_calls (ap:=ap) (O:=O3) (tb:=tb) {x with s:=s2,p:=p2} 2 (by omega) (g2,e2,s3) v hT
            rw [E2] at hsw
            dsimp only at hsw
            clear E2 hr HR3 he2
            go_wp2_with fail
            refine cg fun V10 hV_V10=> ?_
            refine nef1 hV_V10 hA hF kt ?_;clear hA hF kt c_kt;intro z_V10 hA hF kt c_kt
            clear hV_V10
            refine tC (hsw _ ⟨hA,kt,o_kt⟩) fun W10 O4 hT hf=> ?_
            refine ti0 hT.hA hT.blk hT.no hf hF ?_;clear hA hF kt c_kt o_kt hT hf;intro z_W10 hA hF kt c_kt o_kt
            clear hsw
            go_wp2_with fail
            go_ret
            rw [←HR4.out]
            exact ⟨rfl,O4,⟨hA,kt,o_kt⟩,hF⟩
      case rest=>
        clear hA hF kt c_kt HR2 hmk
        obtain ⟨s3,p3,O3,HM,hA,hF,kt,o_k3⟩:=hcut
        clear o_kt
        have o_kt:=o_k3
        clear o_k3
        have c_kt:=f3 kt;have l_ktwc:=lt_of kt
        have hm:=HM.out
        unfold Pt.mark at hm
        dsimp only at hm
        obtain ⟨r3,hr3,hm⟩:=Option.map_eq_some_iff.1 hm
        obtain ⟨g3,e3,s5⟩:=r3
        dsimp only at hm
        have Hr3:=Lib.hid hr3
        have hsw:=fun Oz v hT=>pSwap_calls (ap:=ap) (O:=Oz) (tb:=tb) {x with s:=s5,p:=p3,row:=nx,pos:=wrap64 (x.pos - 1)} 1 (by omega) (g3,e3,s5) v hT
        rw [hm] at hsw
        dsimp only at hsw
        clear hr3 hm HM
        go_wp2_with fail
        refine wg fun V11 hV_V11=> ?_
        refine nef1 hV_V11 hA hF kt ?_;clear hA hF kt c_kt;intro z_V11 hA hF kt c_kt
        clear hV_V11
        refine dr (fun v=>Sm v V11 (tb)∧(V11.heap.size≤v.heap.size)∧True) ⟨fun _=>rfl,Nat.le_refl _,trivial⟩ fun V11d hV_V11d hHeld=> ?_
        have v_kt:=c_kt.1
        refine nef1 hV_V11d hA hF kt ?_;clear hA hF kt c_kt;intro z_V11d hA hF kt c_kt
        clear hV_V11d
        refine ta 0 hHeld ?_
        refine ta 1 hHeld ?_
        refine ta 2 hHeld ?_
        refine ta 3 hHeld ?_
        refine ta 4 hHeld ?_
        refine ta 5 hHeld ?_
        refine ta 6 hHeld ?_
        refine ta 7 hHeld ?_
        refine ta 8 hHeld ?_
        refine ta 9 hHeld ?_
        refine ta 10 hHeld ?_
        refine ta 11 hHeld ?_
        refine ta 12 hHeld ?_
        refine ta 13 hHeld ?_
        refine rd 14 rfl fun K hK=> ?_
        go_simp
        try simp only [IntWalk.i64_left]
        refine wC (bInsert_calls _ _ mk (g3,e3,s5) Hr3.out _ hA) fun W11 O5 hA_W11 hf_W11=> ?_
        refine wif1 hf_W11 hF kt o_kt ?_;clear hA hF kt o_kt c_kt hf_W11;intro z_W11 hF kt c_kt o_kt;have hA:=hA_W11;clear hA_W11
        refine ho hK ⟨vv c_kt v_kt,by omega,trivial⟩ fun hHeld=> ?_
        clear hK K
        refine ta 15 hHeld ?_
        refine ta 16 hHeld ?_
        refine ta 17 hHeld ?_
        refine rd 18 rfl fun K hK=> ?_
        go_simp
        refine ho hK hHeld fun hHeld=> ?_
        clear hK K
        refine rd 19 rfl fun K hK=> ?_
        go_simp
        refine ho hK hHeld fun hHeld=> ?_
        clear hK K
        refine wd ?_
        go_wp2_with fail
        refine cg fun V12 hV_V12=> ?_
        refine nef1 hV_V12 hA hF kt ?_;clear hA hF kt c_kt;intro z_V12 hA hF kt c_kt
        clear hV_V12
        refine tC (hsw _ _ ⟨hA,kt,o_kt⟩) fun W12 O6 hT hf=> ?_
        refine ti0 hT.hA hT.blk hT.no hf hF ?_;clear hA hF kt c_kt o_kt hT hf;intro z_W12 hA hF kt c_kt o_kt
        clear hsw
        go_wp2_with fail
        go_ret
        exact ⟨rfl,O6,⟨hA,kt,o_kt⟩,hF⟩
    · have E1:x.swap 0 (g1,e1,s1)=(e1,{x with s:=s1}):=by unfold Pt.swap;rw [if_neg he1]
      have hr:=Hr.out
      rw [E1] at hr
      dsimp only at hr
      rw [if_neg he1] at hr
      have d2:(e1 !=0)=true:=by simpa using he1
      have HR4:=Lib.hid (Option.some.inj hr)
      have hsw:=fun v hT=>pSwap_calls (ap:=ap) (O:=O1) (tb:=tb) x 0 (by omega) (g1,e1,s1) v hT
      rw [E1] at hsw
      dsimp only at hsw
      clear E1 hr Hr he1
      go_wp2_with fail
      refine cg fun V5 hV_V5=> ?_
      refine nef1 hV_V5 hA hF kt ?_;clear hA hF kt c_kt;intro z_V5 hA hF kt c_kt
      clear hV_V5
      refine tC (hsw _ ⟨hA,kt,o_kt⟩) fun W5 O2 hT hf=> ?_
      refine ti0 hT.hA hT.blk hT.no hf hF ?_;clear hA hF kt c_kt o_kt hT hf;intro z_W5 hA hF kt c_kt o_kt
      clear hsw
      go_wp2_with fail
      go_ret
      rw [←HR4.out]
      exact ⟨rfl,O2,⟨hA,kt,o_kt⟩,hF⟩
end
section
open Go.RowKit Go.Sort
attribute [local go_sem ↓] Go.wp_at_zero Go.wp_at_succ
attribute [local go_sem] lt_s2 lt_s3 lt_s4 str_len
variable {ap : Value} {O : Nat → Prop} {tb : Nat}
structure PtOk (x:Pt):Prop where
  lo: -1≤x.pos
  hi:x.pos≤x.text.length
  len:x.text.length≤50000
  rate:1≤x.rate
theorem pStep_calls (x : Pt) (hok : PtOk x) (r : Bool × Int × Pt) (hr : x.step = some r) (w : World) (hT : PB w tb ap x O) :
    Calls Tryz.prog 41 #[.pointer (some ⟨tb,0,none⟩)] w fun e w'=>e= .returned (.tuple #[.bool r.1, .int .i64 r.2.1])∧DidP tb ap r.2.2 O w w':=by
  have Hr:=Lib.hid hr;clear hr
  go_enter Tryz.func41,Tryz.ntmps41
  go_wp2_with fail
  refine wp_scope_ghost 0 (fun n a' wr=> ∃e x1 O1,(PB wr tb ap x1 O1∧Fr (oneX tb) O O1 w wr∧Hid (Pt.asked (e,x1)=r))∧ ∃u1 u2 u3 u5 u6 u7 u8 u9 u10 u11 u12 u13 u14 u15 u16 u17 u18 u19 u20 u21 u22 u23 u24 u25 u26 u27 u28 u29 u30 u31 u32 u33 u34 u35 u36 u37 u38 u39 u40 u41 u42 u43 u44 u45 u46 u47 u48 u49 u50 u51 u52 u53 u54 u55 u56:Value,a'={tmps:= #[(.pointer (some ⟨tb,0,none⟩):Value),u1,u2,u3,(.int .i64 e:Value),u5,u6,u7,u8,u9,u10,u11,u12,u13,u14,u15,u16,u17,u18,u19,u20,u21,u22,u23,u24,u25,u26,u27,u28,u29,u30,u31,u32,u33,u34,u35,u36,u37,u38,u39,u40,u41,u42,u43,u44,u45,u46,u47,u48,u49,u50,u51,u52,u53,u54,u55,u56],defers:=[]}) (by rfl) ?first ?pass
  case first=>
    intro hrest
    clear hrest
    have hr:=Hr.out
    unfold Pt.step at hr
    have kt:=hT.blk
    cases hov:x.over with
    | true=>
      rw [hov,if_pos rfl] at hr
      cases hr
      rw [hov] at kt
      have c_kt:=f3 kt;have l_ktw:=lt_of kt
      go_wp2_with fail
      simp only [Exit.jump]
      go_ret2
      exact ⟨rfl,O,hT,Fr.refl _ _ _⟩
    | false=>
      rw [hov,if_neg (by decide)] at hr
      cases hb:x.begun with
      | false=>
        rw [hb,if_neg (by decide)] at hr
        obtain ⟨r1,hr1,rfl⟩:=Option.map_eq_some_iff.1 hr
        have Hr1:=Lib.hid hr1
        clear hr hr1 Hr
        rw [hov,hb] at kt
        have c_kt:=f3 kt;have l_ktw:=lt_of kt
        go_wp2_with fail
        refine (pBegin_calls x r1 Hr1.out _ hT).mono ?_
        rintro e1 W1 ⟨rfl,O1,hT1,hf1⟩
        clear kt c_kt
        go_wp2_with fail
        go_step3
        refine ⟨rfl,0,r1.1,r1.2,O1,⟨hT1,hf1,Lib.hid rfl⟩,?_⟩
        exact ⟨_,_,_,_,_,_,_,_,_,_,_,_,_,_,_,_,_,_,_,_,_,_,_,_,_,_,_,_,_,_,_,_,_,_,_,_,_,_,_,_,_,_,_,_,_,_,_,_,_,_,_,_,_,_,_,rfl⟩
      | true=>
        rw [hb,if_pos rfl] at hr
        rw [hov,hb] at kt
        by_cases hp:0≤x.pos
        · have d1:decide (0≤x.pos)=true:=by simpa using hp
          rw [if_pos hp] at hr
          obtain ⟨r1,hr1,rfl⟩:=Option.map_eq_some_iff.1 hr
          have Hr1:=Lib.hid hr1
          clear hr hr1 Hr
          have c_kt:=f3 kt;have l_ktw:=lt_of kt
          go_wp2_with fail
          refine (pInsert_calls x hp hok.hi hok.len hok.rate r1 Hr1.out _ hT).mono ?_
          rintro e1 W1 ⟨rfl,O1,hT1,hf1⟩
          clear kt c_kt
          go_wp2_with fail
          go_step3
          refine ⟨rfl,0,r1.1,r1.2,O1,⟨hT1,hf1,Lib.hid rfl⟩,?_⟩
          exact ⟨_,_,_,_,_,_,_,_,_,_,_,_,_,_,_,_,_,_,_,_,_,_,_,_,_,_,_,_,_,_,_,_,_,_,_,_,_,_,_,_,_,_,_,_,_,_,_,_,_,_,_,_,_,_,_,rfl⟩
        · have d1:decide (0≤x.pos)=false:=by simpa using hp
          rw [if_neg hp] at hr
          cases hr
          clear Hr
          have hA:=hT.hA
          have o_kt:=hT.no
          have c_kt:=f3 kt;have l_ktw:=lt_of kt
          go_wp2_with fail
          refine wg fun V hV_V=> ?_
          have hF:=Fr.refl ((oneX tb)) O w
          refine nef1 hV_V hA hF kt ?_;clear hA hF kt c_kt;intro z_V hA hF kt c_kt
          clear hV_V
          refine dr (fun v=>(v.cell? ⟨tb,0,none⟩=V.cell? ⟨tb,0,none⟩)∧(v.cell? ⟨tb,5,none⟩=V.cell? ⟨tb,5,none⟩)∧(v.cell? ⟨tb,6,none⟩=V.cell? ⟨tb,6,none⟩)∧(v.cell? ⟨tb,7,none⟩=V.cell? ⟨tb,7,none⟩)∧(v.cell? ⟨tb,8,none⟩=V.cell? ⟨tb,8,none⟩)∧(V.heap.size≤v.heap.size)∧True) ⟨rfl,rfl,rfl,rfl,rfl,Nat.le_refl _,trivial⟩ fun Vd hV_Vd hHeld=> ?_
          have v_kt:=c_kt.1
          refine nef1 hV_Vd hA hF kt ?_;clear hA hF kt c_kt;intro z_Vd hA hF kt c_kt
          clear hV_Vd
          refine ta 0 hHeld ?_
          refine ta 1 hHeld ?_
          refine ta 2 hHeld ?_
          refine ta 3 hHeld ?_
          refine ta 4 hHeld ?_
          refine ta 5 hHeld ?_
          refine ta 6 hHeld ?_
          refine ta 7 hHeld ?_
          refine ta 8 hHeld ?_
          refine rd 9 rfl fun K hK=> ?_
          go_simp
          try simp only [IntWalk.i64_left]
          refine wC (vMake_calls x.p _ hA) fun W O1 hA_W hf_W=> ?_
          refine wif1 hf_W hF kt o_kt ?_;clear hA hF kt o_kt c_kt hf_W;intro z_W hF kt c_kt o_kt;have hA:=hA_W;clear hA_W
          refine ho hK ⟨vo c_kt v_kt 0,vo c_kt v_kt 5,vo c_kt v_kt 6,vo c_kt v_kt 7,vo c_kt v_kt 8,by omega,trivial⟩ fun hHeld=> ?_
          clear hK K
          refine ta 10 hHeld ?_
          refine ta 11 hHeld ?_
          refine ta 12 hHeld ?_
          refine ta 13 hHeld ?_
          refine ta 14 hHeld ?_
          refine rd 15 rfl fun K hK=> ?_
          go_simp
          refine ga (K:=K) fun D hV_D=> ?_
          refine nef1 hV_D hA hF kt ?_;clear hA hF kt c_kt;intro z_D hA hF kt c_kt
          clear hV_D
          refine ho hK ⟨vo c_kt v_kt 0,vo c_kt v_kt 5,vo c_kt v_kt 6,vo c_kt v_kt 7,vo c_kt v_kt 8,by omega,trivial⟩ fun hHeld=> ?_
          clear hK K
          refine rd 16 rfl fun K hK=> ?_
          go_simp
          refine ho hK hHeld fun hHeld=> ?_
          clear hK K
          refine wd ?_
          go_wp2_with fail
          refine cg fun V2 hV_V2=> ?_
          refine nef1 hV_V2 hA hF kt ?_;clear hA hF kt c_kt;intro z_V2 hA hF kt c_kt
          clear hV_V2
          refine tC (pStop_calls {x with s:=(vMake x.s x.p).2.2,begun:=true,over:=false,root:=(vMake x.s x.p).1} _ ⟨hA,kt,o_kt⟩) fun W2 O2 hT hf=> ?_
          refine ti0 hT.hA hT.blk hT.no hf hF ?_;clear hA hF kt c_kt o_kt hT hf;intro z_W2 hA hF kt c_kt o_kt
          go_wp2_with fail
          simp only [Exit.jump]
          go_ret2
          exact ⟨rfl,O2,⟨hA,kt,o_kt⟩,hF⟩
  case pass=>
    rintro n a' wr ⟨e,x1,O1,⟨hT1,hF1,hq⟩,u1,u2,u3,u5,u6,u7,u8,u9,u10,u11,u12,u13,u14,u15,u16,u17,u18,u19,u20,u21,u22,u23,u24,u25,u26,u27,u28,u29,u30,u31,u32,u33,u34,u35,u36,u37,u38,u39,u40,u41,u42,u43,u44,u45,u46,u47,u48,u49,u50,u51,u52,u53,u54,u55,u56,rfl⟩ J hJ
    clear hJ
    have hqo:=hq.out
    unfold Pt.asked at hqo
    by_cases he:e=0
    · subst he
      rw [if_pos rfl] at hqo
      subst hqo
      have kt:=hT1.blk
      have c_kt:=f3 kt;have l_ktwr:=lt_of kt
      go_wp2_with fail
      simp only [Exit.jump]
      go_ret2
      exact ⟨rfl,O1,hT1,hF1⟩
    · rw [if_neg he] at hqo
      subst hqo
      have d1:(e !=0)=true:=by simpa using he
      clear he hq
      go_wp2_with fail
      refine (pStop_calls x1 _ hT1).mono ?_
      rintro e2 W2 ⟨rfl,O2,hT2,hf2⟩
      have kt:=hT2.blk
      have HF:=Lib.hid (hF1.trans hf2)
      clear hF1 hf2
      have c_kt:=f3 kt;have l_ktW2:=lt_of kt
      go_wp2_with fail
      simp only [Exit.jump]
      go_ret2
      exact ⟨rfl,O2,hT2,HF.out⟩
end
section
open Go.RowKit
structure Sp (w0 W:World) (ap:Value) (b:Nat) (x:Pt) (L:List (Nat×Obj)):Prop where
  ex: ∃O,PB W b ap x O∧(∀c,O c→w0.heap.size≤c)∧ ∀y∈L,W.heap[y.1]? =some y.2∧ ¬O y.1∧y.1≠b
  bel:Below w0.heap.size w0 W
  own:w0.heap.size≤b
section
variable {w0 W W' : World} {ap : Value} {b : Nat} {x x' : Pt} {L : List (Nat × Obj)}
theorem Sp.below (h:Sp w0 W ap b x L) (hb:Below W.heap.size W W'):Sp w0 W' ap b x L:=by
  obtain ⟨O,hA,hO,hL⟩:=h.ex
  exact ⟨⟨O,⟨hA.hA.below hb,keep_blk hb hA.blk,hA.no⟩,hO,fun y hy=>⟨keep_blk hb (hL y hy).1,(hL y hy).2⟩⟩,below_step h.bel hb,h.own⟩
theorem Sp.box (h:Sp w0 W ap b x L) (o:Obj) (hv:W'=W.alloc o):Sp w0 W' ap b x ((W.heap.size,o)::L):=by
  subst hv
  have hb:=below_box W o
  have h2:=h.below hb
  obtain ⟨O,hA,hO,hL⟩:=h.ex
  refine ⟨⟨O,⟨hA.hA.below hb,keep_blk hb hA.blk,hA.no⟩,hO,fun y hy=> ?_⟩,below_step h.bel hb,h.own⟩
  rcases List.mem_cons.1 hy with rfl|hy
  · exact ⟨blk_new _ _ _ rfl,hA.hA.new (Nat.le_refl _),by have:=lt_of hA.blk;dsimp only;omega⟩
  · exact ⟨keep_blk hb (hL y hy).1,(hL y hy).2⟩
theorem Sp.at0 {c:Nat} {o:Obj} (h:Sp w0 W ap b x ((c,o)::L)):W.heap[c]? =some o:=by
  obtain ⟨O, -, -,hL⟩:=h.ex
  exact (hL _ (List.mem_cons_self ..)).1
theorem Sp.st (h:Sp w0 W ap b x L):St w0 W ap x.s L:=by
  obtain ⟨O,hA,hO,hL⟩:=h.ex
  exact ⟨⟨O,hA.hA,hO,fun y hy=>⟨(hL y hy).1,(hL y hy).2.1⟩⟩,h.bel⟩
variable {f : FuncId} {args : Array Value} {r : Ending} {P : Program}
theorem Sp.read (h:Sp w0 W ap b x L) (hc: ∀O,PB W b ap x O→Calls P f args W fun e w'=>e=r∧Below W.heap.size W w'):Calls P f args W fun e w'=>e=r∧Sp w0 w' ap b x L:=by
  obtain ⟨O,hA, -⟩:=h.ex
  exact (hc O hA).mono fun e w' ⟨he,hb⟩=>⟨he,h.below hb⟩
theorem Sp.same (h:Sp w0 W ap b x L) (hc: ∀O,PB W b ap x O→Calls P f args W fun e w'=>e=r∧W=w'):Calls P f args W fun e w'=>e=r∧Sp w0 w' ap b x L:=by
  obtain ⟨O,hA, -⟩:=h.ex
  exact (hc O hA).mono fun e w' ⟨he,hb⟩=>⟨he,hb▸h⟩
theorem Sp.act (h:Sp w0 W ap b x L) (hc: ∀O,PB W b ap x O→Calls P f args W fun e w'=>e=r∧DidP b ap x' O W w'):Calls P f args W fun e w'=>e=r∧Sp w0 w' ap b x' L:=by
  obtain ⟨O,hA,hO,hL⟩:=h.ex
  refine (hc O hA).mono fun e w' ⟨he,O',h1,hF⟩=>⟨he,⟨O',h1,fun c hc=> ?_,fun y hy=>⟨hF.keep (hL y hy).1 (hL y hy).2.1 (fun q=>(hL y hy).2.2 q),fun hy'=> ?_,(hL y hy).2.2⟩⟩,Fr.below_own hF h.bel hO (fun c hc=>by unfold oneX at hc;rw [hc];exact h.own),h.own⟩
  · rcases hF.own c hc with q|q
    · exact hO c q
    · have:=h.bel.size;omega
  · rcases hF.own _ hy' with q|q
    · exact (hL y hy).2.1 q
    · have:=lt_of (hL y hy).1;omega
theorem Sp.write {s':Ar} (h:Sp w0 W ap b x L) (hc: ∀O,AP W ap x.s O→Calls P f args W fun e w'=>e=r∧Did noX ap s' O W w'):Calls P f args W fun e w'=>e=r∧Sp w0 w' ap b {x with s:=s'} L:=by
  obtain ⟨O,hA,hO,hL⟩:=h.ex
  refine (hc O hA.hA).mono fun e w' ⟨he,O',h1,hF⟩=>⟨he,⟨O',⟨h1,hF.keep hA.blk hA.no (fun q=>q),hF.not_own (lt_of hA.blk) hA.no⟩,fun c hc=> ?_,fun y hy=>⟨hF.keep (hL y hy).1 (hL y hy).2.1 (fun q=>q),fun hy'=> ?_,(hL y hy).2.2⟩⟩,fr_below h.bel hF hO,h.own⟩
  · rcases hF.own c hc with q|q
    · exact hO c q
    · have:=h.bel.size;omega
  · rcases hF.own _ hy' with q|q
    · exact (hL y hy).2.1 q
    · have:=lt_of (hL y hy).1;omega
end
theorem St.put {w0 W : World} {p : Addr} {s : Ar} {L : List (Nat × Obj)} (h : St w0 W (.pointer (some p)) s L) (root rate id : Int) (t : List UInt8) (l : List (Int × Int)) (hl : lAll s (vOf s root).table = some l) (hll : l.length ≤ 50000)
    (hvi:vIs s root=true) (h1:1≤rate) (h2:rate≤16) (h3:1≤id) (hpl:(placeIn id l 0).2=false) (h4:t.length≤40) (h10:vDocs s root<10):
    Calls Tryz.prog 40 #[.pointer (some p), .int .i64 root, .int .i64 rate, .int .i64 id,strOf t] W fun e w'=> ∃b,e= .returned (.tuple #[.pointer (some ⟨b,0,none⟩), .int .i64 0])∧Sp w0 w' (.pointer (some p)) b (Pt.new s root rate id t) L:=by
  obtain ⟨O,hA,hO,hL⟩:=h.ex
  refine (pNew_yes p root rate id t l hl hll hvi h1 h2 h3 hpl h4 h10 W hA).mono ?_
  rintro e w' ⟨b,O',he,hb,hp,hF⟩
  have hsz:=h.bel.size
  refine ⟨b,he,⟨O',hp,fun c hc=> ?_,fun y hy=>⟨hF.keep (hL y hy).1 (hL y hy).2 (fun q=>q),fun hy'=> ?_,fun e=> ?_⟩⟩,fr_below h.bel hF hO,Nat.le_trans hsz hb⟩
  · rcases hF.own c hc with q|q
    · exact hO c q
    · omega
  · rcases hF.own _ hy' with q|q
    · exact (hL y hy).2 q
    · have:=lt_of (hL y hy).1;omega
  · have:=lt_of (hL y hy).1;omega
end
section
open Go.RowKit
attribute [local go_sem ↓] Go.wp_at_zero Go.wp_at_succ
attribute [local go_sem] str_len
theorem rds_blk {w:World} {g size:Nat} {cs:Array Value} {e:TypeId} (hk:w.heap[g]? =some (.cells cs e (0,0))) (hs:cs.size=size):Rds w (some ⟨g,0,none⟩) 1 size cs.toList:=by
  refine ⟨by simp [hs],fun _=>⟨_,rfl,lt_of hk,fun j x hx=> ?_⟩⟩
  rw [add_zero_off,cells_of hk j]
  simpa using hx
theorem St.putS {w0 W : World} {p : Addr} {s : Ar} {L : List (Nat × Obj)} (h : St w0 W (.pointer (some p)) s L) (root rate id : Int) (t : List UInt8) (l : List (Int × Int)) (hl : lAll s (vOf s root).table = some l) (hll : l.length ≤ 50000)
    (hvi:vIs s root=true) (h1:1≤rate) (h2:rate≤16) (h3:1≤id) (hpl:(placeIn id l 0).2=false) (h4:t.length≤40) (h10:vDocs s root<10):
    Calls Tryz.prog 40 #[.pointer (some p), .int .i64 root, .int .i64 rate, .int .i64 id,strOf t] W fun e w'=> ∃b,e= .returned (.tuple #[.pointer (some ⟨b,0,none⟩), .int .i64 0])∧Sp w0 w' (.pointer (some p)) b (Pt.new s root rate id t) L∧W.heap.size≤w'.heap.size:=by
  obtain ⟨O,hA,hO,hL⟩:=h.ex
  refine (pNew_yes p root rate id t l hl hll hvi h1 h2 h3 hpl h4 h10 W hA).mono ?_
  rintro e w' ⟨b,O',he,hb,hp,hF⟩
  have hsz:=h.bel.size
  refine ⟨b,he,⟨⟨O',hp,fun c hc=> ?_,fun y hy=>⟨hF.keep (hL y hy).1 (hL y hy).2 (fun q=>q),fun hy'=> ?_,fun e=> ?_⟩⟩,fr_below h.bel hF hO,Nat.le_trans hsz hb⟩,hF.size⟩
  · rcases hF.own c hc with q|q
    · exact hO c q
    · omega
  · rcases hF.own _ hy' with q|q
    · exact (hL y hy).2 q
    · have:=lt_of (hL y hy).1;omega
  · have:=lt_of (hL y hy).1;omega
section
variable {w0 W : World} {ap : Value} {b : Nat} {x : Pt} {y : Ct} {L : List (Nat × Obj)}
theorem Sp.rootE (h:Sp w0 W ap b x L) (v:World) (hv:HeldB W v):Calls Tryz.prog 42 #[.pointer (some ⟨b,0,none⟩)] v fun e w'=>e= .returned (.int .i64 x.root)∧Below v.heap.size v w':=by
  obtain ⟨O,hT, -⟩:=(h.below hv.1).ex
  exact (pRoot_calls _ hT).mono fun e w' ⟨h1,h2⟩=>⟨h1,h2▸Below.refl _ _⟩
theorem cRoot_rawE {c:Nat} {A:Option Addr} {cap:Nat} (kt:W.heap[c]? =some (ctObj ap y A cap)) (v:World) (hv:HeldB W v):Calls Tryz.prog 48 #[.pointer (some ⟨c,0,none⟩)] v fun e w'=>e= .returned (.int .i64 y.root)∧Below v.heap.size v w':=
  (cRoot_raw y c v (keep_blk hv.1 kt)).mono fun e w' ⟨h1,h2⟩=>⟨h1,h2▸Below.refl _ _⟩
end
theorem cutBack_walk (A : Option Addr) (cap : Nat) (ds : Docs) (i rate : Int) (hl : ds.length ≤ maxLen) (hid : IdOk ds) (w : World) (h : Rd2 w (.slice A ds.length cap) ds) :
    Calls Tryz.prog 14 #[.slice A ds.length cap, .int .i64 i, .int .i64 rate] w fun e w'=>e= .returned (.bool true)∧Below w.heap.size w w':=by
  have HK:=Lib.hid h;clear h
  cases hf:few ds with
  | false=>
    have Hf:=Lib.hid hf;clear hf
    go_enter Tryz.func14,Tryz.ntmps14
    go_wp2_with fail
    refine (few_calls _ ds hl _ HK.out).mono ?_
    rintro e0 W0 ⟨rfl,hb1⟩
    rw [Hf.out]
    have HB0:=Lib.hid hb1;clear hb1
    go_wp2_with fail
    refine (alive14_calls _).mono ?_
    rintro e1 W1 ⟨rfl,hb1⟩
    have HB1:=Lib.hid (below_step HB0.out hb1);clear hb1
    go_wp2_with fail
    go_ret
    exact ⟨rfl,HB1.out⟩
  | true=>
    have Hf:=Lib.hid hf
    have e10:decide (10<(ds.length:Int))=false:=by have:=(few_right hf hid).2.2;simp only [decide_eq_false_iff_not];omega
    have hcase : (((ds.length : Int) == 0) = true ∨ (((ds.length : Int) == 0) = false ∧ (decide (rate < 1) = true ∨ (decide (rate < 1) = false ∧ decide (16 < rate) = true)))) ∨
        (((ds.length:Int)==0)=false∧decide (rate<1)=false∧decide (16<rate)=false):=by
      simp only [decide_eq_true_eq,decide_eq_false_iff_not,beq_iff_eq,beq_eq_false_iff_ne,ne_eq];omega
    rcases hcase with hno|⟨d0,d1,d2⟩
    · clear hf
      rcases hno with d0|⟨d0,d1|⟨d1,d2⟩⟩<;>
      (go_enter Tryz.func14,Tryz.ntmps14
       go_wp2_with fail
       refine (few_calls _ ds hl _ HK.out).mono ?_
       rintro e0 W0 ⟨rfl,hb1⟩
       rw [Hf.out]
       have HB0:=Lib.hid hb1;clear hb1
       go_wp2_with fail
       refine (alive14_calls _).mono ?_
       rintro e2 W2 ⟨rfl,hb2⟩
       have HB2:=Lib.hid (below_step HB0.out hb2)
       clear hb2
       go_wp2_with fail
       go_ret
       exact ⟨rfl,HB2.out⟩)
    have hb8:1≤ds.length∧1≤rate∧rate≤16:=by
      simp only [decide_eq_false_iff_not,beq_eq_false_iff_ne,ne_eq] at d0 d1 d2;omega
    obtain ⟨n0,n1,n2⟩:=hb8
    obtain ⟨j,d,PK⟩:=pick_of hf hid n0 i HK.out
    obtain ⟨ad,rfl⟩:=PK.out.ad
    have H2:=Lib.hid n1;have H3:=Lib.hid n2
    clear hf n0 n1 n2
    go_enter Tryz.func14,Tryz.ntmps14
    go_wp2_with fail
    refine (few_calls _ ds hl _ HK.out).mono ?_
    rintro e0 W0 ⟨rfl,hb1⟩
    rw [Hf.out]
    have HB0:=Lib.hid hb1;clear hb1
    go_wp2_with fail
    refine (alive14_calls _).mono ?_
    rintro e2 W2 ⟨rfl,hb2⟩
    have HB2:=Lib.hid (below_step HB0.out hb2)
    clear hb2 d0 d1 d2 e10
    go_wp2_with fail
    refine (new_calls 6000 (by omega) (by omega) _).mono ?_
    rintro e3 W3 ⟨p,O,rfl,hA,hO,hb3⟩
    have HS3:Hid (St w W3 (.pointer (some ⟨p,0,none⟩)) (Ar.new 6000) []):=Lib.hid (St.new (below_step HB2.out hb3) hA fun b hb=>Nat.le_trans HB2.out.size (hO b hb))
    clear hA hO hb3
    go_wp2_with fail
    refine (bldS_calls 6000 (by omega) (by omega) HS3.out rate H2.out (by have:=H3.out;omega) ds PK.out.right PK.out.tot (some ad) cap HK.out).mono ?_
    rintro e4 W4 ⟨root,s,rfl,hS,hI,hwt,hsz,hv,hroot⟩
    obtain ⟨c1,c2⟩:=PK.out.cells (HK.out.below hS.bel)
    obtain ⟨r,r1,r2,r3,r4,r5,r6⟩:=newC_in hI hv PK.out.right PK.out.sel
    have hbz:=hv.busy hI hwt
    have hrw:=PK.out.rows;have hl10:=PK.out.len
    have hlg:=newC0_T hI hv hsz (by omega) PK.out.sel (by omega) hl10
    obtain ⟨x0,hx0⟩: ∃x0,Ct.new s root d.1 (d.2.length:Int) (j:Int)=x0:=⟨_,rfl⟩
    rw [hx0] at hlg
    have HLG:=Lib.hid hlg
    have HS4:=Lib.hid hS
    have R1:=Lib.hid r1;have R2:=Lib.hid r2;have R3:=Lib.hid r3;have R4:=Lib.hid r4;have R5:=Lib.hid r5
    have HX0:Hid (Ct.new s root d.1 r.1.2 (j:Int)=x0):=Lib.hid (by rw [r6];exact hx0)
    obtain ⟨t1,t2,t3,t4,t5⟩:=PK.out.num
    go_wp2_with fail
    rw [show Value.string ⟨d.2.toArray⟩=strOf d.2 from rfl]
    refine calls_gen fun V5 hV5=> ?_
    have HS5:=Lib.hid (HS4.out.box _ hV5)
    clear hV5 c1 c2 t1 t2 t3 t4 t5
    obtain ⟨gd,hgd⟩: ∃gd,W4.heap.size=gd:=⟨_,rfl⟩
    rw [hgd] at HS5⊢
    clear hgd
    have hcon:=HS5.out.cut root rate d.1 (j:Int) (docsM ds) r R1.out R2.out R3.out H2.out H3.out R4.out R5.out
    rw [HX0.out] at hcon
    have HCON:=Lib.hid hcon
    clear hcon HS4 HS5 R1 R2 R3 R4 R5 HX0
    refine HCON.out.mono ?_
    rintro e6 W6 ⟨b,rfl,h6⟩
    have H6:=Lib.hid h6
    clear h6 HCON
    go_wp2_with fail
    go_loopg [12,13] (2*d.2.length+3) (fun m c12 c13 wr=> ∃x,c13= .bool (decide (m=0))∧Hid (Sc w wr (.pointer (some ⟨p,0,none⟩)) b x [(gd, .cells #[.int .i64 d.1,strOf d.2] 31 (0,0))]∧LoopC root [root] ds j d rate m x))
    case atStart=>exact ⟨x0,by simp,Lib.hid ⟨H6.out,HLG.out⟩⟩
    case round=>
      obtain ⟨x,rfl,HX⟩:=hrel
      clear H6 HLG
      cases gk with
      | succ m2=>
        have d0:decide (m2+1=0)=false:=by simp
        rw [d0]
        obtain ⟨y,u,y4,y5,y6, -, -, -⟩:=HX.out.2.next PK.out.right PK.out.sel (by have:=PK.out.rows;omega) PK.out.len
        have HY4:=Lib.hid y4;have HY5:=Lib.hid y5;have HY6:=Lib.hid y6
        have HOK:Hid (CtOk x):=Lib.hid (HX.out.2.st.ok PK.out.right PK.out.sel)
        clear y4 y5 y6 d0
        go_wp2_with fail
        refine (HX.out.1.act fun O A cap hT hR=>cStep_calls x HOK.out _ HY4.out _ hT hR).mono ?_
        rintro e11 W11 ⟨rfl,h11⟩
        have H11:=Lib.hid h11
        clear h11
        go_wp2_with fail
        refine (H11.out.write fun O hA=>work_calls _ _ HY5.out _ hA).mono ?_
        rintro e12 W12 ⟨rfl,h12⟩
        have H12:=Lib.hid h12
        clear h12 H11
        go_wp2_with fail
        go_roundg m2
        case measure=>omega
        case rel=>exact ⟨_,rfl,Lib.hid ⟨H12.out,HY6.out⟩⟩
      | zero=>
        have d0:decide ((0:Nat)=0)=true:=rfl
        rw [d0]
        obtain ⟨hlb,hv2,hI2⟩:=HX.out.2.back PK.out.right PK.out.sel H2.out H3.out PK.out.rows PK.out.len
        obtain ⟨hRd,hl10⟩:=back_right PK.out.right PK.out.sel PK.out.len PK.out.d40
        have hrw:=back_rows PK.out.right PK.out.sel PK.out.len PK.out.d40 PK.out.tot
        have hnot:=era_not PK.out.right PK.out.sel
        obtain ⟨l1,l2,l3,l4⟩:=PK.out.less
        obtain ⟨A9,cap9,hst⟩:=HX.out.1.st
        have hid1:=PK.out.right.id d (List.mem_of_getElem? PK.out.sel)
        have HLB:=Lib.hid hlb;have HRd:=Lib.hid hRd;have HL1:=Lib.hid l1;have HL3:=Lib.hid l3;have HRW:=Lib.hid hrw;have H10':=Lib.hid hl10
        have HPUT:=Lib.hid (fun (V:World) (hS:St w V (.pointer (some ⟨p,0,none⟩)) x.s _)=>hS.putS x.root rate d.1 d.2 (docsM (ds.eraseIdx j)) (hv2.all hI2 (by omega)) (by simp [docsM];omega) (hv2.parts hI2 (by omega)).2.2.2.2 H2.out H3.out hid1.1
          (by rw [placeIn_none d.1 (docsM (ds.eraseIdx j)) 0 (fun y hy=>by unfold docsM at hy;obtain ⟨z,hz,rfl⟩:=List.mem_map.1 hy;exact hnot z hz)]) PK.out.d40 (by rw [hv2.docs hI2 (by omega)];omega) (L:=(b,ctObj (.pointer (some ⟨p,0,none⟩)) x A9 cap9)::[(gd, .cells #[.int .i64 d.1,strOf d.2] 31 (0,0))]))
        have HST:=Lib.hid hst
        have kb:wr.heap[b]? =some (.cells #[.pointer (some ⟨p,0,none⟩), .int .i64 x.src, .int .i64 x.id, .int .i64 x.length, .int .i64 x.place, .slice A9 x.rows.length cap9, .int .i64 x.p.wave, .int .i64 x.p.marks, .int .i64 x.p.spots, .int .i64 x.p.table, .bool x.owns, .bool x.over, .int .i64 x.root] 132 (0,0)):=hst.at0
        have kd:wr.heap[gd]? =some (.cells #[.int .i64 d.1, .string ⟨d.2.toArray⟩] 31 (0,0)):=hst.at (List.mem_cons_of_mem _ (List.mem_cons_self ..))
        have HL10:Hid (ds.length≤50000):=Lib.hid (by have:=PK.out.len;omega)
        clear hlb hv2 hI2 hRd hl10 hrw hnot l1 l2 l3 l4 hst hid1 d0
        go_upto_region 15 with fail
        have hB:=Below.refl wr.heap.size wr
        have c_kb:=f3 kb;have l_kbwr:=lt_of kb
        have c_kd:=f3 kd;have l_kdwr:=lt_of kd
        refine dr (fun v=>Sm v wr (b)∧Sm v wr (gd)∧(wr.heap.size≤v.heap.size)∧True) ⟨fun _=>rfl,fun _=>rfl,Nat.le_refl _,trivial⟩ fun wrd hV_wrd hHeld=> ?_
        have v_kb:=c_kb.1;have v_kd:=c_kd.1
        refine neb2 hV_wrd hB kb kd ?_;clear hB kb kd c_kb c_kd;intro z_wrd hB kb c_kb kd c_kd
        clear hV_wrd
        refine ta 0 hHeld ?_
        refine ta 1 hHeld ?_
        refine ta 3 hHeld ?_
        refine ta 4 hHeld ?_
        refine ta 5 hHeld ?_
        refine ta 6 hHeld ?_
        refine ta 7 hHeld ?_
        refine rd 2 rfl fun K hK=> ?_
        go_simp
        refine (cRoot_raw x b _ kb).mono ?_
        rintro e13 w13 ⟨rfl,rfl⟩
        refine ho hK (hHeld) fun hHeld=> ?_
        clear hK K
        refine rd 8 rfl fun K hK=> ?_
        go_simp
        refine (HPUT.out _ (HST.out.below hB)).mono ?_
        rintro e14 W14 ⟨bp,rfl,h14,hs14⟩
        have kb14:W14.heap[b]? =some (.cells #[.pointer (some ⟨p,0,none⟩), .int .i64 x.src, .int .i64 x.id, .int .i64 x.length, .int .i64 x.place, .slice A9 x.rows.length cap9, .int .i64 x.p.wave, .int .i64 x.p.marks, .int .i64 x.p.spots, .int .i64 x.p.table, .bool x.owns, .bool x.over, .int .i64 x.root] 132 (0,0)):=h14.at0
        have kd14:W14.heap[gd]? =some (.cells #[.int .i64 d.1, .string ⟨d.2.toArray⟩] 31 (0,0)):=by
          obtain ⟨O, -, -,hL⟩:=h14.ex
          exact (hL _ (List.mem_cons_of_mem _ (List.mem_cons_self ..))).1
        have hz14:wr.heap.size≤W14.heap.size:=by omega
        have H14:=Lib.hid h14
        clear h14 kb kd c_kb c_kd
        refine ho hK (⟨vv (f3 kb14) v_kb,vv (f3 kd14) v_kd,hz14,trivial⟩) fun hHeld=> ?_
        clear hK K
        clear kb14 kd14 HPUT HST hs14
        refine ta 9 hHeld ?_
        refine ta 10 hHeld ?_
        refine ta 11 hHeld ?_
        refine rd 12 rfl fun K hK=> ?_
        go_simp
        refine ho hK hHeld fun hHeld=> ?_
        clear hK K
        refine rd 13 rfl fun K hK=> ?_
        go_simp
        refine ho hK hHeld fun hHeld=> ?_
        clear hK K
        refine wd ?_
        go_wp2_with fail
        go_loopg [12,15] (d.2.length+3) (fun m c12 c15 wr=> ∃y,c15= .bool (decide (m=0))∧Hid (Sp w wr (.pointer (some ⟨p,0,none⟩)) bp y ((b,ctObj (.pointer (some ⟨p,0,none⟩)) x A9 cap9)::[(gd, .cells #[.int .i64 d.1,strOf d.2] 31 (0,0))])∧LoopB x.root root ds (ds.eraseIdx j) d rate m y))
        case atStart=>exact ⟨_,by simp,Lib.hid ⟨H14.out,HLB.out⟩⟩
        case round=>
          obtain ⟨y,rfl,HY⟩:=hrel
          clear H14 HLB
          cases gk with
          | succ m2=>
            have d0:decide (m2+1=0)=false:=by simp
            rw [d0]
            obtain ⟨hin,y1,u,y4,y5,y6⟩:=HY.out.2.next HRd.out HRW.out H10'.out H2.out
            have HY4:=Lib.hid y4;have HY5:=Lib.hid y5;have HY6:=Lib.hid y6
            have HOK:Hid (PtOk y):=Lib.hid ⟨hin.1,hin.2.1,hin.2.2.1,hin.2.2.2⟩
            clear y4 y5 y6 d0 hin
            go_wp2_with fail
            refine (HY.out.1.act fun O hT=>pStep_calls y HOK.out _ HY4.out _ hT).mono ?_
            rintro e11 W11 ⟨rfl,h11⟩
            have H11:=Lib.hid h11
            clear h11
            go_wp2_with fail
            refine (H11.out.write fun O hA=>work_calls _ _ HY5.out _ hA).mono ?_
            rintro e12 W12 ⟨rfl,h12⟩
            have H12:=Lib.hid h12
            clear h12 H11
            go_wp2_with fail
            go_roundg m2
            case measure=>omega
            case rel=>exact ⟨_,rfl,Lib.hid ⟨H12.out,HY6.out⟩⟩
          | zero=>
            have d0:decide ((0:Nat)=0)=true:=rfl
            rw [d0]
            obtain ⟨z1,z2,z3⟩:=HY.out.2.done PK.out.right HRd.out H2.out H3.out
            rw [←HL1.out] at z2
            have hRd2:=HRd.out
            rw [←HL1.out] at hRd2
            have HZ1:=Lib.hid z1;have HZ2:=Lib.hid z2;have HZ3:=Lib.hid z3;have HR2:=Lib.hid hRd2.txt50
            have HLN:Hid ((lessD ds d.1).length≤10):=Lib.hid (by have:=lessD_len ds d.1;have:=PK.out.len;omega)
            have H9:=Lib.hid HY.out.1
            have kb:wr.heap[b]? =some (ctObj (.pointer (some ⟨p,0,none⟩)) x A9 cap9):=H9.out.at0
            have kd:wr.heap[gd]? =some (.cells #[.int .i64 d.1, .string ⟨d.2.toArray⟩] 31 (0,0)):=by
              obtain ⟨O, -, -,hL⟩:=H9.out.ex
              exact (hL _ (List.mem_cons_of_mem _ (List.mem_cons_self ..))).1
            have HKB:=Lib.hid kb
            obtain ⟨c_kd,f_kd,l_kd⟩:=f3 kd
            clear z1 z2 z3 hRd2 d0 kb kd HY
            go_upto_region 24 with fail
            refine edr 30 (fun v=>HeldB wr v) (HeldB.start wr) fun X hX hHeld=> ?_
            clear hX
            refine eta 0 (HeldB.ext wr) hHeld fun X hX hHeld=> ?_
            clear hX
            refine eta 1 (HeldB.ext wr) hHeld fun X hX hHeld=> ?_
            clear hX
            refine eca 2 (f:= ?_) (args:= ?_) (v:= ?_) (HeldB.ext wr) hHeld ?_ (fun v hSv=> ?_) fun X hX hHeld=> ?_
            rotate_left 3
            focus (intro v hSv;go_simp;constructor<;>with_reducible rfl)
            focus (exact H9.out.rootE v hSv)
            clear hX
            refine eta 3 (HeldB.ext wr) hHeld fun X hX hHeld=> ?_
            clear hX
            refine eta 4 (HeldB.ext wr) hHeld fun X hX hHeld=> ?_
            clear hX
            refine eta 5 (HeldB.ext wr) hHeld fun X hX hHeld=> ?_
            clear hX
            refine eta 6 (HeldB.ext wr) hHeld fun X hX hHeld=> ?_
            clear hX
            refine eta 8 (HeldB.ext wr) hHeld fun X hX hHeld=> ?_
            clear hX
            clear c_kd f_kd
            refine erd (rs:=[7,9]) (by kernel_rfl) (by simp) (eall rfl (fun K hK=> ?_) (eall rfl (fun K hK=> ?_) (fun _ h=>by cases h)))
            go_simp
            refine (without_own _ ds d.1 HL10.out _ (HK.out.below ((H9.out.below hHeld.1).bel))).mono ?_
            rintro e21 X21 ⟨A1,c1,rfl,hown21,hb21⟩
            have hHeld21:=HeldB.call hHeld hb21
            replace hown21:=hown21.mono hHeld.2.1
            refine eho hK hHeld21 fun Y21 hY21=> ?_
            replace hHeld:=HeldB.ext _ _ _ hHeld21 hY21
            replace hown21:=own_below hown21 hY21
            clear hHeld21 hb21 hY21 hK K
            refine erd (rs:=[9]) (by kernel_rfl) (by simp) (eall rfl (fun K hK=> ?_) (fun _ h=>by cases h))
            go_simp
            have hHeld22:=HeldB.alloc hHeld (.cells #[.int .i64 d.1, .string ⟨d.2.toArray⟩] 31)
            refine eho hK hHeld22 fun Y22 hY22=> ?_
            have kn:=keep_blk hY22 (blk_new _ _ _ rfl)
            replace hHeld:=HeldB.ext _ _ _ hHeld22 hY22
            have HOWN:=Lib.hid (own_below (hown21.alloc _) hY22)
            have HKN:=Lib.hid kn
            clear hHeld22 hY22 hK K hown21 kn
            rotate_left
            go_simp
            have hHeld22:=HeldB.alloc hHeld (.cells #[.int .i64 d.1, .string ⟨d.2.toArray⟩] 31)
            refine eho hK hHeld22 fun Y22 hY22=> ?_
            have kn:=keep_blk hY22 (blk_new _ _ _ rfl)
            replace hHeld:=HeldB.ext _ _ _ hHeld22 hY22
            have HKN0:=Lib.hid kn
            clear hHeld22 hY22 hK K kn
            refine erd (rs:=[7]) (by kernel_rfl) (by simp) (eall rfl (fun K hK=> ?_) (fun _ h=>by cases h))
            go_simp
            refine (without_own _ ds d.1 HL10.out _ (HK.out.below ((H9.out.below hHeld.1).bel))).mono ?_
            rintro e21 X21 ⟨A1,c1,rfl,hown21,hb21⟩
            have hHeld21:=HeldB.call hHeld hb21
            replace hown21:=hown21.mono hHeld.2.1
            refine eho hK hHeld21 fun Y21 hY21=> ?_
            replace hHeld:=HeldB.ext _ _ _ hHeld21 hY21
            replace hown21:=own_below hown21 hY21
            have HKN:=Lib.hid (keep_blk hY21 (keep_blk hb21 HKN0.out))
            have HOWN:=Lib.hid hown21
            clear hHeld21 hb21 hY21 hK K hown21 HKN0
            iterate 2
              (refine erd (rs:=[10]) (by kernel_rfl) (by simp) (eall rfl (fun K hK=> ?_) (fun _ h=>by cases h))
               refine step_moreN (by rfl) _ _ 22 (by rfl) (base:=wr.heap.size) (e:=31) (.agg #[.int .i64 0, .string ⟨#[]⟩]) 2 24 (by omega) Tryz.underlying22 (by kernel_rfl) (by rfl) (v:= .slice A1 (lessD ds d.1).length c1) (by rfl) HOWN.out (by rfl) (rds_blk HKN.out rfl) (docCells_one [d]) (nm:=(lessD ds d.1).length+1) (by omega) (by have:=HLN.out;omega) (by omega) (hHeld.2.1) ?_
               intro A5 c5 X5 hown5 hlow5 hkeep5
               have hHeld5:=HeldB.low hHeld hlow5
               refine eho hK hHeld5 fun Y5 hY5=> ?_
               replace hHeld:=HeldB.ext _ _ _ hHeld5 hY5
               have HRD:Hid (Rd2 Y5 (.slice A5 ((lessD ds d.1).length+1) c5) (lessD ds d.1++[d])):=Lib.hid (rd2_own (ds:=lessD ds d.1++[d]) (by rw [docCells_append,List.length_append];exact own_below hown5 hY5))
               clear hHeld5 hY5 hK K hown5 hlow5 hkeep5 HOWN HKN
               refine erd (rs:=[11]) (by kernel_rfl) (by simp) (eall rfl (fun K hK=> ?_) (fun _ h=>by cases h))
               go_simp
               obtain ⟨O9,hT9, -⟩:=(H9.out.below hHeld.1).ex
               refine (check_calls y.root rate (lessD ds d.1++[d]) _ true HZ2.out (by rw [List.length_append];have:=HLN.out;simp;omega) HR2.out _ hT9.hA HRD.out).mono ?_
               rintro e15 X15 ⟨rfl,hb15⟩
               have hHeld15:=HeldB.call hHeld hb15
               refine eho hK hHeld15 fun Y15 hY15=> ?_
               replace hHeld:=HeldB.ext _ _ _ hHeld15 hY15
               clear hHeld15 hb15 hY15 hK K hT9 HRD
               skip
               refine eta 12 (HeldB.ext wr) hHeld fun X hX hHeld=> ?_
               clear hX
               refine eta 13 (HeldB.ext wr) hHeld fun X hX hHeld=> ?_
               clear hX
               refine eta 14 (HeldB.ext wr) hHeld fun X hX hHeld=> ?_
               clear hX
               refine eta 15 (HeldB.ext wr) hHeld fun X hX hHeld=> ?_
               clear hX
               refine eta 16 (HeldB.ext wr) hHeld fun X hX hHeld=> ?_
               clear hX
               refine erd (rs:=[17]) (by kernel_rfl) (by simp) (eall rfl (fun K hK=> ?_) (fun _ h=>by cases h))
               go_simp
               obtain ⟨O9,hT9, -⟩:=(H9.out.below hHeld.1).ex
               refine (check_calls root rate ds _ true HZ3.out HL10.out PK.out.right.txt50 _ hT9.hA (HK.out.below ((H9.out.below hHeld.1).bel))).mono ?_
               rintro e17 X17 ⟨rfl,hb17⟩
               have hHeld17:=HeldB.call hHeld hb17
               refine eho hK hHeld17 fun Y17 hY17=> ?_
               replace hHeld:=HeldB.ext _ _ _ hHeld17 hY17
               clear hHeld17 hb17 hY17 hK K hT9
               skip
               refine eta 18 (HeldB.ext wr) hHeld fun X hX hHeld=> ?_
               clear hX
               refine eta 19 (HeldB.ext wr) hHeld fun X hX hHeld=> ?_
               clear hX
               refine eta 20 (HeldB.ext wr) hHeld fun X hX hHeld=> ?_
               clear hX
               refine eta 21 (HeldB.ext wr) hHeld fun X hX hHeld=> ?_
               clear hX
               refine eta 22 (HeldB.ext wr) hHeld fun X hX hHeld=> ?_
               clear hX
               refine eca 23 (f:= ?_) (args:= ?_) (v:= ?_) (HeldB.ext wr) hHeld ?_ (fun v hSv=> ?_) fun X hX hHeld=> ?_
               rotate_left 3
               focus (intro v hSv;go_simp;constructor<;>with_reducible rfl)
               focus (exact cRoot_rawE HKB.out v hSv)
               clear hX
               refine eta 24 (HeldB.ext wr) hHeld fun X hX hHeld=> ?_
               clear hX
               refine eca 25 (f:= ?_) (args:= ?_) (v:= ?_) (HeldB.ext wr) hHeld ?_ (fun v hSv=> ?_) fun X hX hHeld=> ?_
               rotate_left 3
               focus (intro v hSv;go_simp;constructor<;>with_reducible rfl)
               focus (exact H9.out.rootE v hSv)
               clear hX
               refine erd (rs:=[26]) (by kernel_rfl) (by simp) (eall rfl (fun K hK=> ?_) (fun _ h=>by cases h))
               go_simp
               have hHeld16:=HeldB.alloc hHeld (.cells #[.int .i64 root, .int .i64 x.root, .int .i64 y.root] 3)
               refine eho hK hHeld16 fun Y16 hY16=> ?_
               have kr:=keep_blk hY16 (blk_new _ _ _ rfl)
               replace hHeld:=HeldB.ext _ _ _ hHeld16 hY16
               clear hHeld16 hY16 hK K
               refine erd (rs:=[27]) (by kernel_rfl) (by simp) (eall rfl (fun K hK=> ?_) (fun _ h=>by cases h))
               go_simp
               obtain ⟨O9,hT9, -⟩:=(H9.out.below hHeld.1).ex
               refine (counted_calls HZ1.out [root,x.root,y.root] (fun _ _=>rfl) (by simp) _ _ hT9.hA (Rx.cells kr rfl)).mono ?_
               rintro e18 X18 ⟨rfl,hb18⟩
               have hHeld18:=HeldB.call hHeld hb18
               refine eho hK hHeld18 fun Y18 hY18=> ?_
               replace hHeld:=HeldB.ext _ _ _ hHeld18 hY18
               clear hHeld18 hb18 hY18 hK K hT9 kr
               skip
               refine eta 28 (HeldB.ext wr) hHeld fun X hX hHeld=> ?_
               clear hX
               refine eta 29 (HeldB.ext wr) hHeld fun X hX hHeld=> ?_
               clear hX
               refine ewd ?_
               have HBE:=Lib.hid (below_step H9.out.bel hHeld.1)
               go_wp2_with fail
               go_ret
               exact ⟨rfl,HBE.out⟩)
end
end Go.Proofs.YtlboaaldggpjeaaGreat

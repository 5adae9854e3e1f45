/- Part 4 of what PutEmpty needs: the walks of the program's functions, and plain facts. -/
import Derived.Test.YtdjpjmkpndmhaaaGreatPutEmptyM3
import Derived.Test.YtdjpjmkpndmhaaaGreatProg
set_option linter.unusedSimpArgs false
set_option linter.unusedVariables false
set_option linter.unnecessarySimpa false
namespace Go.Proofs.YtdjpjmkpndmhaaaGreat
open Go.RowKit
attribute [local go_sem ↓] Go.wp_at_zero Go.wp_at_succ
attribute [local go_sem] lt_s2 lt_s3 lt_s4
attribute [local go_sem] idx0 idx1 idx2 idx3
variable {ap : Value}
set_option maxRecDepth 100000 in
set_option maxHeartbeats 4000000 in
theorem wIns_step (d : Nat) (hd : d + 1 ≤ 9) (s : Ar) (O : Nat → Prop) (h i c l : Int) (hl : l = 9 - ((d + 1 : Nat) : Int)) (r : Int × Int × Ar) (w : World) (one : Bool) (ho : symBit c l = one) (j : Int) (hj : wAlike s (s.get h).k0 i one = some j)
    (u:Int×Int×Ar) (he:u.2.1=0) (v:Int×Int×Ar) (hv:bInsert (u.2.2.keep ((s.get h).kid !one)) (s.get h).k0 i one=some v) (hr:r=wMade v.2.2 ⟨3,v.1,if one then (s.get h).k1 else u.1,if one then u.1 else (s.get h).k2,0,0,0⟩ v.2.1)
    (ih:Hid (∀(l':Int) (w:World),l'=wrap64 (l+1)→AP w ap s O→Calls Tryz.prog 108 #[ap, .int .i64 ((s.get h).kid one), .int .i64 j, .int .i64 c, .int .i64 l'] w fun e w'=>e= .returned (.tuple #[.int .i64 u.1, .int .i64 u.2.1])∧Did noX ap u.2.2 O w w'))
    (hA:AP w ap s O):
    Calls Tryz.prog 108 #[ap, .int .i64 h, .int .i64 i, .int .i64 c, .int .i64 l] w fun e w'=>e= .returned (.tuple #[.int .i64 r.1, .int .i64 r.2.1])∧Did noX ap r.2.2 O w w':=by
  have d1:decide (8<l)=false:=by simp;omega
  have d2:(u.2.1 !=0)=false:=by simp [he]
  have Ho:=Lib.hid ho;have Hj:=Lib.hid hj;have Hv:=Lib.hid hv;have Hr:=Lib.hid hr
  have hl0:0≤l:=by omega
  have hl1:l≤8:=by omega
  have hz:U64 0:=⟨by decide,by decide⟩
  clear ho hj hv hr he hl hd
  go_enter Tryz.func108,Tryz.ntmps108
  go_wp2_with fail
  refine calls_gen fun V hV_V=> ?_
  have hF:Fr (noX) O O w V:=nF hV_V
  replace hA:AP V ap s O:=nA hV_V
  have z_V:=zS hV_V
  clear hV_V
  refine (wRow_calls _ _ hA).mono ?_
  rintro e_W1 W1 ⟨rfl,hb_W1⟩
  replace hA:=hA.below hb_W1
  replace hF:=hF.below hb_W1
  have z_W1:=hb_W1.size
  clear hb_W1
  unfold Nd.val
  go_wp2_with fail
  refine calls_gen fun V1 hV_V1=> ?_
  have n_kn:=hbk hV_V1 (W1.heap.size)
  simp (maxDischargeDepth:=9) only [BK,not_false_eq_true,reduceCtorEq] at n_kn
  have o_kn: ¬O (W1.heap.size):=by first|exact hA.new (Nat.le_refl _)|exact hA.new (by omega)
  replace hF:Fr (noX) O O w V1:=nF hV_V1
  replace hA:AP V1 ap s O:=nA hV_V1
  have z_V1:=zS hV_V1
  clear hV_V1
  have kn:=n_kn;clear n_kn
  obtain ⟨c_kn,f_kn,l_kn_V1⟩:=f3 kn
  refine (symBit_calls _ _ _).mono ?_
  rintro e_q w_q ⟨rfl,rfl⟩
  rw [Ho.out]
  go_wp2_with fail
  refine wp_gen fun V2 hV_V2=> ?_
  have n_kx:=hbk hV_V2 (V1.heap.size)
  simp (maxDischargeDepth:=9) only [BK,not_false_eq_true,reduceCtorEq,kn,l_kn_V1] at n_kx
  have o_kx: ¬O (V1.heap.size):=by first|exact hA.new (Nat.le_refl _)|exact hA.new (by omega)
  replace kn:=kK hV_V2 kn
  replace hF:Fr (noX) O O w V2:=nF hV_V2
  replace hA:AP V2 ap s O:=nA hV_V2
  have z_V2:=zS hV_V2
  clear hV_V2 c_kn f_kn
  obtain ⟨c_kn,f_kn,l_kn_V2⟩:=f3 kn
  have kx:=n_kx;clear n_kx
  obtain ⟨c_kx,f_kx,l_kx_V2⟩:=f3 kx
  refine wp_region_noPanic ?_
  refine wp_region_held_drew (S:=fun v=>(∀o,v.cell? ⟨W1.heap.size,o,none⟩=V2.cell? ⟨W1.heap.size,o,none⟩)∧(∀o,v.cell? ⟨V1.heap.size,o,none⟩=V2.cell? ⟨V1.heap.size,o,none⟩)∧(V2.heap.size≤v.heap.size)∧True) (by kernel_rfl) ⟨(fun _=>rfl),(fun _=>rfl),(Nat.le_refl _),trivial⟩ (fun hHeld=> ?_)
  generalize hV_V2d:V2.drew=V2d at hHeld⊢
  have d_kn:=dK hV_V2d kn
  have d_kx:=dK hV_V2d kx
  clear c_kn f_kn c_kx f_kx
  replace hA:=hA.drew;rw [hV_V2d] at hA
  replace hF:=hF.drew;rw [hV_V2d] at hF
  have z_V2d:=dZ hV_V2d
  have v_kn:=cells_of kn
  have v_kx:=cells_of kx
  clear kn;have kn:=d_kn;clear d_kn
  clear kx;have kx:=d_kx;clear d_kx
  obtain ⟨c_kn,f_kn,l_kn_V2d⟩:=f3 kn
  obtain ⟨c_kx,f_kx,l_kx_V2d⟩:=f3 kx
  clear hV_V2d
  refine tz 0 rfl hHeld ?_
  try simp only [PT]
  refine tz 1 rfl hHeld ?_
  try simp only [PT]
  refine tz 2 rfl hHeld ?_
  try simp only [PT]
  refine tz 4 rfl hHeld ?_
  try simp only [PT]
  refine tz 5 rfl hHeld ?_
  try simp only [PT]
  refine tz 6 rfl hHeld ?_
  try simp only [PT]
  refine tz 7 rfl hHeld ?_
  try simp only [PT]
  refine tz 8 rfl hHeld ?_
  try simp only [PT]
  refine tz 9 rfl hHeld ?_
  try simp only [PT]
  refine tz 11 rfl hHeld ?_
  try simp only [PT]
  refine tz 12 rfl hHeld ?_
  try simp only [PT]
  refine tz 13 rfl hHeld ?_
  try simp only [PT]
  refine rd 3 rfl fun K hK=> ?_
  go_simp
  try simp only [IntWalk.i64_left]
  refine (wKid_calls (s.get h) one _).mono ?_
  rintro e_W2 W2 ⟨rfl,hb_W2⟩
  replace hA:=hA.below hb_W2
  replace hF:=hF.below hb_W2
  replace kn:=keep_blk hb_W2 kn
  replace kx:=keep_blk hb_W2 kx
  have z_W2:=hb_W2.size
  clear hb_W2 c_kn f_kn c_kx f_kx
  obtain ⟨c_kn,f_kn,l_kn_W2⟩:=f3 kn
  obtain ⟨c_kx,f_kx,l_kx_W2⟩:=f3 kx
  refine hK.out _ _ ⟨(fun o=>(c_kn o).trans (v_kn o).symm),(fun o=>(c_kx o).trans (v_kx o).symm),(by omega),trivial⟩ (fun hHeld=> ?_)
  clear hK K
  try simp only [PT]
  refine rd 10 rfl fun K hK=> ?_
  go_simp
  try simp only [IntWalk.i64_left]
  refine (wAlike_calls _ _ _ _ Hj.out _ hA).mono ?_
  rintro e_W3 W3 ⟨rfl,hb_W3⟩
  replace hA:=hA.below hb_W3
  replace hF:=hF.below hb_W3
  replace kn:=keep_blk hb_W3 kn
  replace kx:=keep_blk hb_W3 kx
  have z_W3:=hb_W3.size
  clear hb_W3 c_kn f_kn c_kx f_kx
  obtain ⟨c_kn,f_kn,l_kn_W3⟩:=f3 kn
  obtain ⟨c_kx,f_kx,l_kx_W3⟩:=f3 kx
  refine hK.out _ _ ⟨(fun o=>(c_kn o).trans (v_kn o).symm),(fun o=>(c_kx o).trans (v_kx o).symm),(by omega),trivial⟩ (fun hHeld=> ?_)
  clear hK K
  try simp only [PT]
  refine rd 14 rfl fun K hK=> ?_
  go_simp
  try simp only [IntWalk.i64_left]
  refine (ih.out _ _ rfl hA).mono ?_
  rintro e_W4 W4 ⟨rfl,O1,hA_W4,hf_W4⟩
  have q_kn:=hf_W4.keep kn o_kn (fun h=>h)
  have q_kx:=hf_W4.keep kx o_kx (fun h=>h)
  replace o_kn:=hf_W4.not_own (lt_of kn) o_kn
  clear kn c_kn f_kn;have kn:=q_kn;clear q_kn
  obtain ⟨c_kn,f_kn,l_kn_W4⟩:=f3 kn
  replace o_kx:=hf_W4.not_own (lt_of kx) o_kx
  clear kx c_kx f_kx;have kx:=q_kx;clear q_kx
  obtain ⟨c_kx,f_kx,l_kx_W4⟩:=f3 kx
  replace hF:=hF.trans hf_W4.widen
  have z_W4:=hf_W4.size
  clear hA hf_W4;have hA:=hA_W4;clear hA_W4
  refine hK.out _ _ ⟨(fun o=>(c_kn o).trans (v_kn o).symm),(fun o=>(c_kx o).trans (v_kx o).symm),(by omega),trivial⟩ (fun hHeld=> ?_)
  clear hK K
  try simp only [PT]
  refine tz 15 rfl hHeld ?_
  try simp only [PT]
  refine tz 16 rfl hHeld ?_
  try simp only [PT]
  refine tz 17 rfl hHeld ?_
  try simp only [PT]
  refine rd 18 rfl fun K hK=> ?_
  go_simp
  refine hK.out _ _ hHeld (fun hHeld=> ?_)
  clear hK K
  try simp only [PT]
  refine rd 19 rfl fun K hK=> ?_
  go_simp
  refine hK.out _ _ hHeld (fun hHeld=> ?_)
  clear hK K
  try simp only [PT]
  refine wpAnyH_done (by kernel_rfl) ?_ _
  refine NoPanic.normal ?_
  cases one with
  | true=>
    go_wp2_with fail
    refine calls_gen fun V5 hV_V5=> ?_
    replace kn:=kK hV_V5 kn
    replace kx:=kK hV_V5 kx
    replace hF:Fr (noX) O O1 w V5:=nF hV_V5
    replace hA:AP V5 ap u.2.2 O1:=nA hV_V5
    have z_V5:=zS hV_V5
    clear hV_V5 c_kn f_kn c_kx f_kx
    obtain ⟨c_kn,f_kn,l_kn_V5⟩:=f3 kn
    obtain ⟨c_kx,f_kx,l_kx_V5⟩:=f3 kx
    refine (wKid_calls (⟨3,0,(s.get h).k1,u.1,0,0,0⟩) false _).mono ?_
    rintro e_W5 W5 ⟨rfl,hb_W5⟩
    replace hA:=hA.below hb_W5
    replace hF:=hF.below hb_W5
    replace kn:=keep_blk hb_W5 kn
    replace kx:=keep_blk hb_W5 kx
    have z_W5:=hb_W5.size
    clear hb_W5 c_kn f_kn c_kx f_kx
    obtain ⟨c_kn,f_kn,l_kn_W5⟩:=f3 kn
    obtain ⟨c_kx,f_kx,l_kx_W5⟩:=f3 kx
    go_wp2_with fail
    refine calls_gen fun V6 hV_V6=> ?_
    replace kn:=kK hV_V6 kn
    replace kx:=kK hV_V6 kx
    replace hF:Fr (noX) O O1 w V6:=nF hV_V6
    replace hA:AP V6 ap u.2.2 O1:=nA hV_V6
    have z_V6:=zS hV_V6
    clear hV_V6 c_kn f_kn c_kx f_kx
    obtain ⟨c_kn,f_kn,l_kn_V6⟩:=f3 kn
    obtain ⟨c_kx,f_kx,l_kx_V6⟩:=f3 kx
    refine (keep_calls ((s.get h).kid !true) _ hA).mono ?_
    rintro e_W6 W6 ⟨rfl,O2,hA_W6,hf_W6⟩
    have q_kn:=hf_W6.keep kn o_kn (fun h=>h)
    have q_kx:=hf_W6.keep kx o_kx (fun h=>h)
    replace o_kn:=hf_W6.not_own (lt_of kn) o_kn
    clear kn c_kn f_kn;have kn:=q_kn;clear q_kn
    obtain ⟨c_kn,f_kn,l_kn_W6⟩:=f3 kn
    replace o_kx:=hf_W6.not_own (lt_of kx) o_kx
    clear kx c_kx f_kx;have kx:=q_kx;clear q_kx
    obtain ⟨c_kx,f_kx,l_kx_W6⟩:=f3 kx
    replace hF:=hF.trans hf_W6.widen
    have z_W6:=hf_W6.size
    clear hA hf_W6;have hA:=hA_W6;clear hA_W6
    go_wp2_with fail
    refine calls_gen fun V7 hV_V7=> ?_
    replace kn:=kK hV_V7 kn
    replace kx:=kK hV_V7 kx
    replace hF:Fr (noX) O O2 w V7:=nF hV_V7
    replace hA:AP V7 ap (u.2.2.keep ((s.get h).kid !true)) O2:=nA hV_V7
    have z_V7:=zS hV_V7
    clear hV_V7 c_kn f_kn c_kx f_kx
    obtain ⟨c_kn,f_kn,l_kn_V7⟩:=f3 kn
    obtain ⟨c_kx,f_kx,l_kx_V7⟩:=f3 kx
    refine (bInsert_calls _ _ _ _ Hv.out _ hA).mono ?_
    rintro e_W7 W7 ⟨rfl,O3,hA_W7,hf_W7⟩
    have q_kn:=hf_W7.keep kn o_kn (fun h=>h)
    have q_kx:=hf_W7.keep kx o_kx (fun h=>h)
    replace o_kn:=hf_W7.not_own (lt_of kn) o_kn
    clear kn c_kn f_kn;have kn:=q_kn;clear q_kn
    obtain ⟨c_kn,f_kn,l_kn_W7⟩:=f3 kn
    replace o_kx:=hf_W7.not_own (lt_of kx) o_kx
    clear kx c_kx f_kx;have kx:=q_kx;clear q_kx
    obtain ⟨c_kx,f_kx,l_kx_W7⟩:=f3 kx
    replace hF:=hF.trans hf_W7.widen
    have z_W7:=hf_W7.size
    clear hA hf_W7;have hA:=hA_W7;clear hA_W7
    go_wp2_with fail
    refine calls_gen fun V8 hV_V8=> ?_
    replace kn:=kK hV_V8 kn
    replace kx:=kK hV_V8 kx
    replace hF:Fr (noX) O O3 w V8:=nF hV_V8
    replace hA:AP V8 ap v.2.2 O3:=nA hV_V8
    have z_V8:=zS hV_V8
    clear hV_V8 c_kn f_kn c_kx f_kx
    obtain ⟨c_kn,f_kn,l_kn_V8⟩:=f3 kn
    obtain ⟨c_kx,f_kx,l_kx_V8⟩:=f3 kx
    refine (wMade_calls (⟨3,v.1,(s.get h).k1,u.1,0,0,0⟩) hz v.2.1 _ hA).mono ?_
    rintro e_W8 W8 ⟨rfl,O4,hA_W8,hf_W8⟩
    have q_kn:=hf_W8.keep kn o_kn (fun h=>h)
    have q_kx:=hf_W8.keep kx o_kx (fun h=>h)
    replace o_kn:=hf_W8.not_own (lt_of kn) o_kn
    clear kn c_kn f_kn;have kn:=q_kn;clear q_kn
    obtain ⟨c_kn,f_kn,l_kn_W8⟩:=f3 kn
    replace o_kx:=hf_W8.not_own (lt_of kx) o_kx
    clear kx c_kx f_kx;have kx:=q_kx;clear q_kx
    obtain ⟨c_kx,f_kx,l_kx_W8⟩:=f3 kx
    replace hF:=hF.trans hf_W8.widen
    have z_W8:=hf_W8.size
    clear hA hf_W8;have hA:=hA_W8;clear hA_W8
    go_wp2_with fail
    go_ret2
    rw [Hr.out]
    exact ⟨rfl,O4,hA,hF⟩
  | false=>
    go_wp2_with fail
    refine wp_gen fun V5 hV_V5=> ?_
    replace kn:=kK hV_V5 kn
    replace kx:=kK hV_V5 kx
    replace hF:Fr (noX) O O1 w V5:=nF hV_V5
    replace hA:AP V5 ap u.2.2 O1:=nA hV_V5
    have z_V5:=zS hV_V5
    clear hV_V5 c_kn f_kn c_kx f_kx
    obtain ⟨c_kn,f_kn,l_kn_V5⟩:=f3 kn
    obtain ⟨c_kx,f_kx,l_kx_V5⟩:=f3 kx
    refine wp_region_noPanic ?_
    refine wp_region_held_drew (S:=fun v=>(∀o,v.cell? ⟨W1.heap.size,o,none⟩=V5.cell? ⟨W1.heap.size,o,none⟩)∧(V5.heap.size≤v.heap.size)∧AP v ap u.2.2 O1) (by kernel_rfl) ⟨(fun _=>rfl),(Nat.le_refl _),hA.drew⟩ (fun hHeld=> ?_)
    generalize hV_V5d:V5.drew=V5d at hHeld⊢
    have d_kn:=dK hV_V5d kn
    have d_kx:=dK hV_V5d kx
    clear c_kn f_kn c_kx f_kx
    replace hA:=hA.drew;rw [hV_V5d] at hA
    replace hF:=hF.drew;rw [hV_V5d] at hF
    have z_V5d:=dZ hV_V5d
    have v_kn:=cells_of kn
    clear kn;have kn:=d_kn;clear d_kn
    clear kx;have kx:=d_kx;clear d_kx
    obtain ⟨c_kn,f_kn,l_kn_V5d⟩:=f3 kn
    obtain ⟨c_kx,f_kx,l_kx_V5d⟩:=f3 kx
    clear hV_V5d
    refine tz 0 rfl hHeld ?_
    try simp only [PT]
    refine tz 1 rfl hHeld ?_
    try simp only [PT]
    refine tz 2 rfl hHeld ?_
    try simp only [PT]
    refine tz 3 rfl hHeld ?_
    try simp only [PT]
    refine tz 4 rfl hHeld ?_
    try simp only [PT]
    refine tz 5 rfl hHeld ?_
    try simp only [PT]
    refine tz 7 rfl hHeld ?_
    try simp only [PT]
    refine rd 6 rfl fun K hK=> ?_
    go_simp
    refine gen_app (K:=K) (fun D1 hV_D1=> ?_)
    replace kn:=kK hV_D1 kn
    replace kx:=kK hV_D1 kx
    replace hF:Fr (noX) O O1 w D1:=nF hV_D1
    replace hA:AP D1 ap u.2.2 O1:=nA hV_D1
    have z_D1:=zS hV_D1
    clear hV_D1 c_kn f_kn c_kx f_kx
    obtain ⟨c_kn,f_kn,l_kn_D1⟩:=f3 kn
    obtain ⟨c_kx,f_kx,l_kx_D1⟩:=f3 kx
    refine hK.out _ _ ⟨(fun o=>(c_kn o).trans (v_kn o).symm),(by omega),hA⟩ (fun hHeld=> ?_)
    clear hK K
    try simp only [PT]
    refine tz 8 rfl hHeld ?_
    try simp only [PT]
    refine rd 9 rfl fun K hK=> ?_
    go_simp
    refine gen_app (K:=K) (fun D2 hV_D2=> ?_)
    replace kn:=kK hV_D2 kn
    replace kx:=kK hV_D2 kx
    replace hF:Fr (noX) O O1 w D2:=nF hV_D2
    replace hA:AP D2 ap u.2.2 O1:=nA hV_D2
    have z_D2:=zS hV_D2
    clear hV_D2 c_kn f_kn c_kx f_kx
    obtain ⟨c_kn,f_kn,l_kn_D2⟩:=f3 kn
    obtain ⟨c_kx,f_kx,l_kx_D2⟩:=f3 kx
    refine hK.out _ _ ⟨(fun o=>(c_kn o).trans (v_kn o).symm),(by omega),hA⟩ (fun hHeld=> ?_)
    clear hK K
    try simp only [PT]
    refine wpAnyH_done (by kernel_rfl) ?_ _
    refine NoPanic.normal ?_
    go_wp2_with fail
    refine calls_gen fun V6 hV_V6=> ?_
    replace kn:=kK hV_V6 kn
    replace kx:=kK hV_V6 kx
    replace hF:Fr (noX) O O1 w V6:=nF hV_V6
    replace hA:AP V6 ap u.2.2 O1:=nA hV_V6
    have z_V6:=zS hV_V6
    clear hV_V6 c_kn f_kn c_kx f_kx
    obtain ⟨c_kn,f_kn,l_kn_V6⟩:=f3 kn
    obtain ⟨c_kx,f_kx,l_kx_V6⟩:=f3 kx
    refine (wKid_calls (⟨3,0,u.1,(s.get h).k2,0,0,0⟩) true _).mono ?_
    rintro e_W5 W5 ⟨rfl,hb_W5⟩
    replace hA:=hA.below hb_W5
    replace hF:=hF.below hb_W5
    replace kn:=keep_blk hb_W5 kn
    replace kx:=keep_blk hb_W5 kx
    have z_W5:=hb_W5.size
    clear hb_W5 c_kn f_kn c_kx f_kx
    obtain ⟨c_kn,f_kn,l_kn_W5⟩:=f3 kn
    obtain ⟨c_kx,f_kx,l_kx_W5⟩:=f3 kx
    go_wp2_with fail
    refine calls_gen fun V7 hV_V7=> ?_
    replace kn:=kK hV_V7 kn
    replace kx:=kK hV_V7 kx
    replace hF:Fr (noX) O O1 w V7:=nF hV_V7
    replace hA:AP V7 ap u.2.2 O1:=nA hV_V7
    have z_V7:=zS hV_V7
    clear hV_V7 c_kn f_kn c_kx f_kx
    obtain ⟨c_kn,f_kn,l_kn_V7⟩:=f3 kn
    obtain ⟨c_kx,f_kx,l_kx_V7⟩:=f3 kx
    refine (keep_calls ((s.get h).kid !false) _ hA).mono ?_
    rintro e_W6 W6 ⟨rfl,O2,hA_W6,hf_W6⟩
    have q_kn:=hf_W6.keep kn o_kn (fun h=>h)
    have q_kx:=hf_W6.keep kx o_kx (fun h=>h)
    replace o_kn:=hf_W6.not_own (lt_of kn) o_kn
    clear kn c_kn f_kn;have kn:=q_kn;clear q_kn
    obtain ⟨c_kn,f_kn,l_kn_W6⟩:=f3 kn
    replace o_kx:=hf_W6.not_own (lt_of kx) o_kx
    clear kx c_kx f_kx;have kx:=q_kx;clear q_kx
    obtain ⟨c_kx,f_kx,l_kx_W6⟩:=f3 kx
    replace hF:=hF.trans hf_W6.widen
    have z_W6:=hf_W6.size
    clear hA hf_W6;have hA:=hA_W6;clear hA_W6
    go_wp2_with fail
    refine calls_gen fun V8 hV_V8=> ?_
    replace kn:=kK hV_V8 kn
    replace kx:=kK hV_V8 kx
    replace hF:Fr (noX) O O2 w V8:=nF hV_V8
    replace hA:AP V8 ap (u.2.2.keep ((s.get h).kid !false)) O2:=nA hV_V8
    have z_V8:=zS hV_V8
    clear hV_V8 c_kn f_kn c_kx f_kx
    obtain ⟨c_kn,f_kn,l_kn_V8⟩:=f3 kn
    obtain ⟨c_kx,f_kx,l_kx_V8⟩:=f3 kx
    refine (bInsert_calls _ _ _ _ Hv.out _ hA).mono ?_
    rintro e_W7 W7 ⟨rfl,O3,hA_W7,hf_W7⟩
    have q_kn:=hf_W7.keep kn o_kn (fun h=>h)
    have q_kx:=hf_W7.keep kx o_kx (fun h=>h)
    replace o_kn:=hf_W7.not_own (lt_of kn) o_kn
    clear kn c_kn f_kn;have kn:=q_kn;clear q_kn
    obtain ⟨c_kn,f_kn,l_kn_W7⟩:=f3 kn
    replace o_kx:=hf_W7.not_own (lt_of kx) o_kx
    clear kx c_kx f_kx;have kx:=q_kx;clear q_kx
    obtain ⟨c_kx,f_kx,l_kx_W7⟩:=f3 kx
    replace hF:=hF.trans hf_W7.widen
    have z_W7:=hf_W7.size
    clear hA hf_W7;have hA:=hA_W7;clear hA_W7
    go_wp2_with fail
    refine calls_gen fun V9 hV_V9=> ?_
    replace kn:=kK hV_V9 kn
    replace kx:=kK hV_V9 kx
    replace hF:Fr (noX) O O3 w V9:=nF hV_V9
    replace hA:AP V9 ap v.2.2 O3:=nA hV_V9
    have z_V9:=zS hV_V9
    clear hV_V9 c_kn f_kn c_kx f_kx
    obtain ⟨c_kn,f_kn,l_kn_V9⟩:=f3 kn
    obtain ⟨c_kx,f_kx,l_kx_V9⟩:=f3 kx
    refine (wMade_calls (⟨3,v.1,u.1,(s.get h).k2,0,0,0⟩) hz v.2.1 _ hA).mono ?_
    rintro e_W8 W8 ⟨rfl,O4,hA_W8,hf_W8⟩
    have q_kn:=hf_W8.keep kn o_kn (fun h=>h)
    have q_kx:=hf_W8.keep kx o_kx (fun h=>h)
    replace o_kn:=hf_W8.not_own (lt_of kn) o_kn
    clear kn c_kn f_kn;have kn:=q_kn;clear q_kn
    obtain ⟨c_kn,f_kn,l_kn_W8⟩:=f3 kn
    replace o_kx:=hf_W8.not_own (lt_of kx) o_kx
    clear kx c_kx f_kx;have kx:=q_kx;clear q_kx
    obtain ⟨c_kx,f_kx,l_kx_W8⟩:=f3 kx
    replace hF:=hF.trans hf_W8.widen
    have z_W8:=hf_W8.size
    clear hA hf_W8;have hA:=hA_W8;clear hA_W8
    go_wp2_with fail
    go_ret2
    rw [Hr.out]
    exact ⟨rfl,O4,hA,hF⟩
set_option maxRecDepth 100000 in
set_option maxHeartbeats 4000000 in
theorem wIns_err (d : Nat) (hd : d + 1 ≤ 9) (s : Ar) (O : Nat → Prop) (h i c l : Int) (hl : l = 9 - ((d + 1 : Nat) : Int)) (r : Int × Int × Ar) (w : World) (one : Bool) (ho : symBit c l = one) (j : Int) (hj : wAlike s (s.get h).k0 i one = some j)
    (u:Int×Int×Ar) (he: ¬u.2.1=0) (hr:r=(0,u.2.1,u.2.2))
    (ih:Hid (∀(l':Int) (w:World),l'=wrap64 (l+1)→AP w ap s O→Calls Tryz.prog 108 #[ap, .int .i64 ((s.get h).kid one), .int .i64 j, .int .i64 c, .int .i64 l'] w fun e w'=>e= .returned (.tuple #[.int .i64 u.1, .int .i64 u.2.1])∧Did noX ap u.2.2 O w w'))
    (hA:AP w ap s O):
    Calls Tryz.prog 108 #[ap, .int .i64 h, .int .i64 i, .int .i64 c, .int .i64 l] w fun e w'=>e= .returned (.tuple #[.int .i64 r.1, .int .i64 r.2.1])∧Did noX ap r.2.2 O w w':=by
  have d1:decide (8<l)=false:=by simp;omega
  have d2:(u.2.1 !=0)=true:=by simp [he]
  have Ho:=Lib.hid ho;have Hj:=Lib.hid hj;have Hr:=Lib.hid hr
  have hl0:0≤l:=by omega
  have hl1:l≤8:=by omega
  have hz:U64 0:=⟨by decide,by decide⟩
  clear ho hj hr he hl hd
  go_enter Tryz.func108,Tryz.ntmps108
  go_wp2_with fail
  refine calls_gen fun V hV_V=> ?_
  have hF:Fr (noX) O O w V:=nF hV_V
  replace hA:AP V ap s O:=nA hV_V
  have z_V:=zS hV_V
  clear hV_V
  refine (wRow_calls _ _ hA).mono ?_
  rintro e_W1 W1 ⟨rfl,hb_W1⟩
  replace hA:=hA.below hb_W1
  replace hF:=hF.below hb_W1
  have z_W1:=hb_W1.size
  clear hb_W1
  unfold Nd.val
  go_wp2_with fail
  refine calls_gen fun V1 hV_V1=> ?_
  have n_kn:=hbk hV_V1 (W1.heap.size)
  simp (maxDischargeDepth:=9) only [BK,not_false_eq_true,reduceCtorEq] at n_kn
  have o_kn: ¬O (W1.heap.size):=by first|exact hA.new (Nat.le_refl _)|exact hA.new (by omega)
  replace hF:Fr (noX) O O w V1:=nF hV_V1
  replace hA:AP V1 ap s O:=nA hV_V1
  have z_V1:=zS hV_V1
  clear hV_V1
  have kn:=n_kn;clear n_kn
  obtain ⟨c_kn,f_kn,l_kn_V1⟩:=f3 kn
  refine (symBit_calls _ _ _).mono ?_
  rintro e_q w_q ⟨rfl,rfl⟩
  rw [Ho.out]
  go_wp2_with fail
  refine wp_gen fun V2 hV_V2=> ?_
  have n_kx:=hbk hV_V2 (V1.heap.size)
  simp (maxDischargeDepth:=9) only [BK,not_false_eq_true,reduceCtorEq,kn,l_kn_V1] at n_kx
  have o_kx: ¬O (V1.heap.size):=by first|exact hA.new (Nat.le_refl _)|exact hA.new (by omega)
  replace kn:=kK hV_V2 kn
  replace hF:Fr (noX) O O w V2:=nF hV_V2
  replace hA:AP V2 ap s O:=nA hV_V2
  have z_V2:=zS hV_V2
  clear hV_V2 c_kn f_kn
  obtain ⟨c_kn,f_kn,l_kn_V2⟩:=f3 kn
  have kx:=n_kx;clear n_kx
  obtain ⟨c_kx,f_kx,l_kx_V2⟩:=f3 kx
  refine wp_region_noPanic ?_
  refine wp_region_held_drew (S:=fun v=>(∀o,v.cell? ⟨W1.heap.size,o,none⟩=V2.cell? ⟨W1.heap.size,o,none⟩)∧(∀o,v.cell? ⟨V1.heap.size,o,none⟩=V2.cell? ⟨V1.heap.size,o,none⟩)∧(V2.heap.size≤v.heap.size)∧True) (by kernel_rfl) ⟨(fun _=>rfl),(fun _=>rfl),(Nat.le_refl _),trivial⟩ (fun hHeld=> ?_)
  generalize hV_V2d:V2.drew=V2d at hHeld⊢
  have d_kn:=dK hV_V2d kn
  have d_kx:=dK hV_V2d kx
  clear c_kn f_kn c_kx f_kx
  replace hA:=hA.drew;rw [hV_V2d] at hA
  replace hF:=hF.drew;rw [hV_V2d] at hF
  have z_V2d:=dZ hV_V2d
  have v_kn:=cells_of kn
  have v_kx:=cells_of kx
  clear kn;have kn:=d_kn;clear d_kn
  clear kx;have kx:=d_kx;clear d_kx
  obtain ⟨c_kn,f_kn,l_kn_V2d⟩:=f3 kn
  obtain ⟨c_kx,f_kx,l_kx_V2d⟩:=f3 kx
  clear hV_V2d
  refine tz 0 rfl hHeld ?_
  try simp only [PT]
  refine tz 1 rfl hHeld ?_
  try simp only [PT]
  refine tz 2 rfl hHeld ?_
  try simp only [PT]
  refine tz 4 rfl hHeld ?_
  try simp only [PT]
  refine tz 5 rfl hHeld ?_
  try simp only [PT]
  refine tz 6 rfl hHeld ?_
  try simp only [PT]
  refine tz 7 rfl hHeld ?_
  try simp only [PT]
  refine tz 8 rfl hHeld ?_
  try simp only [PT]
  refine tz 9 rfl hHeld ?_
  try simp only [PT]
  refine tz 11 rfl hHeld ?_
  try simp only [PT]
  refine tz 12 rfl hHeld ?_
  try simp only [PT]
  refine tz 13 rfl hHeld ?_
  try simp only [PT]
  refine rd 3 rfl fun K hK=> ?_
  go_simp
  try simp only [IntWalk.i64_left]
  refine (wKid_calls (s.get h) one _).mono ?_
  rintro e_W2 W2 ⟨rfl,hb_W2⟩
  replace hA:=hA.below hb_W2
  replace hF:=hF.below hb_W2
  replace kn:=keep_blk hb_W2 kn
  replace kx:=keep_blk hb_W2 kx
  have z_W2:=hb_W2.size
  clear hb_W2 c_kn f_kn c_kx f_kx
  obtain ⟨c_kn,f_kn,l_kn_W2⟩:=f3 kn
  obtain ⟨c_kx,f_kx,l_kx_W2⟩:=f3 kx
  refine hK.out _ _ ⟨(fun o=>(c_kn o).trans (v_kn o).symm),(fun o=>(c_kx o).trans (v_kx o).symm),(by omega),trivial⟩ (fun hHeld=> ?_)
  clear hK K
  try simp only [PT]
  refine rd 10 rfl fun K hK=> ?_
  go_simp
  try simp only [IntWalk.i64_left]
  refine (wAlike_calls _ _ _ _ Hj.out _ hA).mono ?_
  rintro e_W3 W3 ⟨rfl,hb_W3⟩
  replace hA:=hA.below hb_W3
  replace hF:=hF.below hb_W3
  replace kn:=keep_blk hb_W3 kn
  replace kx:=keep_blk hb_W3 kx
  have z_W3:=hb_W3.size
  clear hb_W3 c_kn f_kn c_kx f_kx
  obtain ⟨c_kn,f_kn,l_kn_W3⟩:=f3 kn
  obtain ⟨c_kx,f_kx,l_kx_W3⟩:=f3 kx
  refine hK.out _ _ ⟨(fun o=>(c_kn o).trans (v_kn o).symm),(fun o=>(c_kx o).trans (v_kx o).symm),(by omega),trivial⟩ (fun hHeld=> ?_)
  clear hK K
  try simp only [PT]
  refine rd 14 rfl fun K hK=> ?_
  go_simp
  try simp only [IntWalk.i64_left]
  refine (ih.out _ _ rfl hA).mono ?_
  rintro e_W4 W4 ⟨rfl,O1,hA_W4,hf_W4⟩
  have q_kn:=hf_W4.keep kn o_kn (fun h=>h)
  have q_kx:=hf_W4.keep kx o_kx (fun h=>h)
  replace o_kn:=hf_W4.not_own (lt_of kn) o_kn
  clear kn c_kn f_kn;have kn:=q_kn;clear q_kn
  obtain ⟨c_kn,f_kn,l_kn_W4⟩:=f3 kn
  replace o_kx:=hf_W4.not_own (lt_of kx) o_kx
  clear kx c_kx f_kx;have kx:=q_kx;clear q_kx
  obtain ⟨c_kx,f_kx,l_kx_W4⟩:=f3 kx
  replace hF:=hF.trans hf_W4.widen
  have z_W4:=hf_W4.size
  clear hA hf_W4;have hA:=hA_W4;clear hA_W4
  refine hK.out _ _ ⟨(fun o=>(c_kn o).trans (v_kn o).symm),(fun o=>(c_kx o).trans (v_kx o).symm),(by omega),trivial⟩ (fun hHeld=> ?_)
  clear hK K
  try simp only [PT]
  refine tz 15 rfl hHeld ?_
  try simp only [PT]
  refine tz 16 rfl hHeld ?_
  try simp only [PT]
  refine tz 17 rfl hHeld ?_
  try simp only [PT]
  refine rd 18 rfl fun K hK=> ?_
  go_simp
  refine hK.out _ _ hHeld (fun hHeld=> ?_)
  clear hK K
  try simp only [PT]
  refine rd 19 rfl fun K hK=> ?_
  go_simp
  refine hK.out _ _ hHeld (fun hHeld=> ?_)
  clear hK K
  try simp only [PT]
  refine wpAnyH_done (by kernel_rfl) ?_ _
  refine NoPanic.normal ?_
  go_wp2_with fail
  go_ret2
  rw [Hr.out]
  exact ⟨rfl,O1,hA,hF⟩
set_option maxRecDepth 100000 in
set_option maxHeartbeats 800000 in
theorem wIns_end (s : Ar) (O : Nat → Prop) (h i c : Int) (w : World) (hA : AP w ap s O) :
    Calls Tryz.prog 108 #[ap, .int .i64 h, .int .i64 i, .int .i64 c, .int .i64 9] w fun e w'=>e= .returned (.tuple #[.int .i64 0, .int .i64 0])∧Did noX ap s O w w':=by
  go_enter Tryz.func108,Tryz.ntmps108
  go_wp2_with fail
  go_ret2
  exact ⟨rfl,O,hA,Fr.refl _ _ _⟩
theorem wIns_calls : ∀ (d : Nat) (hd : d ≤ 9) (s : Ar) (O : Nat → Prop) (h i c l : Int) (hl : l = 9 - (d : Int)) (r : Int × Int × Ar) (hr : wInsertL d s h i c = some r) (w : World) (hA : AP w ap s O),
    Calls Tryz.prog 108 #[ap, .int .i64 h, .int .i64 i, .int .i64 c, .int .i64 l] w fun e w'=>e= .returned (.tuple #[.int .i64 r.1, .int .i64 r.2.1])∧Did noX ap r.2.2 O w w'
  | 0,hd,s,O,h,i,c,l,hl,r,hr,w,hA=>by
    obtain rfl:l=9:=by simpa using hl
    unfold wInsertL at hr
    obtain rfl:=Option.some.inj hr
    exact wIns_end s O h i c w hA
  | d+1,hd,s,O,h,i,c,l,hl,r,hr,w,hA=>by
    unfold wInsertL at hr
    dsimp only at hr
    obtain ⟨j,hj,hr⟩:=Option.bind_eq_some_iff.1 hr
    obtain ⟨u,hu,hr⟩:=Option.bind_eq_some_iff.1 hr
    have hl':l=8 - (d:Int):=by omega
    have hw:wrap64 (l+1)=9 - (d:Int):=by rw [IntWalk.wrap64_in _ (by omega)];omega
    have ih:Hid (∀(l':Int) (w:World),l'=wrap64 (l+1)→AP w ap s O→Calls Tryz.prog 108 #[ap, .int .i64 ((s.get h).kid (symBit c l)), .int .i64 j, .int .i64 c, .int .i64 l'] w fun e w'=>e= .returned (.tuple #[.int .i64 u.1, .int .i64 u.2.1])∧Did noX ap u.2.2 O w w'):=by
      refine Lib.hid fun l' w hl2 hA=> ?_
      rw [hl'] at*
      exact wIns_calls d (by omega) s O _ j c l' (by rw [hl2,hw]) u hu w hA
    by_cases he:u.2.1=0
    · rw [if_pos he] at hr
      obtain ⟨v,hv,hr⟩:=Option.bind_eq_some_iff.1 hr
      have hr:=(Option.some.inj hr).symm
      rw [←hl'] at hj hv hr
      exact wIns_step d hd s O h i c l hl r w _ rfl j hj u he v hv hr ih hA
    · rw [if_neg he] at hr
      have hr:=(Option.some.inj hr).symm
      rw [←hl'] at hj
      exact wIns_err d hd s O h i c l hl r w _ rfl j hj u he hr ih hA
set_option maxRecDepth 100000 in
set_option maxHeartbeats 1600000 in
theorem wInsert_calls (s : Ar) (O : Nat → Prop) (h i x : Int) (r : Int × Int × Ar) (hr : wInsert s h i x = some r) (w : World) (hA : AP w ap s O) :
    Calls Tryz.prog 60 #[ap, .int .i64 h, .int .i64 i, .int .i64 x] w fun e w'=>e= .returned (.tuple #[.int .i64 r.1, .int .i64 r.2.1])∧Did noX ap r.2.2 O w w':=by
  unfold wInsert at hr
  cases h0:wIs x with
  | false=>
    rw [h0,if_neg (by decide)] at hr
    obtain rfl:=Option.some.inj hr
    clear hr
    go_enter Tryz.func60,Tryz.ntmps60
    go_wp2_with fail
    refine calls_gen fun V hV_V=> ?_
    have hF:Fr (noX) O O w V:=nF hV_V
    replace hA:AP V ap s O:=nA hV_V
    have z_V:=zS hV_V
    clear hV_V
    refine (wIs_calls _ _).mono ?_
    rintro e_q w_q ⟨rfl,rfl⟩
    rw [h0]
    go_wp2_with fail
    go_ret2
    exact ⟨rfl,O,hA,hF⟩
  | true=>
    rw [h0,if_pos rfl] at hr
    by_cases h1:i<0
    · have d1:decide (i<0)=true:=by simpa using h1
      rw [if_pos (.inl h1)] at hr
      obtain rfl:=Option.some.inj hr
      clear hr h1
      go_enter Tryz.func60,Tryz.ntmps60
      go_wp2_with fail
      refine calls_gen fun V hV_V=> ?_
      have hF:Fr (noX) O O w V:=nF hV_V
      replace hA:AP V ap s O:=nA hV_V
      have z_V:=zS hV_V
      clear hV_V
      refine (wIs_calls _ _).mono ?_
      rintro e_q w_q ⟨rfl,rfl⟩
      rw [h0]
      go_wp2_with fail
      go_ret2
      exact ⟨rfl,O,hA,hF⟩
    · have d1:decide (i<0)=false:=by simpa using h1
      by_cases h2:wLen s h<i
      · have d2:decide (wLen s h<i)=true:=by simpa using h2
        rw [if_pos (.inr h2)] at hr
        obtain rfl:=Option.some.inj hr
        clear hr h1 h2
        go_enter Tryz.func60,Tryz.ntmps60
        go_wp2_with fail
        refine calls_gen fun V hV_V=> ?_
        have hF:Fr (noX) O O w V:=nF hV_V
        replace hA:AP V ap s O:=nA hV_V
        have z_V:=zS hV_V
        clear hV_V
        refine (wIs_calls _ _).mono ?_
        rintro e_q w_q ⟨rfl,rfl⟩
        rw [h0]
        go_wp2_with fail
        refine calls_gen fun V1 hV_V1=> ?_
        replace hF:Fr (noX) O O w V1:=nF hV_V1
        replace hA:AP V1 ap s O:=nA hV_V1
        have z_V1:=zS hV_V1
        clear hV_V1
        refine (wLen_calls _ _ hA).mono ?_
        rintro e_W2 W2 ⟨rfl,hb_W2⟩
        replace hA:=hA.below hb_W2
        replace hF:=hF.below hb_W2
        have z_W2:=hb_W2.size
        clear hb_W2
        go_wp2_with fail
        go_ret2
        exact ⟨rfl,O,hA,hF⟩
      · have d2:decide (wLen s h<i)=false:=by simpa using h2
        rw [if_neg (by omega)] at hr
        have Hr:=Lib.hid hr
        clear hr h1 h2
        go_enter Tryz.func60,Tryz.ntmps60
        go_wp2_with fail
        refine calls_gen fun V hV_V=> ?_
        have hF:Fr (noX) O O w V:=nF hV_V
        replace hA:AP V ap s O:=nA hV_V
        have z_V:=zS hV_V
        clear hV_V
        refine (wIs_calls _ _).mono ?_
        rintro e_q w_q ⟨rfl,rfl⟩
        rw [h0]
        go_wp2_with fail
        refine calls_gen fun V1 hV_V1=> ?_
        replace hF:Fr (noX) O O w V1:=nF hV_V1
        replace hA:AP V1 ap s O:=nA hV_V1
        have z_V1:=zS hV_V1
        clear hV_V1
        refine (wLen_calls _ _ hA).mono ?_
        rintro e_W2 W2 ⟨rfl,hb_W2⟩
        replace hA:=hA.below hb_W2
        replace hF:=hF.below hb_W2
        have z_W2:=hb_W2.size
        clear hb_W2
        go_wp2_with fail
        refine calls_gen fun V2 hV_V2=> ?_
        replace hF:Fr (noX) O O w V2:=nF hV_V2
        replace hA:AP V2 ap s O:=nA hV_V2
        have z_V2:=zS hV_V2
        clear hV_V2
        refine (wIns_calls 9 (by omega) s O _ _ _ _ (by rfl) _ Hr.out _ hA).mono ?_
        rintro e_W3 W3 ⟨rfl,O1,hA_W3,hf_W3⟩
        replace hF:=hF.trans hf_W3.widen
        have z_W3:=hf_W3.size
        clear hA hf_W3;have hA:=hA_W3;clear hA_W3
        go_wp2_with fail
        go_ret2
        exact ⟨rfl,O1,hA,hF⟩
end Go.Proofs.YtdjpjmkpndmhaaaGreat
namespace Go.Proofs.YtdjpjmkpndmhaaaGreat
open Go.RowKit
attribute [local go_sem ↓] Go.wp_at_zero Go.wp_at_succ
attribute [local go_sem] lt_s2 lt_s3 lt_s4
attribute [local go_sem] idx0 idx1 idx2 idx3
structure LB (w:World) (tb:Nat) (ap:Value) (t:Tb) (O:Nat→Prop):Prop where
 hA:AP w ap t.s O
 blk:w.heap[tb]? =some (.cells #[ap, .int .i64 t.e] 145 (0,0))
 no: ¬O tb
def DidL (tb:Nat) (ap:Value) (t':Tb) (O:Nat→Prop) (w w':World):Prop:= ∃O',LB w' tb ap t' O'∧Fr (oneX tb) O O' w w'
variable {ap : Value} {O : Nat → Prop} {tb : Nat} {t : Tb} {s : Ar}
set_option maxRecDepth 100000 in
set_option maxHeartbeats 800000 in
theorem lLen_calls (h:Int) (w:World) (hA:AP w ap s O):
  Calls Tryz.prog 33 #[ap, .int .i64 h] w fun e w'=>e= .returned (.int .i64 (lLen s h))∧Below w.heap.size w w':=by
 unfold lLen
 cases h1:lIs s h with
 | false=>
  go_enter Tryz.func33,Tryz.ntmps33
  go_wp2_with fail
  refine calls_gen fun V hV_V=> ?_
  have hB:Below w.heap.size w V:=nB hV_V
  replace hA:AP V ap s O:=nA hV_V
  have z_V:=zS hV_V
  clear hV_V
  refine (lRow_calls _ _ hA).mono ?_
  rintro e_w1 w1 ⟨rfl,hb_w1⟩
  replace hA:=hA.below hb_w1
  replace hB:=below_step hB hb_w1
  have z_w1:=hb_w1.size
  clear hb_w1
  unfold Nd.val
  go_wp2_with fail
  go_ret
  exact ⟨rfl,by (repeat' first|with_reducible assumption|with_reducible exact Below.refl _ _|with_reducible refine Below.alloc ?_ ?_ _|with_reducible refine Below.setCell ?_ ?_ _|with_reducible refine below_drewN ?_ _|with_reducible refine Below.drew ?_|exact Nat.le_refl _|((try dsimp only);omega)|(simp only [siz_alloc,siz_set];omega))⟩
 | true=>
  rw [if_pos rfl]
  by_cases h2:(s.get h).tag=4
  ·
   have d1:((s.get h).tag==4)=true:=by simpa using h2
   rw [if_pos h2]
   clear h2
   go_enter Tryz.func33,Tryz.ntmps33
   go_wp2_with fail
   refine calls_gen fun V hV_V=> ?_
   have hB:Below w.heap.size w V:=nB hV_V
   replace hA:AP V ap s O:=nA hV_V
   have z_V:=zS hV_V
   clear hV_V
   refine (lRow_calls _ _ hA).mono ?_
   rintro e_w1 w1 ⟨rfl,hb_w1⟩
   replace hA:=hA.below hb_w1
   replace hB:=below_step hB hb_w1
   have z_w1:=hb_w1.size
   clear hb_w1
   unfold Nd.val
   go_wp2_with fail
   go_ret
   exact ⟨rfl,by (repeat' first|with_reducible assumption|with_reducible exact Below.refl _ _|with_reducible refine Below.alloc ?_ ?_ _|with_reducible refine Below.setCell ?_ ?_ _|with_reducible refine below_drewN ?_ _|with_reducible refine Below.drew ?_|exact Nat.le_refl _|((try dsimp only);omega)|(simp only [siz_alloc,siz_set];omega))⟩
  ·
   have d1:((s.get h).tag==4)=false:=by simpa using h2
   rw [if_neg h2]
   clear h2
   go_enter Tryz.func33,Tryz.ntmps33
   go_wp2_with fail
   refine calls_gen fun V hV_V=> ?_
   have hB:Below w.heap.size w V:=nB hV_V
   replace hA:AP V ap s O:=nA hV_V
   have z_V:=zS hV_V
   clear hV_V
   refine (lRow_calls _ _ hA).mono ?_
   rintro e_w1 w1 ⟨rfl,hb_w1⟩
   replace hA:=hA.below hb_w1
   replace hB:=below_step hB hb_w1
   have z_w1:=hb_w1.size
   clear hb_w1
   unfold Nd.val
   go_wp2_with fail
   go_ret
   exact ⟨rfl,by (repeat' first|with_reducible assumption|with_reducible exact Below.refl _ _|with_reducible refine Below.alloc ?_ ?_ _|with_reducible refine Below.setCell ?_ ?_ _|with_reducible refine below_drewN ?_ _|with_reducible refine Below.drew ?_|exact Nat.le_refl _|((try dsimp only);omega)|(simp only [siz_alloc,siz_set];omega))⟩
set_option maxRecDepth 100000 in
set_option maxHeartbeats 800000 in
theorem lKeep_calls (h:Int) (w:World) (hT:LB w tb ap t O):
  Calls Tryz.prog 117 #[.pointer (some ⟨tb,0,none⟩), .int .i64 h] w fun e w'=>e= .returned (.int .i64 h)∧DidL tb ap (t.keep h) O w w':=by
 go_enter Tryz.func117,Tryz.ntmps117
 have hA:=hT.hA
 have kt:=hT.blk
 have o_kt:=hT.no
 obtain ⟨c_kt,f_kt,l_kt_w⟩:=f3 kt
 go_wp2_with fail
 refine calls_gen fun V hV_V=> ?_
 replace kt:=kK hV_V kt
 have hF:Fr (oneX tb) O O w V:=nF hV_V
 replace hA:AP V ap t.s O:=nA hV_V
 have z_V:=zS hV_V
 clear hV_V c_kt f_kt
 obtain ⟨c_kt,f_kt,l_kt_V⟩:=f3 kt
 refine (keep_calls _ _ hA).mono ?_
 rintro e_W W ⟨rfl,O1,hA_W,hf_W⟩
 have q_kt:=hf_W.keep kt o_kt (fun h=>h)
 replace o_kt:=hf_W.not_own (lt_of kt) o_kt
 clear kt c_kt f_kt;have kt:=q_kt;clear q_kt
 obtain ⟨c_kt,f_kt,l_kt_W⟩:=f3 kt
 replace hF:=hF.trans hf_W.widen
 have z_W:=hf_W.size
 clear hA hf_W;have hA:=hA_W;clear hA_W
 go_wp2_with fail
 go_ret
 refine ⟨rfl,O1,⟨hA,kt,o_kt⟩,hF⟩
set_option maxRecDepth 100000 in
set_option maxHeartbeats 1600000 in
theorem lNode_calls (n:Nd) (hn:U64 n.a) (w:World) (hT:LB w tb ap t O):
  Calls Tryz.prog 147 #[.pointer (some ⟨tb,0,none⟩),n.val] w fun e w'=>e= .returned (.int .i64 (t.lnode n).1)∧DidL tb ap (t.lnode n).2 O w w':=by
 by_cases he:t.e=0
 ·
  have d1:(t.e==0)=true:=by simpa using he
  have e1:Hid (t.lnode n=((t.s.make n).1,⟨((t.s.make n).2.2.drop n.k0).drop n.k1,(t.s.make n).2.1⟩)):=by
   show _=_
   unfold Tb.lnode Tb.nodeD;rw [if_pos he];rfl
  clear he
  unfold Nd.val
  go_enter Tryz.func147,Tryz.ntmps147
  have hA:=hT.hA
  have kt:=hT.blk
  have o_kt:=hT.no
  obtain ⟨c_kt,f_kt,l_kt_w⟩:=f3 kt
  go_wp2_with fail
  refine wp_gen fun V hV_V=> ?_
  have n_kn:=hbk hV_V (w.heap.size)
  simp (maxDischargeDepth:=9) only [BK,not_false_eq_true,reduceCtorEq,kt,l_kt_w] at n_kn
  have o_kn: ¬O (w.heap.size):=by first|exact hA.new (Nat.le_refl _)|exact hA.new (by omega)
  replace kt:=kK hV_V kt
  have hF:Fr ((oneX tb)) O O w V:=nF hV_V
  replace hA:AP V ap t.s O:=nA hV_V
  have z_V:=zS hV_V
  clear hV_V c_kt f_kt
  obtain ⟨c_kt,f_kt,l_kt_V⟩:=f3 kt
  have kn:=n_kn;clear n_kn
  obtain ⟨c_kn,f_kn,l_kn_V⟩:=f3 kn
  refine wp_region_noPanic ?_
  refine wp_region_held_drew (S:=fun v=>(v.cell? ⟨tb,0,none⟩=V.cell? ⟨tb,0,none⟩)∧(∀o,v.cell? ⟨w.heap.size,o,none⟩=V.cell? ⟨w.heap.size,o,none⟩)∧(V.heap.size≤v.heap.size)∧True) (by kernel_rfl) ⟨rfl,(fun _=>rfl),(Nat.le_refl _),trivial⟩ (fun hHeld=> ?_)
  generalize hV_Vd:V.drew=Vd at hHeld⊢
  have d_kt:=dK hV_Vd kt
  have d_kn:=dK hV_Vd kn
  clear c_kt f_kt c_kn f_kn
  replace hA:=hA.drew;rw [hV_Vd] at hA
  replace hF:=hF.drew;rw [hV_Vd] at hF
  have z_Vd:=dZ hV_Vd
  have v_kt:=cells_of kt
  have v_kn:=cells_of kn
  clear kt;have kt:=d_kt;clear d_kt
  clear kn;have kn:=d_kn;clear d_kn
  obtain ⟨c_kt,f_kt,l_kt_Vd⟩:=f3 kt
  obtain ⟨c_kn,f_kn,l_kn_Vd⟩:=f3 kn
  clear hV_Vd
  refine tz 0 rfl hHeld ?_
  try simp only [PT]
  refine tz 1 rfl hHeld ?_
  try simp only [PT]
  refine tz 2 rfl hHeld ?_
  try simp only [PT]
  refine tz 3 rfl hHeld ?_
  try simp only [PT]
  refine tz 4 rfl hHeld ?_
  try simp only [PT]
  refine tz 5 rfl hHeld ?_
  try simp only [PT]
  refine rd 6 rfl fun K hK=> ?_
  go_simp
  try simp only [IntWalk.i64_left]
  refine (make_calls n hn _ hA).mono ?_
  rintro e_W W ⟨rfl,O1,hA_W,hf_W⟩
  have q_kt:=hf_W.keep kt o_kt (fun h=>h)
  have q_kn:=hf_W.keep kn o_kn (fun h=>h)
  replace o_kt:=hf_W.not_own (lt_of kt) o_kt
  clear kt c_kt f_kt;have kt:=q_kt;clear q_kt
  obtain ⟨c_kt,f_kt,l_kt_W⟩:=f3 kt
  replace o_kn:=hf_W.not_own (lt_of kn) o_kn
  clear kn c_kn f_kn;have kn:=q_kn;clear q_kn
  obtain ⟨c_kn,f_kn,l_kn_W⟩:=f3 kn
  replace hF:=hF.trans hf_W.widen
  have z_W:=hf_W.size
  clear hA hf_W;have hA:=hA_W;clear hA_W
  refine hK.out _ _ ⟨((c_kt 0).trans (v_kt 0).symm),(fun o=>(c_kn o).trans (v_kn o).symm),(by omega),trivial⟩ (fun hHeld=> ?_)
  clear hK K
  try simp only [PT]
  refine tz 7 rfl hHeld ?_
  try simp only [PT]
  refine tz 8 rfl hHeld ?_
  try simp only [PT]
  refine tz 9 rfl hHeld ?_
  try simp only [PT]
  refine rd 10 rfl fun K hK=> ?_
  go_simp
  refine hK.out _ _ hHeld (fun hHeld=> ?_)
  clear hK K
  try simp only [PT]
  refine tz 11 rfl hHeld ?_
  try simp only [PT]
  refine tz 12 rfl hHeld ?_
  try simp only [PT]
  refine rd 13 rfl fun K hK=> ?_
  go_simp
  refine gen_app (K:=K) (fun D hV_D=> ?_)
  replace kt:=kK hV_D kt
  replace kn:=kK hV_D kn
  replace hF:Fr ((oneX tb)) O O1 w D:=nF hV_D
  replace hA:AP D ap ((t.s.make n).2.2) O1:=nA hV_D
  have z_D:=zS hV_D
  clear hV_D c_kt f_kt c_kn f_kn
  obtain ⟨c_kt,f_kt,l_kt_D⟩:=f3 kt
  obtain ⟨c_kn,f_kn,l_kn_D⟩:=f3 kn
  refine hK.out _ _ ⟨((c_kt 0).trans (v_kt 0).symm),(fun o=>(c_kn o).trans (v_kn o).symm),(by omega),trivial⟩ (fun hHeld=> ?_)
  clear hK K
  try simp only [PT]
  refine wpAnyH_done (by kernel_rfl) ?_ _
  refine NoPanic.normal ?_
  go_wp2_with fail
  refine wp_gen fun D1 hV_D1=> ?_
  replace kt:=kK hV_D1 kt
  replace kn:=kK hV_D1 kn
  replace hF:Fr ((oneX tb)) O O1 w D1:=nF hV_D1
  replace hA:AP D1 ap ((t.s.make n).2.2) O1:=nA hV_D1
  have z_D1:=zS hV_D1
  clear hV_D1 c_kt f_kt c_kn f_kn
  obtain ⟨c_kt,f_kt,l_kt_D1⟩:=f3 kt
  obtain ⟨c_kn,f_kn,l_kn_D1⟩:=f3 kn
  refine wp_region_noPanic ?_
  refine wp_region_held_drew (S:=fun v=>(∀o,v.cell? ⟨tb,o,none⟩=D1.cell? ⟨tb,o,none⟩)∧(∀o,v.cell? ⟨w.heap.size,o,none⟩=D1.cell? ⟨w.heap.size,o,none⟩)∧(D1.heap.size≤v.heap.size)∧True) (by kernel_rfl) ⟨(fun _=>rfl),(fun _=>rfl),(Nat.le_refl _),trivial⟩ (fun hHeld=> ?_)
  generalize hV_D1d:D1.drew=D1d at hHeld⊢
  have d_kt:=dK hV_D1d kt
  have d_kn:=dK hV_D1d kn
  clear c_kt f_kt c_kn f_kn
  replace hA:=hA.drew;rw [hV_D1d] at hA
  replace hF:=hF.drew;rw [hV_D1d] at hF
  have z_D1d:=dZ hV_D1d
  have v_kt:=cells_of kt
  have v_kn:=cells_of kn
  clear kt;have kt:=d_kt;clear d_kt
  clear kn;have kn:=d_kn;clear d_kn
  obtain ⟨c_kt,f_kt,l_kt_D1d⟩:=f3 kt
  obtain ⟨c_kn,f_kn,l_kn_D1d⟩:=f3 kn
  clear hV_D1d
  refine tz 0 rfl hHeld ?_
  try simp only [PT]
  refine tz 1 rfl hHeld ?_
  try simp only [PT]
  refine tz 2 rfl hHeld ?_
  try simp only [PT]
  refine tz 3 rfl hHeld ?_
  try simp only [PT]
  refine tz 4 rfl hHeld ?_
  try simp only [PT]
  refine tz 5 rfl hHeld ?_
  try simp only [PT]
  refine tz 6 rfl hHeld ?_
  try simp only [PT]
  refine rd 7 rfl fun K hK=> ?_
  go_simp
  try simp only [IntWalk.i64_left]
  refine (drop_calls _ _ hA).mono ?_
  rintro e_W2 W2 ⟨rfl,O2,hA_W2,hf_W2⟩
  have q_kt:=hf_W2.keep kt o_kt (fun h=>h)
  have q_kn:=hf_W2.keep kn o_kn (fun h=>h)
  replace o_kt:=hf_W2.not_own (lt_of kt) o_kt
  clear kt c_kt f_kt;have kt:=q_kt;clear q_kt
  obtain ⟨c_kt,f_kt,l_kt_W2⟩:=f3 kt
  replace o_kn:=hf_W2.not_own (lt_of kn) o_kn
  clear kn c_kn f_kn;have kn:=q_kn;clear q_kn
  obtain ⟨c_kn,f_kn,l_kn_W2⟩:=f3 kn
  replace hF:=hF.trans hf_W2.widen
  have z_W2:=hf_W2.size
  clear hA hf_W2;have hA:=hA_W2;clear hA_W2
  refine hK.out _ _ ⟨(fun o=>(c_kt o).trans (v_kt o).symm),(fun o=>(c_kn o).trans (v_kn o).symm),(by omega),trivial⟩ (fun hHeld=> ?_)
  clear hK K
  try simp only [PT]
  refine wpAnyH_done (by kernel_rfl) ?_ _
  refine NoPanic.normal ?_
  go_wp2_with fail
  refine wp_gen fun D2 hV_D2=> ?_
  replace kt:=kK hV_D2 kt
  replace kn:=kK hV_D2 kn
  replace hF:Fr ((oneX tb)) O O2 w D2:=nF hV_D2
  replace hA:AP D2 ap (((t.s.make n).2.2).drop n.k0) O2:=nA hV_D2
  have z_D2:=zS hV_D2
  clear hV_D2 c_kt f_kt c_kn f_kn
  obtain ⟨c_kt,f_kt,l_kt_D2⟩:=f3 kt
  obtain ⟨c_kn,f_kn,l_kn_D2⟩:=f3 kn
  refine wp_region_noPanic ?_
  refine wp_region_held_drew (S:=fun v=>(∀o,v.cell? ⟨tb,o,none⟩=D2.cell? ⟨tb,o,none⟩)∧(∀o,v.cell? ⟨w.heap.size,o,none⟩=D2.cell? ⟨w.heap.size,o,none⟩)∧(D2.heap.size≤v.heap.size)∧True) (by kernel_rfl) ⟨(fun _=>rfl),(fun _=>rfl),(Nat.le_refl _),trivial⟩ (fun hHeld=> ?_)
  generalize hV_D2d:D2.drew=D2d at hHeld⊢
  have d_kt:=dK hV_D2d kt
  have d_kn:=dK hV_D2d kn
  clear c_kt f_kt c_kn f_kn
  replace hA:=hA.drew;rw [hV_D2d] at hA
  replace hF:=hF.drew;rw [hV_D2d] at hF
  have z_D2d:=dZ hV_D2d
  have v_kt:=cells_of kt
  have v_kn:=cells_of kn
  clear kt;have kt:=d_kt;clear d_kt
  clear kn;have kn:=d_kn;clear d_kn
  obtain ⟨c_kt,f_kt,l_kt_D2d⟩:=f3 kt
  obtain ⟨c_kn,f_kn,l_kn_D2d⟩:=f3 kn
  clear hV_D2d
  refine tz 0 rfl hHeld ?_
  try simp only [PT]
  refine tz 1 rfl hHeld ?_
  try simp only [PT]
  refine tz 2 rfl hHeld ?_
  try simp only [PT]
  refine tz 3 rfl hHeld ?_
  try simp only [PT]
  refine tz 4 rfl hHeld ?_
  try simp only [PT]
  refine tz 5 rfl hHeld ?_
  try simp only [PT]
  refine tz 6 rfl hHeld ?_
  try simp only [PT]
  refine rd 7 rfl fun K hK=> ?_
  go_simp
  try simp only [IntWalk.i64_left]
  refine (drop_calls _ _ hA).mono ?_
  rintro e_W3 W3 ⟨rfl,O3,hA_W3,hf_W3⟩
  have q_kt:=hf_W3.keep kt o_kt (fun h=>h)
  have q_kn:=hf_W3.keep kn o_kn (fun h=>h)
  replace o_kt:=hf_W3.not_own (lt_of kt) o_kt
  clear kt c_kt f_kt;have kt:=q_kt;clear q_kt
  obtain ⟨c_kt,f_kt,l_kt_W3⟩:=f3 kt
  replace o_kn:=hf_W3.not_own (lt_of kn) o_kn
  clear kn c_kn f_kn;have kn:=q_kn;clear q_kn
  obtain ⟨c_kn,f_kn,l_kn_W3⟩:=f3 kn
  replace hF:=hF.trans hf_W3.widen
  have z_W3:=hf_W3.size
  clear hA hf_W3;have hA:=hA_W3;clear hA_W3
  refine hK.out _ _ ⟨(fun o=>(c_kt o).trans (v_kt o).symm),(fun o=>(c_kn o).trans (v_kn o).symm),(by omega),trivial⟩ (fun hHeld=> ?_)
  clear hK K
  try simp only [PT]
  refine wpAnyH_done (by kernel_rfl) ?_ _
  refine NoPanic.normal ?_
  go_wp2_with fail
  go_ret
  refine ⟨by rw [e1.out];rfl,?_⟩
  rw [e1.out]
  exact ⟨O3,⟨hA,kt,o_kt⟩,hF⟩
 ·
  have d1:(t.e==0)=false:=by simpa using he
  have e1:Hid (t.lnode n=(0,⟨(t.s.drop n.k0).drop n.k1,t.e⟩)):=by
   show _=_
   unfold Tb.lnode Tb.nodeD;rw [if_neg he];rfl
  clear he
  unfold Nd.val
  go_enter Tryz.func147,Tryz.ntmps147
  have hA:=hT.hA
  have kt:=hT.blk
  have o_kt:=hT.no
  obtain ⟨c_kt,f_kt,l_kt_w⟩:=f3 kt
  go_wp2_with fail
  refine wp_gen fun D1 hV_D1=> ?_
  have n_kn:=hbk hV_D1 (w.heap.size)
  simp (maxDischargeDepth:=9) only [BK,not_false_eq_true,reduceCtorEq,kt,l_kt_w] at n_kn
  have o_kn: ¬O (w.heap.size):=by first|exact hA.new (Nat.le_refl _)|exact hA.new (by omega)
  replace kt:=kK hV_D1 kt
  have hF:Fr ((oneX tb)) O O w D1:=nF hV_D1
  replace hA:AP D1 ap t.s O:=nA hV_D1
  have z_D1:=zS hV_D1
  clear hV_D1 c_kt f_kt
  obtain ⟨c_kt,f_kt,l_kt_D1⟩:=f3 kt
  have kn:=n_kn;clear n_kn
  obtain ⟨c_kn,f_kn,l_kn_D1⟩:=f3 kn
  refine wp_region_noPanic ?_
  refine wp_region_held_drew (S:=fun v=>(∀o,v.cell? ⟨tb,o,none⟩=D1.cell? ⟨tb,o,none⟩)∧(∀o,v.cell? ⟨w.heap.size,o,none⟩=D1.cell? ⟨w.heap.size,o,none⟩)∧(D1.heap.size≤v.heap.size)∧True) (by kernel_rfl) ⟨(fun _=>rfl),(fun _=>rfl),(Nat.le_refl _),trivial⟩ (fun hHeld=> ?_)
  generalize hV_D1d:D1.drew=D1d at hHeld⊢
  have d_kt:=dK hV_D1d kt
  have d_kn:=dK hV_D1d kn
  clear c_kt f_kt c_kn f_kn
  replace hA:=hA.drew;rw [hV_D1d] at hA
  replace hF:=hF.drew;rw [hV_D1d] at hF
  have z_D1d:=dZ hV_D1d
  have v_kt:=cells_of kt
  have v_kn:=cells_of kn
  clear kt;have kt:=d_kt;clear d_kt
  clear kn;have kn:=d_kn;clear d_kn
  obtain ⟨c_kt,f_kt,l_kt_D1d⟩:=f3 kt
  obtain ⟨c_kn,f_kn,l_kn_D1d⟩:=f3 kn
  clear hV_D1d
  refine tz 0 rfl hHeld ?_
  try simp only [PT]
  refine tz 1 rfl hHeld ?_
  try simp only [PT]
  refine tz 2 rfl hHeld ?_
  try simp only [PT]
  refine tz 3 rfl hHeld ?_
  try simp only [PT]
  refine tz 4 rfl hHeld ?_
  try simp only [PT]
  refine tz 5 rfl hHeld ?_
  try simp only [PT]
  refine tz 6 rfl hHeld ?_
  try simp only [PT]
  refine rd 7 rfl fun K hK=> ?_
  go_simp
  try simp only [IntWalk.i64_left]
  refine (drop_calls _ _ hA).mono ?_
  rintro e_W2 W2 ⟨rfl,O2,hA_W2,hf_W2⟩
  have q_kt:=hf_W2.keep kt o_kt (fun h=>h)
  have q_kn:=hf_W2.keep kn o_kn (fun h=>h)
  replace o_kt:=hf_W2.not_own (lt_of kt) o_kt
  clear kt c_kt f_kt;have kt:=q_kt;clear q_kt
  obtain ⟨c_kt,f_kt,l_kt_W2⟩:=f3 kt
  replace o_kn:=hf_W2.not_own (lt_of kn) o_kn
  clear kn c_kn f_kn;have kn:=q_kn;clear q_kn
  obtain ⟨c_kn,f_kn,l_kn_W2⟩:=f3 kn
  replace hF:=hF.trans hf_W2.widen
  have z_W2:=hf_W2.size
  clear hA hf_W2;have hA:=hA_W2;clear hA_W2
  refine hK.out _ _ ⟨(fun o=>(c_kt o).trans (v_kt o).symm),(fun o=>(c_kn o).trans (v_kn o).symm),(by omega),trivial⟩ (fun hHeld=> ?_)
  clear hK K
  try simp only [PT]
  refine wpAnyH_done (by kernel_rfl) ?_ _
  refine NoPanic.normal ?_
  go_wp2_with fail
  refine wp_gen fun D2 hV_D2=> ?_
  replace kt:=kK hV_D2 kt
  replace kn:=kK hV_D2 kn
  replace hF:Fr ((oneX tb)) O O2 w D2:=nF hV_D2
  replace hA:AP D2 ap (t.s.drop n.k0) O2:=nA hV_D2
  have z_D2:=zS hV_D2
  clear hV_D2 c_kt f_kt c_kn f_kn
  obtain ⟨c_kt,f_kt,l_kt_D2⟩:=f3 kt
  obtain ⟨c_kn,f_kn,l_kn_D2⟩:=f3 kn
  refine wp_region_noPanic ?_
  refine wp_region_held_drew (S:=fun v=>(∀o,v.cell? ⟨tb,o,none⟩=D2.cell? ⟨tb,o,none⟩)∧(∀o,v.cell? ⟨w.heap.size,o,none⟩=D2.cell? ⟨w.heap.size,o,none⟩)∧(D2.heap.size≤v.heap.size)∧True) (by kernel_rfl) ⟨(fun _=>rfl),(fun _=>rfl),(Nat.le_refl _),trivial⟩ (fun hHeld=> ?_)
  generalize hV_D2d:D2.drew=D2d at hHeld⊢
  have d_kt:=dK hV_D2d kt
  have d_kn:=dK hV_D2d kn
  clear c_kt f_kt c_kn f_kn
  replace hA:=hA.drew;rw [hV_D2d] at hA
  replace hF:=hF.drew;rw [hV_D2d] at hF
  have z_D2d:=dZ hV_D2d
  have v_kt:=cells_of kt
  have v_kn:=cells_of kn
  clear kt;have kt:=d_kt;clear d_kt
  clear kn;have kn:=d_kn;clear d_kn
  obtain ⟨c_kt,f_kt,l_kt_D2d⟩:=f3 kt
  obtain ⟨c_kn,f_kn,l_kn_D2d⟩:=f3 kn
  clear hV_D2d
  refine tz 0 rfl hHeld ?_
  try simp only [PT]
  refine tz 1 rfl hHeld ?_
  try simp only [PT]
  refine tz 2 rfl hHeld ?_
  try simp only [PT]
  refine tz 3 rfl hHeld ?_
  try simp only [PT]
  refine tz 4 rfl hHeld ?_
  try simp only [PT]
  refine tz 5 rfl hHeld ?_
  try simp only [PT]
  refine tz 6 rfl hHeld ?_
  try simp only [PT]
  refine rd 7 rfl fun K hK=> ?_
  go_simp
  try simp only [IntWalk.i64_left]
  refine (drop_calls _ _ hA).mono ?_
  rintro e_W3 W3 ⟨rfl,O3,hA_W3,hf_W3⟩
  have q_kt:=hf_W3.keep kt o_kt (fun h=>h)
  have q_kn:=hf_W3.keep kn o_kn (fun h=>h)
  replace o_kt:=hf_W3.not_own (lt_of kt) o_kt
  clear kt c_kt f_kt;have kt:=q_kt;clear q_kt
  obtain ⟨c_kt,f_kt,l_kt_W3⟩:=f3 kt
  replace o_kn:=hf_W3.not_own (lt_of kn) o_kn
  clear kn c_kn f_kn;have kn:=q_kn;clear q_kn
  obtain ⟨c_kn,f_kn,l_kn_W3⟩:=f3 kn
  replace hF:=hF.trans hf_W3.widen
  have z_W3:=hf_W3.size
  clear hA hf_W3;have hA:=hA_W3;clear hA_W3
  refine hK.out _ _ ⟨(fun o=>(c_kt o).trans (v_kt o).symm),(fun o=>(c_kn o).trans (v_kn o).symm),(by omega),trivial⟩ (fun hHeld=> ?_)
  clear hK K
  try simp only [PT]
  refine wpAnyH_done (by kernel_rfl) ?_ _
  refine NoPanic.normal ?_
  go_wp2_with fail
  go_ret
  refine ⟨by rw [e1.out];rfl,?_⟩
  rw [e1.out]
  exact ⟨O3,⟨hA,kt,o_kt⟩,hF⟩
set_option maxRecDepth 100000 in
set_option maxHeartbeats 800000 in
theorem lItem_calls (x:Int×Int) (w:World) (hT:LB w tb ap t O):
  Calls Tryz.prog 115 #[.pointer (some ⟨tb,0,none⟩), .agg #[.int .i64 x.1, .int .i64 x.2]] w fun e w'=>e= .returned (.int .i64 (t.item x).1)∧DidL tb ap (t.item x).2 O w w':=by
 go_enter Tryz.func115,Tryz.ntmps115
 have hA:=hT.hA
 have kt:=hT.blk
 have o_kt:=hT.no
 obtain ⟨c_kt,f_kt,l_kt_w⟩:=f3 kt
 go_wp2_with fail
 refine calls_gen fun D1 hV_D1=> ?_
 have n_kn:=hbk hV_D1 (w.heap.size)
 simp (maxDischargeDepth:=9) only [BK,not_false_eq_true,reduceCtorEq,kt,l_kt_w] at n_kn
 have o_kn: ¬O (w.heap.size):=by first|exact hA.new (Nat.le_refl _)|exact hA.new (by omega)
 replace kt:=kK hV_D1 kt
 have hF:Fr ((oneX tb)) O O w D1:=nF hV_D1
 replace hA:AP D1 ap t.s O:=nA hV_D1
 have z_D1:=zS hV_D1
 clear hV_D1 c_kt f_kt
 obtain ⟨c_kt,f_kt,l_kt_D1⟩:=f3 kt
 have kn:=n_kn;clear n_kn
 obtain ⟨c_kn,f_kn,l_kn_D1⟩:=f3 kn
 refine (lNode_calls ⟨4,0,0,0,0,u64 x.1,u64 x.2⟩ (U64.u64 _) _ ⟨hA,kt,o_kt⟩).mono ?_
 rintro e_W2 W2 ⟨rfl,O2,hT_W2,hf_W2⟩
 have q_kn:=hf_W2.keep kn o_kn (by unfold oneX;omega)
 replace o_kn:=hf_W2.not_own (lt_of kn) o_kn
 clear kn;have kn:=q_kn;clear q_kn
 obtain ⟨c_kn,f_kn,l_kn_W2⟩:=f3 kn
 clear kt c_kt f_kt o_kt;have kt:=hT_W2.blk;have o_kt:=hT_W2.no
 obtain ⟨c_kt,f_kt,l_kt_W2⟩:=f3 kt
 replace hF:=hF.trans hf_W2
 have z_W2:=hf_W2.size
 clear hA hf_W2;have hA:=hT_W2.hA;clear hT_W2
 go_wp2_with fail
 go_ret
 exact ⟨rfl,O2,⟨hA,kt,o_kt⟩,hF⟩
set_option maxRecDepth 100000 in
set_option maxHeartbeats 800000 in
theorem lPair_calls (x y:Int) (w:World) (hT:LB w tb ap t O):
  Calls Tryz.prog 150 #[.pointer (some ⟨tb,0,none⟩), .int .i64 x, .int .i64 y] w fun e w'=>e= .returned (.int .i64 (t.lpair x y).1)∧DidL tb ap (t.lpair x y).2 O w w':=by
 have hu:U64 (u64 (wrap64 (lLen t.s x+lLen t.s y))):=U64.u64 _
 go_enter Tryz.func150,Tryz.ntmps150
 have hA:=hT.hA
 have kt:=hT.blk
 have o_kt:=hT.no
 obtain ⟨c_kt,f_kt,l_kt_w⟩:=f3 kt
 go_wp2_with fail
 refine wp_gen fun V hV_V=> ?_
 replace kt:=kK hV_V kt
 have hF:Fr ((oneX tb)) O O w V:=nF hV_V
 replace hA:AP V ap t.s O:=nA hV_V
 have z_V:=zS hV_V
 clear hV_V c_kt f_kt
 obtain ⟨c_kt,f_kt,l_kt_V⟩:=f3 kt
 refine wp_region_noPanic ?_
 refine wp_region_held_drew (S:=fun v=>(v.cell? ⟨tb,0,none⟩=V.cell? ⟨tb,0,none⟩)∧(V.heap.size≤v.heap.size)∧True) (by kernel_rfl) ⟨rfl,(Nat.le_refl _),trivial⟩ (fun hHeld=> ?_)
 generalize hV_Vd:V.drew=Vd at hHeld⊢
 have d_kt:=dK hV_Vd kt
 clear c_kt f_kt
 replace hA:=hA.drew;rw [hV_Vd] at hA
 replace hF:=hF.drew;rw [hV_Vd] at hF
 have z_Vd:=dZ hV_Vd
 have v_kt:=cells_of kt
 clear kt;have kt:=d_kt;clear d_kt
 obtain ⟨c_kt,f_kt,l_kt_Vd⟩:=f3 kt
 clear hV_Vd
 refine tz 0 rfl hHeld ?_
 try simp only [PT]
 refine tz 1 rfl hHeld ?_
 try simp only [PT]
 refine tz 2 rfl hHeld ?_
 try simp only [PT]
 refine tz 3 rfl hHeld ?_
 try simp only [PT]
 refine tz 4 rfl hHeld ?_
 try simp only [PT]
 refine tz 5 rfl hHeld ?_
 try simp only [PT]
 refine tz 6 rfl hHeld ?_
 try simp only [PT]
 refine tz 7 rfl hHeld ?_
 try simp only [PT]
 refine tz 8 rfl hHeld ?_
 try simp only [PT]
 refine tz 10 rfl hHeld ?_
 try simp only [PT]
 refine tz 11 rfl hHeld ?_
 try simp only [PT]
 refine tz 12 rfl hHeld ?_
 try simp only [PT]
 refine tz 13 rfl hHeld ?_
 try simp only [PT]
 refine tz 14 rfl hHeld ?_
 try simp only [PT]
 refine rd 9 rfl fun K hK=> ?_
 go_simp
 try simp only [IntWalk.i64_left]
 refine (lLen_calls _ _ hA).mono ?_
 rintro e_W1 W1 ⟨rfl,hb_W1⟩
 replace hA:=hA.below hb_W1
 replace hF:=hF.below hb_W1
 replace kt:=keep_blk hb_W1 kt
 have z_W1:=hb_W1.size
 clear hb_W1 c_kt f_kt
 obtain ⟨c_kt,f_kt,l_kt_W1⟩:=f3 kt
 refine hK.out _ _ ⟨((c_kt 0).trans (v_kt 0).symm),(by omega),trivial⟩ (fun hHeld=> ?_)
 clear hK K
 try simp only [PT]
 refine rd 15 rfl fun K hK=> ?_
 go_simp
 try simp only [IntWalk.i64_left]
 refine (lLen_calls _ _ hA).mono ?_
 rintro e_W2 W2 ⟨rfl,hb_W2⟩
 replace hA:=hA.below hb_W2
 replace hF:=hF.below hb_W2
 replace kt:=keep_blk hb_W2 kt
 have z_W2:=hb_W2.size
 clear hb_W2 c_kt f_kt
 obtain ⟨c_kt,f_kt,l_kt_W2⟩:=f3 kt
 refine hK.out _ _ ⟨((c_kt 0).trans (v_kt 0).symm),(by omega),trivial⟩ (fun hHeld=> ?_)
 clear hK K
 try simp only [PT]
 refine tz 16 rfl hHeld ?_
 try simp only [PT]
 refine tz 17 rfl hHeld ?_
 try simp only [PT]
 refine tz 18 rfl hHeld ?_
 try simp only [PT]
 refine rd 19 rfl fun K hK=> ?_
 go_simp
 try simp only [IntWalk.i64_left]
 refine (lNode_calls ⟨5,x,y,0,0,u64 (wrap64 (lLen t.s x+lLen t.s y)),0⟩ hu _ ⟨hA,kt,o_kt⟩).mono ?_
 rintro e_W5 W5 ⟨rfl,O2,hT_W5,hf_W5⟩
 clear kt c_kt f_kt o_kt;have kt:=hT_W5.blk;have o_kt:=hT_W5.no
 obtain ⟨c_kt,f_kt,l_kt_W5⟩:=f3 kt
 replace hF:=hF.trans hf_W5
 have z_W5:=hf_W5.size
 clear hA hf_W5;have hA:=hT_W5.hA;clear hT_W5
 refine hK.out _ _ ⟨((c_kt 0).trans (v_kt 0).symm),(by omega),trivial⟩ (fun hHeld=> ?_)
 clear hK K
 try simp only [PT]
 refine rd 20 rfl fun K hK=> ?_
 go_simp
 refine hK.out _ _ hHeld (fun hHeld=> ?_)
 clear hK K
 try simp only [PT]
 refine wpAnyH_done (by kernel_rfl) ?_ _
 refine NoPanic.normal ?_
 go_wp2_with fail
 go_ret
 exact ⟨rfl,O2,⟨hA,kt,o_kt⟩,hF⟩
set_option maxRecDepth 100000 in
set_option maxHeartbeats 800000 in
theorem lTold_calls (h:Int) (w:World) (hT:LB w tb ap t O):
  Calls Tryz.prog 112 #[.pointer (some ⟨tb,0,none⟩), .int .i64 h] w fun e w'=>e= .returned (.tuple #[.int .i64 (Tb.told (h,t)).1, .int .i64 (Tb.told (h,t)).2.1])∧DidL tb ap t O w w':=by
 by_cases he:t.e=0
 ·
  have d1:(t.e !=0)=false:=by simp [he]
  have e1:Hid (Tb.told (h,t)=(h,0,t.s)):=by show _=_;unfold Tb.told;rw [if_pos he]
  clear he
  go_enter Tryz.func112,Tryz.ntmps112
  have hA:=hT.hA
  have kt:=hT.blk
  have o_kt:=hT.no
  obtain ⟨c_kt,f_kt,l_kt_w⟩:=f3 kt
  go_wp2_with fail
  go_ret2
  rw [e1.out]
  exact ⟨rfl,O,hT,Fr.refl _ _ _⟩
 ·
  have d1:(t.e !=0)=true:=by simp [he]
  have e1:Hid (Tb.told (h,t)=(0,t.e,t.s)):=by show _=_;unfold Tb.told;rw [if_neg he]
  clear he
  go_enter Tryz.func112,Tryz.ntmps112
  have hA:=hT.hA
  have kt:=hT.blk
  have o_kt:=hT.no
  obtain ⟨c_kt,f_kt,l_kt_w⟩:=f3 kt
  go_wp2_with fail
  refine wp_gen fun V hV_V=> ?_
  replace kt:=kK hV_V kt
  have hF:Fr ((oneX tb)) O O w V:=nF hV_V
  replace hA:AP V ap t.s O:=nA hV_V
  have z_V:=zS hV_V
  clear hV_V c_kt f_kt
  obtain ⟨c_kt,f_kt,l_kt_V⟩:=f3 kt
  refine wp_region_noPanic ?_
  refine wp_region_held_drew (S:=fun v=>(∀o,v.cell? ⟨tb,o,none⟩=V.cell? ⟨tb,o,none⟩)∧(V.heap.size≤v.heap.size)∧AP v ap t.s O) (by kernel_rfl) ⟨(fun _=>rfl),(Nat.le_refl _),hA.drew⟩ (fun hHeld=> ?_)
  generalize hV_Vd:V.drew=Vd at hHeld⊢
  have d_kt:=dK hV_Vd kt
  clear c_kt f_kt
  replace hA:=hA.drew;rw [hV_Vd] at hA
  replace hF:=hF.drew;rw [hV_Vd] at hF
  have z_Vd:=dZ hV_Vd
  have v_kt:=cells_of kt
  clear kt;have kt:=d_kt;clear d_kt
  obtain ⟨c_kt,f_kt,l_kt_Vd⟩:=f3 kt
  clear hV_Vd
  refine tz 0 rfl hHeld ?_
  try simp only [PT]
  refine tz 1 rfl hHeld ?_
  try simp only [PT]
  refine tz 2 rfl hHeld ?_
  try simp only [PT]
  refine tz 3 rfl hHeld ?_
  try simp only [PT]
  refine rd 4 rfl fun K hK=> ?_
  go_simp
  refine hK.out _ _ hHeld (fun hHeld=> ?_)
  clear hK K
  try simp only [PT]
  refine rd 5 rfl fun K hK=> ?_
  go_simp
  refine hK.out _ _ hHeld (fun hHeld=> ?_)
  clear hK K
  try simp only [PT]
  refine wpAnyH_done (by kernel_rfl) ?_ _
  refine NoPanic.normal ?_
  go_wp2_with fail
  go_ret2
  rw [e1.out]
  exact ⟨rfl,O,⟨hA,kt,o_kt⟩,hF⟩
set_option maxRecDepth 100000 in
set_option maxHeartbeats 800000 in
theorem lHigh_calls: ∀(k:Nat) (h r:Int) (w:World),lHigh k t.s h=some r→LB w tb ap t O→
  Calls Tryz.prog 148 #[.pointer (some ⟨tb,0,none⟩), .int .i64 h] w fun e w'=>e= .returned (.int .i64 r)∧Below w.heap.size w w'
 | 0,h,r,w,hr,hT=>by cases hr
 | k+1,h,r,w,hr,hT=>by
  have ih:=Lib.hid (lHigh_calls k)
  unfold lHigh at hr
  cases h1:lIs t.s h with
  | false=>
   rw [h1,if_neg (by decide)] at hr
   cases hr
   go_enter Tryz.func148,Tryz.ntmps148
   have hA:=hT.hA
   have kt:=hT.blk
   have o_kt:=hT.no
   obtain ⟨c_kt,f_kt,l_kt_w⟩:=f3 kt
   go_wp2_with fail
   refine calls_gen fun V hV_V=> ?_
   replace kt:=kK hV_V kt
   have hB:Below w.heap.size w V:=nB hV_V
   replace hA:AP V ap t.s O:=nA hV_V
   have z_V:=zS hV_V
   clear hV_V c_kt f_kt
   obtain ⟨c_kt,f_kt,l_kt_V⟩:=f3 kt
   refine (lRow_calls _ _ hA).mono ?_
   rintro e_W1 W1 ⟨rfl,hb_W1⟩
   replace hA:=hA.below hb_W1
   replace hB:=below_step hB hb_W1
   replace kt:=keep_blk hb_W1 kt
   have z_W1:=hb_W1.size
   clear hb_W1 c_kt f_kt
   obtain ⟨c_kt,f_kt,l_kt_W1⟩:=f3 kt
   unfold Nd.val
   go_wp2_with fail
   go_ret
   exact ⟨rfl,by (repeat' first|with_reducible assumption|with_reducible exact Below.refl _ _|with_reducible refine Below.alloc ?_ ?_ _|with_reducible refine Below.setCell ?_ ?_ _|with_reducible refine below_drewN ?_ _|with_reducible refine Below.drew ?_|exact Nat.le_refl _|((try dsimp only);omega)|(simp only [siz_alloc,siz_set];omega))⟩
  | true=>
   rw [h1,if_pos rfl] at hr
   by_cases h2:(t.s.get h).tag=4
   ·
    have d1:((t.s.get h).tag==4)=true:=by simpa using h2
    rw [if_pos h2] at hr
    cases hr
    clear h2
    go_enter Tryz.func148,Tryz.ntmps148
    have hA:=hT.hA
    have kt:=hT.blk
    have o_kt:=hT.no
    obtain ⟨c_kt,f_kt,l_kt_w⟩:=f3 kt
    go_wp2_with fail
    refine calls_gen fun V hV_V=> ?_
    replace kt:=kK hV_V kt
    have hB:Below w.heap.size w V:=nB hV_V
    replace hA:AP V ap t.s O:=nA hV_V
    have z_V:=zS hV_V
    clear hV_V c_kt f_kt
    obtain ⟨c_kt,f_kt,l_kt_V⟩:=f3 kt
    refine (lRow_calls _ _ hA).mono ?_
    rintro e_W1 W1 ⟨rfl,hb_W1⟩
    replace hA:=hA.below hb_W1
    replace hB:=below_step hB hb_W1
    replace kt:=keep_blk hb_W1 kt
    have z_W1:=hb_W1.size
    clear hb_W1 c_kt f_kt
    obtain ⟨c_kt,f_kt,l_kt_W1⟩:=f3 kt
    unfold Nd.val
    go_wp2_with fail
    go_ret
    exact ⟨rfl,by (repeat' first|with_reducible assumption|with_reducible exact Below.refl _ _|with_reducible refine Below.alloc ?_ ?_ _|with_reducible refine Below.setCell ?_ ?_ _|with_reducible refine below_drewN ?_ _|with_reducible refine Below.drew ?_|exact Nat.le_refl _|((try dsimp only);omega)|(simp only [siz_alloc,siz_set];omega))⟩
   ·
    have d1:((t.s.get h).tag==4)=false:=by simpa using h2
    rw [if_neg h2] at hr
    clear h2
    obtain ⟨p,hp,hr⟩:=Option.bind_eq_some_iff.1 hr
    obtain ⟨q,hq,hr⟩:=Option.bind_eq_some_iff.1 hr
    have hr:=Option.some.inj hr
    have Hp:=Lib.hid hp;have Hq:=Lib.hid hq;have Hr:=Lib.hid hr
    clear hp hq hr
    by_cases hpq:p<q
    all_goals
     go_enter Tryz.func148,Tryz.ntmps148
     have hA:=hT.hA
     have kt:=hT.blk
     have o_kt:=hT.no
     obtain ⟨c_kt,f_kt,l_kt_w⟩:=f3 kt
     go_wp2_with fail
     refine calls_gen fun V hV_V=> ?_
     replace kt:=kK hV_V kt
     have hB:Below w.heap.size w V:=nB hV_V
     replace hA:AP V ap t.s O:=nA hV_V
     have z_V:=zS hV_V
     clear hV_V c_kt f_kt
     obtain ⟨c_kt,f_kt,l_kt_V⟩:=f3 kt
     refine (lRow_calls _ _ hA).mono ?_
     rintro e_W1 W1 ⟨rfl,hb_W1⟩
     replace hA:=hA.below hb_W1
     replace hB:=below_step hB hb_W1
     replace kt:=keep_blk hb_W1 kt
     have z_W1:=hb_W1.size
     clear hb_W1 c_kt f_kt
     obtain ⟨c_kt,f_kt,l_kt_W1⟩:=f3 kt
     unfold Nd.val
     go_wp2_with fail
     refine wp_gen fun V1 hV_V1=> ?_
     have n_kn:=hbk hV_V1 (W1.heap.size)
     simp (maxDischargeDepth:=9) only [BK,not_false_eq_true,reduceCtorEq,kt,l_kt_w,l_kt_V,l_kt_W1] at n_kn
     have o_kn: ¬O (W1.heap.size):=by first|exact hA.new (Nat.le_refl _)|exact hA.new (by omega)
     replace kt:=kK hV_V1 kt
     replace hB:Below w.heap.size w V1:=nB hV_V1
     replace hA:AP V1 ap t.s O:=nA hV_V1
     have z_V1:=zS hV_V1
     clear hV_V1 c_kt f_kt
     obtain ⟨c_kt,f_kt,l_kt_V1⟩:=f3 kt
     have kn:=n_kn;clear n_kn
     obtain ⟨c_kn,f_kn,l_kn_V1⟩:=f3 kn
     refine wp_region_noPanic ?_
     refine wp_region_held_drew (S:=fun v=>(∀o,v.cell? ⟨tb,o,none⟩=V1.cell? ⟨tb,o,none⟩)∧(∀o,v.cell? ⟨W1.heap.size,o,none⟩=V1.cell? ⟨W1.heap.size,o,none⟩)∧(V1.heap.size≤v.heap.size)∧AP v ap t.s O) (by kernel_rfl) ⟨(fun _=>rfl),(fun _=>rfl),(Nat.le_refl _),hA.drew⟩ (fun hHeld=> ?_)
     generalize hV_V1d:V1.drew=V1d at hHeld⊢
     have d_kt:=dK hV_V1d kt
     have d_kn:=dK hV_V1d kn
     clear c_kt f_kt c_kn f_kn
     replace hA:=hA.drew;rw [hV_V1d] at hA
     replace hB:=hB.drew;rw [hV_V1d] at hB
     have z_V1d:=dZ hV_V1d
     have v_kt:=cells_of kt
     have v_kn:=cells_of kn
     clear kt;have kt:=d_kt;clear d_kt
     clear kn;have kn:=d_kn;clear d_kn
     obtain ⟨c_kt,f_kt,l_kt_V1d⟩:=f3 kt
     obtain ⟨c_kn,f_kn,l_kn_V1d⟩:=f3 kn
     clear hV_V1d
     refine tz 0 rfl hHeld ?_
     try simp only [PT]
     refine tz 1 rfl hHeld ?_
     try simp only [PT]
     refine tz 2 rfl hHeld ?_
     try simp only [PT]
     refine tz 3 rfl hHeld ?_
     try simp only [PT]
     refine tz 5 rfl hHeld ?_
     try simp only [PT]
     refine tz 6 rfl hHeld ?_
     try simp only [PT]
     refine tz 7 rfl hHeld ?_
     try simp only [PT]
     refine tz 8 rfl hHeld ?_
     try simp only [PT]
     refine rd 4 rfl fun K hK=> ?_
     go_simp
     try simp only [IntWalk.i64_left]
     refine (ih.out _ _ _ Hp.out ⟨hA,kt,o_kt⟩).mono ?_
     rintro e_W2 W2 ⟨rfl,hb_W2⟩
     replace hA:=hA.below hb_W2
     replace hB:=below_step hB hb_W2
     replace kt:=keep_blk hb_W2 kt
     replace kn:=keep_blk hb_W2 kn
     have z_W2:=hb_W2.size
     clear hb_W2 c_kt f_kt c_kn f_kn
     obtain ⟨c_kt,f_kt,l_kt_W2⟩:=f3 kt
     obtain ⟨c_kn,f_kn,l_kn_W2⟩:=f3 kn
     refine hK.out _ _ ⟨(fun o=>(c_kt o).trans (v_kt o).symm),(fun o=>(c_kn o).trans (v_kn o).symm),(by omega),hA⟩ (fun hHeld=> ?_)
     clear hK K
     try simp only [PT]
     refine rd 9 rfl fun K hK=> ?_
     go_simp
     try simp only [IntWalk.i64_left]
     refine (ih.out _ _ _ Hq.out ⟨hA,kt,o_kt⟩).mono ?_
     rintro e_W3 W3 ⟨rfl,hb_W3⟩
     replace hA:=hA.below hb_W3
     replace hB:=below_step hB hb_W3
     replace kt:=keep_blk hb_W3 kt
     replace kn:=keep_blk hb_W3 kn
     have z_W3:=hb_W3.size
     clear hb_W3 c_kt f_kt c_kn f_kn
     obtain ⟨c_kt,f_kt,l_kt_W3⟩:=f3 kt
     obtain ⟨c_kn,f_kn,l_kn_W3⟩:=f3 kn
     refine hK.out _ _ ⟨(fun o=>(c_kt o).trans (v_kt o).symm),(fun o=>(c_kn o).trans (v_kn o).symm),(by omega),hA⟩ (fun hHeld=> ?_)
     clear hK K
     try simp only [PT]
     refine tz 10 rfl hHeld ?_
     try simp only [PT]
     refine tz 11 rfl hHeld ?_
     try simp only [PT]
     refine rd 12 rfl fun K hK=> ?_
     go_simp
     refine hK.out _ _ hHeld (fun hHeld=> ?_)
     clear hK K
     try simp only [PT]
     refine wpAnyH_done (by kernel_rfl) ?_ _
     refine NoPanic.normal ?_
     go_wp2_with fail
     go_ret
     refine ⟨?_,by (repeat' first|with_reducible assumption|with_reducible exact Below.refl _ _|with_reducible refine Below.alloc ?_ ?_ _|with_reducible refine Below.setCell ?_ ?_ _|with_reducible refine below_drewN ?_ _|with_reducible refine Below.drew ?_|exact Nat.le_refl _|((try dsimp only);omega)|(simp only [siz_alloc,siz_set];omega))⟩
     rw [←Hr.out]
     unfold imax
     first|rw [if_pos hpq]|rw [if_neg (Int.not_lt.2 hpq)]
     simp only [IntWalk.i64_left]
     rfl
set_option maxRecDepth 100000 in
set_option maxHeartbeats 800000 in
theorem lOpen_calls (h:Int) (w:World) (hT:LB w tb ap t O):
  Calls Tryz.prog 149 #[.pointer (some ⟨tb,0,none⟩), .int .i64 h] w fun e w'=>e= .returned (.tuple #[.int .i64 (t.s.get h).k0, .int .i64 (t.s.get h).k1])∧DidL tb ap (t.opened h) O w w':=by
 go_enter Tryz.func149,Tryz.ntmps149
 have hA:=hT.hA
 have kt:=hT.blk
 have o_kt:=hT.no
 obtain ⟨c_kt,f_kt,l_kt_w⟩:=f3 kt
 go_wp2_with fail
 refine calls_gen fun V hV_V=> ?_
 replace kt:=kK hV_V kt
 have hF:Fr ((oneX tb)) O O w V:=nF hV_V
 replace hA:AP V ap t.s O:=nA hV_V
 have z_V:=zS hV_V
 clear hV_V c_kt f_kt
 obtain ⟨c_kt,f_kt,l_kt_V⟩:=f3 kt
 refine (lRow_calls _ _ hA).mono ?_
 rintro e_W1 W1 ⟨rfl,hb_W1⟩
 replace hA:=hA.below hb_W1
 replace hF:=hF.below hb_W1
 replace kt:=keep_blk hb_W1 kt
 have z_W1:=hb_W1.size
 clear hb_W1 c_kt f_kt
 obtain ⟨c_kt,f_kt,l_kt_W1⟩:=f3 kt
 unfold Nd.val
 go_wp2_with fail
 refine wp_gen fun V1 hV_V1=> ?_
 have n_kn:=hbk hV_V1 (W1.heap.size)
 simp (maxDischargeDepth:=9) only [BK,not_false_eq_true,reduceCtorEq,kt,l_kt_w,l_kt_V,l_kt_W1] at n_kn
 have o_kn: ¬O (W1.heap.size):=by first|exact hA.new (Nat.le_refl _)|exact hA.new (by omega)
 replace kt:=kK hV_V1 kt
 replace hF:Fr ((oneX tb)) O O w V1:=nF hV_V1
 replace hA:AP V1 ap t.s O:=nA hV_V1
 have z_V1:=zS hV_V1
 clear hV_V1 c_kt f_kt
 obtain ⟨c_kt,f_kt,l_kt_V1⟩:=f3 kt
 have kn:=n_kn;clear n_kn
 obtain ⟨c_kn,f_kn,l_kn_V1⟩:=f3 kn
 refine wp_region_noPanic ?_
 refine wp_region_held_drew (S:=fun v=>(∀o,v.cell? ⟨tb,o,none⟩=V1.cell? ⟨tb,o,none⟩)∧(∀o,v.cell? ⟨W1.heap.size,o,none⟩=V1.cell? ⟨W1.heap.size,o,none⟩)∧(V1.heap.size≤v.heap.size)∧True) (by kernel_rfl) ⟨(fun _=>rfl),(fun _=>rfl),(Nat.le_refl _),trivial⟩ (fun hHeld=> ?_)
 generalize hV_V1d:V1.drew=V1d at hHeld⊢
 have d_kt:=dK hV_V1d kt
 have d_kn:=dK hV_V1d kn
 clear c_kt f_kt c_kn f_kn
 replace hA:=hA.drew;rw [hV_V1d] at hA
 replace hF:=hF.drew;rw [hV_V1d] at hF
 have z_V1d:=dZ hV_V1d
 have v_kt:=cells_of kt
 have v_kn:=cells_of kn
 clear kt;have kt:=d_kt;clear d_kt
 clear kn;have kn:=d_kn;clear d_kn
 obtain ⟨c_kt,f_kt,l_kt_V1d⟩:=f3 kt
 obtain ⟨c_kn,f_kn,l_kn_V1d⟩:=f3 kn
 clear hV_V1d
 refine tz 0 rfl hHeld ?_
 try simp only [PT]
 refine tz 1 rfl hHeld ?_
 try simp only [PT]
 refine tz 2 rfl hHeld ?_
 try simp only [PT]
 refine tz 3 rfl hHeld ?_
 try simp only [PT]
 refine tz 5 rfl hHeld ?_
 try simp only [PT]
 refine tz 6 rfl hHeld ?_
 try simp only [PT]
 refine tz 7 rfl hHeld ?_
 try simp only [PT]
 refine tz 8 rfl hHeld ?_
 try simp only [PT]
 refine rd 4 rfl fun K hK=> ?_
 go_simp
 try simp only [IntWalk.i64_left]
 refine (lKeep_calls (t:=t) (t.s.get h).k0 _ ⟨hA,kt,o_kt⟩).mono ?_
 rintro e_W2 W2 ⟨rfl,O1,hT_W2,hf_W2⟩
 have q_kn:=hf_W2.keep kn o_kn (by unfold oneX;omega)
 replace o_kn:=hf_W2.not_own (lt_of kn) o_kn
 clear kn;have kn:=q_kn;clear q_kn
 obtain ⟨c_kn,f_kn,l_kn_W2⟩:=f3 kn
 clear kt c_kt f_kt o_kt;have kt:=hT_W2.blk;have o_kt:=hT_W2.no
 obtain ⟨c_kt,f_kt,l_kt_W2⟩:=f3 kt
 replace hF:=hF.trans hf_W2
 have z_W2:=hf_W2.size
 clear hA hf_W2;have hA:=hT_W2.hA;clear hT_W2
 refine hK.out _ _ ⟨(fun o=>(c_kt o).trans (v_kt o).symm),(fun o=>(c_kn o).trans (v_kn o).symm),(by omega),trivial⟩ (fun hHeld=> ?_)
 clear hK K
 try simp only [PT]
 refine rd 9 rfl fun K hK=> ?_
 go_simp
 try simp only [IntWalk.i64_left]
 refine (lKeep_calls (t:=t.keep (t.s.get h).k0) (t.s.get h).k1 _ ⟨hA,kt,o_kt⟩).mono ?_
 rintro e_W3 W3 ⟨rfl,O2,hT_W3,hf_W3⟩
 have q_kn:=hf_W3.keep kn o_kn (by unfold oneX;omega)
 replace o_kn:=hf_W3.not_own (lt_of kn) o_kn
 clear kn;have kn:=q_kn;clear q_kn
 obtain ⟨c_kn,f_kn,l_kn_W3⟩:=f3 kn
 clear kt c_kt f_kt o_kt;have kt:=hT_W3.blk;have o_kt:=hT_W3.no
 obtain ⟨c_kt,f_kt,l_kt_W3⟩:=f3 kt
 replace hF:=hF.trans hf_W3
 have z_W3:=hf_W3.size
 clear hA hf_W3;have hA:=hT_W3.hA;clear hT_W3
 refine hK.out _ _ ⟨(fun o=>(c_kt o).trans (v_kt o).symm),(fun o=>(c_kn o).trans (v_kn o).symm),(by omega),trivial⟩ (fun hHeld=> ?_)
 clear hK K
 try simp only [PT]
 refine rd 10 rfl fun K hK=> ?_
 go_simp
 refine hK.out _ _ hHeld (fun hHeld=> ?_)
 clear hK K
 try simp only [PT]
 refine rd 11 rfl fun K hK=> ?_
 go_simp
 refine hK.out _ _ hHeld (fun hHeld=> ?_)
 clear hK K
 try simp only [PT]
 refine wpAnyH_done (by kernel_rfl) ?_ _
 refine NoPanic.normal ?_
 go_wp2_with fail
 refine calls_gen fun V4 hV_V4=> ?_
 replace kt:=kK hV_V4 kt
 replace kn:=kK hV_V4 kn
 replace hF:Fr ((oneX tb)) O O2 w V4:=nF hV_V4
 replace hA:AP V4 ap ((t.keep (t.s.get h).k0).keep (t.s.get h).k1).s O2:=nA hV_V4
 have z_V4:=zS hV_V4
 clear hV_V4 c_kt f_kt c_kn f_kn
 obtain ⟨c_kt,f_kt,l_kt_V4⟩:=f3 kt
 obtain ⟨c_kn,f_kn,l_kn_V4⟩:=f3 kn
 refine (drop_calls _ _ hA).mono ?_
 rintro e_W5 W5 ⟨rfl,O3,hA_W5,hf_W5⟩
 have q_kt:=hf_W5.keep kt o_kt (fun h=>h)
 have q_kn:=hf_W5.keep kn o_kn (fun h=>h)
 replace o_kt:=hf_W5.not_own (lt_of kt) o_kt
 clear kt c_kt f_kt;have kt:=q_kt;clear q_kt
 obtain ⟨c_kt,f_kt,l_kt_W5⟩:=f3 kt
 replace o_kn:=hf_W5.not_own (lt_of kn) o_kn
 clear kn c_kn f_kn;have kn:=q_kn;clear q_kn
 obtain ⟨c_kn,f_kn,l_kn_W5⟩:=f3 kn
 replace hF:=hF.trans hf_W5.widen
 have z_W5:=hf_W5.size
 clear hA hf_W5;have hA:=hA_W5;clear hA_W5
 go_wp2_with fail
 go_ret2
 exact ⟨rfl,O3,⟨hA,kt,o_kt⟩,hF⟩
end Go.Proofs.YtdjpjmkpndmhaaaGreat
namespace Go.Proofs.YtdjpjmkpndmhaaaGreat
open Go.RowKit
attribute [local go_sem ↓] Go.wp_at_zero Go.wp_at_succ
attribute [local go_sem] lt_s2 lt_s3 lt_s4
variable {ap : Value} {O : Nat → Prop} {tb : Nat} {t : Tb}
set_option maxRecDepth 100000 in
set_option maxHeartbeats 4000000 in
theorem lJoin_calls (x y:Int) (r:Int×Tb) (hr:t.join x y=some r) (w:World) (hT:LB w tb ap t O):
  Calls Tryz.prog 116 #[.pointer (some ⟨tb,0,none⟩), .int .i64 x, .int .i64 y] w fun e w'=>e= .returned (.int .i64 r.1)∧DidL tb ap r.2 O w w':=by
 unfold Tb.join at hr
 obtain ⟨p,h_b,h_r⟩:=Option.bind_eq_some_iff.1 hr
 have Hp:=Lib.hid h_b;clear h_b hr;have hr:=h_r;clear h_r
 obtain ⟨q,h_b,h_r⟩:=Option.bind_eq_some_iff.1 hr
 have Hq:=Lib.hid h_b;clear h_b hr;have hr:=h_r;clear h_r
 by_cases he:t.e=0
 ·
  have d1:(t.e !=0)=false:=by simp [he]
  rw [if_pos he] at hr
  clear he
  by_cases hx:x=0
  ·
   have x1:(x==0)=true:=by simpa using hx
   rw [if_pos (.inl hx)] at hr
   obtain rfl:=Option.some.inj hr
   clear hr hx
   go_enter Tryz.func116,Tryz.ntmps116
   have hA:=hT.hA
   have kt:=hT.blk
   have o_kt:=hT.no
   obtain ⟨c_kt,f_kt,l_kt_w⟩:=f3 kt
   go_wp2_with fail
   refine calls_gen fun VW1 hV_VW1=> ?_
   replace kt:=kK hV_VW1 kt
   have hF:Fr ((oneX tb)) O O w VW1:=nF hV_VW1
   replace hA:AP VW1 ap t.s O:=nA hV_VW1
   have z_VW1:=zS hV_VW1
   clear hV_VW1 c_kt f_kt
   obtain ⟨c_kt,f_kt,l_kt_VW1⟩:=f3 kt
   refine (lHigh_calls (t:=t) _ _ _ _ Hp.out ⟨hA,kt,o_kt⟩).mono ?_
   rintro e_W1 W1 ⟨rfl,hb_W1⟩
   replace hA:=hA.below hb_W1
   replace hF:=hF.below hb_W1
   replace kt:=keep_blk hb_W1 kt
   have z_W1:=hb_W1.size
   clear hb_W1 c_kt f_kt
   obtain ⟨c_kt,f_kt,l_kt_W1⟩:=f3 kt
   go_wp2_with fail
   refine calls_gen fun VW2 hV_VW2=> ?_
   replace kt:=kK hV_VW2 kt
   replace hF:Fr ((oneX tb)) O O w VW2:=nF hV_VW2
   replace hA:AP VW2 ap t.s O:=nA hV_VW2
   have z_VW2:=zS hV_VW2
   clear hV_VW2 c_kt f_kt
   obtain ⟨c_kt,f_kt,l_kt_VW2⟩:=f3 kt
   refine (lHigh_calls (t:=t) _ _ _ _ Hq.out ⟨hA,kt,o_kt⟩).mono ?_
   rintro e_W2 W2 ⟨rfl,hb_W2⟩
   replace hA:=hA.below hb_W2
   replace hF:=hF.below hb_W2
   replace kt:=keep_blk hb_W2 kt
   have z_W2:=hb_W2.size
   clear hb_W2 c_kt f_kt
   obtain ⟨c_kt,f_kt,l_kt_W2⟩:=f3 kt
   go_wp2_with fail
   go_ret
   exact ⟨rfl,O,⟨hA,kt,o_kt⟩,hF⟩
  have x1:(x==0)=false:=by simpa using hx
  by_cases hy:y=0
  ·
   have y1:(y==0)=true:=by simpa using hy
   rw [if_pos (.inr hy)] at hr
   obtain rfl:=Option.some.inj hr
   clear hr hx hy
   go_enter Tryz.func116,Tryz.ntmps116
   have hA:=hT.hA
   have kt:=hT.blk
   have o_kt:=hT.no
   obtain ⟨c_kt,f_kt,l_kt_w⟩:=f3 kt
   go_wp2_with fail
   refine calls_gen fun VW1 hV_VW1=> ?_
   replace kt:=kK hV_VW1 kt
   have hF:Fr ((oneX tb)) O O w VW1:=nF hV_VW1
   replace hA:AP VW1 ap t.s O:=nA hV_VW1
   have z_VW1:=zS hV_VW1
   clear hV_VW1 c_kt f_kt
   obtain ⟨c_kt,f_kt,l_kt_VW1⟩:=f3 kt
   refine (lHigh_calls (t:=t) _ _ _ _ Hp.out ⟨hA,kt,o_kt⟩).mono ?_
   rintro e_W1 W1 ⟨rfl,hb_W1⟩
   replace hA:=hA.below hb_W1
   replace hF:=hF.below hb_W1
   replace kt:=keep_blk hb_W1 kt
   have z_W1:=hb_W1.size
   clear hb_W1 c_kt f_kt
   obtain ⟨c_kt,f_kt,l_kt_W1⟩:=f3 kt
   go_wp2_with fail
   refine calls_gen fun VW2 hV_VW2=> ?_
   replace kt:=kK hV_VW2 kt
   replace hF:Fr ((oneX tb)) O O w VW2:=nF hV_VW2
   replace hA:AP VW2 ap t.s O:=nA hV_VW2
   have z_VW2:=zS hV_VW2
   clear hV_VW2 c_kt f_kt
   obtain ⟨c_kt,f_kt,l_kt_VW2⟩:=f3 kt
   refine (lHigh_calls (t:=t) _ _ _ _ Hq.out ⟨hA,kt,o_kt⟩).mono ?_
   rintro e_W2 W2 ⟨rfl,hb_W2⟩
   replace hA:=hA.below hb_W2
   replace hF:=hF.below hb_W2
   replace kt:=keep_blk hb_W2 kt
   have z_W2:=hb_W2.size
   clear hb_W2 c_kt f_kt
   obtain ⟨c_kt,f_kt,l_kt_W2⟩:=f3 kt
   go_wp2_with fail
   go_ret
   exact ⟨rfl,O,⟨hA,kt,o_kt⟩,hF⟩
  have y1:(y==0)=false:=by simpa using hy
  rw [if_neg (by intro h;rcases h with h|h;exact hx h;exact hy h)] at hr
  clear hx hy
  by_cases c1:wrap64 (q+1)<p
  ·
   have d2:decide (wrap64 (q+1)<p)=true:=by simpa using c1
   rw [if_pos c1] at hr
   clear c1
   dsimp only at hr
   obtain ⟨a,h_b,h_r⟩:=Option.bind_eq_some_iff.1 hr
   have Ha:=Lib.hid h_b;clear h_b hr;have hr:=h_r;clear h_r
   obtain ⟨b,h_b,h_r⟩:=Option.bind_eq_some_iff.1 hr
   have Hb:=Lib.hid h_b;clear h_b hr;have hr:=h_r;clear h_r
   by_cases c2:b≤a
   ·
    have d3:decide (b≤a)=true:=by simpa using c2
    rw [if_pos c2] at hr
    clear c2
    obtain rfl:=Option.some.inj hr
    clear hr
    go_enter Tryz.func116,Tryz.ntmps116
    have hA:=hT.hA
    have kt:=hT.blk
    have o_kt:=hT.no
    obtain ⟨c_kt,f_kt,l_kt_w⟩:=f3 kt
    go_wp2_with fail
    refine calls_gen fun VW1 hV_VW1=> ?_
    replace kt:=kK hV_VW1 kt
    have hF:Fr ((oneX tb)) O O w VW1:=nF hV_VW1
    replace hA:AP VW1 ap t.s O:=nA hV_VW1
    have z_VW1:=zS hV_VW1
    clear hV_VW1 c_kt f_kt
    obtain ⟨c_kt,f_kt,l_kt_VW1⟩:=f3 kt
    refine (lHigh_calls (t:=t) _ _ _ _ Hp.out ⟨hA,kt,o_kt⟩).mono ?_
    rintro e_W1 W1 ⟨rfl,hb_W1⟩
    replace hA:=hA.below hb_W1
    replace hF:=hF.below hb_W1
    replace kt:=keep_blk hb_W1 kt
    have z_W1:=hb_W1.size
    clear hb_W1 c_kt f_kt
    obtain ⟨c_kt,f_kt,l_kt_W1⟩:=f3 kt
    go_wp2_with fail
    refine calls_gen fun VW2 hV_VW2=> ?_
    replace kt:=kK hV_VW2 kt
    replace hF:Fr ((oneX tb)) O O w VW2:=nF hV_VW2
    replace hA:AP VW2 ap t.s O:=nA hV_VW2
    have z_VW2:=zS hV_VW2
    clear hV_VW2 c_kt f_kt
    obtain ⟨c_kt,f_kt,l_kt_VW2⟩:=f3 kt
    refine (lHigh_calls (t:=t) _ _ _ _ Hq.out ⟨hA,kt,o_kt⟩).mono ?_
    rintro e_W2 W2 ⟨rfl,hb_W2⟩
    replace hA:=hA.below hb_W2
    replace hF:=hF.below hb_W2
    replace kt:=keep_blk hb_W2 kt
    have z_W2:=hb_W2.size
    clear hb_W2 c_kt f_kt
    obtain ⟨c_kt,f_kt,l_kt_W2⟩:=f3 kt
    go_wp2_with fail
    refine calls_gen fun VW3 hV_VW3=> ?_
    replace kt:=kK hV_VW3 kt
    replace hF:Fr ((oneX tb)) O O w VW3:=nF hV_VW3
    replace hA:AP VW3 ap t.s O:=nA hV_VW3
    have z_VW3:=zS hV_VW3
    clear hV_VW3 c_kt f_kt
    obtain ⟨c_kt,f_kt,l_kt_VW3⟩:=f3 kt
    refine (lOpen_calls (t:=t) x _ ⟨hA,kt,o_kt⟩).mono ?_
    rintro e_W3 W3 ⟨rfl,O1,hT_W3,hf_W3⟩
    clear kt c_kt f_kt o_kt;have kt:=hT_W3.blk;have o_kt:=hT_W3.no
    obtain ⟨c_kt,f_kt,l_kt_W3⟩:=f3 kt
    replace hF:=hF.trans hf_W3
    have z_W3:=hf_W3.size
    clear hA hf_W3;have hA:=hT_W3.hA;clear hT_W3
    go_wp2_with fail
    refine calls_gen fun VW4 hV_VW4=> ?_
    replace kt:=kK hV_VW4 kt
    replace hF:Fr ((oneX tb)) O O1 w VW4:=nF hV_VW4
    replace hA:AP VW4 ap ((t).opened x).s O1:=nA hV_VW4
    have z_VW4:=zS hV_VW4
    clear hV_VW4 c_kt f_kt
    obtain ⟨c_kt,f_kt,l_kt_VW4⟩:=f3 kt
    refine (lHigh_calls (t:=t.opened x) _ _ _ _ Ha.out ⟨hA,kt,o_kt⟩).mono ?_
    rintro e_W4 W4 ⟨rfl,hb_W4⟩
    replace hA:=hA.below hb_W4
    replace hF:=hF.below hb_W4
    replace kt:=keep_blk hb_W4 kt
    have z_W4:=hb_W4.size
    clear hb_W4 c_kt f_kt
    obtain ⟨c_kt,f_kt,l_kt_W4⟩:=f3 kt
    go_wp2_with fail
    refine calls_gen fun VW5 hV_VW5=> ?_
    replace kt:=kK hV_VW5 kt
    replace hF:Fr ((oneX tb)) O O1 w VW5:=nF hV_VW5
    replace hA:AP VW5 ap ((t).opened x).s O1:=nA hV_VW5
    have z_VW5:=zS hV_VW5
    clear hV_VW5 c_kt f_kt
    obtain ⟨c_kt,f_kt,l_kt_VW5⟩:=f3 kt
    refine (lHigh_calls (t:=t.opened x) _ _ _ _ Hb.out ⟨hA,kt,o_kt⟩).mono ?_
    rintro e_W5 W5 ⟨rfl,hb_W5⟩
    replace hA:=hA.below hb_W5
    replace hF:=hF.below hb_W5
    replace kt:=keep_blk hb_W5 kt
    have z_W5:=hb_W5.size
    clear hb_W5 c_kt f_kt
    obtain ⟨c_kt,f_kt,l_kt_W5⟩:=f3 kt
    go_wp2_with fail
    refine calls_gen fun VW6 hV_VW6=> ?_
    replace kt:=kK hV_VW6 kt
    replace hF:Fr ((oneX tb)) O O1 w VW6:=nF hV_VW6
    replace hA:AP VW6 ap ((t).opened x).s O1:=nA hV_VW6
    have z_VW6:=zS hV_VW6
    clear hV_VW6 c_kt f_kt
    obtain ⟨c_kt,f_kt,l_kt_VW6⟩:=f3 kt
    refine (lPair_calls (t:=t.opened x) _ _ _ ⟨hA,kt,o_kt⟩).mono ?_
    rintro e_W6 W6 ⟨rfl,O2,hT_W6,hf_W6⟩
    clear kt c_kt f_kt o_kt;have kt:=hT_W6.blk;have o_kt:=hT_W6.no
    obtain ⟨c_kt,f_kt,l_kt_W6⟩:=f3 kt
    replace hF:=hF.trans hf_W6
    have z_W6:=hf_W6.size
    clear hA hf_W6;have hA:=hT_W6.hA;clear hT_W6
    go_wp2_with fail
    refine calls_gen fun VW7 hV_VW7=> ?_
    replace kt:=kK hV_VW7 kt
    replace hF:Fr ((oneX tb)) O O2 w VW7:=nF hV_VW7
    replace hA:AP VW7 ap (((t.opened x).lpair (t.s.get x).k1 y).2).s O2:=nA hV_VW7
    have z_VW7:=zS hV_VW7
    clear hV_VW7 c_kt f_kt
    obtain ⟨c_kt,f_kt,l_kt_VW7⟩:=f3 kt
    refine (lPair_calls (t:=((t.opened x).lpair (t.s.get x).k1 y).2) _ _ _ ⟨hA,kt,o_kt⟩).mono ?_
    rintro e_W7 W7 ⟨rfl,O3,hT_W7,hf_W7⟩
    clear kt c_kt f_kt o_kt;have kt:=hT_W7.blk;have o_kt:=hT_W7.no
    obtain ⟨c_kt,f_kt,l_kt_W7⟩:=f3 kt
    replace hF:=hF.trans hf_W7
    have z_W7:=hf_W7.size
    clear hA hf_W7;have hA:=hT_W7.hA;clear hT_W7
    go_wp2_with fail
    go_ret
    exact ⟨rfl,O3,⟨hA,kt,o_kt⟩,hF⟩
   ·
    have d3:decide (b≤a)=false:=by simpa using c2
    rw [if_neg c2] at hr
    clear c2
    obtain rfl:=Option.some.inj hr
    clear hr
    go_enter Tryz.func116,Tryz.ntmps116
    have hA:=hT.hA
    have kt:=hT.blk
    have o_kt:=hT.no
    obtain ⟨c_kt,f_kt,l_kt_w⟩:=f3 kt
    go_wp2_with fail
    refine calls_gen fun VW1 hV_VW1=> ?_
    replace kt:=kK hV_VW1 kt
    have hF:Fr ((oneX tb)) O O w VW1:=nF hV_VW1
    replace hA:AP VW1 ap t.s O:=nA hV_VW1
    have z_VW1:=zS hV_VW1
    clear hV_VW1 c_kt f_kt
    obtain ⟨c_kt,f_kt,l_kt_VW1⟩:=f3 kt
    refine (lHigh_calls (t:=t) _ _ _ _ Hp.out ⟨hA,kt,o_kt⟩).mono ?_
    rintro e_W1 W1 ⟨rfl,hb_W1⟩
    replace hA:=hA.below hb_W1
    replace hF:=hF.below hb_W1
    replace kt:=keep_blk hb_W1 kt
    have z_W1:=hb_W1.size
    clear hb_W1 c_kt f_kt
    obtain ⟨c_kt,f_kt,l_kt_W1⟩:=f3 kt
    go_wp2_with fail
    refine calls_gen fun VW2 hV_VW2=> ?_
    replace kt:=kK hV_VW2 kt
    replace hF:Fr ((oneX tb)) O O w VW2:=nF hV_VW2
    replace hA:AP VW2 ap t.s O:=nA hV_VW2
    have z_VW2:=zS hV_VW2
    clear hV_VW2 c_kt f_kt
    obtain ⟨c_kt,f_kt,l_kt_VW2⟩:=f3 kt
    refine (lHigh_calls (t:=t) _ _ _ _ Hq.out ⟨hA,kt,o_kt⟩).mono ?_
    rintro e_W2 W2 ⟨rfl,hb_W2⟩
    replace hA:=hA.below hb_W2
    replace hF:=hF.below hb_W2
    replace kt:=keep_blk hb_W2 kt
    have z_W2:=hb_W2.size
    clear hb_W2 c_kt f_kt
    obtain ⟨c_kt,f_kt,l_kt_W2⟩:=f3 kt
    go_wp2_with fail
    refine calls_gen fun VW3 hV_VW3=> ?_
    replace kt:=kK hV_VW3 kt
    replace hF:Fr ((oneX tb)) O O w VW3:=nF hV_VW3
    replace hA:AP VW3 ap t.s O:=nA hV_VW3
    have z_VW3:=zS hV_VW3
    clear hV_VW3 c_kt f_kt
    obtain ⟨c_kt,f_kt,l_kt_VW3⟩:=f3 kt
    refine (lOpen_calls (t:=t) x _ ⟨hA,kt,o_kt⟩).mono ?_
    rintro e_W3 W3 ⟨rfl,O1,hT_W3,hf_W3⟩
    clear kt c_kt f_kt o_kt;have kt:=hT_W3.blk;have o_kt:=hT_W3.no
    obtain ⟨c_kt,f_kt,l_kt_W3⟩:=f3 kt
    replace hF:=hF.trans hf_W3
    have z_W3:=hf_W3.size
    clear hA hf_W3;have hA:=hT_W3.hA;clear hT_W3
    go_wp2_with fail
    refine calls_gen fun VW4 hV_VW4=> ?_
    replace kt:=kK hV_VW4 kt
    replace hF:Fr ((oneX tb)) O O1 w VW4:=nF hV_VW4
    replace hA:AP VW4 ap ((t).opened x).s O1:=nA hV_VW4
    have z_VW4:=zS hV_VW4
    clear hV_VW4 c_kt f_kt
    obtain ⟨c_kt,f_kt,l_kt_VW4⟩:=f3 kt
    refine (lHigh_calls (t:=t.opened x) _ _ _ _ Ha.out ⟨hA,kt,o_kt⟩).mono ?_
    rintro e_W4 W4 ⟨rfl,hb_W4⟩
    replace hA:=hA.below hb_W4
    replace hF:=hF.below hb_W4
    replace kt:=keep_blk hb_W4 kt
    have z_W4:=hb_W4.size
    clear hb_W4 c_kt f_kt
    obtain ⟨c_kt,f_kt,l_kt_W4⟩:=f3 kt
    go_wp2_with fail
    refine calls_gen fun VW5 hV_VW5=> ?_
    replace kt:=kK hV_VW5 kt
    replace hF:Fr ((oneX tb)) O O1 w VW5:=nF hV_VW5
    replace hA:AP VW5 ap ((t).opened x).s O1:=nA hV_VW5
    have z_VW5:=zS hV_VW5
    clear hV_VW5 c_kt f_kt
    obtain ⟨c_kt,f_kt,l_kt_VW5⟩:=f3 kt
    refine (lHigh_calls (t:=t.opened x) _ _ _ _ Hb.out ⟨hA,kt,o_kt⟩).mono ?_
    rintro e_W5 W5 ⟨rfl,hb_W5⟩
    replace hA:=hA.below hb_W5
    replace hF:=hF.below hb_W5
    replace kt:=keep_blk hb_W5 kt
    have z_W5:=hb_W5.size
    clear hb_W5 c_kt f_kt
    obtain ⟨c_kt,f_kt,l_kt_W5⟩:=f3 kt
    go_wp2_with fail
    refine calls_gen fun VW6 hV_VW6=> ?_
    replace kt:=kK hV_VW6 kt
    replace hF:Fr ((oneX tb)) O O1 w VW6:=nF hV_VW6
    replace hA:AP VW6 ap ((t).opened x).s O1:=nA hV_VW6
    have z_VW6:=zS hV_VW6
    clear hV_VW6 c_kt f_kt
    obtain ⟨c_kt,f_kt,l_kt_VW6⟩:=f3 kt
    refine (lOpen_calls (t:=t.opened x) (t.s.get x).k1 _ ⟨hA,kt,o_kt⟩).mono ?_
    rintro e_W6 W6 ⟨rfl,O2,hT_W6,hf_W6⟩
    clear kt c_kt f_kt o_kt;have kt:=hT_W6.blk;have o_kt:=hT_W6.no
    obtain ⟨c_kt,f_kt,l_kt_W6⟩:=f3 kt
    replace hF:=hF.trans hf_W6
    have z_W6:=hf_W6.size
    clear hA hf_W6;have hA:=hT_W6.hA;clear hT_W6
    go_wp2_with fail
    refine calls_gen fun VW7 hV_VW7=> ?_
    replace kt:=kK hV_VW7 kt
    replace hF:Fr ((oneX tb)) O O2 w VW7:=nF hV_VW7
    replace hA:AP VW7 ap ((t.opened x).opened (t.s.get x).k1).s O2:=nA hV_VW7
    have z_VW7:=zS hV_VW7
    clear hV_VW7 c_kt f_kt
    obtain ⟨c_kt,f_kt,l_kt_VW7⟩:=f3 kt
    refine (lPair_calls (t:=(t.opened x).opened (t.s.get x).k1) _ _ _ ⟨hA,kt,o_kt⟩).mono ?_
    rintro e_W7 W7 ⟨rfl,O3,hT_W7,hf_W7⟩
    clear kt c_kt f_kt o_kt;have kt:=hT_W7.blk;have o_kt:=hT_W7.no
    obtain ⟨c_kt,f_kt,l_kt_W7⟩:=f3 kt
    replace hF:=hF.trans hf_W7
    have z_W7:=hf_W7.size
    clear hA hf_W7;have hA:=hT_W7.hA;clear hT_W7
    go_wp2_with fail
    refine calls_gen fun VW8 hV_VW8=> ?_
    replace kt:=kK hV_VW8 kt
    replace hF:Fr ((oneX tb)) O O3 w VW8:=nF hV_VW8
    replace hA:AP VW8 ap ((((t.opened x).opened (t.s.get x).k1).lpair (t.s.get x).k0 ((t.opened x).s.get (t.s.get x).k1).k0).2).s O3:=nA hV_VW8
    have z_VW8:=zS hV_VW8
    clear hV_VW8 c_kt f_kt
    obtain ⟨c_kt,f_kt,l_kt_VW8⟩:=f3 kt
    refine (lPair_calls (t:=(((t.opened x).opened (t.s.get x).k1).lpair (t.s.get x).k0 ((t.opened x).s.get (t.s.get x).k1).k0).2) _ _ _ ⟨hA,kt,o_kt⟩).mono ?_
    rintro e_W8 W8 ⟨rfl,O4,hT_W8,hf_W8⟩
    clear kt c_kt f_kt o_kt;have kt:=hT_W8.blk;have o_kt:=hT_W8.no
    obtain ⟨c_kt,f_kt,l_kt_W8⟩:=f3 kt
    replace hF:=hF.trans hf_W8
    have z_W8:=hf_W8.size
    clear hA hf_W8;have hA:=hT_W8.hA;clear hT_W8
    go_wp2_with fail
    refine calls_gen fun VW9 hV_VW9=> ?_
    replace kt:=kK hV_VW9 kt
    replace hF:Fr ((oneX tb)) O O4 w VW9:=nF hV_VW9
    replace hA:AP VW9 ap ((((((t.opened x).opened (t.s.get x).k1).lpair (t.s.get x).k0 ((t.opened x).s.get (t.s.get x).k1).k0).2).lpair ((t.opened x).s.get (t.s.get x).k1).k1 y).2).s O4:=nA hV_VW9
    have z_VW9:=zS hV_VW9
    clear hV_VW9 c_kt f_kt
    obtain ⟨c_kt,f_kt,l_kt_VW9⟩:=f3 kt
    refine (lPair_calls (t:=((((t.opened x).opened (t.s.get x).k1).lpair (t.s.get x).k0 ((t.opened x).s.get (t.s.get x).k1).k0).2.lpair ((t.opened x).s.get (t.s.get x).k1).k1 y).2) _ _ _ ⟨hA,kt,o_kt⟩).mono ?_
    rintro e_W9 W9 ⟨rfl,O5,hT_W9,hf_W9⟩
    clear kt c_kt f_kt o_kt;have kt:=hT_W9.blk;have o_kt:=hT_W9.no
    obtain ⟨c_kt,f_kt,l_kt_W9⟩:=f3 kt
    replace hF:=hF.trans hf_W9
    have z_W9:=hf_W9.size
    clear hA hf_W9;have hA:=hT_W9.hA;clear hT_W9
    go_wp2_with fail
    go_ret
    exact ⟨rfl,O5,⟨hA,kt,o_kt⟩,hF⟩
  ·
   have d2:decide (wrap64 (q+1)<p)=false:=by simpa using c1
   rw [if_neg c1] at hr
   clear c1
   by_cases c3:wrap64 (p+1)<q
   ·
    have d4:decide (wrap64 (p+1)<q)=true:=by simpa using c3
    rw [if_pos c3] at hr
    clear c3
    dsimp only at hr
    obtain ⟨a,h_b,h_r⟩:=Option.bind_eq_some_iff.1 hr
    have Ha:=Lib.hid h_b;clear h_b hr;have hr:=h_r;clear h_r
    obtain ⟨b,h_b,h_r⟩:=Option.bind_eq_some_iff.1 hr
    have Hb:=Lib.hid h_b;clear h_b hr;have hr:=h_r;clear h_r
    by_cases c2:b≤a
    ·
     have d3:decide (b≤a)=true:=by simpa using c2
     rw [if_pos c2] at hr
     clear c2
     obtain rfl:=Option.some.inj hr
     clear hr
     go_enter Tryz.func116,Tryz.ntmps116
     have hA:=hT.hA
     have kt:=hT.blk
     have o_kt:=hT.no
     obtain ⟨c_kt,f_kt,l_kt_w⟩:=f3 kt
     go_wp2_with fail
     refine calls_gen fun VW1 hV_VW1=> ?_
     replace kt:=kK hV_VW1 kt
     have hF:Fr ((oneX tb)) O O w VW1:=nF hV_VW1
     replace hA:AP VW1 ap t.s O:=nA hV_VW1
     have z_VW1:=zS hV_VW1
     clear hV_VW1 c_kt f_kt
     obtain ⟨c_kt,f_kt,l_kt_VW1⟩:=f3 kt
     refine (lHigh_calls (t:=t) _ _ _ _ Hp.out ⟨hA,kt,o_kt⟩).mono ?_
     rintro e_W1 W1 ⟨rfl,hb_W1⟩
     replace hA:=hA.below hb_W1
     replace hF:=hF.below hb_W1
     replace kt:=keep_blk hb_W1 kt
     have z_W1:=hb_W1.size
     clear hb_W1 c_kt f_kt
     obtain ⟨c_kt,f_kt,l_kt_W1⟩:=f3 kt
     go_wp2_with fail
     refine calls_gen fun VW2 hV_VW2=> ?_
     replace kt:=kK hV_VW2 kt
     replace hF:Fr ((oneX tb)) O O w VW2:=nF hV_VW2
     replace hA:AP VW2 ap t.s O:=nA hV_VW2
     have z_VW2:=zS hV_VW2
     clear hV_VW2 c_kt f_kt
     obtain ⟨c_kt,f_kt,l_kt_VW2⟩:=f3 kt
     refine (lHigh_calls (t:=t) _ _ _ _ Hq.out ⟨hA,kt,o_kt⟩).mono ?_
     rintro e_W2 W2 ⟨rfl,hb_W2⟩
     replace hA:=hA.below hb_W2
     replace hF:=hF.below hb_W2
     replace kt:=keep_blk hb_W2 kt
     have z_W2:=hb_W2.size
     clear hb_W2 c_kt f_kt
     obtain ⟨c_kt,f_kt,l_kt_W2⟩:=f3 kt
     go_wp2_with fail
     refine calls_gen fun VW3 hV_VW3=> ?_
     replace kt:=kK hV_VW3 kt
     replace hF:Fr ((oneX tb)) O O w VW3:=nF hV_VW3
     replace hA:AP VW3 ap t.s O:=nA hV_VW3
     have z_VW3:=zS hV_VW3
     clear hV_VW3 c_kt f_kt
     obtain ⟨c_kt,f_kt,l_kt_VW3⟩:=f3 kt
     refine (lOpen_calls (t:=t) y _ ⟨hA,kt,o_kt⟩).mono ?_
     rintro e_W3 W3 ⟨rfl,O1,hT_W3,hf_W3⟩
     clear kt c_kt f_kt o_kt;have kt:=hT_W3.blk;have o_kt:=hT_W3.no
     obtain ⟨c_kt,f_kt,l_kt_W3⟩:=f3 kt
     replace hF:=hF.trans hf_W3
     have z_W3:=hf_W3.size
     clear hA hf_W3;have hA:=hT_W3.hA;clear hT_W3
     go_wp2_with fail
     refine calls_gen fun VW4 hV_VW4=> ?_
     replace kt:=kK hV_VW4 kt
     replace hF:Fr ((oneX tb)) O O1 w VW4:=nF hV_VW4
     replace hA:AP VW4 ap ((t).opened y).s O1:=nA hV_VW4
     have z_VW4:=zS hV_VW4
     clear hV_VW4 c_kt f_kt
     obtain ⟨c_kt,f_kt,l_kt_VW4⟩:=f3 kt
     refine (lHigh_calls (t:=t.opened y) _ _ _ _ Ha.out ⟨hA,kt,o_kt⟩).mono ?_
     rintro e_W4 W4 ⟨rfl,hb_W4⟩
     replace hA:=hA.below hb_W4
     replace hF:=hF.below hb_W4
     replace kt:=keep_blk hb_W4 kt
     have z_W4:=hb_W4.size
     clear hb_W4 c_kt f_kt
     obtain ⟨c_kt,f_kt,l_kt_W4⟩:=f3 kt
     go_wp2_with fail
     refine calls_gen fun VW5 hV_VW5=> ?_
     replace kt:=kK hV_VW5 kt
     replace hF:Fr ((oneX tb)) O O1 w VW5:=nF hV_VW5
     replace hA:AP VW5 ap ((t).opened y).s O1:=nA hV_VW5
     have z_VW5:=zS hV_VW5
     clear hV_VW5 c_kt f_kt
     obtain ⟨c_kt,f_kt,l_kt_VW5⟩:=f3 kt
     refine (lHigh_calls (t:=t.opened y) _ _ _ _ Hb.out ⟨hA,kt,o_kt⟩).mono ?_
     rintro e_W5 W5 ⟨rfl,hb_W5⟩
     replace hA:=hA.below hb_W5
     replace hF:=hF.below hb_W5
     replace kt:=keep_blk hb_W5 kt
     have z_W5:=hb_W5.size
     clear hb_W5 c_kt f_kt
     obtain ⟨c_kt,f_kt,l_kt_W5⟩:=f3 kt
     go_wp2_with fail
     refine calls_gen fun VW6 hV_VW6=> ?_
     replace kt:=kK hV_VW6 kt
     replace hF:Fr ((oneX tb)) O O1 w VW6:=nF hV_VW6
     replace hA:AP VW6 ap ((t).opened y).s O1:=nA hV_VW6
     have z_VW6:=zS hV_VW6
     clear hV_VW6 c_kt f_kt
     obtain ⟨c_kt,f_kt,l_kt_VW6⟩:=f3 kt
     refine (lPair_calls (t:=t.opened y) _ _ _ ⟨hA,kt,o_kt⟩).mono ?_
     rintro e_W6 W6 ⟨rfl,O2,hT_W6,hf_W6⟩
     clear kt c_kt f_kt o_kt;have kt:=hT_W6.blk;have o_kt:=hT_W6.no
     obtain ⟨c_kt,f_kt,l_kt_W6⟩:=f3 kt
     replace hF:=hF.trans hf_W6
     have z_W6:=hf_W6.size
     clear hA hf_W6;have hA:=hT_W6.hA;clear hT_W6
     go_wp2_with fail
     refine calls_gen fun VW7 hV_VW7=> ?_
     replace kt:=kK hV_VW7 kt
     replace hF:Fr ((oneX tb)) O O2 w VW7:=nF hV_VW7
     replace hA:AP VW7 ap (((t.opened y).lpair x (t.s.get y).k0).2).s O2:=nA hV_VW7
     have z_VW7:=zS hV_VW7
     clear hV_VW7 c_kt f_kt
     obtain ⟨c_kt,f_kt,l_kt_VW7⟩:=f3 kt
     refine (lPair_calls (t:=((t.opened y).lpair x (t.s.get y).k0).2) _ _ _ ⟨hA,kt,o_kt⟩).mono ?_
     rintro e_W7 W7 ⟨rfl,O3,hT_W7,hf_W7⟩
     clear kt c_kt f_kt o_kt;have kt:=hT_W7.blk;have o_kt:=hT_W7.no
     obtain ⟨c_kt,f_kt,l_kt_W7⟩:=f3 kt
     replace hF:=hF.trans hf_W7
     have z_W7:=hf_W7.size
     clear hA hf_W7;have hA:=hT_W7.hA;clear hT_W7
     go_wp2_with fail
     go_ret
     exact ⟨rfl,O3,⟨hA,kt,o_kt⟩,hF⟩
    ·
     have d3:decide (b≤a)=false:=by simpa using c2
     rw [if_neg c2] at hr
     clear c2
     obtain rfl:=Option.some.inj hr
     clear hr
     go_enter Tryz.func116,Tryz.ntmps116
     have hA:=hT.hA
     have kt:=hT.blk
     have o_kt:=hT.no
     obtain ⟨c_kt,f_kt,l_kt_w⟩:=f3 kt
     go_wp2_with fail
     refine calls_gen fun VW1 hV_VW1=> ?_
     replace kt:=kK hV_VW1 kt
     have hF:Fr ((oneX tb)) O O w VW1:=nF hV_VW1
     replace hA:AP VW1 ap t.s O:=nA hV_VW1
     have z_VW1:=zS hV_VW1
     clear hV_VW1 c_kt f_kt
     obtain ⟨c_kt,f_kt,l_kt_VW1⟩:=f3 kt
     refine (lHigh_calls (t:=t) _ _ _ _ Hp.out ⟨hA,kt,o_kt⟩).mono ?_
     rintro e_W1 W1 ⟨rfl,hb_W1⟩
     replace hA:=hA.below hb_W1
     replace hF:=hF.below hb_W1
     replace kt:=keep_blk hb_W1 kt
     have z_W1:=hb_W1.size
     clear hb_W1 c_kt f_kt
     obtain ⟨c_kt,f_kt,l_kt_W1⟩:=f3 kt
     go_wp2_with fail
     refine calls_gen fun VW2 hV_VW2=> ?_
     replace kt:=kK hV_VW2 kt
     replace hF:Fr ((oneX tb)) O O w VW2:=nF hV_VW2
     replace hA:AP VW2 ap t.s O:=nA hV_VW2
     have z_VW2:=zS hV_VW2
     clear hV_VW2 c_kt f_kt
     obtain ⟨c_kt,f_kt,l_kt_VW2⟩:=f3 kt
     refine (lHigh_calls (t:=t) _ _ _ _ Hq.out ⟨hA,kt,o_kt⟩).mono ?_
     rintro e_W2 W2 ⟨rfl,hb_W2⟩
     replace hA:=hA.below hb_W2
     replace hF:=hF.below hb_W2
     replace kt:=keep_blk hb_W2 kt
     have z_W2:=hb_W2.size
     clear hb_W2 c_kt f_kt
     obtain ⟨c_kt,f_kt,l_kt_W2⟩:=f3 kt
     go_wp2_with fail
     refine calls_gen fun VW3 hV_VW3=> ?_
     replace kt:=kK hV_VW3 kt
     replace hF:Fr ((oneX tb)) O O w VW3:=nF hV_VW3
     replace hA:AP VW3 ap t.s O:=nA hV_VW3
     have z_VW3:=zS hV_VW3
     clear hV_VW3 c_kt f_kt
     obtain ⟨c_kt,f_kt,l_kt_VW3⟩:=f3 kt
     refine (lOpen_calls (t:=t) y _ ⟨hA,kt,o_kt⟩).mono ?_
     rintro e_W3 W3 ⟨rfl,O1,hT_W3,hf_W3⟩
     clear kt c_kt f_kt o_kt;have kt:=hT_W3.blk;have o_kt:=hT_W3.no
     obtain ⟨c_kt,f_kt,l_kt_W3⟩:=f3 kt
     replace hF:=hF.trans hf_W3
     have z_W3:=hf_W3.size
     clear hA hf_W3;have hA:=hT_W3.hA;clear hT_W3
     go_wp2_with fail
     refine calls_gen fun VW4 hV_VW4=> ?_
     replace kt:=kK hV_VW4 kt
     replace hF:Fr ((oneX tb)) O O1 w VW4:=nF hV_VW4
     replace hA:AP VW4 ap ((t).opened y).s O1:=nA hV_VW4
     have z_VW4:=zS hV_VW4
     clear hV_VW4 c_kt f_kt
     obtain ⟨c_kt,f_kt,l_kt_VW4⟩:=f3 kt
     refine (lHigh_calls (t:=t.opened y) _ _ _ _ Ha.out ⟨hA,kt,o_kt⟩).mono ?_
     rintro e_W4 W4 ⟨rfl,hb_W4⟩
     replace hA:=hA.below hb_W4
     replace hF:=hF.below hb_W4
     replace kt:=keep_blk hb_W4 kt
     have z_W4:=hb_W4.size
     clear hb_W4 c_kt f_kt
     obtain ⟨c_kt,f_kt,l_kt_W4⟩:=f3 kt
     go_wp2_with fail
     refine calls_gen fun VW5 hV_VW5=> ?_
     replace kt:=kK hV_VW5 kt
     replace hF:Fr ((oneX tb)) O O1 w VW5:=nF hV_VW5
     replace hA:AP VW5 ap ((t).opened y).s O1:=nA hV_VW5
     have z_VW5:=zS hV_VW5
     clear hV_VW5 c_kt f_kt
     obtain ⟨c_kt,f_kt,l_kt_VW5⟩:=f3 kt
     refine (lHigh_calls (t:=t.opened y) _ _ _ _ Hb.out ⟨hA,kt,o_kt⟩).mono ?_
     rintro e_W5 W5 ⟨rfl,hb_W5⟩
     replace hA:=hA.below hb_W5
     replace hF:=hF.below hb_W5
     replace kt:=keep_blk hb_W5 kt
     have z_W5:=hb_W5.size
     clear hb_W5 c_kt f_kt
     obtain ⟨c_kt,f_kt,l_kt_W5⟩:=f3 kt
     go_wp2_with fail
     refine calls_gen fun VW6 hV_VW6=> ?_
     replace kt:=kK hV_VW6 kt
     replace hF:Fr ((oneX tb)) O O1 w VW6:=nF hV_VW6
     replace hA:AP VW6 ap ((t).opened y).s O1:=nA hV_VW6
     have z_VW6:=zS hV_VW6
     clear hV_VW6 c_kt f_kt
     obtain ⟨c_kt,f_kt,l_kt_VW6⟩:=f3 kt
     refine (lOpen_calls (t:=t.opened y) (t.s.get y).k0 _ ⟨hA,kt,o_kt⟩).mono ?_
     rintro e_W6 W6 ⟨rfl,O2,hT_W6,hf_W6⟩
     clear kt c_kt f_kt o_kt;have kt:=hT_W6.blk;have o_kt:=hT_W6.no
     obtain ⟨c_kt,f_kt,l_kt_W6⟩:=f3 kt
     replace hF:=hF.trans hf_W6
     have z_W6:=hf_W6.size
     clear hA hf_W6;have hA:=hT_W6.hA;clear hT_W6
     go_wp2_with fail
     refine calls_gen fun VW7 hV_VW7=> ?_
     replace kt:=kK hV_VW7 kt
     replace hF:Fr ((oneX tb)) O O2 w VW7:=nF hV_VW7
     replace hA:AP VW7 ap ((t.opened y).opened (t.s.get y).k0).s O2:=nA hV_VW7
     have z_VW7:=zS hV_VW7
     clear hV_VW7 c_kt f_kt
     obtain ⟨c_kt,f_kt,l_kt_VW7⟩:=f3 kt
     refine (lPair_calls (t:=(t.opened y).opened (t.s.get y).k0) _ _ _ ⟨hA,kt,o_kt⟩).mono ?_
     rintro e_W7 W7 ⟨rfl,O3,hT_W7,hf_W7⟩
     clear kt c_kt f_kt o_kt;have kt:=hT_W7.blk;have o_kt:=hT_W7.no
     obtain ⟨c_kt,f_kt,l_kt_W7⟩:=f3 kt
     replace hF:=hF.trans hf_W7
     have z_W7:=hf_W7.size
     clear hA hf_W7;have hA:=hT_W7.hA;clear hT_W7
     go_wp2_with fail
     refine calls_gen fun VW8 hV_VW8=> ?_
     replace kt:=kK hV_VW8 kt
     replace hF:Fr ((oneX tb)) O O3 w VW8:=nF hV_VW8
     replace hA:AP VW8 ap ((((t.opened y).opened (t.s.get y).k0).lpair x ((t.opened y).s.get (t.s.get y).k0).k0).2).s O3:=nA hV_VW8
     have z_VW8:=zS hV_VW8
     clear hV_VW8 c_kt f_kt
     obtain ⟨c_kt,f_kt,l_kt_VW8⟩:=f3 kt
     refine (lPair_calls (t:=(((t.opened y).opened (t.s.get y).k0).lpair x ((t.opened y).s.get (t.s.get y).k0).k0).2) _ _ _ ⟨hA,kt,o_kt⟩).mono ?_
     rintro e_W8 W8 ⟨rfl,O4,hT_W8,hf_W8⟩
     clear kt c_kt f_kt o_kt;have kt:=hT_W8.blk;have o_kt:=hT_W8.no
     obtain ⟨c_kt,f_kt,l_kt_W8⟩:=f3 kt
     replace hF:=hF.trans hf_W8
     have z_W8:=hf_W8.size
     clear hA hf_W8;have hA:=hT_W8.hA;clear hT_W8
     go_wp2_with fail
     refine calls_gen fun VW9 hV_VW9=> ?_
     replace kt:=kK hV_VW9 kt
     replace hF:Fr ((oneX tb)) O O4 w VW9:=nF hV_VW9
     replace hA:AP VW9 ap ((((((t.opened y).opened (t.s.get y).k0).lpair x ((t.opened y).s.get (t.s.get y).k0).k0).2).lpair ((t.opened y).s.get (t.s.get y).k0).k1 (t.s.get y).k1).2).s O4:=nA hV_VW9
     have z_VW9:=zS hV_VW9
     clear hV_VW9 c_kt f_kt
     obtain ⟨c_kt,f_kt,l_kt_VW9⟩:=f3 kt
     refine (lPair_calls (t:=((((t.opened y).opened (t.s.get y).k0).lpair x ((t.opened y).s.get (t.s.get y).k0).k0).2.lpair ((t.opened y).s.get (t.s.get y).k0).k1 (t.s.get y).k1).2) _ _ _ ⟨hA,kt,o_kt⟩).mono ?_
     rintro e_W9 W9 ⟨rfl,O5,hT_W9,hf_W9⟩
     clear kt c_kt f_kt o_kt;have kt:=hT_W9.blk;have o_kt:=hT_W9.no
     obtain ⟨c_kt,f_kt,l_kt_W9⟩:=f3 kt
     replace hF:=hF.trans hf_W9
     have z_W9:=hf_W9.size
     clear hA hf_W9;have hA:=hT_W9.hA;clear hT_W9
     go_wp2_with fail
     go_ret
     exact ⟨rfl,O5,⟨hA,kt,o_kt⟩,hF⟩
   ·
    have d4:decide (wrap64 (p+1)<q)=false:=by simpa using c3
    rw [if_neg c3] at hr
    clear c3
    obtain rfl:=Option.some.inj hr
    clear hr
    go_enter Tryz.func116,Tryz.ntmps116
    have hA:=hT.hA
    have kt:=hT.blk
    have o_kt:=hT.no
    obtain ⟨c_kt,f_kt,l_kt_w⟩:=f3 kt
    go_wp2_with fail
    refine calls_gen fun VW1 hV_VW1=> ?_
    replace kt:=kK hV_VW1 kt
    have hF:Fr ((oneX tb)) O O w VW1:=nF hV_VW1
    replace hA:AP VW1 ap t.s O:=nA hV_VW1
    have z_VW1:=zS hV_VW1
    clear hV_VW1 c_kt f_kt
    obtain ⟨c_kt,f_kt,l_kt_VW1⟩:=f3 kt
    refine (lHigh_calls (t:=t) _ _ _ _ Hp.out ⟨hA,kt,o_kt⟩).mono ?_
    rintro e_W1 W1 ⟨rfl,hb_W1⟩
    replace hA:=hA.below hb_W1
    replace hF:=hF.below hb_W1
    replace kt:=keep_blk hb_W1 kt
    have z_W1:=hb_W1.size
    clear hb_W1 c_kt f_kt
    obtain ⟨c_kt,f_kt,l_kt_W1⟩:=f3 kt
    go_wp2_with fail
    refine calls_gen fun VW2 hV_VW2=> ?_
    replace kt:=kK hV_VW2 kt
    replace hF:Fr ((oneX tb)) O O w VW2:=nF hV_VW2
    replace hA:AP VW2 ap t.s O:=nA hV_VW2
    have z_VW2:=zS hV_VW2
    clear hV_VW2 c_kt f_kt
    obtain ⟨c_kt,f_kt,l_kt_VW2⟩:=f3 kt
    refine (lHigh_calls (t:=t) _ _ _ _ Hq.out ⟨hA,kt,o_kt⟩).mono ?_
    rintro e_W2 W2 ⟨rfl,hb_W2⟩
    replace hA:=hA.below hb_W2
    replace hF:=hF.below hb_W2
    replace kt:=keep_blk hb_W2 kt
    have z_W2:=hb_W2.size
    clear hb_W2 c_kt f_kt
    obtain ⟨c_kt,f_kt,l_kt_W2⟩:=f3 kt
    go_wp2_with fail
    refine calls_gen fun VW3 hV_VW3=> ?_
    replace kt:=kK hV_VW3 kt
    replace hF:Fr ((oneX tb)) O O w VW3:=nF hV_VW3
    replace hA:AP VW3 ap t.s O:=nA hV_VW3
    have z_VW3:=zS hV_VW3
    clear hV_VW3 c_kt f_kt
    obtain ⟨c_kt,f_kt,l_kt_VW3⟩:=f3 kt
    refine (lPair_calls (t:=t) _ _ _ ⟨hA,kt,o_kt⟩).mono ?_
    rintro e_W3 W3 ⟨rfl,O1,hT_W3,hf_W3⟩
    clear kt c_kt f_kt o_kt;have kt:=hT_W3.blk;have o_kt:=hT_W3.no
    obtain ⟨c_kt,f_kt,l_kt_W3⟩:=f3 kt
    replace hF:=hF.trans hf_W3
    have z_W3:=hf_W3.size
    clear hA hf_W3;have hA:=hT_W3.hA;clear hT_W3
    go_wp2_with fail
    go_ret
    exact ⟨rfl,O1,⟨hA,kt,o_kt⟩,hF⟩
 ·
  have d1:(t.e !=0)=true:=by simp [he]
  rw [if_neg he] at hr
  clear he
  obtain rfl:=Option.some.inj hr
  clear hr
  go_enter Tryz.func116,Tryz.ntmps116
  have hA:=hT.hA
  have kt:=hT.blk
  have o_kt:=hT.no
  obtain ⟨c_kt,f_kt,l_kt_w⟩:=f3 kt
  go_wp2_with fail
  refine calls_gen fun VW1 hV_VW1=> ?_
  replace kt:=kK hV_VW1 kt
  have hF:Fr ((oneX tb)) O O w VW1:=nF hV_VW1
  replace hA:AP VW1 ap t.s O:=nA hV_VW1
  have z_VW1:=zS hV_VW1
  clear hV_VW1 c_kt f_kt
  obtain ⟨c_kt,f_kt,l_kt_VW1⟩:=f3 kt
  refine (lHigh_calls (t:=t) _ _ _ _ Hp.out ⟨hA,kt,o_kt⟩).mono ?_
  rintro e_W1 W1 ⟨rfl,hb_W1⟩
  replace hA:=hA.below hb_W1
  replace hF:=hF.below hb_W1
  replace kt:=keep_blk hb_W1 kt
  have z_W1:=hb_W1.size
  clear hb_W1 c_kt f_kt
  obtain ⟨c_kt,f_kt,l_kt_W1⟩:=f3 kt
  go_wp2_with fail
  refine calls_gen fun VW2 hV_VW2=> ?_
  replace kt:=kK hV_VW2 kt
  replace hF:Fr ((oneX tb)) O O w VW2:=nF hV_VW2
  replace hA:AP VW2 ap t.s O:=nA hV_VW2
  have z_VW2:=zS hV_VW2
  clear hV_VW2 c_kt f_kt
  obtain ⟨c_kt,f_kt,l_kt_VW2⟩:=f3 kt
  refine (lHigh_calls (t:=t) _ _ _ _ Hq.out ⟨hA,kt,o_kt⟩).mono ?_
  rintro e_W2 W2 ⟨rfl,hb_W2⟩
  replace hA:=hA.below hb_W2
  replace hF:=hF.below hb_W2
  replace kt:=keep_blk hb_W2 kt
  have z_W2:=hb_W2.size
  clear hb_W2 c_kt f_kt
  obtain ⟨c_kt,f_kt,l_kt_W2⟩:=f3 kt
  go_wp2_with fail
  refine calls_gen fun VW3 hV_VW3=> ?_
  replace kt:=kK hV_VW3 kt
  replace hF:Fr ((oneX tb)) O O w VW3:=nF hV_VW3
  replace hA:AP VW3 ap t.s O:=nA hV_VW3
  have z_VW3:=zS hV_VW3
  clear hV_VW3 c_kt f_kt
  obtain ⟨c_kt,f_kt,l_kt_VW3⟩:=f3 kt
  refine (drop_calls _ _ hA).mono ?_
  rintro e_W3 W3 ⟨rfl,O1,hA_W3,hf_W3⟩
  have q_kt:=hf_W3.keep kt o_kt (fun h=>h)
  replace o_kt:=hf_W3.not_own (lt_of kt) o_kt
  clear kt c_kt f_kt;have kt:=q_kt;clear q_kt
  obtain ⟨c_kt,f_kt,l_kt_W3⟩:=f3 kt
  replace hF:=hF.trans hf_W3.widen
  have z_W3:=hf_W3.size
  clear hA hf_W3;have hA:=hA_W3;clear hA_W3
  go_wp2_with fail
  refine calls_gen fun VW4 hV_VW4=> ?_
  replace kt:=kK hV_VW4 kt
  replace hF:Fr ((oneX tb)) O O1 w VW4:=nF hV_VW4
  replace hA:AP VW4 ap (t.s.drop x) O1:=nA hV_VW4
  have z_VW4:=zS hV_VW4
  clear hV_VW4 c_kt f_kt
  obtain ⟨c_kt,f_kt,l_kt_VW4⟩:=f3 kt
  refine (drop_calls _ _ hA).mono ?_
  rintro e_W4 W4 ⟨rfl,O2,hA_W4,hf_W4⟩
  have q_kt:=hf_W4.keep kt o_kt (fun h=>h)
  replace o_kt:=hf_W4.not_own (lt_of kt) o_kt
  clear kt c_kt f_kt;have kt:=q_kt;clear q_kt
  obtain ⟨c_kt,f_kt,l_kt_W4⟩:=f3 kt
  replace hF:=hF.trans hf_W4.widen
  have z_W4:=hf_W4.size
  clear hA hf_W4;have hA:=hA_W4;clear hA_W4
  go_wp2_with fail
  go_ret
  exact ⟨rfl,O2,⟨hA,kt,o_kt⟩,hF⟩
end Go.Proofs.YtdjpjmkpndmhaaaGreat
namespace Go.Proofs.YtdjpjmkpndmhaaaGreat
open Go.RowKit
attribute [local go_sem ↓] Go.wp_at_zero Go.wp_at_succ
attribute [local go_sem] lt_s2 lt_s3 lt_s4
attribute [local go_sem] idx0 idx1 idx2 idx3
variable {ap : Value} {tb : Nat}
def OneC (tb:Nat) (ap:Value) (C:World→(Nat→Prop)→Prop) (f:FuncId) (caps:Array Value) (one:Tb→Int→Option (Int×Tb)):Prop:=
  ∀(t:Tb) (O:Nat→Prop) (h:Int) (r:Int×Tb) (w:World),one t h=some r→LB w tb ap t O→C w O→
    Calls Tryz.prog f (#[.int .i64 h]++caps) w fun e w'=>e= .returned (.int .i64 r.1)∧DidL tb ap r.2 O w w'
def KeepC (tb:Nat) (C:World→(Nat→Prop)→Prop):Prop:= ∀w w' O O',C w O→Fr (oneX tb) O O' w w'→C w' O'
section
variable {t : Tb} {O : Nat → Prop} {C : World → (Nat → Prop) → Prop} {f : FuncId} {caps : Array Value} {one : Tb → Int → Option (Int × Tb)}
set_option maxRecDepth 100000 in
set_option maxHeartbeats 2000000 in
theorem lChg_none (hfun : ∀ args w, (callFunc f args).run Tryz.prog w = .ok (.enter f args) w) (hKC : Hid (KeepC tb C)) (hone : Hid (OneC tb ap C f caps one)) (h i : Int) (r : Int × Tb) (w : World) (hr : one t h = some r) (h0 : lIs t.s h = false) (hT : LB w tb ap t O) (hC : C w O) :
    Calls Tryz.prog 113 #[.pointer (some ⟨tb,0,none⟩), .int .i64 h, .int .i64 i, .func (.func f) #[] caps] w fun e w'=>e= .returned (.int .i64 r.1)∧DidL tb ap r.2 O w w':=by
  have Hr:=Lib.hid hr;clear hr
  have HC:=Lib.hid hC;clear hC
  go_enter Tryz.func113,Tryz.ntmps113
  have hA:=hT.hA
  have kt:=hT.blk
  have o_kt:=hT.no
  obtain ⟨c_kt,f_kt,l_kt_w⟩:=f3 kt
  go_wp2_with fail
  refine calls_gen fun V hV_V=> ?_
  replace kt:=kK hV_V kt
  have hF:Fr ((oneX tb)) O O w V:=nF hV_V
  replace hA:AP V ap t.s O:=nA hV_V
  have z_V:=zS hV_V
  clear hV_V c_kt f_kt
  obtain ⟨c_kt,f_kt,l_kt_V⟩:=f3 kt
  refine (lRow_calls _ _ hA).mono ?_
  rintro e_W1 W1 ⟨rfl,hb_W1⟩
  replace hA:=hA.below hb_W1
  replace hF:=hF.below hb_W1
  replace kt:=keep_blk hb_W1 kt
  have z_W1:=hb_W1.size
  clear hb_W1 c_kt f_kt
  obtain ⟨c_kt,f_kt,l_kt_W1⟩:=f3 kt
  unfold Nd.val
  go_wp2_with fail
  refine calls_gen fun V1 hV_V1=> ?_
  replace kt:=kK hV_V1 kt
  replace hF:Fr ((oneX tb)) O O w V1:=nF hV_V1
  replace hA:AP V1 ap t.s O:=nA hV_V1
  have z_V1:=zS hV_V1
  clear hV_V1 c_kt f_kt
  obtain ⟨c_kt,f_kt,l_kt_V1⟩:=f3 kt
  refine (hone.out t O h r _ Hr.out ⟨hA,kt,o_kt⟩ (hKC.out _ _ _ _ HC.out hF)).mono ?_
  rintro e_W2 W2 ⟨rfl,O1,hT_W2,hf_W2⟩
  clear kt c_kt f_kt o_kt;have kt:=hT_W2.blk;have o_kt:=hT_W2.no
  obtain ⟨c_kt,f_kt,l_kt_W2⟩:=f3 kt
  replace hF:=hF.trans hf_W2
  have z_W2:=hf_W2.size
  clear hA hf_W2;have hA:=hT_W2.hA;clear hT_W2
  go_wp2_with fail
  go_ret
  exact ⟨rfl,O1,⟨hA,kt,o_kt⟩,hF⟩
set_option maxRecDepth 100000 in
set_option maxHeartbeats 2000000 in
theorem lChg_item (hfun : ∀ args w, (callFunc f args).run Tryz.prog w = .ok (.enter f args) w) (hKC : Hid (KeepC tb C)) (hone : Hid (OneC tb ap C f caps one)) (h i : Int) (r : Int × Tb) (w : World) (hr : one t h = some r) (h0 : lIs t.s h = true) (d1 : ((t.s.get h).tag == 4) = true) (hT : LB w tb ap t O) (hC : C w O) :
    Calls Tryz.prog 113 #[.pointer (some ⟨tb,0,none⟩), .int .i64 h, .int .i64 i, .func (.func f) #[] caps] w fun e w'=>e= .returned (.int .i64 r.1)∧DidL tb ap r.2 O w w':=by
  have Hr:=Lib.hid hr;clear hr
  have HC:=Lib.hid hC;clear hC
  go_enter Tryz.func113,Tryz.ntmps113
  have hA:=hT.hA
  have kt:=hT.blk
  have o_kt:=hT.no
  obtain ⟨c_kt,f_kt,l_kt_w⟩:=f3 kt
  go_wp2_with fail
  refine calls_gen fun V hV_V=> ?_
  replace kt:=kK hV_V kt
  have hF:Fr ((oneX tb)) O O w V:=nF hV_V
  replace hA:AP V ap t.s O:=nA hV_V
  have z_V:=zS hV_V
  clear hV_V c_kt f_kt
  obtain ⟨c_kt,f_kt,l_kt_V⟩:=f3 kt
  refine (lRow_calls _ _ hA).mono ?_
  rintro e_W1 W1 ⟨rfl,hb_W1⟩
  replace hA:=hA.below hb_W1
  replace hF:=hF.below hb_W1
  replace kt:=keep_blk hb_W1 kt
  have z_W1:=hb_W1.size
  clear hb_W1 c_kt f_kt
  obtain ⟨c_kt,f_kt,l_kt_W1⟩:=f3 kt
  unfold Nd.val
  go_wp2_with fail
  refine calls_gen fun V1 hV_V1=> ?_
  replace kt:=kK hV_V1 kt
  replace hF:Fr ((oneX tb)) O O w V1:=nF hV_V1
  replace hA:AP V1 ap t.s O:=nA hV_V1
  have z_V1:=zS hV_V1
  clear hV_V1 c_kt f_kt
  obtain ⟨c_kt,f_kt,l_kt_V1⟩:=f3 kt
  refine (hone.out t O h r _ Hr.out ⟨hA,kt,o_kt⟩ (hKC.out _ _ _ _ HC.out hF)).mono ?_
  rintro e_W2 W2 ⟨rfl,O1,hT_W2,hf_W2⟩
  clear kt c_kt f_kt o_kt;have kt:=hT_W2.blk;have o_kt:=hT_W2.no
  obtain ⟨c_kt,f_kt,l_kt_W2⟩:=f3 kt
  replace hF:=hF.trans hf_W2
  have z_W2:=hf_W2.size
  clear hA hf_W2;have hA:=hT_W2.hA;clear hT_W2
  go_wp2_with fail
  go_ret
  exact ⟨rfl,O1,⟨hA,kt,o_kt⟩,hF⟩
set_option maxRecDepth 100000 in
set_option maxHeartbeats 2000000 in
theorem lChg_high (k : Nat) (hKC : Hid (KeepC tb C)) (ih : Hid (∀ (t : Tb) (O : Nat → Prop) (h i : Int) (r : Int × Tb) (w : World), Tb.change one k t h i = some r → LB w tb ap t O → C w O → Calls Tryz.prog 113 #[.pointer (some ⟨tb, 0, none⟩), .int .i64 h, .int .i64 i, .func (.func f) #[] caps] w fun e w' => e = .returned (.int .i64 r.1) ∧ DidL tb ap r.2 O w w')) (h i : Int) (r : Int × Tb) (w : World) (h0 : lIs t.s h = true) (d1 : ((t.s.get h).tag == 4) = false) (d2 : decide (lLen t.s (t.s.get h).k0 ≤ i) = true)
    (hr:(Tb.change one k (t.keep (t.s.get h).k0) (t.s.get h).k1 (wrap64 (i - lLen t.s (t.s.get h).k0))).bind (fun r=>r.2.join (t.s.get h).k0 r.1)=some r) (hT:LB w tb ap t O) (hC:C w O):
    Calls Tryz.prog 113 #[.pointer (some ⟨tb,0,none⟩), .int .i64 h, .int .i64 i, .func (.func f) #[] caps] w fun e w'=>e= .returned (.int .i64 r.1)∧DidL tb ap r.2 O w w':=by
  obtain ⟨u,h_b,h_r⟩:=Option.bind_eq_some_iff.1 hr
  have Hu:=Lib.hid h_b;clear h_b hr;have hr:=h_r;clear h_r
  have Hr:=Lib.hid hr;clear hr
  have HC:=Lib.hid hC;clear hC
  go_enter Tryz.func113,Tryz.ntmps113
  have hA:=hT.hA
  have kt:=hT.blk
  have o_kt:=hT.no
  obtain ⟨c_kt,f_kt,l_kt_w⟩:=f3 kt
  go_wp2_with fail
  refine calls_gen fun V hV_V=> ?_
  replace kt:=kK hV_V kt
  have hF:Fr ((oneX tb)) O O w V:=nF hV_V
  replace hA:AP V ap t.s O:=nA hV_V
  have z_V:=zS hV_V
  clear hV_V c_kt f_kt
  obtain ⟨c_kt,f_kt,l_kt_V⟩:=f3 kt
  refine (lRow_calls _ _ hA).mono ?_
  rintro e_W1 W1 ⟨rfl,hb_W1⟩
  replace hA:=hA.below hb_W1
  replace hF:=hF.below hb_W1
  replace kt:=keep_blk hb_W1 kt
  have z_W1:=hb_W1.size
  clear hb_W1 c_kt f_kt
  obtain ⟨c_kt,f_kt,l_kt_W1⟩:=f3 kt
  unfold Nd.val
  go_wp2_with fail
  refine wp_gen fun V1 hV_V1=> ?_
  have n_kn:=hbk hV_V1 (W1.heap.size)
  simp (maxDischargeDepth:=9) only [BK,not_false_eq_true,reduceCtorEq,kt,l_kt_w,l_kt_V,l_kt_W1] at n_kn
  have o_kn: ¬O (W1.heap.size):=by first|exact hA.new (Nat.le_refl _)|exact hA.new (by omega)
  replace kt:=kK hV_V1 kt
  replace hF:Fr ((oneX tb)) O O w V1:=nF hV_V1
  replace hA:AP V1 ap t.s O:=nA hV_V1
  have z_V1:=zS hV_V1
  clear hV_V1 c_kt f_kt
  obtain ⟨c_kt,f_kt,l_kt_V1⟩:=f3 kt
  have kn:=n_kn;clear n_kn
  obtain ⟨c_kn,f_kn,l_kn_V1⟩:=f3 kn
  refine wp_region_noPanic ?_
  refine wp_region_held_drew (S:=fun v=>(∀o,v.cell? ⟨tb,o,none⟩=V1.cell? ⟨tb,o,none⟩)∧(∀o,v.cell? ⟨W1.heap.size,o,none⟩=V1.cell? ⟨W1.heap.size,o,none⟩)∧(V1.heap.size≤v.heap.size)∧AP v ap t.s O) (by kernel_rfl) ⟨(fun _=>rfl),(fun _=>rfl),(Nat.le_refl _),hA.drew⟩ (fun hHeld=> ?_)
  generalize hV_V1d:V1.drew=V1d at hHeld⊢
  have d_kt:=dK hV_V1d kt
  have d_kn:=dK hV_V1d kn
  clear c_kt f_kt c_kn f_kn
  replace hA:=hA.drew;rw [hV_V1d] at hA
  replace hF:=hF.drew;rw [hV_V1d] at hF
  have z_V1d:=dZ hV_V1d
  have v_kt:=cells_of kt
  have v_kn:=cells_of kn
  clear kt;have kt:=d_kt;clear d_kt
  clear kn;have kn:=d_kn;clear d_kn
  obtain ⟨c_kt,f_kt,l_kt_V1d⟩:=f3 kt
  obtain ⟨c_kn,f_kn,l_kn_V1d⟩:=f3 kn
  clear hV_V1d
  refine tz 0 rfl hHeld ?_
  try simp only [PT]
  refine tz 1 rfl hHeld ?_
  try simp only [PT]
  refine tz 2 rfl hHeld ?_
  try simp only [PT]
  refine tz 3 rfl hHeld ?_
  try simp only [PT]
  refine tz 4 rfl hHeld ?_
  try simp only [PT]
  refine tz 5 rfl hHeld ?_
  try simp only [PT]
  refine tz 6 rfl hHeld ?_
  try simp only [PT]
  refine rd 7 rfl fun K hK=> ?_
  go_simp
  try simp only [IntWalk.i64_left]
  refine (lLen_calls _ _ hA).mono ?_
  rintro e_W2 W2 ⟨rfl,hb_W2⟩
  replace hA:=hA.below hb_W2
  replace hF:=hF.below hb_W2
  replace kt:=keep_blk hb_W2 kt
  replace kn:=keep_blk hb_W2 kn
  have z_W2:=hb_W2.size
  clear hb_W2 c_kt f_kt c_kn f_kn
  obtain ⟨c_kt,f_kt,l_kt_W2⟩:=f3 kt
  obtain ⟨c_kn,f_kn,l_kn_W2⟩:=f3 kn
  refine hK.out _ _ ⟨(fun o=>(c_kt o).trans (v_kt o).symm),(fun o=>(c_kn o).trans (v_kn o).symm),(by omega),hA⟩ (fun hHeld=> ?_)
  clear hK K
  try simp only [PT]
  refine rd 8 rfl fun K hK=> ?_
  go_simp
  refine hK.out _ _ hHeld (fun hHeld=> ?_)
  clear hK K
  try simp only [PT]
  refine wpAnyH_done (by kernel_rfl) ?_ _
  refine NoPanic.normal ?_
  go_wp2_with fail
  refine wp_gen fun V2 hV_V2=> ?_
  replace kt:=kK hV_V2 kt
  replace kn:=kK hV_V2 kn
  replace hF:Fr ((oneX tb)) O O w V2:=nF hV_V2
  replace hA:AP V2 ap t.s O:=nA hV_V2
  have z_V2:=zS hV_V2
  clear hV_V2 c_kt f_kt c_kn f_kn
  obtain ⟨c_kt,f_kt,l_kt_V2⟩:=f3 kt
  obtain ⟨c_kn,f_kn,l_kn_V2⟩:=f3 kn
  refine wp_region_noPanic ?_
  refine wp_region_held_drew (S:=fun v=>(v.cell? ⟨tb,0,none⟩=V2.cell? ⟨tb,0,none⟩)∧(∀o,v.cell? ⟨W1.heap.size,o,none⟩=V2.cell? ⟨W1.heap.size,o,none⟩)∧(V2.heap.size≤v.heap.size)∧True) (by kernel_rfl) ⟨rfl,(fun _=>rfl),(Nat.le_refl _),trivial⟩ (fun hHeld=> ?_)
  generalize hV_V2d:V2.drew=V2d at hHeld⊢
  have d_kt:=dK hV_V2d kt
  have d_kn:=dK hV_V2d kn
  clear c_kt f_kt c_kn f_kn
  replace hA:=hA.drew;rw [hV_V2d] at hA
  replace hF:=hF.drew;rw [hV_V2d] at hF
  have z_V2d:=dZ hV_V2d
  have v_kt:=cells_of kt
  have v_kn:=cells_of kn
  clear kt;have kt:=d_kt;clear d_kt
  clear kn;have kn:=d_kn;clear d_kn
  obtain ⟨c_kt,f_kt,l_kt_V2d⟩:=f3 kt
  obtain ⟨c_kn,f_kn,l_kn_V2d⟩:=f3 kn
  clear hV_V2d
  refine tz 0 rfl hHeld ?_
  try simp only [PT]
  refine tz 1 rfl hHeld ?_
  try simp only [PT]
  refine tz 2 rfl hHeld ?_
  try simp only [PT]
  refine tz 3 rfl hHeld ?_
  try simp only [PT]
  refine tz 4 rfl hHeld ?_
  try simp only [PT]
  refine tz 6 rfl hHeld ?_
  try simp only [PT]
  refine tz 7 rfl hHeld ?_
  try simp only [PT]
  refine tz 8 rfl hHeld ?_
  try simp only [PT]
  refine tz 9 rfl hHeld ?_
  try simp only [PT]
  refine tz 10 rfl hHeld ?_
  try simp only [PT]
  refine tz 11 rfl hHeld ?_
  try simp only [PT]
  refine tz 12 rfl hHeld ?_
  try simp only [PT]
  refine tz 13 rfl hHeld ?_
  try simp only [PT]
  refine rd 5 rfl fun K hK=> ?_
  go_simp
  try simp only [IntWalk.i64_left]
  refine (lKeep_calls (t:=t) (t.s.get h).k0 _ ⟨hA,kt,o_kt⟩).mono ?_
  rintro e_W3 W3 ⟨rfl,O1,hT_W3,hf_W3⟩
  have q_kn:=hf_W3.keep kn o_kn (by unfold oneX;omega)
  replace o_kn:=hf_W3.not_own (lt_of kn) o_kn
  clear kn;have kn:=q_kn;clear q_kn
  obtain ⟨c_kn,f_kn,l_kn_W3⟩:=f3 kn
  clear kt c_kt f_kt o_kt;have kt:=hT_W3.blk;have o_kt:=hT_W3.no
  obtain ⟨c_kt,f_kt,l_kt_W3⟩:=f3 kt
  replace hF:=hF.trans hf_W3
  have z_W3:=hf_W3.size
  clear hA hf_W3;have hA:=hT_W3.hA;clear hT_W3
  refine hK.out _ _ ⟨((c_kt 0).trans (v_kt 0).symm),(fun o=>(c_kn o).trans (v_kn o).symm),(by omega),trivial⟩ (fun hHeld=> ?_)
  clear hK K
  try simp only [PT]
  refine rd 14 rfl fun K hK=> ?_
  go_simp
  try simp only [IntWalk.i64_left]
  refine (ih.out (t.keep (t.s.get h).k0) _ _ _ _ _ Hu.out ⟨hA,kt,o_kt⟩ (hKC.out _ _ _ _ HC.out hF)).mono ?_
  rintro e_W4 W4 ⟨rfl,O2,hT_W4,hf_W4⟩
  have q_kn:=hf_W4.keep kn o_kn (by unfold oneX;omega)
  replace o_kn:=hf_W4.not_own (lt_of kn) o_kn
  clear kn;have kn:=q_kn;clear q_kn
  obtain ⟨c_kn,f_kn,l_kn_W4⟩:=f3 kn
  clear kt c_kt f_kt o_kt;have kt:=hT_W4.blk;have o_kt:=hT_W4.no
  obtain ⟨c_kt,f_kt,l_kt_W4⟩:=f3 kt
  replace hF:=hF.trans hf_W4
  have z_W4:=hf_W4.size
  clear hA hf_W4;have hA:=hT_W4.hA;clear hT_W4
  refine hK.out _ _ ⟨((c_kt 0).trans (v_kt 0).symm),(fun o=>(c_kn o).trans (v_kn o).symm),(by omega),trivial⟩ (fun hHeld=> ?_)
  clear hK K
  try simp only [PT]
  refine rd 15 rfl fun K hK=> ?_
  go_simp
  try simp only [IntWalk.i64_left]
  refine (lJoin_calls (t:=u.2) _ _ _ Hr.out _ ⟨hA,kt,o_kt⟩).mono ?_
  rintro e_W5 W5 ⟨rfl,O3,hT_W5,hf_W5⟩
  have q_kn:=hf_W5.keep kn o_kn (by unfold oneX;omega)
  replace o_kn:=hf_W5.not_own (lt_of kn) o_kn
  clear kn;have kn:=q_kn;clear q_kn
  obtain ⟨c_kn,f_kn,l_kn_W5⟩:=f3 kn
  clear kt c_kt f_kt o_kt;have kt:=hT_W5.blk;have o_kt:=hT_W5.no
  obtain ⟨c_kt,f_kt,l_kt_W5⟩:=f3 kt
  replace hF:=hF.trans hf_W5
  have z_W5:=hf_W5.size
  clear hA hf_W5;have hA:=hT_W5.hA;clear hT_W5
  refine hK.out _ _ ⟨((c_kt 0).trans (v_kt 0).symm),(fun o=>(c_kn o).trans (v_kn o).symm),(by omega),trivial⟩ (fun hHeld=> ?_)
  clear hK K
  try simp only [PT]
  refine rd 16 rfl fun K hK=> ?_
  go_simp
  refine hK.out _ _ hHeld (fun hHeld=> ?_)
  clear hK K
  try simp only [PT]
  refine wpAnyH_done (by kernel_rfl) ?_ _
  refine NoPanic.normal ?_
  go_wp2_with fail
  go_ret
  exact ⟨rfl,O3,⟨hA,kt,o_kt⟩,hF⟩
set_option maxRecDepth 100000 in
set_option maxHeartbeats 2000000 in
theorem lChg_low (k : Nat) (hKC : Hid (KeepC tb C)) (ih : Hid (∀ (t : Tb) (O : Nat → Prop) (h i : Int) (r : Int × Tb) (w : World), Tb.change one k t h i = some r → LB w tb ap t O → C w O → Calls Tryz.prog 113 #[.pointer (some ⟨tb, 0, none⟩), .int .i64 h, .int .i64 i, .func (.func f) #[] caps] w fun e w' => e = .returned (.int .i64 r.1) ∧ DidL tb ap r.2 O w w')) (h i : Int) (r : Int × Tb) (w : World) (h0 : lIs t.s h = true) (d1 : ((t.s.get h).tag == 4) = false) (d2 : decide (lLen t.s (t.s.get h).k0 ≤ i) = false)
    (hr:(Tb.change one k t (t.s.get h).k0 i).bind (fun r=>(r.2.keep (t.s.get h).k1).join r.1 (t.s.get h).k1)=some r) (hT:LB w tb ap t O) (hC:C w O):
    Calls Tryz.prog 113 #[.pointer (some ⟨tb,0,none⟩), .int .i64 h, .int .i64 i, .func (.func f) #[] caps] w fun e w'=>e= .returned (.int .i64 r.1)∧DidL tb ap r.2 O w w':=by
  obtain ⟨u,h_b,h_r⟩:=Option.bind_eq_some_iff.1 hr
  have Hu:=Lib.hid h_b;clear h_b hr;have hr:=h_r;clear h_r
  have Hr:=Lib.hid hr;clear hr
  have HC:=Lib.hid hC;clear hC
  go_enter Tryz.func113,Tryz.ntmps113
  have hA:=hT.hA
  have kt:=hT.blk
  have o_kt:=hT.no
  obtain ⟨c_kt,f_kt,l_kt_w⟩:=f3 kt
  go_wp2_with fail
  refine calls_gen fun V hV_V=> ?_
  replace kt:=kK hV_V kt
  have hF:Fr ((oneX tb)) O O w V:=nF hV_V
  replace hA:AP V ap t.s O:=nA hV_V
  have z_V:=zS hV_V
  clear hV_V c_kt f_kt
  obtain ⟨c_kt,f_kt,l_kt_V⟩:=f3 kt
  refine (lRow_calls _ _ hA).mono ?_
  rintro e_W1 W1 ⟨rfl,hb_W1⟩
  replace hA:=hA.below hb_W1
  replace hF:=hF.below hb_W1
  replace kt:=keep_blk hb_W1 kt
  have z_W1:=hb_W1.size
  clear hb_W1 c_kt f_kt
  obtain ⟨c_kt,f_kt,l_kt_W1⟩:=f3 kt
  unfold Nd.val
  go_wp2_with fail
  refine wp_gen fun V1 hV_V1=> ?_
  have n_kn:=hbk hV_V1 (W1.heap.size)
  simp (maxDischargeDepth:=9) only [BK,not_false_eq_true,reduceCtorEq,kt,l_kt_w,l_kt_V,l_kt_W1] at n_kn
  have o_kn: ¬O (W1.heap.size):=by first|exact hA.new (Nat.le_refl _)|exact hA.new (by omega)
  replace kt:=kK hV_V1 kt
  replace hF:Fr ((oneX tb)) O O w V1:=nF hV_V1
  replace hA:AP V1 ap t.s O:=nA hV_V1
  have z_V1:=zS hV_V1
  clear hV_V1 c_kt f_kt
  obtain ⟨c_kt,f_kt,l_kt_V1⟩:=f3 kt
  have kn:=n_kn;clear n_kn
  obtain ⟨c_kn,f_kn,l_kn_V1⟩:=f3 kn
  refine wp_region_noPanic ?_
  refine wp_region_held_drew (S:=fun v=>(∀o,v.cell? ⟨tb,o,none⟩=V1.cell? ⟨tb,o,none⟩)∧(∀o,v.cell? ⟨W1.heap.size,o,none⟩=V1.cell? ⟨W1.heap.size,o,none⟩)∧(V1.heap.size≤v.heap.size)∧AP v ap t.s O) (by kernel_rfl) ⟨(fun _=>rfl),(fun _=>rfl),(Nat.le_refl _),hA.drew⟩ (fun hHeld=> ?_)
  generalize hV_V1d:V1.drew=V1d at hHeld⊢
  have d_kt:=dK hV_V1d kt
  have d_kn:=dK hV_V1d kn
  clear c_kt f_kt c_kn f_kn
  replace hA:=hA.drew;rw [hV_V1d] at hA
  replace hF:=hF.drew;rw [hV_V1d] at hF
  have z_V1d:=dZ hV_V1d
  have v_kt:=cells_of kt
  have v_kn:=cells_of kn
  clear kt;have kt:=d_kt;clear d_kt
  clear kn;have kn:=d_kn;clear d_kn
  obtain ⟨c_kt,f_kt,l_kt_V1d⟩:=f3 kt
  obtain ⟨c_kn,f_kn,l_kn_V1d⟩:=f3 kn
  clear hV_V1d
  refine tz 0 rfl hHeld ?_
  try simp only [PT]
  refine tz 1 rfl hHeld ?_
  try simp only [PT]
  refine tz 2 rfl hHeld ?_
  try simp only [PT]
  refine tz 3 rfl hHeld ?_
  try simp only [PT]
  refine tz 4 rfl hHeld ?_
  try simp only [PT]
  refine tz 5 rfl hHeld ?_
  try simp only [PT]
  refine tz 6 rfl hHeld ?_
  try simp only [PT]
  refine rd 7 rfl fun K hK=> ?_
  go_simp
  try simp only [IntWalk.i64_left]
  refine (lLen_calls _ _ hA).mono ?_
  rintro e_W2 W2 ⟨rfl,hb_W2⟩
  replace hA:=hA.below hb_W2
  replace hF:=hF.below hb_W2
  replace kt:=keep_blk hb_W2 kt
  replace kn:=keep_blk hb_W2 kn
  have z_W2:=hb_W2.size
  clear hb_W2 c_kt f_kt c_kn f_kn
  obtain ⟨c_kt,f_kt,l_kt_W2⟩:=f3 kt
  obtain ⟨c_kn,f_kn,l_kn_W2⟩:=f3 kn
  refine hK.out _ _ ⟨(fun o=>(c_kt o).trans (v_kt o).symm),(fun o=>(c_kn o).trans (v_kn o).symm),(by omega),hA⟩ (fun hHeld=> ?_)
  clear hK K
  try simp only [PT]
  refine rd 8 rfl fun K hK=> ?_
  go_simp
  refine hK.out _ _ hHeld (fun hHeld=> ?_)
  clear hK K
  try simp only [PT]
  refine wpAnyH_done (by kernel_rfl) ?_ _
  refine NoPanic.normal ?_
  go_wp2_with fail
  refine wp_gen fun V2 hV_V2=> ?_
  replace kt:=kK hV_V2 kt
  replace kn:=kK hV_V2 kn
  replace hF:Fr ((oneX tb)) O O w V2:=nF hV_V2
  replace hA:AP V2 ap t.s O:=nA hV_V2
  have z_V2:=zS hV_V2
  clear hV_V2 c_kt f_kt c_kn f_kn
  obtain ⟨c_kt,f_kt,l_kt_V2⟩:=f3 kt
  obtain ⟨c_kn,f_kn,l_kn_V2⟩:=f3 kn
  refine wp_region_noPanic ?_
  refine wp_region_held_drew (S:=fun v=>(v.cell? ⟨tb,0,none⟩=V2.cell? ⟨tb,0,none⟩)∧(∀o,v.cell? ⟨W1.heap.size,o,none⟩=V2.cell? ⟨W1.heap.size,o,none⟩)∧(V2.heap.size≤v.heap.size)∧True) (by kernel_rfl) ⟨rfl,(fun _=>rfl),(Nat.le_refl _),trivial⟩ (fun hHeld=> ?_)
  generalize hV_V2d:V2.drew=V2d at hHeld⊢
  have d_kt:=dK hV_V2d kt
  have d_kn:=dK hV_V2d kn
  clear c_kt f_kt c_kn f_kn
  replace hA:=hA.drew;rw [hV_V2d] at hA
  replace hF:=hF.drew;rw [hV_V2d] at hF
  have z_V2d:=dZ hV_V2d
  have v_kt:=cells_of kt
  have v_kn:=cells_of kn
  clear kt;have kt:=d_kt;clear d_kt
  clear kn;have kn:=d_kn;clear d_kn
  obtain ⟨c_kt,f_kt,l_kt_V2d⟩:=f3 kt
  obtain ⟨c_kn,f_kn,l_kn_V2d⟩:=f3 kn
  clear hV_V2d
  refine tz 0 rfl hHeld ?_
  try simp only [PT]
  refine tz 1 rfl hHeld ?_
  try simp only [PT]
  refine tz 2 rfl hHeld ?_
  try simp only [PT]
  refine tz 3 rfl hHeld ?_
  try simp only [PT]
  refine tz 4 rfl hHeld ?_
  try simp only [PT]
  refine tz 5 rfl hHeld ?_
  try simp only [PT]
  refine tz 6 rfl hHeld ?_
  try simp only [PT]
  refine tz 8 rfl hHeld ?_
  try simp only [PT]
  refine tz 9 rfl hHeld ?_
  try simp only [PT]
  refine tz 10 rfl hHeld ?_
  try simp only [PT]
  refine tz 11 rfl hHeld ?_
  try simp only [PT]
  refine rd 7 rfl fun K hK=> ?_
  go_simp
  try simp only [IntWalk.i64_left]
  refine (ih.out t _ _ _ _ _ Hu.out ⟨hA,kt,o_kt⟩ (hKC.out _ _ _ _ HC.out hF)).mono ?_
  rintro e_W3 W3 ⟨rfl,O1,hT_W3,hf_W3⟩
  have q_kn:=hf_W3.keep kn o_kn (by unfold oneX;omega)
  replace o_kn:=hf_W3.not_own (lt_of kn) o_kn
  clear kn;have kn:=q_kn;clear q_kn
  obtain ⟨c_kn,f_kn,l_kn_W3⟩:=f3 kn
  clear kt c_kt f_kt o_kt;have kt:=hT_W3.blk;have o_kt:=hT_W3.no
  obtain ⟨c_kt,f_kt,l_kt_W3⟩:=f3 kt
  replace hF:=hF.trans hf_W3
  have z_W3:=hf_W3.size
  clear hA hf_W3;have hA:=hT_W3.hA;clear hT_W3
  refine hK.out _ _ ⟨((c_kt 0).trans (v_kt 0).symm),(fun o=>(c_kn o).trans (v_kn o).symm),(by omega),trivial⟩ (fun hHeld=> ?_)
  clear hK K
  try simp only [PT]
  refine rd 12 rfl fun K hK=> ?_
  go_simp
  try simp only [IntWalk.i64_left]
  refine (lKeep_calls (t:=u.2) (t.s.get h).k1 _ ⟨hA,kt,o_kt⟩).mono ?_
  rintro e_W4 W4 ⟨rfl,O2,hT_W4,hf_W4⟩
  have q_kn:=hf_W4.keep kn o_kn (by unfold oneX;omega)
  replace o_kn:=hf_W4.not_own (lt_of kn) o_kn
  clear kn;have kn:=q_kn;clear q_kn
  obtain ⟨c_kn,f_kn,l_kn_W4⟩:=f3 kn
  clear kt c_kt f_kt o_kt;have kt:=hT_W4.blk;have o_kt:=hT_W4.no
  obtain ⟨c_kt,f_kt,l_kt_W4⟩:=f3 kt
  replace hF:=hF.trans hf_W4
  have z_W4:=hf_W4.size
  clear hA hf_W4;have hA:=hT_W4.hA;clear hT_W4
  refine hK.out _ _ ⟨((c_kt 0).trans (v_kt 0).symm),(fun o=>(c_kn o).trans (v_kn o).symm),(by omega),trivial⟩ (fun hHeld=> ?_)
  clear hK K
  try simp only [PT]
  refine rd 13 rfl fun K hK=> ?_
  go_simp
  try simp only [IntWalk.i64_left]
  refine (lJoin_calls (t:=u.2.keep (t.s.get h).k1) _ _ _ Hr.out _ ⟨hA,kt,o_kt⟩).mono ?_
  rintro e_W5 W5 ⟨rfl,O3,hT_W5,hf_W5⟩
  have q_kn:=hf_W5.keep kn o_kn (by unfold oneX;omega)
  replace o_kn:=hf_W5.not_own (lt_of kn) o_kn
  clear kn;have kn:=q_kn;clear q_kn
  obtain ⟨c_kn,f_kn,l_kn_W5⟩:=f3 kn
  clear kt c_kt f_kt o_kt;have kt:=hT_W5.blk;have o_kt:=hT_W5.no
  obtain ⟨c_kt,f_kt,l_kt_W5⟩:=f3 kt
  replace hF:=hF.trans hf_W5
  have z_W5:=hf_W5.size
  clear hA hf_W5;have hA:=hT_W5.hA;clear hT_W5
  refine hK.out _ _ ⟨((c_kt 0).trans (v_kt 0).symm),(fun o=>(c_kn o).trans (v_kn o).symm),(by omega),trivial⟩ (fun hHeld=> ?_)
  clear hK K
  try simp only [PT]
  refine rd 14 rfl fun K hK=> ?_
  go_simp
  refine hK.out _ _ hHeld (fun hHeld=> ?_)
  clear hK K
  try simp only [PT]
  refine wpAnyH_done (by kernel_rfl) ?_ _
  refine NoPanic.normal ?_
  go_wp2_with fail
  go_ret
  exact ⟨rfl,O3,⟨hA,kt,o_kt⟩,hF⟩
end
set_option maxHeartbeats 400000 in
theorem lChange_calls {C : World → (Nat → Prop) → Prop} {f : FuncId} {caps : Array Value} {one : Tb → Int → Option (Int × Tb)} (hfun : ∀ args w, (callFunc f args).run Tryz.prog w = .ok (.enter f args) w) (hKC : Hid (KeepC tb C)) (hone : Hid (OneC tb ap C f caps one)) :
    ∀(k:Nat) (t:Tb) (O:Nat→Prop) (h i:Int) (r:Int×Tb) (w:World),Tb.change one k t h i=some r→LB w tb ap t O→C w O→
    Calls Tryz.prog 113 #[.pointer (some ⟨tb,0,none⟩), .int .i64 h, .int .i64 i, .func (.func f) #[] caps] w fun e w'=>e= .returned (.int .i64 r.1)∧DidL tb ap r.2 O w w'
  | 0,t,O,h,i,r,w,hr,hT,hC=>by cases hr
  | k+1,t,O,h,i,r,w,hr,hT,hC=>by
    have ih:=Lib.hid (lChange_calls hfun hKC hone k)
    unfold Tb.change at hr
    cases h0:lIs t.s h with
    | false=>
      rw [if_pos (.inl h0)] at hr
      exact lChg_none hfun hKC hone h i r w hr h0 hT hC
    | true=>
      by_cases h1:(t.s.get h).tag=4
      · rw [if_pos (.inr h1)] at hr
        exact lChg_item hfun hKC hone h i r w hr h0 (by simpa using h1) hT hC
      · rw [if_neg (by rw [h0];simp [h1])] at hr
        by_cases h2:lLen t.s (t.s.get h).k0≤i
        · rw [if_pos h2] at hr
          exact lChg_high k hKC ih h i r w h0 (by simpa using h1) (by simpa using h2) hr hT hC
        · rw [if_neg h2] at hr
          exact lChg_low k hKC ih h i r w h0 (by simpa using h1) (by simpa using h2) hr hT hC
end Go.Proofs.YtdjpjmkpndmhaaaGreat
namespace Go.Proofs.YtdjpjmkpndmhaaaGreat
open Go.RowKit
attribute [local go_sem ↓] Go.wp_at_zero Go.wp_at_succ
attribute [local go_sem] lt_s2 lt_s3 lt_s4
variable {ap : Value} {O : Nat → Prop} {s : Ar} {tb : Nat}
structure InsC (tb bt bx bn bi:Nat) (x:Int×Int) (n i:Int) (w:World) (O:Nat→Prop):Prop where
  ct:w.heap[bt]? =some (.cells #[.pointer (some ⟨tb,0,none⟩)] 143 (0,0))
  cx:w.heap[bx]? =some (.cells #[.int .i64 x.1, .int .i64 x.2] 56 (0,0))
  cn:w.heap[bn]? =some (.cells #[.int .i64 n] 3 (0,0))
  ci:w.heap[bi]? =some (.cells #[.int .i64 i] 3 (0,0))
  ot: ¬O bt
  ox: ¬O bx
  on: ¬O bn
  oi: ¬O bi
  nt:bt≠tb
  nx:bx≠tb
  nn:bn≠tb
  ni:bi≠tb
theorem InsC.keepC (tb bt bx bn bi:Nat) (x:Int×Int) (n i:Int):KeepC tb (InsC tb bt bx bn bi x n i):=by
  intro w w' O O' h hF
  exact ⟨hF.keep h.ct h.ot h.nt,hF.keep h.cx h.ox h.nx,hF.keep h.cn h.on h.nn,hF.keep h.ci h.oi h.ni,hF.not_own (lt_of h.ct) h.ot,hF.not_own (lt_of h.cx) h.ox,hF.not_own (lt_of h.cn) h.on,hF.not_own (lt_of h.ci) h.oi,h.nt,h.nx,h.nn,h.ni⟩
theorem lMay_calls (x:Int×Int) (i most:Int) (w:World):Calls Tryz.prog 111 #[.agg #[.int .i64 x.1, .int .i64 x.2], .int .i64 i, .int .i64 most] w fun e w'=>e= .returned (.int .i64 (lMay x i most))∧Below w.heap.size w w':=by
  unfold lMay
  by_cases h1:x.1<0
  · have d1:decide (x.1<0)=true:=by simpa using h1
    rw [if_pos (.inl h1)]
    clear h1
    go_enter Tryz.func111,Tryz.ntmps111
    go_wp2_with fail
    go_ret
    exact ⟨rfl,by (repeat' first|with_reducible assumption|with_reducible exact Below.refl _ _|with_reducible refine Below.alloc ?_ ?_ _|with_reducible refine Below.setCell ?_ ?_ _|with_reducible refine below_drewN ?_ _|with_reducible refine Below.drew ?_|exact Nat.le_refl _|((try dsimp only);omega)|(simp only [siz_alloc,siz_set];omega))⟩
  · have d1:decide (x.1<0)=false:=by simpa using h1
    by_cases h2:x.2<0
    · have d2:decide (x.2<0)=true:=by simpa using h2
      rw [if_pos (.inr h2)]
      clear h1 h2
      go_enter Tryz.func111,Tryz.ntmps111
      go_wp2_with fail
      go_ret
      exact ⟨rfl,by (repeat' first|with_reducible assumption|with_reducible exact Below.refl _ _|with_reducible refine Below.alloc ?_ ?_ _|with_reducible refine Below.setCell ?_ ?_ _|with_reducible refine below_drewN ?_ _|with_reducible refine Below.drew ?_|exact Nat.le_refl _|((try dsimp only);omega)|(simp only [siz_alloc,siz_set];omega))⟩
    · have d2:decide (x.2<0)=false:=by simpa using h2
      rw [if_neg (by omega)]
      clear h1 h2
      by_cases h3:i<0
      · have d3:decide (i<0)=true:=by simpa using h3
        rw [if_pos (.inl h3)]
        clear h3
        go_enter Tryz.func111,Tryz.ntmps111
        go_wp2_with fail
        go_ret
        exact ⟨rfl,by (repeat' first|with_reducible assumption|with_reducible exact Below.refl _ _|with_reducible refine Below.alloc ?_ ?_ _|with_reducible refine Below.setCell ?_ ?_ _|with_reducible refine below_drewN ?_ _|with_reducible refine Below.drew ?_|exact Nat.le_refl _|((try dsimp only);omega)|(simp only [siz_alloc,siz_set];omega))⟩
      · have d3:decide (i<0)=false:=by simpa using h3
        by_cases h4:most<i
        · have d4:decide (most<i)=true:=by simpa using h4
          rw [if_pos (.inr h4)]
          clear h3 h4
          go_enter Tryz.func111,Tryz.ntmps111
          go_wp2_with fail
          go_ret
          exact ⟨rfl,by (repeat' first|with_reducible assumption|with_reducible exact Below.refl _ _|with_reducible refine Below.alloc ?_ ?_ _|with_reducible refine Below.setCell ?_ ?_ _|with_reducible refine below_drewN ?_ _|with_reducible refine Below.drew ?_|exact Nat.le_refl _|((try dsimp only);omega)|(simp only [siz_alloc,siz_set];omega))⟩
        · have d4:decide (most<i)=false:=by simpa using h4
          rw [if_neg (by omega)]
          clear h3 h4
          go_enter Tryz.func111,Tryz.ntmps111
          go_wp2_with fail
          go_ret
          exact ⟨rfl,by (repeat' first|with_reducible assumption|with_reducible exact Below.refl _ _|with_reducible refine Below.alloc ?_ ?_ _|with_reducible refine Below.setCell ?_ ?_ _|with_reducible refine below_drewN ?_ _|with_reducible refine Below.drew ?_|exact Nat.le_refl _|((try dsimp only);omega)|(simp only [siz_alloc,siz_set];omega))⟩
variable {t : Tb}
set_option maxRecDepth 100000 in
set_option maxHeartbeats 2000000 in
theorem lIns1_none (bt bx bn bi : Nat) (x : Int × Int) (n i : Int) (d1 : (n == 0) = true) (h : Int) (w : World) (hT : LB w tb ap t O) (hC : InsC tb bt bx bn bi x n i w O) :
    Calls Tryz.prog 114 #[.int .i64 h, .pointer (some ⟨bt,0,none⟩), .pointer (some ⟨bx,0,none⟩), .pointer (some ⟨bn,0,none⟩), .pointer (some ⟨bi,0,none⟩)] w fun e w'=>e= .returned (.int .i64 (t.item x).1)∧DidL tb ap (t.item x).2 O w w':=by
  have ct:=cells_of hC.ct;have cx:=cells_of hC.cx;have cn:=cells_of hC.cn;have ci:=cells_of hC.ci
  have HC:=Lib.hid hC;clear hC
  go_enter Tryz.func114,Tryz.ntmps114
  have hA:=hT.hA
  have kt:=hT.blk
  have o_kt:=hT.no
  obtain ⟨c_kt,f_kt,l_kt_w⟩:=f3 kt
  go_wp2_with fail
  refine calls_gen fun V hV_V=> ?_
  replace kt:=kK hV_V kt
  have hF:Fr ((oneX tb)) O O w V:=nF hV_V
  replace hA:AP V ap t.s O:=nA hV_V
  have z_V:=zS hV_V
  clear hV_V c_kt f_kt
  obtain ⟨c_kt,f_kt,l_kt_V⟩:=f3 kt
  clear ct cx cn ci
  have hC:=InsC.keepC _ _ _ _ _ _ _ _ _ _ _ _ HC.out hF
  have ct:=cells_of hC.ct;have cx:=cells_of hC.cx;have cn:=cells_of hC.cn;have ci:=cells_of hC.ci
  have HC2:=Lib.hid hC;clear hC
  refine (lItem_calls (t:=t) x _ ⟨hA,kt,o_kt⟩).mono ?_
  rintro e_W1 W1 ⟨rfl,O1,hT_W1,hf_W1⟩
  clear kt c_kt f_kt o_kt;have kt:=hT_W1.blk;have o_kt:=hT_W1.no
  obtain ⟨c_kt,f_kt,l_kt_W1⟩:=f3 kt
  replace hF:=hF.trans hf_W1
  have z_W1:=hf_W1.size
  clear hA hf_W1;have hA:=hT_W1.hA;clear hT_W1
  clear ct cx cn ci
  have hC:=InsC.keepC _ _ _ _ _ _ _ _ _ _ _ _ HC.out hF
  have ct:=cells_of hC.ct;have cx:=cells_of hC.cx;have cn:=cells_of hC.cn;have ci:=cells_of hC.ci
  clear hC
  go_wp2_with fail
  go_ret
  exact ⟨rfl,O1,⟨hA,kt,o_kt⟩,hF⟩
set_option maxRecDepth 100000 in
set_option maxHeartbeats 2000000 in
theorem lIns1_last (bt bx bn bi : Nat) (x : Int × Int) (n i : Int) (d1 : (n == 0) = false) (d2 : (i == n) = true) (h : Int) (r : Int × Tb) (hr : ((t.item x).2.keep h).join h (t.item x).1 = some r) (w : World) (hT : LB w tb ap t O) (hC : InsC tb bt bx bn bi x n i w O) :
    Calls Tryz.prog 114 #[.int .i64 h, .pointer (some ⟨bt,0,none⟩), .pointer (some ⟨bx,0,none⟩), .pointer (some ⟨bn,0,none⟩), .pointer (some ⟨bi,0,none⟩)] w fun e w'=>e= .returned (.int .i64 r.1)∧DidL tb ap r.2 O w w':=by
  have Hr:=Lib.hid hr;clear hr
  have ct:=cells_of hC.ct;have cx:=cells_of hC.cx;have cn:=cells_of hC.cn;have ci:=cells_of hC.ci
  have HC:=Lib.hid hC;clear hC
  go_enter Tryz.func114,Tryz.ntmps114
  have hA:=hT.hA
  have kt:=hT.blk
  have o_kt:=hT.no
  obtain ⟨c_kt,f_kt,l_kt_w⟩:=f3 kt
  go_wp2_with fail
  refine calls_gen fun V hV_V=> ?_
  replace kt:=kK hV_V kt
  have hF:Fr ((oneX tb)) O O w V:=nF hV_V
  replace hA:AP V ap t.s O:=nA hV_V
  have z_V:=zS hV_V
  clear hV_V c_kt f_kt
  obtain ⟨c_kt,f_kt,l_kt_V⟩:=f3 kt
  clear ct cx cn ci
  refine (lItem_calls (t:=t) x _ ⟨hA,kt,o_kt⟩).mono ?_
  rintro e_W1 W1 ⟨rfl,O1,hT_W1,hf_W1⟩
  clear kt c_kt f_kt o_kt;have kt:=hT_W1.blk;have o_kt:=hT_W1.no
  obtain ⟨c_kt,f_kt,l_kt_W1⟩:=f3 kt
  replace hF:=hF.trans hf_W1
  have z_W1:=hf_W1.size
  clear hA hf_W1;have hA:=hT_W1.hA;clear hT_W1
  have hC:=InsC.keepC _ _ _ _ _ _ _ _ _ _ _ _ HC.out hF
  have kb:=hC.ct
  have o_kb:=hC.ot
  have e_kb:=hC.nt
  have ct:=cells_of hC.ct;have cx:=cells_of hC.cx;have cn:=cells_of hC.cn;have ci:=cells_of hC.ci
  clear hC
  obtain ⟨c_kb,f_kb,l_kb_W1⟩:=f3 kb
  go_wp2_with fail
  refine wp_gen fun V2 hV_V2=> ?_
  replace kt:=kK hV_V2 kt
  replace kb:=kK hV_V2 kb
  replace hF:Fr ((oneX tb)) O O1 w V2:=nF hV_V2
  replace hA:AP V2 ap ((t.item x).2).s O1:=nA hV_V2
  have z_V2:=zS hV_V2
  clear hV_V2 c_kt f_kt c_kb f_kb
  obtain ⟨c_kt,f_kt,l_kt_V2⟩:=f3 kt
  obtain ⟨c_kb,f_kb,l_kb_V2⟩:=f3 kb
  clear ct cx cn ci
  refine wp_region_noPanic ?_
  refine wp_region_held_drew (S:=fun v=>(v.cell? ⟨tb,0,none⟩=V2.cell? ⟨tb,0,none⟩)∧(∀o,v.cell? ⟨bt,o,none⟩=V2.cell? ⟨bt,o,none⟩)∧(V2.heap.size≤v.heap.size)∧True) (by kernel_rfl) ⟨rfl,(fun _=>rfl),(Nat.le_refl _),trivial⟩ (fun hHeld=> ?_)
  generalize hV_V2d:V2.drew=V2d at hHeld⊢
  have d_kt:=dK hV_V2d kt
  have d_kb:=dK hV_V2d kb
  clear c_kt f_kt c_kb f_kb
  replace hA:=hA.drew;rw [hV_V2d] at hA
  replace hF:=hF.drew;rw [hV_V2d] at hF
  have z_V2d:=dZ hV_V2d
  have v_kt:=cells_of kt
  have v_kb:=cells_of kb
  clear kt;have kt:=d_kt;clear d_kt
  clear kb;have kb:=d_kb;clear d_kb
  obtain ⟨c_kt,f_kt,l_kt_V2d⟩:=f3 kt
  obtain ⟨c_kb,f_kb,l_kb_V2d⟩:=f3 kb
  clear hV_V2d
  refine tz 0 rfl hHeld ?_
  try simp only [PT]
  refine tz 1 rfl hHeld ?_
  try simp only [PT]
  refine tz 2 rfl hHeld ?_
  try simp only [PT]
  refine tz 4 rfl hHeld ?_
  try simp only [PT]
  refine rd 3 rfl fun K hK=> ?_
  go_simp
  try simp only [IntWalk.i64_left]
  refine (lKeep_calls (t:=(t.item x).2) h _ ⟨hA,kt,o_kt⟩).mono ?_
  rintro e_W2 W2 ⟨rfl,O2,hT_W2,hf_W2⟩
  have q_kb:=hf_W2.keep kb o_kb (by unfold oneX;omega)
  replace o_kb:=hf_W2.not_own (lt_of kb) o_kb
  clear kb;have kb:=q_kb;clear q_kb
  obtain ⟨c_kb,f_kb,l_kb_W2⟩:=f3 kb
  clear kt c_kt f_kt o_kt;have kt:=hT_W2.blk;have o_kt:=hT_W2.no
  obtain ⟨c_kt,f_kt,l_kt_W2⟩:=f3 kt
  replace hF:=hF.trans hf_W2
  have z_W2:=hf_W2.size
  clear hA hf_W2;have hA:=hT_W2.hA;clear hT_W2
  refine hK.out _ _ ⟨((c_kt 0).trans (v_kt 0).symm),(fun o=>(c_kb o).trans (v_kb o).symm),(by omega),trivial⟩ (fun hHeld=> ?_)
  clear hK K
  try simp only [PT]
  refine rd 5 rfl fun K hK=> ?_
  go_simp
  try simp only [IntWalk.i64_left]
  refine (lJoin_calls (t:=(t.item x).2.keep h) _ _ _ Hr.out _ ⟨hA,kt,o_kt⟩).mono ?_
  rintro e_W3 W3 ⟨rfl,O3,hT_W3,hf_W3⟩
  have q_kb:=hf_W3.keep kb o_kb (by unfold oneX;omega)
  replace o_kb:=hf_W3.not_own (lt_of kb) o_kb
  clear kb;have kb:=q_kb;clear q_kb
  obtain ⟨c_kb,f_kb,l_kb_W3⟩:=f3 kb
  clear kt c_kt f_kt o_kt;have kt:=hT_W3.blk;have o_kt:=hT_W3.no
  obtain ⟨c_kt,f_kt,l_kt_W3⟩:=f3 kt
  replace hF:=hF.trans hf_W3
  have z_W3:=hf_W3.size
  clear hA hf_W3;have hA:=hT_W3.hA;clear hT_W3
  refine hK.out _ _ ⟨((c_kt 0).trans (v_kt 0).symm),(fun o=>(c_kb o).trans (v_kb o).symm),(by omega),trivial⟩ (fun hHeld=> ?_)
  clear hK K
  try simp only [PT]
  refine rd 6 rfl fun K hK=> ?_
  go_simp
  refine hK.out _ _ hHeld (fun hHeld=> ?_)
  clear hK K
  try simp only [PT]
  refine wpAnyH_done (by kernel_rfl) ?_ _
  refine NoPanic.normal ?_
  go_wp2_with fail
  go_ret
  exact ⟨rfl,O3,⟨hA,kt,o_kt⟩,hF⟩
set_option maxRecDepth 100000 in
set_option maxHeartbeats 2000000 in
theorem lIns1_ahead (bt bx bn bi : Nat) (x : Int × Int) (n i : Int) (d1 : (n == 0) = false) (d2 : (i == n) = false) (h : Int) (r : Int × Tb) (hr : ((t.item x).2.keep h).join (t.item x).1 h = some r) (w : World) (hT : LB w tb ap t O) (hC : InsC tb bt bx bn bi x n i w O) :
    Calls Tryz.prog 114 #[.int .i64 h, .pointer (some ⟨bt,0,none⟩), .pointer (some ⟨bx,0,none⟩), .pointer (some ⟨bn,0,none⟩), .pointer (some ⟨bi,0,none⟩)] w fun e w'=>e= .returned (.int .i64 r.1)∧DidL tb ap r.2 O w w':=by
  have Hr:=Lib.hid hr;clear hr
  have ct:=cells_of hC.ct;have cx:=cells_of hC.cx;have cn:=cells_of hC.cn;have ci:=cells_of hC.ci
  have HC:=Lib.hid hC;clear hC
  go_enter Tryz.func114,Tryz.ntmps114
  have hA:=hT.hA
  have kt:=hT.blk
  have o_kt:=hT.no
  obtain ⟨c_kt,f_kt,l_kt_w⟩:=f3 kt
  go_wp2_with fail
  refine calls_gen fun V hV_V=> ?_
  replace kt:=kK hV_V kt
  have hF:Fr ((oneX tb)) O O w V:=nF hV_V
  replace hA:AP V ap t.s O:=nA hV_V
  have z_V:=zS hV_V
  clear hV_V c_kt f_kt
  obtain ⟨c_kt,f_kt,l_kt_V⟩:=f3 kt
  clear ct cx cn ci
  refine (lItem_calls (t:=t) x _ ⟨hA,kt,o_kt⟩).mono ?_
  rintro e_W1 W1 ⟨rfl,O1,hT_W1,hf_W1⟩
  clear kt c_kt f_kt o_kt;have kt:=hT_W1.blk;have o_kt:=hT_W1.no
  obtain ⟨c_kt,f_kt,l_kt_W1⟩:=f3 kt
  replace hF:=hF.trans hf_W1
  have z_W1:=hf_W1.size
  clear hA hf_W1;have hA:=hT_W1.hA;clear hT_W1
  have hC:=InsC.keepC _ _ _ _ _ _ _ _ _ _ _ _ HC.out hF
  have kb:=hC.ct
  have o_kb:=hC.ot
  have e_kb:=hC.nt
  have ct:=cells_of hC.ct;have cx:=cells_of hC.cx;have cn:=cells_of hC.cn;have ci:=cells_of hC.ci
  clear hC
  obtain ⟨c_kb,f_kb,l_kb_W1⟩:=f3 kb
  go_wp2_with fail
  refine wp_gen fun V2 hV_V2=> ?_
  replace kt:=kK hV_V2 kt
  replace kb:=kK hV_V2 kb
  replace hF:Fr ((oneX tb)) O O1 w V2:=nF hV_V2
  replace hA:AP V2 ap ((t.item x).2).s O1:=nA hV_V2
  have z_V2:=zS hV_V2
  clear hV_V2 c_kt f_kt c_kb f_kb
  obtain ⟨c_kt,f_kt,l_kt_V2⟩:=f3 kt
  obtain ⟨c_kb,f_kb,l_kb_V2⟩:=f3 kb
  clear ct cx cn ci
  refine wp_region_noPanic ?_
  refine wp_region_held_drew (S:=fun v=>(v.cell? ⟨tb,0,none⟩=V2.cell? ⟨tb,0,none⟩)∧(∀o,v.cell? ⟨bt,o,none⟩=V2.cell? ⟨bt,o,none⟩)∧(V2.heap.size≤v.heap.size)∧True) (by kernel_rfl) ⟨rfl,(fun _=>rfl),(Nat.le_refl _),trivial⟩ (fun hHeld=> ?_)
  generalize hV_V2d:V2.drew=V2d at hHeld⊢
  have d_kt:=dK hV_V2d kt
  have d_kb:=dK hV_V2d kb
  clear c_kt f_kt c_kb f_kb
  replace hA:=hA.drew;rw [hV_V2d] at hA
  replace hF:=hF.drew;rw [hV_V2d] at hF
  have z_V2d:=dZ hV_V2d
  have v_kt:=cells_of kt
  have v_kb:=cells_of kb
  clear kt;have kt:=d_kt;clear d_kt
  clear kb;have kb:=d_kb;clear d_kb
  obtain ⟨c_kt,f_kt,l_kt_V2d⟩:=f3 kt
  obtain ⟨c_kb,f_kb,l_kb_V2d⟩:=f3 kb
  clear hV_V2d
  refine tz 0 rfl hHeld ?_
  try simp only [PT]
  refine tz 1 rfl hHeld ?_
  try simp only [PT]
  refine tz 2 rfl hHeld ?_
  try simp only [PT]
  refine tz 3 rfl hHeld ?_
  try simp only [PT]
  refine rd 4 rfl fun K hK=> ?_
  go_simp
  try simp only [IntWalk.i64_left]
  refine (lKeep_calls (t:=(t.item x).2) h _ ⟨hA,kt,o_kt⟩).mono ?_
  rintro e_W2 W2 ⟨rfl,O2,hT_W2,hf_W2⟩
  have q_kb:=hf_W2.keep kb o_kb (by unfold oneX;omega)
  replace o_kb:=hf_W2.not_own (lt_of kb) o_kb
  clear kb;have kb:=q_kb;clear q_kb
  obtain ⟨c_kb,f_kb,l_kb_W2⟩:=f3 kb
  clear kt c_kt f_kt o_kt;have kt:=hT_W2.blk;have o_kt:=hT_W2.no
  obtain ⟨c_kt,f_kt,l_kt_W2⟩:=f3 kt
  replace hF:=hF.trans hf_W2
  have z_W2:=hf_W2.size
  clear hA hf_W2;have hA:=hT_W2.hA;clear hT_W2
  refine hK.out _ _ ⟨((c_kt 0).trans (v_kt 0).symm),(fun o=>(c_kb o).trans (v_kb o).symm),(by omega),trivial⟩ (fun hHeld=> ?_)
  clear hK K
  try simp only [PT]
  refine rd 5 rfl fun K hK=> ?_
  go_simp
  try simp only [IntWalk.i64_left]
  refine (lJoin_calls (t:=(t.item x).2.keep h) _ _ _ Hr.out _ ⟨hA,kt,o_kt⟩).mono ?_
  rintro e_W3 W3 ⟨rfl,O3,hT_W3,hf_W3⟩
  have q_kb:=hf_W3.keep kb o_kb (by unfold oneX;omega)
  replace o_kb:=hf_W3.not_own (lt_of kb) o_kb
  clear kb;have kb:=q_kb;clear q_kb
  obtain ⟨c_kb,f_kb,l_kb_W3⟩:=f3 kb
  clear kt c_kt f_kt o_kt;have kt:=hT_W3.blk;have o_kt:=hT_W3.no
  obtain ⟨c_kt,f_kt,l_kt_W3⟩:=f3 kt
  replace hF:=hF.trans hf_W3
  have z_W3:=hf_W3.size
  clear hA hf_W3;have hA:=hT_W3.hA;clear hT_W3
  refine hK.out _ _ ⟨((c_kt 0).trans (v_kt 0).symm),(fun o=>(c_kb o).trans (v_kb o).symm),(by omega),trivial⟩ (fun hHeld=> ?_)
  clear hK K
  try simp only [PT]
  refine rd 6 rfl fun K hK=> ?_
  go_simp
  refine hK.out _ _ hHeld (fun hHeld=> ?_)
  clear hK K
  try simp only [PT]
  refine wpAnyH_done (by kernel_rfl) ?_ _
  refine NoPanic.normal ?_
  go_wp2_with fail
  go_ret
  exact ⟨rfl,O3,⟨hA,kt,o_kt⟩,hF⟩
theorem minmax2 (i m:Int) {P:Prop} (h1:(m<0)=True→(0<i)=True→imin i (imax m 0)=0→P) (h2:(m<0)=True→(0<i)=False→imin i (imax m 0)=i→P) (h3:(m<0)=False→(m<i)=True→imin i (imax m 0)=m→P) (h4:(m<0)=False→(m<i)=False→imin i (imax m 0)=i→P):P:=by
  by_cases c1:m<0
  · by_cases c2:0<i
    · exact h1 (eq_true c1) (eq_true c2) (by unfold imin imax;split<;>split<;>omega)
    · exact h2 (eq_true c1) (eq_false c2) (by unfold imin imax;split<;>split<;>omega)
  · by_cases c2:m<i
    · exact h3 (eq_false c1) (eq_true c2) (by unfold imin imax;split<;>split<;>omega)
    · exact h4 (eq_false c1) (eq_false c2) (by unfold imin imax;split<;>split<;>omega)
theorem lIns1_calls (tb bt bx bn bi:Nat) (x:Int×Int) (n i:Int):OneC tb ap (InsC tb bt bx bn bi x n i) 114 #[.pointer (some ⟨bt,0,none⟩), .pointer (some ⟨bx,0,none⟩), .pointer (some ⟨bn,0,none⟩), .pointer (some ⟨bi,0,none⟩)] (lInsOne n i x):=by
  intro t O h r w hr hT hC
  show Calls Tryz.prog _ #[.int .i64 h, .pointer (some ⟨bt,0,none⟩), .pointer (some ⟨bx,0,none⟩), .pointer (some ⟨bn,0,none⟩), .pointer (some ⟨bi,0,none⟩)] _ _
  unfold lInsOne at hr
  dsimp only at hr
  by_cases h1:n=0
  · rw [if_pos h1] at hr
    obtain rfl:=Option.some.inj hr
    exact lIns1_none bt bx bn bi x n i (by simpa using h1) h w hT hC
  · rw [if_neg h1] at hr
    by_cases h2:i=n
    · rw [if_pos h2] at hr
      exact lIns1_last bt bx bn bi x n i (by simpa using h1) (by simpa using h2) h r hr w hT hC
    · rw [if_neg h2] at hr
      exact lIns1_ahead bt bx bn bi x n i (by simpa using h1) (by simpa using h2) h r hr w hT hC
theorem told_s (u:Int×Tb):(Tb.told u).2.2=u.2.s:=by unfold Tb.told;split<;>rfl
theorem lIns1_fun (args:Array Value) (w:World):(callFunc 114 args).run Tryz.prog w= .ok (.enter 114 args) w:=by kernel_rfl
set_option maxRecDepth 100000 in
set_option maxHeartbeats 2000000 in
theorem lInsert_calls (h i : Int) (x : Int × Int) (r : Int × Int × Ar) (hr : lInsert s h i x = some r) (w : World) (hA : AP w ap s O) :
    Calls Tryz.prog 62 #[ap, .int .i64 h, .int .i64 i, .agg #[.int .i64 x.1, .int .i64 x.2]] w fun e w'=>e= .returned (.tuple #[.int .i64 r.1, .int .i64 r.2.1])∧Did noX ap r.2.2 O w w':=by
  obtain ⟨q,rfl⟩:=hA.ptr
  unfold lInsert at hr
  by_cases h1:lMay x i (lLen s h)=0
  · have d1:(lMay x i (lLen s h) !=0)=false:=by simp [h1]
    rw [if_pos h1] at hr
    obtain ⟨u,hu,rfl⟩:=Option.map_eq_some_iff.1 hr
    clear hr h1
    obtain ⟨m,hm⟩: ∃m,m=wrap64 (lLen s h - 1):=⟨_,rfl⟩
    rw [←hm] at hu
    refine minmax2 i m ?_ ?_ ?_ ?_<;>intro c1 c2 hmm<;>rw [hmm] at hu<;>clear hmm<;>subst hm
    all_goals
      have Hu:=Lib.hid hu;clear hu
      go_enter Tryz.func62,Tryz.ntmps62
      go_wp2_with fail
      refine calls_gen fun V hV_V=> ?_
      have n_ki:=hbk hV_V (w.heap.size)
      simp (maxDischargeDepth:=9) only [BK,not_false_eq_true,reduceCtorEq] at n_ki
      have n_kx:=hbk hV_V (w.heap.size+1)
      simp (maxDischargeDepth:=9) only [BK,not_false_eq_true,reduceCtorEq] at n_kx
      have o_ki: ¬O (w.heap.size):=by first|exact hA.new (Nat.le_refl _)|exact hA.new (by omega)
      have o_kx: ¬O (w.heap.size+1):=by first|exact hA.new (Nat.le_refl _)|exact hA.new (by omega)
      have hF:Fr (noX) O O w V:=nF hV_V
      replace hA:AP V (.pointer q) s O:=nA hV_V
      have z_V:=zS hV_V
      clear hV_V
      have ki:=n_ki;clear n_ki
      obtain ⟨c_ki,f_ki,l_ki_V⟩:=f3 ki
      have kx:=n_kx;clear n_kx
      obtain ⟨c_kx,f_kx,l_kx_V⟩:=f3 kx
      refine (lLen_calls _ _ hA).mono ?_
      rintro e_W1 W1 ⟨rfl,hb_W1⟩
      replace hA:=hA.below hb_W1
      replace hF:=hF.below hb_W1
      replace ki:=keep_blk hb_W1 ki
      replace kx:=keep_blk hb_W1 kx
      have z_W1:=hb_W1.size
      clear hb_W1 c_ki f_ki c_kx f_kx
      obtain ⟨c_ki,f_ki,l_ki_W1⟩:=f3 ki
      obtain ⟨c_kx,f_kx,l_kx_W1⟩:=f3 kx
      go_wp2_with fail
      refine calls_gen fun V1 hV_V1=> ?_
      have n_kn:=hbk hV_V1 (W1.heap.size)
      simp (maxDischargeDepth:=9) only [BK,not_false_eq_true,reduceCtorEq,ki,kx,l_ki_V,l_kx_V,l_ki_W1,l_kx_W1] at n_kn
      have o_kn: ¬O (W1.heap.size):=by first|exact hA.new (Nat.le_refl _)|exact hA.new (by omega)
      replace ki:=kK hV_V1 ki
      replace kx:=kK hV_V1 kx
      replace hF:Fr (noX) O O w V1:=nF hV_V1
      replace hA:AP V1 (.pointer q) s O:=nA hV_V1
      have z_V1:=zS hV_V1
      clear hV_V1 c_ki f_ki c_kx f_kx
      obtain ⟨c_ki,f_ki,l_ki_V1⟩:=f3 ki
      obtain ⟨c_kx,f_kx,l_kx_V1⟩:=f3 kx
      have kn:=n_kn;clear n_kn
      obtain ⟨c_kn,f_kn,l_kn_V1⟩:=f3 kn
      refine (lMay_calls x i (lLen s h) _).mono ?_
      rintro e_W2 W2 ⟨rfl,hb_W2⟩
      replace hA:=hA.below hb_W2
      replace hF:=hF.below hb_W2
      replace ki:=keep_blk hb_W2 ki
      replace kx:=keep_blk hb_W2 kx
      replace kn:=keep_blk hb_W2 kn
      have z_W2:=hb_W2.size
      clear hb_W2 c_ki f_ki c_kx f_kx c_kn f_kn
      obtain ⟨c_ki,f_ki,l_ki_W2⟩:=f3 ki
      obtain ⟨c_kx,f_kx,l_kx_W2⟩:=f3 kx
      obtain ⟨c_kn,f_kn,l_kn_W2⟩:=f3 kn
      go_wp2_with fail
      refine wp_gen fun V2 hV_V2=> ?_
      have n_kt:=hbk hV_V2 (W2.heap.size)
      simp (maxDischargeDepth:=9) only [BK,not_false_eq_true,reduceCtorEq,ki,kx,kn,l_ki_V,l_kx_V,l_ki_W1,l_kx_W1,l_ki_V1,l_kx_V1,l_kn_V1,l_ki_W2,l_kx_W2,l_kn_W2] at n_kt
      have n_kb:=hbk hV_V2 (W2.heap.size+1)
      simp (maxDischargeDepth:=9) only [BK,not_false_eq_true,reduceCtorEq,ki,kx,kn,l_ki_V,l_kx_V,l_ki_W1,l_kx_W1,l_ki_V1,l_kx_V1,l_kn_V1,l_ki_W2,l_kx_W2,l_kn_W2] at n_kb
      have o_kt: ¬O (W2.heap.size):=by first|exact hA.new (Nat.le_refl _)|exact hA.new (by omega)
      have o_kb: ¬O (W2.heap.size+1):=by first|exact hA.new (Nat.le_refl _)|exact hA.new (by omega)
      replace ki:=kK hV_V2 ki
      replace kx:=kK hV_V2 kx
      replace kn:=kK hV_V2 kn
      replace hF:Fr (noX) O O w V2:=nF hV_V2
      replace hA:AP V2 (.pointer q) s O:=nA hV_V2
      have z_V2:=zS hV_V2
      clear hV_V2 c_ki f_ki c_kx f_kx c_kn f_kn
      obtain ⟨c_ki,f_ki,l_ki_V2⟩:=f3 ki
      obtain ⟨c_kx,f_kx,l_kx_V2⟩:=f3 kx
      obtain ⟨c_kn,f_kn,l_kn_V2⟩:=f3 kn
      have kt:=n_kt;clear n_kt
      obtain ⟨c_kt,f_kt,l_kt_V2⟩:=f3 kt
      have kb:=n_kb;clear n_kb
      obtain ⟨c_kb,f_kb,l_kb_V2⟩:=f3 kb
      refine wp_region_noPanic ?_
      refine wp_region_held_drew (S:=fun v=>(∀o,v.cell? ⟨w.heap.size,o,none⟩=V2.cell? ⟨w.heap.size,o,none⟩)∧(∀o,v.cell? ⟨w.heap.size+1,o,none⟩=V2.cell? ⟨w.heap.size+1,o,none⟩)∧(∀o,v.cell? ⟨W1.heap.size,o,none⟩=V2.cell? ⟨W1.heap.size,o,none⟩)∧(v.cell? ⟨W2.heap.size,0,none⟩=V2.cell? ⟨W2.heap.size,0,none⟩)∧(∀o,v.cell? ⟨W2.heap.size+1,o,none⟩=V2.cell? ⟨W2.heap.size+1,o,none⟩)∧(V2.heap.size≤v.heap.size)∧True) (by kernel_rfl) ⟨(fun _=>rfl),(fun _=>rfl),(fun _=>rfl),rfl,(fun _=>rfl),(Nat.le_refl _),trivial⟩ (fun hHeld=> ?_)
      generalize hV_V2d:V2.drew=V2d at hHeld⊢
      have d_ki:=dK hV_V2d ki
      have d_kx:=dK hV_V2d kx
      have d_kn:=dK hV_V2d kn
      have d_kt:=dK hV_V2d kt
      have d_kb:=dK hV_V2d kb
      clear c_ki f_ki c_kx f_kx c_kn f_kn c_kt f_kt c_kb f_kb
      replace hA:=hA.drew;rw [hV_V2d] at hA
      replace hF:=hF.drew;rw [hV_V2d] at hF
      have z_V2d:=dZ hV_V2d
      have v_ki:=cells_of ki
      have v_kx:=cells_of kx
      have v_kn:=cells_of kn
      have v_kt:=cells_of kt
      have v_kb:=cells_of kb
      clear ki;have ki:=d_ki;clear d_ki
      clear kx;have kx:=d_kx;clear d_kx
      clear kn;have kn:=d_kn;clear d_kn
      clear kt;have kt:=d_kt;clear d_kt
      clear kb;have kb:=d_kb;clear d_kb
      obtain ⟨c_ki,f_ki,l_ki_V2d⟩:=f3 ki
      obtain ⟨c_kx,f_kx,l_kx_V2d⟩:=f3 kx
      obtain ⟨c_kn,f_kn,l_kn_V2d⟩:=f3 kn
      obtain ⟨c_kt,f_kt,l_kt_V2d⟩:=f3 kt
      obtain ⟨c_kb,f_kb,l_kb_V2d⟩:=f3 kb
      clear hV_V2d
      refine tz 0 rfl hHeld ?_
      try simp only [PT]
      refine tz 1 rfl hHeld ?_
      try simp only [PT]
      refine tz 2 rfl hHeld ?_
      try simp only [PT]
      refine tz 3 rfl hHeld ?_
      try simp only [PT]
      refine tz 4 rfl hHeld ?_
      try simp only [PT]
      refine tz 5 rfl hHeld ?_
      try simp only [PT]
      refine tz 6 rfl hHeld ?_
      try simp only [PT]
      refine tz 7 rfl hHeld ?_
      try simp only [PT]
      refine tz 8 rfl hHeld ?_
      try simp only [PT]
      refine rd 9 rfl fun K hK=> ?_
      go_simp
      try simp only [IntWalk.i64_left]
      refine (lChange_calls lIns1_fun (Lib.hid (InsC.keepC W2.heap.size (W2.heap.size+1) (w.heap.size+1) W1.heap.size w.heap.size x (lLen s h) i)) (Lib.hid (lIns1_calls W2.heap.size (W2.heap.size+1) (w.heap.size+1) W1.heap.size w.heap.size x (lLen s h) i)) rounds ⟨s,0⟩ _ _ _ u _ Hu.out ⟨hA,kt,o_kt⟩ ⟨kb,kx,kn,ki,o_kb,o_kx,o_kn,o_ki,by omega,by omega,by omega,by omega⟩).mono ?_
      rintro e_W3 W3 ⟨rfl,O1,hT_W3,hf_W3⟩
      have q_ki:=hf_W3.keep ki o_ki (by unfold oneX;omega)
      have q_kx:=hf_W3.keep kx o_kx (by unfold oneX;omega)
      have q_kn:=hf_W3.keep kn o_kn (by unfold oneX;omega)
      have q_kb:=hf_W3.keep kb o_kb (by unfold oneX;omega)
      replace o_ki:=hf_W3.not_own (lt_of ki) o_ki
      clear ki;have ki:=q_ki;clear q_ki
      obtain ⟨c_ki,f_ki,l_ki_W3⟩:=f3 ki
      replace o_kx:=hf_W3.not_own (lt_of kx) o_kx
      clear kx;have kx:=q_kx;clear q_kx
      obtain ⟨c_kx,f_kx,l_kx_W3⟩:=f3 kx
      replace o_kn:=hf_W3.not_own (lt_of kn) o_kn
      clear kn;have kn:=q_kn;clear q_kn
      obtain ⟨c_kn,f_kn,l_kn_W3⟩:=f3 kn
      replace o_kb:=hf_W3.not_own (lt_of kb) o_kb
      clear kb;have kb:=q_kb;clear q_kb
      obtain ⟨c_kb,f_kb,l_kb_W3⟩:=f3 kb
      clear kt c_kt f_kt o_kt;have kt:=hT_W3.blk;have o_kt:=hT_W3.no
      obtain ⟨c_kt,f_kt,l_kt_W3⟩:=f3 kt
      replace hF:=hF.trans_new hf_W3 (by omega)
      have z_W3:=hf_W3.size
      clear hA hf_W3;have hA:=hT_W3.hA;clear hT_W3
      refine hK.out _ _ ⟨(fun o=>(c_ki o).trans (v_ki o).symm),(fun o=>(c_kx o).trans (v_kx o).symm),(fun o=>(c_kn o).trans (v_kn o).symm),((c_kt 0).trans (v_kt 0).symm),(fun o=>(c_kb o).trans (v_kb o).symm),(by omega),trivial⟩ (fun hHeld=> ?_)
      clear hK K
      try simp only [PT]
      refine rd 10 rfl fun K hK=> ?_
      go_simp
      try simp only [IntWalk.i64_left]
      refine (lTold_calls (t:=u.2) u.1 _ ⟨hA,kt,o_kt⟩).mono ?_
      rintro e_W4 W4 ⟨rfl,O2,hT_W4,hf_W4⟩
      have q_ki:=hf_W4.keep ki o_ki (by unfold oneX;omega)
      have q_kx:=hf_W4.keep kx o_kx (by unfold oneX;omega)
      have q_kn:=hf_W4.keep kn o_kn (by unfold oneX;omega)
      have q_kb:=hf_W4.keep kb o_kb (by unfold oneX;omega)
      replace o_ki:=hf_W4.not_own (lt_of ki) o_ki
      clear ki;have ki:=q_ki;clear q_ki
      obtain ⟨c_ki,f_ki,l_ki_W4⟩:=f3 ki
      replace o_kx:=hf_W4.not_own (lt_of kx) o_kx
      clear kx;have kx:=q_kx;clear q_kx
      obtain ⟨c_kx,f_kx,l_kx_W4⟩:=f3 kx
      replace o_kn:=hf_W4.not_own (lt_of kn) o_kn
      clear kn;have kn:=q_kn;clear q_kn
      obtain ⟨c_kn,f_kn,l_kn_W4⟩:=f3 kn
      replace o_kb:=hf_W4.not_own (lt_of kb) o_kb
      clear kb;have kb:=q_kb;clear q_kb
      obtain ⟨c_kb,f_kb,l_kb_W4⟩:=f3 kb
      clear kt c_kt f_kt o_kt;have kt:=hT_W4.blk;have o_kt:=hT_W4.no
      obtain ⟨c_kt,f_kt,l_kt_W4⟩:=f3 kt
      replace hF:=hF.trans_new hf_W4 (by omega)
      have z_W4:=hf_W4.size
      clear hA hf_W4;have hA:=hT_W4.hA;clear hT_W4
      refine hK.out _ _ ⟨(fun o=>(c_ki o).trans (v_ki o).symm),(fun o=>(c_kx o).trans (v_kx o).symm),(fun o=>(c_kn o).trans (v_kn o).symm),((c_kt 0).trans (v_kt 0).symm),(fun o=>(c_kb o).trans (v_kb o).symm),(by omega),trivial⟩ (fun hHeld=> ?_)
      clear hK K
      try simp only [PT]
      refine tz 11 rfl hHeld ?_
      try simp only [PT]
      refine tz 12 rfl hHeld ?_
      try simp only [PT]
      refine rd 13 rfl fun K hK=> ?_
      go_simp
      refine hK.out _ _ hHeld (fun hHeld=> ?_)
      clear hK K
      try simp only [PT]
      refine rd 14 rfl fun K hK=> ?_
      go_simp
      refine hK.out _ _ hHeld (fun hHeld=> ?_)
      clear hK K
      try simp only [PT]
      refine wpAnyH_done (by kernel_rfl) ?_ _
      refine NoPanic.normal ?_
      go_wp2_with fail
      go_ret2
      refine ⟨rfl,O2,?_,hF⟩
      rw [told_s];exact hA
  · have d1:(lMay x i (lLen s h) !=0)=true:=by simp [h1]
    rw [if_neg h1] at hr
    obtain rfl:=Option.some.inj hr
    clear hr h1
    go_enter Tryz.func62,Tryz.ntmps62
    go_wp2_with fail
    refine calls_gen fun V hV_V=> ?_
    have n_ki:=hbk hV_V (w.heap.size)
    simp (maxDischargeDepth:=9) only [BK,not_false_eq_true,reduceCtorEq] at n_ki
    have n_kx:=hbk hV_V (w.heap.size+1)
    simp (maxDischargeDepth:=9) only [BK,not_false_eq_true,reduceCtorEq] at n_kx
    have o_ki: ¬O (w.heap.size):=by first|exact hA.new (Nat.le_refl _)|exact hA.new (by omega)
    have o_kx: ¬O (w.heap.size+1):=by first|exact hA.new (Nat.le_refl _)|exact hA.new (by omega)
    have hF:Fr (noX) O O w V:=nF hV_V
    replace hA:AP V (.pointer q) s O:=nA hV_V
    have z_V:=zS hV_V
    clear hV_V
    have ki:=n_ki;clear n_ki
    obtain ⟨c_ki,f_ki,l_ki_V⟩:=f3 ki
    have kx:=n_kx;clear n_kx
    obtain ⟨c_kx,f_kx,l_kx_V⟩:=f3 kx
    refine (lLen_calls _ _ hA).mono ?_
    rintro e_W1 W1 ⟨rfl,hb_W1⟩
    replace hA:=hA.below hb_W1
    replace hF:=hF.below hb_W1
    replace ki:=keep_blk hb_W1 ki
    replace kx:=keep_blk hb_W1 kx
    have z_W1:=hb_W1.size
    clear hb_W1 c_ki f_ki c_kx f_kx
    obtain ⟨c_ki,f_ki,l_ki_W1⟩:=f3 ki
    obtain ⟨c_kx,f_kx,l_kx_W1⟩:=f3 kx
    go_wp2_with fail
    refine calls_gen fun V1 hV_V1=> ?_
    have n_kn:=hbk hV_V1 (W1.heap.size)
    simp (maxDischargeDepth:=9) only [BK,not_false_eq_true,reduceCtorEq,ki,kx,l_ki_V,l_kx_V,l_ki_W1,l_kx_W1] at n_kn
    have o_kn: ¬O (W1.heap.size):=by first|exact hA.new (Nat.le_refl _)|exact hA.new (by omega)
    replace ki:=kK hV_V1 ki
    replace kx:=kK hV_V1 kx
    replace hF:Fr (noX) O O w V1:=nF hV_V1
    replace hA:AP V1 (.pointer q) s O:=nA hV_V1
    have z_V1:=zS hV_V1
    clear hV_V1 c_ki f_ki c_kx f_kx
    obtain ⟨c_ki,f_ki,l_ki_V1⟩:=f3 ki
    obtain ⟨c_kx,f_kx,l_kx_V1⟩:=f3 kx
    have kn:=n_kn;clear n_kn
    obtain ⟨c_kn,f_kn,l_kn_V1⟩:=f3 kn
    refine (lMay_calls x i (lLen s h) _).mono ?_
    rintro e_W2 W2 ⟨rfl,hb_W2⟩
    replace hA:=hA.below hb_W2
    replace hF:=hF.below hb_W2
    replace ki:=keep_blk hb_W2 ki
    replace kx:=keep_blk hb_W2 kx
    replace kn:=keep_blk hb_W2 kn
    have z_W2:=hb_W2.size
    clear hb_W2 c_ki f_ki c_kx f_kx c_kn f_kn
    obtain ⟨c_ki,f_ki,l_ki_W2⟩:=f3 ki
    obtain ⟨c_kx,f_kx,l_kx_W2⟩:=f3 kx
    obtain ⟨c_kn,f_kn,l_kn_W2⟩:=f3 kn
    go_wp2_with fail
    go_ret2
    exact ⟨rfl,O,hA,hF⟩
end Go.Proofs.YtdjpjmkpndmhaaaGreat
namespace Go.Proofs.YtdjpjmkpndmhaaaGreat
open Go.RowKit
theorem handed_gen {J:Nat→Act→World→Prop} {n:Nat} {a:Act} {w:World} (h: ∀v,v=w→Handed J n a v):Handed J n a w:=h w rfl
def Rx (w:World) (size:Nat) (v:Value) (n:Nat) (xs:List Value):Prop:=
  xs.length=n*size∧ ∃A cap,v= .slice A n cap∧(0<n→ ∃g,A=some ⟨g,0,none⟩∧g<w.heap.size∧ ∀j,j<n*size→w.cell? ⟨g,j,none⟩=xs[j]?)
theorem Rx.below {w w':World} {size n:Nat} {v:Value} {xs:List Value} (h:Rx w size v n xs) (hb:Below w.heap.size w w'):Rx w' size v n xs:=by
  obtain ⟨h1,A,cap,rfl,h2⟩:=h
  refine ⟨h1,A,cap,rfl,fun hn=> ?_⟩
  obtain ⟨g,rfl,hg,hc⟩:=h2 hn
  exact ⟨g,rfl,Nat.lt_of_lt_of_le hg hb.size,fun j hj=>(hb.cell (by exact hg)).trans (hc j hj)⟩
theorem Rx.of_own {w:World} {base:Nat} {e:TypeId} {size n:Nat} {v:Value} {xs:List Value} (h:w.ownsRow base e size v n xs):Rx w size v n xs:=by
  rcases h.2 with ⟨rfl,h0⟩|⟨g,cap,cur,rfl,hg,hc,hcap,hs,hx⟩
  · subst h0;exact ⟨h.1,none,0,rfl,fun h=>absurd h (by omega)⟩
  · refine ⟨h.1,some ⟨g,0,none⟩,cap,rfl,fun _=>⟨g,rfl,lt_of hc,fun j hj=>h.cellAt j hj⟩⟩
def strOf (l:List UInt8):Value:= .string ⟨l.toArray⟩
theorem str_index (l:List UInt8) (i:Nat) (b:UInt8) (h:l[i]? =some b) (w:World):(Instr.index 9 (strOf l) (.int .i64 (i:Int))).run Tryz.prog w= .ok (.int .u8 (b.toNat:Int)) w:=by
  unfold strOf
  obtain ⟨h1,h2⟩:=List.getElem?_eq_some_iff.1 h
  rw [run_index_string w 9 ⟨l.toArray⟩ .i64 (i:Int) (by kernel_rfl)]
  have h3:(⟨l.toArray⟩:ByteArray).size=l.length:=by simp [ByteArray.size]
  rw [dif_pos ⟨by omega,by rw [h3];omega⟩]
  congr 3
  rw [←h2]
  rfl
theorem str_len (l:List UInt8) (w:World):(Builtin.len_ #[9] 3 #[strOf l]).run Tryz.prog w= .ok (.int .i64 (l.length:Int)) w:=by
  unfold strOf
  rw [run_len_string w 9 3 _ (by kernel_rfl)]
  have h3:(⟨l.toArray⟩:ByteArray).size=l.length:=by simp [ByteArray.size]
  rw [h3];rfl
theorem own_mono {w:World} {base base':Nat} {e:TypeId} {size n:Nat} {v:Value} {xs:List Value} (h:w.ownsRow base e size v n xs) (hb:base'≤base):w.ownsRow base' e size v n xs:=by
  refine ⟨h.1,?_⟩
  rcases h.2 with h0|⟨g,cap,cur,hv,hg,hc⟩
  · exact .inl h0
  · exact .inr ⟨g,cap,cur,hv,Nat.le_trans hb hg,hc⟩
def itemCells:List (Int×Int)→List Value
  | []=>[]
  | x::l=> .int .i64 x.1:: .int .i64 x.2::itemCells l
theorem itemCells_append (a b:List (Int×Int)):itemCells (a++b)=itemCells a++itemCells b:=by
  induction a with
  | nil=>rfl
  | cons x a ih=>simp [itemCells,ih]
theorem itemCells_length (l:List (Int×Int)):(itemCells l).length=l.length*2:=by
  induction l with
  | nil=>rfl
  | cons x l ih=>simp [itemCells,ih];omega
theorem itemCells_at (l:List (Int×Int)) (i:Nat) (x:Int×Int) (h:l[i]? =some x):(itemCells l)[i*2]? =some (.int .i64 x.1)∧(itemCells l)[i*2+1]? =some (.int .i64 x.2):=by
  induction l generalizing i with
  | nil=>simp at h
  | cons y l ih=>
    cases i with
    | zero=>simp at h;subst h;exact ⟨rfl,rfl⟩
    | succ i=>
      have:=ih i (by simpa using h)
      rw [show (i+1)*2=i*2+1+1 by omega]
      exact this
end Go.Proofs.YtdjpjmkpndmhaaaGreat
namespace Go.Proofs.YtdjpjmkpndmhaaaGreat
open Go.RowKit
attribute [local go_sem ↓] Go.wp_at_zero Go.wp_at_succ
attribute [local go_sem] lt_s2 lt_s3 lt_s4
attribute [local go_sem] idx0 idx1 idx2 idx3
variable {ap : Value} {s : Ar} {O : Nat → Prop}
set_option maxRecDepth 100000 in
set_option maxHeartbeats 2000000 in
theorem lGet_calls (h i : Int) (r : (Int × Int) × Bool) (hr : lGet s h i = some r) (w : World) (hA : AP w ap s O) :
    Calls Tryz.prog 31 #[ap, .int .i64 h, .int .i64 i] w fun e w'=>e= .returned (.tuple #[.agg #[.int .i64 r.1.1, .int .i64 r.1.2], .bool r.2])∧Below w.heap.size w w':=by
  unfold lGet at hr
  by_cases h1:i<0
  · rw [if_pos (.inl h1)] at hr
    have d1:decide (i<0)=true:=by simpa using h1
    obtain rfl:=Option.some.inj hr
    clear h1 hr
    go_enter Tryz.func31,Tryz.ntmps31
    go_wp2_with fail
    refine bodyPost_ret (v:= .tuple #[.agg #[.int .i64 0, .int .i64 0], .bool false]) (by simp [results,Tryz.results31,go_sem, *]) rfl ⟨rfl,by (repeat' first|with_reducible assumption|with_reducible exact Below.refl _ _|with_reducible refine Below.alloc ?_ ?_ _|with_reducible refine Below.setCell ?_ ?_ _|with_reducible refine below_drewN ?_ _|with_reducible refine Below.drew ?_|exact Nat.le_refl _|((try dsimp only);omega)|(simp only [siz_alloc,siz_set];omega))⟩
  · have d1:decide (i<0)=false:=by simpa using h1
    by_cases h2:lLen s h≤i
    · rw [if_pos (.inr h2)] at hr
      have d2:decide (lLen s h≤i)=true:=by simpa using h2
      obtain rfl:=Option.some.inj hr
      clear h1 h2 hr
      go_enter Tryz.func31,Tryz.ntmps31
      go_wp2_with fail
      refine calls_gen fun V hV_V=> ?_
      have n_kr:=hbk hV_V (w.heap.size)
      simp (maxDischargeDepth:=9) only [BK,not_false_eq_true,reduceCtorEq] at n_kr
      have o_kr: ¬O (w.heap.size):=by first|exact hA.new (Nat.le_refl _)|exact hA.new (by omega)
      have hB:Below w.heap.size w V:=nB hV_V
      replace hA:AP V ap s O:=nA hV_V
      have z_V:=zS hV_V
      clear hV_V
      have kr:=n_kr;clear n_kr
      obtain ⟨c_kr,f_kr,l_kr_V⟩:=f3 kr
      refine (lLen_calls _ _ hA).mono ?_
      rintro e_W1 W1 ⟨rfl,hb_W1⟩
      replace hA:=hA.below hb_W1
      replace hB:=below_step hB hb_W1
      replace kr:=keep_blk hb_W1 kr
      have z_W1:=hb_W1.size
      clear hb_W1 c_kr f_kr
      obtain ⟨c_kr,f_kr,l_kr_W1⟩:=f3 kr
      go_wp2_with fail
      refine bodyPost_ret (v:= .tuple #[.agg #[.int .i64 0, .int .i64 0], .bool false]) (by simp [results,Tryz.results31,go_sem, *]) rfl ⟨rfl,by (repeat' first|with_reducible assumption|with_reducible exact Below.refl _ _|with_reducible refine Below.alloc ?_ ?_ _|with_reducible refine Below.setCell ?_ ?_ _|with_reducible refine below_drewN ?_ _|with_reducible refine Below.drew ?_|exact Nat.le_refl _|((try dsimp only);omega)|(simp only [siz_alloc,siz_set];omega))⟩
    · rw [if_neg (by omega)] at hr
      have d2:decide (lLen s h≤i)=false:=by simpa using h2
      clear h1 h2
      obtain ⟨b,hb,rfl⟩:=Option.map_eq_some_iff.1 hr
      have hb':=Lib.hid hb;clear hb hr
      have hA0:=Lib.hid hA
      go_enter Tryz.func31,Tryz.ntmps31
      go_wp2_with fail
      refine calls_gen fun V hV_V=> ?_
      have n_kr:=hbk hV_V (w.heap.size)
      simp (maxDischargeDepth:=9) only [BK,not_false_eq_true,reduceCtorEq] at n_kr
      have o_kr: ¬O (w.heap.size):=by first|exact hA.new (Nat.le_refl _)|exact hA.new (by omega)
      have hB:Below w.heap.size w V:=nB hV_V
      replace hA:AP V ap s O:=nA hV_V
      have z_V:=zS hV_V
      clear hV_V
      have kr:=n_kr;clear n_kr
      obtain ⟨c_kr,f_kr,l_kr_V⟩:=f3 kr
      refine (lLen_calls _ _ hA).mono ?_
      rintro e_W1 W1 ⟨rfl,hb_W1⟩
      replace hA:=hA.below hb_W1
      replace hB:=below_step hB hb_W1
      replace kr:=keep_blk hb_W1 kr
      have z_W1:=hb_W1.size
      clear hb_W1 c_kr f_kr
      obtain ⟨c_kr,f_kr,l_kr_W1⟩:=f3 kr
      go_wp2_with fail
      refine calls_gen fun V1 hV_V1=> ?_
      replace kr:=kK hV_V1 kr
      replace hB:Below w.heap.size w V1:=nB hV_V1
      replace hA:AP V1 ap s O:=nA hV_V1
      have z_V1:=zS hV_V1
      clear hV_V1 c_kr f_kr
      obtain ⟨c_kr,f_kr,l_kr_V1⟩:=f3 kr
      refine (lRow_calls _ _ hA).mono ?_
      rintro e_W2 W2 ⟨rfl,hb_W2⟩
      replace hA:=hA.below hb_W2
      replace hB:=below_step hB hb_W2
      replace kr:=keep_blk hb_W2 kr
      have z_W2:=hb_W2.size
      clear hb_W2 c_kr f_kr
      obtain ⟨c_kr,f_kr,l_kr_W2⟩:=f3 kr
      unfold Nd.val
      go_wp2_with fail
      refine wp_gen fun V2 hV_V2=> ?_
      have n_kn:=hbk hV_V2 (W2.heap.size)
      simp (maxDischargeDepth:=9) only [BK,not_false_eq_true,reduceCtorEq,kr,l_kr_V,l_kr_W1,l_kr_V1,l_kr_W2] at n_kn
      have o_kn: ¬O (W2.heap.size):=by first|exact hA.new (Nat.le_refl _)|exact hA.new (by omega)
      replace kr:=kK hV_V2 kr
      replace hB:Below w.heap.size w V2:=nB hV_V2
      replace hA:AP V2 ap s O:=nA hV_V2
      have z_V2:=zS hV_V2
      clear hV_V2 c_kr f_kr
      obtain ⟨c_kr,f_kr,l_kr_V2⟩:=f3 kr
      have kn:=n_kn;clear n_kn
      obtain ⟨c_kn,f_kn,l_kn_V2⟩:=f3 kn
      go_loopg [1,2] rounds (fun k p q wr=> ∃x y:Int,p= .int .i64 x∧q= .int .i64 y∧wr.heap[W2.heap.size]? =some (.cells #[.int .i64 (s.get x).tag, .int .i64 (s.get x).k0, .int .i64 (s.get x).k1, .int .i64 (s.get x).k2, .int .i64 (s.get x).k3, .int .u64 (s.get x).a, .int .u64 (s.get x).b] 93 (0,0))∧wr.heap[w.heap.size]? =some (.cells #[.int .i64 0, .int .i64 0] 56 (0,0))∧Below w.heap.size w wr∧Hid (lGetL k s x y=some b))
      case atStart=>exact ⟨h,i,rfl,rfl,kn,kr,hB,hb'⟩
      case round=>
        clear kn kr c_kn c_kr f_kn f_kr hA hB hb'
        obtain ⟨x,y,rfl,rfl,kn,kr,hB,hb'⟩:=hrel
        have hA:=hA0.out.below hB
        obtain ⟨c_kn,f_kn,l_kn_wr⟩:=f3 kn
        obtain ⟨c_kr,f_kr,l_kr_wr⟩:=f3 kr
        have hb:=hb'.out
        clear hb'
        cases gk with
        | zero=>exact absurd hb (by simp [lGetL])
        | succ k=>
          unfold lGetL at hb
          by_cases h3:(s.get x).tag=5
          · rw [if_pos h3] at hb
            have d3:((s.get x).tag==5)=true:=by simpa using h3
            clear h3
            by_cases h4:lLen s (s.get x).k0≤y
            · rw [if_pos h4] at hb
              have d4:decide (lLen s (s.get x).k0≤y)=true:=by simpa using h4
              have hb':=Lib.hid hb;clear hb h4
              go_wp2_with fail
              refine calls_gen fun V3 hV_V3=> ?_
              replace kn:=kK hV_V3 kn
              replace kr:=kK hV_V3 kr
              replace hB:Below w.heap.size w V3:=nB hV_V3
              replace hA:AP V3 ap s O:=nA hV_V3
              have z_V3:=zS hV_V3
              clear hV_V3 c_kn f_kn c_kr f_kr
              obtain ⟨c_kn,f_kn,l_kn_V3⟩:=f3 kn
              obtain ⟨c_kr,f_kr,l_kr_V3⟩:=f3 kr
              refine (lLen_calls _ _ hA).mono ?_
              rintro e_W3 W3 ⟨rfl,hb_W3⟩
              replace hA:=hA.below hb_W3
              replace hB:=below_step hB hb_W3
              replace kn:=keep_blk hb_W3 kn
              replace kr:=keep_blk hb_W3 kr
              have z_W3:=hb_W3.size
              clear hb_W3 c_kn f_kn c_kr f_kr
              obtain ⟨c_kn,f_kn,l_kn_W3⟩:=f3 kn
              obtain ⟨c_kr,f_kr,l_kr_W3⟩:=f3 kr
              go_wp2_with fail
              refine calls_gen fun V4 hV_V4=> ?_
              replace kn:=kK hV_V4 kn
              replace kr:=kK hV_V4 kr
              replace hB:Below w.heap.size w V4:=nB hV_V4
              replace hA:AP V4 ap s O:=nA hV_V4
              have z_V4:=zS hV_V4
              clear hV_V4 c_kn f_kn c_kr f_kr
              obtain ⟨c_kn,f_kn,l_kn_V4⟩:=f3 kn
              obtain ⟨c_kr,f_kr,l_kr_V4⟩:=f3 kr
              refine (lRow_calls _ _ hA).mono ?_
              rintro e_W4 W4 ⟨rfl,hb_W4⟩
              replace hA:=hA.below hb_W4
              replace hB:=below_step hB hb_W4
              replace kn:=keep_blk hb_W4 kn
              replace kr:=keep_blk hb_W4 kr
              have z_W4:=hb_W4.size
              clear hb_W4 c_kn f_kn c_kr f_kr
              obtain ⟨c_kn,f_kn,l_kn_W4⟩:=f3 kn
              obtain ⟨c_kr,f_kr,l_kr_W4⟩:=f3 kr
              unfold Nd.val
              go_wp2_with fail
              refine handed_gen fun V5 hV_V5=> ?_
              replace kn:=kK hV_V5 kn
              replace kr:=kK hV_V5 kr
              replace hB:Below w.heap.size w V5:=nB hV_V5
              replace hA:AP V5 ap s O:=nA hV_V5
              have z_V5:=zS hV_V5
              clear hV_V5 c_kn f_kn c_kr f_kr
              obtain ⟨c_kn,f_kn,l_kn_V5⟩:=f3 kn
              obtain ⟨c_kr,f_kr,l_kr_V5⟩:=f3 kr
              go_roundg k
              case measure=>omega
              case rel=>exact ⟨_,_,rfl,rfl,kn,kr,hB,hb'⟩
            · rw [if_neg h4] at hb
              have d4:decide (lLen s (s.get x).k0≤y)=false:=by simpa using h4
              have hb':=Lib.hid hb;clear hb h4
              go_wp2_with fail
              refine calls_gen fun V3 hV_V3=> ?_
              replace kn:=kK hV_V3 kn
              replace kr:=kK hV_V3 kr
              replace hB:Below w.heap.size w V3:=nB hV_V3
              replace hA:AP V3 ap s O:=nA hV_V3
              have z_V3:=zS hV_V3
              clear hV_V3 c_kn f_kn c_kr f_kr
              obtain ⟨c_kn,f_kn,l_kn_V3⟩:=f3 kn
              obtain ⟨c_kr,f_kr,l_kr_V3⟩:=f3 kr
              refine (lLen_calls _ _ hA).mono ?_
              rintro e_W3 W3 ⟨rfl,hb_W3⟩
              replace hA:=hA.below hb_W3
              replace hB:=below_step hB hb_W3
              replace kn:=keep_blk hb_W3 kn
              replace kr:=keep_blk hb_W3 kr
              have z_W3:=hb_W3.size
              clear hb_W3 c_kn f_kn c_kr f_kr
              obtain ⟨c_kn,f_kn,l_kn_W3⟩:=f3 kn
              obtain ⟨c_kr,f_kr,l_kr_W3⟩:=f3 kr
              go_wp2_with fail
              refine calls_gen fun V4 hV_V4=> ?_
              replace kn:=kK hV_V4 kn
              replace kr:=kK hV_V4 kr
              replace hB:Below w.heap.size w V4:=nB hV_V4
              replace hA:AP V4 ap s O:=nA hV_V4
              have z_V4:=zS hV_V4
              clear hV_V4 c_kn f_kn c_kr f_kr
              obtain ⟨c_kn,f_kn,l_kn_V4⟩:=f3 kn
              obtain ⟨c_kr,f_kr,l_kr_V4⟩:=f3 kr
              refine (lRow_calls _ _ hA).mono ?_
              rintro e_W4 W4 ⟨rfl,hb_W4⟩
              replace hA:=hA.below hb_W4
              replace hB:=below_step hB hb_W4
              replace kn:=keep_blk hb_W4 kn
              replace kr:=keep_blk hb_W4 kr
              have z_W4:=hb_W4.size
              clear hb_W4 c_kn f_kn c_kr f_kr
              obtain ⟨c_kn,f_kn,l_kn_W4⟩:=f3 kn
              obtain ⟨c_kr,f_kr,l_kr_W4⟩:=f3 kr
              unfold Nd.val
              go_wp2_with fail
              refine handed_gen fun V5 hV_V5=> ?_
              replace kn:=kK hV_V5 kn
              replace kr:=kK hV_V5 kr
              replace hB:Below w.heap.size w V5:=nB hV_V5
              replace hA:AP V5 ap s O:=nA hV_V5
              have z_V5:=zS hV_V5
              clear hV_V5 c_kn f_kn c_kr f_kr
              obtain ⟨c_kn,f_kn,l_kn_V5⟩:=f3 kn
              obtain ⟨c_kr,f_kr,l_kr_V5⟩:=f3 kr
              go_roundg k
              case measure=>omega
              case rel=>exact ⟨_,_,rfl,rfl,kn,kr,hB,hb'⟩
          · rw [if_neg h3] at hb
            have d3:((s.get x).tag==5)=false:=by simpa using h3
            obtain rfl:=Option.some.inj hb
            clear h3 hb
            go_wp2_with fail
            refine bodyPost_ret (v:= .tuple #[.agg #[.int .i64 (wrap64 (s.get x).a), .int .i64 (wrap64 (s.get x).b)], .bool true]) (by simp [results,Tryz.results31,go_sem, *]) rfl ⟨rfl,by (repeat' first|with_reducible assumption|with_reducible exact Below.refl _ _|with_reducible refine Below.alloc ?_ ?_ _|with_reducible refine Below.setCell ?_ ?_ _|with_reducible refine below_drewN ?_ _|with_reducible refine Below.drew ?_|exact Nat.le_refl _|((try dsimp only);omega)|(simp only [siz_alloc,siz_set];omega))⟩
end Go.Proofs.YtdjpjmkpndmhaaaGreat
namespace Go.Proofs.YtdjpjmkpndmhaaaGreat
open Go.RowKit
attribute [local go_sem ↓] Go.wp_at_zero Go.wp_at_succ
attribute [local go_sem] lt_s2 lt_s3 lt_s4
attribute [local go_sem] idx0 idx1 idx2 idx3
variable {ap : Value} {s : Ar} {O : Nat → Prop}
theorem eachO_len {α:Type} {f:Int→Option α}: ∀(d:Nat) (i:Int) (l:List α),eachO f d i=some l→l.length=d
  | 0,i,l,h=>by cases h;rfl
  | d+1,i,l,h=>by
    unfold eachO at h
    obtain ⟨x,hx,h⟩:=Option.bind_eq_some_iff.1 h
    obtain ⟨m,hm,h⟩:=Option.bind_eq_some_iff.1 h
    cases h
    simp [eachO_len d (i+1) m hm]
set_option maxRecDepth 100000 in
set_option maxHeartbeats 2000000 in
theorem lAll_calls (h : Int) (l : List (Int × Int)) (hr : lAll s h = some l) (hl : l.length ≤ 50000) (w : World) (hA : AP w ap s O) :
    Calls Tryz.prog 70 #[ap, .int .i64 h] w fun e w'=> ∃v,e= .returned v∧w'.ownsRow w.heap.size 56 2 v l.length (itemCells l)∧Below w.heap.size w w':=by
  have hA0:=Lib.hid hA
  have hr':=Lib.hid hr
  have hlen:l.length=(lLen s h).toNat:=eachO_len _ _ _ hr
  clear hr
  go_enter Tryz.func70,Tryz.ntmps70
  go_wp2_with fail
  refine calls_gen fun V hV_V=> ?_
  have hB:Below w.heap.size w V:=nB hV_V
  replace hA:AP V ap s O:=nA hV_V
  have z_V:=zS hV_V
  clear hV_V
  refine (lLen_calls _ _ hA).mono ?_
  rintro e_W1 W1 ⟨rfl,hb_W1⟩
  replace hA:=hA.below hb_W1
  replace hB:=below_step hB hb_W1
  have z_W1:=hb_W1.size
  clear hb_W1
  go_wp2_with fail
  refine wp_gen fun V1 hV_V1=> ?_
  replace hB:Below w.heap.size w V1:=nB hV_V1
  replace hA:AP V1 ap s O:=nA hV_V1
  have z_V1:=zS hV_V1
  clear hV_V1
  go_loopg [5,12] (lLen s h).toNat (fun k p q wr=> ∃(i:Int) (d0 rest:List (Int×Int)),q= .int .i64 i∧0≤i∧i≤50000∧(d0.length:Int)=i∧k=(lLen s h - i).toNat∧Hid (eachO (fun i=>(lGet s h i).map (·.1)) k i=some rest)∧Hid (l=d0++rest)∧Hid (wr.ownsRow w.heap.size 56 2 p d0.length (itemCells d0))∧Below w.heap.size w wr)
  case atStart=>exact ⟨0,[],l,rfl,by omega,by omega,rfl,by simp,hr',Lib.hid rfl,Lib.hid (own_nil _ _ _ _),hB⟩
  case round=>
    clear hA hB hr'
    obtain ⟨i,d0,rest,rfl,hi0,hi1,hdl,hk,He,Hl,Hown,hB0⟩:=hrel
    have hA:=hA0.out.below hB0
    by_cases hlt:i<lLen s h
    · have d1:decide (i<lLen s h)=true:=by simpa using hlt
      obtain ⟨k,rfl⟩: ∃k,gk=k+1:=⟨gk - 1,by omega⟩
      have he:=He.out
      unfold eachO at he
      obtain ⟨x,hx,he⟩:=Option.bind_eq_some_iff.1 he
      obtain ⟨rest',he',hrest⟩:=Option.bind_eq_some_iff.1 he
      obtain ⟨g,hg,hgx⟩:=Option.map_eq_some_iff.1 hx
      have hrest:=Option.some.inj hrest
      have hlx:l.length=d0.length+(1+rest'.length):=by rw [Hl.out,←hrest];simp;omega
      have Hg:=Lib.hid hg
      have Hx:=Lib.hid hgx
      have He':=Lib.hid he'
      have Hl':Hid (l=(d0++[x])++rest'):=Lib.hid (by rw [Hl.out,←hrest];simp)
      clear He Hl he hx he' hrest hg hgx
      have hw0:=hB0.size
      have HB0:=Lib.hid hB0;clear hB0
      have hB:=Below.refl wr.heap.size wr
      go_wp2_with fail
      refine calls_gen fun V2 hV_V2=> ?_
      replace hB:Below wr.heap.size wr V2:=nB hV_V2
      replace hA:AP V2 ap s O:=nA hV_V2
      have z_V2:=zS hV_V2
      clear hV_V2
      refine (lGet_calls _ _ g Hg.out _ hA).mono ?_
      rintro e_W2 W2 ⟨rfl,hb_W2⟩
      replace hA:=hA.below hb_W2
      replace hB:=below_step hB hb_W2
      have z_W2:=hb_W2.size
      clear hb_W2
      have Hbl:=Lib.hid (below_step HB0.out hB)
      have hown:=own_below Hown.out hB
      clear Hown
      go_wp2_with (at_builtin;refine wpList_push _ (by rfl) _ _ 97 (by rfl) (w.heap.size) 56 (.agg #[.int .i64 0, .int .i64 0]) 2 16 Tryz.underlying97 (by kernel_rfl) (by rfl) (by omega) _ _ _ (by rfl) (hown.alloc _) _ (by rfl) (by rw [siz_alloc];rfl) (by simp [Value.oneCell']) (by unfold maxLen;omega) (by omega) (by simp only [siz_alloc];omega) ?_;intro g_W c_W W3 hown_W hlow_W hlt_W)
      have h1:wrap64 (i+1)=i+1:=IntWalk.wrap64_in _ (by omega)
      go_wp2_with fail
      go_roundg k
      case measure=>omega
      case rel=>
        refine ⟨i+1,d0++[x],rest',by rw [←h1],by omega,by omega,by simp;omega,by omega,He',Hl',?_,low_step (Hbl.out.alloc (by omega) _) (by omega) hlow_W⟩
        rw [itemCells_append,List.length_append,←Hx.out]
        exact Lib.hid hown_W
    · have d1:decide (i<lLen s h)=false:=by simpa using hlt
      obtain rfl:gk=0:=by omega
      have he:=He.out
      unfold eachO at he
      obtain rfl:=Option.some.inj he
      have hl2:=Hl.out
      simp only [List.append_nil] at hl2
      have hn:d0.length=l.length:=by rw [hl2]
      clear He Hl he
      go_wp2_with fail
      go_ret
      refine ⟨u5,rfl,?_,hB0⟩
      rw [hl2];exact Hown.out
end Go.Proofs.YtdjpjmkpndmhaaaGreat

/- Part 8 of what CutBack needs: the walks of the program's functions, and plain facts. -/
import Derived.Test.YtlboaaldggpjeaaGreatCutBackM7
set_option linter.unusedSimpArgs false
set_option linter.unusedVariables false
set_option linter.unnecessarySimpa false
namespace Go.Proofs.YtlboaaldggpjeaaGreat
set_option maxRecDepth 100000
set_option maxHeartbeats 8000000
section
open Go.RowKit
attribute [local go_sem ↓] Go.wp_at_zero Go.wp_at_succ
attribute [local go_sem] str_len
variable {ap : Value} {s : Ar} {O : Nat → Prop}
theorem cell_same {w w':World} {a:Addr} (h:w'.heap[a.block]? =w.heap[a.block]?):w'.cell? a=w.cell? a:=by
 unfold World.cell?
 rw [h]
theorem Rd2.fr {w w':World} {X O O':Nat→Prop} {ad:Addr} {cap:Nat} {ds:List (Int×List UInt8)} (h:Rd2 w (.slice (some ad) ds.length cap) ds) (hF:Fr X O O' w w') (h1: ¬O ad.block) (h2: ¬X ad.block):Rd2 w' (.slice (some ad) ds.length cap) ds:=by
 obtain ⟨A,c,hv,hc⟩:=h
 obtain ⟨rfl, -,rfl⟩:=Value.slice.inj hv
 refine ⟨_,_,rfl,fun hn=> ?_⟩
 obtain ⟨ad',ha,hlt,hc⟩:=hc hn
 obtain rfl:=Option.some.inj ha
 have hb:=hF.block _ hlt h1 h2
 refine ⟨ad,rfl,Nat.lt_of_lt_of_le hlt hF.size,fun i d hd=> ?_⟩
 obtain ⟨c0,c1,c2⟩:=hc i d hd
 have hb':w'.heap[(ad.add (i*2)).block]? =w.heap[(ad.add (i*2)).block]? :=by rw [block_of_add];exact hb
 exact ⟨Nat.lt_of_lt_of_le c0 hF.size,(cell_same hb').trans c1,(cell_same (by exact hb')).trans c2⟩
theorem bRows_ok {rate:Int}: ∀{l:List (Int×Int×Int)} {i:Int} {b b':Bst},bRows rate l i b=some b'→b'.ok=true→b.ok=true
 | [],i,b,b',h,ho=>by cases h;exact ho
 | x::l,i,b,b',h,ho=>by
  unfold bRows at h
  cases hb:b.ok with
  | true=>rfl
  | false=>rw [hb,if_neg (by decide)] at h;cases h;rw [hb] at ho;cases ho
theorem build_calls (rate:Int) (hr1:1≤rate) (hr2:rate≤1000) (ds:List (Int×List UInt8)) (ad:Addr) (cap:Nat) (hne:ds≠[]) (hrt:refRight (ds.map (·.2))=true) (w:World) (hD:Rd2 w (.slice (some ad) ds.length cap) ds) (hO: ¬O ad.block) (hA:AP w ap s O)
  (B1 B2:Bst) (h1:bRows rate (rowsM ds) 0 ⟨s,true,Parts.zero,0⟩=some B1) (ho1:B1.ok=true) (h2:bTable (docsM ds) B1=some B2) (ho2:B2.ok=true) (root:Int) (s':Ar) (h3:bEnd B2=some (root,true,s')):
  Calls Tryz.prog 19 #[ap, .int .i64 rate, .slice (some ad) ds.length cap] w fun e w'=>e= .returned (.tuple #[.int .i64 root, .bool true])∧Did noX ap s' O w w':=by
 have hlen:0<ds.length:=List.length_pos_iff.2 hne
 obtain ⟨hn10,h40⟩:=right_len hrt
 rw [List.length_map] at hn10
 have d0:((ds.length:Int)==0)=false:=by rw [beq_eq_false_iff_ne];omega
 have HD:=Lib.hid hD;have H1:=Lib.hid h1;have H2:=Lib.hid h2;have H3:=Lib.hid h3;have H40:=Lib.hid h40;have HO:=Lib.hid hO
 clear hD h1 h2 h3 h40 hne
 obtain ⟨ts,hts⟩: ∃ts,ts=ds.map (·.2):=⟨_,rfl⟩
 have htl:ts.length=ds.length:=by rw [hts,List.length_map]
 rw [←hts] at hrt
 have H40':Hid (∀t,t∈ts→t.length≤50000):=Lib.hid (fun t ht=>by
  obtain ⟨i,hi,rfl⟩:=List.getElem_of_mem ht
  have:=(right_len hrt).2 i
  rw [getD_at (List.getElem?_eq_getElem hi)] at this
  omega)
 have Hts:=Lib.hid hts;clear hts
 obtain ⟨q,rfl⟩:=hA.ptr
 go_enter Tryz.func19,Tryz.ntmps19
 go_wp2_with fail
 refine cg fun V0 hV_V0=> ?_
 have hF:=Fr.refl (noX) O w
 refine nnf0 hV_V0 hA hF ?_;clear hA hF;intro hn_V0 z_V0 hA hF
 obtain ⟨ka,c_ka,o_ka,l_kaV0⟩:=nN hn_V0 hV_V0 (w.heap.size)
 clear hV_V0 hn_V0
 have hAV0:=hA
 refine (texts_calls _ ds (by omega) _ (HD.out.fr hF HO.out (fun h=>h))).mono ?_
 rintro e_W0 W0 ⟨v0,rfl,hown0,hb_W0⟩
 refine bef1 hb_W0 hA hF ka ?_;clear hb_W0 hA hF ka c_ka;intro z_W0 hA hF ka c_ka
 have hge0: ∀g,v0.ownBlock=some g→V0.heap.size≤g:=fun g hg=>(hown0.lt g hg).1
 obtain ⟨hl0,A0,c0,rfl,hx0⟩:=Rk.of_own hown0
 obtain ⟨g0,cs0,T0,rfl,kx,hcs0⟩:=hx0 (by omega)
 have o_kx: ¬O g0:=fun h=>by have:=hAV0.lt h;have:=hge0 g0 rfl;omega
 have HX0:Hid (∀V:World,V.heap[g0]? =some (.cells cs0 T0 (0,0))→Rk V 1 (.slice (some ⟨g0,0,none⟩) ds.length c0) ts.length (ts.map strOf)):=Lib.hid (fun V hV=>by
  rw [Hts.out,List.length_map]
  exact ⟨hl0,_,_,rfl,fun _=>⟨g0,cs0,T0,rfl,hV,hcs0⟩⟩)
 clear hAV0 hown0 hge0 hl0 hx0 hcs0
 have c_kx:=f3 kx;have l_kxW0:=lt_of kx
 go_wp2_with fail
 refine cg fun V1 hV_V1=> ?_
 refine nef2 hV_V1 hA hF ka kx ?_;clear hA hF ka kx c_ka c_kx;intro z_V1 hA hF ka c_ka kx c_kx
 clear hV_V1
 have hAV1:=hA
 refine (sorted_calls _ ts (by omega) _ (HX0.out _ kx)).mono ?_
 rintro e_W1 W1 ⟨v1,rfl,hown1,hb_W1⟩
 refine bef2 hb_W1 hA hF ka kx ?_;clear hb_W1 hA hF ka kx c_ka c_kx;intro z_W1 hA hF ka c_ka kx c_kx
 have hge1: ∀g,v1.ownBlock=some g→V1.heap.size≤g:=fun g hg=>(hown1.lt g hg).1
 have hRpos:0<(refSorted ts).length:=by
  unfold refSorted;rw [if_pos hrt,refFold_length]
  obtain ⟨n,hn⟩: ∃n,ts.length=n+1:=⟨ts.length - 1,by omega⟩
  rw [hn,←upto_next,upto_snoc];simp
 obtain ⟨hl1,A1,c1,rfl,hx1⟩:=Rk.of_own hown1
 obtain ⟨g1,cs1,T1,rfl,kr,hcs1⟩:=hx1 hRpos
 have o_kr: ¬O g1:=fun h=>by have:=hAV1.lt h;have:=hge1 g1 rfl;omega
 have hrows:Hid (∀(i:Nat) (r:Nat×Nat),(refSorted ts)[i]? =some r→cs1[i*2]? =some (Value.int .i64 (r.1:Int))∧cs1[i*2+1]? =some (Value.int .i64 (r.2:Int))):=Lib.hid (fun (i:Nat) (r:Nat×Nat) hr=>by
  have hi:=(List.getElem?_eq_some_iff.1 hr).1
  exact ⟨(hcs1 _ (by omega)).trans (rowCells_at hr).1,(hcs1 _ (by omega)).trans (rowCells_at hr).2⟩)
 clear hAV1 hown1 hge1 hl1 hx1 hcs1
 have c_kr:=f3 kr;have l_krW1:=lt_of kr
 go_wp2_with fail
 refine cg fun V2 hV_V2=> ?_
 refine nef3 hV_V2 hA hF ka kx kr ?_;clear hA hF ka kx kr c_ka c_kx c_kr;intro z_V2 hA hF ka c_ka kx c_kx kr c_kr
 clear hV_V2
 have hAV2:=hA
 refine (symbols_calls _ ts (by omega) H40'.out _ (HX0.out _ kx)).mono ?_
 rintro e_W2 W2 ⟨v2,rfl,hown2,hb_W2⟩
 refine bef3 hb_W2 hA hF ka kx kr ?_;clear hb_W2 hA hF ka kx kr c_ka c_kx c_kr;intro z_W2 hA hF ka c_ka kx c_kx kr c_kr
 have hge2: ∀g,v2.ownBlock=some g→V2.heap.size≤g:=fun g hg=>(hown2.lt g hg).1
 obtain ⟨hl2,A2,c2,rfl,hx2⟩:=Rk.of_own hown2
 obtain ⟨g2,cs2,T2,rfl,ks,hcs2⟩:=hx2 hRpos
 have o_ks: ¬O g2:=fun h=>by have:=hAV2.lt h;have:=hge2 g2 rfl;omega
 have hsyms:Hid (∀(i:Nat) (r:Nat×Nat),(refSorted ts)[i]? =some r→cs2[i]? =some (Value.int .i64 (symOf ts r))):=Lib.hid (fun (i:Nat) (r:Nat×Nat) hr=>by
  have hi:=(List.getElem?_eq_some_iff.1 hr).1
  refine (hcs2 _ (by omega)).trans ?_
  unfold intCells;rw [List.getElem?_map,List.getElem?_map,hr];rfl)
 clear hAV2 hown2 hge2 hl2 hx2 hcs2
 have c_ks:=f3 ks;have l_ksW2:=lt_of ks
 have hl2:=lt_of ks
 have hl1:=lt_of kr
 go_wp2_with fail
 refine wg fun V3 hV_V3=> ?_
 refine nnf3 hV_V3 hA hF ka kr ks ?_;clear hA hF ka kr ks c_ka c_kx c_kr c_ks kx;intro hn_V3 z_V3 hA hF ka c_ka kr c_kr ks c_ks
 obtain ⟨kp,c_kp,o_kp,l_kpV3⟩:=nN hn_V3 hV_V3 (W2.heap.size)
 obtain ⟨kt,c_kt,o_kt,l_ktV3⟩:=nN hn_V3 hV_V3 (W2.heap.size+1)
 clear hV_V3 hn_V3
 obtain ⟨R,hR⟩: ∃R,R=refSorted ts:=⟨_,rfl⟩
 rw [←hR] at hrows hsyms hRpos
 have hsm:R.length≤500:=by rw [hR];exact sorted_small ts
 have hlt1: ∀(i:Nat) (r:Nat×Nat),R[i]? =some r→ ∃d,ds[r.1]? =some d∧(rowsM ds)[i]? =some (d.1,(r.2:Int),symOf ts r):=by
  intro i r hr
  obtain ⟨t,ht, -⟩:=sorted_valid (hR▸List.mem_of_getElem? hr)
  have h1:=(List.getElem?_eq_some_iff.1 ht).1
  obtain ⟨d,hd⟩:=at_some (show r.1<ds.length by omega)
  refine ⟨d,hd,?_⟩
  unfold rowsM
  rw [←Hts.out,←hR,List.getElem?_map,hr]
  simp [List.getD,hd]
 have hLlen:(rowsM ds).length=R.length:=by unfold rowsM;rw [←Hts.out,←hR,List.length_map]
 have Hlt1:=Lib.hid hlt1;have HR:=Lib.hid hR
 simp only [←hR]
 clear hlt1 hR
 have hneq:g1≠W2.heap.size∧g1≠W2.heap.size+1∧g2≠W2.heap.size∧g2≠W2.heap.size+1∧w.heap.size≠W2.heap.size∧w.heap.size≠W2.heap.size+1∧w.heap.size<W2.heap.size:=by
  have:=lt_of ka
  omega
 obtain ⟨ne1,ne2,ne3,ne4,ne5,ne6,hww⟩:=hneq
 have hY: ∀x,twoX W2.heap.size (W2.heap.size+1) x→w.heap.size≤x:=by
  intro x hx
  rcases hx with rfl|rfl<;>omega
 have hdoc:Hid (Rd2 V3 (.slice (some ad) ds.length cap) ds):=Lib.hid (HD.out.fr hF HO.out (fun h=>h))
 have HF3:=Lib.hid hF
 go_loopg [14,40] R.length (fun k p1 p2 wr=> ∃(i:Nat) (st:Bst) (O':Nat→Prop),p1= .int .i64 st.n∧p2= .int .i64 (i:Int)∧i+k=R.length∧AP wr (.pointer q) st.s O'∧Hid (Fr noX O O' w wr)
  ∧wr.heap[W2.heap.size]? =some (.cells #[.int .i64 st.p.wave, .int .i64 st.p.marks, .int .i64 st.p.spots, .int .i64 st.p.table] 52 (0,0))∧wr.heap[W2.heap.size+1]? =some (.cells #[.bool st.ok] 4 (0,0))∧wr.heap[w.heap.size]? =some (.cells #[.pointer q] 26 (0,0))
  ∧wr.heap[g1]? =some (.cells cs1 T1 (0,0))∧wr.heap[g2]? =some (.cells cs2 T2 (0,0))∧ ¬O' (W2.heap.size)∧ ¬O' (W2.heap.size+1)∧ ¬O' w.heap.size∧ ¬O' g1∧ ¬O' g2∧ ¬O' ad.block∧Hid (Rd2 wr (.slice (some ad) ds.length cap) ds)∧Hid (bRows rate ((rowsM ds).drop i) i st=some B1))
 case atStart=>exact ⟨0,_,O,rfl,rfl,by omega,hA,HF3,kp,kt,ka,kr,ks,o_kp,o_kt,o_ka,o_kr,o_ks,HO.out,hdoc,H1⟩
 case round=>
  clear ka kr ks kp kt c_ka c_kr c_ks c_kp c_kt hA hF hdoc HF3 o_kp o_kt o_ka o_kr o_ks
  obtain ⟨i,st,O1,rfl,rfl,hk,hA,HF,kp,kt,ka,kr,ks,o_kp,o_kt,o_ka,o_kr,o_ks,oD,hdoc,Hb⟩:=hrel
  have hok:=bRows_ok Hb.out ho1
  by_cases hlt:i<R.length
  ·
   obtain ⟨k,rfl⟩: ∃k,gk=k+1:=⟨gk - 1,by omega⟩
   obtain ⟨r,hr⟩:=at_some hlt
   obtain ⟨d,hd,hx⟩:=Hlt1.out i r hr
   have hb:=Hb.out
   rw [drop_at hx] at hb
   unfold bRows at hb
   rw [hok,if_pos rfl] at hb
   obtain ⟨st2,hst2,hb2⟩:=Option.bind_eq_some_iff.1 hb
   unfold bStep at hst2
   obtain ⟨r1,hr1',hst2⟩:=Option.bind_eq_some_iff.1 hst2
   dsimp only at hr1' hst2
   obtain ⟨r2,hr2',hst2⟩:=Option.bind_eq_some_iff.1 hst2
   obtain ⟨t1,ht1⟩: ∃t,nextA st.ok st.p.wave r1=t:=⟨_,rfl⟩
   rw [ht1] at hr2' hst2
   obtain ⟨t2,ht2⟩: ∃t,nextA t1.2.1 st.p.marks r2=t:=⟨_,rfl⟩
   rw [ht2] at hst2
   have Hr1:=Lib.hid hr1';have Hr2:=Lib.hid hr2';have Hst2:=Lib.hid hst2;have Hb2:=Lib.hid hb2;have Ht1:=Lib.hid ht1;have Ht2:=Lib.hid ht2
   obtain ⟨rc1,rc2⟩:=hrows.out i r hr
   have rc3:=hsyms.out i r hr
   have n1:decide ((i:Int)<(R.length:Int))=true:=by simpa using hlt
   have n2:(i:Int)<(R.length:Int):=by omega
   have E3:=Lib.hid (step_wrap i 500 (by omega) (by omega))
   have hd1:=(List.getElem?_eq_some_iff.1 hd).1
   have n3:(r.1:Int)<(ds.length:Int):=by omega
   have Hd:=Lib.hid hd;have Hlt:=Lib.hid hlt
   clear hb hr1' hr2' hst2 hb2 ht1 ht2 hr hx hd hlt Hb hd1
   have hF:=Fr.refl ((twoX W2.heap.size (W2.heap.size+1))) O1 wr
   have c_ka:=f3 ka;have l_kawr:=lt_of ka
   have c_kr:=f3 kr;have l_krwr:=lt_of kr
   have c_ks:=f3 ks;have l_kswr:=lt_of ks
   have c_kp:=f3 kp;have l_kpwr:=lt_of kp
   have c_kt:=f3 kt;have l_ktwr:=lt_of kt
   go_wp2_with fail
   refine wg fun V4 hV_V4=> ?_
   refine nef5 hV_V4 hA hF ka kr ks kp kt ?_;clear hA hF ka kr ks kp kt c_ka c_kr c_ks c_kp c_kt;intro z_V4 hA hF ka c_ka kr c_kr ks c_ks kp c_kp kt c_kt
   clear hV_V4
   refine dr (fun v=>Sm v V4 (w.heap.size)∧Sm v V4 (g1)∧Sm v V4 (g2)∧Sm v V4 (W2.heap.size)∧Sm v V4 (W2.heap.size+1)∧(V4.heap.size≤v.heap.size)∧True) ⟨fun _=>rfl,fun _=>rfl,fun _=>rfl,fun _=>rfl,fun _=>rfl,Nat.le_refl _,trivial⟩ fun V4d hV_V4d hHeld=> ?_
   have v_ka:=c_ka.1;have v_kr:=c_kr.1;have v_ks:=c_ks.1;have v_kp:=c_kp.1;have v_kt:=c_kt.1
   refine nef5 hV_V4d hA hF ka kr ks kp kt ?_;clear hA hF ka kr ks kp kt c_ka c_kr c_ks c_kp c_kt;intro z_V4d hA hF ka c_ka kr c_kr ks c_ks kp c_kp kt c_kt
   clear hV_V4d
   refine ta 0 hHeld ?_
   refine ta 1 hHeld ?_
   refine ta 2 hHeld ?_
   refine ta 3 hHeld ?_
   refine ta 4 hHeld ?_
   refine ta 5 hHeld ?_
   refine ta 6 hHeld ?_
   refine ta 7 hHeld ?_
   refine rd 8 rfl fun K hK=> ?_
   go_simp
   try simp only [IntWalk.i64_left]
   refine wC (wInsert_calls st.s O1 _ _ _ r1 Hr1.out _ hA) fun W5 O2 hA_W5 hf_W5=> ?_
   refine wif5 hf_W5 hF ka o_ka kr o_kr ks o_ks kp o_kp kt o_kt ?_;clear hA hF ka o_ka kr o_kr ks o_ks kp o_kp kt o_kt c_ka c_kr c_ks c_kp c_kt hf_W5;intro z_W5 hF ka c_ka o_ka kr c_kr o_kr ks c_ks o_ks kp c_kp o_kp kt c_kt o_kt;have hA:=hA_W5;clear hA_W5
   refine ho hK ⟨vv c_ka v_ka,vv c_kr v_kr,vv c_ks v_ks,vv c_kp v_kp,vv c_kt v_kt,by omega,trivial⟩ fun hHeld=> ?_
   clear hK K
   refine ta 9 hHeld ?_
   refine ta 10 hHeld ?_
   refine ta 11 hHeld ?_
   refine rd 12 rfl fun K hK=> ?_
   go_simp
   refine ho hK hHeld fun hHeld=> ?_
   clear hK K
   refine rd 13 rfl fun K hK=> ?_
   go_simp
   refine ho hK hHeld fun hHeld=> ?_
   clear hK K
   refine wd ?_
   go_wp2_with fail
   refine cg fun V5 hV_V5=> ?_
   refine nef5 hV_V5 hA hF ka kr ks kp kt ?_;clear hA hF ka kr ks kp kt c_ka c_kr c_ks c_kp c_kt;intro z_V5 hA hF ka c_ka kr c_kr ks c_ks kp c_kp kt c_kt
   clear hV_V5
   refine tC (next_t (W2.heap.size+1) w.heap.size st.ok st.p.wave r1 t1 Ht1.out _ hA kt ka o_kt o_ka ne6) fun W6 O3 hT hf=> ?_
   refine tx4 hT.hA hT.blk hT.no hf hF ka o_ka kr o_kr ks o_ks kp o_kp ?_;clear hA hF kt c_kt o_kt ka o_ka kr o_kr ks o_ks kp o_kp c_ka c_kr c_ks c_kp hT hf;intro z_W6 hA hF kt c_kt o_kt ka c_ka o_ka kr c_kr o_kr ks c_ks o_ks kp c_kp o_kp
   go_wp2_with fail
   refine cg fun V6 hV_V6=> ?_
   refine nef5 hV_V6 hA hF ka kr ks kp kt ?_;clear hA hF ka kr ks kp kt c_ka c_kr c_ks c_kp c_kt;intro z_V6 hA hF ka c_ka kr c_kr ks c_ks kp c_kp kt c_kt
   clear hV_V6
   have hadlt:ad.block<w.heap.size:=by
    obtain ⟨A,c,hv,hc⟩:=HD.out
    obtain ⟨rfl, -,rfl⟩:=Value.slice.inj hv
    obtain ⟨ad',ha,hlt, -⟩:=hc hlen
    obtain rfl:=Option.some.inj ha
    exact hlt
   have hX: ¬twoX W2.heap.size (W2.heap.size+1) ad.block:=by unfold twoX;omega
   by_cases hm:(r.2:Int) % rate=0
   ·
    have m1:((r.2:Int) % rate==0)=true:=by rw [hm];rfl
    have hst:=Hst2.out
    rw [if_pos hm] at hst
    obtain ⟨r3,hr3',hst⟩:=Option.bind_eq_some_iff.1 hst
    obtain ⟨u,hu,hst⟩:=Option.map_eq_some_iff.1 hst
    obtain ⟨t3,ht3⟩: ∃t,nextA t2.2.1 st.p.spots r3=t:=⟨_,rfl⟩
    rw [ht3] at hu hst
    have Hr3:=Lib.hid hr3';have Hu:=Lib.hid hu;have Hst:=Lib.hid hst;have Ht3:=Lib.hid ht3;have Hm:=Lib.hid hm
    have e2:decide ((r.2:Int) % rate=0)=((r.2:Int) % rate==0):=rfl
    have Hr2':Hid (bInsert t1.2.2 st.p.marks (i:Int) ((r.2:Int) % rate==0)=some r2):=Lib.hid Hr2.out
    rw [m1] at Hr2'⊢
    clear hst hr3' hu ht3 hm e2
    refine wC (bInsert_calls (s:=t1.2.2) _ _ _ r2 Hr2'.out _ hA) fun W7 O4 hA_W7 hf_W7=> ?_
    refine wif5 hf_W7 hF ka o_ka kr o_kr ks o_ks kp o_kp kt o_kt ?_;clear hA hF ka o_ka kr o_kr ks o_ks kp o_kp kt o_kt c_ka c_kr c_ks c_kp c_kt hf_W7;intro z_W7 hF ka c_ka o_ka kr c_kr o_kr ks c_ks o_ks kp c_kp o_kp kt c_kt o_kt;have hA:=hA_W7;clear hA_W7
    go_wp2_with fail
    refine cg fun V7 hV_V7=> ?_
    refine nef5 hV_V7 hA hF ka kr ks kp kt ?_;clear hA hF ka kr ks kp kt c_ka c_kr c_ks c_kp c_kt;intro z_V7 hA hF ka c_ka kr c_kr ks c_ks kp c_kp kt c_kt
    clear hV_V7
    refine tC (next_t (W2.heap.size+1) w.heap.size t1.2.1 st.p.marks r2 t2 Ht2.out _ hA kt ka o_kt o_ka ne6) fun W8 O5 hT hf=> ?_
    refine tx4 hT.hA hT.blk hT.no hf hF ka o_ka kr o_kr ks o_ks kp o_kp ?_;clear hA hF kt c_kt o_kt ka o_ka kr o_kr ks o_ks kp o_kp c_ka c_kr c_ks c_kp hT hf;intro z_W8 hA hF kt c_kt o_kt ka c_ka o_ka kr c_kr o_kr ks c_ks o_ks kp c_kp o_kp
    go_wp2_with fail
    refine wg fun V8 hV_V8=> ?_
    refine nef5 hV_V8 hA hF ka kr ks kp kt ?_;clear hA hF ka kr ks kp kt c_ka c_kr c_ks c_kp c_kt;intro z_V8 hA hF ka c_ka kr c_kr ks c_ks kp c_kp kt c_kt
    clear hV_V8
    obtain ⟨c_d_lt,c_d, -⟩:(ad.add (r.1*2)).block<V8.heap.size∧V8.cell? (ad.add (r.1*2))=some (.int .i64 d.1)∧True:=by
     obtain ⟨A,c,hv,hc⟩:=hdoc.out.fr hF oD hX
     obtain ⟨rfl, -,rfl⟩:=Value.slice.inj hv
     obtain ⟨ad',ha,hlt,hc⟩:=hc hlen
     obtain rfl:=Option.some.inj ha
     obtain ⟨q1,q2, -⟩:=hc r.1 d Hd.out
     exact ⟨q1,q2,trivial⟩
    have c_d_no: ¬O5 (ad.add (r.1*2)).block:=by
     rw [block_of_add]
     exact hF.not_own (by have:=hF.size;omega) oD
    refine dr (fun v=>(v.cell? (ad.add (r.1*2))=some (.int .i64 d.1))∧Sm v V8 (w.heap.size)∧Sm v V8 (g1)∧Sm v V8 (g2)∧Sm v V8 (W2.heap.size)∧Sm v V8 (W2.heap.size+1)∧(V8.heap.size≤v.heap.size)∧True) ⟨c_d,fun _=>rfl,fun _=>rfl,fun _=>rfl,fun _=>rfl,fun _=>rfl,Nat.le_refl _,trivial⟩ fun V8d hV_V8d hHeld=> ?_
    have v_ka:=c_ka.1;have v_kr:=c_kr.1;have v_ks:=c_ks.1;have v_kp:=c_kp.1;have v_kt:=c_kt.1
    replace c_d:V8d.cell? (ad.add (r.1*2))=some (.int .i64 d.1):=by rw [hV_V8d];exact c_d
    replace c_d_lt:((ad.add (r.1*2))).block<V8d.heap.size:=by rw [hV_V8d];exact c_d_lt
    refine nef5 hV_V8d hA hF ka kr ks kp kt ?_;clear hA hF ka kr ks kp kt c_ka c_kr c_ks c_kp c_kt;intro z_V8d hA hF ka c_ka kr c_kr ks c_ks kp c_kp kt c_kt
    clear hV_V8d
    refine ta 0 hHeld ?_
    refine ta 1 hHeld ?_
    refine ta 2 hHeld ?_
    refine ta 3 hHeld ?_
    refine ta 4 hHeld ?_
    refine ta 5 hHeld ?_
    refine ta 6 hHeld ?_
    refine ta 7 hHeld ?_
    refine ta 8 hHeld ?_
    refine ta 9 hHeld ?_
    refine ta 10 hHeld ?_
    refine ta 11 hHeld ?_
    refine ta 12 hHeld ?_
    refine ta 13 hHeld ?_
    refine ta 14 hHeld ?_
    refine ta 15 hHeld ?_
    refine ta 16 hHeld ?_
    refine ta 17 hHeld ?_
    refine ta 18 hHeld ?_
    refine rd 19 rfl fun K hK=> ?_
    go_simp
    try simp only [IntWalk.i64_left]
    refine wC (lInsert_calls (s:=t2.2.2) _ _ (d.1,(r.2:Int)) r3 Hr3.out _ hA) fun W9 O6 hA_W9 hf_W9=> ?_
    have q_ka:=hf_W9.keep ka o_ka (fun h=>h)
    have q_kr:=hf_W9.keep kr o_kr (fun h=>h)
    have q_ks:=hf_W9.keep ks o_ks (fun h=>h)
    have q_kp:=hf_W9.keep kp o_kp (fun h=>h)
    have q_kt:=hf_W9.keep kt o_kt (fun h=>h)
    replace o_ka:=hf_W9.not_own (lt_of ka) o_ka
    clear ka c_ka;have ka:=q_ka;clear q_ka
    have c_ka:=f3 ka;have l_kaW9:=lt_of ka
    replace o_kr:=hf_W9.not_own (lt_of kr) o_kr
    clear kr c_kr;have kr:=q_kr;clear q_kr
    have c_kr:=f3 kr;have l_krW9:=lt_of kr
    replace o_ks:=hf_W9.not_own (lt_of ks) o_ks
    clear ks c_ks;have ks:=q_ks;clear q_ks
    have c_ks:=f3 ks;have l_ksW9:=lt_of ks
    replace o_kp:=hf_W9.not_own (lt_of kp) o_kp
    clear kp c_kp;have kp:=q_kp;clear q_kp
    have c_kp:=f3 kp;have l_kpW9:=lt_of kp
    replace o_kt:=hf_W9.not_own (lt_of kt) o_kt
    clear kt c_kt;have kt:=q_kt;clear q_kt
    have c_kt:=f3 kt;have l_ktW9:=lt_of kt
    replace c_d:=(cell_same (hf_W9.block _ c_d_lt c_d_no (fun h=>h))).trans c_d
    clear c_d_lt c_d_no
    replace hF:=hF.trans hf_W9.widen
    have z_W9:=hf_W9.size
    clear hA hf_W9;have hA:=hA_W9;clear hA_W9
    refine ho hK ⟨c_d,vv c_ka v_ka,vv c_kr v_kr,vv c_ks v_ks,vv c_kp v_kp,vv c_kt v_kt,by omega,trivial⟩ fun hHeld=> ?_
    clear hK K
    refine ta 20 hHeld ?_
    refine ta 21 hHeld ?_
    refine ta 22 hHeld ?_
    refine rd 23 rfl fun K hK=> ?_
    go_simp
    refine ho hK hHeld fun hHeld=> ?_
    clear hK K
    refine rd 24 rfl fun K hK=> ?_
    go_simp
    refine ho hK hHeld fun hHeld=> ?_
    clear hK K
    refine wd ?_
    go_wp2_with fail
    refine cg fun V9 hV_V9=> ?_
    refine nef5 hV_V9 hA hF ka kr ks kp kt ?_;clear hA hF ka kr ks kp kt c_ka c_kr c_ks c_kp c_kt;intro z_V9 hA hF ka c_ka kr c_kr ks c_ks kp c_kp kt c_kt
    clear hV_V9
    refine tC (next_t (W2.heap.size+1) w.heap.size t2.2.1 st.p.spots r3 t3 Ht3.out _ hA kt ka o_kt o_ka ne6) fun W10 O7 hT hf=> ?_
    refine tx4 hT.hA hT.blk hT.no hf hF ka o_ka kr o_kr ks o_ks kp o_kp ?_;clear hA hF kt c_kt o_kt ka o_ka kr o_kr ks o_ks kp o_kp c_ka c_kr c_ks c_kp hT hf;intro z_W10 hA hF kt c_kt o_kt ka c_ka o_ka kr c_kr o_kr ks c_ks o_ks kp c_kp o_kp
    go_wp2_with fail
    refine cg fun V10 hV_V10=> ?_
    refine nef5 hV_V10 hA hF ka kr ks kp kt ?_;clear hA hF ka kr ks kp kt c_ka c_kr c_ks c_kp c_kt;intro z_V10 hA hF ka c_ka kr c_kr ks c_ks kp c_kp kt c_kt
    clear hV_V10
    refine wC (work_calls (s:=t3.2.2) 1073741824 u Hu.out _ hA) fun W11 O8 hA_W11 hf_W11=> ?_
    refine wif5 hf_W11 hF ka o_ka kr o_kr ks o_ks kp o_kp kt o_kt ?_;clear hA hF ka o_ka kr o_kr ks o_ks kp o_kp kt o_kt c_ka c_kr c_ks c_kp c_kt hf_W11;intro z_W11 hF ka c_ka o_ka kr c_kr o_kr ks c_ks o_ks kp c_kp o_kp kt c_kt o_kt;have hA:=hA_W11;clear hA_W11
    obtain rfl:=Hst.out
    have HF2:=Lib.hid (HF.out.trans_own hF hY)
    have hdoc2:=Lib.hid (hdoc.out.fr hF oD hX)
    have oD2:=hF.not_own (by have:=HF.out.size;omega) oD
    have HA2:=Lib.hid hA
    clear hF hdoc oD hA
    go_wp2_with fail
    go_roundg k
    case measure=>omega
    case rel=>exact ⟨i+1,_,O8,rfl,by first|rfl|(rw [E3.out];rfl),by omega,HA2.out,HF2,kp,kt,ka,kr,ks,o_kp,o_kt,o_ka,o_kr,o_ks,oD2,hdoc2,Lib.hid (by exact Hb2.out)⟩
   ·
    have m1:((r.2:Int) % rate==0)=false:=by rw [beq_eq_false_iff_ne];exact hm
    have hst:=Hst2.out
    rw [if_neg hm] at hst
    obtain ⟨u,hu,hst⟩:=Option.map_eq_some_iff.1 hst
    have Hu:=Lib.hid hu;have Hst:=Lib.hid hst;have Hm:=Lib.hid hm
    have Hr2':Hid (bInsert t1.2.2 st.p.marks (i:Int) ((r.2:Int) % rate==0)=some r2):=Lib.hid Hr2.out
    rw [m1] at Hr2'⊢
    clear hst hu hm
    refine wC (bInsert_calls (s:=t1.2.2) _ _ _ r2 Hr2'.out _ hA) fun W7 O4 hA_W7 hf_W7=> ?_
    refine wif5 hf_W7 hF ka o_ka kr o_kr ks o_ks kp o_kp kt o_kt ?_;clear hA hF ka o_ka kr o_kr ks o_ks kp o_kp kt o_kt c_ka c_kr c_ks c_kp c_kt hf_W7;intro z_W7 hF ka c_ka o_ka kr c_kr o_kr ks c_ks o_ks kp c_kp o_kp kt c_kt o_kt;have hA:=hA_W7;clear hA_W7
    go_wp2_with fail
    refine cg fun V7 hV_V7=> ?_
    refine nef5 hV_V7 hA hF ka kr ks kp kt ?_;clear hA hF ka kr ks kp kt c_ka c_kr c_ks c_kp c_kt;intro z_V7 hA hF ka c_ka kr c_kr ks c_ks kp c_kp kt c_kt
    clear hV_V7
    refine tC (next_t (W2.heap.size+1) w.heap.size t1.2.1 st.p.marks r2 t2 Ht2.out _ hA kt ka o_kt o_ka ne6) fun W8 O5 hT hf=> ?_
    refine tx4 hT.hA hT.blk hT.no hf hF ka o_ka kr o_kr ks o_ks kp o_kp ?_;clear hA hF kt c_kt o_kt ka o_ka kr o_kr ks o_ks kp o_kp c_ka c_kr c_ks c_kp hT hf;intro z_W8 hA hF kt c_kt o_kt ka c_ka o_ka kr c_kr o_kr ks c_ks o_ks kp c_kp o_kp
    go_wp2_with fail
    refine cg fun V8 hV_V8=> ?_
    refine nef5 hV_V8 hA hF ka kr ks kp kt ?_;clear hA hF ka kr ks kp kt c_ka c_kr c_ks c_kp c_kt;intro z_V8 hA hF ka c_ka kr c_kr ks c_ks kp c_kp kt c_kt
    clear hV_V8
    refine wC (work_calls (s:=t2.2.2) 1073741824 u Hu.out _ hA) fun W11 O8 hA_W11 hf_W11=> ?_
    refine wif5 hf_W11 hF ka o_ka kr o_kr ks o_ks kp o_kp kt o_kt ?_;clear hA hF ka o_ka kr o_kr ks o_ks kp o_kp kt o_kt c_ka c_kr c_ks c_kp c_kt hf_W11;intro z_W11 hF ka c_ka o_ka kr c_kr o_kr ks c_ks o_ks kp c_kp o_kp kt c_kt o_kt;have hA:=hA_W11;clear hA_W11
    obtain rfl:=Hst.out
    have HF2:=Lib.hid (HF.out.trans_own hF hY)
    have hdoc2:=Lib.hid (hdoc.out.fr hF oD hX)
    have oD2:=hF.not_own (by have:=HF.out.size;omega) oD
    have HA2:=Lib.hid hA
    clear hF hdoc oD hA
    go_wp2_with fail
    go_roundg k
    case measure=>omega
    case rel=>exact ⟨i+1,(⟨u.2,t2.2.1,⟨t1.1,t2.1,st.p.spots,st.p.table⟩,st.n⟩:Bst),O8,rfl,by first|rfl|(rw [E3.out];rfl),by omega,HA2.out,HF2,kp,kt,ka,kr,ks,o_kp,o_kt,o_ka,o_kr,o_ks,oD2,hdoc2,Lib.hid (by exact Hb2.out)⟩
  ·
   obtain rfl:i=R.length:=by omega
   have hb:=Hb.out
   rw [List.drop_of_length_le (by omega)] at hb
   unfold bRows at hb
   obtain rfl:=Option.some.inj hb
   have n1:decide ((R.length:Int)<(R.length:Int))=false:=by simp
   clear hb Hb hlt hk
   go_wp2_with fail
   go_loopg [126] ds.length (fun k p1 wr=> ∃(i:Nat) (st:Bst) (O':Nat→Prop),p1= .int .i64 (i:Int)∧i+k=ds.length∧AP wr (.pointer q) st.s O'∧Hid (Fr noX O O' w wr)
    ∧wr.heap[W2.heap.size]? =some (.cells #[.int .i64 st.p.wave, .int .i64 st.p.marks, .int .i64 st.p.spots, .int .i64 st.p.table] 52 (0,0))∧wr.heap[W2.heap.size+1]? =some (.cells #[.bool st.ok] 4 (0,0))∧wr.heap[w.heap.size]? =some (.cells #[.pointer q] 26 (0,0))
    ∧ ¬O' (W2.heap.size)∧ ¬O' (W2.heap.size+1)∧ ¬O' w.heap.size∧ ¬O' ad.block∧Hid (Rd2 wr (.slice (some ad) ds.length cap) ds)∧Hid (bTable ((docsM ds).drop i) st=some B2))
   case atStart=>exact ⟨0,_,O1,rfl,by omega,hA,HF,kp,kt,ka,o_kp,o_kt,o_ka,oD,hdoc,H2⟩
   case round=>
    clear hA HF kp kt ka kr ks o_kp o_kt o_ka o_kr o_ks oD hdoc
    obtain ⟨i,st,O1,rfl,hk,hA,HF,kp,kt,ka,o_kp,o_kt,o_ka,oD,hdoc,Hb⟩:=hrel
    have hadlt:ad.block<w.heap.size:=by
     obtain ⟨A,c,hv,hc⟩:=HD.out
     obtain ⟨rfl, -,rfl⟩:=Value.slice.inj hv
     obtain ⟨ad',ha,hlt, -⟩:=hc hlen
     obtain rfl:=Option.some.inj ha
     exact hlt
    have hX: ¬twoX W2.heap.size (W2.heap.size+1) ad.block:=by unfold twoX;omega
    by_cases hlt:i<ds.length
    ·
     obtain ⟨k,rfl⟩: ∃k,gk=k+1:=⟨gk - 1,by omega⟩
     obtain ⟨d,hd⟩:=at_some hlt
     have hx:(docsM ds)[i]? =some (d.1,(d.2.length:Int)):=by unfold docsM;rw [List.getElem?_map,hd];rfl
     have hb:=Hb.out
     rw [drop_at hx] at hb
     unfold bTable at hb
     obtain ⟨a,ha,hb⟩:=Option.bind_eq_some_iff.1 hb
     have hla:a.length≤50000:=by
      by_cases h:a.length≤50000
      ·
       exact h
      ·
       rw [if_neg h] at hb;cases hb
     rw [if_pos hla] at hb
     obtain ⟨r,hr,hb⟩:=Option.bind_eq_some_iff.1 hb
     obtain ⟨t,ht⟩: ∃t,nextA st.ok st.p.table r=t:=⟨_,rfl⟩
     rw [ht] at hb
     dsimp only at hr
     have Ha:=Lib.hid ha;have Hr:=Lib.hid hr;have Hb2:=Lib.hid hb;have Ht:=Lib.hid ht
     have m1:decide ((i:Int)<(ds.length:Int))=true:=by simpa using hlt
     have m2:(i:Int)<(ds.length:Int):=by omega
     have E3:=Lib.hid (step_wrap i 500 (by omega) (by omega))
     obtain ⟨cd1,cd2⟩:wr.cell? (ad.add (i*2))=some (.int .i64 d.1)∧wr.cell? ⟨(ad.add (i*2)).block,(ad.add (i*2)).off+1,none⟩=some (.string ⟨d.2.toArray⟩):=by
      obtain ⟨A,c,hv,hc⟩:=hdoc.out
      obtain ⟨rfl, -,rfl⟩:=Value.slice.inj hv
      obtain ⟨ad',ha,hlt,hc⟩:=hc hlen
      obtain rfl:=Option.some.inj ha
      obtain ⟨-,q1,q2⟩:=hc i d hd
      exact ⟨q1,q2⟩
     clear hb ha hr ht hd hx hlt Hb
     have hF:=Fr.refl ((twoX W2.heap.size (W2.heap.size+1))) O1 wr
     have c_ka:=f3 ka;have l_kawr:=lt_of ka
     have c_kp:=f3 kp;have l_kpwr:=lt_of kp
     have c_kt:=f3 kt;have l_ktwr:=lt_of kt
     go_wp2_with fail
     refine cg fun V4 hV_V4=> ?_
     refine nef3 hV_V4 hA hF ka kp kt ?_;clear hA hF ka kp kt c_ka c_kp c_kt;intro z_V4 hA hF ka c_ka kp c_kp kt c_kt
     clear hV_V4
     refine wC (tAdd_calls _ _ _ a Ha.out hla r Hr.out _ hA) fun W5 O2 hA_W5 hf_W5=> ?_
     refine wif3 hf_W5 hF ka o_ka kp o_kp kt o_kt ?_;clear hA hF ka o_ka kp o_kp kt o_kt c_ka c_kp c_kt hf_W5;intro z_W5 hF ka c_ka o_ka kp c_kp o_kp kt c_kt o_kt;have hA:=hA_W5;clear hA_W5
     go_wp2_with fail
     refine cg fun V5 hV_V5=> ?_
     refine nef3 hV_V5 hA hF ka kp kt ?_;clear hA hF ka kp kt c_ka c_kp c_kt;intro z_V5 hA hF ka c_ka kp c_kp kt c_kt
     clear hV_V5
     refine tC (next_t (W2.heap.size+1) w.heap.size st.ok st.p.table r t Ht.out _ hA kt ka o_kt o_ka ne6) fun W6 O3 hT hf=> ?_
     refine tx2 hT.hA hT.blk hT.no hf hF ka o_ka kp o_kp ?_;clear hA hF kt c_kt o_kt ka o_ka kp o_kp c_ka c_kp hT hf;intro z_W6 hA hF kt c_kt o_kt ka c_ka o_ka kp c_kp o_kp
     clear cd1 cd2
     go_wp2_with fail
     refine handed_gen fun V6 hV_V6=> ?_
     refine nef3 hV_V6 hA hF ka kp kt ?_;clear hA hF ka kp kt c_ka c_kp c_kt;intro z_V6 hA hF ka c_ka kp c_kp kt c_kt
     clear hV_V6
     have HF2:=Lib.hid (HF.out.trans_own hF hY)
     have hdoc2:=Lib.hid (hdoc.out.fr hF oD hX)
     have oD2:=hF.not_own (by have:=HF.out.size;omega) oD
     go_roundg k
     case measure=>omega
     case rel=>exact ⟨i+1,(⟨t.2.2,t.2.1,⟨st.p.wave,st.p.marks,st.p.spots,t.1⟩,st.n⟩:Bst),O3,by first|rfl|(rw [E3.out];rfl),by omega,hA,HF2,kp,kt,ka,o_kp,o_kt,o_ka,oD2,hdoc2,Lib.hid (by exact Hb2.out)⟩
    ·
     obtain rfl:i=ds.length:=by omega
     have hDlen:(docsM ds).length=ds.length:=by unfold docsM;rw [List.length_map]
     have hb:=Hb.out
     rw [List.drop_of_length_le (by omega)] at hb
     unfold bTable at hb
     obtain rfl:=Option.some.inj hb
     have m1:decide ((ds.length:Int)<(ds.length:Int))=false:=by simp
     have h3:=H3.out
     unfold bEnd at h3
     rw [ho2,if_pos rfl] at h3
     obtain ⟨t4,ht4⟩: ∃t,nextA true 0 (vMake st.s st.p)=t:=⟨_,rfl⟩
     rw [ht4] at h3
     dsimp only at h3
     obtain ⟨u,hu,h3⟩:=Option.map_eq_some_iff.1 h3
     rw [ho2] at kt
     have Hu:=Lib.hid hu;have H3':=Lib.hid h3;have Ht4:=Lib.hid ht4
     have hok4:t4.2.1=true:=congrArg (fun x=>x.2.1) h3
     clear hb Hb hlt hk h3 hu ht4
     have hF:=Fr.refl ((twoX W2.heap.size (W2.heap.size+1))) O1 wr
     have c_ka:=f3 ka;have l_kawr:=lt_of ka
     have c_kp:=f3 kp;have l_kpwr:=lt_of kp
     have c_kt:=f3 kt;have l_ktwr:=lt_of kt
     go_wp2_with fail
     refine cg fun V4 hV_V4=> ?_
     refine nef3 hV_V4 hA hF ka kp kt ?_;clear hA hF ka kp kt c_ka c_kp c_kt;intro z_V4 hA hF ka c_ka kp c_kp kt c_kt
     clear hV_V4
     refine wC (vMake_calls st.p _ hA) fun W5 O2 hA_W5 hf_W5=> ?_
     refine wif3 hf_W5 hF ka o_ka kp o_kp kt o_kt ?_;clear hA hF ka o_ka kp o_kp kt o_kt c_ka c_kp c_kt hf_W5;intro z_W5 hF ka c_ka o_ka kp c_kp o_kp kt c_kt o_kt;have hA:=hA_W5;clear hA_W5
     go_wp2_with fail
     refine cg fun V5 hV_V5=> ?_
     refine nef3 hV_V5 hA hF ka kp kt ?_;clear hA hF ka kp kt c_ka c_kp c_kt;intro z_V5 hA hF ka c_ka kp c_kp kt c_kt
     clear hV_V5
     refine tC (next_t (W2.heap.size+1) w.heap.size true 0 (vMake st.s st.p) t4 Ht4.out _ hA kt ka o_kt o_ka ne6) fun W6 O3 hT hf=> ?_
     refine tx2 hT.hA hT.blk hT.no hf hF ka o_ka kp o_kp ?_;clear hA hF kt c_kt o_kt ka o_ka kp o_kp c_ka c_kp hT hf;intro z_W6 hA hF kt c_kt o_kt ka c_ka o_ka kp c_kp o_kp
     rw [hok4] at kt
     go_wp2_with fail
     refine wg fun V6 hV_V6=> ?_
     refine nnf3 hV_V6 hA hF ka kp kt ?_;clear hA hF ka kp kt c_ka c_kp c_kt;intro hn_V6 z_V6 hA hF ka c_ka kp c_kp kt c_kt
     obtain ⟨kl,c_kl,o_kl,l_klV6⟩:=nN hn_V6 hV_V6 (W6.heap.size)
     clear hV_V6 hn_V6
     have HF6:=Lib.hid (HF.out.trans_own hF hY)
     have HA6:=Lib.hid hA
     have ka2:=ka;have kt2:=kt;have o_ka2:=o_ka;have o_kt2:=o_kt
     clear hA hF HF kp c_kp o_kp ka c_ka kt c_kt o_ka o_kt c_kl
     go_loopw [171] (fun y w3=> ∃i:Nat,i≤4∧y= .int .i64 i∧ ∃O',AP w3 (.pointer q) ([st.p.wave,st.p.marks,st.p.spots,st.p.table].take i|>.foldl dropP t4.2.2) O'∧Fr noX O O' w w3∧w3.heap[W6.heap.size]? =some (.cells #[.int .i64 st.p.wave, .int .i64 st.p.marks, .int .i64 st.p.spots, .int .i64 st.p.table] 3 (0,0))∧w3.heap[w.heap.size]? =some (.cells #[.pointer q] 26 (0,0))∧w3.heap[W2.heap.size+1]? =some (.cells #[.bool true] 4 (0,0))∧ ¬O' W6.heap.size∧ ¬O' w.heap.size∧ ¬O' (W2.heap.size+1)) (fun y _=>4 - (intOf y).toNat)
     case atStart=>exact ⟨0,by omega,rfl,_,HA6.out,HF6.out,kl,ka2,kt2,o_kl,o_ka2,o_kt2⟩
     case round=>
      clear HA6 HF6 kl ka2 kt2 o_kl o_ka2 o_kt2
      obtain ⟨i,hi,rfl,O',hA',hF',kl,ka2,kt2,o_kl,o_ka2,o_kt2⟩:=hrel
      have c_kl:=cells_of kl
      rcases (show i=0∨i=1∨i=2∨i=3∨i=4 by omega) with rfl|rfl|rfl|rfl|rfl
      ·
       have HA:=Lib.hid hA';have HF5:=Lib.hid hF';clear hA' hF'
       by_cases hz:st.p.wave=0
       ·
        have z1:(st.p.wave !=0)=false:=by simp [hz]
        have hd:Hid ((dropP t4.2.2 st.p.wave)=t4.2.2):=Lib.hid (by show dropP _ _=_;unfold dropP;rw [if_pos hz])
        clear hz
        go_wp2_with fail
        go_roundw
        case rel=>exact ⟨1,by omega,rfl,O',by show AP wr (.pointer q) (dropP t4.2.2 st.p.wave) O';rw [hd.out];exact HA.out,HF5.out,kl,ka2,kt2,o_kl,o_ka2,o_kt2⟩
        case measure=>simp [intOf]
       ·
        have z1:(st.p.wave !=0)=true:=by simp [hz]
        have hd:Hid ((dropP t4.2.2 st.p.wave)=(t4.2.2).drop st.p.wave):=Lib.hid (by show dropP _ _=_;unfold dropP;rw [if_neg hz])
        clear hz
        have c_ka2:=cells_of ka2
        go_wp2_with fail
        refine (drop_calls _ _ HA.out).mono ?_
        rintro e1 w1 ⟨rfl,O3,hA1,hf1⟩
        go_wp2_with fail
        go_roundw
        case rel=>exact ⟨1,by omega,rfl,O3,by show AP w1 (.pointer q) (dropP t4.2.2 st.p.wave) O3;rw [hd.out];exact hA1,HF5.out.trans hf1.widen,hf1.keep kl o_kl (fun h=>h),hf1.keep ka2 o_ka2 (fun h=>h),hf1.keep kt2 o_kt2 (fun h=>h),hf1.not_own (lt_of kl) o_kl,hf1.not_own (lt_of ka2) o_ka2,hf1.not_own (lt_of kt2) o_kt2⟩
        case measure=>simp [intOf]
      ·
       have HA:=Lib.hid hA';have HF5:=Lib.hid hF';clear hA' hF'
       by_cases hz:st.p.marks=0
       ·
        have z1:(st.p.marks !=0)=false:=by simp [hz]
        have hd:Hid ((dropP (dropP t4.2.2 st.p.wave) st.p.marks)=(dropP t4.2.2 st.p.wave)):=Lib.hid (by show dropP _ _=_;unfold dropP;rw [if_pos hz])
        clear hz
        go_wp2_with fail
        go_roundw
        case rel=>exact ⟨2,by omega,rfl,O',by show AP wr (.pointer q) (dropP (dropP t4.2.2 st.p.wave) st.p.marks) O';rw [hd.out];exact HA.out,HF5.out,kl,ka2,kt2,o_kl,o_ka2,o_kt2⟩
        case measure=>simp [intOf]
       ·
        have z1:(st.p.marks !=0)=true:=by simp [hz]
        have hd:Hid ((dropP (dropP t4.2.2 st.p.wave) st.p.marks)=((dropP t4.2.2 st.p.wave)).drop st.p.marks):=Lib.hid (by show dropP _ _=_;unfold dropP;rw [if_neg hz])
        clear hz
        have c_ka2:=cells_of ka2
        go_wp2_with fail
        refine (drop_calls _ _ HA.out).mono ?_
        rintro e1 w1 ⟨rfl,O3,hA1,hf1⟩
        go_wp2_with fail
        go_roundw
        case rel=>exact ⟨2,by omega,rfl,O3,by show AP w1 (.pointer q) (dropP (dropP t4.2.2 st.p.wave) st.p.marks) O3;rw [hd.out];exact hA1,HF5.out.trans hf1.widen,hf1.keep kl o_kl (fun h=>h),hf1.keep ka2 o_ka2 (fun h=>h),hf1.keep kt2 o_kt2 (fun h=>h),hf1.not_own (lt_of kl) o_kl,hf1.not_own (lt_of ka2) o_ka2,hf1.not_own (lt_of kt2) o_kt2⟩
        case measure=>simp [intOf]
      ·
       have HA:=Lib.hid hA';have HF5:=Lib.hid hF';clear hA' hF'
       by_cases hz:st.p.spots=0
       ·
        have z1:(st.p.spots !=0)=false:=by simp [hz]
        have hd:Hid ((dropP (dropP (dropP t4.2.2 st.p.wave) st.p.marks) st.p.spots)=(dropP (dropP t4.2.2 st.p.wave) st.p.marks)):=Lib.hid (by show dropP _ _=_;unfold dropP;rw [if_pos hz])
        clear hz
        go_wp2_with fail
        go_roundw
        case rel=>exact ⟨3,by omega,rfl,O',by show AP wr (.pointer q) (dropP (dropP (dropP t4.2.2 st.p.wave) st.p.marks) st.p.spots) O';rw [hd.out];exact HA.out,HF5.out,kl,ka2,kt2,o_kl,o_ka2,o_kt2⟩
        case measure=>simp [intOf]
       ·
        have z1:(st.p.spots !=0)=true:=by simp [hz]
        have hd:Hid ((dropP (dropP (dropP t4.2.2 st.p.wave) st.p.marks) st.p.spots)=((dropP (dropP t4.2.2 st.p.wave) st.p.marks)).drop st.p.spots):=Lib.hid (by show dropP _ _=_;unfold dropP;rw [if_neg hz])
        clear hz
        have c_ka2:=cells_of ka2
        go_wp2_with fail
        refine (drop_calls _ _ HA.out).mono ?_
        rintro e1 w1 ⟨rfl,O3,hA1,hf1⟩
        go_wp2_with fail
        go_roundw
        case rel=>exact ⟨3,by omega,rfl,O3,by show AP w1 (.pointer q) (dropP (dropP (dropP t4.2.2 st.p.wave) st.p.marks) st.p.spots) O3;rw [hd.out];exact hA1,HF5.out.trans hf1.widen,hf1.keep kl o_kl (fun h=>h),hf1.keep ka2 o_ka2 (fun h=>h),hf1.keep kt2 o_kt2 (fun h=>h),hf1.not_own (lt_of kl) o_kl,hf1.not_own (lt_of ka2) o_ka2,hf1.not_own (lt_of kt2) o_kt2⟩
        case measure=>simp [intOf]
      ·
       have HA:=Lib.hid hA';have HF5:=Lib.hid hF';clear hA' hF'
       by_cases hz:st.p.table=0
       ·
        have z1:(st.p.table !=0)=false:=by simp [hz]
        have hd:Hid ((dropP (dropP (dropP (dropP t4.2.2 st.p.wave) st.p.marks) st.p.spots) st.p.table)=(dropP (dropP (dropP t4.2.2 st.p.wave) st.p.marks) st.p.spots)):=Lib.hid (by show dropP _ _=_;unfold dropP;rw [if_pos hz])
        clear hz
        go_wp2_with fail
        go_roundw
        case rel=>exact ⟨4,by omega,rfl,O',by show AP wr (.pointer q) (dropP (dropP (dropP (dropP t4.2.2 st.p.wave) st.p.marks) st.p.spots) st.p.table) O';rw [hd.out];exact HA.out,HF5.out,kl,ka2,kt2,o_kl,o_ka2,o_kt2⟩
        case measure=>simp [intOf]
       ·
        have z1:(st.p.table !=0)=true:=by simp [hz]
        have hd:Hid ((dropP (dropP (dropP (dropP t4.2.2 st.p.wave) st.p.marks) st.p.spots) st.p.table)=((dropP (dropP (dropP t4.2.2 st.p.wave) st.p.marks) st.p.spots)).drop st.p.table):=Lib.hid (by show dropP _ _=_;unfold dropP;rw [if_neg hz])
        clear hz
        have c_ka2:=cells_of ka2
        go_wp2_with fail
        refine (drop_calls _ _ HA.out).mono ?_
        rintro e1 w1 ⟨rfl,O3,hA1,hf1⟩
        go_wp2_with fail
        go_roundw
        case rel=>exact ⟨4,by omega,rfl,O3,by show AP w1 (.pointer q) (dropP (dropP (dropP (dropP t4.2.2 st.p.wave) st.p.marks) st.p.spots) st.p.table) O3;rw [hd.out];exact hA1,HF5.out.trans hf1.widen,hf1.keep kl o_kl (fun h=>h),hf1.keep ka2 o_ka2 (fun h=>h),hf1.keep kt2 o_kt2 (fun h=>h),hf1.not_own (lt_of kl) o_kl,hf1.not_own (lt_of ka2) o_ka2,hf1.not_own (lt_of kt2) o_kt2⟩
        case measure=>simp [intOf]
      ·
       have HA:=Lib.hid hA';have HF5:=Lib.hid hF';clear hA' hF' c_kl
       have hA7:AP wr (.pointer q) (dropP (dropP (dropP (dropP t4.2.2 st.p.wave) st.p.marks) st.p.spots) st.p.table) O':=HA.out
       have HA7:=Lib.hid hA7;clear hA7 HA
       have c_ka2:=cells_of ka2
       have hlast:root=t4.1∧s'=u.2:=by
        have h3:=H3'.out
        rw [hok4] at h3
        simp only [Bool.true_eq_false,false_and,if_false,Prod.mk.injEq] at h3
        exact ⟨h3.1.symm,h3.2.2.symm⟩
       obtain ⟨rfl,rfl⟩:=hlast
       go_wp2_with fail
       refine (work_calls 1073741824 u Hu.out _ HA7.out).mono ?_
       rintro e8 W8 ⟨rfl,O8,hA8,hf8⟩
       have kt8:=hf8.keep kt2 o_kt2 (fun h=>h)
       have c_kt8:=cells_of kt8
       have HA8:=Lib.hid hA8
       have HF8:=Lib.hid (HF5.out.trans hf8)
       clear hA8 hf8
       have hA:=HA8.out
       clear c_kt8 c_ka2
       have hF:=Fr.refl (noX) O8 W8
       have c_kt8:=f3 kt8;have l_kt8W8:=lt_of kt8
       go_wp2_with fail
       refine wg fun V9 hV_V9=> ?_
       refine nef1 hV_V9 hA hF kt8 ?_;clear hA hF kt8 c_kt8;intro z_V9 hA hF kt8 c_kt8
       clear hV_V9
       refine dr (fun v=>Sm v V9 (W2.heap.size+1)∧(V9.heap.size≤v.heap.size)∧AP v (.pointer q) u.2 O8) ⟨fun _=>rfl,Nat.le_refl _,hA.drew⟩ fun V9d hV_V9d hHeld=> ?_
       have v_kt8:=c_kt8.1
       refine nef1 hV_V9d hA hF kt8 ?_;clear hA hF kt8 c_kt8;intro z_V9d hA hF kt8 c_kt8
       clear hV_V9d
       refine ta 0 hHeld ?_
       refine ta 1 hHeld ?_
       refine rd 2 rfl fun K hK=> ?_
       go_simp
       refine ho hK hHeld fun hHeld=> ?_
       clear hK K
       refine rd 3 rfl fun K hK=> ?_
       go_simp
       refine ho hK hHeld fun hHeld=> ?_
       clear hK K
       refine wd ?_
       have HFF:=Lib.hid (HF8.out.trans hF)
       have HAA:=Lib.hid hA
       clear hF hA
       go_wp2_with fail
       go_ret2
       exact ⟨rfl,O8,HAA.out,HFF.out⟩
end
section
open Go.RowKit
attribute [local go_sem ↓] Go.wp_at_zero Go.wp_at_succ
attribute [local go_sem] str_len
structure Told (s:Ar) (root:Int) (ds:Docs):Prop where
  text: ∀id,pText s root id=some (match placeD ds id with|none=>([],false)|some k=>((ds.getD k (0,[])).2,true))
  all:lAll s (vOf s root).table=some (docsM ds)
  len:lLen s (vOf s root).table≤50000
  rows:vRows s root=tot ds+ds.length
  docs:vDocs s root=ds.length
theorem VR.told {s:Ar} {H:List Int} (hI:Inv s H) {h:Int} {ds:Docs} {rate:Int} (hv:VR s h ds rate) (hR:Right ds):Told s h ds:=by
  have hl:=hR.len
  refine ⟨hv.text hI hR,hv.all hI (by omega),?_,by rw [hv.rows hI (by omega),rows_tot hR];omega,hv.docs hI (by omega)⟩
  rw [(hv.parts hI (by omega)).2.2.2.1.len hI];unfold docsM;simp;omega
theorem placeD_at {ds:Docs} (h:Right ds) {j:Nat} {d:Int×List UInt8} (hd:ds[j]? =some d):placeD ds d.1=some j:=by
  obtain ⟨hj,rfl⟩:=List.getElem?_eq_some_iff.1 hd
  refine List.findIdx?_eq_some_iff_getElem.2 ⟨hj,by simp,fun i hi=> ?_⟩
  have:=List.pairwise_iff_getElem.1 h.nodup i j (by simp;omega) (by simp;omega) hi
  simpa using this
theorem Told.at {s:Ar} {root:Int} {ds:Docs} (t:Told s root ds) (h:Right ds) {j:Nat} {d:Int×List UInt8} (hd:ds[j]? =some d):pText s root d.1=some (d.2,true):=by
  rw [t.text,placeD_at h hd]
  simp [List.getD,hd]
variable {ap : Value} {O : Nat → Prop}
theorem bldnil_calls (q : Option Addr) (rate : Int) (A : Option Addr) (n cap : Nat) (hn : ((n : Int) == 0) = true) (w : World) :
    Calls Tryz.prog 19 #[.pointer q, .int .i64 rate, .slice A n cap] w fun e w'=>e= .returned (.tuple #[.int .i64 0, .bool true])∧Below w.heap.size w w':=by
  go_enter Tryz.func19,Tryz.ntmps19
  go_wp2_with fail
  go_ret2
  exact ⟨rfl,(Below.refl w.heap.size w).alloc (Nat.le_refl _) _⟩
theorem pick_at (i:Int) (n:Nat) (hn:0<n): -(n:Int)≤i.tmod (n:Int)∧i.tmod (n:Int)<n∧ ∃K:Nat,(i.tmod (n:Int)+n) % (n:Int)=(K:Int)∧K<n:=by
  have h:=Int.tmod_lt_of_pos i (show (0:Int)<(n:Int) by omega)
  have h2:=Int.tmod_lt_of_pos (-i) (show (0:Int)<(n:Int) by omega)
  rw [Int.neg_tmod] at h2
  have h3:=Int.emod_nonneg (i.tmod (n:Int)+n) (show (n:Int)≠0 by omega)
  have h4:=Int.emod_lt_of_pos (i.tmod (n:Int)+n) (show (0:Int)<(n:Int) by omega)
  exact ⟨by omega,h,((i.tmod (n:Int)+n) % (n:Int)).toNat,by omega,by omega⟩
end
section
open Go.RowKit
theorem bldS_calls {w0 W : World} {p : Addr} {L : List (Nat × Obj)} (n : Nat) (hn1 : 2700 ≤ n) (hn2 : n ≤ 6000) (h : St w0 W (.pointer (some p)) (Ar.new n) L) (rate : Int) (hr1 : 1 ≤ rate) (hr2 : rate ≤ 1000) (ds : Docs) (hR : Right ds) (htot : tot ds ≤ 60) (A : Option Addr) (cap : Nat) (hD : Rd2 w0 (.slice A ds.length cap) ds) :
    Calls Tryz.prog 19 #[.pointer (some p), .int .i64 rate, .slice A ds.length cap] W fun e w'=> ∃root s',e= .returned (.tuple #[.int .i64 root, .bool true])∧St w0 w' (.pointer (some p)) s' L∧Inv s' [root]∧s'.wait=[]∧s'.size=n∧VR s' root ds rate∧(root=0↔ds=[]):=by
  by_cases hne:ds=[]
  · subst hne
    refine (bldnil_calls (some p) rate A 0 cap rfl W).mono ?_
    rintro e w' ⟨he,hb⟩
    exact ⟨0,_,he,h.below hb,(Inv.new n hn2).zero_cons (by simp),rfl,rfl,⟨.inl ⟨rfl,rfl⟩,fun h=>absurd rfl h⟩,⟨fun _=>rfl,fun _=>rfl⟩⟩
  · obtain ⟨A',c',hv,h2⟩:=id hD
    obtain ⟨rfl, -,rfl⟩:=Value.slice.inj hv
    obtain ⟨ad,rfl,hlt, -⟩:=h2 (List.length_pos_iff.2 hne)
    have hl:=hR.len
    obtain ⟨O,hA,hO,hL⟩:=h.ex
    obtain ⟨B1,B2,root,s',h1,o1,h2',o2,h3,hI,hz,h0,hv,hwt⟩:=build_partsW (Inv.new n hn2) rfl hR hne rate (by show 10000+160*(tot ds+ds.length)≤8*n;omega)
    refine (build_calls rate hr1 hr2 ds ad cap hne hR.right W (hD.below h.bel) (fun hq=>by have:=hO _ hq;omega) hA B1 B2 h1 o1 h2' o2 root s' h3).mono ?_
    rintro e w' ⟨he,O',a,b⟩
    exact ⟨root,s',he,h.did (O':=O') ⟨O,hA,hO,hL,a,b⟩,hI,hwt,hz,hv,⟨fun e=>absurd e h0,fun e=>absurd e hne⟩⟩
end
section
open Go.RowKit
theorem bldG_calls {w0 W : World} {p : Addr} {L : List (Nat × Obj)} (n : Nat) (hn2 : n ≤ 6000) (h : St w0 W (.pointer (some p)) (Ar.new n) L) (rate : Int) (hr1 : 1 ≤ rate) (hr2 : rate ≤ 1000) (ds : Docs) (hR : Right ds) (hroom : 10000 + 160 * (tot ds + ds.length) ≤ 8 * n) (A : Option Addr) (cap : Nat) (hD : Rd2 W (.slice A ds.length cap) ds) (hno : ∀ a, A = some a → 0 < ds.length → ∀ O, AP W (.pointer (some p)) (Ar.new n) O → (∀ b, O b → w0.heap.size ≤ b) → (∀ y ∈ L, W.heap[y.1]? = some y.2 ∧ ¬ O y.1) → ¬ O a.block) :
    Calls Tryz.prog 19 #[.pointer (some p), .int .i64 rate, .slice A ds.length cap] W fun e w'=> ∃root s',e= .returned (.tuple #[.int .i64 root, .bool true])∧St w0 w' (.pointer (some p)) s' L∧Inv s' [root]∧s'.wait=[]∧s'.size=n∧VR s' root ds rate∧(root=0↔ds=[]):=by
  by_cases hne:ds=[]
  · subst hne
    refine (bldnil_calls (some p) rate A 0 cap rfl W).mono ?_
    rintro e w' ⟨he,hb⟩
    exact ⟨0,_,he,h.below hb,(Inv.new n hn2).zero_cons (by simp),rfl,rfl,⟨.inl ⟨rfl,rfl⟩,fun h=>absurd rfl h⟩,⟨fun _=>rfl,fun _=>rfl⟩⟩
  · obtain ⟨A',c',hv,h2⟩:=id hD
    obtain ⟨rfl, -,rfl⟩:=Value.slice.inj hv
    have hpos:=List.length_pos_iff.2 hne
    obtain ⟨ad,rfl,hlt, -⟩:=h2 hpos
    have hl:=hR.len
    obtain ⟨O,hA,hO,hL⟩:=h.ex
    obtain ⟨B1,B2,root,s',h1,o1,h2',o2,h3,hI,hz,h0,hv,hwt⟩:=build_partsW (Inv.new n hn2) rfl hR hne rate hroom
    refine (build_calls rate hr1 hr2 ds ad cap hne hR.right W hD (fun hq=>hno ad rfl hpos O hA hO hL hq) hA B1 B2 h1 o1 h2' o2 root s' h3).mono ?_
    rintro e w' ⟨he,O',a,b⟩
    exact ⟨root,s',he,h.did (O':=O') ⟨O,hA,hO,hL,a,b⟩,hI,hwt,hz,hv,⟨fun e=>absurd e h0,fun e=>absurd e hne⟩⟩
end
section
open Go.RowKit
theorem halves_T {t : Tb} {H : List Int} (hI : Inv t.s H) (hH : H.length ≤ 980000) {a b : List Bool} (h16 : 16 ≤ a.length + b.length) (la : a.length ≤ 64) (lb : b.length ≤ 64) :
    Nw t (t.halves a b).2 (t.halves a b).1 H 3∧((t.halves a b).2.e=0→ ∃t',Rep (t.halves a b).2.s (t.halves a b).1 t'∧BitsT 16 t' (a++b)):=by
  have hlen:(a++b).length=a.length+b.length:=List.length_append
  have hnn: ∀x:List Bool,1≤x.length→x≠[]:=fun x hx e=>by rw [e] at hx;simp at hx
  unfold Tb.halves
  by_cases hf:(a.length:Int)+b.length≤64
  · rw [if_pos hf]
    obtain ⟨n1,s1⟩:=leaf_T (t:=t) (l:=a++b) (m:=16) hI (by omega) (hnn _ (by omega)) (by omega) (by omega)
    refine ⟨n1.mono (by omega),fun e=> ?_⟩
    obtain ⟨t',x,y, -⟩:=s1 e
    exact ⟨t',x,y⟩
  · rw [if_neg hf]
    have h1:((a++b).take ((a.length+b.length+1)/2)).length=(a.length+b.length+1)/2:=by rw [List.length_take,hlen];omega
    have h2:((a++b).drop ((a.length+b.length+1)/2)).length=a.length+b.length - (a.length+b.length+1)/2:=by rw [List.length_drop,hlen]
    obtain ⟨n1,s1⟩:=two_T (t:=t) (H:=H) (m:=16) (a:=(a++b).take ((a.length+b.length+1)/2)) (b:=(a++b).drop ((a.length+b.length+1)/2)) hI hH (hnn _ (by omega)) (hnn _ (by omega)) (by omega) (by omega) (by omega) (by omega)
    refine ⟨n1,fun e=> ?_⟩
    have:=s1 e
    rw [List.take_append_drop] at this
    exact this
theorem opened_nw {t : Tb} (he : t.e = 0) {x tag a b : Int} {t0 t1 t2 t3 : Tr} {H : List Int} (hI : Inv t.s (x :: H)) (hH : H.length ≤ 990000) (hr : Rep t.s x (.nd tag a b t0 t1 t2 t3)) :
    Nw t (t.opened x) (t.s.get x).k0 ((t.s.get x).k1::H) 0:=by
  obtain ⟨o1,o2,o3,o4, -, -⟩:=opened_T hI hH hr
  exact ⟨o1,o2,fun e=>absurd (o4.trans he) e,fun e=>absurd he e,by omega,fun _ e=>absurd (o4.trans he) e⟩
theorem pour_T {t : Tr} {l : List Bool} (hb : BitsT 16 t l) : ∀ {k : Nat} {u : Tb} {h small : Int} {H : List Int} {a : List Bool} (ahead : Bool), u.e = 0 → Inv u.s (h :: small :: H) → Rep u.s h t → Rep u.s small (.nd 1 (pack a) a.length .nil .nil .nil .nil) → a.length ≤ 64 → l.length + a.length ≤ 9900 → l.length ≤ k → H.length + l.length ≤ 970000 →
    ∃r,u.pourG k h small ahead=some r∧Nw u r.2 r.1 H (3*t.size)∧(r.2.e=0→ ∃t',Rep r.2.s r.1 t'∧BitsT 16 t' (if ahead then a++l else l++a)):=by
  induction hb with
  | @leaf l h1 h2 h3=>
    intro k u h small H a ahead hu hI hr hs ha hl hk hH
    have:=List.length_pos_iff.2 h1
    obtain ⟨k,rfl⟩: ∃j,k=j+1:=⟨k - 1,by omega⟩
    obtain ⟨ka,kb,kc,kd,hh,hg, -⟩:=hr.get
    obtain ⟨ja,jb,jc,jd,jh,jg, -⟩:=hs.get
    unfold Tb.pourG
    rw [hg,jg]
    dsimp only
    rw [if_pos rfl,(lfB_leaf h3 _ _ _ _).1,(lfB_leaf h3 _ _ _ _).2,(lfB_leaf ha _ _ _ _).1,(lfB_leaf ha _ _ _ _).2,if_pos ⟨rfl,rfl⟩]
    have n0:=drops_nw (t:=u) (l:=[h,small]) (H:=H) hI (by omega)
    cases ahead with
    | true=>
      rw [if_pos rfl,if_pos rfl]
      obtain ⟨n1,s1⟩:=halves_T (t:=u.drops [h,small]) (H:=H) (a:=a) (b:=l) (Inv.dropAll hI) (by omega) (by omega) ha h3
      refine ⟨_,rfl,?_,s1⟩
      refine ⟨n1.inv,n0.grow.trans n1.grow,n1.bad,fun e=>absurd hu e,by have:=n0.cost;have:=n1.cost;simp [Tr.size];omega,fun e e'=>⟨(n1.full hu e').1,?_⟩⟩
      have:=(n1.full hu e').2;have:=n0.cost;have:=n0.grow.size;simp [Tr.size];omega
    | false=>
      rw [if_neg (by decide),if_neg (by decide)]
      obtain ⟨n1,s1⟩:=halves_T (t:=u.drops [h,small]) (H:=H) (a:=l) (b:=a) (Inv.dropAll hI) (by omega) (by omega) h3 ha
      refine ⟨_,rfl,?_,s1⟩
      refine ⟨n1.inv,n0.grow.trans n1.grow,n1.bad,fun e=>absurd hu e,by have:=n0.cost;have:=n1.cost;simp [Tr.size];omega,fun e e'=>⟨(n1.full hu e').1,?_⟩⟩
      have:=(n1.full hu e').2;have:=n0.cost;have:=n0.grow.size;simp [Tr.size];omega
  | @fork t0 t1 l0 l1 b0 b1 i0 i1=>
    intro k u h small H a ahead hu hI hr hs ha hl hk hH
    have p0:=b0.pos;have p1:=b1.pos
    rw [List.length_append] at hl hk hH
    obtain ⟨k,rfl⟩: ∃j,k=j+1:=⟨k - 1,by omega⟩
    have nO:=opened_nw hu hI (by simp;omega) hr
    obtain ⟨o1,o2,o3,o4,o5,o6⟩:=opened_T hI (by simp;omega) hr
    obtain ⟨_,_,_,_,hh,hg, -⟩:=hr.get
    have htag: ¬(u.s.get h).tag=1:=by rw [hg];dsimp only;omega
    unfold Tb.pourG
    rw [if_neg htag]
    cases ahead with
    | true=>
      rw [if_pos rfl]
      obtain ⟨r,e1,n1,s1⟩:=i0 (k:=k) (u:=u.opened h) (h:=(u.s.get h).k0) (small:=small) (H:=(u.s.get h).k1::H) (a:=a) true (o4.trans hu) (o1.perm ((List.Perm.swap _ _ _).cons _)) o5 (hs.grow o2) ha (by omega) (by omega) (by simp;omega)
      rw [e1,Option.bind_some]
      obtain ⟨r',e2,n2,s2⟩:=fork_T (t:=r.2) (x:=r.1) (y:=(u.s.get h).k1) (H:=H) (m:=16) (l0:=a++l0) (l1:=l1) n1.inv (by omega) (by simp;omega) (fun e=>⟨s1 e,_,o6.grow n1.grow,b1⟩)
      refine ⟨r',e2,((nO.trans n1).trans n2).mono (by simp only [Tr.size];omega),fun e=> ?_⟩
      have:=s2 e
      rw [if_pos rfl,←List.append_assoc]
      exact this
    | false=>
      rw [if_neg (by decide)]
      obtain ⟨r,e1,n1,s1⟩:=i1 (k:=k) (u:=u.opened h) (h:=(u.s.get h).k1) (small:=small) (H:=(u.s.get h).k0::H) (a:=a) false (o4.trans hu) (o1.perm ((List.Perm.swap _ _ _).trans ((List.Perm.swap _ _ _).cons _))) o6 (hs.grow o2) ha (by omega) (by omega) (by simp;omega)
      rw [e1,Option.bind_some]
      obtain ⟨r',e2,n2,s2⟩:=fork_T (t:=r.2) (x:=(u.s.get h).k0) (y:=r.1) (H:=H) (m:=16) (l0:=l0) (l1:=l1++a) n1.inv.swap (by omega) (by simp;omega) (fun e=>⟨⟨_,o5.grow n1.grow,b0⟩,s1 e⟩)
      refine ⟨r',e2,((nO.trans n1).trans n2).mono (by simp only [Tr.size];omega),fun e=> ?_⟩
      have:=s2 e
      rw [if_neg (by decide),List.append_assoc]
      exact this
theorem small_T {s:Ar} {h:Int} {t:Tr} {l:List Bool} (hr:Rep s h t) (hb:BitsT 16 t l):Tb.small s h=false:=by
  unfold Tb.small
  cases hb with
  | leaf h1 h2 h3=>
    obtain ⟨_,_,_,_,hh,hg, -⟩:=hr.get
    rw [hg]
    simp only [decide_eq_false (show¬(((l.length:Nat):Int)<16) by omega),Bool.and_false]
  | fork h1 h2=>
    obtain ⟨_,_,_,_,hh,hg, -⟩:=hr.get
    rw [hg]
    simp
theorem bothL_T {t : Tb} {x y : Int} {H : List Int} (hI : Inv t.s (x :: y :: H)) (hH : H.length ≤ 960000) {t0 : Tr} {l0 l1 : List Bool} (hl : (l0 ++ l1).length ≤ 9900) (r0 : Rep t.s x t0) (q0 : BitsT 16 t0 l0) (h : t.e = 0 → ∃ t1, Rep t.s y t1 ∧ BitsR t1 l1) :
    ∃r,t.bothG x y=some r∧Nw t r.2 r.1 H (3*t0.size)∧(r.2.e=0→ ∃t',Rep r.2.s r.1 t'∧BitsT 16 t' (l0++l1)):=by
  have hsz:=q0.nd
  unfold Tb.bothG
  by_cases he:t.e=0
  rotate_left
  · rw [if_neg he]
    exact ⟨_,rfl,(drops_nw (l:=[x,y]) hI (by omega)).mono (by omega),fun h'=>absurd h' he⟩
  rw [if_pos he]
  obtain ⟨t1,r1,q1⟩:=h he
  have x0:=r0.ne_of q0
  rw [if_neg x0]
  rw [List.length_append] at hl
  rcases q1 with ⟨rfl,rfl⟩|⟨q1,hsz1⟩|q1
  · obtain rfl:=r1.zero
    rw [if_pos rfl]
    exact ⟨_,rfl,⟨hI.swap.tail_zero,Grow.refl _,fun e=>absurd he e,fun _=>rfl,Nat.le_add_right _ _,fun _ e=>absurd he e⟩,fun _=>⟨t0,r0,by rw [List.append_nil];exact q0⟩⟩
  · have y0:=r1.ne_of q1
    have c1:t.s.cnt y≠0:=hI.pos (by simp) y0
    rw [if_neg y0,small_T r0 q0,if_neg (by decide)]
    cases q1 with
    | leaf h1 h2 h3=>
      have hb:=bIs_nd hI r1 (.leaf h1 h2 h3) c1
      have hg:=r1.get
      obtain ⟨_,_,_,_,hh,hg, -⟩:=hg
      have hsm:Tb.small t.s y=decide (((l1.length:Nat):Int)<16):=by
        unfold Tb.small
        rw [hb,hg]
        simp
      rw [hsm]
      by_cases h16:((l1.length:Nat):Int)<16
      · rw [decide_eq_true h16,if_pos rfl]
        obtain ⟨r,e1,n1,s1⟩:=pour_T q0 (k:=rounds) (u:=t) (h:=x) (small:=y) (H:=H) (a:=l1) false he hI r0 r1 h3 (by omega) (by unfold rounds;omega) (by omega)
        refine ⟨r,e1,n1,fun e=> ?_⟩
        have:=s1 e
        rw [if_neg (by decide)] at this
        exact this
      · rw [decide_eq_false h16,if_neg (by decide)]
        obtain ⟨r,e1,n1,s1⟩:=fork_T (t:=t) (x:=x) (y:=y) (H:=H) (m:=16) (l0:=l0) (l1:=l1) hI (by omega) (by rw [List.length_append];omega) (fun _=>⟨⟨_,r0,q0⟩,_,r1, .leaf h1 (by omega) h3⟩)
        exact ⟨r,e1,n1.mono (by omega),s1⟩
    | fork h1 h2=>have:=h1.nd;simp [Tr.size] at hsz1;have:=h2.nd;omega
  · have y0:=r1.ne_of q1
    rw [if_neg y0,small_T r0 q0,if_neg (by decide),small_T r1 q1,if_neg (by decide)]
    obtain ⟨r,e1,n1,s1⟩:=fork_T (t:=t) (x:=x) (y:=y) (H:=H) (m:=16) (l0:=l0) (l1:=l1) hI (by omega) (by rw [List.length_append];omega) (fun _=>⟨⟨_,r0,q0⟩,_,r1,q1⟩)
    exact ⟨r,e1,n1.mono (by omega),s1⟩
theorem bothR_T {t : Tb} {x y : Int} {H : List Int} (hI : Inv t.s (x :: y :: H)) (hH : H.length ≤ 960000) {t1 : Tr} {l0 l1 : List Bool} (hl : (l0 ++ l1).length ≤ 9900) (r1 : Rep t.s y t1) (q1 : BitsT 16 t1 l1) (h : t.e = 0 → ∃ t0, Rep t.s x t0 ∧ BitsR t0 l0) :
    ∃r,t.bothG x y=some r∧Nw t r.2 r.1 H (3*t1.size)∧(r.2.e=0→ ∃t',Rep r.2.s r.1 t'∧BitsT 16 t' (l0++l1)):=by
  have hsz:=q1.nd
  unfold Tb.bothG
  by_cases he:t.e=0
  rotate_left
  · rw [if_neg he]
    exact ⟨_,rfl,(drops_nw (l:=[x,y]) hI (by omega)).mono (by omega),fun h'=>absurd h' he⟩
  rw [if_pos he]
  obtain ⟨t0,r0,q0⟩:=h he
  have y0:=r1.ne_of q1
  rw [List.length_append] at hl
  rcases q0 with ⟨rfl,rfl⟩|⟨q0,hsz0⟩|q0
  · obtain rfl:=r0.zero
    rw [if_pos rfl]
    exact ⟨_,rfl,⟨hI.tail_zero,Grow.refl _,fun e=>absurd he e,fun _=>rfl,Nat.le_add_right _ _,fun _ e=>absurd he e⟩,fun _=>⟨t1,r1,by rw [List.nil_append];exact q1⟩⟩
  · have x0:=r0.ne_of q0
    have c0:t.s.cnt x≠0:=hI.pos (by simp) x0
    rw [if_neg x0,if_neg y0]
    cases q0 with
    | leaf h1 h2 h3=>
      have hb:=bIs_nd hI r0 (.leaf h1 h2 h3) c0
      have hg:=r0.get
      obtain ⟨_,_,_,_,hh,hg, -⟩:=hg
      have hsm:Tb.small t.s x=decide (((l0.length:Nat):Int)<16):=by
        unfold Tb.small
        rw [hb,hg]
        simp
      rw [hsm]
      by_cases h16:((l0.length:Nat):Int)<16
      · rw [decide_eq_true h16,if_pos rfl]
        obtain ⟨r,e1,n1,s1⟩:=pour_T q1 (k:=rounds) (u:=t) (h:=y) (small:=x) (H:=H) (a:=l0) true he hI.swap r1 r0 h3 (by omega) (by unfold rounds;omega) (by omega)
        refine ⟨r,e1,n1,fun e=> ?_⟩
        have:=s1 e
        rw [if_pos rfl] at this
        exact this
      · rw [decide_eq_false h16,if_neg (by decide),small_T r1 q1,if_neg (by decide)]
        obtain ⟨r,e1,n1,s1⟩:=fork_T (t:=t) (x:=x) (y:=y) (H:=H) (m:=16) (l0:=l0) (l1:=l1) hI (by omega) (by rw [List.length_append];omega) (fun _=>⟨⟨_,r0, .leaf h1 (by omega) h3⟩,_,r1,q1⟩)
        exact ⟨r,e1,n1.mono (by omega),s1⟩
    | fork h1 h2=>have:=h1.nd;simp [Tr.size] at hsz0;have:=h2.nd;omega
  · have x0:=r0.ne_of q0
    rw [if_neg x0,if_neg y0,small_T r0 q0,if_neg (by decide),small_T r1 q1,if_neg (by decide)]
    obtain ⟨r,e1,n1,s1⟩:=fork_T (t:=t) (x:=x) (y:=y) (H:=H) (m:=16) (l0:=l0) (l1:=l1) hI (by omega) (by rw [List.length_append];omega) (fun _=>⟨⟨_,r0,q0⟩,_,r1,q1⟩)
    exact ⟨r,e1,n1.mono (by omega),s1⟩
theorem delR_in {l:List Bool} {i:Int} (h0:0≤i) (hi:i<l.length):delR true l i=l.eraseIdx i.toNat:=by
  unfold delR delOk
  rw [decide_eq_true h0,decide_eq_true hi]
  rfl
theorem eraseL_length (l:List Bool) (i:Nat) (h:i<l.length):(l.eraseIdx i).length=l.length - 1:=by
  rw [List.length_eraseIdx];simp [h]
theorem cut_leaf {s : Ar} {H : List Int} (hI : Inv s H) (hH : H.length ≤ 980000) {h : Int} {l : List Bool} (hr : Rep s h (.nd 1 (pack l) l.length .nil .nil .nil .nil)) (h64 : l.length ≤ 64)
    (k:Nat) (i:Int) (h0:0≤i) (hi:i<l.length):
    ∃r,Tb.cutG (k+1) ⟨s,0⟩ h i=some r∧Nw ⟨s,0⟩ r.2 r.1 H 1∧(r.2.e=0→ ∃t',Rep r.2.s r.1 t'∧BitsR t' (l.eraseIdx i.toNat)):=by
  obtain ⟨ka,kb,kc,kd,hh,hg, -⟩:=hr.get
  obtain ⟨lb,lk⟩:=lfB_leaf h64 ka kb kc kd
  unfold Tb.cutG
  dsimp only
  rw [hg]
  dsimp only
  rw [if_pos rfl,lb,lk,delR_in h0 hi]
  have hlen:=eraseL_length l i.toNat (by omega)
  by_cases hn:l.eraseIdx i.toNat=[]
  · rw [if_pos hn,hn]
    exact ⟨_,rfl,⟨hI.zero_cons (by omega),Grow.refl _,fun _=>rfl,fun _=>rfl,Nat.le_add_right _ _,fun _ e=>absurd rfl e⟩,fun _=>⟨.nil, .nil, .inl ⟨rfl,rfl⟩⟩⟩
  · rw [if_neg hn]
    have:=List.length_pos_iff.2 hn
    obtain ⟨n1,s1⟩:=leaf_T (t:=⟨s,0⟩) (H:=H) (m:=1) (l:=l.eraseIdx i.toNat) hI (by omega) hn (by omega) (by omega)
    refine ⟨_,rfl,n1,fun e=> ?_⟩
    obtain ⟨t',a,b,c⟩:=s1 e
    exact ⟨t',a, .inr (.inl ⟨b,c⟩)⟩
theorem cut_T {t : Tr} {l : List Bool} (hb : BitsT 16 t l) : ∀ {k : Nat} {s : Ar} {H : List Int} {h i : Int}, Inv s H → Rep s h t → s.cnt h ≠ 0 → l.length ≤ 9000 → l.length ≤ k → H.length + l.length ≤ 950000 → 0 ≤ i → i < l.length →
    ∃r,Tb.cutG k ⟨s,0⟩ h i=some r∧Nw ⟨s,0⟩ r.2 r.1 H (3*t.size)∧(r.2.e=0→ ∃t',Rep r.2.s r.1 t'∧BitsR t' (l.eraseIdx i.toNat)):=by
  induction hb with
  | @leaf l h1 h2 h3=>
    intro k s H h i hI hr hc hl hk hH h0 hi
    obtain ⟨k,rfl⟩: ∃j,k=j+1:=⟨k - 1,by omega⟩
    obtain ⟨r,a,b,c⟩:=cut_leaf hI (by omega) hr h3 k i h0 hi
    exact ⟨r,a,b.mono (by simp [Tr.size]),c⟩
  | @fork t0 t1 l0 l1 b0 b1 i0 i1=>
    intro k s H h i hI hr hc hl hk hH h0 hi
    have p0:=b0.pos;have p1:=b1.pos
    rw [List.length_append] at hl hk hi hH
    obtain ⟨k,rfl⟩: ∃j,k=j+1:=⟨k - 1,by omega⟩
    obtain ⟨x,y,_,_,hh,hg,r0,r1, -⟩:=hr.get
    obtain ⟨c0,c1, -⟩:=hI.kids_of hh hg
    have x0:=r0.ne_of b0;have y0:=r1.ne_of b1
    unfold Tb.cutG
    dsimp only
    rw [hg]
    dsimp only
    rw [if_neg (by omega),bLen_T hI r0 b0 (c0 x0) (by omega)]
    by_cases hlow:(l0.length:Int)≤i
    · rw [if_pos hlow,w64 (by omega) (by omega)]
      show∃r,((Tb.cutG k ⟨s.keep x,0⟩ y (i - l0.length)).bind fun r=>r.2.bothG x r.1)=some r∧_
      have g1:=Grow.keep s x
      have j1:=hI.keep (by omega) (c0 x0)
      have c1':=(j1.kids_of (g1.has hh).1 ((g1.has hh).2.trans hg)).2.1 y0
      obtain ⟨r,a,b,c⟩:=i1 (k:=k) (i:=i - l0.length) j1 (r1.grow g1) c1' (by omega) (by omega) (by simp;omega) (by omega) (by omega)
      rw [a,Option.bind_some]
      have hlen:=eraseL_length l1 (i - (l0.length:Int)).toNat (by omega)
      obtain ⟨r',a',b',c'⟩:=bothL_T (t:=r.2) (x:=x) (y:=r.1) (H:=H) (l0:=l0) (l1:=l1.eraseIdx (i - l0.length).toNat) b.inv.swap (by omega) (by rw [List.length_append];omega) ((r0.grow g1).grow b.grow) b0 c
      refine ⟨r',a',(b.keepL.trans b').mono (by simp only [Tr.size];omega),fun e=> ?_⟩
      rw [List.eraseIdx_append_of_length_le (by omega),show i.toNat - l0.length=(i - (l0.length:Int)).toNat by omega]
      obtain ⟨t',z1,z2⟩:=c' e
      exact ⟨t',z1, .inr (.inr z2)⟩
    · rw [if_neg hlow]
      obtain ⟨r,a,b,c⟩:=i0 (k:=k) hI r0 (c0 x0) (by omega) (by omega) (by omega) h0 (by omega)
      rw [a,Option.bind_some]
      have hlen:=eraseL_length l0 i.toNat (by omega)
      have hk1:=b.inv.kids_of (b.grow.has hh).1 ((b.grow.has hh).2.trans hg)
      have b1':=b.keepR (x:=y) (by omega) hk1.2.1
      obtain ⟨r',a',b',c'⟩:=bothR_T (t:=r.2.keep y) (x:=r.1) (y:=y) (H:=H) (l0:=l0.eraseIdx i.toNat) (l1:=l1) b1'.inv (by omega) (by rw [List.length_append];omega) ((r1.grow b.grow).grow (Grow.keep _ _)) b1 (fun e=>by
        obtain ⟨t',z1,z2⟩:=c e
        exact ⟨t',z1.grow (Grow.keep _ _),z2⟩)
      refine ⟨r',a',(b1'.trans b').mono (by simp only [Tr.size];omega),fun e=> ?_⟩
      rw [List.eraseIdx_append_of_lt_length (by omega)]
      obtain ⟨t',z1,z2⟩:=c' e
      exact ⟨t',z1, .inr (.inr z2)⟩
theorem bDelG_R {s : Ar} {H : List Int} (hI : Inv s H) (hH : H.length ≤ 900000) {h : Int} {l : List Bool} (hb : BR s h l) (i : Int) (h0 : 0 ≤ i) (hi : i < l.length) :
    ∃r,bDelG s h i=some r∧Rs s r H (l.length+3) fun t=>BitsR t (l.eraseIdx i.toNat):=by
  have hs:=hb.short
  unfold bDelG
  rw [hb.len hI,if_neg (by omega)]
  obtain ⟨t,hr,hR⟩:=hb.ex
  rcases hR with ⟨rfl,rfl⟩|⟨hR,hsz⟩|hR
  · simp at hi;omega
  · cases hR with
    | leaf h1 h2 h3=>
      obtain ⟨r,a,b,c⟩:=cut_leaf hI (by omega) hr h3 9999 i h0 hi
      rw [show rounds=9999+1 from rfl,a]
      exact ⟨_,rfl,(told_rs b c).mono (by omega)⟩
    | fork h1 h2=>
      have:=h1.nd;simp [Tr.size] at hsz;have:=h2.nd;omega
  · obtain ⟨r,a,b,c⟩:=cut_T hR (k:=rounds) hI hr (hb.live (hr.ne_of hR)) (by omega) (by unfold rounds;omega) (by omega) h0 hi
    rw [a]
    have:=hR.size
    exact ⟨_,rfl,(told_rs b c).mono (by omega)⟩
end
section
open Go.RowKit
theorem era_parts {α:Type} {l:List α} {i:Nat} {y:α} (hy:l[i]? =some y):l=l.take i++y::l.drop (i+1)∧l.eraseIdx i=l.take i++l.drop (i+1):=by
  obtain ⟨h1,h2⟩:=List.getElem?_eq_some_iff.1 hy
  refine ⟨?_,List.eraseIdx_eq_take_drop_succ l i⟩
  have:=List.take_append_drop i l
  rw [List.drop_eq_getElem_cons h1,h2] at this
  exact this.symm
theorem era_map {α β:Type} (f:α→β) (l:List α) (i:Nat):(l.eraseIdx i).map f=(l.map f).eraseIdx i:=by
  rw [List.eraseIdx_eq_take_drop_succ,List.eraseIdx_eq_take_drop_succ,List.map_append,List.map_take,List.map_drop]
theorem era_filter_in {α:Type} (p:α→Bool) {l:List α} {i:Nat} {y:α} (hy:l[i]? =some y) (hp:p y=true):(l.eraseIdx i).filter p=(l.filter p).eraseIdx ((l.take i).filter p).length:=by
  obtain ⟨h1,h2⟩:=era_parts hy
  have h3:l.filter p=(l.take i).filter p++y::(l.drop (i+1)).filter p:=by
    conv=>lhs;rw [h1]
    rw [List.filter_append,List.filter_cons_of_pos hp]
  rw [h2,h3,List.filter_append,List.eraseIdx_append_of_length_le (Nat.le_refl _),Nat.sub_self];rfl
theorem era_filter_out {α:Type} (p:α→Bool) {l:List α} {i:Nat} {y:α} (hy:l[i]? =some y) (hp:p y=false):(l.eraseIdx i).filter p=l.filter p:=by
  obtain ⟨h1,h2⟩:=era_parts hy
  have h3:l.filter p=(l.take i).filter p++(l.drop (i+1)).filter p:=by
    conv=>lhs;rw [h1]
    rw [List.filter_append,List.filter_cons_of_neg (by rw [hp];decide)]
  rw [h2,h3,List.filter_append]
theorem era_len {α:Type} (l:List α) (i:Nat) (h:i<l.length):(l.eraseIdx i).length=l.length - 1:=by
  rw [List.length_eraseIdx];simp [h]
theorem wCutG_T : ∀ {d : Nat} {s : Ar} {H : List Int} {h : Int} {l : List Int} {i : Int}, Inv s H → H.length + d ≤ 800000 → WR s d h l → d ≤ 9 → 0 ≤ i → i < l.length →
    ∃r,wCutG d s h i=some r∧Rs s r H (d*(l.length+4)) fun t=>WaveT d t (l.eraseIdx i.toNat)
  | 0,s,H,h,l,i,hI,hH,hw,hd,h0,hi=>⟨_,rfl,hI.zero_cons (by omega),Grow.refl s,Nat.le_add_right _ _, .inl ⟨rfl, .nil, .nil, .none⟩⟩
  | d+1,s,H,h,l,i,hI,hH,hw,hd,h0,hi=>by
    obtain ⟨hb,hk⟩:=hw.kids hI
    have hhas:h≠0→s.has h=true:=by obtain ⟨t,hr, -⟩:=hw.ex;exact hr.has
    have hs:=hw.short
    obtain ⟨x,hy⟩: ∃y,l[i.toNat]? =some y:=⟨_,List.getElem?_eq_getElem (by omega)⟩
    have hFl:=F_le d (bitD d x) l
    have hat:(F d (bitD d x) l)[(F d (bitD d x) (l.take i.toNat)).length]? =some x:=filter_at _ l i.toNat x hy (by simp)
    obtain ⟨hFi, -⟩:=List.getElem?_eq_some_iff.1 hat
    have hgb:(l.map (bitD d)).getD i.toNat false=bitD d x:=by rw [List.getD_eq_getElem?_getD,List.getElem?_map,hy];rfl
    unfold wCutG
    rw [hb.get hI,if_neg (by rw [List.length_map];omega),Option.bind_some,hgb]
    dsimp only
    rw [alike_F hI hb i _ h0 (by omega),Option.bind_some]
    obtain ⟨u,hu,hU⟩:=wCutG_T (d:=d) (h:=(s.get h).kid (bitD d x)) (i:=(((F d (bitD d x) (l.take i.toNat)).length:Nat):Int)) hI (by omega) (hk _) (by omega) (by omega) (by omega)
    rw [hu,Option.bind_some]
    have hc1:d*((F d (bitD d x) l).length+4)≤d*(l.length+4):=Nat.mul_le_mul_left d (by omega)
    have hc2:(d+1)*(l.length+4)=d*(l.length+4)+(l.length+4):=by rw [Nat.add_mul,Nat.one_mul]
    rw [hc2]
    generalize (d+1)*(l.length+4)=C2 at hc2
    generalize d*(l.length+4)=C1 at hc1 hc2⊢
    rcases hU.res with ⟨u0,t',hr',ht'⟩|⟨u0,u1,u2⟩
    · rw [if_pos u0]
      rw [Int.toNat_natCast] at ht'
      have ho: ∀{s':Ar} {H':List Int},Inv s' H'→Grow s s'→(s.get h).kid (!bitD d x)≠0→s'.cnt ((s.get h).kid (!bitD d x))≠0:=fun hI' hg'=>node_live hI' hg' hhas (by
        unfold Nd.kid;cases bitD d x
        · exact kid_mem.2.2.1
        · exact kid_mem.2.1)
      have j1:=hU.inv.keep' (k:=(s.get h).kid (!bitD d x)) (by simp;omega) (ho hU.inv hU.grow)
      have g1:=hU.grow.trans (Grow.keep u.2.2 ((s.get h).kid (!bitD d x)))
      have hb':=hb.grow g1 (node_live j1 g1 hhas kid_mem.1)
      obtain ⟨r,hr,hR⟩:=bDelG_R j1 (by simp;omega) hb' i h0 (by simpa using hi)
      rw [hr,Option.bind_some]
      have hlen:=era_len l i.toNat (by omega)
      have hRc:=hR.cost
      rw [List.length_map,busyN_keep] at hRc
      have hUc:=hU.cost
      obtain ⟨to,ho1,ho2⟩:=(hk (!bitD d x)).ex
      have eqn:(⟨3,r.1,if bitD d x=true then (s.get h).k1 else u.1,if bitD d x=true then u.1 else (s.get h).k2,0,0,0⟩:Nd)=⟨3,r.1,if bitD d x=true then (s.get h).kid (!bitD d x) else u.1,if bitD d x=true then u.1 else (s.get h).kid (!bitD d x),0,0,0⟩:=by
        cases bitD d x<;>rfl
      rw [eqn]
      have hperm:Inv r.2.2 ((⟨3,r.1,if bitD d x=true then (s.get h).kid (!bitD d x) else u.1,if bitD d x=true then u.1 else (s.get h).kid (!bitD d x),0,0,0⟩:Nd).kids++H):=by
        have h0:=hR.inv.zero_cons (by simp;omega)
        refine h0.perm ?_
        cases bitD d x
        · exact (List.Perm.swap _ _ _).trans (List.Perm.cons _ ((List.Perm.swap _ _ _).trans (((List.Perm.swap _ _ _).trans (List.Perm.cons _ (List.Perm.swap _ _ _)))|>.trans (List.Perm.swap _ _ _)|>.trans (List.Perm.cons _ (List.Perm.swap _ _ _)))))
        · exact (List.Perm.swap _ _ _).trans (List.Perm.cons _ ((List.Perm.swap _ _ _).trans (List.Perm.cons _ (List.Perm.swap _ _ _))))
      rcases hR.res with ⟨r0,tb,hrb,htb⟩|⟨r0,r1,r2⟩
      · rw [r0]
        rw [←era_map] at htb
        by_cases hrne:r.1=0
        ·
          have hnil:l.eraseIdx i.toNat=[]:=by
            by_cases e:l.eraseIdx i.toNat=[]
            · exact e
            · exact absurd hrne (htb.ne (by intro e';exact e (List.map_eq_nil_iff.1 e')) hrb)
          have hmade: ∀k1 k2:Int,wMade r.2.2 ⟨3,r.1,k1,k2,0,0,0⟩ 0=(0,0,r.2.2.dropAll (⟨3,r.1,k1,k2,0,0,0⟩:Nd).kids):=fun k1 k2=>by
            unfold wMade
            rw [if_neg (fun h=>h.2 hrne)]
          rw [hmade]
          refine ⟨_,rfl,(Inv.dropAll hperm).zero_cons (by omega),(g1.trans hR.grow).trans (Grow.dropAll _ _),by show (r.2.2.dropAll _).busyN≤_;rw [busyN_dropAll];omega, .inl ⟨rfl, .nil, .nil,?_⟩⟩
          rw [hnil];exact .nil
        · have hm := made_rs (P := fun t => WaveT (d + 1) t (l.eraseIdx i.toNat)) hperm (by omega) hrne ⟨by dsimp only; omega, by dsimp only; omega⟩ U64.zero (fun s' h' g' a b => by
            have gu:Grow u.2.2 s':=((Grow.keep _ _).trans hR.grow).trans g'
            have go:Grow s s':=(g1.trans hR.grow).trans g'
            have hne:l.eraseIdx i.toNat≠[]:=by
              intro e
              rw [e] at htb
              rcases htb.cases with ⟨rfl, -⟩|htb
              · exact hrne hrb.zero
              · exact htb.ne rfl
            have hin:F d (bitD d x) (l.eraseIdx i.toNat)=(F d (bitD d x) l).eraseIdx (F d (bitD d x) (l.take i.toNat)).length:=era_filter_in _ hy (by simp)
            have hout:F d (!bitD d x) (l.eraseIdx i.toNat)=F d (!bitD d x) l:=era_filter_out _ hy (by simp)
            rw [←hin] at ht'
            rw [←hout] at ho2
            cases hbx:bitD d x with
            | false=>
              rw [hbx] at b ht' ho2 ho1
              exact ⟨_, .nd a b (hrb.grow g') (hr'.grow gu) (ho1.grow go) .nil, .node hne htb ht' ho2⟩
            | true=>
              rw [hbx] at b ht' ho2 ho1
              exact ⟨_, .nd a b (hrb.grow g') (ho1.grow go) (hr'.grow gu) .nil, .node hne htb ho2 ht'⟩)
          have hmc:=hm.cost
          refine ⟨_,rfl,hm.inv,(g1.trans hR.grow).trans hm.grow,by omega,hm.res.imp id fun q=>⟨q.1,q.2.1,?_⟩⟩
          have:=q.2.2
          have:=hU.grow.size
          have:=hR.grow.size
          have:=Ar.keep_size u.2.2 ((s.get h).kid (!bitD d x))
          omega
      · rw [wMade_bad (show r.2.1≠0 by omega)]
        refine ⟨_,rfl,(Inv.dropAll hperm).zero_cons (by omega),(g1.trans hR.grow).trans (Grow.dropAll _ _),by show (r.2.2.dropAll _).busyN≤_;rw [busyN_dropAll];omega, .inr ⟨r0,rfl,?_⟩⟩
        have:=hU.grow.size
        rw [Ar.keep_size,busyN_keep,List.length_map] at r2
        omega
    · rw [if_neg (by omega)]
      refine ⟨_,rfl,?_,hU.grow,by have:=hU.cost;show u.2.2.busyN≤_;omega, .inr ⟨u0,rfl,by omega⟩⟩
      have:=hU.inv
      rw [u1] at this;exact this
theorem wDelG_R {s : Ar} {H : List Int} (hI : Inv s H) (hH : H.length ≤ 700000) {h : Int} {l : List Int} (hw : WR s 9 h l) (i : Int) (h0 : 0 ≤ i) (hi : i < l.length) :
    ∃r,wDelG s h i=some r∧Rs s r H (9*(l.length+4)) fun t=>WaveT 9 t (l.eraseIdx i.toNat):=by
  unfold wDelG
  rw [hw.len hI,if_neg (by omega)]
  exact wCutG_T hI (by omega) hw (by omega) h0 hi
end
section
open Go.RowKit
theorem placeIn_at: ∀(l:List (Int×Int)) (i:Int) {k:Nat} {x:Int×Int},(l.map (·.1)).Nodup→l[k]? =some x→placeIn x.1 l i=(i+k,true)
  | [],_,k,x,_,h=>by simp at h
  | y::l,i,0,x,hn,h=>by
    simp at h;subst h
    unfold placeIn;rw [if_pos rfl];simp
  | y::l,i,k+1,x,hn,h=>by
    rw [List.map_cons,List.nodup_cons] at hn
    rw [List.getElem?_cons_succ] at h
    have hne: ¬y.1=x.1:=fun e=>hn.1 (by
      rw [e]
      obtain ⟨h1,h2⟩:=List.getElem?_eq_some_iff.1 h
      exact List.mem_map.2 ⟨x,h2▸List.getElem_mem h1,rfl⟩)
    unfold placeIn
    rw [if_neg hne,placeIn_at l (i+1) hn.2 h]
    congr 1;omega
theorem tCut_R {s : Ar} {H : List Int} (hI : Inv s H) (hH : H.length ≤ 900000) {h : Int} {l : List (Int × Int)} (hb : LR s h l) (hn : (l.map (·.1)).Nodup) {k : Nat} {x : Int × Int} (hx : l[k]? = some x) :
    ∃r,tCut s h x.1=some r∧Rs s r H (3*l.length) fun t=>ListR t (l.eraseIdx k):=by
  obtain ⟨h1, -⟩:=List.getElem?_eq_some_iff.1 hx
  unfold tCut tPlace
  rw [hb.all hI,Option.map_some,Option.bind_some,placeIn_at l 0 hn hx,if_pos rfl]
  have h2:=lDelete_R hI hH hb (0+(k:Int)) (by omega) (by omega)
  rw [show (0+(k:Int)).toNat=k by omega] at h2
  exact h2
end
section
open Go.RowKit
def notOf (id:Int) (x:Int×Int×Int):Bool:= !decide (x.1=id)
def cutX (id:Int) (m:Nat) (X:List (Int×Int×Int)):List (Int×Int×Int):=X.take m++(X.drop m).filter (notOf id)
def posX (id:Int) (m:Nat) (X:List (Int×Int×Int)):List Nat:=(List.range m).filter fun i=>decide ((X.getD i (0,0,0)).1=id)
theorem cutX_succ {id:Int} {m:Nat} {X:List (Int×Int×Int)} {y:Int×Int×Int} (hy:X[m]? =some y) (hn:y.1≠id):cutX id (m+1) X=cutX id m X:=by
  obtain ⟨h1,h2⟩:=List.getElem?_eq_some_iff.1 hy
  unfold cutX
  rw [List.drop_eq_getElem_cons h1,h2,List.filter_cons_of_pos (by simp [notOf,hn]),List.take_add_one,hy]
  simp
theorem cutX_at {id:Int} {m:Nat} {X:List (Int×Int×Int)} {y:Int×Int×Int} (hy:X[m]? =some y) (hn:y.1=id):(cutX id (m+1) X)[m]? =some y∧(cutX id (m+1) X).eraseIdx m=cutX id m X∧(cutX id (m+1) X).take m=X.take m:=by
  obtain ⟨h1,h2⟩:=List.getElem?_eq_some_iff.1 hy
  have hl:(X.take m).length=m:=by rw [List.length_take];omega
  have e1:cutX id (m+1) X=X.take m++y::(X.drop (m+1)).filter (notOf id):=by
    unfold cutX
    rw [List.take_add_one,hy];simp
  refine ⟨?_,?_,?_⟩
  · rw [e1,List.getElem?_append_right (by omega),hl,Nat.sub_self];rfl
  · rw [e1,List.eraseIdx_append_of_length_le (by omega),hl,Nat.sub_self]
    unfold cutX
    rw [List.drop_eq_getElem_cons h1,h2,List.filter_cons_of_neg (by simp [notOf,hn])];rfl
  · rw [e1,List.take_append_of_le_length (by omega),List.take_take,Nat.min_self]
theorem cutX_zero (id:Int) (X:List (Int×Int×Int)):cutX id 0 X=X.filter (notOf id):=by unfold cutX;simp
theorem cutX_all (id:Int) (X:List (Int×Int×Int)):cutX id X.length X=X:=by unfold cutX;simp
theorem posX_succ {id:Int} {m:Nat} {X:List (Int×Int×Int)} {y:Int×Int×Int} (hy:X[m]? =some y):posX id (m+1) X=posX id m X++(if y.1=id then [m] else []):=by
  unfold posX
  rw [List.range_succ,List.filter_append]
  have:X.getD m (0,0,0)=y:=by rw [List.getD_eq_getElem?_getD,hy];rfl
  rw [List.filter_cons,this]
  by_cases h:y.1=id<;>simp [h]
theorem posX_last (id : Int) (X : List (Int × Int × Int)) : ∀ m, m ≤ X.length → posX id m X = [] ∧ cutX id m X = cutX id 0 X ∨
    ∃r y,X[r]? =some y∧y.1=id∧r<m∧posX id m X=posX id r X++[r]∧cutX id m X=cutX id (r+1) X
  | 0,_=> .inl ⟨rfl,rfl⟩
  | m+1,h=>by
    obtain ⟨y,hy⟩: ∃y,X[m]? =some y:=⟨_,List.getElem?_eq_getElem (by omega)⟩
    have hp:=posX_succ (id:=id) hy
    by_cases e:y.1=id
    · rw [if_pos e] at hp
      exact .inr ⟨m,y,hy,e,by omega,hp,rfl⟩
    · rw [if_neg e,List.append_nil] at hp
      rw [hp,cutX_succ hy e]
      rcases posX_last id X m (by omega) with h|⟨r,z,a,b,c,d,f⟩
      · exact .inl h
      · exact .inr ⟨r,z,a,b,by omega,d,f⟩
theorem rowW_era (X:List (Int×Int×Int)) (i:Nat):rowW (X.eraseIdx i)=(rowW X).eraseIdx i:=era_map _ _ _
theorem rowM_era (rate:Int) (X:List (Int×Int×Int)) (i:Nat):rowM rate (X.eraseIdx i)=(rowM rate X).eraseIdx i:=era_map _ _ _
theorem rowS_in {rate:Int} {X:List (Int×Int×Int)} {i:Nat} {y:Int×Int×Int} (hy:X[i]? =some y) (hm:mkd rate y=true):rowS rate (X.eraseIdx i)=(rowS rate X).eraseIdx ((X.take i).filter (mkd rate)).length:=by
  unfold rowS
  rw [era_filter_in _ hy hm,era_map]
theorem rowS_out {rate:Int} {X:List (Int×Int×Int)} {i:Nat} {y:Int×Int×Int} (hy:X[i]? =some y) (hm:mkd rate y=false):rowS rate (X.eraseIdx i)=rowS rate X:=by
  unfold rowS
  rw [era_filter_out _ hy hm]
theorem rowM_rank (rate:Int) (X:List (Int×Int×Int)) (i:Nat):((rowM rate X).take i).count true=((X.take i).filter (mkd rate)).length:=by
  unfold rowM
  rw [←List.map_take,List.count,List.countP_map,List.countP_eq_length_filter]
  congr 1
  exact List.filter_congr fun x _=>by simp
end
section
open Go.RowKit
variable {s : Ar} {H : List Int} {h : Int} {ds : Docs} {rate : Int}
def rowAt (ds:Docs) (d a:Nat):Nat:=below (txt ds) (d,a) (all (txt ds))
theorem row_place {i:Nat} {r:Nat×Nat} (hR:Right ds) (hi:(refSorted (txt ds))[i]? =some r):rowAt ds r.1 r.2=i:=by
  rw [right_all hR] at hi
  exact srt_idx (all_srt _) hi
theorem row_there {d a:Nat} {t:List UInt8} (hR:Right ds) (ht:(txt ds)[d]? =some t) (ha:a≤t.length):(refSorted (txt ds))[rowAt ds d a]? =some (d,a):=by
  rw [right_all hR]
  exact srt_at (all_srt _) (all_mem ht ha)
theorem row_lt {d a:Nat} {t:List UInt8} (hR:Right ds) (ht:(txt ds)[d]? =some t) (ha:a≤t.length):rowAt ds d a<(refSorted (txt ds)).length:=
  (List.getElem?_eq_some_iff.1 (row_there hR ht ha)).1
theorem vnext_step (hI:Inv s H) (hv:VR s h ds rate) (hR:Right ds) {d a:Nat} {t:List UInt8} (ht:(txt ds)[d]? =some t) (ha:a<t.length):vNext s h ((rowAt ds d (a+1):Nat):Int)=some (((rowAt ds d a:Nat):Int),true):=by
  rw [hv.next hI (by have:=hR.len;omega)]
  exact congrArg some (next_at hR ht ha)
theorem vnext_stop (hI:Inv s H) (hv:VR s h ds rate) (hR:Right ds) {d:Nat} {t:List UInt8} (ht:(txt ds)[d]? =some t):vNext s h ((rowAt ds d 0:Nat):Int)=some (0,false):=by
  rw [hv.next hI (by have:=hR.len;omega)]
  exact congrArg some (next_end hR ht)
end
section
open Go.RowKit
variable {s : Ar} {H : List Int} {h : Int} {ds : Docs} {rate : Int}
end
section
open Go.RowKit
variable {s : Ar} {H : List Int} {h : Int} {ds m : Docs} {rate other : Int}
def alikeD (rate other:Int) (ds m:Docs):Bool:=
  refRight (txt m)&&(docsM ds==docsM m&&(symsM (txt ds)==symsM (txt m)&&(marksM rate (txt ds)==marksM other (txt m)&&spotsM rate ds==spotsM other m)))
theorem VR.check (hI:Inv s H) (hv:VR s h ds rate) (hR:Right ds) (m:Docs) (other:Int):vCheck s h other m=some (decide (1≤other∧other≤16)&&alikeD rate other ds m):=by
  have hl:=hR.len
  obtain ⟨pw,pm,ps,pt,hi⟩:=hv.parts hI (by omega)
  have hn:=rowsM_small ds
  have hs:=rowS_length rate (rowsM ds)
  unfold vCheck alikeD
  by_cases hr:1≤other∧other≤16
  case neg=>rw [if_neg (fun q=>hr q.2),decide_eq_false hr];rfl
  rw [if_pos ⟨hi,hr⟩,decide_eq_true hr,Bool.true_and]
  by_cases hm:refRight (txt m)=true
  case neg=>rw [if_neg hm,Bool.eq_false_iff.2 hm];rfl
  rw [if_pos hm,hm,Bool.true_and,pt.all hI,Option.bind_some,if_pos (by simp [docsM];omega)]
  by_cases h1:(docsM ds==docsM m)=true
  case neg=>rw [if_neg h1,Bool.eq_false_iff.2 h1];rfl
  rw [if_pos h1,h1,Bool.true_and,pw.all hI,Option.bind_some,if_pos (by simp [rowW];omega),←symsM_eq]
  by_cases h2:(symsM (txt ds)==symsM (txt m))=true
  case neg=>rw [if_neg h2,Bool.eq_false_iff.2 h2];rfl
  rw [if_pos h2,h2,Bool.true_and,pm.all hI,Option.bind_some,if_pos (by simp [rowM];omega),←marksM_eq]
  by_cases h3:(marksM rate (txt ds)==marksM other (txt m))=true
  case neg=>rw [if_neg h3,Bool.eq_false_iff.2 h3];rfl
  rw [if_pos h3,h3,Bool.true_and,ps.all hI,Option.bind_some,if_pos (by omega),←spotsM_eq]
theorem alikeD_self (hR:refRight (txt ds)=true):alikeD rate rate ds ds=true:=by unfold alikeD;simp [hR]
theorem VR.check_own (hI:Inv s H) (hv:VR s h ds rate) (hR:Right ds) (h1:1≤rate) (h2:rate≤16):vCheck s h rate ds=some true:=by
  rw [hv.check hI hR,alikeD_self hR.right,decide_eq_true ⟨h1,h2⟩];rfl
def sameMarks (rate other:Int) (ds:Docs):Bool:=ds.all fun d=>(List.range (d.2.length+1)).all fun a=>decide ((a:Int) % rate=0)==decide ((a:Int) % other=0)
end
section
open Go.RowKit
def shD (k i:Nat):Nat:=if i<k then i else i+1
def upD (k:Nat) (r:Nat×Nat):Nat×Nat:=(shD k r.1,r.2)
theorem shD_lt {k i j:Nat}:(shD k i<shD k j)↔i<j:=by unfold shD;split<;>split<;>omega
theorem shD_ne {k i:Nat}:shD k i≠k:=by unfold shD;split<;>omega
theorem shD_get {α:Type} (l:List α) (k i:Nat):(l.eraseIdx k)[i]? =l[shD k i]? :=by
  rw [List.getElem?_eraseIdx]
  unfold shD
  split<;>rfl
theorem shD_getD {α:Type} (l:List α) (k i:Nat) (d:α):(l.eraseIdx k).getD i d=l.getD (shD k i) d:=by
  rw [List.getD_eq_getElem?_getD,List.getD_eq_getElem?_getD,shD_get]
theorem rl_up (ts:List (List UInt8)) (k:Nat) (x y:Nat×Nat):refLess (ts.eraseIdx k) x y=refLess ts (upD k x) (upD k y):=by
  unfold refLess upD
  dsimp only
  rw [shD_getD,shD_getD]
  congr 1
  exact decide_eq_decide.2 shD_lt.symm
theorem srt_nodup {ts:List (List UInt8)} {L:List (Nat×Nat)} (h:Srt ts L):L.Nodup:=
  List.Pairwise.imp (fun {a b} h e=>by rw [e,rl_irr] at h;cases h) h
theorem all_era (ts:List (List UInt8)) (k:Nat):(all (ts.eraseIdx k)).map (upD k)=(all ts).filter fun r=> !decide (r.1=k):=by
  have hs1:Srt ts ((all (ts.eraseIdx k)).map (upD k)):=by
    refine List.pairwise_map.2 ((all_srt (ts.eraseIdx k)).imp fun {a b} h=> ?_)
    rw [←rl_up];exact h
  have hs2:Srt ts ((all ts).filter fun r=> !decide (r.1=k)):=(all_srt ts).filter _
  refine srt_unique hs1 hs2 ((List.perm_ext_iff_of_nodup (srt_nodup hs1) (srt_nodup hs2)).2 fun x=> ?_)
  rw [List.mem_map,List.mem_filter]
  constructor
  · rintro ⟨r,hr,rfl⟩
    obtain ⟨t,ht,hl⟩:=all_in hr
    rw [shD_get] at ht
    exact ⟨all_mem (d:=shD k r.1) ht hl,by simp [upD,shD_ne]⟩
  · rintro ⟨hx,hn⟩
    have hn':x.1≠k:=by simpa using hn
    obtain ⟨t,ht,hl⟩:=all_in hx
    have hsh:shD k (if x.1<k then x.1 else x.1 - 1)=x.1:=by
      by_cases c:x.1<k
      · rw [if_pos c];unfold shD;rw [if_pos c]
      · rw [if_neg c];unfold shD;rw [if_neg (by omega)];omega
    refine ⟨(if x.1<k then x.1 else x.1 - 1,x.2),all_mem (t:=t) (by rw [shD_get,hsh];exact ht) hl,?_⟩
    unfold upD
    dsimp only
    rw [hsh]
theorem nodup_at {α:Type} {f:α→Int} {l:List α} (h:(l.map f).Nodup) {i j:Nat} {x y:α} (hx:l[i]? =some x) (hy:l[j]? =some y) (e:f x=f y):i=j:=by
  obtain ⟨a1,a2⟩:=List.getElem?_eq_some_iff.1 hx
  obtain ⟨b1,b2⟩:=List.getElem?_eq_some_iff.1 hy
  have hp:=List.pairwise_iff_getElem.1 h
  rcases Nat.lt_trichotomy i j with c|c|c
  · exact absurd (show (l.map f)[i]'(by simpa using a1)=(l.map f)[j]'(by simpa using b1) by rw [List.getElem_map,List.getElem_map,a2,b2,e]) (hp i j (by simpa using a1) (by simpa using b1) c)
  · exact c
  · exact absurd (show (l.map f)[j]'(by simpa using b1)=(l.map f)[i]'(by simpa using a1) by rw [List.getElem_map,List.getElem_map,a2,b2,e]) (hp j i (by simpa using b1) (by simpa using a1) c)
theorem right_era {ts:List (List UInt8)} (h:refRight ts=true) (k:Nat):refRight (ts.eraseIdx k)=true:=by
  unfold refRight at h⊢
  rw [Bool.and_eq_true,decide_eq_true_eq,List.all_eq_true] at h⊢
  have:=(List.eraseIdx_sublist ts k).length_le
  exact ⟨fun x hx=>h.1 x ((List.eraseIdx_sublist ts k).subset hx),by omega⟩
theorem rowsM_era {ds:Docs} (hR:Right ds) {k:Nat} {d:Int×List UInt8} (hk:ds[k]? =some d):(rowsM ds).filter (notOf d.1)=rowsM (ds.eraseIdx k):=by
  have hr2:refRight (txt (ds.eraseIdx k))=true:=by
    unfold txt;rw [era_map];exact right_era hR.right k
  have e1:refSorted (ds.map (·.2))=all (txt ds):=if_pos hR.right
  have e2:refSorted ((ds.eraseIdx k).map (·.2))=all ((txt ds).eraseIdx k):=(if_pos hr2).trans (by unfold all txt;rw [era_map])
  unfold rowsM
  rw [e1,e2,List.filter_map]
  have h3:(all (txt ds)).filter ((notOf d.1)∘fun r=>((ds.getD r.1 (0,[])).1,(r.2:Int),symOf (ds.map (·.2)) r))=(all (txt ds)).filter fun r=> !decide (r.1=k):=by
    refine List.filter_congr fun r hr=> ?_
    obtain ⟨t,ht, -⟩:=all_in hr
    rw [List.getElem?_map] at ht
    obtain ⟨e,he, -⟩:=Option.map_eq_some_iff.1 ht
    show notOf d.1 ((ds.getD r.1 (0,[])).1,_,_)=_
    have hg:ds.getD r.1 (0,[])=e:=by rw [List.getD_eq_getElem?_getD,he];rfl
    unfold notOf
    dsimp only
    rw [hg]
    congr 1
    refine decide_eq_decide.2 ⟨fun q=> ?_,fun q=> ?_⟩
    · exact nodup_at hR.nodup he hk q
    · rw [q] at he
      have:=Option.some.inj (he.symm.trans hk)
      rw [this]
  rw [h3,←all_era,List.map_map]
  refine List.map_congr_left fun r hr=> ?_
  have hm:(ds.eraseIdx k).map (·.2)=(ds.map (·.2)).eraseIdx k:=era_map _ _ _
  show ((ds.getD (shD k r.1) (0,[])).1,(r.2:Int),symOf (ds.map (·.2)) (upD k r))=_
  rw [hm]
  unfold symOf upD
  dsimp only
  rw [shD_getD,shD_getD]
end
section
open Go.RowKit
def inP (D a:Nat) (r:Nat×Nat):Bool:=decide (r.1<D)||(r.1==D&&decide (a≤r.2))
def part (ts:List (List UInt8)) (D a:Nat):List (Nat×Nat):=(all ts).filter (inP D a)
section
variable {ts : List (List UInt8)} {D : Nat} {t : List UInt8}
theorem part_srt (a:Nat):Srt ts (part ts D a):=(all_srt ts).filter _
theorem docs_lt: ∀{n:Nat} {r:Nat×Nat},r∈docs ts n→r.1<n
  | 0,r,h=>by simp [docs] at h
  | n+1,r,h=>by
    rw [docs_succ] at h
    rcases List.mem_append.1 h with h|h
    · have:=docs_lt h;omega
    · unfold rowsOf at h
      obtain ⟨b, -,rfl⟩:=List.mem_map.1 h
      dsimp only;omega
theorem part_perm (ht:ts[D]? =some t) (hD:ts.length=D+1) {a:Nat} (ha:a≤t.length+1):(part ts D a).Perm (docs ts D++(List.range' a (t.length+1 - a)).map fun b=>(D,b)):=by
  unfold part
  refine ((all_docs ts).filter _).trans ?_
  rw [hD,docs_succ,List.filter_append,rowsOf_range,getD_at ht]
  have h1:(docs ts D).filter (inP D a)=docs ts D:=List.filter_eq_self.2 fun r hr=>by
    unfold inP;rw [decide_eq_true (docs_lt hr)];rfl
  have h2:((List.range' 0 (t.length+1)).map fun b=>(D,b)).filter (inP D a)=(List.range' a (t.length+1 - a)).map fun b=>(D,b):=by
    have e:List.range' 0 (t.length+1)=List.range' 0 a++List.range' a (t.length+1 - a):=by
      have:=List.range'_append (s:=0) (m:=a) (n:=t.length+1 - a) (step:=1)
      rw [show a+(t.length+1 - a)=t.length+1 by omega] at this
      rw [←this];simp
    rw [e,List.map_append,List.filter_append]
    have e1:((List.range' 0 a).map fun b=>(D,b)).filter (inP D a)=[]:=List.filter_eq_nil_iff.2 fun r hr=>by
      obtain ⟨b,hb,rfl⟩:=List.mem_map.1 hr
      have:=List.mem_range'_1.1 hb
      unfold inP;simp;omega
    have e2:((List.range' a (t.length+1 - a)).map fun b=>(D,b)).filter (inP D a)=(List.range' a (t.length+1 - a)).map fun b=>(D,b):=List.filter_eq_self.2 fun r hr=>by
      obtain ⟨b,hb,rfl⟩:=List.mem_map.1 hr
      have:=List.mem_range'_1.1 hb
      unfold inP;simp;omega
    rw [e1,e2,List.nil_append]
  rw [h1,h2]
theorem part_zero (hD:ts.length=D+1):part ts D 0=all ts:=List.filter_eq_self.2 fun r hr=>by
  have h:=(all_docs ts).mem_iff.1 hr
  have:=docs_lt h
  unfold inP;simp;omega
theorem part_step (ht:ts[D]? =some t) {a:Nat} (ha:a≤t.length):part ts D a=insA (part ts D (a+1)) (below ts (D,a) (part ts D (a+1))) (D,a):=by
  refine srt_insert (all_srt ts) (fun x hx=>all_in hx) (all_mem ht ha) ?_ fun x hx=> ?_
  · unfold inP;simp
  · unfold inP
    obtain ⟨x1,x2⟩:=x
    by_cases h1:x1<D
    · simp [h1]
    · by_cases h2:x1=D
      · subst h2
        rw [decide_eq_false h1]
        simp only [beq_self_eq_true,Bool.true_and,Bool.false_or]
        by_cases h3:x2=a
        · subst h3;simp
        · have:((x1,x2)==(x1,a))=false:=by simp [h3]
          rw [this,Bool.or_false]
          exact decide_eq_decide.2 (by omega)
      · have:((x1,x2)==(D,a))=false:=by simp [h2]
        rw [this,Bool.or_false]
        have e:(x1==D)=false:=by simpa using h2
        rw [e];rfl
theorem part_end (ht:ts[D]? =some t) (hD:ts.length=D+1):below ts (D,t.length) (part ts D (t.length+1))=D:=by
  unfold below
  rw [(part_perm ht hD (Nat.le_refl _)).countP_eq,Nat.sub_self,List.range'_zero,List.map_nil,List.append_nil,end_docs ht D (by omega)]
  omega
theorem part_next (ht : ts[D]? = some t) (hD : ts.length = D + 1) {a : Nat} (ha : a < t.length) :
    below ts (D,a) (part ts D (a+1))=((part ts D (a+2)).map (symOf ts)).countP (fun y=>decide (y<symOf ts (D,a+1)))+1+(((part ts D (a+2)).map (symOf ts)).take (below ts (D,a+1) (part ts D (a+2)))).count (symOf ts (D,a+1)):=by
  rw [bwt_rank_at (part_srt (a+2))]
  have hq:=Q_split (ts:=ts) D a (part ts D (a+2))
  have h1:(part ts D (a+1)).countP (fun x=>refLess ts x (D,a))=1+(part ts D (a+2)).countP (Q ts D a):=by
    rw [(part_perm ht hD (show a+1≤t.length+1 by omega)).countP_eq,(part_perm ht hD (show a+2≤t.length+1 by omega)).countP_eq,List.countP_append,List.countP_append,lf_docs ht ha D (by omega)]
    have:=doc_part ht ht ha (t.length - (a+1)) (a+1) (by omega)
    rw [show t.length - (a+1)+1=t.length+1 - (a+1) by omega] at this
    rw [this,show t.length+1 - (a+2)=t.length - (a+1) by omega,show a+1+1=a+2 from rfl]
    omega
  unfold below at h1⊢
  rw [h1,hq]
  omega
end
theorem getD_app {ts us:List (List UInt8)} {i:Nat} (h:i<ts.length):(ts++us).getD i []=ts.getD i []:=by
  rw [List.getD_eq_getElem?_getD,List.getD_eq_getElem?_getD,List.getElem?_append_left h]
theorem rl_app {ts us:List (List UInt8)} {x y:Nat×Nat} (hx:x.1<ts.length) (hy:y.1<ts.length):refLess (ts++us) x y=refLess ts x y:=by
  unfold refLess
  rw [getD_app hx,getD_app hy]
theorem part_old (ts:List (List UInt8)) (t:List UInt8):part (ts++[t]) ts.length (t.length+1)=all ts:=by
  have ht:(ts++[t])[ts.length]? =some t:=by simp
  have hp:=part_perm (ts:=ts++[t]) (D:=ts.length) ht (by simp) (Nat.le_refl _)
  rw [Nat.sub_self,List.range'_zero,List.map_nil,List.append_nil] at hp
  have hdocs: ∀n,n≤ts.length→docs (ts++[t]) n=docs ts n:=fun n=>by
    induction n with
    | zero=>intro _;rfl
    | succ n ih=>
      intro hn
      rw [docs_succ,docs_succ,ih (by omega)]
      unfold rowsOf
      rw [getD_app (by omega)]
  rw [hdocs _ (Nat.le_refl _)] at hp
  have hp2:=hp.trans (all_docs ts).symm
  refine srt_unique (ts:=ts++[t]) (part_srt _) ?_ hp2
  have hin: ∀x∈all ts,x.1<ts.length:=fun x hx=>docs_lt ((all_docs ts).mem_iff.1 hx)
  exact (all_srt ts).imp_of_mem fun {a b} ha hb h=>by rw [rl_app (hin a ha) (hin b hb)];exact h
end
section
open Go.RowKit
def rowX (ds:Docs) (r:Nat×Nat):Int×Int×Int:=((ds.getD r.1 (0,[])).1,(r.2:Int),symOf (txt ds) r)
def partX (ds:Docs) (d:Int×List UInt8) (a:Nat):List (Int×Int×Int):=(part (txt (ds++[d])) ds.length a).map (rowX (ds++[d]))
section
variable {ds : Docs} {d : Int × List UInt8} {rate : Int}
theorem txt_snoc:txt (ds++[d])=txt ds++[d.2]:=by simp
theorem txt_new:(txt (ds++[d]))[ds.length]? =some d.2:=by simp
theorem txt_len:(txt (ds++[d])).length=ds.length+1:=by simp
theorem partX_old (h:refRight (txt ds)=true):partX ds d (d.2.length+1)=rowsM ds:=by
  unfold partX
  have h1:=part_old (txt ds) d.2
  rw [List.length_map] at h1
  rw [txt_snoc,h1]
  have h2:refSorted (txt ds)=all (txt ds):=by unfold refSorted;rw [if_pos h];rfl
  unfold rowsM
  rw [h2]
  refine List.map_congr_left fun r hr=> ?_
  have hlt:r.1<(txt ds).length:=docs_lt ((all_docs (txt ds)).mem_iff.1 hr)
  have hlt':r.1<ds.length:=by simpa using hlt
  unfold rowX
  have e1:(ds++[d]).getD r.1 (0,[])=ds.getD r.1 (0,[]):=by
    rw [List.getD_eq_getElem?_getD,List.getD_eq_getElem?_getD,List.getElem?_append_left hlt']
  have e2:symOf (txt (ds++[d])) r=symOf (txt ds) r:=by unfold symOf;rw [txt_snoc,getD_app hlt]
  rw [e1,e2]
theorem partX_new (h:refRight (txt (ds++[d]))=true):partX ds d 0=rowsM (ds++[d]):=by
  unfold partX
  rw [part_zero txt_len]
  have h2:refSorted (txt (ds++[d]))=all (txt (ds++[d])):=by unfold refSorted;rw [if_pos h];rfl
  unfold rowsM
  rw [h2];rfl
theorem insA_map2 {α β:Type} (f:α→β) (l:List α) (i:Nat) (x:α):(insA l i x).map f=insA (l.map f) i (f x):=by unfold insA;simp [List.map_take,List.map_drop]
theorem insA_filter {α:Type} (p:α→Bool) (l:List α) (i:Nat) (x:α):(insA l i x).filter p=if p x then insA (l.filter p) ((l.take i).countP p) x else l.filter p:=by
  unfold insA
  rw [List.filter_append,List.filter_cons]
  have hl:l.filter p=(l.take i).filter p++(l.drop i).filter p:=by rw [←List.filter_append,List.take_append_drop]
  have hc:(l.take i).countP p=((l.take i).filter p).length:=List.countP_eq_length_filter
  by_cases hp:p x=true
  · rw [if_pos hp,if_pos hp,hl,hc,List.take_left,List.drop_left]
  · rw [if_neg hp,if_neg hp,hl]
def rowI (ds:Docs) (d:Int×List UInt8) (a:Nat):Nat:=below (txt (ds++[d])) (ds.length,a) (part (txt (ds++[d])) ds.length (a+1))
def newX (ds:Docs) (d:Int×List UInt8) (a:Nat):Int×Int×Int:=(d.1,(a:Int),symOf (txt (ds++[d])) (ds.length,a))
theorem rowX_new (a:Nat):rowX (ds++[d]) (ds.length,a)=newX ds d a:=by
  unfold rowX newX
  have:(ds++[d]).getD ds.length (0,[])=d:=by simp [List.getD_eq_getElem?_getD]
  rw [this]
theorem partX_step {a:Nat} (ha:a≤d.2.length):partX ds d a=insA (partX ds d (a+1)) (rowI ds d a) (newX ds d a):=by
  unfold partX rowI
  rw [part_step txt_new ha,insA_map2,rowX_new]
theorem rowI_le (a:Nat):rowI ds d a≤(partX ds d (a+1)).length:=by unfold rowI partX;rw [List.length_map];exact below_le _ _
theorem partX_syms (a:Nat):rowW (partX ds d a)=(part (txt (ds++[d])) ds.length a).map (symOf (txt (ds++[d]))):=by unfold rowW partX;rw [List.map_map];rfl
theorem rowI_end:rowI ds d d.2.length=ds.length:=part_end txt_new txt_len
theorem rowI_next {a:Nat} (ha:a<d.2.length):rowI ds d a=(rowW (partX ds d (a+2))).countP (fun y=>decide (y<(newX ds d (a+1)).2.2))+1+((rowW (partX ds d (a+2))).take (rowI ds d (a+1))).count (newX ds d (a+1)).2.2:=by
  rw [partX_syms]
  exact part_next txt_new txt_len ha
theorem rowW_ins (L:List (Int×Int×Int)) (i:Nat) (x:Int×Int×Int):rowW (insA L i x)=insA (rowW L) i x.2.2:=by unfold rowW;exact insA_map2 _ _ _ _
theorem rowM_ins (L:List (Int×Int×Int)) (i:Nat) (x:Int×Int×Int):rowM rate (insA L i x)=insL (rowM rate L) i (mkd rate x):=by unfold rowM;exact insA_map _ _ _ _
theorem rowS_ins (L:List (Int×Int×Int)) (i:Nat) (x:Int×Int×Int):rowS rate (insA L i x)=if mkd rate x then insA (rowS rate L) ((L.take i).countP (mkd rate)) (x.1,x.2.1) else rowS rate L:=by
  unfold rowS
  rw [insA_filter]
  split
  · exact insA_map2 _ _ _ _
  · rfl
theorem partX_small (hR:refRight (txt (ds++[d]))=true) (a:Nat):(partX ds d a).length≤500:=by
  unfold partX part
  rw [List.length_map]
  have h1:=List.length_filter_le (inP ds.length a) (all (txt (ds++[d])))
  have h2:refSorted (txt (ds++[d]))=all (txt (ds++[d])):=by unfold refSorted;rw [if_pos hR];rfl
  have h3:=sorted_small (txt (ds++[d]))
  rw [h2] at h3
  omega
theorem partX_sy (a:Nat):Sy (rowW (partX ds d a)):=fun x hx=>by
  rw [partX_syms] at hx
  obtain ⟨r, -,rfl⟩:=List.mem_map.1 hx
  exact sym_bound r
end
theorem put_at (p:Parts): ∀i,p.put i (p.at i)=p
  | 0=>rfl
  | 1=>rfl
  | 2=>rfl
  | _+3=>rfl
theorem swap_eq (x:Pt) (i:Nat) (r:Int×Int×Ar):x.swap i r=((if r.2.1=0 then 0 else r.2.1),{x with s:=(nextA true (x.p.at i) r).2.2,p:=x.p.put i (nextA true (x.p.at i) r).1}):=by
  unfold Pt.swap nextA
  by_cases e:r.2.1=0
  · rw [if_pos e,if_pos e,if_pos e]
    dsimp only
    have:(if x.p.at i=0 then r.2.2 else r.2.2.drop (x.p.at i))=r.2.2.drop (x.p.at i):=by
      split
      · rename_i q;rw [q,drop_zero]
      · rfl
    rw [this]
  · rw [if_neg e,if_neg e,if_neg e]
    rw [put_at]
theorem swap_T {s : Ar} {H1 H2 : List Int} {h : Int} {r : Int × Int × Ar} {c : Nat} {P : Tr → Prop} (hr : Rs s r (H1 ++ h :: H2) c P) :
    Inv (nextA true h r).2.2 (H1++(nextA true h r).1::H2)∧Grow s (nextA true h r).2.2∧(nextA true h r).2.2.busyN≤s.busyN+c∧
    ((r.2.1=0∧ ∃t',Rep (nextA true h r).2.2 (nextA true h r).1 t'∧P t')∨(r.2.1=2∧(nextA true h r).1=h∧s.size<s.busyN+c)):=by
  obtain ⟨i1,g1,c1,q1⟩:=nextA_T true hr
  refine ⟨i1,g1,c1,?_⟩
  rcases hr.res with ⟨z, -⟩|⟨z, -,z2⟩
  · rcases q1 with ⟨-,q⟩|⟨q, -⟩
    · exact .inl ⟨z,q⟩
    · unfold nextA at q;rw [if_pos z] at q;cases q
  · rcases q1 with ⟨q, -⟩|⟨-,q, -⟩
    · unfold nextA at q;rw [if_neg (by omega)] at q;cases q
    · exact .inr ⟨z,q,z2⟩
structure Pv (x:Pt) (H:List Int) (ds:Docs) (d:Int×List UInt8) (rate:Int) (a:Nat):Prop where
  inv:Inv x.s (x.p.wave::x.p.marks::x.p.spots::x.p.table::H)
  w:HasW x.s x.p.wave (rowW (partX ds d a))
  m:HasB x.s x.p.marks (rowM rate (partX ds d a))
  sp:HasL x.s x.p.spots (rowS rate (partX ds d a))
  t:HasL x.s x.p.table (docsM (ds++[d]))
  id:x.id=d.1
  text:x.text=d.2
  rt:x.rate=rate
  begun:x.begun=true
  over:x.over=false
  root:x.root=0
  pos:x.pos=(a:Int) - 1
  row:1≤a→x.row=(rowI ds d (a - 1):Nat)
structure Pe (x0 x:Pt) (H:List Int):Prop where
  inv:Inv x.s (x.p.wave::x.p.marks::x.p.spots::x.p.table::H)
  src:x.src=x0.src
  over:x.over=false
  root:x.root=x0.root
theorem sym_eq {x:Pt} {H:List Int} {ds:Docs} {d:Int×List UInt8} {rate:Int} {a:Nat} (h:Pv x H ds d rate (a+1)) (ha:a≤d.2.length):x.sym=(newX ds d a).2.2:=by
  have hp:=h.pos
  unfold Pt.sym newX symOf
  dsimp only
  rw [getD_at txt_new,h.text,hp]
  by_cases e:a=0
  · subst e;rw [if_neg (by omega),if_pos rfl]
  · rw [if_pos (by omega),if_neg e]
    rw [show ((((a+1:Nat):Int) - 1 - 1).toNat)=a - 1 by omega]
def costR (n:Nat):Nat:=13*n+50
theorem rowS_count (rate:Int) (L:List (Int×Int×Int)) (i:Nat):((rowM rate L).take i).count true=(L.take i).countP (mkd rate):=by
  unfold rowM
  rw [←List.map_take,List.count,List.countP_map]
  congr 1
  funext x
  simp
theorem next_num {b k n:Nat} (h1:b≤500) (h2:k≤500) (e:n=b+1+k):wrap64 (wrap64 ((b:Int)+1)+(k:Int))=(n:Int):=by
  have q:wrap64 ((b:Int)+1)=(b:Int)+1:=w64 (by omega) (by omega)
  rw [q]
  clear q
  rw [w64 (by omega) (by omega),e];omega
theorem pinsert_T {x : Pt} {H : List Int} {ds : Docs} {d : Int × List UInt8} {rate : Int} {a : Nat} (h : Pv x H ds d rate (a + 1)) (hR : Right (ds ++ [d])) (ha : a ≤ d.2.length) (hH : H.length ≤ 1000) :
    ∃r,x.insert=some r∧Grow x.s r.2.s∧r.2.s.busyN≤x.s.busyN+costR (partX ds d (a+1)).length∧
      ((r.1=0∧r.2.src=x.src∧Pv r.2 H ds d rate a)∨(r.1=2∧x.s.size<x.s.busyN+costR (partX ds d (a+1)).length∧Pe x r.2 H)):=by
  have hn:=partX_small hR.right (a+1)
  have hsy:=partX_sy (ds:=ds) (d:=d) (a+1)
  have hlw:(rowW (partX ds d (a+1))).length=(partX ds d (a+1)).length:=by simp [rowW]
  have hlm:(rowM rate (partX ds d (a+1))).length=(partX ds d (a+1)).length:=by simp [rowM]
  have hls:=rowS_length rate (partX ds d (a+1))
  have hri:=rowI_le (ds:=ds) (d:=d) a
  have hw:WR x.s 9 x.p.wave (rowW (partX ds d (a+1))):=⟨h.w,fun h0=>h.inv.pos (by simp) h0,by omega,hsy⟩
  have hc:0≤(newX ds d a).2.2∧(newX ds d a).2.2<257:=sym_bound _
  have hrow:x.row=(rowI ds d a:Nat):=h.row (by omega)
  have hsym:=sym_eq h ha
  have hid:x.id=(newX ds d a).1:=h.id
  have hpos:x.pos=(newX ds d a).2.1:=by rw [h.pos];show ((a+1:Nat):Int) - 1=(a:Int);omega
  have hmk:(x.pos % x.rate=0)↔mkd rate (newX ds d a)=true:=by
    rw [hpos,h.rt]
    exact decide_eq_true_iff.symm
  have hXid:=hR.id d (by simp)
  have hX:ItOk ((newX ds d a).1,(newX ds d a).2.1):=by
    have h40:=(right_len hR.right).2 ds.length
    rw [getD_at txt_new] at h40
    exact ⟨⟨by show 0≤d.1;omega,hXid.2⟩,by show 0≤(a:Int)∧(a:Int)<_;omega⟩
  have hstep:=partX_step (ds:=ds) (d:=d) ha
  have hnx:1≤a→wrap64 (wrap64 (((rowW (partX ds d (a+1))).countP (fun y=>decide (y<(newX ds d a).2.2)):Nat)+1)+(((rowW (partX ds d (a+1))).take (rowI ds d a)).count (newX ds d a).2.2:Nat))=(rowI ds d (a - 1):Nat):=fun h1=>by
    have e:=rowI_next (ds:=ds) (d:=d) (a:=a - 1) (by omega)
    rw [show a - 1+2=a+1 by omega,show a - 1+1=a by omega] at e
    have b1:=List.countP_le_length (p:=fun y=>decide (y<(newX ds d a).2.2)) (l:=rowW (partX ds d (a+1)))
    have b2:=List.count_le_length (a:=(newX ds d a).2.2) (l:=(rowW (partX ds d (a+1))).take (rowI ds d a))
    rw [List.length_take] at b2
    exact next_num (Nat.le_trans b1 (by rw [hlw];exact hn)) (Nat.le_trans b2 (Nat.le_trans (Nat.min_le_right _ _) (by rw [hlw];exact hn))) e
  have hhm:=h.m;have hhsp:=h.sp;have hht:=h.t;have hinv:=h.inv;have hoid:=h.id;have hotx:=h.text;have hort:=h.rt;have hobg:=h.begun;have hoov:=h.over;have hort2:=h.root
  clear h
  generalize hL:partX ds d (a+1)=L at*
  generalize hXg:newX ds d a=X at*
  generalize hi:rowI ds d a=i at*
  obtain ⟨r1,e1,R1⟩:=wInsert_R hinv (by simp;omega) hw (i:Int) X.2.2 (by omega) (by omega) hc
  rw [Int.toNat_natCast] at R1
  obtain ⟨i1,g1,c1,q1⟩:=swap_T (H1:=[]) (H2:=x.p.marks::x.p.spots::x.p.table::H) R1
  have hins : x.insert = if (x.swap 0 r1).1 = 0 then
      (if x.pos % x.rate=0 then
        (bRank (x.swap 0 r1).2.s (x.swap 0 r1).2.p.marks x.row).bind fun j=>(lInsert (x.swap 0 r1).2.s (x.swap 0 r1).2.p.spots j (x.id,x.pos)).bind fun r2=>
        if ((x.swap 0 r1).2.swap 2 r2).1=0 then ((x.swap 0 r1).2.swap 2 r2).2.mark (wrap64 (wrap64 (((rowW L).countP (fun y=>decide (y<X.2.2)):Nat)+1)+(((rowW L).take i).count X.2.2:Nat))) true
        else some ((x.swap 0 r1).2.swap 2 r2)
       else (x.swap 0 r1).2.mark (wrap64 (wrap64 (((rowW L).countP (fun y=>decide (y<X.2.2)):Nat)+1)+(((rowW L).take i).count X.2.2:Nat))) false)
    else some (x.swap 0 r1):=by
    unfold Pt.insert
    rw [hsym,hrow,hw.before hinv hc,Option.bind_some,hw.rank hinv hc (i:Int) (by omega) (by omega),Option.bind_some,Int.toNat_natCast,e1,Option.bind_some]
  rw [hins]
  generalize hNX:wrap64 (wrap64 (((rowW L).countP (fun y=>decide (y<X.2.2)):Nat)+1)+(((rowW L).take i).count X.2.2:Nat))=NX at*
  clear hins
  have E1:=swap_eq x 0 r1
  have hat0:x.p.at 0=x.p.wave:=rfl
  rw [hat0] at E1
  obtain ⟨n1,hn1⟩: ∃n1,nextA true x.p.wave r1=n1:=⟨_,rfl⟩
  rw [hn1] at E1 i1 g1 c1 q1
  have hg1:=g1.size
  rcases q1 with ⟨z,t1,p1,p2⟩|⟨z,a2,a3⟩
  · rw [if_pos z] at E1
    rw [E1]
    dsimp only
    rw [if_pos rfl]
    have hbm:BR n1.2.2 x.p.marks (rowM rate L):=⟨hhm.grow g1,fun h0=>i1.pos (by simp) h0,by omega⟩
    have fin : ∀ (y : Pt) (ls : List (Int × Int)), y.p.wave = n1.1 → y.p.marks = x.p.marks → y.p.table = x.p.table → y.row = (i : Int) → y.pos = X.2.1 → y.id = x.id → y.text = x.text → y.rate = x.rate → y.begun = true → y.over = false → y.root = 0 → y.src = x.src →
        Inv y.s (n1.1::x.p.marks::y.p.spots::x.p.table::H)→Grow n1.2.2 y.s→y.s.busyN≤n1.2.2.busyN+(3*(rowS rate L).length+4)→HasL y.s y.p.spots (rowS rate (insA L i X))→
        ∃r,y.mark NX (mkd rate X)=some r∧Grow x.s r.2.s∧r.2.s.busyN≤x.s.busyN+costR L.length∧((r.1=0∧r.2.src=x.src∧Pv r.2 H ds d rate a)∨(r.1=2∧x.s.size<x.s.busyN+costR L.length∧Pe x r.2 H)):=by
      intro y ls yw ym yt yr yp yi ytx yrt yb yo yroot ysrc hI hG hB hS
      have hbm2:BR y.s x.p.marks (rowM rate L):=⟨(hhm.grow g1).grow hG,fun h0=>hI.pos (by simp) h0,by omega⟩
      obtain ⟨r3,e3,R3⟩:=bInsert_R hI (by simp;omega) hbm2 (i:Int) (mkd rate X) (by omega) (by omega)
      rw [Int.toNat_natCast] at R3
      obtain ⟨i3,g3,c3,q3⟩:=swap_T (H1:=[n1.1]) (H2:=y.p.spots::x.p.table::H) R3
      have hmark:y.mark NX (mkd rate X)=some (({y with s:=r3.2.2,row:=NX,pos:=wrap64 (y.pos - 1)}:Pt).swap 1 r3):=by
        unfold Pt.mark
        rw [ym,yr,e3];rfl
      have E3:=swap_eq {y with s:=r3.2.2,row:=NX,pos:=wrap64 (y.pos - 1)} 1 r3
      have hat1:(({y with s:=r3.2.2,row:=NX,pos:=wrap64 (y.pos - 1)}:Pt).p.at 1)=x.p.marks:=ym
      rw [hat1] at E3
      rw [hmark,E3]
      generalize nextA true x.p.marks r3=n3 at*
      have hg3:=g3.size
      have hgy:=hG.size
      refine ⟨_,rfl,(g1.trans hG).trans g3,by dsimp only;unfold costR;omega,?_⟩
      rcases q3 with ⟨z3,t3,p3,p4⟩|⟨z3,b2,b3⟩
      · refine .inl ⟨by rw [if_pos z3],ysrc,?_⟩
        have hx1:X.2.1=(a:Int):=by rw [←hXg];rfl
        refine ⟨?_,?_,?_,?_,?_,yi.trans hoid,ytx.trans hotx,yrt.trans hort,yb,yo,yroot,?_,fun h1=>hnx h1⟩
        · show Inv n3.2.2 (y.p.wave::n3.1::y.p.spots::y.p.table::H)
          rw [yw,yt];exact i3
        · show HasW n3.2.2 y.p.wave _
          rw [yw,hstep,rowW_ins];exact ⟨t1,(p1.grow hG).grow g3,p2⟩
        · show HasB n3.2.2 n3.1 _
          rw [hstep,rowM_ins];exact ⟨t3,p3,p4⟩
        · show HasL n3.2.2 y.p.spots _
          rw [hstep];exact hS.grow g3
        · show HasL n3.2.2 y.p.table _
          rw [yt];exact ((hht.grow g1).grow hG).grow g3
        · show wrap64 (y.pos - 1)=(a:Int) - 1
          have:=(right_len hR.right).2 ds.length
          rw [getD_at txt_new] at this
          rw [yp,hx1,w64 (by omega) (by omega)]
      · refine .inr ⟨by rw [if_neg (by omega)];exact z3,by unfold costR;omega,?_⟩
        refine ⟨?_,ysrc,yo,yroot.trans hort2.symm⟩
        show Inv n3.2.2 (y.p.wave::n3.1::y.p.spots::y.p.table::H)
        rw [yw,yt];exact i3
    by_cases hm:mkd rate X=true
    · rw [if_pos (hmk.2 hm)]
      show∃r,((bRank n1.2.2 x.p.marks x.row).bind fun j=>(lInsert n1.2.2 x.p.spots j (x.id,x.pos)).bind fun r2=>_)=some r∧_
      have eb:bRank n1.2.2 x.p.marks x.row=some (((L.take i).countP (mkd rate):Nat):Int):=by rw [hrow,hbm.rank i1 (i:Int) (by omega) (by omega),Int.toNat_natCast,rowS_count]
      rw [eb,Option.bind_some]
      have hbs:LR n1.2.2 x.p.spots (rowS rate L):=⟨hhsp.grow g1,fun h0=>i1.pos (by simp) h0,by omega⟩
      have hcl:(L.take i).countP (mkd rate)≤(rowS rate L).length:=by
        unfold rowS
        rw [List.length_map,←List.countP_eq_length_filter]
        exact (List.take_sublist i L).countP_le
      obtain ⟨r2,e2,R2⟩:=lInsert_R i1 (by simp;omega) hbs (((L.take i).countP (mkd rate):Nat):Int) hX (by omega) (by omega)
      rw [Int.toNat_natCast] at R2
      obtain ⟨i2,g2,c2,q2⟩:=swap_T (H1:=[n1.1,x.p.marks]) (H2:=x.p.table::H) R2
      have e2':lInsert n1.2.2 x.p.spots (((L.take i).countP (mkd rate):Nat):Int) (x.id,x.pos)=some r2:=by rw [hid,hpos];exact e2
      rw [e2',Option.bind_some]
      have E2:=swap_eq {x with s:=n1.2.2,p:=x.p.put 0 n1.1} 2 r2
      have hat2:(({x with s:=n1.2.2,p:=x.p.put 0 n1.1}:Pt).p.at 2)=x.p.spots:=rfl
      rw [hat2] at E2
      rw [E2]
      generalize nextA true x.p.spots r2=n2 at*
      have hg2:=g2.size
      rcases q2 with ⟨z2,t2,p3,p4⟩|⟨z2,b2,b3⟩
      · rw [if_pos z2]
        dsimp only
        rw [if_pos rfl,←hm]
        exact fin {x with s:=n2.2.2,p:=(x.p.put 0 n1.1).put 2 n2.1} [] rfl rfl rfl hrow hpos rfl rfl rfl hobg hoov hort2 rfl i2 g2 c2 (by rw [rowS_ins,if_pos hm];exact ⟨t2,p3,p4⟩)
      · rw [if_neg (by omega)]
        dsimp only
        rw [if_neg (by omega)]
        refine ⟨_,rfl,g1.trans g2,by dsimp only;unfold costR;omega, .inr ⟨z2,by unfold costR;omega,?_⟩⟩
        exact ⟨i2,rfl,hoov,rfl⟩
    · rw [if_neg (fun q=>hm (hmk.1 q)),←Bool.eq_false_iff.2 hm]
      exact fin {x with s:=n1.2.2,p:=x.p.put 0 n1.1} [] rfl rfl rfl hrow hpos rfl rfl rfl hobg hoov hort2 rfl i1 (Grow.refl _) (by show n1.2.2.busyN≤_;omega) (by rw [rowS_ins,if_neg hm];exact hhsp.grow g1)
  · rw [if_neg (by omega)] at E1
    rw [E1]
    dsimp only
    rw [if_neg (by omega)]
    refine ⟨_,rfl,g1,by dsimp only;unfold costR;omega, .inr ⟨z,by unfold costR;omega,?_⟩⟩
    exact ⟨i1,rfl,hoov,rfl⟩
end
section
open Go.RowKit
theorem swapC_eq (x:Ct) (i:Nat) (r:Int×Int×Ar):x.swap i r=((if r.2.1=0 then 0 else r.2.1),{x with s:=(nextA true (x.p.at i) r).2.2,p:=x.p.put i (nextA true (x.p.at i) r).1}):=by
  unfold Ct.swap nextA
  by_cases e:r.2.1=0
  · rw [if_pos e,if_pos e,if_pos e]
    dsimp only
    have:(if x.p.at i=0 then r.2.2 else r.2.2.drop (x.p.at i))=r.2.2.drop (x.p.at i):=by
      split
      · rename_i q;rw [q,drop_zero]
      · rfl
    rw [this]
  · rw [if_neg e,if_neg e,if_neg e]
    rw [put_at]
theorem markC_T {y : Ct} {H : List Int} {L : List Bool} (hI : Inv y.s (y.p.wave :: y.p.marks :: y.p.spots :: y.p.table :: H)) (hH : H.length ≤ 1000) (hm : HasB y.s y.p.marks L) (hl : L.length ≤ 500) {i : Nat} (hi : i < L.length) :
    ∃e s' h',y.mark (i:Int)=some (e,{y with s:=s',p:=y.p.put 1 h'})∧Inv s' (y.p.wave::h'::y.p.spots::y.p.table::H)∧Grow y.s s'∧s'.busyN≤y.s.busyN+(L.length+3)∧
      ((e=0∧HasB s' h' (L.eraseIdx i))∨(e=2∧y.s.size<y.s.busyN+(L.length+3))):=by
  have hb:BR y.s y.p.marks L:=⟨hm,fun h0=>hI.pos (by simp) h0,by omega⟩
  obtain ⟨r,e1,R⟩:=bDelG_R hI (by simp;omega) hb (i:Int) (by omega) (by omega)
  rw [Int.toNat_natCast] at R
  obtain ⟨i1,g1,c1,q1⟩:=swap_T (H1:=[y.p.wave]) (H2:=y.p.spots::y.p.table::H) R
  have E:=swapC_eq y 1 r
  unfold Ct.mark
  rw [e1,Option.map_some,E]
  refine ⟨_,_,_,rfl,i1,g1,c1,?_⟩
  rcases q1 with ⟨z,t',p1,p2⟩|⟨z, -,z3⟩
  · exact .inl ⟨by rw [if_pos z],t',p1,p2⟩
  · exact .inr ⟨by rw [if_neg (by omega)];exact z,z3⟩
theorem spotC_T {y : Ct} {H : List Int} {X : List (Int × Int × Int)} {rate : Int} (hI : Inv y.s (y.p.wave :: y.p.marks :: y.p.spots :: y.p.table :: H)) (hH : H.length ≤ 1000) (hm : HasB y.s y.p.marks (rowM rate X)) (hsp : HasL y.s y.p.spots (rowS rate X)) (hl : X.length ≤ 500) {i : Nat} {v : Int × Int × Int} (hv : X[i]? = some v) :
    ∃e s' h1 h2,y.spot (i:Int)=some (e,{y with s:=s',p:=(y.p.put 2 h2).put 1 h1})∧Inv s' (y.p.wave::h1::h2::y.p.table::H)∧Grow y.s s'∧s'.busyN≤y.s.busyN+(4*X.length+3)∧
      ((e=0∧HasB s' h1 (rowM rate (X.eraseIdx i))∧HasL s' h2 (rowS rate (X.eraseIdx i)))∨(e=2∧y.s.size<y.s.busyN+(4*X.length+3))):=by
  have hlm:(rowM rate X).length=X.length:=by simp [rowM]
  have hls:=rowS_length rate X
  obtain ⟨hil, -⟩:=List.getElem?_eq_some_iff.1 hv
  have hb:BR y.s y.p.marks (rowM rate X):=⟨hm,fun h0=>hI.pos (by simp) h0,by omega⟩
  have hg:(rowM rate X).getD i false=mkd rate v:=by rw [List.getD_eq_getElem?_getD];unfold rowM;rw [List.getElem?_map,hv];rfl
  unfold Ct.spot
  rw [hb.get hI,if_neg (by omega),Option.bind_some,Int.toNat_natCast,hg]
  dsimp only
  cases hmk:mkd rate v with
  | false=>
    rw [if_neg (by decide)]
    obtain ⟨e,s',h',a1,a2,a3,a4,a5⟩:=markC_T hI hH hm (by omega) (i:=i) (by omega)
    rw [a1]
    refine ⟨e,s',h',y.p.spots,rfl,a2,a3,by omega,?_⟩
    rcases a5 with ⟨z,b⟩|⟨z,b⟩
    · exact .inl ⟨z,by rw [rowM_era];exact b,by rw [rowS_out hv hmk];exact hsp.grow a3⟩
    · exact .inr ⟨z,by omega⟩
  | true=>
    have hrk:bRank y.s y.p.marks (i:Int)=some ((((X.take i).filter (mkd rate)).length:Nat):Int):=by
      rw [hb.rank hI (i:Int) (by omega) (by omega),Int.toNat_natCast,rowM_rank]
    have hat:((X.filter (mkd rate)))[((X.take i).filter (mkd rate)).length]? =some v:=filter_at _ X i v hv hmk
    have hlt:((X.take i).filter (mkd rate)).length<(rowS rate X).length:=by
      obtain ⟨q, -⟩:=List.getElem?_eq_some_iff.1 hat
      unfold rowS;rw [List.length_map];exact q
    have hlr:LR y.s y.p.spots (rowS rate X):=⟨hsp,fun h0=>hI.pos (by simp) h0,by omega⟩
    rw [if_pos rfl,hrk,Option.bind_some]
    have hin:=rowS_in hv hmk
    generalize ((X.take i).filter (mkd rate)).length=j at*
    obtain ⟨r,e1,R⟩:=lDelete_R hI (by simp;omega) hlr (j:Int) (by omega) (by omega)
    rw [Int.toNat_natCast,←hin] at R
    obtain ⟨i1,g1,c1,q1⟩:=swap_T (H1:=[y.p.wave,y.p.marks]) (H2:=y.p.table::H) R
    have E:=swapC_eq y 2 r
    have hat2:y.p.at 2=y.p.spots:=rfl
    rw [hat2] at E
    rw [e1,Option.bind_some,E]
    generalize nextA true y.p.spots r=n at*
    have hgs:=g1.size
    rcases q1 with ⟨z,t',p1,p2⟩|⟨z,z2,z3⟩
    · rw [if_pos z]
      dsimp only
      rw [if_pos rfl]
      obtain ⟨e,s',h',a1,a2,a3,a4,a5⟩:=markC_T (y:={y with s:=n.2.2,p:=y.p.put 2 n.1}) (H:=H) (L:=rowM rate X) i1 hH (hm.grow g1) (by omega) (i:=i) (by omega)
      rw [a1]
      replace a4:s'.busyN≤n.2.2.busyN+((rowM rate X).length+3):=a4
      refine ⟨e,s',h',n.1,rfl,a2,g1.trans a3,by omega,?_⟩
      rcases a5 with ⟨z,b⟩|⟨z,b⟩
      · exact .inl ⟨z,by rw [rowM_era];exact b,(show HasL n.2.2 n.1 _ from ⟨t',p1,p2⟩).grow a3⟩
      · replace b:n.2.2.size<n.2.2.busyN+((rowM rate X).length+3):=b
        exact .inr ⟨z,by omega⟩
    · rw [if_neg (show¬r.2.1=0 by omega)]
      rw [if_neg (show¬r.2.1=0 by omega)]
      exact ⟨r.2.1,n.2.2,y.p.marks,n.1,rfl,i1,g1,by omega, .inr ⟨z,by omega⟩⟩
structure Cv (x:Ct) (H:List Int) (X:List (Int×Int×Int)) (D:List (Int×Int)) (id rate:Int) (m:Nat):Prop where
  inv:Inv x.s (x.p.wave::x.p.marks::x.p.spots::x.p.table::H)
  w:HasW x.s x.p.wave (rowW (cutX id m X))
  bm:HasB x.s x.p.marks (rowM rate (cutX id m X))
  sp:HasL x.s x.p.spots (rowS rate (cutX id m X))
  t:HasL x.s x.p.table D
  idn:x.id=id
  owns:x.owns=true
  over:x.over=false
  root:x.root=0
  rows:x.rows=(posX id m X).map fun i:Nat=>(i:Int)
structure Ce (x0 x:Ct) (H:List Int):Prop where
  inv:Inv x.s (x.p.wave::x.p.marks::x.p.spots::x.p.table::H)
  src:x.src=x0.src
  owns:x.owns=true
  over:x.over=false
  root:x.root=x0.root
theorem cutX_len (id:Int) (m:Nat) (X:List (Int×Int×Int)):(cutX id m X).length≤X.length:=by
  unfold cutX
  rw [List.length_append,List.length_take]
  have:=List.length_filter_le (notOf id) (X.drop m)
  rw [List.length_drop] at this
  omega
theorem cutX_mem {id:Int} {m:Nat} {X:List (Int×Int×Int)} {x:Int×Int×Int} (h:x∈cutX id m X):x∈X:=by
  unfold cutX at h
  rcases List.mem_append.1 h with h|h
  · exact List.mem_of_mem_take h
  · exact List.mem_of_mem_drop (List.mem_filter.1 h).1
theorem cutX_sy {id:Int} {m:Nat} {X:List (Int×Int×Int)} (h:Sy (rowW X)):Sy (rowW (cutX id m X)):=fun y hy=>by
  unfold rowW at hy h
  obtain ⟨x,hx,rfl⟩:=List.mem_map.1 hy
  exact h _ (List.mem_map.2 ⟨x,cutX_mem hx,rfl⟩)
theorem takeC_T {x : Ct} {H : List Int} {X : List (Int × Int × Int)} {D : List (Int × Int)} {id rate : Int} {m : Nat} (h : Cv x H X D id rate m) (hX : X.length ≤ 500) (hsy : Sy (rowW X)) (hm : m ≤ X.length) (hH : H.length ≤ 1000) (hne : x.rows ≠ []) :
    ∃r,x.take=some r∧Grow x.s r.2.s∧r.2.s.busyN≤x.s.busyN+costR X.length∧
      ((r.1=0∧r.2.src=x.src∧r.2.rows=x.rows.dropLast∧ ∃k,k<m∧Cv r.2 H X D id rate k)∨(r.1=2∧x.s.size<x.s.busyN+costR X.length∧Ce x r.2 H)):=by
  rcases posX_last id X m hm with ⟨hp, -⟩|⟨i,v,hv,hvid,hi,hp,hc⟩
  · exact absurd (by rw [h.rows,hp];rfl) hne
  obtain ⟨hat,hera, -⟩:=cutX_at hv hvid
  have hlen:=cutX_len id (i+1) X
  have hsy2:=cutX_sy (id:=id) (m:=i+1) hsy
  have hhw:=h.w;have hhm:=h.bm;have hhsp:=h.sp;have hht:=h.t;have hinv:=h.inv
  rw [hc] at hhw hhm hhsp
  have hrows:=h.rows
  rw [hp,List.map_append] at hrows
  have hlast:x.last=(i:Int):=by
    unfold Ct.last;rw [hrows]
    show List.getLastD (_++[(i:Int)]) 0=_
    simp
  have hless:x.rows.dropLast=(posX id i X).map fun i:Nat=>(i:Int):=by
    rw [hrows]
    show List.dropLast (_++[(i:Int)])=_
    rw [List.dropLast_concat]
  generalize hL:cutX id (i+1) X=L at*
  have hlw:(rowW L).length=L.length:=by simp [rowW]
  obtain ⟨hil, -⟩:=List.getElem?_eq_some_iff.1 hat
  have hw:WR x.s 9 x.p.wave (rowW L):=⟨hhw,fun h0=>hinv.pos (by simp) h0,by omega,hsy2⟩
  obtain ⟨r1,e1,R1⟩:=wDelG_R hinv (by simp;omega) hw (i:Int) (by omega) (by omega)
  rw [Int.toNat_natCast,←rowW_era,hera] at R1
  obtain ⟨i1,g1,c1,q1⟩:=swap_T (H1:=[]) (H2:=x.p.marks::x.p.spots::x.p.table::H) R1
  have E1:=swapC_eq x.less 0 r1
  have hat0:x.less.p.at 0=x.p.wave:=rfl
  rw [hat0] at E1
  unfold Ct.take
  rw [hlast,e1,Option.bind_some,E1]
  generalize nextA true x.p.wave r1=n1 at*
  have hg1:=g1.size
  rcases q1 with ⟨z,t1,p1,p2⟩|⟨z,a2,a3⟩
  · rw [if_pos z]
    dsimp only
    rw [if_pos rfl]
    obtain ⟨e,s',h1,h2,b1,b2,b3,b4,b5⟩:=spotC_T (y:={x.less with s:=n1.2.2,p:=x.less.p.put 0 n1.1}) (H:=H) (X:=L) (rate:=rate) i1 hH (hhm.grow g1) (hhsp.grow g1) (by omega) (i:=i) hat
    rw [b1]
    replace b4:s'.busyN≤n1.2.2.busyN+(4*L.length+3):=b4
    refine ⟨_,rfl,g1.trans b3,by dsimp only;unfold costR;omega,?_⟩
    rcases b5 with ⟨z,b,b'⟩|⟨z,b⟩
    · rw [hera] at b b'
      refine .inl ⟨z,rfl,rfl,i,hi,b2,(show HasW n1.2.2 n1.1 _ from ⟨t1,p1,p2⟩).grow b3,b,b',(hht.grow g1).grow b3,h.idn,h.owns,h.over,h.root,hless⟩
    · replace b:n1.2.2.size<n1.2.2.busyN+(4*L.length+3):=b
      exact .inr ⟨z,by unfold costR;omega,b2,rfl,h.owns,h.over,rfl⟩
  · rw [if_neg (show¬r1.2.1=0 by omega),if_neg (show¬r1.2.1=0 by omega)]
    exact ⟨_,rfl,g1,by dsimp only;unfold costR;omega, .inr ⟨z,by unfold costR;omega,i1,rfl,h.owns,h.over,rfl⟩⟩
end
section
open Go.RowKit
def foundN (ds:Docs) (k L j:Nat):List Nat:=(List.range j).map fun q=>rowAt ds k (L - q)
theorem foundN_succ (ds:Docs) (k L j:Nat):foundN ds k L (j+1)=foundN ds k L j++[rowAt ds k (L - j)]:=by
  unfold foundN;rw [List.range_succ,List.map_append];rfl
theorem foundN_len (ds:Docs) (k L j:Nat):(foundN ds k L j).length=j:=by simp [foundN]
theorem posX_rise (id:Int) (m:Nat) (X:List (Int×Int×Int)):(posX id m X).Pairwise (· < ·):=List.pairwise_lt_range.filter _
theorem posX_mem {id:Int} {m i:Nat} {X:List (Int×Int×Int)}:i∈posX id m X↔i<m∧(X.getD i (0,0,0)).1=id:=by
  unfold posX
  rw [List.mem_filter,List.mem_range,decide_eq_true_iff]
section
variable {ds : Docs} {k : Nat} {d : Int × List UInt8}
theorem txt_at (hk:ds[k]? =some d):(txt ds)[k]? =some d.2:=by rw [List.getElem?_map,hk];rfl
theorem rowAt_inj (hR:Right ds) (hk:ds[k]? =some d) {a b:Nat} (ha:a≤d.2.length) (hb:b≤d.2.length) (e:rowAt ds k a=rowAt ds k b):a=b:=by
  have h1:=row_there hR (txt_at hk) ha
  have h2:=row_there hR (txt_at hk) hb
  rw [e,h2] at h1
  exact (Prod.mk.inj (Option.some.inj h1)).2.symm
theorem rowX_at {i:Nat} {r:Nat×Nat} (hi:(refSorted (txt ds))[i]? =some r):((rowsM ds).getD i (0,0,0)).1=(ds.getD r.1 (0,[])).1:=by
  rw [List.getD_eq_getElem?_getD]
  unfold rowsM
  rw [List.getElem?_map,hi];rfl
theorem found_perm (hR:Right ds) (hk:ds[k]? =some d):(foundN ds k d.2.length (d.2.length+1)).Perm (posX d.1 (rowsM ds).length (rowsM ds)):=by
  have hn1:(foundN ds k d.2.length (d.2.length+1)).Nodup:=by
    refine List.pairwise_map.2 ((List.pairwise_lt_range (n:=d.2.length+1)).imp_of_mem fun {a b} ha hb hab e=> ?_)
    rw [List.mem_range] at ha hb
    have:=rowAt_inj hR hk (by omega) (by omega) e
    omega
  have hn2:(posX d.1 (rowsM ds).length (rowsM ds)).Nodup:=(posX_rise _ _ _).imp fun h e=>by omega
  refine (List.perm_ext_iff_of_nodup hn1 hn2).2 fun i=> ?_
  rw [posX_mem]
  unfold foundN
  rw [List.mem_map]
  constructor
  · rintro ⟨q, -,rfl⟩
    have h1:=row_there hR (txt_at hk) (show d.2.length - q≤d.2.length by omega)
    refine ⟨by rw [rowsM_length];exact row_lt hR (txt_at hk) (by omega),?_⟩
    rw [rowX_at h1,List.getD_eq_getElem?_getD,hk];rfl
  · rintro ⟨h1,h2⟩
    rw [rowsM_length] at h1
    obtain ⟨r,hr⟩:=at_some h1
    rw [rowX_at hr] at h2
    obtain ⟨t,ht,hl⟩:=sorted_valid (List.getElem?_eq_some_iff.1 hr|>.2▸List.getElem_mem h1)
    rw [List.getElem?_map] at ht
    obtain ⟨e,he,het⟩:=Option.map_eq_some_iff.1 ht
    rw [List.getD_eq_getElem?_getD,he] at h2
    have hrk:r.1=k:=nodup_at hR.nodup he hk h2
    have hed:e=d:=by rw [hrk,hk] at he;exact (Option.some.inj he).symm
    have hl':r.2≤d.2.length:=by rw [←hed,het];exact hl
    refine ⟨d.2.length - r.2,List.mem_range.2 (by omega),?_⟩
    rw [show d.2.length - (d.2.length - r.2)=r.2 by omega,←hrk]
    exact row_place hR hr
structure C0 (x:Ct) (H:List Int) (ds:Docs) (k:Nat) (d:Int×List UInt8) (rate:Int) (j:Nat):Prop where
  inv:Inv x.s (x.src::H)
  vr:VR x.s x.src ds rate
  idn:x.id=d.1
  len:x.length=(d.2.length:Int)
  rows:x.rows=(foundN ds k d.2.length j).map fun i:Nat=>(i:Int)
  place:x.place=((rowAt ds k (d.2.length - j):Nat):Int)
  owns:x.owns=false
  over:x.over=false
  root:x.root=0
theorem findC_T {x:Ct} {H:List Int} {rate:Int} {j:Nat} (h:C0 x H ds k d rate j) (hR:Right ds) (hk:ds[k]? =some d) (hj:j<d.2.length): ∃y,x.find=some y∧y.s=x.s∧y.src=x.src∧C0 y H ds k d rate (j+1):=by
  have hn:=vnext_step h.inv h.vr hR (txt_at hk) (show d.2.length - (j+1)<d.2.length by omega)
  rw [show d.2.length - (j+1)+1=d.2.length - j by omega,←h.place] at hn
  have hrw:(x.found ((rowAt ds k (d.2.length - (j+1)):Nat):Int)).rows=(foundN ds k d.2.length (j+1)).map fun i:Nat=>(i:Int):=by
    show x.rows++[x.place]=_
    rw [foundN_succ,List.map_append,h.rows,h.place];rfl
  have hl:(((x.found ((rowAt ds k (d.2.length - (j+1)):Nat):Int)).rows.length:Nat):Int)≤x.length:=by
    rw [hrw,List.length_map,foundN_len,h.len];omega
  refine ⟨x.found ((rowAt ds k (d.2.length - (j+1)):Nat):Int),?_,rfl,rfl,⟨h.inv,h.vr,h.idn,h.len,hrw,rfl,h.owns,h.over,h.root⟩⟩
  unfold Ct.find
  rw [hn,Option.map_some]
  dsimp only
  rw [if_pos hl]
end
end
section
open Go.RowKit
theorem VR.busy {s:Ar} {root:Int} {ds:Docs} {rate:Int} (hI:Inv s [root]) (hv:VR s root ds rate) (hw:s.wait=[]):8*s.busyN≤2048+56*(rowsM ds).length+16*ds.length:=by
  rcases hv.ex with ⟨rfl,rfl⟩|⟨t,hr,tw,tm,tsp,tt,rfl,h1,h2,h3,h4⟩
  · have:=hI.busy_le hw (T:=[.nil]) ⟨.nil,trivial⟩
    simp only [sizes,List.map_cons,List.map_nil,List.sum_cons,List.sum_nil,Tr.size] at this
    omega
  · have:=hI.busy_le hw (T:=[_]) ⟨hr,trivial⟩
    simp only [sizes,List.map_cons,List.map_nil,List.sum_cons,List.sum_nil,Tr.size] at this
    have a1:=h1.size;have a2:=h2.size;have a3:=h3.size;have a4:=h4.size
    have b1:=rowS_length rate (rowsM ds)
    have b2:(rowW (rowsM ds)).length=(rowsM ds).length:=by simp [rowW]
    have b3:(rowM rate (rowsM ds)).length=(rowsM ds).length:=by simp [rowM]
    have b4:(docsM ds).length=ds.length:=by simp [docsM]
    omega
theorem VR.root {s:Ar} {root:Int} {ds:Docs} {rate:Int} (hv:VR s root ds rate) (h0:root≠0):s.has root=true∧s.get root=⟨6,(vOf s root).wave,(vOf s root).marks,(vOf s root).spots,(vOf s root).table,0,0⟩:=by
  rcases hv.ex with ⟨rfl,rfl⟩|⟨t,hr,tw,tm,tsp,tt,rfl,h1,h2,h3,h4⟩
  · exact absurd rfl h0
  · obtain ⟨k0,k1,k2,k3,hh,hg, -⟩:=hr.get
    have hvi:vIs s root=true:=by
      unfold vIs
      rw [hh,hg]
      simp [hv.live h0]
    have hz:vOf s root=⟨k0,k1,k2,k3⟩:=by unfold vOf;rw [if_pos ⟨h0,hvi⟩,hg]
    rw [hz];exact ⟨hh,hg⟩
end
section
open Go.RowKit
structure P0 (x:Pt) (H:List Int) (ds:Docs) (d:Int×List UInt8) (rate:Int):Prop where
  inv:Inv x.s (x.src::H)
  vr:VR x.s x.src ds rate
  id:x.id=d.1
  text:x.text=d.2
  rt:x.rate=rate
  begun:x.begun=false
  over:x.over=false
  root:x.root=0
  pos:x.pos=(d.2.length:Int)
  p0:x.p=Parts.zero
theorem inv_filter {s:Ar} {H:List Int}: ∀(l:List Int),Inv s (l++H)→Inv s ((l.filter fun h=> !decide (h=0))++H)
  | [],h=>h
  | k::l,h=>by
    rw [List.filter_cons]
    by_cases hk:k=0
    · rw [hk] at h
      rw [if_neg (by simp [hk])]
      exact inv_filter l (Inv.tail_zero h)
    · rw [if_pos (by simp [hk])]
      have h1:Inv s (l++(k::H)):=h.perm List.perm_middle.symm
      have h2:=inv_filter l h1
      exact h2.perm List.perm_middle
theorem insI_perm' (x:Int): ∀l:List Int,(insI x l).Perm (x::l)
  | []=>List.Perm.refl _
  | y::l=>by
    unfold insI
    split
    · exact List.Perm.refl _
    · exact ((insI_perm' x l).cons y).trans (List.Perm.swap x y l)
theorem sortI_perm': ∀l:List Int,(sortI l).Perm l
  | []=>List.Perm.refl _
  | x::l=>(insI_perm' x (sortI l)).trans ((sortI_perm' l).cons x)
theorem stop_T {x:Pt} {H:List Int} (h:Inv x.s (x.src::x.p.wave::x.p.marks::x.p.spots::x.p.table::H)) (ho:x.over=false):Inv x.stop.s H∧Grow x.s x.stop.s∧x.stop.s.busyN=x.s.busyN:=by
  have hh:x.held=(sortI [x.src,x.p.wave,x.p.marks,x.p.spots,x.p.table]).filter fun h=> !decide (h=0):=by unfold Pt.held;rw [ho,if_neg (by decide)]
  show Inv (x.s.dropAll x.held) H∧Grow x.s (x.s.dropAll x.held)∧(x.s.dropAll x.held).busyN=_
  rw [hh]
  have h1:Inv x.s ([x.src,x.p.wave,x.p.marks,x.p.spots,x.p.table]++H):=h
  have h2:Inv x.s (sortI [x.src,x.p.wave,x.p.marks,x.p.spots,x.p.table]++H):=h1.perm ((sortI_perm' _).symm.append_right H)
  exact ⟨Inv.dropAll (inv_filter _ h2),Grow.dropAll _ _,busyN_dropAll _ _⟩
theorem keep1 {s:Ar} {H:List Int} {k:Int} (h:Inv s H) (hH:H.length≤900000) (hk:k≠0→s.cnt k≠0):Inv (s.keep k) (k::H)∧Grow s (s.keep k)∧(s.keep k).busyN=s.busyN∧ ∀j,s.cnt j≠0→(s.keep k).cnt j≠0:=by
  by_cases e:k=0
  · subst e
    rw [keep_zero]
    exact ⟨h.zero_cons (by omega),Grow.refl _,rfl,fun j hj=>hj⟩
  · have hI:=h.keep (by omega) (hk e)
    refine ⟨hI,Grow.keep _ _,busyN_keep _ _,fun j hj=> ?_⟩
    exact h.live hI (Grow.keep _ _) (fun y=>by rw [List.count_cons];omega) hj
theorem begin_T {x : Pt} {H : List Int} {ds : Docs} {d : Int × List UInt8} {rate : Int} (h : P0 x H ds d rate) (hR : Right (ds ++ [d])) (hH : H.length ≤ 900) :
    ∃r,x.begin=some r∧Grow x.s r.2.s∧r.2.s.busyN≤x.s.busyN+40∧
      ((r.1=0∧r.2.src=x.src∧Pv r.2 (x.src::H) ds d rate (d.2.length+1))∨(r.1=2∧x.s.size<x.s.busyN+40∧Pe x r.2 (x.src::H))):=by
  have hlen:=hR.len
  rw [List.length_append,List.length_cons,List.length_nil] at hlen
  have hrd:refRight (txt ds)=true:=by
    have:=hR.right
    unfold refRight at this⊢
    simp only [Bool.and_eq_true,List.all_eq_true,decide_eq_true_eq] at this⊢
    refine ⟨fun t ht=>this.1 t (by rw [txt_snoc];exact List.mem_append.2 (.inl ht)),by rw [List.length_map];omega⟩
  obtain ⟨pw,pm,psp,pt,hvi⟩:=h.vr.parts h.inv (by omega)
  obtain ⟨q,hq⟩: ∃q,vOf x.s x.src=q:=⟨_,rfl⟩
  rw [hq] at pw pm psp pt
  have k1:=keep1 h.inv (by simp;omega) pw.live
  have k2:=keep1 k1.1 (by simp;omega) (fun e=>k1.2.2.2 _ (pm.live e))
  have k3:=keep1 k2.1 (by simp;omega) (fun e=>k2.2.2.2 _ (k1.2.2.2 _ (psp.live e)))
  have k4:=keep1 k3.1 (by simp;omega) (fun e=>k3.2.2.2 _ (k2.2.2.2 _ (k1.2.2.2 _ (pt.live e))))
  have hkp:keepP x.s q=(((x.s.keep q.wave).keep q.marks).keep q.spots).keep q.table:=rfl
  have hG:Grow x.s (keepP x.s q):=((k1.2.1.trans k2.2.1).trans k3.2.1).trans k4.2.1
  have hB:(keepP x.s q).busyN=x.s.busyN:=by rw [hkp,k4.2.2.1,k3.2.2.1,k2.2.2.1,k1.2.2.1]
  have hI:Inv (keepP x.s q) (q.wave::q.marks::q.spots::q.table::x.src::H):=k4.1.perm (by
    have e1:(q.table::q.spots::q.marks::q.wave::x.src::H)=[q.table,q.spots,q.marks,q.wave]++(x.src::H):=rfl
    have e2:(q.wave::q.marks::q.spots::q.table::x.src::H)=[q.wave,q.marks,q.spots,q.table]++(x.src::H):=rfl
    rw [e1,e2]
    refine List.Perm.append_right _ ?_
    have:[q.wave,q.marks,q.spots,q.table]=[q.table,q.spots,q.marks,q.wave].reverse:=rfl
    rw [this]
    exact (List.reverse_perm _).symm)
  obtain ⟨s1,hs1⟩: ∃s1,keepP x.s q=s1:=⟨_,rfl⟩
  rw [hs1] at hG hB hI
  clear hkp k1 k2 k3 k4
  have hlt:LR s1 q.table (docsM ds):=⟨by obtain ⟨t,a,b⟩:=pt.ex;exact ⟨t,a.grow hG,b⟩,fun e=>hI.pos (by simp) e,by simp [docsM];omega⟩
  have hd:=hR.id d (by simp)
  have h40:=(right_len hR.right).2 ds.length
  rw [getD_at txt_new] at h40
  have hnn: ∀y∈docsM ds,y.1≠d.1:=fun y hy e=>by
    unfold docsM at hy
    obtain ⟨z,hz,rfl⟩:=List.mem_map.1 hy
    have hn:=hR.nodup
    rw [List.map_append,List.nodup_append] at hn
    exact hn.2.2 z.1 (List.mem_map.2 ⟨z,hz,rfl⟩) d.1 (by simp) e
  have hdl:(docsM ds).length=ds.length:=by simp [docsM]
  obtain ⟨r,e1,R⟩:=tAdd_R hI (by simp;omega) hlt (x:=(d.1,(d.2.length:Int))) ⟨hd.1,hd.2,by omega,by omega⟩ hnn (by omega)
  have hst:x.start={x with s:=s1,p:=q,begun:=true,row:=(ds.length:Int)}:=by
    unfold Pt.start
    rw [hq]
    rw [hs1,hlt.len hI,hdl]
  have hb:x.begin=some (x.start.swap 3 r):=by
    unfold Pt.begin
    rw [hst]
    dsimp only
    rw [hlt.all hI,Option.bind_some,if_pos (by omega),h.id,h.text,e1];rfl
  obtain ⟨i1,g1,c1,q1⟩:=swap_T (H1:=[q.wave,q.marks,q.spots]) (H2:=x.src::H) R
  have E:=swap_eq x.start 3 r
  have hat:x.start.p.at 3=q.table:=by rw [hst];rfl
  rw [hat] at E
  rw [hb,E]
  generalize nextA true q.table r=n1 at*
  rw [hst]
  have hgs:=hG.size
  refine ⟨_,rfl,hG.trans g1,by dsimp only;omega,?_⟩
  rcases q1 with ⟨z,t1,p1,p2⟩|⟨z,a2,a3⟩
  · refine .inl ⟨by rw [if_pos z],rfl,?_⟩
    have hX:=partX_old (d:=d) hrd
    have hdn:docsM (ds++[d])=docsM ds++[(d.1,(d.2.length:Int))]:=by unfold docsM;simp
    refine ⟨?_,?_,?_,?_,?_,h.id,h.text,h.rt,rfl,h.over,h.root,?_,?_⟩
    · exact i1.perm (by exact List.Perm.refl _)
    · show HasW n1.2.2 q.wave _
      rw [hX];obtain ⟨t,a,b⟩:=pw.ex;exact ⟨t,(a.grow hG).grow g1,b⟩
    · show HasB n1.2.2 q.marks _
      rw [hX];obtain ⟨t,a,b⟩:=pm.ex;exact ⟨t,(a.grow hG).grow g1,b⟩
    · show HasL n1.2.2 q.spots _
      rw [hX];obtain ⟨t,a,b⟩:=psp.ex;exact ⟨t,(a.grow hG).grow g1,b⟩
    · show HasL n1.2.2 n1.1 _
      rw [hdn];exact ⟨t1,p1,p2⟩
    · show x.pos=((d.2.length+1:Nat):Int) - 1
      rw [h.pos];omega
    · intro _
      show (ds.length:Int)=_
      rw [show d.2.length+1 - 1=d.2.length by omega,rowI_end]
  · refine .inr ⟨by rw [if_neg (by omega)];exact z,by omega,⟨?_,rfl,h.over,rfl⟩⟩
    exact i1.perm (List.Perm.refl _)
theorem end_T {x : Pt} {H : List Int} {ds : Docs} {d : Int × List UInt8} {rate : Int} (h : Pv x (x.src :: H) ds d rate 0) (hR : Right (ds ++ [d])) (hH : H.length ≤ 900) :
    ∃e y,x.step=some (true,e,y)∧Grow x.s y.s∧y.s.busyN≤x.s.busyN+1∧y.over=true∧
      ((e=0∧y.root≠0∧Inv y.s (y.root::H)∧VR y.s y.root (ds++[d]) rate)∨(e=2∧y.root=0∧x.s.busyN=x.s.size∧Inv y.s H)):=by
  obtain ⟨tt,ht1,ht2⟩:=h.t
  have htn:x.p.table≠0:=by
    rcases ht2 with ⟨-,q⟩|ht2
    · unfold docsM at q;simp at q
    · exact ht1.ne_ofL ht2
  have hmk:vMake x.s x.p=x.s.make ⟨6,x.p.wave,x.p.marks,x.p.spots,x.p.table,0,0⟩:=by
    unfold vMake;rw [if_neg (fun q=>htn q.2.2.2)]
  have hst:x.step=some (true,(vMake x.s x.p).2.1,({x with s:=(vMake x.s x.p).2.2,root:=(vMake x.s x.p).1}:Pt).stop):=by
    unfold Pt.step
    rw [h.over,if_neg (by decide),h.begun,if_pos rfl,if_neg (by have:=h.pos;omega)]
  rw [hst,hmk]
  rcases h.inv.make (by simp;omega) ⟨6,x.p.wave,x.p.marks,x.p.spots,x.p.table,0,0⟩ ⟨by dsimp only;omega,by dsimp only;omega⟩ U64.zero (fun k hk h0=>h.inv.pos (by simp [Nd.kids] at hk;simp;rcases hk with q|q|q|q<;>simp [q]) h0) with ⟨m1,m2⟩|⟨f,f1,f2,f3,m1,m2,m3,m4,m5,m6,m7⟩
  · rw [m1]
    have hI:Inv x.s (x.src::x.p.wave::x.p.marks::x.p.spots::x.p.table::H):=h.inv.perm (by
      have e1:(x.p.wave::x.p.marks::x.p.spots::x.p.table::x.src::H)=[x.p.wave,x.p.marks,x.p.spots,x.p.table]++x.src::H:=rfl
      rw [e1];exact List.perm_middle)
    obtain ⟨s1,s2,s3⟩:=stop_T (x:={x with s:=x.s,root:=0}) hI h.over
    exact ⟨_,_,rfl,s2,Nat.le_trans (Nat.le_of_eq s3) (Nat.le_succ _),rfl, .inr ⟨rfl,rfl,m2,s1⟩⟩
  · generalize x.s.make ⟨6,x.p.wave,x.p.marks,x.p.spots,x.p.table,0,0⟩=r at*
    have hI:Inv r.2.2 (x.src::x.p.wave::x.p.marks::x.p.spots::x.p.table::((f:Int)::H)):=m3.perm (by
      have e1:((f:Int)::x.p.wave::x.p.marks::x.p.spots::x.p.table::x.src::H)=[(f:Int),x.p.wave,x.p.marks,x.p.spots,x.p.table]++x.src::H:=rfl
      rw [e1]
      refine List.perm_middle.trans (List.Perm.cons _ ?_)
      show ((f:Int)::([x.p.wave,x.p.marks,x.p.spots,x.p.table]++H)).Perm ([x.p.wave,x.p.marks,x.p.spots,x.p.table]++(f:Int)::H)
      exact List.perm_middle.symm)
    obtain ⟨s1,s2,s3⟩:=stop_T (x:={x with s:=r.2.2,root:=r.1}) hI h.over
    have hf0:(f:Int)≠0:=by omega
    have hfh:r.2.2.has (f:Int)=true:=has_iff.2 ⟨by omega,by rw [m4.size];omega,by simpa using m5⟩
    obtain ⟨tw,w1,w2⟩:=h.w
    obtain ⟨tm,n1,n2⟩:=h.m
    obtain ⟨tsp,p1,p2⟩:=h.sp
    have hX:=partX_new hR.right
    rw [hX] at w2 n2 p2
    have hrep:Rep r.2.2 (f:Int) (.nd 6 0 0 tw tm tsp tt):= .nd hfh (by rw [get_nat hfh,Int.toNat_natCast,m6]) (w1.grow m4) (n1.grow m4) (p1.grow m4) (ht1.grow m4)
    refine ⟨_,_,rfl,m4.trans s2,?_,rfl, .inl ⟨m2,?_,?_,?_⟩⟩
    · rw [s3];exact Nat.le_of_eq m7
    · show r.1≠0
      rw [m1];exact hf0
    · show Inv _ (r.1::H)
      rw [m1];exact s1
    · show VR _ r.1 _ _
      rw [m1]
      exact ⟨.inr ⟨_,hrep.grow s2,tw,tm,tsp,tt,rfl,w2,n2,p2,ht2⟩,fun _=>s1.pos (by simp) hf0⟩
end
section
open Go.RowKit
theorem insI_rise (x:Int): ∀{l:List Int},l.Pairwise (· ≤ ·)→(insI x l).Pairwise (· ≤ ·)
  | [],_=>by simp [insI]
  | y::l,h=>by
    unfold insI
    rw [List.pairwise_cons] at h
    split
    · rename_i hxy
      refine List.pairwise_cons.2 ⟨fun z hz=> ?_,List.pairwise_cons.2 h⟩
      rcases List.mem_cons.1 hz with rfl|hz
      · exact hxy
      · have:=h.1 z hz;omega
    · rename_i hxy
      refine List.pairwise_cons.2 ⟨fun z hz=> ?_,insI_rise x h.2⟩
      rcases List.mem_cons.1 ((insI_perm' x l).mem_iff.1 hz) with rfl|hz
      · omega
      · exact h.1 z hz
theorem sortI_rise: ∀l:List Int,(sortI l).Pairwise (· ≤ ·)
  | []=>List.Pairwise.nil
  | x::l=>insI_rise x (sortI_rise l)
section
variable {x : Ct} {H : List Int} {ds : Docs} {k : Nat} {d : Int × List UInt8} {rate : Int}
theorem sort_found (hR:Right ds) (hk:ds[k]? =some d):sortI ((foundN ds k d.2.length (d.2.length+1)).map fun i:Nat=>(i:Int))=(posX d.1 (rowsM ds).length (rowsM ds)).map fun i:Nat=>(i:Int):=by
  refine List.Perm.eq_of_pairwise (le:=(· ≤ ·)) (fun a b _ _ h1 h2=>by omega) (sortI_rise _) ?_ ((sortI_perm' _).trans ((found_perm hR hk).map _))
  exact List.pairwise_map.2 ((posX_rise _ _ _).imp fun h=>by omega)
theorem beginC_T (h : C0 x H ds k d rate d.2.length) (hR : Right ds) (hk : ds[k]? = some d) (hH : H.length ≤ 900) :
    ∃y,x.find=some y∧y.src=x.src∧Grow x.s y.s∧y.s.busyN=x.s.busyN∧Cv y (x.src::H) (rowsM ds) (docsM ds) d.1 rate (rowsM ds).length:=by
  have hpl:=h.place
  rw [Nat.sub_self] at hpl
  have hn:=vnext_stop h.inv h.vr hR (txt_at hk)
  rw [←hpl] at hn
  have hrw:(x.found 0).rows=(foundN ds k d.2.length (d.2.length+1)).map fun i:Nat=>(i:Int):=by
    show x.rows++[x.place]=_
    rw [foundN_succ,List.map_append,h.rows,hpl,Nat.sub_self];rfl
  have hl: ¬(((x.found 0).rows.length:Nat):Int)≤x.length:=by
    rw [hrw,List.length_map,foundN_len,h.len];omega
  obtain ⟨pw,pm,psp,pt,hvi⟩:=h.vr.parts h.inv (by have:=hR.len;omega)
  obtain ⟨q,hq⟩: ∃q,vOf x.s x.src=q:=⟨_,rfl⟩
  rw [hq] at pw pm psp pt
  have k1:=keep1 h.inv (by simp;omega) pw.live
  have k2:=keep1 k1.1 (by simp;omega) (fun e=>k1.2.2.2 _ (pm.live e))
  have k3:=keep1 k2.1 (by simp;omega) (fun e=>k2.2.2.2 _ (k1.2.2.2 _ (psp.live e)))
  have k4:=keep1 k3.1 (by simp;omega) (fun e=>k3.2.2.2 _ (k2.2.2.2 _ (k1.2.2.2 _ (pt.live e))))
  have hkp:keepP x.s q=(((x.s.keep q.wave).keep q.marks).keep q.spots).keep q.table:=rfl
  have hG:Grow x.s (keepP x.s q):=((k1.2.1.trans k2.2.1).trans k3.2.1).trans k4.2.1
  have hB:(keepP x.s q).busyN=x.s.busyN:=by rw [hkp,k4.2.2.1,k3.2.2.1,k2.2.2.1,k1.2.2.1]
  have hI:Inv (keepP x.s q) (q.wave::q.marks::q.spots::q.table::x.src::H):=k4.1.perm (by
    have e1:(q.table::q.spots::q.marks::q.wave::x.src::H)=[q.table,q.spots,q.marks,q.wave]++(x.src::H):=rfl
    have e2:(q.wave::q.marks::q.spots::q.table::x.src::H)=[q.wave,q.marks,q.spots,q.table]++(x.src::H):=rfl
    rw [e1,e2]
    refine List.Perm.append_right _ ?_
    have:[q.wave,q.marks,q.spots,q.table]=[q.table,q.spots,q.marks,q.wave].reverse:=rfl
    rw [this]
    exact (List.reverse_perm _).symm)
  have hb:(x.found 0).begin={x.found 0 with rows:=sortI (x.found 0).rows,p:=q,s:=keepP x.s q,owns:=true}:=by
    unfold Ct.begin
    rw [show vOf (x.found 0).s (x.found 0).src=q from hq];rfl
  refine ⟨(x.found 0).begin,?_,?_,?_,?_,?_⟩
  · unfold Ct.find
    rw [hn,Option.map_some]
    dsimp only
    rw [if_neg hl]
  · rw [hb];rfl
  · rw [hb];exact hG
  · rw [hb];exact hB
  · rw [hb]
    refine ⟨hI,?_,?_,?_,?_,h.idn,rfl,h.over,h.root,?_⟩
    · rw [cutX_all];obtain ⟨t,a,b⟩:=pw.ex;exact ⟨t,a.grow hG,b⟩
    · rw [cutX_all];obtain ⟨t,a,b⟩:=pm.ex;exact ⟨t,a.grow hG,b⟩
    · rw [cutX_all];obtain ⟨t,a,b⟩:=psp.ex;exact ⟨t,a.grow hG,b⟩
    · obtain ⟨t,a,b⟩:=pt.ex;exact ⟨t,a.grow hG,b⟩
    · show sortI (x.found 0).rows=_
      rw [hrw];exact sort_found hR hk
end
end
section
open Go.RowKit
theorem stopC_T {x:Ct} {H:List Int} (h:Inv x.s (x.src::x.p.wave::x.p.marks::x.p.spots::x.p.table::H)) (ho:x.over=false) (hw:x.owns=true):Inv x.stop.s H∧Grow x.s x.stop.s∧x.stop.s.busyN=x.s.busyN:=by
  have hh:x.held=(sortI [x.src,x.p.wave,x.p.marks,x.p.spots,x.p.table]).filter fun h=> !decide (h=0):=by unfold Ct.held Ct.list;rw [ho,if_neg (by decide),hw,if_pos rfl]
  show Inv (x.s.dropAll x.held) H∧Grow x.s (x.s.dropAll x.held)∧(x.s.dropAll x.held).busyN=_
  rw [hh]
  have h1:Inv x.s ([x.src,x.p.wave,x.p.marks,x.p.spots,x.p.table]++H):=h
  have h2:Inv x.s (sortI [x.src,x.p.wave,x.p.marks,x.p.spots,x.p.table]++H):=h1.perm ((sortI_perm' _).symm.append_right H)
  exact ⟨Inv.dropAll (inv_filter _ h2),Grow.dropAll _ _,busyN_dropAll _ _⟩
theorem rep_nil {s:Ar} {h:Int} {t:Tr} (hr:Rep s h t) (e:t= .nil):h=0:=by
  cases hr with
  | nil=>rfl
  | nd=>cases e
theorem cut_done {id:Int} {m:Nat} {X:List (Int×Int×Int)} (hm:m≤X.length) (h:posX id m X=[]):cutX id m X=X.filter (notOf id):=by
  rcases posX_last id X m hm with ⟨-,h2⟩|⟨r,y, -, -, -,h2, -⟩
  · rw [h2,cutX_zero]
  · rw [h] at h2;simp at h2
theorem endC_T {x : Ct} {H : List Int} {ds : Docs} {k : Nat} {d : Int × List UInt8} {rate : Int} {m : Nat} (h : Cv x (x.src :: H) (rowsM ds) (docsM ds) d.1 rate m) (hne : x.rows = []) (hm : m ≤ (rowsM ds).length) (hR : Right ds) (hk : ds[k]? = some d) (hH : H.length ≤ 900) :
    ∃e y,x.step=some (true,e,y)∧Grow x.s y.s∧y.s.busyN≤x.s.busyN+31∧y.over=true∧
      ((e=0∧Inv y.s (y.root::H)∧VR y.s y.root (ds.eraseIdx k) rate∧(ds.eraseIdx k=[]→y.root=0))∨(e=2∧x.s.size<x.s.busyN+31∧Inv y.s H∧y.root=0)):=by
  have hpos:posX d.1 m (rowsM ds)=[]:=by
    have:=h.rows;rw [hne] at this;exact List.map_eq_nil_iff.1 this.symm
  have hX:cutX d.1 m (rowsM ds)=rowsM (ds.eraseIdx k):=(cut_done hm hpos).trans (rowsM_era hR hk)
  have hlen:=hR.len
  have hdl:(docsM ds).length=ds.length:=by simp [docsM]
  have hlt:LR x.s x.p.table (docsM ds):=⟨h.t,fun e=>h.inv.pos (by simp) e,by omega⟩
  have hnd:((docsM ds).map (·.1)).Nodup:=by
    have:(docsM ds).map (·.1)=ds.map (·.1):=by unfold docsM;rw [List.map_map];rfl
    rw [this];exact hR.nodup
  have hat:(docsM ds)[k]? =some (d.1,(d.2.length:Int)):=by unfold docsM;rw [List.getElem?_map,hk];rfl
  obtain ⟨r,e1,R⟩:=tCut_R h.inv (by simp;omega) hlt hnd hat
  have hde:(docsM ds).eraseIdx k=docsM (ds.eraseIdx k):=by unfold docsM;rw [era_map]
  rw [hde] at R
  obtain ⟨i1,g1,c1,q1⟩:=swap_T (H1:=[x.p.wave,x.p.marks,x.p.spots]) (H2:=x.src::H) R
  have E:=swapC_eq x 3 r
  have hat3:x.p.at 3=x.p.table:=rfl
  rw [hat3] at E
  have hst:x.step=some (Ct.made (x.swap 3 r)):=by
    unfold Ct.step
    rw [h.over,if_neg (by decide),h.owns,if_neg (by decide),if_pos hne,h.idn,e1];rfl
  rw [hst,E]
  generalize nextA true x.p.table r=n at*
  have hgs:=g1.size
  have hI: ∀{s:Ar} {F:List Int},Inv s (x.p.wave::x.p.marks::x.p.spots::n.1::x.src::F)→Inv s (x.src::x.p.wave::x.p.marks::x.p.spots::n.1::F):=fun {s F} hi=>hi.perm (by
    have e1:(x.p.wave::x.p.marks::x.p.spots::n.1::x.src::F)=[x.p.wave,x.p.marks,x.p.spots,n.1]++x.src::F:=rfl
    rw [e1];exact List.perm_middle)
  replace i1:Inv n.2.2 (x.p.wave::x.p.marks::x.p.spots::n.1::x.src::H):=i1
  unfold Ct.made
  rcases q1 with ⟨z,t',p1,p2⟩|⟨z,z2,z3⟩
  · rw [if_pos z]
    dsimp only
    rw [if_pos rfl]
    have hpp:x.p.put 3 n.1=⟨x.p.wave,x.p.marks,x.p.spots,n.1⟩:=rfl
    rw [hpp]
    unfold vMake
    dsimp only
    by_cases hz:x.p.wave=0∧x.p.marks=0∧x.p.spots=0∧n.1=0
    · rw [if_pos hz]
      obtain ⟨s1,s2,s3⟩:=stopC_T (x:={x with s:=n.2.2,p:=⟨x.p.wave,x.p.marks,x.p.spots,n.1⟩,root:=0}) (hI i1) h.over h.owns
      refine ⟨_,_,rfl,g1.trans s2,by rw [s3];show n.2.2.busyN≤_;omega,rfl, .inl ⟨rfl,s1.zero_cons (by omega),⟨.inl ⟨rfl,?_⟩,fun e=>absurd rfl e⟩,fun _=>rfl⟩⟩
      have ht:=p1
      rw [hz.2.2.2] at ht
      have hnil:docsM (ds.eraseIdx k)=[]:=by
        rcases p2 with ⟨-,q⟩|q
        · exact q
        · exact absurd rfl (ht.ne_ofL q)
      unfold docsM at hnil
      exact List.map_eq_nil_iff.1 hnil
    · rw [if_neg hz]
      rcases i1.make (by simp;omega) ⟨6,x.p.wave,x.p.marks,x.p.spots,n.1,0,0⟩ ⟨by dsimp only;omega,by dsimp only;omega⟩ U64.zero (fun k hk h0=>i1.pos (by simp [Nd.kids] at hk;simp;rcases hk with q|q|q|q<;>simp [q]) h0) with ⟨m1,m2⟩|⟨f,f1,f2,f3,m1,m2,m3,m4,m5,m6,m7⟩
      · rw [m1]
        obtain ⟨s1,s2,s3⟩:=stopC_T (x:={x with s:=n.2.2,p:=⟨x.p.wave,x.p.marks,x.p.spots,n.1⟩,root:=0}) (hI i1) h.over h.owns
        exact ⟨_,_,rfl,g1.trans s2,by rw [s3];show n.2.2.busyN≤_;omega,rfl, .inr ⟨rfl,by omega,s1,rfl⟩⟩
      · generalize n.2.2.make ⟨6,x.p.wave,x.p.marks,x.p.spots,n.1,0,0⟩=v at*
        have hJ:Inv v.2.2 (x.src::x.p.wave::x.p.marks::x.p.spots::n.1::((f:Int)::H)):=m3.perm (by
          have e1:((f:Int)::x.p.wave::x.p.marks::x.p.spots::n.1::x.src::H)=[(f:Int),x.p.wave,x.p.marks,x.p.spots,n.1]++x.src::H:=rfl
          rw [e1]
          refine List.perm_middle.trans (List.Perm.cons _ ?_)
          show ((f:Int)::([x.p.wave,x.p.marks,x.p.spots,n.1]++H)).Perm ([x.p.wave,x.p.marks,x.p.spots,n.1]++(f:Int)::H)
          exact List.perm_middle.symm)
        obtain ⟨s1,s2,s3⟩:=stopC_T (x:={x with s:=v.2.2,p:=⟨x.p.wave,x.p.marks,x.p.spots,n.1⟩,root:=v.1}) hJ h.over h.owns
        have hf0:(f:Int)≠0:=by omega
        have hfh:v.2.2.has (f:Int)=true:=has_iff.2 ⟨by omega,by rw [m4.size];omega,by simpa using m5⟩
        obtain ⟨tw,w1,w2⟩:=h.w
        obtain ⟨tm,n1,n2⟩:=h.bm
        obtain ⟨tsp,o1,o2⟩:=h.sp
        rw [hX] at w2 n2 o2
        have hrep:Rep v.2.2 (f:Int) (.nd 6 0 0 tw tm tsp t'):= .nd hfh (by rw [get_nat hfh,Int.toNat_natCast,m6]) ((w1.grow g1).grow m4) ((n1.grow g1).grow m4) ((o1.grow g1).grow m4) (p1.grow m4)
        refine ⟨_,_,rfl,(g1.trans m4).trans s2,?_,rfl, .inl ⟨m2,?_,?_,fun he=>absurd ?_ hz⟩⟩
        rotate_left 3
        · rw [he] at w2 n2 o2 p2
          have e1:rowsM ([]:Docs)=[]:=rfl
          rw [e1] at w2 n2 o2
          refine ⟨?_,?_,?_,?_⟩
          · cases w2 with
            | nil=>exact rep_nil w1 rfl
            | node h1=>exact absurd rfl h1
          · rcases n2 with ⟨rfl, -⟩|⟨h1, -⟩|h1
            · exact rep_nil n1 rfl
            · exact absurd rfl h1.ne
            · exact absurd rfl h1.ne
          · rcases o2 with ⟨rfl, -⟩|h1
            · exact rep_nil o1 rfl
            · exact absurd rfl h1.ne
          · rcases p2 with ⟨rfl, -⟩|h1
            · exact rep_nil p1 rfl
            · exact absurd rfl h1.ne
        · rw [s3];show v.2.2.busyN≤_;omega
        · show Inv _ (v.1::H)
          rw [m1];exact s1
        · show VR _ v.1 _ _
          rw [m1]
          exact ⟨.inr ⟨_,hrep.grow s2,tw,tm,tsp,t',rfl,w2,n2,o2,p2⟩,fun _=>s1.pos (by simp) hf0⟩
  · rw [if_neg (show¬r.2.1=0 by omega)]
    dsimp only
    rw [if_neg (show¬r.2.1=0 by omega)]
    obtain ⟨s1,s2,s3⟩:=stopC_T (x:={x with s:=n.2.2,p:=x.p.put 3 n.1}) (hI i1) h.over h.owns
    exact ⟨_,_,rfl,g1.trans s2,by rw [s3];show n.2.2.busyN≤_;omega,rfl, .inr ⟨z,by omega,s1,h.root⟩⟩
end
section
open Go.RowKit
theorem VR.move {s s':Ar} {h:Int} {ds:Docs} {rate:Int} (hv:VR s h ds rate) (hr: ∀t,Rep s h t→Rep s' h t) (hl:h≠0→s'.cnt h≠0):VR s' h ds rate:=by
  refine ⟨?_,hl⟩
  rcases hv.ex with h0|⟨t,ht,hvt⟩
  · exact .inl h0
  · exact .inr ⟨t,hr t ht,hvt⟩
def Stage (x:Pt) (H:List Int) (ds:Docs) (d:Int×List UInt8) (rate:Int) (j:Nat):Prop:=
  (j=d.2.length+3∧P0 x H ds d rate)∨(∃a,j=a+1∧a≤d.2.length+1∧Pv x (x.src::H) ds d rate a)∨(j=0∧x.over=true∧x.root≠0∧Inv x.s (x.root::H)∧VR x.s x.root (ds++[d]) rate)
section
variable {x : Pt} {H : List Int} {ds : Docs} {d : Int × List UInt8} {rate : Int}
theorem Stage.left {j:Nat} (h:Stage x H ds d rate j) (hl:d.2.length≤40):x.left=(j:Int):=by
  unfold Pt.left
  rcases h with ⟨rfl,h⟩|⟨a,rfl,ha,h⟩|⟨rfl,h, -⟩
  · rw [h.over,if_neg (by decide),h.begun,if_neg (by decide),h.text,w64 (by omega) (by omega)];omega
  · rw [h.over,if_neg (by decide),h.begun,if_pos rfl,h.pos,w64 (by omega) (by omega)];omega
  · rw [h,if_pos rfl];rfl
def Stage.list (x:Pt) (H:List Int) (j:Nat):List Int:=if j=0 then x.root::H else if x.begun then x.p.wave::x.p.marks::x.p.spots::x.p.table::x.src::H else x.src::H
theorem Stage.list_len (x:Pt) (H:List Int) (j:Nat):(Stage.list x H j).length≤H.length+5:=by
  unfold Stage.list
  split
  · simp
  · split<;>simp
theorem Stage.list_mem (x:Pt) (H:List Int) (j:Nat) {k:Int} (hk:k∈H):k∈Stage.list x H j:=by
  unfold Stage.list
  split
  · simp [hk]
  · split<;>simp [hk]
theorem Stage.inv {j:Nat} (h:Stage x H ds d rate j):Inv x.s (Stage.list x H j):=by
  unfold Stage.list
  rcases h with ⟨rfl,h⟩|⟨a,rfl,ha,h⟩|⟨rfl,h,h2,h3, -⟩
  · rw [if_neg (by omega),h.begun,if_neg (by decide)];exact h.inv
  · rw [if_neg (by omega),h.begun,if_pos rfl];exact h.inv
  · rw [if_pos rfl];exact h3
theorem Pv.work {a:Nat} (h:Pv x H ds d rate a) {s':Ar} (hI:Inv s' (x.p.wave::x.p.marks::x.p.spots::x.p.table::H)) (hs:Stay x.s s' (x.p.wave::x.p.marks::x.p.spots::x.p.table::H)):Pv {x with s:=s'} H ds d rate a:=
  ⟨hI,h.w.stay hs (by simp),h.m.stay hs (by simp),h.sp.stay hs (by simp),h.t.stay hs (by simp),h.id,h.text,h.rt,h.begun,h.over,h.root,h.pos,h.row⟩
theorem partX_le (hR:refRight (txt (ds++[d]))=true) (a:Nat):(partX ds d a).length≤(rowsM (ds++[d])).length:=by
  rw [←partX_new hR]
  unfold partX
  rw [List.length_map,List.length_map,part_zero txt_len]
  exact List.length_filter_le _ _
def PtIn (x:Pt):Prop:= -1≤x.pos∧x.pos≤x.text.length∧x.text.length≤50000∧1≤x.rate
theorem stage_step {j : Nat} (h : Stage x H ds d rate (j + 1)) (hR : Right (ds ++ [d])) (hr1 : 1 ≤ rate) (hH : H.length ≤ 900) (hroom : x.s.busyN + costR (rowsM (ds ++ [d])).length ≤ x.s.size) :
    PtIn x∧ ∃y u,x.step=some (decide (j=0),0,y)∧y.s.work 1073741824=some u∧Stage {y with s:=u.2} H ds d rate j∧u.2.wait=[]∧u.2.size=x.s.size∧
      Stage y H ds d rate j∧(1≤j→y.src=x.src)∧Inv u.2 (Stage.list y H j)∧Stay x.s u.2 H∧ ∀k t,k∈Stage.list y H j→Rep x.s k t→Rep u.2 k t:=by
  have h40:=(right_len hR.right).2 ds.length
  rw [getD_at txt_new] at h40
  have key:PtIn x∧ ∃y,x.step=some (decide (j=0),0,y)∧Grow x.s y.s∧Stage y H ds d rate j∧(1≤j→y.begun=true∧y.src=x.src):=by
    rcases h with ⟨hj,h⟩|⟨a,hj,ha,h⟩|⟨hj, -⟩
    · obtain rfl:j=d.2.length+2:=by omega
      refine ⟨⟨by rw [h.pos];omega,by rw [h.pos,h.text];exact Int.le_refl _,by rw [h.text];omega,by rw [h.rt];exact hr1⟩,?_⟩
      obtain ⟨r,e1,g1,c1,q1⟩:=begin_T h hR hH
      rcases q1 with ⟨z,hs,hp⟩|⟨-,hf, -⟩
      · refine ⟨r.2,?_,g1, .inr (.inl ⟨d.2.length+1,rfl,Nat.le_refl _,by rw [hs];exact hp⟩),fun _=>⟨hp.begun,hs⟩⟩
        unfold Pt.step
        rw [h.over,if_neg (by decide),h.begun,if_neg (by decide),e1]
        show some (Pt.asked r)=_
        unfold Pt.asked
        rw [if_pos z,hp.over,decide_eq_false (by omega)]
      · unfold costR at hroom;omega
    · obtain rfl:j=a:=by omega
      refine ⟨⟨by rw [h.pos];omega,by rw [h.pos,h.text];omega,by rw [h.text];omega,by rw [h.rt];exact hr1⟩,?_⟩
      cases j with
      | zero=>
        obtain ⟨e,y,e1,g1,c1,o1,q1⟩:=end_T h hR hH
        rcases q1 with ⟨rfl,hr0,hI,hv⟩|⟨-, -,hf, -⟩
        · exact ⟨y,by rw [e1];rfl,g1, .inr (.inr ⟨rfl,o1,hr0,hI,hv⟩),fun q=>by omega⟩
        · unfold costR at hroom;omega
      | succ b=>
        obtain ⟨r,e1,g1,c1,q1⟩:=pinsert_T h hR (by omega) (by simp;omega)
        rcases q1 with ⟨z,hs,hp⟩|⟨-,hf, -⟩
        · refine ⟨r.2,?_,g1, .inr (.inl ⟨b,rfl,by omega,by rw [hs];exact hp⟩),fun _=>⟨hp.begun,hs⟩⟩
          unfold Pt.step
          rw [h.over,if_neg (by decide),h.begun,if_pos rfl,if_pos (by rw [h.pos];omega),e1]
          show some (Pt.asked r)=_
          unfold Pt.asked
          rw [if_pos z,hp.over,decide_eq_false (by omega)]
        · have:=partX_le hR.right (b+1)
          unfold costR at hroom hf;omega
    · omega
  have hx0:=h.inv
  obtain ⟨hin,y,e1,g1,hy,hyb⟩:=key
  refine ⟨hin,y,?_⟩
  have hI:=hy.inv
  obtain ⟨u,w1,w2,w3, -,w5⟩:=hI.work (by have:=Stage.list_len y H j;omega) 1073741824
  refine ⟨u,e1,w1,?_,w5 (by omega),w3.size.trans g1.size,hy,fun q=>(hyb q).2,w2,((g1.stay hx0).mono fun k hk _=>Stage.list_mem x H (j+1) hk).trans (w3.mono fun k hk _=>Stage.list_mem y H j hk),fun k t hk ht=>(ht.grow g1).held w3 hk⟩
  rcases hy with ⟨hj,h0⟩|⟨a,hj,ha,hp⟩|⟨hj,o,r0,hI0,hv⟩
  · exact absurd (hyb (by omega)).1 (by rw [h0.begun];decide)
  · refine .inr (.inl ⟨a,hj,ha,?_⟩)
    unfold Stage.list at w2 w3
    rw [if_neg (by omega),hp.begun,if_pos rfl] at w2 w3
    exact hp.work w2 w3
  · subst hj
    unfold Stage.list at w2 w3
    rw [if_pos rfl] at w2 w3
    exact .inr (.inr ⟨rfl,o,r0,w2,hv.move (fun t ht=>ht.held w3 (by simp)) (fun q=>w2.pos (by simp) q)⟩)
theorem stage_stop {j:Nat} (h:Stage x H ds d rate (j+1)) (hH:H.length≤900):Inv x.stop.s H∧Grow x.s x.stop.s∧x.over=false:=by
  rcases h with ⟨hj,h⟩|⟨a,hj,ha,h⟩|⟨hj, -⟩
  · have hI : Inv x.s (x.src :: x.p.wave :: x.p.marks :: x.p.spots :: x.p.table :: H) := by
      rw [h.p0]
      have h1:=(((h.inv.zero_cons (by simp;omega)).zero_cons (by simp;omega)).zero_cons (by simp;omega)).zero_cons (by simp;omega)
      refine h1.perm ?_
      have e1:((0:Int)::0::0::0::x.src::H)=[0,0,0,0]++x.src::H:=rfl
      rw [e1];exact List.perm_middle
    obtain ⟨a,b, -⟩:=stop_T hI h.over
    exact ⟨a,b,h.over⟩
  · have hI : Inv x.s (x.src :: x.p.wave :: x.p.marks :: x.p.spots :: x.p.table :: H) := h.inv.perm (by
      have e1:(x.p.wave::x.p.marks::x.p.spots::x.p.table::x.src::H)=[x.p.wave,x.p.marks,x.p.spots,x.p.table]++x.src::H:=rfl
      rw [e1];exact List.perm_middle)
    obtain ⟨a,b, -⟩:=stop_T hI h.over
    exact ⟨a,b,h.over⟩
  · omega
theorem root_refs1 {s:Ar} {root:Int} (hI:Inv s [root]) (hw:s.wait=[]) (h0:root≠0):s.refs root=0:=by
  obtain ⟨rk,hrk⟩:=hI.rank
  have hlt: ∀{x k:Int},s.has x=true→k∈(s.get x).kids→k≠0→rk k.toNat<rk x.toNat:=fun {x k} hx hkx hk0=>by
    obtain ⟨n,rfl,n1,n2,n3⟩:=has_nat hx
    rw [get_nat hx,Int.toNat_natCast] at hkx
    rw [Int.toNat_natCast]
    exact hrk n n1 n2 n3 k hkx hk0
  have hall: ∀x,Rc s [root] x→rk x.toNat≤rk root.toNat:=fun x hx=>by
    induction hx with
    | held h1 h2=>rw [List.mem_singleton.1 h1];exact Nat.le_refl _
    | @kid y k hr h1 h2 ih=>exact Nat.le_of_lt (Nat.lt_of_lt_of_le (hlt (hI.rc hr).1 h1 h2) ih)
  refine refsTo_zero _ _ _ _ fun n n1 n2 n3 hm=> ?_
  have hn:s.has (n:Int)=true:=has_iff.2 ⟨by omega,by omega,by simpa using n3⟩
  have hm':root∈(s.get (n:Int)).kids:=by rw [get_nat hn,Int.toNat_natCast];exact hm
  have h1:=hlt hn hm' h0
  have h2:=hall _ (hI.reached hw hn)
  omega
theorem cnt_one {s:Ar} {root:Int} (hI:Inv s [root]) (hw:s.wait=[]) (h0:root≠0):s.cnt root=1:=by
  obtain ⟨n,rfl,n1,n2,n3⟩:=has_nat (hI.held root (by simp) h0)
  rw [Ar.cnt_nat n1 n2,hI.cnt n n1 n2 n3,root_refs1 hI hw h0]
  simp
def Sz (s:Ar) (B:Nat) (k:Int):Prop:= ∃t,Rep s k t∧8*t.size≤B
theorem VR.sz {s:Ar} {k:Int} {ds':Docs} {rate':Int} (hv:VR s k ds' rate'):Sz s (2048+56*(rowsM ds').length+16*ds'.length) k:=by
  rcases hv.ex with ⟨rfl,rfl⟩|⟨t,hr,tw,tm,tsp,tt,rfl,h1,h2,h3,h4⟩
  · exact ⟨.nil, .nil,by simp [Tr.size]⟩
  · refine ⟨_,hr,?_⟩
    simp only [Tr.size]
    have a1:=h1.size;have a2:=h2.size;have a3:=h3.size;have a4:=h4.size
    have b1:=rowS_length rate' (rowsM ds')
    have b2:(rowW (rowsM ds')).length=(rowsM ds').length:=by simp [rowW]
    have b3:(rowM rate' (rowsM ds')).length=(rowsM ds').length:=by simp [rowM]
    have b4:(docsM ds').length=ds'.length:=by simp [docsM]
    omega
theorem sz_reps {s:Ar} {B:Nat}: ∀{H:List Int},(∀k∈H,Sz s B k)→ ∃T,Reps s H T∧8*sizes T≤H.length*B
  | [],_=>⟨[],trivial,by simp [sizes]⟩
  | k::H,h=>by
    obtain ⟨t,a,b⟩:=h k (by simp)
    obtain ⟨T,c,e⟩:=sz_reps (H:=H) fun q hq=>h q (by simp [hq])
    refine ⟨t::T,⟨a,c⟩,?_⟩
    have e1:sizes (t::T)=t.size+sizes T:=by simp [sizes]
    have e2:(H.length+1)*B=H.length*B+B:=Nat.succ_mul _ _
    rw [e1,List.length_cons,e2]
    omega
theorem stage_busy {j B : Nat} (h : Stage x H ds d rate j) (hR : Right (ds ++ [d])) (hw : x.s.wait = []) (hs : j ≠ 0 → Sz x.s B x.src) (hH : ∀ k ∈ H, Sz x.s B k) :
    8*x.s.busyN≤(H.length+1)*B+2048+56*(rowsM (ds++[d])).length+16*(ds.length+1):=by
  obtain ⟨T,hT1,hT2⟩:=sz_reps hH
  have e2:(H.length+1)*B=H.length*B+B:=Nat.succ_mul _ _
  rw [e2]
  rcases h with ⟨rfl,h⟩|⟨a,rfl,ha,h⟩|⟨rfl, -, -,hI,hv⟩
  · obtain ⟨t0,r0,b0⟩:=hs (by omega)
    have:=h.inv.busy_le hw (T:=t0::T) ⟨r0,hT1⟩
    have e:sizes (t0::T)=t0.size+sizes T:=by simp [sizes]
    omega
  · obtain ⟨t0,r0,b0⟩:=hs (by omega)
    obtain ⟨t1,a1,b1⟩:=h.w
    obtain ⟨t2,a2,b2⟩:=h.m
    obtain ⟨t3,a3,b3⟩:=h.sp
    obtain ⟨t4,a4,b4⟩:=h.t
    have:=h.inv.busy_le hw (T:=t1::t2::t3::t4::t0::T) ⟨a1,a2,a3,a4,r0,hT1⟩
    have e:sizes (t1::t2::t3::t4::t0::T)=t1.size+(t2.size+(t3.size+(t4.size+(t0.size+sizes T)))):=by simp [sizes]
    have c1:=b1.size;have c2:=b2.size;have c3:=b3.size;have c4:=b4.size
    have l1:=rowS_length rate (partX ds d a)
    have l2:(rowW (partX ds d a)).length=(partX ds d a).length:=by simp [rowW]
    have l3:(rowM rate (partX ds d a)).length=(partX ds d a).length:=by simp [rowM]
    have l4:(docsM (ds++[d])).length=ds.length+1:=by simp [docsM]
    have l5:=partX_le hR.right a
    omega
  · obtain ⟨t0,r0,b0⟩:=hv.sz
    have:=hI.busy_le hw (T:=t0::T) ⟨r0,hT1⟩
    have e:sizes (t0::T)=t0.size+sizes T:=by simp [sizes]
    rw [List.length_append,List.length_cons,List.length_nil] at b0
    omega
end
end
section
open Go.RowKit
theorem newC_T {s : Ar} {root : Int} {H : List Int} {ds : Docs} {k : Nat} {d : Int × List UInt8} {rate : Int} (hI : Inv s H) (hH : H.length ≤ 900) (hv : VR s root ds rate) (hk : ds[k]? = some d) :
    C0 (Ct.new s root d.1 (d.2.length:Int) (k:Int)) H ds k d rate 0∧Grow s (s.keep root)∧(s.keep root).busyN=s.busyN:=by
  have hg:=keep1 (k:=root) hI (by omega) hv.live
  refine ⟨⟨hg.1,hv.move (fun t ht=>ht.grow hg.2.1) (fun e=>hg.1.pos (by simp) e),rfl,rfl,rfl,?_,rfl,rfl,rfl⟩,hg.2.1,hg.2.2.1⟩
  show (k:Int)=((rowAt ds k (d.2.length - 0):Nat):Int)
  unfold rowAt
  rw [Nat.sub_zero,end_all (txt_at hk)]
def StageC (x:Ct) (H:List Int) (ds:Docs) (k:Nat) (d:Int×List UInt8) (rate:Int) (j:Nat):Prop:=
  (∃a,a≤d.2.length∧j+a=2*d.2.length+3∧C0 x H ds k d rate a)∨
  (∃m,m≤(rowsM ds).length∧j=x.rows.length+1∧Cv x (x.src::H) (rowsM ds) (docsM ds) d.1 rate m)∨
  (j=0∧x.over=true∧Inv x.s (x.root::H)∧VR x.s x.root (ds.eraseIdx k) rate∧(ds.eraseIdx k=[]→x.root=0))
section
variable {x : Ct} {H : List Int} {ds : Docs} {k : Nat} {d : Int × List UInt8} {rate : Int}
theorem rowsSy (hR:Right ds):Sy (rowW (rowsM ds)):=fun y hy=>by
  rw [rowW_all hR] at hy
  obtain ⟨r, -,rfl⟩:=List.mem_map.1 hy
  exact sym_bound r
theorem stepC_full {j : Nat} (h : StageC x H ds k d rate (j + 1)) (hR : Right ds) (hk : ds[k]? = some d) (hH : H.length ≤ 900) :
    ∃o e y,x.step=some (o,e,y)∧Grow x.s y.s∧y.s.busyN≤x.s.busyN+costR (rowsM ds).length∧
      ((e=0∧o=decide (j=0)∧StageC y H ds k d rate j∧(1≤j→y.src=x.src))∨(e=2∧o=true∧x.s.size<x.s.busyN+costR (rowsM ds).length∧y.over=true∧Inv y.s H∧y.root=0)):=by
  have hX:(rowsM ds).length≤500:=rowsM_small ds
  have hcost:50≤costR (rowsM ds).length:=by unfold costR;omega
  rcases h with ⟨a,ha,hj,h⟩|⟨m,hm,hj,h⟩|⟨hj, -⟩
  · by_cases e:a=d.2.length
    · subst e
      obtain ⟨y,e1,e2,e3,e4,e5⟩:=beginC_T h hR hk hH
      have hrl:y.rows.length=d.2.length+1:=by
        rw [e5.rows,List.length_map,←(found_perm hR hk).length_eq,foundN_len]
      refine ⟨_,0,y,?_,e3,by omega, .inl ⟨rfl,rfl, .inr (.inl ⟨_,Nat.le_refl _,by omega,by rw [e2];exact e5⟩),fun _=>e2⟩⟩
      unfold Ct.step
      rw [h.over,if_neg (by decide),h.owns,if_pos rfl,e1,decide_eq_false (by omega)];rfl
    · obtain ⟨y,e1,e2,e3,e4⟩:=findC_T h hR hk (by omega)
      refine ⟨_,0,y,?_,by rw [e2];exact Grow.refl _,by rw [e2];omega, .inl ⟨rfl,rfl, .inl ⟨a+1,by omega,by omega,e4⟩,fun _=>e3⟩⟩
      unfold Ct.step
      rw [h.over,if_neg (by decide),h.owns,if_pos rfl,e1,decide_eq_false (by omega)];rfl
  · by_cases e:x.rows=[]
    · have hj0:j=0:=by rw [e] at hj;simp at hj;exact hj
      obtain ⟨er,y,e1,g1,c1,o1,q1⟩:=endC_T h e hm hR hk hH
      rcases q1 with ⟨rfl,hI,hv,he⟩|⟨rfl,hf,hI,hr⟩
      · exact ⟨true,0,y,e1,g1,by omega, .inl ⟨rfl,(decide_eq_true hj0).symm, .inr (.inr ⟨hj0,o1,hI,hv,he⟩),fun q=>by omega⟩⟩
      · exact ⟨true,2,y,e1,g1,by omega, .inr ⟨rfl,rfl,by omega,o1,hI,hr⟩⟩
    · obtain ⟨r,e1,g1,c1,q1⟩:=takeC_T h hX (rowsSy hR) hm (by simp;omega) e
      have hpos:=List.length_pos_iff.2 e
      rcases q1 with ⟨z,hs,hrw,k',hk',hv⟩|⟨z,hf,hc⟩
      · refine ⟨_,0,r.2,?_,g1,c1, .inl ⟨rfl,rfl, .inr (.inl ⟨k',by omega,?_,by rw [hs];exact hv⟩),fun _=>hs⟩⟩
        · unfold Ct.step
          rw [h.over,if_neg (by decide),h.owns,if_neg (by decide),if_neg e,e1,decide_eq_false (by omega)]
          show some (Ct.asked r)=_
          unfold Ct.asked
          rw [if_pos z]
        · rw [hrw,List.length_dropLast];omega
      · have hI : Inv r.2.s (r.2.src :: r.2.p.wave :: r.2.p.marks :: r.2.p.spots :: r.2.p.table :: H) := by
          have h1:=hc.inv
          rw [←hc.src] at h1
          exact h1.perm (by
            have e1:(r.2.p.wave::r.2.p.marks::r.2.p.spots::r.2.p.table::r.2.src::H)=[r.2.p.wave,r.2.p.marks,r.2.p.spots,r.2.p.table]++r.2.src::H:=rfl
            rw [e1];exact List.perm_middle)
        obtain ⟨s1,s2,s3⟩:=stopC_T hI hc.over hc.owns
        refine ⟨true,2,r.2.stop,?_,g1.trans s2,by rw [s3];exact c1, .inr ⟨rfl,rfl,hf,rfl,s1,hc.root.trans h.root⟩⟩
        unfold Ct.step
        rw [h.over,if_neg (by decide),h.owns,if_neg (by decide),if_neg e,e1]
        show some (Ct.asked r)=_
        unfold Ct.asked
        rw [if_neg (by omega),z]
  · omega
theorem stepC_T {j : Nat} (h : StageC x H ds k d rate (j + 1)) (hR : Right ds) (hk : ds[k]? = some d) (hH : H.length ≤ 900) (hroom : x.s.busyN + costR (rowsM ds).length ≤ x.s.size) :
    ∃y,x.step=some (decide (j=0),0,y)∧Grow x.s y.s∧StageC y H ds k d rate j∧(1≤j→y.src=x.src)∧y.s.busyN≤x.s.busyN+costR (rowsM ds).length:=by
  obtain ⟨o,e,y,e1,g1,c1,q⟩:=stepC_full h hR hk hH
  rcases q with ⟨rfl,rfl,hs,hsrc⟩|⟨-, -,hf, -⟩
  · exact ⟨y,e1,g1,hs,hsrc,c1⟩
  · omega
theorem StageC.left {j:Nat} (h:StageC x H ds k d rate j) (hR:Right ds) (hk:ds[k]? =some d):x.left=(j:Int):=by
  have h40:=(right_len hR.right).2 k
  rw [getD_at (txt_at hk)] at h40
  have hX:(rowsM ds).length≤500:=rowsM_small ds
  unfold Ct.left
  rcases h with ⟨a,ha,hj,h⟩|⟨m,hm,hj,h⟩|⟨rfl,h, -⟩
  · have hl:x.rows.length=a:=by rw [h.rows,List.length_map,foundN_len]
    rw [h.over,if_neg (by decide),h.owns,if_neg (by decide),h.len,hl]
    generalize d.2.length=L at*
    rw [w64 (x:=2*(L:Int)) (by omega) (by omega),w64 (x:=2*(L:Int)+3) (by omega) (by omega),w64 (by omega) (by omega)]
    omega
  · have hl : x.rows.length ≤ 500 := by
      have h1:(posX d.1 m (rowsM ds)).length≤m:=by
        unfold posX
        have:=List.length_filter_le (fun i=>decide (((rowsM ds).getD i (0,0,0)).1=d.1)) (List.range m)
        rw [List.length_range] at this
        exact this
      rw [h.rows,List.length_map];omega
    rw [h.over,if_neg (by decide),h.owns,if_pos rfl,w64 (by omega) (by omega),hj]
    omega
  · rw [h,if_pos rfl];rfl
def StageC.list (x:Ct) (H:List Int) (j:Nat):List Int:=if j=0 then x.root::H else if x.owns then x.p.wave::x.p.marks::x.p.spots::x.p.table::x.src::H else x.src::H
theorem StageC.list_len (x:Ct) (H:List Int) (j:Nat):(StageC.list x H j).length≤H.length+5:=by
  unfold StageC.list
  split
  · simp
  · split<;>simp
theorem StageC.list_mem (x:Ct) (H:List Int) (j:Nat) {k:Int} (hk:k∈H):k∈StageC.list x H j:=by
  unfold StageC.list
  split
  · simp [hk]
  · split<;>simp [hk]
theorem StageC.inv {j:Nat} (h:StageC x H ds k d rate j):Inv x.s (StageC.list x H j):=by
  unfold StageC.list
  rcases h with ⟨a,ha,hj,h⟩|⟨m,hm,hj,h⟩|⟨rfl,h,h3, -⟩
  · rw [if_neg (by omega),h.owns,if_neg (by decide)];exact h.inv
  · rw [if_neg (by omega),h.owns,if_pos rfl];exact h.inv
  · rw [if_pos rfl];exact h3
theorem stepC_work {j : Nat} (h : StageC x H ds k d rate (j + 1)) (hR : Right ds) (hk : ds[k]? = some d) (hH : H.length ≤ 900) (hroom : x.s.busyN + costR (rowsM ds).length ≤ x.s.size) :
    ∃y u,x.step=some (decide (j=0),0,y)∧y.s.work 1073741824=some u∧StageC {y with s:=u.2} H ds k d rate j∧u.2.wait=[]∧u.2.size=x.s.size∧
      StageC y H ds k d rate j∧(1≤j→y.src=x.src)∧Inv u.2 (StageC.list y H j)∧Stay x.s u.2 H∧ ∀q t,q∈StageC.list y H j→Rep x.s q t→Rep u.2 q t:=by
  obtain ⟨y,e1,g1,hy,hsrc, -⟩:=stepC_T h hR hk hH hroom
  have hx0:=h.inv
  have hI:=hy.inv
  obtain ⟨u,w1,w2,w3, -,w5⟩:=hI.work (by have:=StageC.list_len y H j;omega) 1073741824
  refine ⟨y,u,e1,w1,?_,w5 (by omega),w3.size.trans g1.size,hy,hsrc,w2,((g1.stay hx0).mono fun k hk _=>StageC.list_mem x H (j+1) hk).trans (w3.mono fun k hk _=>StageC.list_mem y H j hk),fun k t hk ht=>(ht.grow g1).held w3 hk⟩
  unfold StageC.list at w2 w3
  rcases hy with ⟨a,ha,hj,h⟩|⟨m,hm,hj,h⟩|⟨hj,o,h3,hv,he⟩
  · rw [if_neg (by omega),h.owns,if_neg (by decide)] at w2 w3
    exact .inl ⟨a,ha,hj,w2,h.vr.move (fun t ht=>ht.held w3 (by simp)) (fun q=>w2.pos (by simp) q),h.idn,h.len,h.rows,h.place,h.owns,h.over,h.root⟩
  · rw [if_neg (by omega),h.owns,if_pos rfl] at w2 w3
    exact .inr (.inl ⟨m,hm,hj,w2,h.w.stay w3 (by simp),h.bm.stay w3 (by simp),h.sp.stay w3 (by simp),h.t.stay w3 (by simp),h.idn,h.owns,h.over,h.root,h.rows⟩)
  · subst hj
    rw [if_pos rfl] at w2 w3
    exact .inr (.inr ⟨rfl,o,w2,hv.move (fun t ht=>ht.held w3 (by simp)) (fun q=>w2.pos (by simp) q),he⟩)
theorem stageC_busy {j B : Nat} (h : StageC x H ds k d rate j) (hw : x.s.wait = []) (hs : j ≠ 0 → Sz x.s B x.src) (h0 : j = 0 → Sz x.s B x.root) (hH : ∀ q ∈ H, Sz x.s B q) :
    8*x.s.busyN≤(H.length+1)*B+2048+56*(rowsM ds).length+16*ds.length:=by
  obtain ⟨T,hT1,hT2⟩:=sz_reps hH
  have e2:(H.length+1)*B=H.length*B+B:=Nat.succ_mul _ _
  rw [e2]
  rcases h with ⟨a,ha,hj,h⟩|⟨m,hm,hj,h⟩|⟨rfl, -,hI,hv, -⟩
  · obtain ⟨t0,r0,b0⟩:=hs (by omega)
    have:=h.inv.busy_le hw (T:=t0::T) ⟨r0,hT1⟩
    have e:sizes (t0::T)=t0.size+sizes T:=by simp [sizes]
    omega
  · obtain ⟨t0,r0,b0⟩:=hs (by omega)
    obtain ⟨t1,a1,b1⟩:=h.w
    obtain ⟨t2,a2,b2⟩:=h.bm
    obtain ⟨t3,a3,b3⟩:=h.sp
    obtain ⟨t4,a4,b4⟩:=h.t
    have:=h.inv.busy_le hw (T:=t1::t2::t3::t4::t0::T) ⟨a1,a2,a3,a4,r0,hT1⟩
    have e:sizes (t1::t2::t3::t4::t0::T)=t1.size+(t2.size+(t3.size+(t4.size+(t0.size+sizes T)))):=by simp [sizes]
    have c1:=b1.size;have c2:=b2.size;have c3:=b3.size;have c4:=b4.size
    have l1:=rowS_length rate (cutX d.1 m (rowsM ds))
    have l2:(rowW (cutX d.1 m (rowsM ds))).length=(cutX d.1 m (rowsM ds)).length:=by simp [rowW]
    have l3:(rowM rate (cutX d.1 m (rowsM ds))).length=(cutX d.1 m (rowsM ds)).length:=by simp [rowM]
    have l4:(docsM ds).length=ds.length:=by simp [docsM]
    have l5:=cutX_len d.1 m (rowsM ds)
    omega
  · obtain ⟨t0,r0,b0⟩:=h0 rfl
    have:=hI.busy_le hw (T:=t0::T) ⟨r0,hT1⟩
    have e:sizes (t0::T)=t0.size+sizes T:=by simp [sizes]
    omega
end
end
end Go.Proofs.YtlboaaldggpjeaaGreat

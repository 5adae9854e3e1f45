/- Part 1 of what CutTwins needs: the walks of the program's functions, and plain facts. -/
import Derived.Test.YtlboaaldggpjeaaGreatCoreM9
set_option linter.unusedSimpArgs false
set_option linter.unusedVariables false
set_option linter.unnecessarySimpa false
namespace Go.Proofs.YtlboaaldggpjeaaGreat
open Go.RowKit
attribute [local go_sem ↓] Go.wp_at_zero Go.wp_at_succ
attribute [local go_sem] str_len
def twins (k:Nat) (t:List UInt8):Docs:=(List.range k).map fun i:Nat=>((i:Int)+1,t)
theorem twins_len (k:Nat) (t:List UInt8):(twins k t).length=k:=by unfold twins;simp
theorem twins_snoc (k:Nat) (t:List UInt8):twins (k+1) t=twins k t++[((k:Int)+1,t)]:=by unfold twins;rw [List.range_succ,List.map_append];rfl
theorem twins_at {k j:Nat} (hj:j<k) (t:List UInt8):(twins k t)[j]? =some ((j:Int)+1,t):=by
  unfold twins;rw [List.getElem?_map,List.getElem?_range hj];rfl
theorem twins_tot (k:Nat) (t:List UInt8):tot (twins k t)=k*t.length:=by
  induction k with
  | zero=>simp [twins,tot]
  | succ k ih=>
    have e:tot (twins (k+1) t)=tot (twins k t)+t.length:=by rw [twins_snoc];unfold tot;simp
    rw [e,ih,Nat.succ_mul]
theorem twins_right {k:Nat} {t:List UInt8} (hk:k≤6) (ht:t.length≤12):Right (twins k t):=by
  refine ⟨?_,fun y hy=> ?_,?_⟩
  · unfold refRight
    simp only [Bool.and_eq_true,List.all_eq_true,decide_eq_true_eq]
    refine ⟨fun u hu=> ?_,by simp [txt,twins_len];omega⟩
    unfold txt twins at hu
    rw [List.map_map] at hu
    obtain ⟨i, -,rfl⟩:=List.mem_map.1 hu
    show t.length≤40
    omega
  · unfold twins at hy
    obtain ⟨i,hi,rfl⟩:=List.mem_map.1 hy
    have:=List.mem_range.1 hi
    dsimp only
    omega
  · unfold twins
    rw [List.map_map]
    refine List.pairwise_map.2 ((List.nodup_range (n:=k)).imp fun {a b} h e=>h ?_)
    have e':(a:Int)+1=(b:Int)+1:=e
    omega
theorem twin_num {at':Int} {N:Nat} (hN:1≤N) (hN6:N≤6): ∃j:Nat,j<N∧wrap64 (at'.tmod (N:Int)+(N:Int))=at'.tmod (N:Int)+(N:Int)∧(at'.tmod (N:Int)+(N:Int)) % (N:Int)=(j:Int)∧(0:Int)≤at'.tmod (N:Int)+(N:Int)∧wrap64 (1+(j:Int))=(j:Int)+1:=by
  obtain ⟨t1,t2,j,hj,hjl⟩:=pick_at at' N (by omega)
  exact ⟨j,hjl,IntWalk.wrap64_in _ (by omega),hj,by omega,by rw [IntWalk.wrap64_in _ (by omega)];omega⟩
set_option maxRecDepth 100000 in
set_option maxHeartbeats 8000000 in
theorem cutTwins_walk (t : List UInt8) (n at' rate : Int) (ht : t.length ≤ maxLen) (w : World) :
    Calls Tryz.prog 8 #[strOf t, .int .i64 n, .int .i64 at', .int .i64 rate] w fun e w'=>e= .returned (.bool true)∧Below w.heap.size w w':=by
  have hcase : (decide (12 < (t.length : Int)) = true ∨ (decide (12 < (t.length : Int)) = false ∧ (decide (n < 1) = true ∨ (decide (n < 1) = false ∧ (decide (6 < n) = true ∨ (decide (6 < n) = false ∧ (decide (rate < 1) = true ∨ (decide (rate < 1) = false ∧ decide (16 < rate) = true)))))))) ∨
      (decide (12<(t.length:Int))=false∧decide (n<1)=false∧decide (6<n)=false∧decide (rate<1)=false∧decide (16<rate)=false):=by
    simp only [decide_eq_true_eq,decide_eq_false_iff_not];omega
  rcases hcase with hno|⟨d0,d1,d2,d3,d4⟩
  · rcases hno with d0|⟨d0,d1|⟨d1,d2|⟨d2,d3|⟨d3,d4⟩⟩⟩⟩<;>
    (go_enter Tryz.func8,Tryz.ntmps8
     go_wp2_with fail
     refine (alive14_calls _).mono ?_
     rintro e1 W1 ⟨rfl,hb1⟩
     go_wp2_with fail
     go_ret
     exact ⟨rfl,hb1⟩)
  have hb:t.length≤12∧1≤n∧n≤6∧1≤rate∧rate≤16:=by simp only [decide_eq_false_iff_not] at d0 d1 d2 d3 d4;omega
  obtain ⟨b0,b1,b2,b3,b4⟩:=hb
  obtain ⟨N,rfl⟩: ∃N:Nat,n=N:=⟨n.toNat,by omega⟩
  have HN:Hid (N≤6):=Lib.hid (by omega)
  have HN1:Hid (1≤N):=Lib.hid (by omega)
  have HT:=Lib.hid b0;have H2:=Lib.hid b3;have H3:=Lib.hid b4
  obtain ⟨j,j1,j2,j3,j4,j5⟩:=twin_num (at':=at') HN1.out HN.out
  have J1:=Lib.hid j1;have J2:=Lib.hid j2;have J3:=Lib.hid j3;have J4:=Lib.hid j4;have J5:=Lib.hid j5
  clear b0 b1 b2 b3 b4 j1 j2 j3 j4 j5
  go_enter Tryz.func8,Tryz.ntmps8
  go_wp2_with fail
  refine (alive14_calls _).mono ?_
  rintro e1 W1 ⟨rfl,hb1⟩
  have HB1:=Lib.hid hb1
  clear hb1 d0 d1 d2 d3 d4
  unfold strOf
  go_wp2_with fail
  go_loopg [9,10] N (fun m c9 c10 wr=> ∃k:Nat,c10= .int .i64 ((k:Int)+1)∧k+m=N∧Hid (wr.ownsRow w.heap.size 31 2 c9 k (docCells (twins k t)))∧Hid (Below w.heap.size w wr))
  case atStart=>exact ⟨0,rfl,by omega,Lib.hid (own_nil _ _ _ _),HB1⟩
  case round=>
    obtain ⟨k,rfl,hk,Hown,HB⟩:=hrel
    by_cases hlt:k<N
    · obtain ⟨m,rfl⟩: ∃m,gk=m+1:=⟨gk - 1,by omega⟩
      have n1:decide ((k:Int)+1≤(N:Int))=true:=by simp;omega
      have e5:wrap64 ((k:Int)+1+1)=(k:Int)+1+1:=IntWalk.wrap64_in _ (by have:=HN.out;omega)
      have HE5:=Lib.hid e5
      have hk6:k<6:=by have:=HN.out;omega
      have hz:=HB.out.size
      clear e5
      go_wp2_with (at_builtin;refine wpList_push _ (by rfl) _ _ 22 (by rfl) (w.heap.size) 31 (.agg #[.int .i64 0, .string ⟨#[]⟩]) 2 24 Tryz.underlying22 (by kernel_rfl) (by rfl) (by omega) _ _ _ (by rfl) Hown.out _ (by rfl) (by rfl) (by simp [Value.oneCell']) (by unfold maxLen;omega) (by omega) (by omega) ?_;intro g_W c_W W5 hown_W hlow_W hlt_W)
      have e5:=HE5.out
      go_wp2_with fail
      go_roundg m
      case measure=>omega
      case rel=>exact ⟨k+1,by first|rfl|(rw [e5];rfl),by omega,Lib.hid (by rw [twins_snoc,docCells_append];exact hown_W),Lib.hid (low_step HB.out (Nat.le_refl _) hlow_W)⟩
    · obtain rfl:k=N:=by omega
      have n1:decide ((k:Int)+1≤(k:Int))=false:=by rw [decide_eq_false_iff_not];omega
      obtain ⟨g,cap,cur,rfl,hge,hg,q1,q2,q3,q4⟩: ∃g cap cur,u9= .slice (some ⟨g,0,none⟩) k cap∧w.heap.size≤g∧wr.heap[g]? =some (.cells cur 31 (0,0))∧k≤cap∧cap≤maxLen∧cur.size=cap*2∧cur.toList.take (k*2)=docCells (twins k t):=by
        rcases Hown.out.2 with ⟨-,h0⟩|⟨g,cap,cur,h1,h2,h3,h4,h5,h6,h7⟩
        · have:=HN1.out;omega
        · exact ⟨g,cap,cur,h1,h2,h3,h4,h5,h6,h7⟩
      have HRD:Hid (∀W:World,W.heap[g]? =some (.cells cur 31 (0,0))→Rd2 W (.slice (some ⟨g,0,none⟩) (twins k t).length cap) (twins k t)):=Lib.hid (fun W hW=>by
        refine rd2_own (base:=0) (e:=31) ?_
        rw [twins_len]
        exact ⟨by rw [docCells_length,twins_len], .inr ⟨g,cap,cur,rfl,Nat.zero_le _,hW,q1,q2,q3,q4⟩⟩)
      have HG:=Lib.hid hg
      have hlt:=lt_of hg
      have HGL:=Lib.hid hlt
      clear hk Hown q1 q2 q3 q4 hg hlt
      go_wp2_with fail
      refine (new_calls 6000 (by omega) (by omega) _).mono ?_
      rintro e3 W3 ⟨p,O,rfl,hA,hO,hb3⟩
      have HS3:Hid (St w W3 (.pointer (some ⟨p,0,none⟩)) (Ar.new 6000) [(g, .cells cur 31 (0,0))]):=Lib.hid ⟨⟨O,hA,fun b hb=>Nat.le_trans HB.out.size (hO b hb),fun y hy=>by
        obtain rfl:=List.mem_singleton.1 hy
        exact ⟨keep_blk hb3 HG.out,fun hq=>by have:=hO _ hq;have:=HGL.out;dsimp only at*;omega⟩⟩,below_step HB.out hb3⟩
      clear hA hO hb3 n1 hlt
      go_wp2_with fail
      have hR:Right (twins k t):=twins_right HN.out HT.out
      have htot:=twins_tot k t
      have hlen:=twins_len k t
      have hk6:=HN.out;have ht12:=HT.out
      have hmul:k*t.length≤6*12:=Nat.mul_le_mul hk6 ht12
      have hbl:=bldG_calls (ds:=twins k t) 6000 (by omega) HS3.out rate H2.out (by have:=H3.out;omega) hR (by rw [htot,hlen];omega) (some ⟨g,0,none⟩) cap (HRD.out _ (HS3.out.at0)) (fun a ha _ O _ _ hL=>by cases ha;exact (hL _ (List.mem_singleton.2 rfl)).2)
      have hrows:=rows_tot hR
      have HROW:Hid ((rowsM (twins k t)).length≤80):=Lib.hid (by omega)
      have HR:=Lib.hid hR;have HLEN:=Lib.hid hlen
      rw [hlen] at hbl
      have HBL:=Lib.hid hbl
      have HAT:Hid ((twins k t)[j]? =some ((j:Int)+1,t)):=Lib.hid (twins_at J1.out t)
      clear hR htot hlen hk6 ht12 hmul hbl hrows
      refine HBL.out.mono ?_
      rintro e4 W4 ⟨root,s,rfl,hS,hI,hwt,hsz,hv,hroot⟩
      have hbz:=hv.busy hI hwt
      have hl10:(twins k t).length≤10:=by rw [HLEN.out];have:=HN.out;omega
      have hrw:=HROW.out
      have hlg:=newC0_T hI hv hsz (by omega) HAT.out hrw hl10
      obtain ⟨r,r1,r2,r3,r4,r5,r6⟩:=newC_in hI hv HR.out HAT.out
      have hcon:=hS.cut root rate ((j:Int)+1) (j:Int) (docsM (twins k t)) r r1 r2 r3 H2.out H3.out r4 r5
      rw [r6] at hcon
      dsimp only at hcon hlg
      obtain ⟨x0,hx0⟩: ∃x0,Ct.new s root ((j:Int)+1) (t.length:Int) (j:Int)=x0:=⟨_,rfl⟩
      rw [hx0] at hcon hlg
      have HCON:=Lib.hid hcon;have HLG:=Lib.hid hlg;have HL10:=Lib.hid hl10
      have hj2:=J2.out;have hj3:=J3.out;have hj4:=J4.out;have hj5:=J5.out
      have hn0:((k:Int)==0)=false:=by rw [beq_eq_false_iff_ne];have:=HN1.out;omega
      have hn1: ¬k=0:=by have:=HN1.out;omega
      have hn2: ¬(k:Int)=0:=by omega
      clear hS hI hwt hsz hv hroot hbz hl10 hrw hlg r1 r2 r3 r4 r5 r6 hcon hx0 HBL HS3
      go_wp2_with fail
      refine HCON.out.mono ?_
      rintro e6 W6 ⟨b,rfl,h6⟩
      have H6:=Lib.hid h6
      clear h6 HCON hj2 hj3 hj4 hj5 hn0 hn1 hn2
      go_wp2_with fail
      go_loopg [16,17] (2*t.length+3) (fun m c16 c17 wr=> ∃x,c17= .bool (decide (m=0))∧Hid (Sc w wr (.pointer (some ⟨p,0,none⟩)) b x [(g, .cells cur 31 (0,0))]∧LoopC root [root] (twins k t) j ((j:Int)+1,t) rate m x))
      case atStart=>exact ⟨x0,by simp,Lib.hid ⟨H6.out,HLG.out⟩⟩
      case round=>
        obtain ⟨x,rfl,HX⟩:=hrel
        clear H6 HLG
        cases gk with
        | succ m=>
          have d0:decide (m+1=0)=false:=by simp
          rw [d0]
          obtain ⟨y,u,y4,y5,y6, -, -, -⟩:=HX.out.2.next HR.out HAT.out HROW.out HL10.out
          have HY4:=Lib.hid y4;have HY5:=Lib.hid y5;have HY6:=Lib.hid y6
          have HOK:Hid (CtOk x):=Lib.hid (HX.out.2.st.ok HR.out HAT.out)
          clear y4 y5 y6 d0
          go_wp2_with fail
          refine (HX.out.1.act fun O A cap hT hR=>cStep_calls x HOK.out _ HY4.out _ hT hR).mono ?_
          rintro e11 W11 ⟨rfl,h11⟩
          have H11:=Lib.hid h11
          clear h11
          go_wp2_with fail
          refine (H11.out.write fun O hA=>work_calls _ _ HY5.out _ hA).mono ?_
          rintro e12 W12 ⟨rfl,h12⟩
          have H12:=Lib.hid h12
          clear h12 H11
          go_wp2_with fail
          go_roundg m
          case measure=>omega
          case rel=>exact ⟨_,rfl,Lib.hid ⟨H12.out,HY6.out⟩⟩
        | zero=>
          have d0:decide ((0:Nat)=0)=true:=rfl
          rw [d0]
          obtain ⟨z1,z2,z3,z4,z5⟩:=HX.out.2.done HR.out H2.out H3.out
          have hle:=lessD_era HR.out HAT.out
          dsimp only at hle
          rw [←hle] at z4
          have HZ2:=Lib.hid (show Inv x.s [root,x.root] from z2.perm (List.Perm.swap _ _ _));have HZ4:=Lib.hid z4
          have hRl:Right (lessD (twins k t) ((j:Int)+1)):=hle▸HR.out.era j
          have HL3:Hid ((lessD (twins k t) ((j:Int)+1)).length≤50000):=Lib.hid (by have:=lessD_len (twins k t) ((j:Int)+1);have:=HL10.out;omega)
          have HL4:=Lib.hid hRl.txt50
          have HL5:Hid ((twins k t).length≤50000):=Lib.hid (by have:=HL10.out;omega)
          clear z1 z2 z3 z4 z5 hle hRl d0
          go_wp2_with fail
          refine (HX.out.1.same fun O A cap hT=>cRoot_calls _ hT).mono ?_
          rintro e11 W11 ⟨rfl,h11⟩
          have H11:=Lib.hid h11
          clear h11
          go_wp2_with fail
          have hrd:=HRD.out _ (H11.out.at0)
          rw [HLEN.out] at hrd
          have HRX:=Lib.hid hrd
          clear hrd
          have hwo:=without_calls (.slice (some ⟨g,0,none⟩) k cap) (twins k t) ((j:Int)+1) HL5.out _ (by have:=HRD.out _ (H11.out.at0);rw [HLEN.out] at this;exact this)
          try rw [J5.out]
          refine hwo.mono ?_
          rintro e14 W14 ⟨A14,c14,rfl,hrd14,hb14⟩
          have H14:=Lib.hid (H11.out.below hb14)
          have HRD14:=Lib.hid hrd14
          clear hrd14 hb14 H11 hwo HRX
          go_wp2_with fail
          refine (H14.out.read fun O A cap hT=>check_calls x.root rate (lessD (twins k t) ((j:Int)+1)) _ true HZ4.out HL3.out HL4.out _ hT.hA HRD14.out).mono ?_
          rintro e15 W15 ⟨rfl,h15⟩
          have H15:=Lib.hid h15
          clear h15 H14 HRD14
          go_wp2_with fail
          refine (H15.out.same fun O A cap hT=>cRoot_calls _ hT).mono ?_
          rintro e16 W16 ⟨rfl,h16⟩
          have H16:=Lib.hid h16
          clear h16 H15
          go_wp2_with fail
          refine calls_gen fun V hV=> ?_
          have H17:=Lib.hid (H16.out.box _ hV)
          clear hV H16
          refine (H17.out.read fun O A cap hT=>counted_calls HZ2.out [root,x.root] (fun _ _=>rfl) (by simp) _ _ hT.hA (Rx.cells H17.out.at0 rfl)).mono ?_
          rintro e18 W18 ⟨rfl,h18⟩
          have H18:=Lib.hid h18
          clear h18 H17
          go_wp2_with fail
          go_ret
          exact ⟨rfl,H18.out.bel⟩
end Go.Proofs.YtlboaaldggpjeaaGreat

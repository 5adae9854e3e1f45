/- Part 1 of what PutSame needs: the walks of the program's functions, and plain facts. -/
import Derived.Test.YtjeofpkhgmefgaaGreatCoreM8
set_option linter.unusedSimpArgs false
set_option linter.unusedVariables false
set_option linter.unnecessarySimpa false
namespace Go.Proofs.YtjeofpkhgmefgaaGreat
open Go.RowKit
theorem right_take {ds:Docs} (hR:Right ds) (n:Nat):Right (ds.take n):=by
  refine ⟨?_,fun y hy=>hR.id y (List.mem_of_mem_take hy),?_⟩
  · have h:=hR.right
    unfold refRight at h⊢
    simp only [Bool.and_eq_true,List.all_eq_true,decide_eq_true_eq,List.length_map] at h⊢
    refine ⟨fun t ht=>h.1 t ?_,by rw [List.length_take];omega⟩
    obtain ⟨y,hy,rfl⟩:=List.mem_map.1 ht
    exact List.mem_map.2 ⟨y,List.mem_of_mem_take hy,rfl⟩
  · rw [List.map_take];exact List.Sublist.nodup (List.take_sublist _ _) hR.nodup
theorem tot_append (a b:Docs):tot (a++b)=tot a+tot b:=by unfold tot;simp
theorem into_step {ds : Docs} (hR : Right ds) (htot : tot ds ≤ 60) {i : Nat} {d : Int × List UInt8} (hd : ds[i]? = some d) :
    Right (ds.take i)∧Right (ds.take i++[d])∧ds.take (i+1)=ds.take i++[d]∧(∀y∈ds.take i,y.1≠d.1)∧(ds.take i).length<10∧d.2.length≤40∧1≤d.1∧(rowsM (ds.take i)).length≤70∧(rowsM (ds.take i++[d])).length≤111:=by
  have hi:=(List.getElem?_eq_some_iff.1 hd).1
  have he:=(List.getElem?_eq_some_iff.1 hd).2
  have e1:ds.take (i+1)=ds.take i++[d]:=by rw [List.take_succ_eq_append_getElem hi,he]
  have h1:=right_take hR i
  have h2:=right_take hR (i+1)
  rw [e1] at h2
  have hl:=hR.len
  have hn:=h2.nodup
  rw [List.map_append,List.nodup_append] at hn
  have h40:=(right_len hR.right).2 i
  rw [getD_at (show (txt ds)[i]? =some d.2 by rw [List.getElem?_map,hd];rfl)] at h40
  have ht:tot ds=tot (ds.take i)+tot (ds.drop i):=by rw [←tot_append,List.take_append_drop]
  have hr1:=rows_tot h1
  have hr2:=rows_tot h2
  rw [tot_append] at hr2
  have hd1:tot [d]=d.2.length:=by unfold tot;simp
  have hlt:(ds.take i).length=i:=by rw [List.length_take];omega
  refine ⟨h1,h2,e1,fun y hy e=>hn.2.2 y.1 (List.mem_map.2 ⟨y,hy,rfl⟩) d.1 (by simp) e,by omega,by omega,(hR.id d (List.mem_of_getElem? hd)).1,by omega,?_⟩
  rw [hr2,hd1,List.length_append,List.length_cons,List.length_nil]
  omega
structure LoopI (s:Ar) (root:Int) (ds:Docs) (rate:Int) (i:Nat):Prop where
  inv:Inv s [root]
  vr:VR s root (ds.take i) rate
  size:s.size=6000
  busy:8*s.busyN≤30000
  zero:root=0↔i=0
theorem LoopI.start (ds:Docs) (rate:Int):LoopI (Ar.new 6000) 0 ds rate 0:=by
  have hI:=(Inv.new 6000 (by omega)).zero_cons (by simp)
  refine ⟨hI,⟨.inl ⟨rfl,by simp⟩,fun h=>absurd rfl h⟩,rfl,?_,by simp⟩
  have:(Ar.new 6000).busyN=0:=by unfold Ar.busyN;exact usedTo_none _ _ fun _ _ _=>rfl
  omega
section
variable {s : Ar} {root : Int} {ds : Docs} {rate : Int} {i : Nat} {d : Int × List UInt8} {x : Pt}
theorem LoopI.new (h:LoopI s root ds rate i) (hR:Right ds) (htot:tot ds≤60) (hd:ds[i]? =some d):LoopG root [root] (ds.take i) d rate (d.2.length+3) (Pt.new s root rate d.1 d.2):=by
  obtain ⟨-, -, -, -,h5, -, -,h8, -⟩:=into_step hR htot hd
  exact new0_T h.inv h.vr h.size h.busy h8 (by omega)
theorem LoopI.next (h:LoopG root [root] (ds.take i) d rate 0 x) (hR:Right ds) (htot:tot ds≤60) (hd:ds[i]? =some d) (h1:1≤rate) (h2:rate≤16):LoopI (x.s.drop root) x.root ds rate (i+1):=by
  obtain ⟨-,hRd,e, -⟩:=into_step hR htot hd
  obtain ⟨a,b,c,f,g⟩:=h.next_doc hRd h1 h2
  exact ⟨a,by rw [e];exact b,c,f,⟨fun q=>absurd q g,fun q=>by omega⟩⟩
theorem LoopI.asks (h : LoopI s root ds rate i) (hR : Right ds) (htot : tot ds ≤ 60) (hd : ds[i]? = some d) :
    lAll s (vOf s root).table=some (docsM (ds.take i))∧(docsM (ds.take i)).length≤50000∧vIs s root=true∧1≤d.1∧(placeIn d.1 (docsM (ds.take i)) 0).2=false∧d.2.length≤40∧vDocs s root<10:=by
  obtain ⟨h1, -, -,h4,h5,h6,h7, -⟩:=into_step hR htot hd
  refine ⟨h.vr.all h.inv (by omega),by simp only [docsM,List.length_map];omega,vr_is h.inv h.vr h1,h7,?_,h6,by rw [h.vr.docs h.inv (by omega)];omega⟩
  rw [placeIn_none d.1 (docsM (ds.take i)) 0 (fun y hy=>by unfold docsM at hy;obtain ⟨z,hz,rfl⟩:=List.mem_map.1 hy;exact h4 z hz)]
end
end Go.Proofs.YtjeofpkhgmefgaaGreat
namespace Go.Proofs.YtjeofpkhgmefgaaGreat
open Go.RowKit
theorem txt40 {ds:Docs} (hR:Right ds): ∀t,t∈txt ds→t.length≤50000:=fun t ht=>by
  obtain ⟨i,hi⟩:=List.getElem?_of_mem ht
  have:=(right_len hR.right).2 i
  rw [getD_at hi] at this;omega
end Go.Proofs.YtjeofpkhgmefgaaGreat
namespace Go.Proofs.YtjeofpkhgmefgaaGreat
open Go.RowKit
attribute [local go_sem ↓] Go.wp_at_zero Go.wp_at_succ
attribute [local go_sem] str_len
set_option maxRecDepth 100000 in
set_option maxHeartbeats 8000000 in
theorem into_calls {w0 W : World} {p : Addr} {L : List (Nat × Obj)} (h : St w0 W (.pointer (some p)) (Ar.new 6000) L) (rate : Int) (hr1 : 1 ≤ rate) (hr2 : rate ≤ 16) (ds : Docs) (hR : Right ds) (htot : tot ds ≤ 60) (A : Option Addr) (cap : Nat) (hD : Rd2 w0 (.slice A ds.length cap) ds) :
    Calls Tryz.prog 36 #[.pointer (some p), .int .i64 rate, .slice A ds.length cap] W fun e w'=> ∃root s',e= .returned (.tuple #[.int .i64 root, .bool true])∧St w0 w' (.pointer (some p)) s' L∧LoopI s' root ds rate ds.length:=by
  have HS:=Lib.hid h;have HK:=Lib.hid hD;have HR:=Lib.hid hR;have HT:=Lib.hid htot;have H1:=Lib.hid hr1;have H2:=Lib.hid hr2
  have HL:=Lib.hid hR.len
  clear h hD hR htot hr1 hr2
  go_enter Tryz.func36,Tryz.ntmps36
  go_wp2_with fail
  go_loopg [8,16] ds.length (fun k c8 c16 wr=> ∃(i:Nat) (root:Int) (s:Ar),c8= .int .i64 root∧c16= .int .i64 (i:Int)∧i+k=ds.length∧Hid (St w0 wr (.pointer (some p)) s L∧LoopI s root ds rate i))
  case atStart=>exact ⟨0,0,_,rfl,rfl,by omega,Lib.hid ⟨HS.out,LoopI.start ds rate⟩⟩
  case round=>
    obtain ⟨i,root,s,rfl,rfl,hk,HX⟩:=hrel
    clear HS
    by_cases hlt:i<ds.length
    · obtain ⟨k,rfl⟩: ∃k,gk=k+1:=⟨gk - 1,by omega⟩
      obtain ⟨d,hd⟩:=at_some hlt
      obtain ⟨A',cap',hv,h2⟩:=HK.out.below HX.out.1.bel
      obtain ⟨ad,rfl,hg,hc⟩:=h2 (by omega)
      obtain ⟨rfl, -,rfl⟩:=Value.slice.inj hv
      obtain ⟨-,c1,c2⟩:=hc i d hd
      have n1:decide ((i:Int)<(ds.length:Int))=true:=by simpa using hlt
      have n2:(i:Int)<(ds.length:Int):=by omega
      have E3:Hid (wrap64 ((i:Int)+1)=(i:Int)+1):=Lib.hid (IntWalk.wrap64_in _ (by have:=HL.out;omega))
      have Hd:=Lib.hid hd
      have HG:=Lib.hid (LoopI.new HX.out.2 HR.out HT.out hd)
      have HKK:Hid (i+1+k=ds.length):=Lib.hid (by omega)
      clear h2 hc hv hd
      replace c2:wr.cell? ⟨(ad.add (i*2)).block,(ad.add (i*2)).off+1,none⟩=some (.string ⟨d.2.toArray⟩):=c2
      go_wp2_with fail
      refine calls_gen fun V hV=> ?_
      have HS1:=Lib.hid (HX.out.1.below (nB hV))
      clear hV c1 c2 n1 n2 hk hlt hg
      obtain ⟨q1,q2,q3,q4,q5,q6,q7⟩:=LoopI.asks HX.out.2 HR.out HT.out Hd.out
      refine (HS1.out.put root rate d.1 d.2 _ q1 q2 q3 H1.out H2.out q4 q5 q6 q7).mono ?_
      rintro e1 W1 ⟨b,rfl,h1⟩
      have H1':=Lib.hid h1
      clear h1 HS1 q1 q2 q3 q4 q5 q6 q7
      go_wp2_with fail
      go_loopg [12,13] (d.2.length+3) (fun m c12 c13 wr2=> ∃(x:Pt),c13= .bool (decide (m=0))∧Hid (Sp w0 wr2 (.pointer (some p)) b x L∧LoopG root [root] (ds.take i) d rate m x))
      case atStart=>exact ⟨_,by simp,Lib.hid ⟨H1'.out,HG.out⟩⟩
      case round=>
        obtain ⟨x,rfl,HY⟩:=hrel
        clear H1' HG
        cases gk with
        | succ j=>
          have d0:decide (j+1=0)=false:=by simp
          obtain ⟨-,hRd, -, -,h10, -, -, -,hrw⟩:=into_step HR.out HT.out Hd.out
          obtain ⟨hin,y,u,y4,y5,y6⟩:=HY.out.2.next hRd hrw h10 H1.out
          have HY4:=Lib.hid y4;have HY5:=Lib.hid y5;have HY6:=Lib.hid y6
          have HOK:Hid (PtOk x):=Lib.hid ⟨hin.1,hin.2.1,hin.2.2.1,hin.2.2.2⟩
          clear y4 y5 y6 hin hRd h10 hrw
          rw [d0]
          clear d0
          go_wp2_with fail
          refine (HY.out.1.act fun O hT=>pStep_calls x HOK.out _ HY4.out _ hT).mono ?_
          rintro e11 W11 ⟨rfl,h11⟩
          have H11:=Lib.hid h11
          clear h11
          go_wp2_with fail
          refine (H11.out.write fun O hA=>work_calls _ _ HY5.out _ hA).mono ?_
          rintro e12 W12 ⟨rfl,h12⟩
          have H12:=Lib.hid h12
          clear h12 H11
          go_wp2_with fail
          go_roundg j
          case measure=>exact Nat.lt_succ_self _
          case rel=>exact ⟨_,rfl,Lib.hid ⟨H12.out,HY6.out⟩⟩
        | zero=>
          have d0:decide ((0:Nat)=0)=true:=rfl
          have HN:=Lib.hid (LoopI.next HY.out.2 HR.out HT.out Hd.out H1.out H2.out)
          have HC:Hid (root≠0→x.s.cntE root=0):=Lib.hid (fun h0=>by
            obtain ⟨-, -,hI, -⟩:=HY.out.2.done (into_step HR.out HT.out Hd.out).2.1 H1.out H2.out
            unfold Ar.cntE;rw [if_neg (hI.pos (by simp) h0)])
          rw [d0]
          clear d0
          by_cases h0:root=0
          · have d1:(root !=0)=false:=by rw [h0];rfl
            have HE:Hid (x.s.drop root=x.s):=Lib.hid (by rw [h0,drop_zero])
            clear h0
            go_wp2_with fail
            refine (HY.out.1.same fun O hT=>pRoot_calls _ hT).mono ?_
            rintro e14 W14 ⟨rfl,h14⟩
            have H14:=Lib.hid h14
            clear h14
            go_wp2_with fail
            have e3:=E3.out
            go_roundg k
            case measure=>omega
            case rel=>exact ⟨i+1,x.root,x.s.drop root,rfl,by first|rfl|(rw [e3];rfl),HKK.out,Lib.hid ⟨by rw [HE.out];exact H14.out.st,HN.out⟩⟩
          · have d1:(root !=0)=true:=by simpa using h0
            clear h0
            go_wp2_with fail
            refine (HY.out.1.write fun O hA=>drop_calls root _ hA).mono ?_
            rintro e13 W13 ⟨rfl,h13⟩
            have H13:=Lib.hid h13
            clear h13
            go_wp2_with fail
            refine (H13.out.same fun O hT=>pRoot_calls _ hT).mono ?_
            rintro e14 W14 ⟨rfl,h14⟩
            have H14:=Lib.hid h14
            clear h14 H13
            go_wp2_with fail
            have e3:=E3.out
            go_roundg k
            case measure=>omega
            case rel=>exact ⟨i+1,x.root,x.s.drop root,rfl,by first|rfl|(rw [e3];rfl),HKK.out,Lib.hid ⟨H14.out.st,HN.out⟩⟩
    · have hi:i=ds.length:=by omega
      subst hi
      have n1:decide ((ds.length:Int)<(ds.length:Int))=false:=by simp
      go_wp2_with fail
      go_ret2
      exact ⟨root,s,rfl,HX.out.1,HX.out.2⟩
end Go.Proofs.YtjeofpkhgmefgaaGreat
namespace Go.Proofs.YtjeofpkhgmefgaaGreat
open Go.RowKit
attribute [local go_sem ↓] Go.wp_at_zero Go.wp_at_succ
set_option maxRecDepth 100000 in
set_option maxHeartbeats 4000000 in
theorem putSame_walk (A : Option Addr) (cap : Nat) (ds : Docs) (rate : Int) (hl : ds.length ≤ maxLen) (hid : IdOk ds) (w : World) (h : Rd2 w (.slice A ds.length cap) ds) :
    Calls Tryz.prog 6 #[.slice A ds.length cap, .int .i64 rate] w fun e w'=>e= .returned (.bool true)∧Below w.heap.size w w':=by
  have HK:=Lib.hid h;clear h
  have hcase : (few ds = false ∨ (few ds = true ∧ decide (10 < (ds.length : Int)) = false ∧ (decide (rate < 1) = true ∨ (decide (rate < 1) = false ∧ decide (16 < rate) = true)))) ∨
      (few ds=true∧decide (10<(ds.length:Int))=false∧decide (rate<1)=false∧decide (16<rate)=false∧1≤rate∧rate≤16):=by
    cases hf:few ds with
    | false=>exact .inl (.inl rfl)
    | true=>
      have:=(few_right hf hid).2.2
      have h10:decide (10<(ds.length:Int))=false:=by simp;omega
      by_cases h1:rate<1
      · exact .inl (.inr ⟨rfl,h10, .inl (by simpa using h1)⟩)
      by_cases h2:16<rate
      · exact .inl (.inr ⟨rfl,h10, .inr ⟨by simpa using h1,by simpa using h2⟩⟩)
      exact .inr ⟨rfl,h10,by simpa using h1,by simpa using h2,by omega,by omega⟩
  rcases hcase with hno|⟨hf,d0,d1,d2,h1,h2⟩
  · rcases hno with hf|⟨hf,d0,d1|⟨d1,d2⟩⟩<;>
    (have Hf:=Lib.hid hf
     clear hf
     go_enter Tryz.func6,Tryz.ntmps6
     go_wp2_with fail
     refine (few_calls _ ds hl _ HK.out).mono ?_
     rintro e0 W0 ⟨rfl,hb1⟩
     rw [Hf.out]
     have HB0:=Lib.hid hb1;clear hb1
     go_wp2_with fail
     refine (alive13_calls _).mono ?_
     rintro e1 W1 ⟨rfl,hb1⟩
     have HB1:=Lib.hid (below_step HB0.out hb1);clear hb1
     go_wp2_with fail
     go_ret
     exact ⟨rfl,HB1.out⟩)
  obtain ⟨hR,htot,hl10⟩:=few_right hf hid
  have HR:=Lib.hid hR;have HT:=Lib.hid htot;have H1:=Lib.hid h1;have H2:=Lib.hid h2;have HL:=Lib.hid hl10
  have Hf:=Lib.hid hf
  clear hR htot hl10 h1 h2 hf
  go_enter Tryz.func6,Tryz.ntmps6
  go_wp2_with fail
  refine (few_calls _ ds hl _ HK.out).mono ?_
  rintro e0 W0 ⟨rfl,hb1⟩
  rw [Hf.out]
  have HB0:=Lib.hid hb1;clear hb1
  go_wp2_with fail
  refine (alive13_calls _).mono ?_
  rintro e1 W1 ⟨rfl,hb1⟩
  have HB1:=Lib.hid (below_step HB0.out hb1);clear hb1 d0 d1 d2
  go_wp2_with fail
  refine (new_calls 6000 (by omega) (by omega) _).mono ?_
  rintro e3 W3 ⟨p,O,rfl,hA,hO,hb3⟩
  have HS:Hid (St w W3 (.pointer (some ⟨p,0,none⟩)) (Ar.new 6000) []):=Lib.hid (St.new (below_step HB1.out hb3) hA fun b hb=>Nat.le_trans HB1.out.size (hO b hb))
  clear hA hO hb3
  go_wp2_with fail
  refine (into_calls HS.out rate H1.out H2.out ds HR.out HT.out A cap HK.out).mono ?_
  rintro e4 W4 ⟨root,s,rfl,h4,hI⟩
  have H4:=Lib.hid h4;have HI:=Lib.hid hI
  have HV:Hid (vCheck s root rate ds=some true):=Lib.hid (by
    have hv:=hI.vr
    rw [List.take_length] at hv
    exact hv.check_own hI.inv HR.out H1.out H2.out)
  clear h4 hI HS
  go_wp2_with fail
  refine (H4.out.read fun O hA=>check_calls root rate ds _ true HV.out (by have:=HL.out;omega) (txt40 HR.out) _ hA (HK.out.below H4.out.bel)).mono ?_
  rintro e5 W5 ⟨rfl,h5⟩
  have H5:=Lib.hid h5
  clear h5 H4
  have hz:(decide (0<(ds.length:Int))=true∧0<ds.length)∨(decide (0<(ds.length:Int))=false∧ ¬0<ds.length∧(root==0)=true):=by
    by_cases h0:0<ds.length
    · exact .inl ⟨by simpa using h0,h0⟩
    · exact .inr ⟨by simpa using h0,h0,by rw [beq_iff_eq];exact HI.out.zero.2 (by omega)⟩
  rcases hz with ⟨d3,d4⟩|⟨d3,d4,d5⟩<;>
  (skip
   go_wp2_with fail
   refine calls_gen fun V hV=> ?_
   have H6:=Lib.hid (H5.out.box _ hV)
   clear hV
   refine (H6.out.read fun O hA=>counted_calls HI.out.inv [root] (fun _ _=>rfl) (by simp) _ _ hA (Rx.cells H6.out.at0 rfl)).mono ?_
   rintro e7 W7 ⟨rfl,h7⟩
   have H7:=Lib.hid h7
   clear h7 H6
   go_wp2_with fail
   go_ret
   exact ⟨rfl,H7.out.bel⟩)
end Go.Proofs.YtjeofpkhgmefgaaGreat

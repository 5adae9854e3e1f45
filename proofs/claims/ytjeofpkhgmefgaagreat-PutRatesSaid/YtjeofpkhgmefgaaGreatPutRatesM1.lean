/- Part 1 of what PutRates needs: the walks of the program's functions, and plain facts. -/
import Derived.Test.YtjeofpkhgmefgaaGreatCoreM8
set_option linter.unusedSimpArgs false
set_option linter.unusedVariables false
set_option linter.unnecessarySimpa false
namespace Go.Proofs.YtjeofpkhgmefgaaGreat
open Go.RowKit
structure Pk (w0:World) (bp:Value) (s:Ar) (L:List (Nat×Obj)):Prop where
  re: ∀W:World,(∀x∈L,W.heap[x.1]? =some x.2)→AP W bp s (fun b=> ∃o,(b,o)∈L)
  lo: ∀x∈L,w0.heap.size≤x.1
theorem AP.pack {w0 W:World} {bp:Value} {s:Ar} {O:Nat→Prop} (h:AP W bp s O) (hO: ∀b,O b→w0.heap.size≤b): ∃L,Pk w0 bp s L∧ ∀x∈L,W.heap[x.1]? =some x.2∧O x.1:=by
  rcases h.2 with ⟨rfl,rfl, -⟩|⟨p,nb,cb,ub,wv,rfl,hR⟩
  · exact ⟨[],⟨fun W' _=>⟨h.1, .inl ⟨rfl,rfl,fun b hb=>(by obtain ⟨o,ho⟩:=hb;cases ho)⟩⟩,fun x hx=>(by cases hx)⟩,fun x hx=>(by cases hx)⟩
  · have key : ∃ Lw : List (Nat × Obj), (∀ x ∈ Lw, W.heap[x.1]? = some x.2 ∧ O x.1) ∧ (∀ g, wv.ownBlock = some g → ∃ o, (g, o) ∈ Lw) ∧ ∀ W' : World, (∀ x ∈ Lw, W'.heap[x.1]? = some x.2) → Wt W' wv s.wait := by
      rcases hR.hw with ⟨rfl,hl⟩|⟨g,off,cap,c,rfl,hg,h1⟩
      · exact ⟨[],fun x hx=>(by cases hx),fun g hg=>(by simp [Value.ownBlock] at hg),fun _ _=> .inl ⟨rfl,hl⟩⟩
      · refine ⟨[(g, .cells c 3 (0,0))],fun x hx=> ?_,fun g' hg'=> ?_,fun W' hW'=> .inr ⟨g,off,cap,c,rfl,hW' (g, .cells c 3 (0,0)) (by simp),h1⟩⟩
        · rw [List.mem_singleton.1 hx];exact ⟨hg,hR.ow g rfl⟩
        · have e:g=g':=by simpa [Value.ownBlock] using hg'
          subst e;exact ⟨_,List.mem_singleton.2 rfl⟩
    obtain ⟨Lw,k1,k2,k3⟩:=key
    refine ⟨(p, .cells (ArC s.size nb cb ub wv s.busy s.made) 75 (0,0))::(nb, .cells (ofF ((s.size+1)*7) (nodeF s)) 89 (0,0))::(cb, .cells (ofF (s.size+1) (countF s)) 3 (0,0))::(ub, .cells (ofF (s.size+1) (usedF s)) 4 (0,0))::Lw,⟨fun W' hW'=>⟨h.1, .inr ⟨p,nb,cb,ub,wv,rfl,?_⟩⟩,fun x hx=> ?_⟩,fun x hx=> ?_⟩
    rotate_left
    · simp only [List.mem_cons] at hx
      rcases hx with rfl|rfl|rfl|rfl|hx
      · exact hO _ hR.op
      · exact hO _ hR.on
      · exact hO _ hR.oc
      · exact hO _ hR.ou
      · exact hO _ (k1 x hx).2
    · simp only [List.mem_cons] at hx
      rcases hx with rfl|rfl|rfl|rfl|hx
      · exact ⟨hR.hp,hR.op⟩
      · exact ⟨hR.hn,hR.on⟩
      · exact ⟨hR.hc,hR.oc⟩
      · exact ⟨hR.hu,hR.ou⟩
      · exact k1 x hx
    · refine ⟨hW' (p,_) (List.mem_cons_self ..),hW' (nb,_) (.tail _ (.head _)),hW' (cb,_) (.tail _ (.tail _ (.head _))),hW' (ub,_) (.tail _ (.tail _ (.tail _ (.head _)))),k3 W' fun x hx=>hW' x (by simp [hx]),hR.ncw,⟨_,List.mem_cons_self ..⟩,⟨_, .tail _ (.head _)⟩,⟨_, .tail _ (.tail _ (.head _))⟩,⟨_, .tail _ (.tail _ (.tail _ (.head _)))⟩,fun g hg=> ?_,fun b hb=> ?_⟩
      · obtain ⟨o,ho⟩:=k2 g hg
        exact ⟨o,by simp [ho]⟩
      · obtain ⟨o,ho⟩:=hb
        exact lt_of (hW' (b,o) ho)
section
variable {w0 W W' : World} {ap bp : Value} {s s2 : Ar} {L : List (Nat × Obj)}
theorem St.flip (h:St w0 W ap s L) (hp:Pk w0 bp s2 L): ∃L1,Pk w0 ap s L1∧St w0 W bp s2 L1:=by
  obtain ⟨O,hA,hO,hL⟩:=h.ex
  obtain ⟨L1,k1,k2⟩:=hA.pack (w0:=w0) hO
  refine ⟨L1,k1,⟨⟨_,hp.re W fun x hx=>(hL x hx).1,fun b hb=> ?_,fun x hx=>⟨(k2 x hx).1,fun hb=> ?_⟩⟩,h.bel⟩⟩
  · obtain ⟨o,ho⟩:=hb;exact hp.lo _ ho
  · obtain ⟨o,ho⟩:=hb;exact (hL _ ho).2 (k2 x hx).2
theorem St.both {O1 O2 : Nat → Prop} {V : World} (hb : Below w0.heap.size w0 V) (hA : AP V ap s O1) (h1 : ∀ b, O1 b → w0.heap.size ≤ b) (hb2 : Below V.heap.size V W) (hA2 : AP W bp s2 O2) (h2 : ∀ b, O2 b → V.heap.size ≤ b) :
    ∃L,Pk w0 bp s2 L∧St w0 W ap s L:=by
  obtain ⟨L,k1,k2⟩:=hA2.pack (w0:=w0) fun b q=>Nat.le_trans hb.size (h2 b q)
  exact ⟨L,k1,⟨⟨O1,hA.below hb2,h1,fun x hx=>⟨(k2 x hx).1,fun q=>by have:=hA.lt q;have:=h2 _ (k2 x hx).2;omega⟩⟩,below_step hb hb2⟩⟩
variable {f : FuncId} {args : Array Value} {r : Ending}
theorem St.read2 {P:Program} (h:St w0 W ap s L) (hp:Pk w0 bp s2 L) (hc: ∀O,AP W bp s2 O→Calls P f args W fun e w'=>e=r∧Below W.heap.size W w'):Calls P f args W fun e w'=>e=r∧St w0 w' ap s L:=by
  obtain ⟨O, -, -,hL⟩:=h.ex
  exact (hc _ (hp.re W fun x hx=>(hL x hx).1)).mono fun e w' ⟨he,hb⟩=>⟨he,h.below hb⟩
end
end Go.Proofs.YtjeofpkhgmefgaaGreat
namespace Go.Proofs.YtjeofpkhgmefgaaGreat
open Go.RowKit
theorem right_take {ds:Docs} (hR:Right ds) (n:Nat):Right (ds.take n):=by
  refine ⟨?_,fun y hy=>hR.id y (List.mem_of_mem_take hy),?_⟩
  · have h:=hR.right
    unfold refRight at h⊢
    simp only [Bool.and_eq_true,List.all_eq_true,decide_eq_true_eq,List.length_map] at h⊢
    refine ⟨fun t ht=>h.1 t ?_,by rw [List.length_take];omega⟩
    obtain ⟨y,hy,rfl⟩:=List.mem_map.1 ht
    exact List.mem_map.2 ⟨y,List.mem_of_mem_take hy,rfl⟩
  · rw [List.map_take];exact List.Sublist.nodup (List.take_sublist _ _) hR.nodup
theorem tot_append (a b:Docs):tot (a++b)=tot a+tot b:=by unfold tot;simp
theorem into_step {ds : Docs} (hR : Right ds) (htot : tot ds ≤ 60) {i : Nat} {d : Int × List UInt8} (hd : ds[i]? = some d) :
    Right (ds.take i)∧Right (ds.take i++[d])∧ds.take (i+1)=ds.take i++[d]∧(∀y∈ds.take i,y.1≠d.1)∧(ds.take i).length<10∧d.2.length≤40∧1≤d.1∧(rowsM (ds.take i)).length≤70∧(rowsM (ds.take i++[d])).length≤111:=by
  have hi:=(List.getElem?_eq_some_iff.1 hd).1
  have he:=(List.getElem?_eq_some_iff.1 hd).2
  have e1:ds.take (i+1)=ds.take i++[d]:=by rw [List.take_succ_eq_append_getElem hi,he]
  have h1:=right_take hR i
  have h2:=right_take hR (i+1)
  rw [e1] at h2
  have hl:=hR.len
  have hn:=h2.nodup
  rw [List.map_append,List.nodup_append] at hn
  have h40:=(right_len hR.right).2 i
  rw [getD_at (show (txt ds)[i]? =some d.2 by rw [List.getElem?_map,hd];rfl)] at h40
  have ht:tot ds=tot (ds.take i)+tot (ds.drop i):=by rw [←tot_append,List.take_append_drop]
  have hr1:=rows_tot h1
  have hr2:=rows_tot h2
  rw [tot_append] at hr2
  have hd1:tot [d]=d.2.length:=by unfold tot;simp
  have hlt:(ds.take i).length=i:=by rw [List.length_take];omega
  refine ⟨h1,h2,e1,fun y hy e=>hn.2.2 y.1 (List.mem_map.2 ⟨y,hy,rfl⟩) d.1 (by simp) e,by omega,by omega,(hR.id d (List.mem_of_getElem? hd)).1,by omega,?_⟩
  rw [hr2,hd1,List.length_append,List.length_cons,List.length_nil]
  omega
structure LoopI (s:Ar) (root:Int) (ds:Docs) (rate:Int) (i:Nat):Prop where
  inv:Inv s [root]
  vr:VR s root (ds.take i) rate
  size:s.size=6000
  busy:8*s.busyN≤30000
  zero:root=0↔i=0
theorem LoopI.start (ds:Docs) (rate:Int):LoopI (Ar.new 6000) 0 ds rate 0:=by
  have hI:=(Inv.new 6000 (by omega)).zero_cons (by simp)
  refine ⟨hI,⟨.inl ⟨rfl,by simp⟩,fun h=>absurd rfl h⟩,rfl,?_,by simp⟩
  have:(Ar.new 6000).busyN=0:=by unfold Ar.busyN;exact usedTo_none _ _ fun _ _ _=>rfl
  omega
section
variable {s : Ar} {root : Int} {ds : Docs} {rate : Int} {i : Nat} {d : Int × List UInt8} {x : Pt}
theorem LoopI.new (h:LoopI s root ds rate i) (hR:Right ds) (htot:tot ds≤60) (hd:ds[i]? =some d):LoopG root [root] (ds.take i) d rate (d.2.length+3) (Pt.new s root rate d.1 d.2):=by
  obtain ⟨-, -, -, -,h5, -, -,h8, -⟩:=into_step hR htot hd
  exact new0_T h.inv h.vr h.size h.busy h8 (by omega)
theorem LoopI.next (h:LoopG root [root] (ds.take i) d rate 0 x) (hR:Right ds) (htot:tot ds≤60) (hd:ds[i]? =some d) (h1:1≤rate) (h2:rate≤16):LoopI (x.s.drop root) x.root ds rate (i+1):=by
  obtain ⟨-,hRd,e, -⟩:=into_step hR htot hd
  obtain ⟨a,b,c,f,g⟩:=h.next_doc hRd h1 h2
  exact ⟨a,by rw [e];exact b,c,f,⟨fun q=>absurd q g,fun q=>by omega⟩⟩
theorem LoopI.asks (h : LoopI s root ds rate i) (hR : Right ds) (htot : tot ds ≤ 60) (hd : ds[i]? = some d) :
    lAll s (vOf s root).table=some (docsM (ds.take i))∧(docsM (ds.take i)).length≤50000∧vIs s root=true∧1≤d.1∧(placeIn d.1 (docsM (ds.take i)) 0).2=false∧d.2.length≤40∧vDocs s root<10:=by
  obtain ⟨h1, -, -,h4,h5,h6,h7, -⟩:=into_step hR htot hd
  refine ⟨h.vr.all h.inv (by omega),by simp only [docsM,List.length_map];omega,vr_is h.inv h.vr h1,h7,?_,h6,by rw [h.vr.docs h.inv (by omega)];omega⟩
  rw [placeIn_none d.1 (docsM (ds.take i)) 0 (fun y hy=>by unfold docsM at hy;obtain ⟨z,hz,rfl⟩:=List.mem_map.1 hy;exact h4 z hz)]
end
end Go.Proofs.YtjeofpkhgmefgaaGreat
namespace Go.Proofs.YtjeofpkhgmefgaaGreat
open Go.RowKit
theorem txt40 {ds:Docs} (hR:Right ds): ∀t,t∈txt ds→t.length≤50000:=fun t ht=>by
  obtain ⟨i,hi⟩:=List.getElem?_of_mem ht
  have:=(right_len hR.right).2 i
  rw [getD_at hi] at this;omega
end Go.Proofs.YtjeofpkhgmefgaaGreat
namespace Go.Proofs.YtjeofpkhgmefgaaGreat
open Go.RowKit
attribute [local go_sem ↓] Go.wp_at_zero Go.wp_at_succ
attribute [local go_sem] str_len
set_option maxRecDepth 100000 in
set_option maxHeartbeats 8000000 in
theorem into_calls {w0 W : World} {p : Addr} {L : List (Nat × Obj)} (h : St w0 W (.pointer (some p)) (Ar.new 6000) L) (rate : Int) (hr1 : 1 ≤ rate) (hr2 : rate ≤ 16) (ds : Docs) (hR : Right ds) (htot : tot ds ≤ 60) (A : Option Addr) (cap : Nat) (hD : Rd2 w0 (.slice A ds.length cap) ds) :
    Calls Tryz.prog 36 #[.pointer (some p), .int .i64 rate, .slice A ds.length cap] W fun e w'=> ∃root s',e= .returned (.tuple #[.int .i64 root, .bool true])∧St w0 w' (.pointer (some p)) s' L∧LoopI s' root ds rate ds.length:=by
  have HS:=Lib.hid h;have HK:=Lib.hid hD;have HR:=Lib.hid hR;have HT:=Lib.hid htot;have H1:=Lib.hid hr1;have H2:=Lib.hid hr2
  have HL:=Lib.hid hR.len
  clear h hD hR htot hr1 hr2
  go_enter Tryz.func36,Tryz.ntmps36
  go_wp2_with fail
  go_loopg [8,16] ds.length (fun k c8 c16 wr=> ∃(i:Nat) (root:Int) (s:Ar),c8= .int .i64 root∧c16= .int .i64 (i:Int)∧i+k=ds.length∧Hid (St w0 wr (.pointer (some p)) s L∧LoopI s root ds rate i))
  case atStart=>exact ⟨0,0,_,rfl,rfl,by omega,Lib.hid ⟨HS.out,LoopI.start ds rate⟩⟩
  case round=>
    obtain ⟨i,root,s,rfl,rfl,hk,HX⟩:=hrel
    clear HS
    by_cases hlt:i<ds.length
    · obtain ⟨k,rfl⟩: ∃k,gk=k+1:=⟨gk - 1,by omega⟩
      obtain ⟨d,hd⟩:=at_some hlt
      obtain ⟨A',cap',hv,h2⟩:=HK.out.below HX.out.1.bel
      obtain ⟨ad,rfl,hg,hc⟩:=h2 (by omega)
      obtain ⟨rfl, -,rfl⟩:=Value.slice.inj hv
      obtain ⟨-,c1,c2⟩:=hc i d hd
      have n1:decide ((i:Int)<(ds.length:Int))=true:=by simpa using hlt
      have n2:(i:Int)<(ds.length:Int):=by omega
      have E3:Hid (wrap64 ((i:Int)+1)=(i:Int)+1):=Lib.hid (IntWalk.wrap64_in _ (by have:=HL.out;omega))
      have Hd:=Lib.hid hd
      have HG:=Lib.hid (LoopI.new HX.out.2 HR.out HT.out hd)
      have HKK:Hid (i+1+k=ds.length):=Lib.hid (by omega)
      clear h2 hc hv hd
      replace c2:wr.cell? ⟨(ad.add (i*2)).block,(ad.add (i*2)).off+1,none⟩=some (.string ⟨d.2.toArray⟩):=c2
      go_wp2_with fail
      refine calls_gen fun V hV=> ?_
      have HS1:=Lib.hid (HX.out.1.below (nB hV))
      clear hV c1 c2 n1 n2 hk hlt hg
      obtain ⟨q1,q2,q3,q4,q5,q6,q7⟩:=LoopI.asks HX.out.2 HR.out HT.out Hd.out
      refine (HS1.out.put root rate d.1 d.2 _ q1 q2 q3 H1.out H2.out q4 q5 q6 q7).mono ?_
      rintro e1 W1 ⟨b,rfl,h1⟩
      have H1':=Lib.hid h1
      clear h1 HS1 q1 q2 q3 q4 q5 q6 q7
      go_wp2_with fail
      go_loopg [12,13] (d.2.length+3) (fun m c12 c13 wr2=> ∃(x:Pt),c13= .bool (decide (m=0))∧Hid (Sp w0 wr2 (.pointer (some p)) b x L∧LoopG root [root] (ds.take i) d rate m x))
      case atStart=>exact ⟨_,by simp,Lib.hid ⟨H1'.out,HG.out⟩⟩
      case round=>
        obtain ⟨x,rfl,HY⟩:=hrel
        clear H1' HG
        cases gk with
        | succ j=>
          have d0:decide (j+1=0)=false:=by simp
          obtain ⟨-,hRd, -, -,h10, -, -, -,hrw⟩:=into_step HR.out HT.out Hd.out
          obtain ⟨hin,y,u,y4,y5,y6⟩:=HY.out.2.next hRd hrw h10 H1.out
          have HY4:=Lib.hid y4;have HY5:=Lib.hid y5;have HY6:=Lib.hid y6
          have HOK:Hid (PtOk x):=Lib.hid ⟨hin.1,hin.2.1,hin.2.2.1,hin.2.2.2⟩
          clear y4 y5 y6 hin hRd h10 hrw
          rw [d0]
          clear d0
          go_wp2_with fail
          refine (HY.out.1.act fun O hT=>pStep_calls x HOK.out _ HY4.out _ hT).mono ?_
          rintro e11 W11 ⟨rfl,h11⟩
          have H11:=Lib.hid h11
          clear h11
          go_wp2_with fail
          refine (H11.out.write fun O hA=>work_calls _ _ HY5.out _ hA).mono ?_
          rintro e12 W12 ⟨rfl,h12⟩
          have H12:=Lib.hid h12
          clear h12 H11
          go_wp2_with fail
          go_roundg j
          case measure=>exact Nat.lt_succ_self _
          case rel=>exact ⟨_,rfl,Lib.hid ⟨H12.out,HY6.out⟩⟩
        | zero=>
          have d0:decide ((0:Nat)=0)=true:=rfl
          have HN:=Lib.hid (LoopI.next HY.out.2 HR.out HT.out Hd.out H1.out H2.out)
          have HC:Hid (root≠0→x.s.cntE root=0):=Lib.hid (fun h0=>by
            obtain ⟨-, -,hI, -⟩:=HY.out.2.done (into_step HR.out HT.out Hd.out).2.1 H1.out H2.out
            unfold Ar.cntE;rw [if_neg (hI.pos (by simp) h0)])
          rw [d0]
          clear d0
          by_cases h0:root=0
          · have d1:(root !=0)=false:=by rw [h0];rfl
            have HE:Hid (x.s.drop root=x.s):=Lib.hid (by rw [h0,drop_zero])
            clear h0
            go_wp2_with fail
            refine (HY.out.1.same fun O hT=>pRoot_calls _ hT).mono ?_
            rintro e14 W14 ⟨rfl,h14⟩
            have H14:=Lib.hid h14
            clear h14
            go_wp2_with fail
            have e3:=E3.out
            go_roundg k
            case measure=>omega
            case rel=>exact ⟨i+1,x.root,x.s.drop root,rfl,by first|rfl|(rw [e3];rfl),HKK.out,Lib.hid ⟨by rw [HE.out];exact H14.out.st,HN.out⟩⟩
          · have d1:(root !=0)=true:=by simpa using h0
            clear h0
            go_wp2_with fail
            refine (HY.out.1.write fun O hA=>drop_calls root _ hA).mono ?_
            rintro e13 W13 ⟨rfl,h13⟩
            have H13:=Lib.hid h13
            clear h13
            go_wp2_with fail
            refine (H13.out.same fun O hT=>pRoot_calls _ hT).mono ?_
            rintro e14 W14 ⟨rfl,h14⟩
            have H14:=Lib.hid h14
            clear h14 H13
            go_wp2_with fail
            have e3:=E3.out
            go_roundg k
            case measure=>omega
            case rel=>exact ⟨i+1,x.root,x.s.drop root,rfl,by first|rfl|(rw [e3];rfl),HKK.out,Lib.hid ⟨H14.out.st,HN.out⟩⟩
    · have hi:i=ds.length:=by omega
      subst hi
      have n1:decide ((ds.length:Int)<(ds.length:Int))=false:=by simp
      go_wp2_with fail
      go_ret2
      exact ⟨root,s,rfl,HX.out.1,HX.out.2⟩
end Go.Proofs.YtjeofpkhgmefgaaGreat
namespace Go.Proofs.YtjeofpkhgmefgaaGreat
open Go.RowKit
attribute [local go_sem ↓] Go.wp_at_zero Go.wp_at_succ
set_option maxRecDepth 100000 in
set_option maxHeartbeats 4000000 in
theorem putRates_walk (A : Option Addr) (cap : Nat) (ds : Docs) (rate other : Int) (hl : ds.length ≤ maxLen) (hid : IdOk ds) (w : World) (h : Rd2 w (.slice A ds.length cap) ds) :
    Calls Tryz.prog 12 #[.slice A ds.length cap, .int .i64 rate, .int .i64 other] w fun e w'=>e= .returned (.bool true)∧Below w.heap.size w w':=by
  have HK:=Lib.hid h;clear h
  have hcase : (few ds = false ∨ (few ds = true ∧ decide (10 < (ds.length : Int)) = false ∧ (decide (rate < 1) = true ∨ (decide (rate < 1) = false ∧ (decide (16 < rate) = true ∨ (decide (16 < rate) = false ∧ (decide (other < 1) = true ∨ (decide (other < 1) = false ∧ decide (16 < other) = true)))))))) ∨
      (few ds=true∧decide (10<(ds.length:Int))=false∧decide (rate<1)=false∧decide (16<rate)=false∧decide (other<1)=false∧decide (16<other)=false∧1≤rate∧rate≤16∧1≤other∧other≤16):=by
    cases hf:few ds with
    | false=>exact .inl (.inl rfl)
    | true=>
      have:=(few_right hf hid).2.2
      have h10:decide (10<(ds.length:Int))=false:=by simp;omega
      simp only [h10,decide_eq_true_eq,decide_eq_false_iff_not]
      have:(rate<1∨(¬rate<1∧(16<rate∨(¬16<rate∧(other<1∨(¬other<1∧16<other))))))∨(1≤rate∧rate≤16∧1≤other∧other≤16):=by omega
      rcases this with q|⟨q1,q2,q3,q4⟩
      · exact .inl (.inr ⟨trivial,trivial,q⟩)
      · exact .inr ⟨trivial,trivial,by omega,by omega,by omega,by omega,q1,q2,q3,q4⟩
  rcases hcase with hno|⟨hf,d0,d1,d2,d3,d4,h1,h2,h3,h4⟩
  · rcases hno with hf|⟨hf,d0,d1|⟨d1,d2|⟨d2,d3|⟨d3,d4⟩⟩⟩⟩<;>
    (have Hf:=Lib.hid hf
     clear hf
     go_enter Tryz.func12,Tryz.ntmps12
     go_wp2_with fail
     refine (few_calls _ ds hl _ HK.out).mono ?_
     rintro e0 W0 ⟨rfl,hb1⟩
     rw [Hf.out]
     have HB0:=Lib.hid hb1;clear hb1
     go_wp2_with fail
     refine (alive13_calls _).mono ?_
     rintro e1 W1 ⟨rfl,hb1⟩
     have HB1:=Lib.hid (below_step HB0.out hb1);clear hb1
     go_wp2_with fail
     go_ret
     exact ⟨rfl,HB1.out⟩)
  obtain ⟨hR,htot,hl10⟩:=few_right hf hid
  have HN70:Hid ((rowsM ds).length≤70):=Lib.hid (by have:=rows_tot hR;omega)
  have HR:=Lib.hid hR;have HT:=Lib.hid htot;have H1:=Lib.hid h1;have H2:=Lib.hid h2;have H3:=Lib.hid h3;have H4:=Lib.hid h4;have HL:=Lib.hid hl10
  have Hf:=Lib.hid hf
  clear hR htot hl10 h1 h2 h3 h4 hf
  go_enter Tryz.func12,Tryz.ntmps12
  go_wp2_with fail
  refine (few_calls _ ds hl _ HK.out).mono ?_
  rintro e0 W0 ⟨rfl,hb1⟩
  rw [Hf.out]
  have HB0:=Lib.hid hb1;clear hb1
  go_wp2_with fail
  refine (alive13_calls _).mono ?_
  rintro e1 W1 ⟨rfl,hb1⟩
  have HB1:=Lib.hid (below_step HB0.out hb1);clear hb1 d0 d1 d2 d3 d4
  go_wp2_with fail
  refine (new_calls 6000 (by omega) (by omega) _).mono ?_
  rintro e3 W3 ⟨p,O,rfl,hA,hO,hb3⟩
  have HA:=Lib.hid hA;have HO:=Lib.hid hO;have HB3:=Lib.hid hb3
  clear hA hO hb3
  go_wp2_with fail
  refine (new_calls 6000 (by omega) (by omega) _).mono ?_
  rintro e4 W4 ⟨q,O2,rfl,hA2,hO2,hb4⟩
  obtain ⟨L2,hpk,hst⟩:=St.both (below_step HB1.out HB3.out) HA.out (fun b hb=>Nat.le_trans HB1.out.size (HO.out b hb)) hb4 hA2 hO2
  have HPK:=Lib.hid hpk;have HS:=Lib.hid hst
  clear hA2 hO2 hb4 hpk hst HA HO HB3
  go_wp2_with fail
  refine (into_calls HS.out rate H1.out H2.out ds HR.out HT.out A cap HK.out).mono ?_
  rintro e5 W5 ⟨root,s,rfl,h5,hI⟩
  obtain ⟨L1,hpk1,hst1⟩:=h5.flip HPK.out
  have HPK1:=Lib.hid hpk1;have HS1:=Lib.hid hst1;have HI:=Lib.hid hI
  clear h5 hpk1 hst1 HS hI HPK
  go_wp2_with fail
  refine (into_calls HS1.out other H3.out H4.out ds HR.out HT.out A cap HK.out).mono ?_
  rintro e6 W6 ⟨root2,s2,rfl,h6,hI2⟩
  have HS2:=Lib.hid h6
  have hv1:=HI.out.vr
  have hv2:=hI2.vr
  rw [List.take_length] at hv1 hv2
  have HC1:=Lib.hid (hv1.check_own HI.out.inv HR.out H1.out H2.out)
  have HC2:=Lib.hid (hv2.check_own hI2.inv HR.out H3.out H4.out)
  obtain ⟨N,hN⟩: ∃N,(rowsM ds).length=N:=⟨_,rfl⟩
  have HR1:Hid (vRows s root=(N:Int)):=Lib.hid (by rw [hv1.rows HI.out.inv (by have:=HL.out;omega),hN])
  have HR2:Hid (vRows s2 root2=(N:Int)):=Lib.hid (by rw [hv2.rows hI2.inv (by have:=HL.out;omega),hN])
  have HX1:Hid (∀i:Int,vNext s root i=some (nextL (rowW (rowsM ds)) i)):=Lib.hid fun i=>hv1.next HI.out.inv (by have:=HL.out;omega) i
  have HX2:Hid (∀i:Int,vNext s2 root2 i=some (nextL (rowW (rowsM ds)) i)):=Lib.hid fun i=>hv2.next hI2.inv (by have:=HL.out;omega) i
  have HNN:Hid (N≤70):=Lib.hid (by have:=HN70.out;omega)
  clear h6 hI2 hv1 hv2 hN HI HN70 HS1
  go_wp2_with fail
  refine (HS2.out.read2 HPK1.out fun O hA=>vRows_calls root _ hA).mono ?_
  rintro e7 W7 ⟨rfl,h7⟩
  rw [HR1.out]
  have H7:=Lib.hid h7
  clear h7 HS2
  go_wp2_with fail
  refine (H7.out.read fun O hA=>vRows_calls root2 _ hA).mono ?_
  rintro e8 W8 ⟨rfl,h8⟩
  rw [HR2.out]
  have H8:=Lib.hid h8
  clear h8 H7
  go_wp2_with fail
  go_loopg [13] N (fun m c13 wr=> ∃i:Nat,c13= .int .i64 (i:Int)∧i+m=N∧Hid (St w wr (.pointer (some ⟨q,0,none⟩)) s2 L1))
  case atStart=>exact ⟨0,rfl,by omega,H8⟩
  case round=>
    obtain ⟨i,rfl,hk,HX⟩:=hrel
    clear H8
    by_cases hlt:i<N
    · obtain ⟨k,rfl⟩: ∃k,gk=k+1:=⟨gk - 1,by omega⟩
      have n1:decide ((i:Int)<(N:Int))=true:=by simpa using hlt
      have E3:Hid (wrap64 ((i:Int)+1)=(i:Int)+1):=Lib.hid (IntWalk.wrap64_in _ (by have:=HNN.out;omega))
      have HKK:Hid (i+1+k=N):=Lib.hid (by omega)
      obtain ⟨r,hr⟩: ∃r,nextL (rowW (rowsM ds)) (i:Int)=r:=⟨_,rfl⟩
      have HQ1:Hid (vNext s root (i:Int)=some r):=Lib.hid (by rw [←hr];exact HX1.out _)
      have HQ2:Hid (vNext s2 root2 (i:Int)=some r):=Lib.hid (by rw [←hr];exact HX2.out _)
      clear hr hk
      go_wp2_with fail
      refine (HX.out.read2 HPK1.out fun O hA=>vRows_calls root _ hA).mono ?_
      rintro e9 W9 ⟨rfl,h9⟩
      rw [HR1.out]
      have H9:=Lib.hid h9
      clear h9
      go_wp2_with fail
      refine (H9.out.read2 HPK1.out fun O hA=>vNext_calls root (i:Int) r HQ1.out _ hA).mono ?_
      rintro e10 W10 ⟨rfl,h10⟩
      have H10:=Lib.hid h10
      clear h10 H9
      go_wp2_with fail
      refine (H10.out.read fun O hA=>vNext_calls root2 (i:Int) r HQ2.out _ hA).mono ?_
      rintro e11 W11 ⟨rfl,h11⟩
      have H11:=Lib.hid h11
      clear h11 H10
      go_wp2_with fail
      have e3:=E3.out
      go_roundg k
      case measure=>omega
      case rel=>exact ⟨i+1,by first|rfl|(rw [e3];rfl),HKK.out,H11⟩
    · obtain rfl:i=N:=by omega
      have n1:decide ((i:Int)<(i:Int))=false:=by simp
      go_wp2_with fail
      refine (HX.out.read2 HPK1.out fun O hA=>vRows_calls root _ hA).mono ?_
      rintro e9 W9 ⟨rfl,h9⟩
      rw [HR1.out]
      have H9:=Lib.hid h9
      clear h9
      go_wp2_with fail
      refine (H9.out.read2 HPK1.out fun O hA=>check_calls root rate ds _ true HC1.out (by have:=HL.out;omega) (txt40 HR.out) _ hA (HK.out.below H9.out.bel)).mono ?_
      rintro e10 W10 ⟨rfl,h10⟩
      have H10:=Lib.hid h10
      clear h10 H9
      go_wp2_with fail
      refine (H10.out.read fun O hA=>check_calls root2 other ds _ true HC2.out (by have:=HL.out;omega) (txt40 HR.out) _ hA (HK.out.below H10.out.bel)).mono ?_
      rintro e11 W11 ⟨rfl,h11⟩
      have H11:=Lib.hid h11
      clear h11 H10
      go_wp2_with fail
      go_ret
      exact ⟨rfl,H11.out.bel⟩
end Go.Proofs.YtjeofpkhgmefgaaGreat

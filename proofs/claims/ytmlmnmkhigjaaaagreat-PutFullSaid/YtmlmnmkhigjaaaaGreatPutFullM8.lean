/- Part 8 of what PutFull needs: the walks of the program's functions, and plain facts. -/
import Derived.Test.YtmlmnmkhigjaaaaGreatPutFullM7
import Derived.StillTail
set_option linter.unusedSimpArgs false
set_option linter.unusedVariables false
set_option linter.unnecessarySimpa false
namespace Go.Proofs.YtmlmnmkhigjaaaaGreat
set_option maxRecDepth 100000
set_option maxHeartbeats 8000000
section
open Go.RowKit
theorem build_partsF {s : Ar} (hI : Inv s []) (hw : s.wait = []) {ds : Docs} (h : Right ds) (hne : ds ≠ []) (rate : Int) :
    ∃B1 B2 root ok s',bRows rate (rowsM ds) 0 ⟨s,true,Parts.zero,0⟩=some B1∧bTable (docsM ds) B1=some B2∧bEnd B2=some (root,ok,s')
      ∧Inv s' [root]∧s'.wait=[]∧s'.size=s.size∧((ok=true∧root≠0∧VR s' root ds rate)∨(ok=false∧root=0)):=by
  obtain ⟨⟨root,ok,s'⟩,hr,h1,h2,h3,h4,h5⟩:=bBuild_T hI hw h rate
  unfold bBuild at hr
  rw [if_neg (show docsM ds≠[] by unfold docsM;simpa using hne)] at hr
  obtain ⟨B1,e1,hr⟩:=Option.bind_eq_some_iff.1 hr
  obtain ⟨B2,e2,e3⟩:=Option.bind_eq_some_iff.1 hr
  refine ⟨B1,B2,root,ok,s',e1,e2,e3,h1,h2,h3,?_⟩
  rcases h5 with ⟨o,v⟩|⟨o,z, -⟩
  · refine .inl ⟨o,fun hz=> ?_,v⟩
    rcases h4 hz with q|q
    · exact hne q
    · cases o.symm.trans q
  · exact .inr ⟨o,z⟩
theorem bldF_calls {w0 W : World} {p : Addr} {L : List (Nat × Obj)} (n : Nat) (hn2 : n ≤ 6000) (h : St w0 W (.pointer (some p)) (Ar.new n) L) (rate : Int) (hr1 : 1 ≤ rate) (hr2 : rate ≤ 1000) (ds : Docs) (hR : Right ds) (A : Option Addr) (cap : Nat) (hD : Rd2 W (.slice A ds.length cap) ds) (hno : ∀ a, A = some a → 0 < ds.length → ∀ O, AP W (.pointer (some p)) (Ar.new n) O → (∀ b, O b → w0.heap.size ≤ b) → (∀ y ∈ L, W.heap[y.1]? = some y.2 ∧ ¬ O y.1) → ¬ O a.block) :
    Calls Tryz.prog 17 #[.pointer (some p), .int .i64 rate, .slice A ds.length cap] W fun e w'=> ∃root ok s',e= .returned (.tuple #[.int .i64 root, .bool ok])∧St w0 w' (.pointer (some p)) s' L∧Inv s' [root]∧s'.wait=[]∧s'.size=n
      ∧((ok=true∧VR s' root ds rate∧(root=0↔ds=[]))∨(ok=false∧root=0)):=by
  by_cases hne:ds=[]
  · subst hne
    refine (bldnil_calls (some p) rate A 0 cap rfl W).mono ?_
    rintro e w' ⟨he,hb⟩
    exact ⟨0,true,_,he,h.below hb,(Inv.new n hn2).zero_cons (by simp),rfl,rfl, .inl ⟨rfl,⟨.inl ⟨rfl,rfl⟩,fun h=>absurd rfl h⟩,⟨fun _=>rfl,fun _=>rfl⟩⟩⟩
  · obtain ⟨A',c',hv,h2⟩:=id hD
    obtain ⟨rfl, -,rfl⟩:=Value.slice.inj hv
    have hpos:=List.length_pos_iff.2 hne
    obtain ⟨ad,rfl,hlt, -⟩:=h2 hpos
    obtain ⟨O,hA,hO,hL⟩:=h.ex
    obtain ⟨B1,B2,root,ok,s',h1,h2',h3,hI,hwt,hz,hv⟩:=build_partsF (Inv.new n hn2) rfl hR hne rate
    refine (buildF_calls rate hr1 hr2 ds ad cap hne hR.right W hD (fun hq=>hno ad rfl hpos O hA hO hL hq) hA B1 B2 h1 h2' root ok s' h3).mono ?_
    rintro e w' ⟨he,O',a,b⟩
    refine ⟨root,ok,s',he,h.did (O':=O') ⟨O,hA,hO,hL,a,b⟩,hI,hwt,hz,?_⟩
    rcases hv with ⟨o,h0,v⟩|⟨o,z⟩
    · exact .inl ⟨o,v,⟨fun e=>absurd e h0,fun e=>absurd e hne⟩⟩
    · exact .inr ⟨o,z⟩
end
section
open Go.RowKit
def docCells (ds:List (Int×List UInt8)):List Value:=ds.flatMap fun d=>[.int .i64 d.1,strOf d.2]
theorem docCells_append (a b:List (Int×List UInt8)):docCells (a++b)=docCells a++docCells b:=by unfold docCells;rw [List.flatMap_append]
theorem docCells_at: ∀{ds:List (Int×List UInt8)} {i:Nat} {d:Int×List UInt8},ds[i]? =some d→(docCells ds)[i*2]? =some (.int .i64 d.1)∧(docCells ds)[i*2+1]? =some (strOf d.2)
  | x::ds,0,d,h=>by
    obtain rfl:x=d:=by simpa using h
    exact ⟨rfl,rfl⟩
  | x::ds,i+1,d,h=>by
    have:=docCells_at (ds:=ds) (i:=i) (d:=d) (by simpa using h)
    have e:docCells (x::ds)= .int .i64 x.1::strOf x.2::docCells ds:=rfl
    rw [e,show (i+1)*2=i*2+1+1 by omega]
    simpa using this
theorem rd2_own {W:World} {base:Nat} {e:TypeId} {v:Value} {ds:List (Int×List UInt8)} (h:W.ownsRow base e 2 v ds.length (docCells ds)):Rd2 W v ds:=by
  rcases h.2 with ⟨rfl,h0⟩|⟨g,cap,cur,rfl,hg,hc,hcap,hm,hs,hx⟩
  · refine ⟨none,0,?_,fun h=>by omega⟩
    rw [h0]
  · refine ⟨_,cap,rfl,fun hn=>⟨_,rfl,lt_of hc,fun i d hd=> ?_⟩⟩
    have hi:=(List.getElem?_eq_some_iff.1 hd).1
    obtain ⟨c1,c2⟩:=docCells_at hd
    refine ⟨by rw [block_of_add];exact lt_of hc,?_,?_⟩
    · rw [add_zero_off,h.cellAt (i*2) (by omega),c1]
    · have:=h.cellAt (i*2+1) (by omega)
      rw [add_zero_off]
      exact this.trans c2
theorem docCells_length: ∀ds:List (Int×List UInt8),(docCells ds).length=ds.length*2
  | []=>rfl
  | d::ds=>by
    have e:docCells (d::ds)= .int .i64 d.1::strOf d.2::docCells ds:=rfl
    rw [e,List.length_cons,List.length_cons,docCells_length ds,List.length_cons];omega
theorem docCells_one (ds:List (Int×List UInt8)): ∀u∈docCells ds,u.oneCell'=true:=fun u hu=>by
  unfold docCells at hu
  obtain ⟨d, -,h⟩:=List.mem_flatMap.1 hu
  rcases List.mem_cons.1 h with rfl|h
  · rfl
  · rw [List.mem_singleton.1 h];rfl
theorem docCells_cell: ∀{ds:List (Int×List UInt8)} {j:Nat} {u:Value},(docCells ds)[j]? =some u→ ∃i d,ds[i]? =some d∧((j=i*2∧u= .int .i64 d.1)∨(j=i*2+1∧u=strOf d.2))
  | [],j,u,h=>by cases h
  | x::ds,0,u,h=>⟨0,x,rfl, .inl ⟨rfl,by have e:docCells (x::ds)= .int .i64 x.1::strOf x.2::docCells ds:=rfl;rw [e] at h;simpa using h.symm⟩⟩
  | x::ds,1,u,h=>⟨0,x,rfl, .inr ⟨rfl,by have e:docCells (x::ds)= .int .i64 x.1::strOf x.2::docCells ds:=rfl;rw [e] at h;simpa using h.symm⟩⟩
  | x::ds,j+2,u,h=>by
    have e:docCells (x::ds)= .int .i64 x.1::strOf x.2::docCells ds:=rfl
    obtain ⟨i,d,h1,h2⟩:=docCells_cell (ds:=ds) (j:=j) (u:=u) (by rw [e] at h;simpa using h)
    refine ⟨i+1,d,by simpa using h1,?_⟩
    rcases h2 with ⟨rfl,h2⟩|⟨rfl,h2⟩
    · exact .inl ⟨by omega,h2⟩
    · exact .inr ⟨by omega,h2⟩
theorem add_add (q:Addr) (a b:Nat):(q.add a).add b=q.add (a+b):=by
  obtain ⟨bb,oo,pp⟩:=q
  unfold Addr.add
  rcases Nat.eq_zero_or_pos a with rfl|h1
  · simp
  · rcases Nat.eq_zero_or_pos b with rfl|h2
    · simp
    · rw [if_neg (by omega),if_neg (by omega),if_neg (by omega)]
      cases pp<;>simp<;>omega
theorem rds_docs {w:World} {A:Option Addr} {cap:Nat} {ds:List (Int×List UInt8)} (h:Rd2 w (.slice A ds.length cap) ds):Rds w A ds.length 2 (docCells ds):=by
  refine ⟨docCells_length ds,fun hn=> ?_⟩
  obtain ⟨A',c,hv,h2⟩:=h
  obtain ⟨rfl, -,rfl⟩:=Value.slice.inj hv
  obtain ⟨ad,rfl,hlt,hc⟩:=h2 hn
  refine ⟨ad,rfl,hlt,fun j u hu=> ?_⟩
  obtain ⟨i,d,hd,q⟩:=docCells_cell hu
  obtain ⟨-,c1,c2⟩:=hc i d hd
  rcases q with ⟨rfl,rfl⟩|⟨rfl,rfl⟩
  · exact c1
  · rw [←add_add];exact c2
structure Keeps (base:Nat) (L:List (Nat×Obj)) (v:Value) (ds:List (Int×List UInt8)):Prop where
  own: ∀W:World,(∀x∈L,W.heap[x.1]? =some x.2)→W.ownsRow base 34 2 v ds.length (docCells ds)
  blk: ∀g,v.ownBlock=some g→ ∃o,(g,o)∈L
theorem Keeps.nil (base:Nat):Keeps base [] (.slice none 0 0) []:=⟨fun _ _=>World.ownsRow_nil _ _ _ _,fun g h=>by cases h⟩
theorem Keeps.row {w0 W:World} {ap:Value} {s:Ar} {L:List (Nat×Obj)} {base:Nat} {v:Value} {ds:List (Int×List UInt8)} (h:Keeps base L v ds) (hS:St w0 W ap s L):W.ownsRow base 34 2 v ds.length (docCells ds):=by
  obtain ⟨O, -, -,hL⟩:=hS.ex
  exact h.own W fun x hx=>(hL x hx).1
end
section
open Go.RowKit
section
variable {P : Program} {ops : Array Oper} {Q : Exit → Act → World → Prop} {md : Region.Mode} {S : World → Prop} {n : Nat}
structure Cl (md:Region.Mode) (ops:Array Oper) (listed:Array Bool):Prop where
  size:listed.size=ops.size
  closed: ∀j oj,ops[j]? =some oj→listed.getD j false=true→ ∀e∈oj.after,Region.binds md e=true→listed.getD e.on false=true
theorem Cl.set {i:Nat} {listed:Array Bool} (inv:Cl md ops listed) (hi:i∈Region.ready md ops listed):Cl md ops (listed.setIfInBounds i true):=by
  obtain ⟨_,oi,hoi,hall⟩:=mem_ready.1 hi
  refine ⟨by simp [inv.size],fun j oj hj hl e he hb=> ?_⟩
  by_cases hij:i=j
  · subst hij
    have:oj=oi:=Option.some.inj (hj.symm.trans hoi)
    subst this
    exact getD_set_true (hall e he hb)
  · rw [getD_set_ne false hij] at hl
    exact getD_set_true (inv.closed j oj hj hl e he hb)
def ancB (md:Region.Mode) (ops:Array Oper):Nat→Nat→Nat→Bool
  | 0,j,i=>Region.waitsFor md ops j i
  | f+1,j,i=>Region.waitsFor md ops j i||(List.range ops.size).any fun k=>Region.waitsFor md ops j k&&ancB md ops f k i
def wpAnyT (P:Program) (md:Region.Mode) (ops:Array Oper) (Q:Exit→Act→World→Prop) (S:World→Prop) (n:Nat):Nat→Array Bool→Act→World→Prop
  | 0,listed,a,w=>Region.ready md ops listed=[]∧Q .normal a w
  | fuel+1,listed,a,w=>
    (Region.ready md ops listed=[]→Q .normal a w)∧
    ∀i∈Region.ready md ops listed,wpOp P ops Q i (fun a' w'=>((listed.setIfInBounds i true).getD n true=false→S w')∧wpAnyT P md ops Q S n fuel (listed.setIfInBounds i true) a' w') a w
def WT (P:Program) (md:Region.Mode) (ops:Array Oper) (Q:Exit→Act→World→Prop) (S:World→Prop) (n fuel:Nat) (listed:Array Bool) (a:Act) (w:World):Prop:=Cl md ops listed→wpAnyT P md ops Q S n fuel listed a w
variable {i : Nat} {oi : Oper} {tl : List Oper} {fuel : Nat} {listed : Array Bool} {a a' : Act} {w : World}
end
end
section
open Go.RowKit
section
variable {P : Program} {ops : Array Oper} {Q : Exit → Act → World → Prop} {md : Region.Mode} {S : World → Prop} {n : Nat}
def wpAnyE (P:Program) (md:Region.Mode) (ops:Array Oper) (Q:Exit→Act→World→Prop) (S:World→Prop) (n:Nat):Nat→Array Bool→Act→World→Prop
  | 0,listed,a,w=>Region.ready md ops listed=[]∧Q .normal a w
  | fuel+1,listed,a,w=>
    (Region.ready md ops listed=[]→Q .normal a w)∧
    ∀i∈Region.ready md ops listed,wpOp P ops Q i (fun a' w'=>((listed.setIfInBounds i true).getD n false=false→S w')∧ ∀w2,Below w'.heap.size w' w2→wpAnyE P md ops Q S n fuel (listed.setIfInBounds i true) a' w2) a w
def WE (P:Program) (md:Region.Mode) (ops:Array Oper) (Q:Exit→Act→World→Prop) (S:World→Prop) (n fuel:Nat) (listed:Array Bool) (a:Act) (w:World):Prop:=Cl md ops listed→wpAnyE P md ops Q S n fuel listed a w
structure IdleE (P:Program) (ops:Array Oper) (Q:Exit→Act→World→Prop) (S:World→Prop) (i:Nat) (oi:Oper) (v:Value) (a:Act):Prop where
  run: ∀a',execOp a'.eval oi=execOp a.eval oi→Region.wanted oi (yielded ops a'.tmps)=Region.wanted oi (yielded ops a.tmps)→ ∀K w,S w→(∀w2,Below w.heap.size w w2→K (a'.put oi.dst v) w2)→wpOp P ops Q i K a' w
variable {i : Nat} {oi : Oper} {tl : List Oper} {fuel : Nat} {listed : Array Bool} {a a' : Act} {w : World}
theorem HeldB.ext (W:World): ∀w w2,HeldB W w→Below w.heap.size w w2→HeldB W w2:=fun _ _ h hb=>HeldB.call h hb
end
end
section
open Go.RowKit
attribute [local go_sem ↓] Go.wp_at_zero Go.wp_at_succ
attribute [local go_sem] str_len
theorem rd2_low {w:World} {A:Option Addr} {cap:Nat} {ds:Docs} (h:Rd2 w (.slice A ds.length cap) ds) {ad:Addr} (ha:A=some ad) (hp:0<ds.length):ad.block<w.heap.size:=by
  obtain ⟨A',c,hv,hc⟩:=h
  obtain ⟨rfl, -,rfl⟩:=Value.slice.inj hv
  obtain ⟨ad',e,hlt, -⟩:=hc hp
  subst ha
  obtain rfl:=Option.some.inj e
  exact hlt
theorem placeZ_neg (id:Int): ∀(l:Docs) (i:Int),0≤i→placeZ id l i<0→ ∀y∈l,y.1≠id
  | [],_,_,_,y,hy=>by cases hy
  | d::l,i,hi,h,y,hy=>by
    unfold placeZ at h
    by_cases e:d.1=id
    · rw [if_pos e] at h;omega
    · rw [if_neg e] at h
      rcases List.mem_cons.1 hy with rfl|hy
      · exact e
      · exact placeZ_neg id l (i+1) (by omega) h y hy
theorem txt40 {ds:Docs} (hR:Right ds): ∀t,t∈txt ds→t.length≤50000:=fun t ht=>by
  obtain ⟨i,hi⟩:=List.getElem?_of_mem ht
  have:=(right_len hR.right).2 i
  rw [getD_at hi] at this;omega
theorem putFull_walk (A : Option Addr) (cap : Nat) (ds : Docs) (d : Int × List UInt8) (rate room : Int) (hl : ds.length ≤ maxLen) (hid : IdOk ds) (hwf : (Lit.int .i64 d.1).wf = true) (w : World) (h : Rd2 w (.slice A ds.length cap) ds) :
    Calls Tryz.prog 7 #[.slice A ds.length cap, .agg #[.int .i64 d.1,strOf d.2], .int .i64 rate, .int .i64 room] w fun e w'=>e= .returned (.bool true)∧Below w.heap.size w w':=by
  have HK:=Lib.hid h;clear h
  have hd64:d.1<9223372036854775808:=by simp [Lit.wf,IntKind.min,IntKind.max,IntKind.bits,IntKind.signed] at hwf;omega
  clear hwf
  cases hf:few ds with
  | false=>
    have Hf:=Lib.hid hf;clear hf
    unfold strOf
    go_enter Tryz.func7,Tryz.ntmps7
    go_wp2_with fail
    refine calls_gen fun V0 hV0=> ?_
    have hb0:Below w.heap.size w V0:=by rw [hV0];exact below_box _ _
    clear hV0
    refine (few_calls _ ds hl _ (HK.out.below hb0)).mono ?_
    rintro e0 W0 ⟨rfl,hb1⟩
    rw [Hf.out]
    have HB0:=Lib.hid (below_step hb0 hb1);clear hb0 hb1
    go_wp2_with fail
    refine (alive13_calls _).mono ?_
    rintro e1 W1 ⟨rfl,hb1⟩
    have HB1:=Lib.hid (below_step HB0.out hb1);clear hb1
    go_wp2_with fail
    go_ret
    exact ⟨rfl,HB1.out⟩
  | true=>
    obtain ⟨hR,htot,hl10⟩:=few_right hf hid
    have Hf:=Lib.hid hf;clear hf
    obtain ⟨P,hP⟩: ∃P,placeZ d.1 ds 0=P:=⟨_,rfl⟩
    have HP:=Lib.hid hP
    have HL10:Hid (ds.length≤50000):=Lib.hid (by omega)
    have hcase : (decide (10 ≤ (ds.length : Int)) = true ∨ (decide (10 ≤ (ds.length : Int)) = false ∧ (decide (rate < 1) = true ∨ (decide (rate < 1) = false ∧ (decide (16 < rate) = true ∨ (decide (16 < rate) = false ∧ (decide (d.1 < 1) = true ∨ (decide (d.1 < 1) = false ∧ (decide (0 ≤ P) = true ∨ (decide (0 ≤ P) = false ∧ (decide (40 < (d.2.length : Int)) = true ∨ (decide (40 < (d.2.length : Int)) = false ∧ (decide (room < 1) = true ∨ (decide (room < 1) = false ∧ decide (6000 < room) = true)))))))))))))) ∨
        (decide (10≤(ds.length:Int))=false∧decide (rate<1)=false∧decide (16<rate)=false∧decide (d.1<1)=false∧decide (0≤P)=false∧decide (40<(d.2.length:Int))=false∧decide (room<1)=false∧decide (6000<room)=false):=by
      simp only [decide_eq_true_eq,decide_eq_false_iff_not];omega
    rcases hcase with hno|⟨d1,d2,d3,d4,d5,d6,d7,d8⟩
    · clear hR htot hl10 hP
      rcases hno with d1|⟨d1,d2|⟨d2,d3|⟨d3,d4|⟨d4,d5|⟨d5,d6|⟨d6,d7|⟨d7,d8⟩⟩⟩⟩⟩⟩⟩<;>
      (unfold strOf
       go_enter Tryz.func7,Tryz.ntmps7
       go_wp2_with fail
       refine calls_gen fun V0 hV0=> ?_
       have hb0:Below w.heap.size w V0:=by rw [hV0];exact below_box _ _
       have kd:V0.heap[w.heap.size]? =some (.cells #[.int .i64 d.1,strOf d.2] 34 (0,0)):=by rw [hV0];exact blk_new _ _ _ rfl
       clear hV0
       refine (few_calls _ ds hl _ (HK.out.below hb0)).mono ?_
       rintro e0 W0 ⟨rfl,hb1⟩
       rw [Hf.out]
       replace kd:=keep_blk hb1 kd
       have HB0:=Lib.hid (below_step hb0 hb1);clear hb0 hb1
       obtain ⟨c_kd,f_kd,l_kd⟩:=f3 kd
       go_wp2_with fail
       first
         | (refine (place_calls _ ds d.1 HL10.out _ (HK.out.below HB0.out)).mono ?_
            rintro e1 W1 ⟨rfl,hb1⟩
            rw [HP.out]
            replace kd:=keep_blk hb1 kd
            clear c_kd f_kd
            obtain ⟨c_kd,f_kd,l_kd⟩:=f3 kd
            have HB1:=Lib.hid (below_step HB0.out hb1)
            clear hb1
            go_wp2_with fail
            refine (alive13_calls _).mono ?_
            rintro e2 W2 ⟨rfl,hb2⟩
            have HB2:=Lib.hid (below_step HB1.out hb2)
            clear hb2
            go_wp2_with fail
            go_ret
            exact ⟨rfl,HB2.out⟩)
         | (refine (alive13_calls _).mono ?_
            rintro e2 W2 ⟨rfl,hb2⟩
            have HB2:=Lib.hid (below_step HB0.out hb2)
            clear hb2
            go_wp2_with fail
            go_ret
            exact ⟨rfl,HB2.out⟩))
    have hb8:ds.length<10∧1≤rate∧rate≤16∧1≤d.1∧P<0∧d.2.length≤40∧1≤room∧room≤6000:=by
      simp only [decide_eq_false_iff_not] at d1 d2 d3 d4 d5 d6 d7 d8;omega
    obtain ⟨n1,n2,n3,n4,n5,n6,n7,n8⟩:=hb8
    have hnot:=placeZ_neg d.1 ds 0 (by omega) (by rw [hP];exact n5)
    have hRd:=right_snoc hR n1 n4 hd64 n6 hnot
    obtain ⟨N,rfl⟩: ∃N:Nat,room=N:=⟨room.toNat,by omega⟩
    have HR:=Lib.hid hR;have HRd:=Lib.hid hRd;have HN:=Lib.hid hnot
    have H1:=Lib.hid n1;have H2:=Lib.hid n2;have H3:=Lib.hid n3;have H4:=Lib.hid n4;have H6:=Lib.hid n6
    have HN1:Hid (1≤N):=Lib.hid (by omega)
    have HN2:Hid (N≤6000):=Lib.hid (by omega)
    clear hR htot hl10 hP hRd hnot n1 n2 n3 n4 n5 n6 n7 n8
    unfold strOf
    go_enter Tryz.func7,Tryz.ntmps7
    go_wp2_with fail
    refine calls_gen fun V0 hV0=> ?_
    have hb0:Below w.heap.size w V0:=by rw [hV0];exact below_box _ _
    have kd:V0.heap[w.heap.size]? =some (.cells #[.int .i64 d.1,strOf d.2] 34 (0,0)):=by rw [hV0];exact blk_new _ _ _ rfl
    clear hV0
    refine (few_calls _ ds hl _ (HK.out.below hb0)).mono ?_
    rintro e0 W0 ⟨rfl,hb1⟩
    rw [Hf.out]
    replace kd:=keep_blk hb1 kd
    have HB0:=Lib.hid (below_step hb0 hb1);clear hb0 hb1
    obtain ⟨c_kd,f_kd,l_kd⟩:=f3 kd
    go_wp2_with fail
    refine (place_calls _ ds d.1 HL10.out _ (HK.out.below HB0.out)).mono ?_
    rintro e1 W1 ⟨rfl,hb1⟩
    rw [HP.out]
    replace kd:=keep_blk hb1 kd
    clear c_kd f_kd
    obtain ⟨c_kd,f_kd,l_kd1⟩:=f3 kd
    have HB1:=Lib.hid (below_step HB0.out hb1)
    clear hb1
    go_wp2_with fail
    refine (alive13_calls _).mono ?_
    rintro e2 W2 ⟨rfl,hb2⟩
    replace kd:=keep_blk hb2 kd
    have HB2:=Lib.hid (below_step HB1.out hb2)
    clear hb2 c_kd f_kd d1 d2 d3 d4 d5 d6 d7 d8
    go_wp2_with fail
    refine (new_calls N HN1.out HN2.out _).mono ?_
    rintro e3 W3 ⟨p,O,rfl,hA,hO,hb3⟩
    have hlt:=lt_of kd
    have HS:Hid (St w W3 (.pointer (some ⟨p,0,none⟩)) (Ar.new N) [(w.heap.size, .cells #[.int .i64 d.1,strOf d.2] 34 (0,0))]):=Lib.hid
      ⟨⟨O,hA,fun b hb=>Nat.le_trans HB2.out.size (hO b hb),fun y hy=>by
        obtain rfl:y=(w.heap.size, .cells #[.int .i64 d.1,strOf d.2] 34 (0,0)):=by simpa using hy
        exact ⟨keep_blk hb3 kd,fun hq=>by have:=hO _ hq;dsimp only at this;omega⟩⟩,below_step HB2.out hb3⟩
    clear hA hO hb3 kd hlt
    go_wp2_with fail
    refine (bldF_calls N HN2.out HS.out rate H2.out (by have:=H3.out;omega) ds HR.out A cap (HK.out.below HS.out.bel) (fun a ha hp O _ hO _ hq=>by
      have:=rd2_low HK.out ha hp
      have:=hO _ hq
      omega)).mono ?_
    rintro e4 W4 ⟨root,ok,s,rfl,hS,hI,hwt,hsz,hv⟩
    rcases hv with ⟨rfl,hv,hroot⟩|⟨rfl,rfl⟩
    · have HS4:=Lib.hid hS;have HI:=Lib.hid hI;have HWT:=Lib.hid hwt;have HV:=Lib.hid hv
      clear hS hI hwt hsz hv hroot
      go_wp2_with fail
      refine (HS4.out.same fun O hA=>used_calls _ hA).mono ?_
      rintro e5 W5 ⟨rfl,h5⟩
      have HS5:=Lib.hid h5
      have kd:=h5.at0
      clear h5 HS4
      obtain ⟨c_kd,f_kd,l_kd5⟩:=f3 kd
      have hcon:=HS5.out.put root rate d.1 d.2 (docsM ds) (HV.out.all HI.out (by have:=H1.out;omega)) (by simp [docsM];have:=H1.out;omega) (vr_is HI.out HV.out HR.out) H2.out H3.out H4.out
        (by rw [placeIn_none d.1 (docsM ds) 0 (fun y hy=>by unfold docsM at hy;obtain ⟨z,hz,rfl⟩:=List.mem_map.1 hy;exact HN.out z hz)]) H6.out (by rw [HV.out.docs HI.out (by have:=H1.out;omega)];have:=H1.out;omega)
      have HCON:=Lib.hid hcon
      clear hcon
      go_wp2_with fail
      refine HCON.out.mono ?_
      rintro e6 W6 ⟨b,rfl,h6⟩
      have HLT:Hid (LoopP s root ds d rate (d.2.length+3) (Pt.new s root rate d.1 d.2)):=Lib.hid (newP_T HI.out HWT.out HV.out)
      have H6':=Lib.hid h6
      clear h6 HCON c_kd f_kd kd HS5
      go_wp2_with fail
      go_loopg [14,15] (d.2.length+4) (fun m ce co wr=> ∃x:Pt,Hid (Sp w wr (.pointer (some ⟨p,0,none⟩)) b x [(w.heap.size, .cells #[.int .i64 d.1,strOf d.2] 34 (0,0))])∧
        ((∃G,ce= .int .i64 0∧co= .bool false∧m=G+2∧Hid (LoopP s root ds d rate (G+1) x))∨
         (ce= .int .i64 0∧co= .bool true∧Hid (vCheck x.s x.root rate (ds++[d])=some true∧x.s.cntE x.root=0∧EndP s root (x.s.drop x.root)))∨
         (ce= .int .i64 2∧co= .bool true∧Hid (x.root=0∧x.over=true∧EndP s root x.s))))
      case atStart=>exact ⟨_,H6', .inl ⟨d.2.length+2,rfl,rfl,rfl,HLT⟩⟩
      case round=>
        obtain ⟨x,HX,hrel⟩:=hrel
        clear H6' HLT
        rcases hrel with ⟨G,rfl,rfl,rfl,HL⟩|hrel|hrel
        · obtain ⟨hin,o,e,y,hstep,hy⟩:=HL.out.next HRd.out H2.out H3.out
          have HOK:Hid (PtOk x):=Lib.hid ⟨hin.1,hin.2.1,hin.2.2.1,hin.2.2.2⟩
          have HY1:=Lib.hid hstep
          clear hin hstep HL
          rcases hy with ⟨rfl,u,hu,hy⟩|⟨rfl,rfl,hz,hov,hen⟩
          · have HU:=Lib.hid hu
            clear hu
            rcases hy with ⟨rfl,hG,hy⟩|⟨rfl,h0,hc,hce,hen⟩
            · obtain ⟨G,rfl⟩: ∃G',G=G'+1:=⟨G - 1,by omega⟩
              have HY:=Lib.hid hy
              clear hy hG
              go_wp2_with fail
              refine (HX.out.act fun O hT=>pStep_calls x HOK.out _ HY1.out _ hT).mono ?_
              rintro e9 W9 ⟨rfl,h9⟩
              have H9:=Lib.hid h9
              clear h9
              go_wp2_with fail
              refine (H9.out.write fun O hA=>work_calls _ _ HU.out _ hA).mono ?_
              rintro e10 W10 ⟨rfl,h10⟩
              have H10:=Lib.hid h10
              clear h10 H9
              go_wp2_with fail
              go_roundg (G+2)
              case measure=>omega
              case rel=>exact ⟨_,H10, .inl ⟨G,rfl,rfl,rfl,HY⟩⟩
            · have HY:Hid (vCheck u.2 y.root rate (ds++[d])=some true∧u.2.cntE y.root=0∧EndP s root (u.2.drop y.root)):=Lib.hid ⟨hc,hce,hen⟩
              clear hc hce hen h0
              go_wp2_with fail
              refine (HX.out.act fun O hT=>pStep_calls x HOK.out _ HY1.out _ hT).mono ?_
              rintro e9 W9 ⟨rfl,h9⟩
              have H9:=Lib.hid h9
              clear h9
              go_wp2_with fail
              refine (H9.out.write fun O hA=>work_calls _ _ HU.out _ hA).mono ?_
              rintro e10 W10 ⟨rfl,h10⟩
              have H10:=Lib.hid h10
              clear h10 H9
              go_wp2_with fail
              go_roundg 0
              case measure=>omega
              case rel=>exact ⟨_,H10, .inr (.inl ⟨rfl,rfl,HY⟩)⟩
          · have HY:Hid (y.root=0∧y.over=true∧EndP s root y.s):=Lib.hid ⟨hz,hov,hen⟩
            clear hz hen hov
            go_wp2_with fail
            refine (HX.out.act fun O hT=>pStep_calls x HOK.out _ HY1.out _ hT).mono ?_
            rintro e9 W9 ⟨rfl,h9⟩
            have H9:=Lib.hid h9
            clear h9
            go_wp2_with fail
            go_roundg 0
            case measure=>omega
            case rel=>exact ⟨_,H9, .inr (.inr ⟨rfl,rfl,HY⟩)⟩
        obtain ⟨rfl,rfl,HE⟩:=hrel
        obtain ⟨H20,HN⟩:(Hid (vCheck x.s x.root rate (ds++[d])=some true)∧Hid (x.s.cntE x.root=0))∧Hid (EndP s root (x.s.drop x.root)):=⟨⟨Lib.hid HE.out.1,Lib.hid HE.out.2.1⟩,Lib.hid HE.out.2.2⟩
        clear HE
        go_upto_region 20 with fail
        have kd:=HX.out.at0
        have hlt:=lt_of kd
        obtain ⟨c_kd,f_kd,l_kd7⟩:=f3 kd
        refine dr (fun v=>Sm v wr (w.heap.size)∧(wr.heap.size≤v.heap.size)∧True) ⟨fun _=>rfl,Nat.le_refl _,trivial⟩ fun Vd hV_Vd hHeld=> ?_
        have HB:HeldB wr Vd:=by rw [hV_Vd];exact HeldB.start wr
        clear hV_Vd kd f_kd
        refine ta 0 hHeld ?_
        refine ta 1 hHeld ?_
        refine ta 3 hHeld ?_
        refine ta 4 hHeld ?_
        refine ta 6 hHeld ?_
        refine wpAnyH_ready (rs:=[2,7]) (by kernel_rfl) (by simp) ?_
        refine ready_at rfl (fun K hK=> ?_) (ready_at rfl (fun K hK=> ?_) AllReadyH.nil)
        go_simp
        obtain ⟨O8,hT8, -⟩:=(HX.out.below HB.1).ex
        refine (pRoot_calls _ hT8).mono ?_
        rintro e12 w12 ⟨rfl,rfl⟩
        refine ho hK hHeld fun hHeld=> ?_;clear hK K hT8
        refine wpAnyH_ready (rs:=[5,7]) (by kernel_rfl) (by simp) ?_
        refine ready_at rfl (fun K hK=> ?_) (ready_at rfl (fun K hK=> ?_) AllReadyH.nil)
        refine step_moreN (by rfl) _ _ 22 (by rfl) (base:=wr.heap.size) (e:=34) (.agg #[.int .i64 0, .string ⟨#[]⟩]) 2 24 (by omega) Tryz.underlying22 (by kernel_rfl) (by rfl) (v:= .slice none 0 0) (by rfl) (own_nil _ _ _ _) (by rfl) (rds_docs (HK.out.below (HX.out.below HB.1).bel)) (docCells_one ds) (nm:=ds.length) (by omega) (by have:=H1.out;omega) (by omega) HB.2.1 ?_
        intro A4 c4 W12 hown4 hlow4 hkeep4
        replace HB:=HeldB.low HB hlow4
        refine ho hK ⟨fun o=>HB.2.2 _ o hlt,HB.2.1,trivial⟩ fun hHeld=> ?_;clear hK K
        refine rd 7 rfl fun K hK=> ?_
        go_simp
        replace HB:=HeldB.alloc HB (.cells #[.int .i64 d.1,strOf d.2] 34 (0,0))
        refine ho hK ⟨fun o=>HB.2.2 _ o hlt,HB.2.1,trivial⟩ fun hHeld=> ?_;clear hK K
        refine rd 8 rfl fun K hK=> ?_
        refine step_moreN (by rfl) _ _ 22 (by rfl) (base:=wr.heap.size) (e:=34) (.agg #[.int .i64 0, .string ⟨#[]⟩]) 2 24 (by omega) Tryz.underlying22 (by kernel_rfl) (by rfl) (v:= .slice A4 ds.length c4) (by rfl) (hown4.alloc _) (by rfl) (rds_one W12 #[.int .i64 d.1,strOf d.2] 34 2 rfl) (docCells_one [d]) (nm:=ds.length+1) (by omega) (by have:=H1.out;omega) (by omega) HB.2.1 ?_
        intro A5 c5 W13 hown5 hlow5 hkeep5
        replace HB:=HeldB.low HB hlow5
        refine ho hK ⟨fun o=>HB.2.2 _ o hlt,HB.2.1,trivial⟩ fun hHeld=> ?_;clear hK K
        clear hown4 hlow4 hkeep4 hlow5 hkeep5
        rotate_left
        go_simp
        replace HB:=HeldB.alloc HB (.cells #[.int .i64 d.1,strOf d.2] 34 (0,0))
        refine ho hK ⟨fun o=>HB.2.2 _ o hlt,HB.2.1,trivial⟩ fun hHeld=> ?_;clear hK K
        refine rd 5 rfl fun K hK=> ?_
        refine step_moreN (by rfl) _ _ 22 (by rfl) (base:=wr.heap.size) (e:=34) (.agg #[.int .i64 0, .string ⟨#[]⟩]) 2 24 (by omega) Tryz.underlying22 (by kernel_rfl) (by rfl) (v:= .slice none 0 0) (by rfl) (own_nil _ _ _ _) (by rfl) (rds_docs (HK.out.below (HX.out.below HB.1).bel)) (docCells_one ds) (nm:=ds.length) (by omega) (by have:=H1.out;omega) (by omega) HB.2.1 ?_
        intro A4 c4 W12 hown4 hlow4 hkeep4
        replace HB:=HeldB.low HB hlow4
        refine ho hK ⟨fun o=>HB.2.2 _ o hlt,HB.2.1,trivial⟩ fun hHeld=> ?_;clear hK K
        refine rd 8 rfl fun K hK=> ?_
        refine step_moreN (by rfl) _ _ 22 (by rfl) (base:=wr.heap.size) (e:=34) (.agg #[.int .i64 0, .string ⟨#[]⟩]) 2 24 (by omega) Tryz.underlying22 (by kernel_rfl) (by rfl) (v:= .slice A4 ds.length c4) (by rfl) (hown4) (by rfl) ((rds_one Vd #[.int .i64 d.1,strOf d.2] 34 2 rfl).below (hkeep4 _ (Nat.le_refl _) (by simp [Value.ownBlock]))) (docCells_one [d]) (nm:=ds.length+1) (by omega) (by have:=H1.out;omega) (by omega) HB.2.1 ?_
        intro A5 c5 W13 hown5 hlow5 hkeep5
        replace HB:=HeldB.low HB hlow5
        refine ho hK ⟨fun o=>HB.2.2 _ o hlt,HB.2.1,trivial⟩ fun hHeld=> ?_;clear hK K
        clear hown4 hlow4 hkeep4 hlow5 hkeep5
        rotate_left
        go_simp
        replace HB:=HeldB.alloc HB (.cells #[.int .i64 d.1,strOf d.2] 34 (0,0))
        refine ho hK ⟨fun o=>HB.2.2 _ o hlt,HB.2.1,trivial⟩ fun hHeld=> ?_;clear hK K
        refine rd 2 rfl fun K hK=> ?_
        go_simp
        obtain ⟨O8,hT8, -⟩:=(HX.out.below HB.1).ex
        refine (pRoot_calls _ hT8).mono ?_
        rintro e12 w12 ⟨rfl,rfl⟩
        refine ho hK hHeld fun hHeld=> ?_;clear hK K hT8
        refine rd 5 rfl fun K hK=> ?_
        refine step_moreN (by rfl) _ _ 22 (by rfl) (base:=wr.heap.size) (e:=34) (.agg #[.int .i64 0, .string ⟨#[]⟩]) 2 24 (by omega) Tryz.underlying22 (by kernel_rfl) (by rfl) (v:= .slice none 0 0) (by rfl) (own_nil _ _ _ _) (by rfl) (rds_docs (HK.out.below (HX.out.below HB.1).bel)) (docCells_one ds) (nm:=ds.length) (by omega) (by have:=H1.out;omega) (by omega) HB.2.1 ?_
        intro A4 c4 W12 hown4 hlow4 hkeep4
        replace HB:=HeldB.low HB hlow4
        refine ho hK ⟨fun o=>HB.2.2 _ o hlt,HB.2.1,trivial⟩ fun hHeld=> ?_;clear hK K
        refine rd 8 rfl fun K hK=> ?_
        refine step_moreN (by rfl) _ _ 22 (by rfl) (base:=wr.heap.size) (e:=34) (.agg #[.int .i64 0, .string ⟨#[]⟩]) 2 24 (by omega) Tryz.underlying22 (by kernel_rfl) (by rfl) (v:= .slice A4 ds.length c4) (by rfl) (hown4) (by rfl) ((rds_one Vd #[.int .i64 d.1,strOf d.2] 34 2 rfl).below (hkeep4 _ (Nat.le_refl _) (by simp [Value.ownBlock]))) (docCells_one [d]) (nm:=ds.length+1) (by omega) (by have:=H1.out;omega) (by omega) HB.2.1 ?_
        intro A5 c5 W13 hown5 hlow5 hkeep5
        replace HB:=HeldB.low HB hlow5
        refine ho hK ⟨fun o=>HB.2.2 _ o hlt,HB.2.1,trivial⟩ fun hHeld=> ?_;clear hK K
        clear hown4 hlow4 hkeep4 hlow5 hkeep5
        rotate_left
        obtain ⟨rfl,rfl,HE⟩:=hrel
        obtain ⟨⟨H20,H21⟩,HN⟩:(Hid (x.root=0)∧Hid (x.over=true))∧Hid (EndP s root x.s):=⟨⟨Lib.hid HE.out.1,Lib.hid HE.out.2.1⟩,Lib.hid HE.out.2.2⟩
        clear HE
        go_wp2_with fail
        refine (HX.out.same fun O hT=>pRoot_calls _ hT).mono ?_
        rintro e12 W12 ⟨rfl,h12⟩
        have H12:=Lib.hid h12
        clear h12
        rw [H20.out]
        go_wp2_with fail
        refine (H12.out.same fun O hT=>pHeld_over x H21.out _ hT).mono ?_
        rintro e13 W13 ⟨rfl,h13⟩
        have HT:=Lib.hid h13.st
        clear h13 H12 HX
        rotate_left
        iterate 3
          (have HD2:Hid (Rd2 W13 (.slice A5 (ds.length+1) c5) (ds++[d])):=Lib.hid (rd2_own (ds:=ds++[d]) (by rw [docCells_append,List.length_append];exact hown5))
           clear hown5
           refine rd 9 rfl fun K hK=> ?_
           go_simp
           obtain ⟨O14,hT14, -⟩:=(HX.out.below HB.1).ex
           refine (check_calls x.root rate (ds++[d]) _ true H20.1.out (by rw [List.length_append];have:=H1.out;simp;omega) (txt40 HRd.out) _ hT14.hA HD2.out).mono ?_
           rintro e14 W14 ⟨rfl,hb14⟩
           replace HB:=HeldB.call HB hb14
           refine ho hK (by refine ⟨fun o=>HB.2.2 _ o hlt,?_⟩;first|exact HB.2.1|exact ⟨HB.2.1,trivial⟩) fun hHeld=> ?_;clear hK K
           clear hT14 hb14 HD2
           refine ta 10 hHeld ?_
           refine ta 11 hHeld ?_
           refine ta 12 hHeld ?_
           refine ta 13 hHeld ?_
           refine rd 14 rfl fun K hK=> ?_
           go_simp
           obtain ⟨O8,hT8, -⟩:=(HX.out.below HB.1).ex
           refine (pRoot_calls _ hT8).mono ?_
           rintro e12 w12 ⟨rfl,rfl⟩
           refine ho hK hHeld fun hHeld=> ?_;clear hK K hT8
           refine rd 15 rfl fun K hK=> ?_
           go_simp
           obtain ⟨O15,hA15,hO15,hL15⟩:=(HX.out.below HB.1).st.ex
           refine (drop_calls x.root _ hA15).mono ?_
           rintro e15 W15 ⟨rfl,O16,hA16,hF16⟩
           have h15:=(HX.out.below HB.1).st.did ⟨O15,hA15,hO15,hL15,hA16,hF16⟩
           have hk15:=h15.at0
           have hsz:=Nat.le_trans HB.2.1 hF16.size
           have HT:=Lib.hid h15
           rw [H20.2.out]
           refine ho hK (by refine ⟨fun o=>by rw [cells_of hk15 o];exact (c_kd o).symm,?_⟩;first|exact hsz|exact ⟨hsz,trivial⟩) fun hHeld=> ?_;clear hK K
           clear hA15 hO15 hL15 hA16 hF16 h15 hk15 hsz HB HX
           refine ta 16 hHeld ?_
           refine ta 17 hHeld ?_
           refine wd ?_
           go_wp2_with fail
           rotate_left)
        all_goals
          (obtain ⟨u,y1,y2,y3⟩:=HN.out.fin HI.out HWT.out HV.out HR.out H2.out H3.out
           have HY1:=Lib.hid y1;have HY2:=Lib.hid y2;have HY3:=Lib.hid y3
           clear y1 y2 y3
           go_wp2_with fail
           refine (HT.out.write fun O hA=>work_calls _ _ HY1.out _ hA).mono ?_
           rintro e21 W21 ⟨rfl,h21⟩
           have H21:=Lib.hid h21
           clear h21 HT
           go_wp2_with fail
           refine (H21.out.same fun O hA=>used_calls _ hA).mono ?_
           rintro e22 W22 ⟨rfl,h22⟩
           have H22:=Lib.hid h22
           clear h22 H21
           rw [HY2.out]
           go_wp2_with fail
           refine (H22.out.read fun O hA=>check_calls root rate ds _ true HY3.out HL10.out (txt40 HR.out) _ hA (HK.out.below H22.out.bel)).mono ?_
           rintro e23 W23 ⟨rfl,h23⟩
           have H23:=Lib.hid h23
           clear h23 H22
           go_wp2_with fail
           go_ret
           exact ⟨rfl,H23.out.bel⟩)
    · obtain ⟨u,w1,w2,w3, -,w5⟩:=hI.work (by simp) 1073741824
      have HBZ:Hid (u.2.busy=0):=Lib.hid (by
        have hz:=w2.busy_le (w5 (by omega)) (T:=[Tr.nil]) ⟨.nil,trivial⟩
        rw [w2.busy]
        simp [sizes,Tr.size] at hz
        rw [hz];rfl)
      have HW1:=Lib.hid w1
      have HS4:=Lib.hid hS
      clear hS hI hwt hsz w1 w2 w3 w5
      have kd:=HS4.out.at0
      obtain ⟨c_kd,f_kd,l_kd5⟩:=f3 kd
      go_wp2_with fail
      refine (HS4.out.write fun O hA=>work_calls _ _ HW1.out _ hA).mono ?_
      rintro e5 W5 ⟨rfl,h5⟩
      have HS5:=Lib.hid h5
      clear h5
      go_wp2_with fail
      refine (HS5.out.same fun O hA=>used_calls _ hA).mono ?_
      rintro e6 W6 ⟨rfl,h6⟩
      rw [HBZ.out]
      have HS6:=Lib.hid h6
      clear h6
      go_wp2_with fail
      go_ret
      exact ⟨rfl,HS6.out.bel⟩
end
end Go.Proofs.YtmlmnmkhigjaaaaGreat

/- Part 9 of what CutBack needs: the walks of the program's functions, and plain facts. -/
import Derived.Test.YtlboaaldggpjeaaGreatCutBackM8
import Derived.Test.YtlboaaldggpjeaaGreatProg
import Derived.Sort.Grow
import Derived.Laws.StructEq
import Derived.Deep.CutRange
import Derived.Maps.OwnOps
import Derived.Maps.OwnSet
import Derived.Maps.AppendAt
import Derived.Sort.OwnSortedInts
import Derived.Shelf.Sort.Plain
import Derived.Shelf.SlicesE.DeleteFunc
set_option linter.unusedSimpArgs false
set_option linter.unusedVariables false
set_option linter.unnecessarySimpa false
namespace Go.Proofs.YtlboaaldggpjeaaGreat
set_option maxRecDepth 100000
set_option maxHeartbeats 8000000
section
open Go.RowKit
theorem Right.era {ds:Docs} (hR:Right ds) (k:Nat):Right (ds.eraseIdx k):=by
  refine ⟨?_,fun y hy=>hR.id y ((List.eraseIdx_sublist ds k).subset hy),?_⟩
  · unfold txt;rw [era_map];exact right_era hR.right k
  · exact ((List.eraseIdx_sublist ds k).map _).nodup hR.nodup
section
variable {x : Ct} {H : List Int} {ds : Docs} {k : Nat} {d : Int × List UInt8} {rate : Int} {j : Nat}
theorem sorted_held {x:Ct} {H:List Int} (hI:Inv x.s (x.list++H)) (ho:x.over=false):Inv x.s (x.held++H)∧x.held.length≤x.list.length:=by
  have e:x.held=(sortI x.list).filter fun h=> !decide (h=0):=by unfold Ct.held;rw [ho,if_neg (by decide)]
  have hp:=sortI_perm' x.list
  rw [e]
  refine ⟨inv_filter _ (hI.perm (hp.symm.append_right H)),?_⟩
  refine Nat.le_trans (List.length_filter_le _ _) ?_
  rw [hp.length_eq];exact Nat.le_refl _
theorem heldC_inv (h:StageC x H ds k d rate (j+1)):Inv x.s (x.held++H)∧x.held.length≤5:=by
  rcases h with ⟨a,ha,hj,h⟩|⟨m,hm,hj,h⟩|⟨hj, -⟩
  · have e:x.list=[x.src]:=by unfold Ct.list;rw [h.owns,if_neg (by decide)]
    obtain ⟨a,b⟩:=sorted_held (x:=x) (H:=H) (by rw [e];exact h.inv) h.over
    rw [e] at b
    exact ⟨a,Nat.le_trans b (by simp)⟩
  · have e:x.list=[x.src,x.p.wave,x.p.marks,x.p.spots,x.p.table]:=by unfold Ct.list;rw [h.owns,if_pos rfl]
    have hI:Inv x.s (x.src::x.p.wave::x.p.marks::x.p.spots::x.p.table::H):=h.inv.perm (by
      have e1:(x.p.wave::x.p.marks::x.p.spots::x.p.table::x.src::H)=[x.p.wave,x.p.marks,x.p.spots,x.p.table]++x.src::H:=rfl
      rw [e1];exact List.perm_middle)
    obtain ⟨a,b⟩:=sorted_held (x:=x) (H:=H) (by rw [e];exact hI) h.over
    rw [e] at b
    exact ⟨a,b⟩
  · omega
theorem StageC.src_mem (h:StageC x H ds k d rate j) (hj:1≤j):x.src∈StageC.list x H j:=by
  unfold StageC.list
  rw [if_neg (by omega)]
  split<;>simp
structure LoopC (root:Int) (H:List Int) (ds:Docs) (k:Nat) (d:Int×List UInt8) (rate:Int) (j:Nat) (x:Ct):Prop where
  st:StageC x H ds k d rate j
  src:1≤j→x.src=root
  size:x.s.size=6000
  busy:8*x.s.busyN≤30000
  sz:1≤j∨root∈H→Sz x.s 6688 root
  vr:root∈H→VR x.s root ds rate
  hH:H=[]∨H=[root]
variable {root : Int}
theorem LoopC.len (h:LoopC root H ds k d rate j x):H.length≤1:=by rcases h.hH with e|e<;>rw [e]<;>simp
theorem LoopC.mem (h:LoopC root H ds k d rate j x) {q:Int} (hq:q∈H):q=root:=by
  rcases h.hH with e|e<;>rw [e] at hq<;>simp at hq
  exact hq
theorem LoopC.next (h : LoopC root H ds k d rate (j + 1) x) (hR : Right ds) (hk : ds[k]? = some d) (hrows : (rowsM ds).length ≤ 80) (hl : ds.length ≤ 10) :
    ∃y u,x.step=some (decide (j=0),0,y)∧y.s.work 1073741824=some u∧LoopC root H ds k d rate j {y with s:=u.2}∧StageC y H ds k d rate j∧u.2.wait=[]∧(root∈H→VR y.s root ds rate):=by
  have hlen:=h.len
  have hroom:x.s.busyN+costR (rowsM ds).length≤x.s.size:=by have:=h.busy;have:=h.size;unfold costR;omega
  obtain ⟨y',e1',g1, -, -, -⟩:=stepC_T h.st hR hk (by omega) hroom
  obtain ⟨y,u,e1,e2,e3,e4,e5,e6,e7,e8,e9,e10⟩:=stepC_work h.st hR hk (by omega) hroom
  have hy:y'=y:=by rw [e1] at e1';simp only [Option.some.injEq,Prod.mk.injEq] at e1';exact e1'.2.2.symm
  subst hy
  have hz:1≤j∨root∈H→Sz u.2 6688 root:=fun hq=>by
    obtain ⟨t,ht,hb⟩:=h.sz (.inl (by omega))
    refine ⟨t,e10 root t ?_ ht,hb⟩
    rcases hq with hq|hq
    · have:=e6.src_mem hq
      rw [e7 hq,h.src (by omega)] at this
      exact this
    · exact StageC.list_mem y' H j hq
  have hIy:=e6.inv
  refine ⟨y',u,e1,e2,⟨e3,fun q=>(e7 q).trans (h.src (by omega)),e5.trans h.size,?_,hz,fun hq=>(h.vr hq).move (fun t ht=>e10 root t (StageC.list_mem y' H j hq) ht) (fun q=>e8.pos (StageC.list_mem y' H j hq) q),h.hH⟩,e6,e4,fun hq=>(h.vr hq).move (fun t ht=>ht.grow g1) (fun q=>hIy.pos (StageC.list_mem y' H j hq) q)⟩
  have hz0:j=0→Sz u.2 6688 ({y' with s:=u.2}:Ct).root:=fun hj=>by
    rcases e3 with ⟨a,ha,hj',h3⟩|⟨m,hm,hj',h3⟩|⟨-, -, -,hv, -⟩
    · omega
    · omega
    · obtain ⟨t,ht,hb⟩:=hv.sz
      have hle:(rowsM (ds.eraseIdx k)).length≤(rowsM ds).length:=by
        rw [←rowsM_era hR hk];exact List.length_filter_le _ _
      have hle2:=(List.eraseIdx_sublist ds k).length_le
      exact ⟨t,ht,by omega⟩
  have hb:=stageC_busy (x:={y' with s:=u.2}) (B:=6688) e3 e4 (fun q=>by show Sz u.2 6688 y'.src;rw [e7 (by omega),h.src (by omega)];exact hz (.inl (by omega))) hz0 (fun q hq=>by
    have e:=h.mem hq
    rw [e]
    exact hz (.inr (e▸hq)))
  show 8*u.2.busyN≤30000
  replace hb:8*u.2.busyN≤_:=hb
  have:(H.length+1)*6688≤2*6688:=Nat.mul_le_mul_right _ (by omega)
  omega
theorem LoopC.done (h : LoopC root H ds k d rate 0 x) (hR : Right ds) (h1 : 1 ≤ rate) (h2 : rate ≤ 16) :
    x.over=true∧Inv x.s (x.root::H)∧VR x.s x.root (ds.eraseIdx k) rate∧vCheck x.s x.root rate (ds.eraseIdx k)=some true∧(x.root=0↔ds.eraseIdx k=[]):=by
  rcases h.st with ⟨a,ha,hj,h3⟩|⟨m,hm,hj,h3⟩|⟨-,a,b,c,e⟩
  · omega
  · omega
  · refine ⟨a,b,c,c.check_own b (hR.era k) h1 h2,fun h0=> ?_,e⟩
    rcases c.ex with ⟨-,q⟩|⟨t,ht,tw,tm,tsp,tt,rfl, -⟩
    · exact q
    · rw [h0] at ht;cases ht with
      | nd hh=>cases hh
theorem filter_era_aux: ∀(l:Docs) (k:Nat) (d:Int×List UInt8),(l.map (·.1)).Nodup→l[k]? =some d→(l.filter fun y=> !decide (y.1=d.1))=l.eraseIdx k
  | [],k,d,_,h=>by simp at h
  | y::l,0,d,hn,h=>by
    obtain rfl:y=d:=by simpa using h
    rw [List.filter_cons_of_neg (by simp),List.eraseIdx_cons_zero]
    refine List.filter_eq_self.2 fun z hz=> ?_
    rw [List.map_cons,List.nodup_cons] at hn
    have:z.1≠y.1:=fun e=>hn.1 (e▸List.mem_map_of_mem (f:=(·.1)) hz)
    simpa using this
  | y::l,k+1,d,hn,h=>by
    have h':l[k]? =some d:=by simpa using h
    rw [List.map_cons,List.nodup_cons] at hn
    have hm:d∈l:=List.mem_of_getElem? h'
    have:y.1≠d.1:=fun e=>hn.1 (e▸List.mem_map_of_mem (f:=(·.1)) hm)
    rw [List.filter_cons_of_pos (by simpa using this),List.eraseIdx_cons_succ,filter_era_aux l k d hn.2 h']
def lessD (ds:Docs) (id:Int):Docs:=ds.filter fun y=> !decide (y.1=id)
theorem lessD_era {ds:Docs} (hR:Right ds) {k:Nat} {d:Int×List UInt8} (hk:ds[k]? =some d):lessD ds d.1=ds.eraseIdx k:=filter_era_aux ds k d hR.nodup hk
theorem newC_in {s : Ar} {H : List Int} {root : Int} {ds : Docs} {k : Nat} {d : Int × List UInt8} {rate : Int} (hI : Inv s H) (hv : VR s root ds rate) (hR : Right ds) (hk : ds[k]? = some d) :
    ∃r,lAll s (vOf s root).table=some (docsM ds)∧(docsM ds).length≤50000∧vIs s root=true∧placeIn d.1 (docsM ds) 0=((k:Int),true)∧lGet s (vOf s root).table (k:Int)=some r∧r.1.2=(d.2.length:Int):=by
  have hlen:=hR.len
  have hdl:(docsM ds).length=ds.length:=by simp [docsM]
  obtain ⟨-, -, -,hT,hvi⟩:=hv.parts hI (by omega)
  have hat:(docsM ds)[k]? =some (d.1,(d.2.length:Int)):=by unfold docsM;rw [List.getElem?_map,hk];rfl
  have hkl:k<(docsM ds).length:=(List.getElem?_eq_some_iff.1 hat).1
  have hnd:((docsM ds).map (·.1)).Nodup:=by
    have:(docsM ds).map (·.1)=ds.map (·.1):=by unfold docsM;rw [List.map_map];rfl
    rw [this];exact hR.nodup
  refine ⟨_,hT.all hI,by omega,hvi,?_,by rw [hT.get hI,if_neg (by omega)],?_⟩
  · have:=placeIn_at (docsM ds) 0 hnd hat
    rw [Int.zero_add] at this
    exact this
  · show ((docsM ds).getD (k:Int).toNat (0,0)).2=_
    rw [Int.toNat_natCast,List.getD_eq_getElem?_getD,hat];rfl
theorem newC0_T {s:Ar} (hI:Inv s [root]) (hv:VR s root ds rate) (hz:s.size=6000) (hb:8*s.busyN≤30000) (hk:ds[k]? =some d) (hr:(rowsM ds).length≤80) (hl:ds.length≤10):LoopC root [root] ds k d rate (2*d.2.length+3) (Ct.new s root d.1 (d.2.length:Int) (k:Int)):=by
  obtain ⟨a,b,c⟩:=newC_T hI (by simp) hv hk
  refine ⟨.inl ⟨0,by omega,by omega,a⟩,fun _=>rfl,(Ar.keep_size _ _).trans hz,by show 8*(s.keep root).busyN≤30000;rw [c];exact hb,fun _=> ?_,fun _=>hv.move (fun t ht=>ht.grow b) (fun q=>a.inv.pos (by show root∈[root,root];simp) q), .inr rfl⟩
  obtain ⟨t,p,q⟩:=hv.sz
  exact ⟨t,p.grow b,by omega⟩
theorem LoopC.held (h:LoopC root [] ds k d rate (j+1) x):Inv x.s x.held∧x.held.length≤5∧(root≠0→1≤x.s.cnt root):=by
  obtain ⟨a,b⟩:=heldC_inv h.st
  rw [List.append_nil] at a
  refine ⟨a,b,fun h0=> ?_⟩
  have hI:=h.st.inv
  have hm:=h.st.src_mem (by omega)
  rw [h.src (by omega)] at hm
  have:=hI.cpos (hI.held root hm h0) (hI.pos hm h0)
  omega
theorem StageC.ok (h:StageC x H ds k d rate (j+1)) (hR:Right ds) (hk:ds[k]? =some d):CtOk x:=by
  have h40:=(right_len hR.right).2 k
  rw [getD_at (txt_at hk)] at h40
  have hlen:=hR.len
  rcases h with ⟨a,ha,hj,h⟩|⟨m,hm,hj,h⟩|⟨hj, -⟩
  · exact ⟨by rw [h.rows,List.length_map,foundN_len];omega,fun q=>by rw [h.owns] at q;cases q⟩
  · have hX:(rowsM ds).length≤500:=rowsM_small ds
    refine ⟨?_,fun _ l hl=> ?_⟩
    · have h1 : (posX d.1 m (rowsM ds)).length ≤ m := by
        unfold posX
        have:=List.length_filter_le (fun i=>decide (((rowsM ds).getD i (0,0,0)).1=d.1)) (List.range m)
        rw [List.length_range] at this
        exact this
      rw [h.rows,List.length_map];omega
    · have hdl:(docsM ds).length=ds.length:=by simp [docsM]
      have hlt:LR x.s x.p.table (docsM ds):=⟨h.t,fun e=>h.inv.pos (by simp) e,by omega⟩
      rw [hlt.all h.inv] at hl
      obtain rfl:=Option.some.inj hl
      omega
  · omega
theorem runC (hR : Right ds) (hk : ds[k]? = some d) (hH : H.length ≤ 900) : ∀ (n : Nat) (x : Ct), StageC x H ds k d rate n → x.s.busyN + n * costR (rowsM ds).length ≤ x.s.size →
    ∃f:Nat→Ct,f 0=x∧(∀i,i<n→CtOk (f i)∧(f i).step=some (decide (i+1=n),0,f (i+1)))∧StageC (f n) H ds k d rate 0
  | 0,x,h,_=>⟨fun _=>x,rfl,fun i hi=>by omega,h⟩
  | n+1,x,h,hb=>by
    have hm:(n+1)*costR (rowsM ds).length=n*costR (rowsM ds).length+costR (rowsM ds).length:=Nat.succ_mul _ _
    obtain ⟨y,e1,g1,hy, -,c1⟩:=stepC_T h hR hk hH (by omega)
    obtain ⟨f,f0,f1,f2⟩:=runC hR hk hH n y hy (by rw [g1.size];omega)
    refine ⟨fun i=>match i with|0=>x|i+1=>f i,rfl,fun i hi=> ?_,f2⟩
    cases i with
    | zero=>
      refine ⟨h.ok hR hk,?_⟩
      show x.step=some (_,0,f 0)
      rw [f0,e1]
      congr 2
      rw [decide_eq_decide];omega
    | succ i=>
      obtain ⟨a,b⟩:=f1 i (by omega)
      refine ⟨a,?_⟩
      show (f i).step=some (_,0,f (i+1))
      rw [b]
      congr 2
      rw [decide_eq_decide];omega
end
end
section
open Go.RowKit
def docCells (ds:List (Int×List UInt8)):List Value:=ds.flatMap fun d=>[.int .i64 d.1,strOf d.2]
theorem docCells_append (a b:List (Int×List UInt8)):docCells (a++b)=docCells a++docCells b:=by unfold docCells;rw [List.flatMap_append]
theorem docCells_at: ∀{ds:List (Int×List UInt8)} {i:Nat} {d:Int×List UInt8},ds[i]? =some d→(docCells ds)[i*2]? =some (.int .i64 d.1)∧(docCells ds)[i*2+1]? =some (strOf d.2)
  | x::ds,0,d,h=>by
    obtain rfl:x=d:=by simpa using h
    exact ⟨rfl,rfl⟩
  | x::ds,i+1,d,h=>by
    have:=docCells_at (ds:=ds) (i:=i) (d:=d) (by simpa using h)
    have e:docCells (x::ds)= .int .i64 x.1::strOf x.2::docCells ds:=rfl
    rw [e,show (i+1)*2=i*2+1+1 by omega]
    simpa using this
theorem rd2_own {W:World} {base:Nat} {e:TypeId} {v:Value} {ds:List (Int×List UInt8)} (h:W.ownsRow base e 2 v ds.length (docCells ds)):Rd2 W v ds:=by
  rcases h.2 with ⟨rfl,h0⟩|⟨g,cap,cur,rfl,hg,hc,hcap,hm,hs,hx⟩
  · refine ⟨none,0,?_,fun h=>by omega⟩
    rw [h0]
  · refine ⟨_,cap,rfl,fun hn=>⟨_,rfl,lt_of hc,fun i d hd=> ?_⟩⟩
    have hi:=(List.getElem?_eq_some_iff.1 hd).1
    obtain ⟨c1,c2⟩:=docCells_at hd
    refine ⟨by rw [block_of_add];exact lt_of hc,?_,?_⟩
    · rw [add_zero_off,h.cellAt (i*2) (by omega),c1]
    · have:=h.cellAt (i*2+1) (by omega)
      rw [add_zero_off]
      exact this.trans c2
theorem docCells_length: ∀ds:List (Int×List UInt8),(docCells ds).length=ds.length*2
  | []=>rfl
  | d::ds=>by
    have e:docCells (d::ds)= .int .i64 d.1::strOf d.2::docCells ds:=rfl
    rw [e,List.length_cons,List.length_cons,docCells_length ds,List.length_cons];omega
theorem docCells_one (ds:List (Int×List UInt8)): ∀u∈docCells ds,u.oneCell'=true:=fun u hu=>by
  unfold docCells at hu
  obtain ⟨d, -,h⟩:=List.mem_flatMap.1 hu
  rcases List.mem_cons.1 h with rfl|h
  · rfl
  · rw [List.mem_singleton.1 h];rfl
theorem add_add (q:Addr) (a b:Nat):(q.add a).add b=q.add (a+b):=by
  obtain ⟨bb,oo,pp⟩:=q
  unfold Addr.add
  rcases Nat.eq_zero_or_pos a with rfl|h1
  · simp
  · rcases Nat.eq_zero_or_pos b with rfl|h2
    · simp
    · rw [if_neg (by omega),if_neg (by omega),if_neg (by omega)]
      cases pp<;>simp<;>omega
structure Keeps (base:Nat) (L:List (Nat×Obj)) (v:Value) (ds:List (Int×List UInt8)):Prop where
  own: ∀W:World,(∀x∈L,W.heap[x.1]? =some x.2)→W.ownsRow base 31 2 v ds.length (docCells ds)
  blk: ∀g,v.ownBlock=some g→ ∃o,(g,o)∈L
theorem Keeps.nil (base:Nat):Keeps base [] (.slice none 0 0) []:=⟨fun _ _=>World.ownsRow_nil _ _ _ _,fun g h=>by cases h⟩
theorem Keeps.row {w0 W:World} {ap:Value} {s:Ar} {L:List (Nat×Obj)} {base:Nat} {v:Value} {ds:List (Int×List UInt8)} (h:Keeps base L v ds) (hS:St w0 W ap s L):W.ownsRow base 31 2 v ds.length (docCells ds):=by
  obtain ⟨O, -, -,hL⟩:=hS.ex
  exact h.own W fun x hx=>(hL x hx).1
end
section
open Go.RowKit Go.Sort
attribute [local go_sem ↓] Go.wp_at_zero Go.wp_at_succ
attribute [local go_sem] str_len
def Gr (w w':World):Prop:= ∃q os,w'=grow (w.drewN q) os
theorem Gr.refl (w:World):Gr w w:=⟨0,#[],(grow_empty _).symm⟩
theorem Gr.trans {a b c:World} (h1:Gr a b) (h2:Gr b c):Gr a c:=by
  obtain ⟨q,os,rfl⟩:=h1
  obtain ⟨q',os',rfl⟩:=h2
  exact ⟨q+q',os++os',by show grow (grow ((a.drewN q).drewN q') os) os'=_;rw [grow_grow,World.drewN_drewN]⟩
theorem Gr.alloc (w:World) (o:Obj):Gr w (w.alloc o):=⟨0,#[o],alloc_eq_grow w o⟩
theorem Gr.drewN (w:World) (q:Nat):Gr w (w.drewN q):=⟨q,#[],(grow_empty _).symm⟩
theorem Gr.below {w w':World} (h:Gr w w'):Below w.heap.size w w':=by
  obtain ⟨q,os,rfl⟩:=h
  exact ⟨rfl,rfl,rfl,by simp [grow,World.drewN],fun k hk=>by simp [grow,World.drewN,Array.getElem?_append,hk]⟩
theorem is_calls (v : Value) (ts : List (List UInt8)) (d a : Nat) (t : List UInt8) (ht : ts[d]? = some t) (ha : a ≤ t.length) (w : World) (h : Rk w 1 v ts.length (ts.map strOf)) :
    Calls Tryz.prog 159 #[v, .agg #[.int .i64 (d:Int), .int .i64 (a:Int)]] w fun e w'=>e= .returned (.bool true)∧Gr w w':=by
  obtain ⟨hd, -⟩:=List.getElem?_eq_some_iff.1 ht
  obtain ⟨h1,A,cap,rfl,h2⟩:=h
  obtain ⟨g,cs,T,rfl,kg,hcs⟩:=h2 (by omega)
  have hci:cs[d]? =some (strOf t):=by rw [hcs d (by omega),List.getElem?_map,ht];rfl
  have n1:(d:Int)<(ts.length:Int):=by omega
  have n2:(a:Int)≤(t.length:Int):=by omega
  clear h1 h2 hcs ht
  go_enter Tryz.func159,Tryz.ntmps159
  have c_kg:=f3 kg;have l_kgw:=lt_of kg
  go_wp2_with fail
  refine wp_gen fun V hV=> ?_
  have hG:Gr w V:=by rw [hV];exact Gr.alloc w _
  have kr:V.heap[w.heap.size]? =some (.cells #[.int .i64 (d:Int), .int .i64 (a:Int)] 86 (0,0)):=by rw [hV];exact blk_new _ _ _ rfl
  replace kg:=keep_blk hG.below kg
  clear hV c_kg
  have c_kg:=f3 kg;have l_kgV:=lt_of kg
  have c_kr:=f3 kr;have l_krV:=lt_of kr
  go_quiet (fail)
  go_wp2_with fail
  go_ret
  exact ⟨rfl,hG.trans (Gr.drewN _ _)⟩
theorem rless_calls (v : Value) (ts : List (List UInt8)) (d1 a1 d2 a2 : Nat) (t1 t2 : List UInt8) (ht1 : ts[d1]? = some t1) (ha1 : a1 ≤ t1.length) (ht2 : ts[d2]? = some t2) (ha2 : a2 ≤ t2.length) (hl1 : t1.length ≤ 50000) (r : Bool) (hr : lessL (decide (d1 < d2)) (t1.drop a1) (t2.drop a2) = r) (w : World) (h : Rk w 1 v ts.length (ts.map strOf)) :
    Calls Tryz.prog 122 #[v, .agg #[.int .i64 (d1:Int), .int .i64 (a1:Int)], .agg #[.int .i64 (d2:Int), .int .i64 (a2:Int)]] w fun e w'=>e= .returned (.bool r)∧Gr w w':=by
  obtain ⟨hd1, -⟩:=List.getElem?_eq_some_iff.1 ht1
  obtain ⟨hd2, -⟩:=List.getElem?_eq_some_iff.1 ht2
  obtain ⟨h1,A,cap,rfl,h2⟩:=h
  obtain ⟨g,cs,T,rfl,kg,hcs⟩:=h2 (by omega)
  have hc1:cs[d1]? =some (strOf t1):=by rw [hcs d1 (by omega),List.getElem?_map,ht1];rfl
  have hc2:cs[d2]? =some (strOf t2):=by rw [hcs d2 (by omega),List.getElem?_map,ht2];rfl
  have n1:(d1:Int)<(ts.length:Int):=by omega
  have n2:(d2:Int)<(ts.length:Int):=by omega
  have f1:=str_from t1 a1 ha1
  have f2:=str_from t2 a2 ha2
  have HR:=Lib.hid hr;clear hr
  have Hcs:=Lib.hid hcs;have H1:=Lib.hid h1;have HT1:=Lib.hid ht1;have HT2:=Lib.hid ht2;have HA1:=Lib.hid ha1;have HA2:=Lib.hid ha2
  clear h1 h2 hcs ht1 ht2 hd1 hd2 ha1 ha2
  obtain ⟨s,hs⟩: ∃s,t1.drop a1=s:=⟨_,rfl⟩
  obtain ⟨t,ht⟩: ∃t,t2.drop a2=t:=⟨_,rfl⟩
  have hs0:s.length≤50000:=by rw [←hs,List.length_drop];omega
  rw [hs] at f1 HR
  rw [ht] at f2 HR
  clear hs ht
  go_enter Tryz.func122,Tryz.ntmps122
  have c_kg:=f3 kg;have l_kgw:=lt_of kg
  go_wp2_with fail
  refine wp_scope_ghost 0 (fun n a' wr=> ∃(i:Nat),(i+n=s.length+1∧i≤s.length∧i≤t.length∧Hid (lessL (decide (d1<d2)) (s.drop i) (t.drop i)=r)∧wr.heap[w.heap.size]? =some (.cells #[.int .i64 (d1:Int), .int .i64 (a1:Int)] 86 (0,0))∧wr.heap[w.heap.size+1]? =some (.cells #[.int .i64 (d2:Int), .int .i64 (a2:Int)] 86 (0,0))∧Gr w wr)∧ ∃u0 u1 u2 u3 u6 u10 u11 u12 u13 u14 u15 u16 u17 u18 u19 u20 u21 u22 u23 u24 u25 u26 u27 u28 u29 u30 u31 u32 u33 u34 u35 u36 u37 u38 u39 u40 u41 u42 u43 u44 u45 u46 u47 u48 u49 u50 u51 u52 u53 u54 u55 u56 u57 u58 u59 u60 u61 u62 u63 u64 u65 u66 u67 u68 u69 u70 u71 u72 u73 u74 u75 u76 u77 u78:Value,a'={tmps:= #[u0,u1,u2,u3,(.pointer (some ⟨w.heap.size,0,none⟩):Value),(.pointer (some ⟨w.heap.size+1,0,none⟩):Value),u6,(strOf s:Value),(strOf t:Value),(.int .i64 (i:Int):Value),u10,u11,u12,u13,u14,u15,u16,u17,u18,u19,u20,u21,u22,u23,u24,u25,u26,u27,u28,u29,u30,u31,u32,u33,u34,u35,u36,u37,u38,u39,u40,u41,u42,u43,u44,u45,u46,u47,u48,u49,u50,u51,u52,u53,u54,u55,u56,u57,u58,u59,u60,u61,u62,u63,u64,u65,u66,u67,u68,u69,u70,u71,u72,u73,u74,u75,u76,u77,u78],defers:=[]}) (by rfl) ?first ?pass
  case first=>
    intro hrest
    go_wp2_with fail
    refine calls_gen fun V hV=> ?_
    have hG:Gr w V:=by rw [hV];exact (Gr.alloc _ _).trans (Gr.alloc _ _)
    have ka:V.heap[w.heap.size]? =some (.cells #[.int .i64 (d1:Int), .int .i64 (a1:Int)] 86 (0,0)):=by rw [hV];exact keep_blk (Gr.alloc _ _).below (blk_new _ _ _ rfl)
    have kb:V.heap[w.heap.size+1]? =some (.cells #[.int .i64 (d2:Int), .int .i64 (a2:Int)] 86 (0,0)):=by rw [hV];exact blk_new _ _ _ (siz_alloc _ _).symm
    replace kg:=keep_blk hG.below kg
    clear hV c_kg
    have c_kg:=f3 kg;have l_kgV:=lt_of kg
    have c_ka:=f3 ka;have l_kaV:=lt_of ka
    have c_kb:=f3 kb;have l_kbV:=lt_of kb
    refine (is_calls _ ts d1 a1 t1 HT1.out HA1.out _ ⟨H1.out,_,_,rfl,fun _=>⟨g,cs,T,rfl,kg,Hcs.out⟩⟩).mono ?_
    rintro e1 W1 ⟨rfl,hG1⟩
    replace kg:=keep_blk hG1.below kg;replace ka:=keep_blk hG1.below ka;replace kb:=keep_blk hG1.below kb
    replace hG:=hG.trans hG1
    clear hG1 c_kg c_ka c_kb
    have c_kg:=f3 kg;have l_kgW1:=lt_of kg
    have c_ka:=f3 ka;have l_kaW1:=lt_of ka
    have c_kb:=f3 kb;have l_kbW1:=lt_of kb
    go_wp2_with fail
    refine (is_calls _ ts d2 a2 t2 HT2.out HA2.out _ ⟨H1.out,_,_,rfl,fun _=>⟨g,cs,T,rfl,kg,Hcs.out⟩⟩).mono ?_
    rintro e2 W2 ⟨rfl,hG2⟩
    replace kg:=keep_blk hG2.below kg;replace ka:=keep_blk hG2.below ka;replace kb:=keep_blk hG2.below kb
    replace hG:=hG.trans hG2
    clear hG2 c_kg c_ka c_kb
    have c_kg:=f3 kg;have l_kgW2:=lt_of kg
    have c_ka:=f3 ka;have l_kaW2:=lt_of ka
    have c_kb:=f3 kb;have l_kbW2:=lt_of kb
    go_wp2_with fail
    go_quiet (fail)
    clear f1 f2 hc1 hc2 n1 n2 Hcs H1 HT1 HT2 HA1 HA2
    go_wp2_with fail
    go_step3
    go_step
    go_step
    refine hrest (s.length+1) _ _ ⟨0,⟨by omega,by omega,by omega,HR,ka,kb,hG.trans (Gr.drewN _ _)⟩,?_⟩
    exact ⟨_,_,_,_,_,_,_,_,_,_,_,_,_,_,_,_,_,_,_,_,_,_,_,_,_,_,_,_,_,_,_,_,_,_,_,_,_,_,_,_,_,_,_,_,_,_,_,_,_,_,_,_,_,_,_,_,_,_,_,_,_,_,_,_,_,_,_,_,_,_,_,_,_,_,rfl⟩
  case pass=>
    rintro n a' wr ⟨i,⟨hk,hi1,hi2,Hl,ka,kb,hG⟩,u0,u1,u2,u3,u6,u10,u11,u12,u13,u14,u15,u16,u17,u18,u19,u20,u21,u22,u23,u24,u25,u26,u27,u28,u29,u30,u31,u32,u33,u34,u35,u36,u37,u38,u39,u40,u41,u42,u43,u44,u45,u46,u47,u48,u49,u50,u51,u52,u53,u54,u55,u56,u57,u58,u59,u60,u61,u62,u63,u64,u65,u66,u67,u68,u69,u70,u71,u72,u73,u74,u75,u76,u77,u78,rfl⟩ J hJ
    clear f1 f2 hc1 hc2 n1 n2 Hcs H1 HT1 HT2 HA1 HA2 HR kg c_kg
    have c_ka:=f3 ka;have l_kawr:=lt_of ka
    have c_kb:=f3 kb;have l_kbwr:=lt_of kb
    by_cases c1:i=s.length
    · have e1:s.drop i=[]:=by rw [c1];simp
      by_cases c2:i=t.length
      · have e2:t.drop i=[]:=by rw [c2];simp
        have hl:=Hl.out
        rw [e1,e2] at hl
        unfold lessL at hl
        have hL:=Lib.hid hl
        have q1:((i:Int)==(s.length:Int))=true:=by rw [c1];exact beq_self_eq_true _
        have q2:((i:Int)==(t.length:Int))=true:=by rw [c2];exact beq_self_eq_true _
        clear hl Hl e1 e2 hk hi1 hi2 c1 c2
        go_wp2_with fail
        simp only [Exit.jump]
        go_ret
        exact ⟨by rw [←hL.out];first|rfl|simp,hG⟩
      · obtain ⟨y,hy⟩:=at_some (show i<t.length by omega)
        have e2:=drop_at hy
        clear hy
        have hl:=Hl.out
        rw [e1,e2] at hl
        unfold lessL at hl
        have hL:=Lib.hid hl
        have q1:((i:Int)==(s.length:Int))=true:=by rw [c1];exact beq_self_eq_true _
        have q2:((i:Int)==(t.length:Int))=false:=by rw [beq_eq_false_iff_ne];omega
        clear hl Hl e1 e2 hk hi1 hi2 c1 c2
        go_wp2_with fail
        simp only [Exit.jump]
        go_ret
        exact ⟨by rw [←hL.out];rfl,hG⟩
    · have q1:((i:Int)==(s.length:Int))=false:=by rw [beq_eq_false_iff_ne];omega
      obtain ⟨x,hx⟩:=at_some (show i<s.length by omega)
      have e1:=drop_at hx
      by_cases c2:i=t.length
      · have e2:t.drop i=[]:=by rw [c2];simp
        have hl:=Hl.out
        rw [e1,e2] at hl
        unfold lessL at hl
        have hL:=Lib.hid hl
        have q2:((i:Int)==(t.length:Int))=true:=by rw [c2];exact beq_self_eq_true _
        clear hl Hl e1 e2 hk hi1 hi2 c1 c2 hx
        go_wp2_with fail
        simp only [Exit.jump]
        go_ret
        exact ⟨by rw [←hL.out];rfl,hG⟩
      · have q2:((i:Int)==(t.length:Int))=false:=by rw [beq_eq_false_iff_ne];omega
        obtain ⟨y,hy⟩:=at_some (show i<t.length by omega)
        have e2:=drop_at hy
        have g1:=str_index s i x hx
        have g2:=str_index t i y hy
        have hl:=Hl.out
        rw [e1,e2] at hl
        unfold lessL at hl
        have hi1':i<s.length:=by omega
        have hi2':i<t.length:=by omega
        clear Hl e1 e2 hx hy c1 c2
        by_cases c3:x=y
        · rw [if_pos c3] at hl
          subst c3
          have hL:=Lib.hid hl
          have Hk:=Lib.hid hk;have Hi:=Lib.hid (And.intro hi1' hi2')
          have e3:wrap64 ((i:Int)+1)=((i+1:Nat):Int):=(IntWalk.wrap64_in _ (by omega)).trans (by omega)
          clear hl hk hi1 hi2 hi1' hi2'
          go_wp2_with fail
          go_quiet (fail)
          go_wp2_with fail
          rw [e3]
          go_step3
          refine ⟨rfl,hJ _ _ ⟨n - 1,by have:=Hk.out;have:=Hi.out;omega,i+1,⟨by have:=Hk.out;have:=Hi.out;omega,by have:=Hi.out;omega,by have:=Hi.out;omega,hL,ka,kb,hG.trans (Gr.drewN _ _)⟩,?_⟩⟩
          exact ⟨_,_,_,_,_,_,_,_,_,_,_,_,_,_,_,_,_,_,_,_,_,_,_,_,_,_,_,_,_,_,_,_,_,_,_,_,_,_,_,_,_,_,_,_,_,_,_,_,_,_,_,_,_,_,_,_,_,_,_,_,_,_,_,_,_,_,_,_,_,_,_,_,_,_,rfl⟩
        · rw [if_neg c3] at hl
          have hL:=Lib.hid hl
          have q3:((x.toNat:Int)==(y.toNat:Int))=false:=by
            rw [beq_eq_false_iff_ne];intro h;exact c3 (UInt8.toNat_inj.1 (by omega))
          clear hl hk hi1 hi2 hi1' hi2' c3
          go_wp2_with fail
          go_quiet (fail)
          go_wp2_with fail
          refine wp_gen fun V6 hV6=> ?_
          have hG6:Gr w V6:=by rw [hV6];exact hG.trans (Gr.drewN _ _)
          have ka6:=(congrArg (fun v:World=>v.heap[w.heap.size]?) hV6).trans ka
          have kb6:=(congrArg (fun v:World=>v.heap[w.heap.size+1]?) hV6).trans kb
          clear hV6 c_ka c_kb
          have c_ka6:=f3 ka6;have l_ka6V6:=lt_of ka6
          have c_kb6:=f3 kb6;have l_kb6V6:=lt_of kb6
          go_quiet (fail)
          go_wp2_with fail
          simp only [Exit.jump]
          go_ret
          exact ⟨by rw [←hL.out];first|rfl|simp,hG6.trans (Gr.drewN _ _)⟩
theorem cmpR_calls (v : Value) (ts : List (List UInt8)) (h5 : ∀ t, t ∈ ts → t.length ≤ 50000) (x y : RowT ts) (bl : Nat) (w : World) (kl : w.heap[bl]? = some (.cells #[v] 46 (0, 0))) (h : Rk w 1 v ts.length (ts.map strOf)) :
    Calls Tryz.prog 121 #[.agg #[.int .i64 (x.1.1:Int), .int .i64 (x.1.2:Int)], .agg #[.int .i64 (y.1.1:Int), .int .i64 (y.1.2:Int)], .pointer (some ⟨bl,0,none⟩)] w fun e w'=>e= .returned (.int .i64 (cmpR ts x y))∧Gr w w':=by
  obtain ⟨x,t1,ht1,ha1⟩:=x
  obtain ⟨y,t2,ht2,ha2⟩:=y
  dsimp only
  have hr:lessL (decide (x.1<y.1)) (t1.drop x.2) (t2.drop y.2)=refLess ts x y:=by unfold refLess;rw [getD_at ht1,getD_at ht2]
  have h5':=h5 _ (List.mem_of_getElem? ht1)
  unfold cmpR
  dsimp only
  generalize refLess ts x y=r at hr⊢
  have HK:=Lib.hid h;have Hr:=Lib.hid hr;have HT1:=Lib.hid ht1;have HT2:=Lib.hid ht2;have HA1:=Lib.hid ha1;have HA2:=Lib.hid ha2
  clear h hr ht1 ht2 ha1 ha2 h5
  obtain ⟨d1,a1⟩:=x
  obtain ⟨d2,a2⟩:=y
  dsimp only at HT1 HT2 HA1 HA2 Hr⊢
  go_enter Tryz.func121,Tryz.ntmps121
  have c_kl:=f3 kl;have l_klw:=lt_of kl
  go_wp2_with fail
  refine calls_gen fun V hV=> ?_
  have hG:Gr w V:=by rw [hV];exact (Gr.alloc _ _).trans (Gr.alloc _ _)
  clear hV
  refine (rless_calls v ts d1 a1 d2 a2 t1 t2 HT1.out HA1.out HT2.out HA2.out h5' r Hr.out _ (HK.out.below hG.below)).mono ?_
  rintro e1 W1 ⟨rfl,hG1⟩
  cases r with
  | true=>
    go_wp2_with fail
    go_ret
    exact ⟨rfl,hG.trans hG1⟩
  | false=>
    go_wp2_with fail
    go_ret
    exact ⟨rfl,hG.trans hG1⟩
end
section
open Go.RowKit Go.Sort Go.Shelf
attribute [local go_sem ↓] Go.wp_at_zero Go.wp_at_succ
attribute [local go_sem] str_len
theorem sortK_below {α:Type} [Inhabited α] (enc:α→List Value) (k:Nat) {W:World} {base g m:Nat} (d:Array α) (os:Array Obj) (hb:base≤g) (hW:base≤W.heap.size):Below base W (sortWorldK enc k W g 0 m d os):=by
  unfold sortWorldK putRowK putRow mapBlock grow Sort.ahead
  refine ⟨rfl,rfl,rfl,by simp,fun n hn=> ?_⟩
  show (W.heap.modify g _++os)[n]? =W.heap[n]?
  rw [Array.getElem?_append_left (by rw [Array.size_modify];omega),Array.getElem?_modify,if_neg (by omega)]
theorem sortK_cells {α : Type} [Inhabited α] (enc : α → List Value) (k : Nat) {W : World} {g m : Nat} {cur : Array Value} {T : TypeId} (hg : W.heap[g]? = some (.cells cur T (0, 0))) (d d' : Array α) (os : Array Obj) (hH : HoldsK enc k W g 0 d) (hs : d'.size = d.size) :
    ∃cs,(sortWorldK enc k W g 0 m d' os).heap[g]? =some (.cells cs T (0,0))∧ ∀j,j<d'.size*k→cs[j]? =some ((flatK enc k d')[j]!):=by
  have hlt:=lt_of hg
  have h0:(sortWorldK enc k W g 0 m d' os).heap[g]? =some (.cells (putCells id 0 (flatK enc k d') cur) T (0,0)):=by
    unfold sortWorldK putRowK putRow mapBlock grow Sort.ahead
    show (W.heap.modify g _++os)[g]? =_
    rw [Array.getElem?_append_left (by rw [Array.size_modify];exact hlt),Array.getElem?_modify,if_pos rfl,hg];rfl
  refine ⟨_,h0,fun j hj=> ?_⟩
  have hc:=(hH j (by rw [size_flatK,←hs];exact hj)).1
  rw [Nat.zero_add,cells_of hg] at hc
  have hsz:j<cur.size:=by
    rcases Nat.lt_or_ge j cur.size with h|h
    · exact h
    · rw [Array.getElem?_eq_none h] at hc;cases hc
  unfold putCells
  rw [Array.getElem?_mapIdx,Array.getElem?_eq_getElem hsz]
  simp [size_flatK,hj]
def encR {ts:List (List UInt8)} (x:RowT ts):List Value:=[.int .i64 (x.1.1:Int), .int .i64 (x.1.2:Int)]
theorem flat_rows {ts:List (List UInt8)} (d:List (RowT ts)) [Inhabited (RowT ts)] (j:Nat) (hj:j<d.length*2):some ((flatK (encR (ts:=ts)) 2 d.toArray)[j]!)=(rowCells (d.map (·.1)))[j]? :=by
  rw [get_flatK _ _ _ _ (by simpa using hj)]
  have hi:j/2<d.length:=by omega
  have hx:(d.map (·.1))[j/2]? =some (d[j/2]).1:=by rw [List.getElem?_map,List.getElem?_eq_getElem hi];rfl
  have hd:d.toArray[j/2]! =d[j/2]:=by simp [hi]
  rw [hd]
  obtain ⟨a,b⟩:=rowCells_at hx
  rcases Nat.mod_two_eq_zero_or_one j with h|h
  · rw [h,show (encR d[j/2])[0]! = .int .i64 ((d[j/2]).1.1:Int) from rfl,←a];congr 1;omega
  · rw [h,show (encR d[j/2])[1]! = .int .i64 ((d[j/2]).1.2:Int) from rfl,←b];congr 1;omega
theorem swoR (ts:List (List UInt8)):SWO (ltOf (cmpR ts)) where
  irrefl x:=by unfold ltOf;rw [lt_cmpR];exact rl_irr ts x.1
  trans x y z h1 h2:=by unfold ltOf at*;rw [lt_cmpR] at*;exact rl_trans h1 h2
  ntrans x y z h1 h2:=by
    unfold ltOf at*;rw [lt_cmpR] at*
    cases h:refLess ts x.1 z.1 with
    | false=>rfl
    | true=>
      cases h3:refLess ts y.1 x.1 with
      | true=>rw [rl_trans h3 h] at h2;cases h2
      | false=>
        have e:=rl_total x.2 y.2 h1 h3
        rw [e,h2] at h;cases h
theorem totR (ts:List (List UInt8)) (x y:RowT ts) (h1:ltOf (cmpR ts) x y=false) (h2:ltOf (cmpR ts) y x=false):x=y:=by
  unfold ltOf at*;rw [lt_cmpR] at*
  exact Subtype.ext (rl_total x.2 y.2 h1 h2)
theorem merge_all (ts : List (List UInt8)) (h : ∀ x, x ∈ upto ts ts.length 0 → RowIn ts x) :
    ((rowsT ts (upto ts ts.length 0) h).mergeSort fun x y=> !ltOf (cmpR ts) y x).map (·.1)=refFold ts (upto ts ts.length 0):=by
  have hp:=List.mergeSort_perm (rowsT ts (upto ts ts.length 0) h) fun x y=> !ltOf (cmpR ts) y x
  have hs:=List.pairwise_mergeSort (le:=fun x y=> !ltOf (cmpR ts) y x) (fun a b c h1 h2=>by
    simp only [Bool.not_eq_true',Bool.not_eq_eq_eq_not,Bool.not_true] at*
    exact (swoR ts).ntrans c b a h2 h1) (fun a b=>by
    cases h1:ltOf (cmpR ts) b a with
    | false=>rfl
    | true=>
      have:ltOf (cmpR ts) a b=false:=by unfold ltOf at*;rw [lt_cmpR] at*;exact rl_asymm h1
      rw [this];rfl) (rowsT ts (upto ts ts.length 0) h)
  generalize (rowsT ts (upto ts ts.length 0) h).mergeSort (fun x y=> !ltOf (cmpR ts) y x)=M at hp hs
  have hpm:=hp.map (·.1)
  rw [rowsT_val] at hpm
  have hn:(M.map (·.1)).Nodup:=hpm.nodup_iff.2 (upto_nodup ts _ _)
  refine srt_unique (ts:=ts) ?_ (all_sorted ts) (hpm.trans (all_perm ts).symm)
  refine List.pairwise_map.2 ?_
  have hnd:=List.pairwise_map.1 hn
  refine hs.imp₂ ?_ hnd
  intro a b h1 h2
  simp only [Bool.not_eq_true',Bool.not_eq_eq_eq_not,Bool.not_true] at h1
  unfold ltOf at h1
  rw [lt_cmpR] at h1
  cases h3:refLess ts a.1 b.1 with
  | true=>rfl
  | false=>exact absurd (rl_total a.2 b.2 h3 h1) h2
theorem right_gives (W:World) (t:List UInt8):FnGives Tryz.prog 124 #[] #[strOf t] (.bool (!decide (t.length≤40))) W:=by
  unfold FnGives
  show Calls Tryz.prog 124 #[strOf t] W _
  have h:=str_len t
  by_cases h4:t.length≤40
  · have n1:(t.length:Int)≤40:=by omega
    rw [decide_eq_true h4]
    go_enter Tryz.func124,Tryz.ntmps124
    go_wp2
    go_ret
    exact ⟨rfl,0,rfl⟩
  · have n1: ¬(t.length:Int)≤40:=by omega
    rw [decide_eq_false h4]
    go_enter Tryz.func124,Tryz.ntmps124
    go_wp2
    go_ret
    exact ⟨rfl,0,rfl⟩
theorem right_eq (ts:List (List UInt8)):refRight ts=(decide (ts.length≤10)&& !ts.any fun t=> !decide (t.length≤40)):=by
  unfold refRight
  rw [Bool.and_comm]
  congr 1
  induction ts with
  | nil=>rfl
  | cons t ts ih=>rw [List.all_cons,List.any_cons,ih,Bool.not_or,Bool.not_not]
theorem rowsRight_calls (v : Value) (ts : List (List UInt8)) (hn : ts.length ≤ 50000) (w : World) (h : Rk w 1 v ts.length (ts.map strOf)) :
    Calls Tryz.prog 64 #[v] w fun e w'=>e= .returned (.bool (refRight ts))∧Below w.heap.size w w':=by
  rw [right_eq]
  have eg: ∀args w,(callFunc 124 args).run Tryz.prog w= .ok (.enter 124 args) w:=enters_of Tryz.func124 (by kernel_rfl) rfl
  obtain ⟨h1,A,cap,rfl,h2⟩:=h
  have hcon:Calls Tryz.prog 123 #[.slice A ts.length cap, .func (.func 124) #[] #[]] w fun e w'=>e= .returned (.bool (ts.any fun t=> !decide (t.length≤40)))∧Below w.heap.size w w':=by
    by_cases h0:0<ts.length
    · obtain ⟨g,cs,T,rfl,hg,hc⟩:=h2 h0
      have hcon:=AnyE.slices_ContainsFunc Tryz.layHasStr strOf (fun t=> !decide (t.length≤40)) 124 #[] eg g 0 ts.length cap ts w (fun W t _=>right_gives W t) (Nat.le_refl _) (by omega) (fun j hj=>by
        rw [Nat.zero_add,cells_of hg,hc j (by omega),List.getElem?_map,List.getElem?_eq_getElem hj,getElem!_pos ts j hj];rfl)
      refine Calls.mono hcon ?_
      rintro e w' ⟨rfl,q,rfl⟩
      rw [List.take_length]
      exact ⟨rfl,below_drewN (Below.refl _ _) q⟩
    · have hz:ts=[]:=List.length_eq_zero_iff.1 (by omega)
      subst hz
      have hcon:=AnyE.slices_ContainsFunc_empty Tryz.layHasStr A cap (.func (.func 124) #[] #[]) w
      refine Calls.mono hcon ?_
      rintro e w' ⟨rfl,rfl⟩
      exact ⟨rfl,Below.refl _ _⟩
  clear h1 h2 eg
  generalize (ts.any fun t=> !decide (t.length≤40))=r at hcon⊢
  by_cases h10:ts.length≤10
  · have n1:(ts.length:Int)≤10:=by omega
    rw [decide_eq_true h10]
    go_enter Tryz.func64,Tryz.ntmps64
    cases r with
    | true=>
      go_wp2_with (go_at_call 123;refine hcon.mono ?_;rintro e w' ⟨rfl,hb⟩)
      go_ret
      exact ⟨rfl,hb⟩
    | false=>
      go_wp2_with (go_at_call 123;refine hcon.mono ?_;rintro e w' ⟨rfl,hb⟩)
      go_ret
      exact ⟨rfl,hb⟩
  · have n1: ¬(ts.length:Int)≤10:=by omega
    rw [decide_eq_false h10]
    go_enter Tryz.func64,Tryz.ntmps64
    go_wp2_with fail
    go_ret
    exact ⟨rfl,Below.refl _ _⟩
end
section
open Go.RowKit Go.Sort Go.Shelf
attribute [local go_sem ↓] Go.wp_at_zero Go.wp_at_succ
attribute [local go_sem] str_len
theorem sort_calls {ts : List (List UInt8)} (hts : ∀ t, t ∈ ts → t.length ≤ 50000) {v : Value} {b0 bl g cap : Nat} {cur : Array Value} {W0 W : World} {T : TypeId} (hb : W0.heap.size ≤ g) (hB : Below W0.heap.size W0 W)
    (kl:W0.heap[bl]? =some (.cells #[v] T (0,0))) (hT:T=46) (hK:Rk W0 1 v ts.length (ts.map strOf)) (hg:W.heap[g]? =some (.cells cur 86 (0,0))) (hl:0<(upto ts ts.length 0).length) (hl5:(upto ts ts.length 0).length≤500)
    (hc: ∀j,j<(upto ts ts.length 0).length*2→W.cell? ⟨g,j,none⟩=(rowCells (upto ts ts.length 0))[j]?):
    Calls Tryz.prog 120 #[.slice (some ⟨g,0,none⟩) (upto ts ts.length 0).length cap, .func (.func 121) #[] #[.pointer (some ⟨bl,0,none⟩)]] W fun e w'=>
      e= .returned (.tuple #[])∧Below W0.heap.size W w'∧ ∃cs,w'.heap[g]? =some (.cells cs 86 (0,0))∧ ∀j,j<(upto ts ts.length 0).length*2→cs[j]? =(rowCells (refFold ts (upto ts ts.length 0)))[j]? :=by
  subst hT
  have hin: ∀x,x∈upto ts ts.length 0→RowIn ts x:=fun x h=>upto_in h
  obtain ⟨x0,hx0⟩: ∃x,(upto ts ts.length 0)[0]? =some x:=⟨_,List.getElem?_eq_getElem hl⟩
  haveI:Inhabited (RowT ts):=⟨⟨x0,hin x0 (List.mem_of_getElem? hx0)⟩⟩
  have eg: ∀args w,(callFunc 121 args).run Tryz.prog w= .ok (.enter 121 args) w:=enters_of Tryz.func121 (by kernel_rfl) rfl
  have hlt:=lt_of hg
  have hW:W0.heap.size≤W.heap.size:=hB.size
  have hlen:(rowsT ts (upto ts ts.length 0) hin).length=(upto ts ts.length 0).length:=by unfold rowsT;simp
  have hH:HoldsK (encR (ts:=ts)) 2 W g 0 (rowsT ts (upto ts ts.length 0) hin).toArray:=fun j hj=>by
    rw [size_flatK,List.size_toArray,hlen] at hj
    rw [Nat.zero_add]
    refine ⟨?_,free_of hg _⟩
    have:=flat_rows (rowsT ts (upto ts ts.length 0) hin) j (by rw [hlen];exact hj)
    rw [rowsT_val] at this
    rw [hc j hj,←this];rfl
  have hcmp:CmpLays Tryz.prog 121 #[.pointer (some ⟨bl,0,none⟩)] (encR (ts:=ts)) 2 (cmpR ts) g 0 (rowsT ts (upto ts ts.length 0) hin).toArray.size W:=fun m os dk _ x y=>by
    have hBs:Below W0.heap.size W0 (sortWorldK encR 2 W g 0 m dk os):=hB.trans (sortK_below encR 2 dk os hb hW)
    exact (cmpR_calls v ts hts x y bl _ (keep_blk hBs kl) (hK.below hBs)).mono fun e w' h=>⟨h.1,h.2⟩
  have hcon:=AnyQ.slices_SortFunc_total Tryz.laySort 2 Tryz.isAgg86 Tryz.sizeOf86 (encR (ts:=ts)) (fun _=>rfl) (fun x u hu=>by simp [encR] at hu;rcases hu with rfl|rfl<;>rfl) (cmpR ts) (swoR ts) 121 #[.pointer (some ⟨bl,0,none⟩)] g 0 cap (rowsT ts (upto ts ts.length 0) hin).toArray W eg hcmp hH hlt (by rw [List.size_toArray,hlen];omega) (totR ts)
  rw [List.size_toArray,hlen] at hcon
  refine Calls.mono hcon ?_
  rintro e w' ⟨rfl,n,os,rfl⟩
  refine ⟨rfl,sortK_below _ _ _ _ hb hW,?_⟩
  obtain ⟨cs,h1,h2⟩:=sortK_cells (encR (ts:=ts)) 2 (m:=n) hg (rowsT ts (upto ts ts.length 0) hin).toArray ((rowsT ts (upto ts ts.length 0) hin).toArray.toList.mergeSort fun x y=> !ltOf (cmpR ts) y x).toArray os hH (by simp)
  refine ⟨cs,h1,fun j hj=> ?_⟩
  have hml:((rowsT ts (upto ts ts.length 0) hin).mergeSort fun x y=> !ltOf (cmpR ts) y x).length=(upto ts ts.length 0).length:=by rw [List.length_mergeSort,hlen]
  have h3:=flat_rows ((rowsT ts (upto ts ts.length 0) hin).mergeSort fun x y=> !ltOf (cmpR ts) y x) j (by rw [hml];exact hj)
  rw [merge_all] at h3
  rw [←h3]
  exact h2 j (by simp only [List.size_toArray];rw [hml];exact hj)
theorem sort_none (A:Option Addr) (cap:Nat) (fv:Value) (w:World):Calls Tryz.prog 120 #[.slice A 0 cap,fv] w fun e w'=>e= .returned (.tuple #[])∧w'=w:=
  AnyF.slices_SortFunc_none Tryz.laySort A cap fv w
theorem rowsSorted_walk (v : Value) (ts : List (List UInt8)) (hrt : refRight ts = true) (w : World) (h : Rk w 1 v ts.length (ts.map strOf)) :
    Calls Tryz.prog 63 #[v] w fun e w'=> ∃v',e= .returned v'∧Rk w' 2 v' (refFold ts (upto ts ts.length 0)).length (rowCells (refFold ts (upto ts ts.length 0)))∧Below w.heap.size w w':=by
  obtain ⟨hn10,h40⟩:=right_len hrt
  have H40:=Lib.hid h40;clear h40
  have HK:=Lib.hid h
  obtain ⟨h1,A,cap,rfl,h2⟩:=h
  clear h1 h2
  go_enter Tryz.func63,Tryz.ntmps63
  go_wp2_with fail
  refine cg fun V0 hV_V0=> ?_
  have hB:=Below.refl w.heap.size w
  refine neb0 hV_V0 hB ?_;clear hB;intro z_V0 hB
  obtain ⟨kl,c_kl,l_klV0⟩:=nM hV_V0 (w.heap.size)
  clear hV_V0
  refine rC (rowsRight_calls _ ts (by omega) _ (HK.out.below hB)) fun W0 hb_W0=> ?_
  refine beb1 hb_W0 hB kl ?_;clear hb_W0 hB kl c_kl;intro z_W0 hB kl c_kl
  rw [hrt]
  have HB0:=Lib.hid hB;have KL:=Lib.hid kl;have HK0:=Lib.hid (HK.out.below hB)
  have hz0:=hB.size
  clear hB
  generalize hkb:w.heap.size=kb at*
  go_wp2_with fail
  go_loopg [3,12] ts.length (fun k p q wr=> ∃d:Nat,q= .int .i64 (d:Int)∧d+k=ts.length∧Hid (wr.ownsRow W0.heap.size 86 2 p (upto ts d 0).length (rowCells (upto ts d 0)))∧Hid (Below W0.heap.size W0 wr))
  case atStart=>exact ⟨0,rfl,by omega,Lib.hid (own_nil _ _ _ _),Lib.hid (Below.refl _ _)⟩
  case round=>
    obtain ⟨d,rfl,hk,Hown,HB⟩:=hrel
    by_cases hlt:d<ts.length
    · obtain ⟨k,rfl⟩: ∃k,gk=k+1:=⟨gk - 1,by omega⟩
      obtain ⟨t,ht⟩:=at_some hlt
      have n1:decide ((d:Int)<(ts.length:Int))=true:=by simpa using hlt
      have n2:(d:Int)<(ts.length:Int):=by omega
      have E3:=Lib.hid (step_wrap d 10 (by omega) (by omega))
      have hgd:=getD_at ht
      have hlen:=H40.out d
      rw [hgd] at hlen
      obtain ⟨-,A',cap',hv,h2⟩:=HK0.out.below HB.out
      obtain ⟨g,cs,T,rfl,kg,hcs⟩:=h2 (by omega)
      obtain ⟨rfl, -,rfl⟩:=Value.slice.inj hv
      have hci:cs[d]? =some (strOf t):=by rw [hcs d (by omega),List.getElem?_map,ht];rfl
      clear h2 hv hcs
      have e4:wrap64 ((t.length:Int)+1)=(t.length:Int)+1:=step_wrap t.length 40 (by omega) (by omega)
      have c_kg:=f3 kg;have l_kgwr:=lt_of kg
      go_wp2_with fail
      go_loopg [3,20] (t.length+1) (fun k2 p q wr=> ∃a:Nat,q= .int .i64 (a:Int)∧a+k2=t.length+1∧Hid (wr.ownsRow W0.heap.size 86 2 p (upto ts d a).length (rowCells (upto ts d a)))∧Hid (Below W0.heap.size W0 wr))
      case atStart=>exact ⟨0,rfl,by omega,Hown,HB⟩
      case round=>
        clear Hown HB kg c_kg hci
        obtain ⟨a,rfl,hk2,Hown,HB⟩:=hrel
        by_cases hla:a≤t.length
        · obtain ⟨k2,rfl⟩: ∃k,gk=k+1:=⟨gk - 1,by omega⟩
          have m1:decide ((a:Int)<(t.length:Int)+1)=true:=by simp;omega
          have E4:=Lib.hid (step_wrap a 40 (by omega) (by omega))
          have hw0:=HB.out.size
          have hol:(upto ts d a).length≤500:=by have:=upto_length H40.out d a;omega
          have hown:=Hown.out
          go_wp2_with (at_builtin;refine wpList_push _ (by rfl) _ _ 80 (by rfl) (W0.heap.size) 86 (.agg #[.int .i64 0, .int .i64 0]) 2 16 Tryz.underlying80 (by kernel_rfl) (by rfl) (by omega) _ _ _ (by rfl) hown _ (by rfl) (by rfl) (by simp [Value.oneCell']) (by unfold maxLen;omega) (by omega) (by omega) ?_;intro g_W c_W W3 hown_W hlow_W hlt_W)
          go_wp2_with fail
          go_roundg k2
          case measure=>omega
          case rel=>
            refine ⟨a+1,by first|rfl|(rw [E4.out];rfl),by omega,Lib.hid ?_,Lib.hid (low_step HB.out (by omega) hlow_W)⟩
            rw [upto_snoc,rowCells_append,List.length_append]
            exact hown_W
        · have m1:decide ((a:Int)<(t.length:Int)+1)=false:=by simp;omega
          obtain rfl:a=t.length+1:=by omega
          have Hown':=Hown
          rw [show t.length=(ts.getD d []).length by rw [hgd],upto_next] at Hown'
          go_wp2_with fail
          go_roundg k
          case measure=>omega
          case rel=>exact ⟨d+1,by first|rfl|(rw [E3.out];rfl),by omega,Hown',HB⟩
    · have n1:decide ((d:Int)<(ts.length:Int))=false:=by simpa using hlt
      obtain rfl:d=ts.length:=by omega
      have hol:(upto ts ts.length 0).length≤500:=by have:=upto_length H40.out ts.length 0;omega
      have hw0:=HB.out.size
      have hfl:=refFold_length ts (upto ts ts.length 0)
      have hts: ∀t,t∈ts→t.length≤50000:=fun t ht=>by
        obtain ⟨i,hi⟩:=List.getElem?_of_mem ht
        have:=H40.out i
        rw [getD_at hi] at this;omega
      have HT:=Lib.hid hts;clear hts
      obtain ⟨-,A3,c3,rfl,hx3⟩:=Rx.of_own Hown.out
      by_cases h0:0<(upto ts ts.length 0).length
      · obtain ⟨g3,hv3,hg3,hc3⟩:=hx3 h0
        rcases Hown.out.2 with ⟨-,hz⟩|⟨g4,cap4,cur4,hv4,hg4,hc4, -, -, -, -⟩
        · omega
        · have e43 : g4 = g3 := by
            have:=(Value.slice.inj hv4).1
            rw [hv3] at this
            simp at this
            exact this.symm
          subst e43
          have hsort:=Lib.hid (sort_calls (cap:=c3) (b0:=0) HT.out hg4 HB.out KL.out rfl HK0.out hc4 h0 hol hc3)
          subst hv3
          go_wp2_with (go_at_call 120;refine hsort.out.mono ?_;rintro e w' ⟨rfl,hbs,cs,hcs,hrow⟩)
          go_ret
          refine ⟨_,rfl,⟨?_,_,_,by rw [hfl];rfl,fun _=>⟨_,_,_,rfl,hcs,fun j hj=> ?_⟩⟩,?_⟩
          · rw [rowCells_length]
          · exact hrow j (by rw [hfl] at hj;exact hj)
          · have:=HB.out.trans hbs
            have hb0:Below w.heap.size w W0:=by rw [hkb];exact HB0.out
            exact below_step hb0 this
      · have hz:(upto ts ts.length 0).length=0:=by omega
        have hsort:Calls Tryz.prog 120 #[.slice A3 (upto ts ts.length 0).length c3, .func (.func 121) #[] #[.pointer (some ⟨kb,0,none⟩)]] wr fun e w'=>e= .returned (.tuple #[])∧w'=wr:=by
          rw [hz];exact sort_none A3 c3 _ wr
        have hb0:Below w.heap.size w wr:=below_step (by rw [hkb];exact HB0.out) HB.out
        have HS:=Lib.hid hsort
        have HZ:=Lib.hid hz
        clear hsort hz h0
        go_wp2_with (go_at_call 120;refine HS.out.mono ?_;rintro e w' ⟨rfl,rfl⟩)
        go_ret
        refine ⟨_,rfl,⟨by rw [rowCells_length],_,_,by rw [hfl];rfl,fun h=>absurd h (by rw [hfl,HZ.out];omega)⟩,hb0⟩
theorem rowsSorted_calls (v : Value) (ts : List (List UInt8)) (hn : ts.length ≤ 50000) (w : World) (h : Rk w 1 v ts.length (ts.map strOf)) :
    Calls Tryz.prog 63 #[v] w fun e w'=> ∃v',e= .returned v'∧Rk w' 2 v' (refSorted ts).length (rowCells (refSorted ts))∧Below w.heap.size w w':=by
  by_cases hrt:refRight ts=true
  · have:=rowsSorted_walk v ts hrt w h
    unfold refSorted
    rw [if_pos hrt];exact this
  · have hr0:refRight ts=false:=by simpa using hrt
    have hs:refSorted ts=[]:=by unfold refSorted;rw [if_neg hrt]
    rw [hs]
    have HK:=Lib.hid h
    obtain ⟨h1,A,cap,rfl,h2⟩:=h
    clear h1 h2
    go_enter Tryz.func63,Tryz.ntmps63
    go_wp2_with fail
    refine cg fun V0 hV_V0=> ?_
    have hB:=Below.refl w.heap.size w
    refine neb0 hV_V0 hB ?_;clear hB;intro z_V0 hB
    obtain ⟨kl,c_kl,l_klV0⟩:=nM hV_V0 (w.heap.size)
    clear hV_V0
    refine rC (rowsRight_calls _ ts hn _ (HK.out.below hB)) fun W0 hb_W0=> ?_
    refine beb1 hb_W0 hB kl ?_;clear hb_W0 hB kl c_kl;intro z_W0 hB kl c_kl
    rw [hr0]
    go_wp2_with fail
    go_ret
    exact ⟨_,rfl,⟨rfl,none,0,rfl,fun h=>absurd h (by simp)⟩,hB⟩
end
section
open Go.RowKit
attribute [local go_sem ↓] Go.wp_at_zero Go.wp_at_succ
theorem symof_calls (b:UInt8) (w:World):Calls Tryz.prog 126 #[.int .u8 (b.toNat:Int)] w fun e w'=>e= .returned (.int .i64 ((b.toNat:Int)+1))∧Below w.heap.size w w':=by
  have hb:=b.toNat_lt
  have e1:wrap64 ((b.toNat:Int)+1)=(b.toNat:Int)+1:=IntWalk.wrap64_in _ (by omega)
  have e2:wrap64 (b.toNat:Int)=(b.toNat:Int):=IntWalk.wrap64_in _ (by omega)
  go_enter Tryz.func126,Tryz.ntmps126
  go_wp2_with fail
  go_ret
  exact ⟨rfl,Below.refl _ _⟩
section
attribute [local go_sem] str_len
theorem rowsSymbols_calls (v : Value) (ts : List (List UInt8)) (hn : ts.length ≤ 50000) (hn2 : ∀ t, t ∈ ts → t.length ≤ 50000) (w : World) (h : Rk w 1 v ts.length (ts.map strOf)) :
    Calls Tryz.prog 69 #[v] w fun e w'=> ∃v',e= .returned v'∧w'.ownsRow w.heap.size 3 1 v' (refSorted ts).length (intCells ((refSorted ts).map (symOf ts)))∧Below w.heap.size w w':=by
  obtain ⟨R,hR⟩: ∃R,R=refSorted ts:=⟨_,rfl⟩
  rw [←hR]
  have HK:=Lib.hid h
  obtain ⟨h1,A,cap,rfl,h2⟩:=h
  have hval: ∀x,x∈R→ ∃t,ts[x.1]? =some t∧x.2≤t.length:=fun x hx=>sorted_valid (hR▸hx)
  have hsm:R.length≤500:=by rw [hR];exact sorted_small ts
  have Hval:=Lib.hid hval;have HR:=Lib.hid hR
  clear h1 h2 hval hR
  go_enter Tryz.func69,Tryz.ntmps69
  go_wp2_with fail
  refine cg fun V0 hV_V0=> ?_
  have hB:=Below.refl w.heap.size w
  refine neb0 hV_V0 hB ?_;clear hB;intro z_V0 hB
  clear hV_V0
  refine (rowsSorted_calls _ ts hn _ (HK.out.below hB)).mono ?_
  rintro e1 W1 ⟨v1,rfl,hown1,hb1⟩
  have hB1:=below_step hB hb1
  rw [←HR.out] at hown1
  have HX:=Lib.hid hown1;have HB1:=Lib.hid hB1
  obtain ⟨-,A1,c1,rfl, -⟩:=hown1
  have hsz1:=hB1.size
  clear hb1 hB hB1
  go_wp2_with fail
  go_loopg [3,10] R.length (fun k p q wr=> ∃i:Nat,q= .int .i64 (i:Int)∧i+k=R.length∧Hid (wr.ownsRow W1.heap.size 3 1 p i (intCells ((R.take i).map (symOf ts))))∧Hid (Below W1.heap.size W1 wr))
  case atStart=>exact ⟨0,rfl,by omega,Lib.hid (own_nil _ _ _ _),Lib.hid (Below.refl _ _)⟩
  case round=>
    obtain ⟨i,rfl,hk,Hown,HB⟩:=hrel
    by_cases hlt:i<R.length
    · obtain ⟨k,rfl⟩: ∃k,gk=k+1:=⟨gk - 1,by omega⟩
      obtain ⟨x,hx⟩:=at_some hlt
      obtain ⟨t,ht,hxt⟩:=Hval.out x (List.mem_of_getElem? hx)
      obtain ⟨-,A',cap',hv,h2⟩:=HX.out.below HB.out
      obtain ⟨g1,cs1,T1,rfl,kg1,hcs1⟩:=h2 (by omega)
      obtain ⟨rfl, -,rfl⟩:=Value.slice.inj hv
      have c1a:cs1[i*2]? =some (.int .i64 (x.1:Int)):=(hcs1 _ (by omega)).trans (rowCells_at hx).1
      have c1b:cs1[i*2+1]? =some (.int .i64 (x.2:Int)):=(hcs1 _ (by omega)).trans (rowCells_at hx).2
      clear h2 hv hcs1
      have htake:Hid (intCells ((R.take (i+1)).map (symOf ts))=intCells ((R.take i).map (symOf ts))++[.int .i64 (symOf ts x)]):=Lib.hid (by
        unfold intCells
        rw [List.take_succ_eq_append_getElem hlt,List.map_append,List.map_append,(List.getElem_eq_iff hlt).2 hx];rfl)
      have n1:decide ((i:Int)<(R.length:Int))=true:=by simpa using hlt
      have n2:(i:Int)<(R.length:Int):=by omega
      have E3:=Lib.hid (step_wrap i 500 (by omega) (by omega))
      have hw1:=HB.out.size
      by_cases h0:x.2=0
      · have hs:Hid (symOf ts x=0):=Lib.hid (by unfold symOf;rw [if_pos h0])
        have d0:decide (0<x.2)=false:=by rw [h0];rfl
        have d1:decide ((0:Int)<(x.2:Int))=false:=by rw [h0];rfl
        clear h0 hxt
        have hHB:=HB.out
        have c_kg1:=f3 kg1;have l_kg1wr:=lt_of kg1
        go_wp2_with (at_builtin;refine wpList_push _ (by rfl) _ _ 44 (by rfl) (W1.heap.size) 3 (.int .i64 0) 1 8 Tryz.underlying44 (by kernel_rfl) (by rfl) (by omega) _ _ _ (by rfl) (own_below Hown.out (bel)) _ (by rfl) (by rw [siz_alloc];rfl) (by simp [Value.oneCell']) (by unfold maxLen;omega) (by omega) (by simp only [siz_alloc,siz_set];omega) ?_;intro g_W c_W W5 hown_W hlow_W hlt_W)
        go_wp2_with fail
        go_roundg k
        case measure=>omega
        case rel=>exact ⟨i+1,by first|rfl|(rw [E3.out];rfl),by omega,Lib.hid (by rw [htake.out,hs.out];exact hown_W),Lib.hid (low_step (bel) (Nat.le_refl _) hlow_W)⟩
      · obtain ⟨j,hj⟩: ∃j:Nat,x.2=j+1:=⟨x.2 - 1,by omega⟩
        obtain ⟨b,hb⟩:=at_some (show j<t.length by omega)
        have htl:=hn2 t (List.mem_of_getElem? ht)
        have hs:Hid (symOf ts x=(b.toNat:Int)+1):=Lib.hid (by unfold symOf;rw [if_neg h0,getD_at ht,hj];simp [List.getD,hb])
        have d0:decide ((0:Int)<(x.2:Int))=true:=by simp;omega
        obtain ⟨hd, -⟩:=List.getElem?_eq_some_iff.1 ht
        obtain ⟨-,A2,cap2,hv2,h3⟩:=(HK.out.below HB1.out).below HB.out
        obtain ⟨g2,cs2,T2,rfl,kg2,hcs2⟩:=h3 (by omega)
        obtain ⟨rfl, -,rfl⟩:=Value.slice.inj hv2
        have c2a:cs2[x.1]? =some (strOf t):=by rw [hcs2 _ (by omega),List.getElem?_map,ht];rfl
        have n3:(x.1:Int)<(ts.length:Int):=by omega
        have hix:=str_index t j b hb
        have hxj:(x.2:Int)=(j:Int)+1:=by omega
        rw [hxj] at c1b d0
        have e8:wrap64 ((j:Int)+1 - 1)=(j:Int):=by rw [show (j:Int)+1 - 1=(j:Int) by omega];exact step_id j t.length (by omega) (by omega)
        have e9:wrap64 (j:Int)=(j:Int):=step_id j t.length (by omega) (by omega)
        have E9:=Lib.hid e9
        clear h0 hxt h3 hv2 hcs2 hb hxj e9
        have hB:=Below.refl wr.heap.size wr
        have c_kg1:=f3 kg1;have l_kg1wr:=lt_of kg1
        have c_kg2:=f3 kg2;have l_kg2wr:=lt_of kg2
        go_wp2_with fail
        refine wg fun V hV_V=> ?_
        refine neb2 hV_V hB kg1 kg2 ?_;clear hB kg1 kg2 c_kg1 c_kg2;intro z_V hB kg1 c_kg1 kg2 c_kg2
        obtain ⟨kr,c_kr,l_krV⟩:=nM hV_V (wr.heap.size)
        clear hV_V
        have HBV:=Lib.hid (below_step HB.out hB)
        have HO:=Lib.hid (own_below Hown.out hB)
        have hzV:=hB.size
        clear hB
        have e9:=E9.out
        refine wp_region_noPanic ?_
        refine wp_region_held_drew (S:=fun v=>Below V.heap.size V v∧(V.heap.size≤v.heap.size)∧ ∀b o,b<V.heap.size→v.cell? ⟨b,o,none⟩=V.cell? ⟨b,o,none⟩) (by kernel_rfl) (HeldB.start V) (fun hHeld=> ?_)
        have hB_d:Below V.heap.size V V.drew:=(Below.refl _ _).drew
        generalize V.drew=Vd at hHeld hB_d⊢
        refine ta 0 hHeld ?_
        refine ta 1 hHeld ?_
        refine ta 2 hHeld ?_
        refine ta 3 hHeld ?_
        refine ta 4 hHeld ?_
        refine ta 5 hHeld ?_
        refine ta 6 hHeld ?_
        refine ta 7 hHeld ?_
        refine ta 8 hHeld ?_
        clear e8 e9
        refine rd 9 rfl fun K hK=> ?_
        go_simp
        refine (symof_calls b _).mono ?_
        rintro e6 W6 ⟨rfl,hb6⟩
        refine ho hK (HeldB.call hHeld hb6) fun hHeld=> ?_
        clear hK K
        refine rd 10 rfl fun K hK=> ?_
        go_simp
        refine ho hK hHeld fun hHeld=> ?_
        clear hK K
        refine wpAnyH_done (by kernel_rfl) ?_ _
        refine NoPanic.normal ?_
        have HB6:=Lib.hid (hHeld.1)
        have HO6:=Lib.hid (own_below HO.out hHeld.1)
        have hz6:=hHeld.1.size
        clear hHeld hb6 kg1 kg2 kr c_kg1 c_kg2 c_kr hB_d
        go_wp2_with (at_builtin;refine wpList_push _ (by rfl) _ _ 44 (by rfl) (W1.heap.size) 3 (.int .i64 0) 1 8 Tryz.underlying44 (by kernel_rfl) (by rfl) (by omega) _ _ _ (by rfl) HO6.out _ (by rfl) (by rfl) (by simp [Value.oneCell']) (by unfold maxLen;omega) (by omega) (by omega) ?_;intro g_W c_W W7 hown_W hlow_W hlt_W)
        go_wp2_with fail
        go_roundg k
        case measure=>omega
        case rel=>exact ⟨i+1,by first|rfl|(rw [E3.out];rfl),by omega,Lib.hid (by rw [htake.out,hs.out];exact hown_W),Lib.hid (low_step (below_step HBV.out HB6.out) (Nat.le_refl _) hlow_W)⟩
    · have hi:i=R.length:=by omega
      have n1:decide ((i:Int)<(R.length:Int))=false:=by simpa using hlt
      have hown:=Hown.out
      rw [hi,List.take_length] at hown
      have HO:=Lib.hid (own_mono hown hsz1);clear hown Hown
      have HBF:=Lib.hid (below_step HB1.out HB.out)
      go_wp2_with fail
      go_ret
      exact ⟨u3,rfl,HO.out,HBF.out⟩
end
end
section
open Go.RowKit Go.Shelf
attribute [local go_sem ↓] Go.wp_at_zero Go.wp_at_succ
def encI (x:Int×Int):List Value:=[.int .i64 x.1, .int .i64 x.2]
theorem neqItem:NeqAt Tryz.prog 90 (fun x:Int×Int=> .agg (encI x).toArray) (fun x y=>x==y):=by
  refine ⟨fun x y w=> ?_,GuardAt.agg _ (by kernel_rfl)⟩
  have u3:=Tryz.underlying3
  have a3:=Tryz.isAgg3
  have z3:=Tryz.sizeOf3
  have hS:Tryz.prog.underlying 90=some (.struct (Tryz.prog.fieldsOf 90)):=by kernel_rfl
  have hp:Tryz.prog.stoodInHeld 90=false:=by kernel_rfl
  obtain ⟨x1,x2⟩:=x
  obtain ⟨y1,y2⟩:=y
  simp only [encI]
  rw [run_neq_struct,show (10000:Nat)=9999+1 from rfl,run_equalIn_agg w 9999 90 _ _ hS hp]
  simp only [Program.fieldsOf,Tryz.underlying90]
  go_simp
  by_cases h1:x1=y1<;>by_cases h2:x2=y2<;>simp [h1,h2]
theorem allEq_items {α:Type} [BEq α] [LawfulBEq α]: ∀(a b:List α),Lib.allEq (fun x y=>x==y) a b=(a==b)
  | [],[]=>rfl
  | [],_::_=>rfl
  | _::_,[]=>rfl
  | x::a,y::b=>by
    unfold Lib.allEq
    rw [allEq_items a b];rfl
theorem equal_short {F : Nat} (hwalk : ∀ (A B : Option Addr) (n m c d : Nat) (w : World), n ≠ m ∨ n = 0 → n ≤ 50000 → m ≤ 50000 → Calls Tryz.prog F #[.slice A n c, .slice B m d] w fun e w' => e = .returned (.bool (decide (n = m))) ∧ Below w.heap.size w w')
    {α:Type} [BEq α] [LawfulBEq α] (a b:List α) (ha:a.length≤50000) (hb:b.length≤50000) (h:a.length≠b.length∨a.length=0) (A B:Option Addr) (c d:Nat) (w:World):
    Calls Tryz.prog F #[.slice A a.length c, .slice B b.length d] w fun e w'=>e= .returned (.bool (a==b))∧Below w.heap.size w w':=by
  have hx:=hwalk A B a.length b.length c d w h ha hb
  have:decide (a.length=b.length)=(a==b):=by
    by_cases e:a.length=b.length
    · rcases h with h|h
      · exact absurd e h
      · have h1:a=[]:=List.length_eq_zero_iff.1 h
        have h2:b=[]:=List.length_eq_zero_iff.1 (by omega)
        rw [h1,h2];rfl
    · have:a≠b:=fun q=>e (congrArg List.length q)
      rw [decide_eq_false e]
      simp [this]
  rw [this] at hx;exact hx
theorem itemCells_enc (l:List (Int×Int)) (j:Nat) (hj:j<l.length) (i:Nat) (v:Value) (hv:(encI l[j]!)[i]? =some v):(itemCells l)[j*2+i]? =some v:=by
  obtain ⟨h1,h2⟩:=itemCells_at l j l[j] (List.getElem?_eq_getElem hj)
  rw [getElem!_pos l j hj] at hv
  unfold encI at hv
  match i with
  | 0=>simp at hv;rw [←hv];exact h1
  | 1=>simp at hv;rw [←hv];exact h2
  | i+2=>simp at hv
theorem eqItem_short (A B:Option Addr) (n m c d:Nat) (w:World) (h:n≠m∨n=0) (hn:n≤50000) (hm:m≤50000):Calls Tryz.prog 65 #[.slice A n c, .slice B m d] w fun e w'=>e= .returned (.bool (decide (n=m)))∧Below w.heap.size w w':=by
  by_cases e:n=m
  · subst e
    obtain rfl:n=0:=by omega
    rw [decide_eq_true rfl]
    go_enter Tryz.func65,Tryz.ntmps65
    go_wp2_with fail
    go_loopg [13] 0 (fun k p wr=>p= .int .i64 0∧Hid (Below w.heap.size w wr))
    case atStart=>exact ⟨rfl,Lib.hid (Below.refl _ _)⟩
    case round=>
      obtain ⟨rfl,HB⟩:=hrel
      go_wp2_with fail
      go_ret
      exact ⟨rfl,HB.out⟩
  · have e1: ¬(n:Int)=(m:Int):=by omega
    rw [decide_eq_false e]
    clear h e
    go_enter Tryz.func65,Tryz.ntmps65
    go_wp2_with fail
    go_ret
    exact ⟨rfl,Below.refl _ _⟩
theorem eqItem_calls (v1 v2 : Value) (a b : List (Int × Int)) (ha : a.length ≤ 50000) (hb : b.length ≤ 50000) (w : World) (h1 : Rx w 2 v1 a.length (itemCells a)) (h2 : Rx w 2 v2 b.length (itemCells b)) :
    Calls Tryz.prog 65 #[v1,v2] w fun e w'=>e= .returned (.bool (a==b))∧Below w.heap.size w w':=by
  obtain ⟨-,A,c,rfl,h1⟩:=h1
  obtain ⟨-,B,d,rfl,h2⟩:=h2
  by_cases h:a.length≠b.length∨a.length=0
  · exact equal_short eqItem_short a b ha hb h A B c d w
  · obtain ⟨g1,rfl, -,c1⟩:=h1 (by omega)
    obtain ⟨g2,rfl, -,c2⟩:=h2 (by omega)
    have hcon:=AnyQ.slices_Equal Tryz.layEqItem 2 Tryz.isAgg90 Tryz.sizeOf90 encI (fun _=>rfl) (fun x y=>x==y) neqItem g1 0 a.length c g2 0 b.length d a b w (Nat.le_refl _) (Nat.le_refl _) (by omega) (by omega) (fun j hj i v hv=>by
      have h2:i<2:=by
        rcases Nat.lt_or_ge i 2 with h|h
        · exact h
        · rw [List.getElem?_eq_none (by simp [encI];omega)] at hv;cases hv
      rw [Nat.zero_add,c1 _ (by omega)];exact itemCells_enc a j hj i v hv) (fun j hj i v hv=>by
      have h2:i<2:=by
        rcases Nat.lt_or_ge i 2 with h|h
        · exact h
        · rw [List.getElem?_eq_none (by simp [encI];omega)] at hv;cases hv
      rw [Nat.zero_add,c2 _ (by omega)];exact itemCells_enc b j hj i v hv)
    rw [List.take_length,List.take_length,allEq_items] at hcon
    refine Calls.mono hcon ?_
    rintro e w' ⟨rfl,q,rfl⟩
    exact ⟨rfl,below_drewN (Below.refl _ _) q⟩
theorem eqInt_short (A B:Option Addr) (n m c d:Nat) (w:World) (h:n≠m∨n=0) (hn:n≤50000) (hm:m≤50000):Calls Tryz.prog 67 #[.slice A n c, .slice B m d] w fun e w'=>e= .returned (.bool (decide (n=m)))∧Below w.heap.size w w':=by
  by_cases e:n=m
  · subst e
    obtain rfl:n=0:=by omega
    rw [decide_eq_true rfl]
    go_enter Tryz.func67,Tryz.ntmps67
    go_wp2_with fail
    go_loopg [13] 0 (fun k p wr=>p= .int .i64 0∧Hid (Below w.heap.size w wr))
    case atStart=>exact ⟨rfl,Lib.hid (Below.refl _ _)⟩
    case round=>
      obtain ⟨rfl,HB⟩:=hrel
      go_wp2_with fail
      go_ret
      exact ⟨rfl,HB.out⟩
  · have e1: ¬(n:Int)=(m:Int):=by omega
    rw [decide_eq_false e]
    clear h e
    go_enter Tryz.func67,Tryz.ntmps67
    go_wp2_with fail
    go_ret
    exact ⟨rfl,Below.refl _ _⟩
theorem eqInt_calls (v1 v2 : Value) (a b : List Int) (ha : a.length ≤ 50000) (hb : b.length ≤ 50000) (w : World) (h1 : Rx w 1 v1 a.length (a.map fun x => .int .i64 x)) (h2 : Rx w 1 v2 b.length (b.map fun x => .int .i64 x)) :
    Calls Tryz.prog 67 #[v1,v2] w fun e w'=>e= .returned (.bool (a==b))∧Below w.heap.size w w':=by
  obtain ⟨-,A,c,rfl,h1⟩:=h1
  obtain ⟨-,B,d,rfl,h2⟩:=h2
  by_cases h:a.length≠b.length∨a.length=0
  · exact equal_short eqInt_short a b ha hb h A B c d w
  · obtain ⟨g1,rfl, -,c1⟩:=h1 (by omega)
    obtain ⟨g2,rfl, -,c2⟩:=h2 (by omega)
    have hcon:=AnyE.slices_Equal Tryz.layEqInt (fun x=> .int .i64 x) (fun x y=>x==y) (NeqAt.int Tryz.prog 3 .i64) g1 0 a.length c g2 0 b.length d a b w (Nat.le_refl _) (Nat.le_refl _) (by omega) (by omega) (fun j hj=>by
      rw [Nat.zero_add,c1 _ (by omega),List.getElem?_map,List.getElem?_eq_getElem hj,getElem!_pos a j hj];rfl) (fun j hj=>by
      rw [Nat.zero_add,c2 _ (by omega),List.getElem?_map,List.getElem?_eq_getElem hj,getElem!_pos b j hj];rfl)
    rw [List.take_length,List.take_length,allEq_items] at hcon
    refine Calls.mono hcon ?_
    rintro e w' ⟨rfl,q,rfl⟩
    exact ⟨rfl,below_drewN (Below.refl _ _) q⟩
theorem eqBool_short (A B:Option Addr) (n m c d:Nat) (w:World) (h:n≠m∨n=0) (hn:n≤50000) (hm:m≤50000):Calls Tryz.prog 70 #[.slice A n c, .slice B m d] w fun e w'=>e= .returned (.bool (decide (n=m)))∧Below w.heap.size w w':=by
  by_cases e:n=m
  · subst e
    obtain rfl:n=0:=by omega
    rw [decide_eq_true rfl]
    go_enter Tryz.func70,Tryz.ntmps70
    go_wp2_with fail
    go_loopg [13] 0 (fun k p wr=>p= .int .i64 0∧Hid (Below w.heap.size w wr))
    case atStart=>exact ⟨rfl,Lib.hid (Below.refl _ _)⟩
    case round=>
      obtain ⟨rfl,HB⟩:=hrel
      go_wp2_with fail
      go_ret
      exact ⟨rfl,HB.out⟩
  · have e1: ¬(n:Int)=(m:Int):=by omega
    rw [decide_eq_false e]
    clear h e
    go_enter Tryz.func70,Tryz.ntmps70
    go_wp2_with fail
    go_ret
    exact ⟨rfl,Below.refl _ _⟩
theorem eqBool_calls (v1 v2 : Value) (a b : List Bool) (ha : a.length ≤ 50000) (hb : b.length ≤ 50000) (w : World) (h1 : Rx w 1 v1 a.length (a.map fun x => .bool x)) (h2 : Rx w 1 v2 b.length (b.map fun x => .bool x)) :
    Calls Tryz.prog 70 #[v1,v2] w fun e w'=>e= .returned (.bool (a==b))∧Below w.heap.size w w':=by
  obtain ⟨-,A,c,rfl,h1⟩:=h1
  obtain ⟨-,B,d,rfl,h2⟩:=h2
  by_cases h:a.length≠b.length∨a.length=0
  · exact equal_short eqBool_short a b ha hb h A B c d w
  · obtain ⟨g1,rfl, -,c1⟩:=h1 (by omega)
    obtain ⟨g2,rfl, -,c2⟩:=h2 (by omega)
    have hcon:=AnyE.slices_Equal Tryz.layEqBool (fun x=> .bool x) (fun x y=>x==y) (NeqAt.bool 4 Tryz.underlying4) g1 0 a.length c g2 0 b.length d a b w (Nat.le_refl _) (Nat.le_refl _) (by omega) (by omega) (fun j hj=>by
      rw [Nat.zero_add,c1 _ (by omega),List.getElem?_map,List.getElem?_eq_getElem hj,getElem!_pos a j hj];rfl) (fun j hj=>by
      rw [Nat.zero_add,c2 _ (by omega),List.getElem?_map,List.getElem?_eq_getElem hj,getElem!_pos b j hj];rfl)
    rw [List.take_length,List.take_length,allEq_items] at hcon
    refine Calls.mono hcon ?_
    rintro e w' ⟨rfl,q,rfl⟩
    exact ⟨rfl,below_drewN (Below.refl _ _) q⟩
end
section
open Go.RowKit
attribute [local go_sem ↓] Go.wp_at_zero Go.wp_at_succ
variable {ap : Value} {s : Ar} {O : Nat → Prop}
theorem bAll_calls (h : Int) (l : List Bool) (hr : bAll s h = some l) (hl : l.length ≤ 50000) (w : World) (hA : AP w ap s O) :
    Calls Tryz.prog 71 #[ap, .int .i64 h] w fun e w'=> ∃v,e= .returned v∧w'.ownsRow w.heap.size 4 1 v l.length (l.map fun x=> .bool x)∧Below w.heap.size w w':=by
  have hA0:=Lib.hid hA
  have hr':=Lib.hid hr
  have hlen:l.length=(bLen s h).toNat:=eachO_len _ _ _ hr
  clear hr
  go_enter Tryz.func71,Tryz.ntmps71
  go_wp2_with fail
  refine cg fun V hV_V=> ?_
  have hB:=Below.refl w.heap.size w
  refine nea0 hV_V hA hB ?_;clear hA hB;intro z_V hA hB
  clear hV_V
  refine rC (bLen_calls _ _ hA) fun W1 hb_W1=> ?_
  refine bea0 hb_W1 hA hB ?_;clear hb_W1 hA hB;intro z_W1 hA hB
  go_wp2_with fail
  refine wg fun V1 hV_V1=> ?_
  refine nea0 hV_V1 hA hB ?_;clear hA hB;intro z_V1 hA hB
  clear hV_V1
  go_loopg [5,12] (bLen s h).toNat (fun k p q wr=> ∃(i:Int) (d0 rest:List Bool),q= .int .i64 i∧0≤i∧i≤50000∧(d0.length:Int)=i∧k=(bLen s h - i).toNat∧Hid (eachO (fun i=>(bGet s h i).map (·.1)) k i=some rest)∧Hid (l=d0++rest)∧Hid (wr.ownsRow w.heap.size 4 1 p d0.length (d0.map fun x=> .bool x))∧Below w.heap.size w wr)
  case atStart=>exact ⟨0,[],l,rfl,by omega,by omega,rfl,by simp,hr',Lib.hid rfl,Lib.hid (own_nil _ _ _ _),hB⟩
  case round=>
    clear hA hB hr'
    obtain ⟨i,d0,rest,rfl,hi0,hi1,hdl,hk,He,Hl,Hown,hB0⟩:=hrel
    have hA:=hA0.out.below hB0
    by_cases hlt:i<bLen s h
    · have d1:decide (i<bLen s h)=true:=by simpa using hlt
      obtain ⟨k,rfl⟩: ∃k,gk=k+1:=⟨gk - 1,by omega⟩
      have he:=He.out
      unfold eachO at he
      obtain ⟨x,hx,he⟩:=Option.bind_eq_some_iff.1 he
      obtain ⟨rest',he',hrest⟩:=Option.bind_eq_some_iff.1 he
      obtain ⟨g,hg,hgx⟩:=Option.map_eq_some_iff.1 hx
      have hrest:=Option.some.inj hrest
      have hlx:l.length=d0.length+(1+rest'.length):=by rw [Hl.out,←hrest];simp;omega
      have Hg:=Lib.hid hg
      have Hx:=Lib.hid hgx
      have He':=Lib.hid he'
      have Hl':Hid (l=(d0++[x])++rest'):=Lib.hid (by rw [Hl.out,←hrest];simp)
      clear He Hl he hx he' hrest hg hgx
      have hw0:=hB0.size
      have HB0:=Lib.hid hB0;clear hB0
      have hB:=Below.refl wr.heap.size wr
      go_wp2_with fail
      refine cg fun V2 hV_V2=> ?_
      refine nea0 hV_V2 hA hB ?_;clear hA hB;intro z_V2 hA hB
      clear hV_V2
      refine rC (bGet_calls _ _ g Hg.out _ hA) fun W2 hb_W2=> ?_
      refine bea0 hb_W2 hA hB ?_;clear hb_W2 hA hB;intro z_W2 hA hB
      have Hbl:=Lib.hid (below_step HB0.out hB)
      have hown:=own_below Hown.out hB
      clear Hown
      go_wp2_with (at_builtin;refine wpList_push _ (by rfl) _ _ 77 (by rfl) (w.heap.size) 4 (.bool false) 1 1 Tryz.underlying77 (by kernel_rfl) (by rfl) (by omega) _ _ _ (by rfl) hown _ (by rfl) (by rfl) (by simp [Value.oneCell']) (by unfold maxLen;omega) (by omega) (by omega) ?_;intro g_W c_W W3 hown_W hlow_W hlt_W)
      have h1:wrap64 (i+1)=i+1:=IntWalk.wrap64_in _ (by omega)
      go_wp2_with fail
      go_roundg k
      case measure=>omega
      case rel=>
        refine ⟨i+1,d0++[x],rest',by rw [←h1],by omega,by omega,by simp;omega,by omega,He',Hl',?_,low_step Hbl.out (by omega) hlow_W⟩
        rw [List.map_append,List.length_append,←Hx.out]
        exact Lib.hid hown_W
    · have d1:decide (i<bLen s h)=false:=by simpa using hlt
      obtain rfl:gk=0:=by omega
      have he:=He.out
      unfold eachO at he
      obtain rfl:=Option.some.inj he
      have hl2:=Hl.out
      simp only [List.append_nil] at hl2
      have hn:d0.length=l.length:=by rw [hl2]
      clear He Hl he
      go_wp2_with fail
      go_ret
      refine ⟨u5,rfl,?_,hB0⟩
      rw [hl2];exact Hown.out
theorem wAll_calls (h : Int) (l : List Int) (hr : wAll s h = some l) (hl : l.length ≤ 50000) (w : World) (hA : AP w ap s O) :
    Calls Tryz.prog 68 #[ap, .int .i64 h] w fun e w'=> ∃v,e= .returned v∧w'.ownsRow w.heap.size 3 1 v l.length (l.map fun x=> .int .i64 x)∧Below w.heap.size w w':=by
  have hA0:=Lib.hid hA
  have hr':=Lib.hid hr
  have hlen:l.length=(wLen s h).toNat:=eachO_len _ _ _ hr
  clear hr
  go_enter Tryz.func68,Tryz.ntmps68
  go_wp2_with fail
  refine cg fun V hV_V=> ?_
  have hB:=Below.refl w.heap.size w
  refine nea0 hV_V hA hB ?_;clear hA hB;intro z_V hA hB
  clear hV_V
  refine rC (wLen_calls _ _ hA) fun W1 hb_W1=> ?_
  refine bea0 hb_W1 hA hB ?_;clear hb_W1 hA hB;intro z_W1 hA hB
  go_wp2_with fail
  refine wg fun V1 hV_V1=> ?_
  refine nea0 hV_V1 hA hB ?_;clear hA hB;intro z_V1 hA hB
  clear hV_V1
  go_loopg [5,12] (wLen s h).toNat (fun k p q wr=> ∃(i:Int) (d0 rest:List Int),q= .int .i64 i∧0≤i∧i≤50000∧(d0.length:Int)=i∧k=(wLen s h - i).toNat∧Hid (eachO (fun i=>(wGet s h i).map (·.1)) k i=some rest)∧Hid (l=d0++rest)∧Hid (wr.ownsRow w.heap.size 3 1 p d0.length (d0.map fun x=> .int .i64 x))∧Below w.heap.size w wr)
  case atStart=>exact ⟨0,[],l,rfl,by omega,by omega,rfl,by simp,hr',Lib.hid rfl,Lib.hid (own_nil _ _ _ _),hB⟩
  case round=>
    clear hA hB hr'
    obtain ⟨i,d0,rest,rfl,hi0,hi1,hdl,hk,He,Hl,Hown,hB0⟩:=hrel
    have hA:=hA0.out.below hB0
    by_cases hlt:i<wLen s h
    · have d1:decide (i<wLen s h)=true:=by simpa using hlt
      obtain ⟨k,rfl⟩: ∃k,gk=k+1:=⟨gk - 1,by omega⟩
      have he:=He.out
      unfold eachO at he
      obtain ⟨x,hx,he⟩:=Option.bind_eq_some_iff.1 he
      obtain ⟨rest',he',hrest⟩:=Option.bind_eq_some_iff.1 he
      obtain ⟨g,hg,hgx⟩:=Option.map_eq_some_iff.1 hx
      have hrest:=Option.some.inj hrest
      have hlx:l.length=d0.length+(1+rest'.length):=by rw [Hl.out,←hrest];simp;omega
      have Hg:=Lib.hid hg
      have Hx:=Lib.hid hgx
      have He':=Lib.hid he'
      have Hl':Hid (l=(d0++[x])++rest'):=Lib.hid (by rw [Hl.out,←hrest];simp)
      clear He Hl he hx he' hrest hg hgx
      have hw0:=hB0.size
      have HB0:=Lib.hid hB0;clear hB0
      have hB:=Below.refl wr.heap.size wr
      go_wp2_with fail
      refine cg fun V2 hV_V2=> ?_
      refine nea0 hV_V2 hA hB ?_;clear hA hB;intro z_V2 hA hB
      clear hV_V2
      refine rC (wGet_calls _ _ g Hg.out _ hA) fun W2 hb_W2=> ?_
      refine bea0 hb_W2 hA hB ?_;clear hb_W2 hA hB;intro z_W2 hA hB
      have Hbl:=Lib.hid (below_step HB0.out hB)
      have hown:=own_below Hown.out hB
      clear Hown
      go_wp2_with (at_builtin;refine wpList_push _ (by rfl) _ _ 44 (by rfl) (w.heap.size) 3 (.int .i64 0) 1 8 Tryz.underlying44 (by kernel_rfl) (by rfl) (by omega) _ _ _ (by rfl) hown _ (by rfl) (by rfl) (by simp [Value.oneCell']) (by unfold maxLen;omega) (by omega) (by omega) ?_;intro g_W c_W W3 hown_W hlow_W hlt_W)
      have h1:wrap64 (i+1)=i+1:=IntWalk.wrap64_in _ (by omega)
      go_wp2_with fail
      go_roundg k
      case measure=>omega
      case rel=>
        refine ⟨i+1,d0++[x],rest',by rw [←h1],by omega,by omega,by simp;omega,by omega,He',Hl',?_,low_step Hbl.out (by omega) hlow_W⟩
        rw [List.map_append,List.length_append,←Hx.out]
        exact Lib.hid hown_W
    · have d1:decide (i<wLen s h)=false:=by simpa using hlt
      obtain rfl:gk=0:=by omega
      have he:=He.out
      unfold eachO at he
      obtain rfl:=Option.some.inj he
      have hl2:=Hl.out
      simp only [List.append_nil] at hl2
      have hn:d0.length=l.length:=by rw [hl2]
      clear He Hl he
      go_wp2_with fail
      go_ret
      refine ⟨u5,rfl,?_,hB0⟩
      rw [hl2];exact Hown.out
end
section
open Go.RowKit
attribute [local go_sem ↓] Go.wp_at_zero Go.wp_at_succ
variable {ap : Value} {s : Ar} {O : Nat → Prop}
theorem str_lenU (l:List UInt8) (w:World):(Builtin.len_ #[9] 3 #[.string ⟨l.toArray⟩]).run Tryz.prog w= .ok (.int .i64 (l.length:Int)) w:=str_len l w
def DRows (w:World) (base:Nat) (p1 p2:Value) (ds:Docs):Prop:=Ow2 w base 9 1 p1 ds.length ((ds.map (·.2)).map strOf) 90 2 p2 ds.length (itemCells (docsM ds))
def RRows (w:World) (base:Nat) (p1 p2:Value) (rate:Int) (ds:Docs) (R:List (Nat×Nat)):Prop:=Ow2 w base 4 1 p1 R.length ((R.map (mkR rate)).map fun x=> .bool x) 90 2 p2 (R.filter (mkR rate)).length (itemCells ((R.filter (mkR rate)).map (spR ds)))
theorem own_kept2 {w w' w3:World} {base n:Nat} {e:TypeId} {size:Nat} {v v1:Value} {xs:List Value} (h:w.ownsRow base e size v n xs) (hb:Below w.heap.size w w') (hg:w'.grownBy w3 v1.ownBlock) (hne: ∀k,v1.ownBlock=some k→v.ownBlock≠some k):w3.ownsRow base e size v n xs:=by
  refine (own_below h hb).kept hg ?_
  cases h2:v.ownBlock with
  | none=>exact .inl rfl
  | some k=>exact .inr fun e=>hne k e.symm h2
theorem docsM_snoc (ds:Docs) (d:Int×List UInt8):docsM (ds++[d])=docsM ds++[(d.1,(d.2.length:Int))]:=by unfold docsM;simp
section
attribute [local go_sem] str_lenU
theorem check_no (root rate : Int) (vl : Value) (h : ¬ (vIs s root = true ∧ 1 ≤ rate ∧ rate ≤ 16)) (w : World) (hA : AP w ap s O) :
    Calls Tryz.prog 20 #[ap, .int .i64 root, .int .i64 rate,vl] w fun e w'=>e= .returned (.bool false)∧Below w.heap.size w w':=by
  cases hv:vIs s root with
  | false=>
    go_enter Tryz.func20,Tryz.ntmps20
    go_wp2_with fail
    refine cg fun V hV_V=> ?_
    have hB:=Below.refl w.heap.size w
    refine nea0 hV_V hA hB ?_;clear hA hB;intro z_V hA hB
    clear hV_V
    refine rC (vOf_calls _ _ hA) fun W1 hb_W1=> ?_
    refine bea0 hb_W1 hA hB ?_;clear hb_W1 hA hB;intro z_W1 hA hB
    unfold Parts.val
    rw [hv]
    go_wp2_with fail
    go_ret
    exact ⟨rfl,bel⟩
  | true=>
    by_cases h1:rate<1
    · go_enter Tryz.func20,Tryz.ntmps20
      go_wp2_with fail
      refine cg fun V hV_V=> ?_
      have hB:=Below.refl w.heap.size w
      refine nea0 hV_V hA hB ?_;clear hA hB;intro z_V hA hB
      clear hV_V
      refine rC (vOf_calls _ _ hA) fun W1 hb_W1=> ?_
      refine bea0 hb_W1 hA hB ?_;clear hb_W1 hA hB;intro z_W1 hA hB
      unfold Parts.val
      rw [hv]
      go_wp2_with fail
      go_ret
      exact ⟨rfl,bel⟩
    · have h2 : 16 < rate := by
        rcases Int.lt_or_le 16 rate with h2|h2
        · exact h2
        · exact absurd ⟨hv,by omega,h2⟩ h
      go_enter Tryz.func20,Tryz.ntmps20
      go_wp2_with fail
      refine cg fun V hV_V=> ?_
      have hB:=Below.refl w.heap.size w
      refine nea0 hV_V hA hB ?_;clear hA hB;intro z_V hA hB
      clear hV_V
      refine rC (vOf_calls _ _ hA) fun W1 hb_W1=> ?_
      refine bea0 hb_W1 hA hB ?_;clear hb_W1 hA hB;intro z_W1 hA hB
      unfold Parts.val
      rw [hv]
      go_wp2_with fail
      go_ret
      exact ⟨rfl,bel⟩
theorem check_end (root rate : Int) (ds : Docs) (r : Bool) (hr : vCheck s root rate ds = some r) (h1 : vIs s root = true ∧ 1 ≤ rate ∧ rate ≤ 16) (h2 : refRight (txt ds) = true) :
    ∃a,lAll s (vOf s root).table=some a∧a.length≤50000∧((a==docsM ds)=false∧r=false∨(a==docsM ds)=true∧
      ∃b,wAll s (vOf s root).wave=some b∧b.length≤50000∧((b==symsM (txt ds))=false∧r=false∨(b==symsM (txt ds))=true∧
      ∃c,bAll s (vOf s root).marks=some c∧c.length≤50000∧((c==marksM rate (txt ds))=false∧r=false∨(c==marksM rate (txt ds))=true∧
      ∃d,lAll s (vOf s root).spots=some d∧d.length≤50000∧r=(d==spotsM rate ds)))):=by
  unfold vCheck at hr
  rw [if_pos h1,if_pos h2] at hr
  obtain ⟨a,ha,hr⟩:=Option.bind_eq_some_iff.1 hr
  by_cases la:a.length≤50000
  · rw [if_pos la] at hr
    refine ⟨a,ha,la,?_⟩
    cases ea:(a==docsM ds) with
    | false=>rw [ea,if_neg (by decide)] at hr;exact .inl ⟨rfl,(Option.some.inj hr).symm⟩
    | true=>
      rw [ea,if_pos rfl] at hr
      obtain ⟨b,hb,hr⟩:=Option.bind_eq_some_iff.1 hr
      by_cases lb:b.length≤50000
      · rw [if_pos lb] at hr
        refine .inr ⟨rfl,b,hb,lb,?_⟩
        cases eb:(b==symsM (txt ds)) with
        | false=>rw [eb,if_neg (by decide)] at hr;exact .inl ⟨rfl,(Option.some.inj hr).symm⟩
        | true=>
          rw [eb,if_pos rfl] at hr
          obtain ⟨c,hc,hr⟩:=Option.bind_eq_some_iff.1 hr
          by_cases lc:c.length≤50000
          · rw [if_pos lc] at hr
            refine .inr ⟨rfl,c,hc,lc,?_⟩
            cases ec:(c==marksM rate (txt ds)) with
            | false=>rw [ec,if_neg (by decide)] at hr;exact .inl ⟨rfl,(Option.some.inj hr).symm⟩
            | true=>
              rw [ec,if_pos rfl] at hr
              obtain ⟨d,hd,hr⟩:=Option.bind_eq_some_iff.1 hr
              by_cases ld:d.length≤50000
              · rw [if_pos ld] at hr
                exact .inr ⟨rfl,d,hd,ld,(Option.some.inj hr).symm⟩
              · rw [if_neg ld] at hr;cases hr
          · rw [if_neg lc] at hr;cases hr
      · rw [if_neg lb] at hr;cases hr
  · rw [if_neg la] at hr;cases hr
theorem check_yes (root rate : Int) (ds : Docs) (vl : Value) (r : Bool) (hr : vCheck s root rate ds = some r) (hc : vIs s root = true ∧ 1 ≤ rate ∧ rate ≤ 16) (hn : ds.length ≤ 50000) (h40 : ∀ t, t ∈ txt ds → t.length ≤ 50000) (w : World) (hA : AP w ap s O) (hd : Rd2 w vl ds) :
    Calls Tryz.prog 20 #[ap, .int .i64 root, .int .i64 rate,vl] w fun e w'=>e= .returned (.bool r)∧Below w.heap.size w w':=by
  obtain ⟨hv,hr1,hr2⟩:=hc
  have HR:=Lib.hid hr;have HN:=Lib.hid hn;have H40:=Lib.hid h40;have HV:=Lib.hid hv
  have HD:=Lib.hid hd
  have htl:(txt ds).length=ds.length:=by simp
  have HTL:=Lib.hid htl
  obtain ⟨A,cap,rfl, -⟩:=hd
  have r1:decide (rate<1)=false:=by simp;omega
  have r2:decide (16<rate)=false:=by simp;omega
  have r0:rate≠0:=by omega
  have HRT:=Lib.hid (And.intro hr1 hr2)
  clear hr hn h40 hr1 hr2 htl
  go_enter Tryz.func20,Tryz.ntmps20
  go_wp2_with fail
  refine cg fun V hV_V=> ?_
  have hB:=Below.refl w.heap.size w
  refine nea0 hV_V hA hB ?_;clear hA hB;intro z_V hA hB
  clear hV_V
  refine rC (vOf_calls _ _ hA) fun W1 hb_W1=> ?_
  refine bea0 hb_W1 hA hB ?_;clear hb_W1 hA hB;intro z_W1 hA hB
  unfold Parts.val
  rw [hv]
  have HW1:=hB.size
  go_wp2_with fail
  refine wg fun V1 hV_V1=> ?_
  refine nna0 hV_V1 hA hB ?_;clear hA hB;intro hn_V1 z_V1 hA hB
  obtain ⟨kp,c_kp,o_kp,l_kpV1⟩:=nN hn_V1 hV_V1 (W1.heap.size)
  clear hV_V1 hn_V1
  have HA1:=Lib.hid hA;have HB1:=Lib.hid hB;have KP:=Lib.hid kp;have HD1:=Lib.hid (HD.out.below hB)
  have hz1:=hB.size
  clear hA hB kp c_kp hv
  generalize hkb:W1.heap.size=kb at*
  go_loopg [11,12,38] ds.length (fun k p1 p2 q wr=> ∃i:Nat,q= .int .i64 (i:Int)∧i+k=ds.length∧Hid (DRows wr V1.heap.size p1 p2 (ds.take i))∧Hid (Below V1.heap.size V1 wr))
  case atStart=>exact ⟨0,rfl,by omega,Lib.hid (Ow2.nil _ _ _ _ _ _),Lib.hid (Below.refl _ _)⟩
  case round=>
    obtain ⟨i,rfl,hk,Hrow,HB⟩:=hrel
    have hw1:=HB.out.size
    by_cases hlt:i<ds.length
    · obtain ⟨k,rfl⟩: ∃k,gk=k+1:=⟨gk - 1,by omega⟩
      obtain ⟨d,hdi⟩:=at_some hlt
      obtain ⟨A',cap',hv,h2⟩:=HD1.out.below HB.out
      obtain ⟨ad,rfl,hg,hc⟩:=h2 (by omega)
      obtain ⟨rfl, -,rfl⟩:=Value.slice.inj hv
      obtain ⟨hlb,c1,c2⟩:=hc i d hdi
      have n1:decide ((i:Int)<(ds.length:Int))=true:=by simpa using hlt
      have n2:(i:Int)<(ds.length:Int):=by omega
      have hN:=HN.out
      have E3:=Lib.hid (step_wrap i 50000 (by omega) (by omega))
      have hi5:i≤50000:=by omega
      have htake:Hid (ds.take (i+1)=ds.take i++[d]):=Lib.hid (by rw [List.take_succ_eq_append_getElem hlt,(List.getElem_eq_iff hlt).2 hdi])
      have hil:(ds.take i).length=i:=by rw [List.length_take];omega
      have hR:=Hrow.out
      unfold DRows at hR
      rw [hil] at hR
      have HRow:=Lib.hid hR
      have HL1:=Lib.hid hR.a.lt;have HL2:=Lib.hid hR.b.lt
      have HNE:=Lib.hid hR.ne
      replace c2:wr.cell? ⟨(ad.add (i*2)).block,(ad.add (i*2)).off+1,none⟩=some (.string ⟨d.2.toArray⟩):=c2
      clear h2 hc hv hdi hR Hrow hil hN
      go_wp2_with (
        at_builtin
        first
        | (refine wpList_push2 _ (by rfl) _ _ 46 (by rfl) (V1.heap.size) 9 (.string ⟨#[]⟩) 1 16 Tryz.underlying46 (by kernel_rfl) (by rfl) (by omega) _ _ _ (by rfl) (own_below HRow.out.a (by (repeat' first | with_reducible assumption | with_reducible exact Below.refl _ _ | with_reducible refine Below.alloc ?_ ?_ _ | with_reducible refine Below.setCell ?_ ?_ _ | with_reducible refine below_drewN ?_ _ | with_reducible refine Below.drew ?_ | exact Nat.le_refl _ | ((try dsimp only); omega) | (simp only [siz_alloc, siz_set]; omega)))) _ (by rfl) (by rw [siz_alloc]; rfl) (by simp [Value.oneCell']) (by unfold maxLen; omega) (by omega) (by simp only [siz_alloc, siz_set]; omega) ?_
           intro g_W c_W W3 hown_W hlow_W hlt_W hgr_W hat_W
           have kd:=(hgr_W.block wr.heap.size (by rw [siz_alloc];omega) (fun e=>by have:=HL1.out _ e.symm;omega)).trans (blk_new wr _ _ rfl)
           have HHob:=Lib.hid (own_kept2 HRow.out.b (show Below wr.heap.size wr _ from bel) hgr_W HNE.out)
           have c_kd:=cells_of kd
           have f_kd:=free_of kd
           have l_kd:=lt_of kd
           have hz3:=hgr_W.size
           rw [siz_alloc] at hz3
           have HLow3:=Lib.hid (low_step HB.out (Nat.le_refl _) (Below.trans (bel) hlow_W))
           have Hown:=Lib.hid hown_W
           have Hgr:=Lib.hid hgr_W
           have Hat:=Lib.hid hat_W
           clear hown_W hgr_W hat_W hlow_W)
        | (refine wpList_push2 _ (by rfl) _ _ 92 (by rfl) (V1.heap.size) 90 (.agg #[.int .i64 0, .int .i64 0]) 2 16 Tryz.underlying92 (by kernel_rfl) (by rfl) (by omega) _ _ _ (by rfl) HHob.out _ (by rfl) (by rfl) (by simp [Value.oneCell']) (by unfold maxLen; omega) (by omega) (by omega) ?_
           intro g_X c_X W5 hown_X hlow_X hlt_X hgr_X hat_X
           have Hown2:=Lib.hid hown_X
           have Hgr2:=Lib.hid hgr_X
           have Hat2:=Lib.hid hat_X
           have HLow5:=Lib.hid hlow_X
           clear hown_X hgr_X hat_X hlow_X))
      go_wp2_with fail
      go_roundg k
      case measure=>omega
      case rel=>
        refine ⟨i+1,by first|rfl|(rw [E3.out];rfl),by omega,Lib.hid ?_,Lib.hid (low_step HLow3.out (Nat.le_refl _) HLow5.out)⟩
        have h3:=(HRow.out.below (show Below wr.heap.size wr _ from bel)).push Hown.out Hgr.out Hat.out
        have h5:=(h3.swap.push Hown2.out Hgr2.out Hat2.out).swap
        unfold DRows
        rw [htake.out,docsM_snoc,itemCells_append,List.map_append,List.map_append,List.length_append,List.length_take,Nat.min_eq_left (by omega)]
        exact h5
    · have hi:i=ds.length:=by omega
      have n1:decide ((i:Int)<(ds.length:Int))=false:=by simpa using hlt
      have hrow:=Hrow.out
      rw [hi,List.take_length] at hrow
      have HRW:=Lib.hid hrow
      clear hrow Hrow hk
      go_wp2_with fail
      refine (rowsSorted_calls _ (txt ds) (by rw [HTL.out];exact HN.out) _ (by rw [HTL.out];exact Rk.of_own HRW.out.a)).mono ?_
      rintro e2 W2 ⟨v2,rfl,hrk,hb2⟩
      have HX2:=Lib.hid (below_step HB.out hb2)
      have HRW2:=Lib.hid (Ow2.below HRW.out hb2)
      have hw2:=HX2.out.size
      obtain ⟨R,hR⟩: ∃R,R=refSorted (txt ds):=⟨_,rfl⟩
      rw [←hR] at hrk
      have hsm:R.length≤500:=by rw [hR];exact sorted_small _
      have Hval:Hid (∀x,x∈R→ ∃t,(txt ds)[x.1]? =some t∧x.2≤t.length):=Lib.hid (fun x hx=>sorted_valid (hR▸hx))
      have HRR:=Lib.hid hR
      have HRK:=Lib.hid hrk
      obtain ⟨-,A2,c2,rfl, -⟩:=hrk
      clear hR hb2 HB HRW n1 hi hlt
      go_wp2_with fail
      go_loopg [13,14,60] R.length (fun k p13 p14 q wr=> ∃i:Nat,q= .int .i64 (i:Int)∧i+k=R.length∧Hid (RRows wr W2.heap.size p14 p13 rate ds (R.take i))∧Hid (Below W2.heap.size W2 wr))
      case atStart=>exact ⟨0,rfl,by omega,Lib.hid (Ow2.nil _ _ _ _ _ _),Lib.hid (Below.refl _ _)⟩
      case round=>
        obtain ⟨i,rfl,hk,Hrow,HB⟩:=hrel
        have hwr:=HB.out.size
        by_cases hlt:i<R.length
        · obtain ⟨k,rfl⟩: ∃k,gk=k+1:=⟨gk - 1,by omega⟩
          obtain ⟨x,hx⟩:=at_some hlt
          obtain ⟨t,ht,hxt⟩:=Hval.out x (List.mem_of_getElem? hx)
          obtain ⟨-,A',cap',hv,h2⟩:=HRK.out.below HB.out
          obtain ⟨g1,cs1,T1,rfl,kg1,hcs1⟩:=h2 (by omega)
          obtain ⟨rfl, -,rfl⟩:=Value.slice.inj hv
          have c1a:cs1[i*2]? =some (.int .i64 (x.1:Int)):=(hcs1 _ (by omega)).trans (rowCells_at hx).1
          have c1b:cs1[i*2+1]? =some (.int .i64 (x.2:Int)):=(hcs1 _ (by omega)).trans (rowCells_at hx).2
          clear h2 hv hcs1
          have n1:decide ((i:Int)<(R.length:Int))=true:=by simpa using hlt
          have n2:(i:Int)<(R.length:Int):=by omega
          have E3:=Lib.hid (step_wrap i 500 (by omega) (by omega))
          have htake:Hid (R.take (i+1)=R.take i++[x]):=Lib.hid (by rw [List.take_succ_eq_append_getElem hlt,(List.getElem_eq_iff hlt).2 hx])
          have hil:(R.take i).length=i:=by rw [List.length_take];omega
          have hfl:((R.take i).filter (mkR rate)).length≤500:=by have:=List.length_filter_le (mkR rate) (R.take i);omega
          have hR:=Hrow.out
          unfold RRows at hR
          rw [hil] at hR
          have HRow:=Lib.hid hR
          have HL1:=Lib.hid hR.a.lt;have HL2:=Lib.hid hR.b.lt
          have HNE:=Lib.hid hR.ne
          clear hR Hrow hil
          by_cases hm:(x.2:Int) % rate=0
          · have m1:((x.2:Int) % rate==0)=true:=by rw [hm];rfl
            have hmk:Hid (mkR rate x=true):=Lib.hid (decide_eq_true hm)
            have hdx:x.1<ds.length:=by have:=(List.getElem?_eq_some_iff.1 ht).1;rw [HTL.out] at this;exact this
            obtain ⟨d,hdi⟩:=at_some hdx
            have Hsp:Hid (spR ds x=(d.1,(x.2:Int))):=Lib.hid (by unfold spR;simp [List.getD,hdi])
            have Hdi:=Lib.hid hdi
            have n3:(x.1:Int)<(ds.length:Int):=by omega
            clear hm hdi ht hxt
            have c_kg1:=f3 kg1;have l_kg1wr:=lt_of kg1
            go_wp2_with (
              at_builtin
              (refine wpList_push2 _ (by rfl) _ _ 77 (by rfl) (W2.heap.size) 4 (.bool false) 1 1 Tryz.underlying77 (by kernel_rfl) (by rfl) (by omega) _ _ _ (by rfl) (own_below HRow.out.a (bel)) _ (by rfl) (by rw [siz_alloc];rfl) (by simp [Value.oneCell']) (by unfold maxLen;omega) (by omega) (by simp only [siz_alloc,siz_set];omega) ?_
               intro g_W c_W W3 hown_W hlow_W hlt_W hgr_W hat_W
               have kr:=(hgr_W.block wr.heap.size (by rw [siz_alloc];omega) (fun e=>by have:=HL1.out _ e.symm;omega)).trans (blk_new wr _ _ rfl)
               have h3:=Lib.hid ((HRow.out.below (show Below wr.heap.size wr _ from bel)).push hown_W hgr_W hat_W)
               have HLow3:=Lib.hid (low_step HB.out (Nat.le_refl _) (Below.trans (bel) hlow_W))
               have hz3:=hgr_W.size
               rw [siz_alloc] at hz3
               clear hown_W hgr_W hat_W hlow_W))
            go_wp2_with fail
            refine wp_gen fun V3 hV3=> ?_
            have hb3:Below W3.heap.size W3 V3:=by rw [hV3];(repeat' first|with_reducible assumption|with_reducible exact Below.refl _ _|with_reducible refine Below.alloc ?_ ?_ _|with_reducible refine Below.setCell ?_ ?_ _|with_reducible refine below_drewN ?_ _|with_reducible refine Below.drew ?_|exact Nat.le_refl _|((try dsimp only);omega)|(simp only [siz_alloc,siz_set];omega))
            clear hV3
            have hzv:=hb3.size
            have HX3:=Lib.hid (below_step HX2.out HLow3.out)
            have HX4:=Lib.hid (below_step HX3.out hb3)
            obtain ⟨ad,hvl,hlb,c1d⟩: ∃ad,A=some ad∧(ad.add (x.1*2)).block<W2.heap.size∧V3.cell? (ad.add (x.1*2))=some (.int .i64 d.1):=by
              obtain ⟨A',cap',hv,h2⟩:=HD1.out
              obtain ⟨ad,rfl,hg,hc⟩:=h2 (by omega)
              obtain ⟨rfl, -, -⟩:=Value.slice.inj hv
              obtain ⟨q1,q2, -⟩:=hc x.1 d Hdi.out
              exact ⟨ad,rfl,by omega,(HX4.out.cell (by exact q1)).trans q2⟩
            subst hvl
            replace kr:=keep_blk hb3 kr
            have H3:=Lib.hid (h3.out.below hb3)
            have HLow4:=Lib.hid (low_step HLow3.out (Nat.le_refl _) (hb3.mono (by have:=HLow3.out.size;omega)))
            have hL3:=H3.out.b.lt
            have HLb:=Lib.hid hlb
            clear hb3 c_kg1 kg1
            have c_kr:=f3 kr;have l_krV3:=lt_of kr
            have hadb:V3.heap.size≥W2.heap.size:=by have:=HLow4.out.size;omega
            refine wp_region_noPanic ?_
            refine wp_region_held_drew (S:=fun v=>(v.cell? (ad.add (x.1*2))=some (.int .i64 d.1))∧(∀o,v.cell? ⟨wr.heap.size,o,none⟩=V3.cell? ⟨wr.heap.size,o,none⟩)∧Below W2.heap.size V3 v) (by kernel_rfl) ⟨c1d,fun _=>rfl,(Below.refl _ _).drew⟩ (fun hHeld=> ?_)
            have hB_d:Below V3.heap.size V3 V3.drew:=(Below.refl _ _).drew
            generalize V3.drew=V3d at hHeld hB_d⊢
            refine ta 0 hHeld ?_
            refine ta 1 hHeld ?_
            refine ta 2 hHeld ?_
            refine ta 3 hHeld ?_
            refine ta 4 hHeld ?_
            refine ta 5 hHeld ?_
            refine ta 6 hHeld ?_
            refine ta 7 hHeld ?_
            refine ta 8 hHeld ?_
            refine ta 9 hHeld ?_
            have hown3:=Lib.hid (own_below H3.out.b hB_d)
            have hH3d:=Lib.hid (Ow2.below H3.out hB_d)
            have hlow3d:=Lib.hid hHeld.2.2
            have heq3:=Lib.hid hHeld.2.1
            have hz3d:=hB_d.size
            have hS: ∀v,(∀o,v.cell? ⟨wr.heap.size,o,none⟩=V3.cell? ⟨wr.heap.size,o,none⟩)→Below W2.heap.size V3 v→((v.cell? (ad.add (x.1*2))=some (.int .i64 d.1))∧(∀o,v.cell? ⟨wr.heap.size,o,none⟩=V3.cell? ⟨wr.heap.size,o,none⟩)∧Below W2.heap.size V3 v):=fun v h1 h2=>⟨(h2.cell (by exact hlb)).trans c1d,h1,h2⟩
            have HS:=Lib.hid hS
            clear c1d hS
            refine rd 10 rfl fun K hK=> ?_
            go_simp
            refine ho hK (HS.out _ (fun o=>(((Below.refl V3d.heap.size V3d).alloc (Nat.le_refl _) _).cell (by show wr.heap.size<V3d.heap.size;omega)).trans (heq3.out o)) (hlow3d.out.alloc (by omega) _)) fun hHeld=> ?_
            clear hK K
            refine rd 11 rfl fun K hK=> ?_
            refine step_push2 _ (by rfl) _ _ 92 (by rfl) (W2.heap.size) 90 (.agg #[.int .i64 0, .int .i64 0]) 2 16 Tryz.underlying92 (by kernel_rfl) (by rfl) (by omega) _ _ _ (by rfl) hown3.out _ (by rfl) (by rfl) (by simp [Value.oneCell']) (by unfold maxLen;omega) (by omega) (by omega) ?_
            intro g_X c_X W5 hown_X hlow_X hlt_X hgr_X hat_X
            refine ho hK (HS.out _ (fun o=>(World.cell?_of_block (hgr_X.block wr.heap.size (by omega) (fun e=>by have:=HL2.out _ e.symm;omega))).trans (heq3.out o)) (hlow3d.out.trans hlow_X)) fun hHeld=> ?_
            clear hK K
            refine rd 12 rfl fun K hK=> ?_
            go_simp
            refine ho hK hHeld fun hHeld=> ?_
            clear hK K
            refine wpAnyH_done (by kernel_rfl) ?_ _
            refine NoPanic.normal ?_
            have H5:=Lib.hid (hH3d.out.swap.push hown_X hgr_X hat_X).swap
            have HLow5:=Lib.hid (low_step (low_step HLow4.out (Nat.le_refl _) hlow3d.out) (Nat.le_refl _) hlow_X)
            clear hHeld hown_X hlow_X hgr_X hat_X
            go_wp2_with fail
            go_roundg k
            case measure=>omega
            case rel=>
              refine ⟨i+1,by first|rfl|(rw [E3.out];rfl),by omega,Lib.hid ?_,HLow5⟩
              have h5:=H5.out
              unfold RRows
              have e1:[x].map (spR ds)=[(d.1,(x.2:Int))]:=by rw [List.map_cons,List.map_nil,Hsp.out]
              have e2:[x].map (mkR rate)=[true]:=by rw [List.map_cons,List.map_nil,hmk.out]
              rw [htake.out,List.map_append,e2,List.map_append,List.filter_append,List.filter_cons_of_pos (by rw [hmk.out]),List.filter_nil,List.map_append,e1,itemCells_append,List.length_append,List.length_append,List.length_take,Nat.min_eq_left (by omega)]
              exact h5
          · have m1:((x.2:Int) % rate==0)=false:=by rw [beq_eq_false_iff_ne];exact hm
            have hmk:Hid (mkR rate x=false):=Lib.hid (decide_eq_false hm)
            clear hm
            have c_kg1:=f3 kg1;have l_kg1wr:=lt_of kg1
            go_wp2_with (
              at_builtin
              (refine wpList_push2 _ (by rfl) _ _ 77 (by rfl) (W2.heap.size) 4 (.bool false) 1 1 Tryz.underlying77 (by kernel_rfl) (by rfl) (by omega) _ _ _ (by rfl) (own_below HRow.out.a (bel)) _ (by rfl) (by rw [siz_alloc];rfl) (by simp [Value.oneCell']) (by unfold maxLen;omega) (by omega) (by simp only [siz_alloc,siz_set];omega) ?_
               intro g_W c_W W3 hown_W hlow_W hlt_W hgr_W hat_W))
            go_wp2_with fail
            go_roundg k
            case measure=>omega
            case rel=>
              refine ⟨i+1,by first|rfl|(rw [E3.out];rfl),by omega,Lib.hid ?_,Lib.hid (low_step HB.out (Nat.le_refl _) (Below.trans (bel) hlow_W))⟩
              have h3:=(HRow.out.below (show Below wr.heap.size wr _ from bel)).push hown_W hgr_W hat_W
              unfold RRows
              rw [htake.out,List.map_append,List.map_append,List.filter_append,List.filter_cons_of_neg (by rw [hmk.out];decide),List.filter_nil,List.append_nil,List.length_append,List.length_take,Nat.min_eq_left (by omega),List.map_cons,hmk.out]
              exact h3
        · have hi:i=R.length:=by omega
          have n1:decide ((i:Int)<(R.length:Int))=false:=by simpa using hlt
          have hrow:=Hrow.out
          rw [hi,List.take_length] at hrow
          have HRM:=Lib.hid hrow
          have hBw:=below_step HX2.out HB.out
          have hA:=HA1.out.below hBw
          have kp:=keep_blk hBw KP.out
          have HBW:=Lib.hid (below_step HB1.out hBw)
          have HDW:=Lib.hid (Ow2.below HRW2.out HB.out)
          have hdl:(docsM ds).length=ds.length:=by unfold docsM;simp
          have hHN:=HN.out
          have Rt:Hid (Rk wr 1 u11 (txt ds).length ((txt ds).map strOf)):=Lib.hid (by rw [HTL.out];exact Rk.of_own HDW.out.a)
          clear hrow Hrow hBw HB
          have hB:=Below.refl wr.heap.size wr
          have c_kp:=f3 kp;have l_kpwr:=lt_of kp
          go_wp2_with fail
          refine rC (rowsRight_calls _ (txt ds) (by rw [HTL.out];exact HN.out) _ Rt.out) fun W5 hb_W5=> ?_
          refine bea1 hb_W5 hA hB kp ?_;clear hb_W5 hA hB kp c_kp;intro z_W5 hA hB kp c_kp
          have hr:=HR.out
          cases hrt:refRight (txt ds) with
          | false=>
            have hrf:r=false:=by
              unfold vCheck at hr
              rw [if_pos ⟨HV.out,HRT.out.1,HRT.out.2⟩,hrt,if_neg (by decide)] at hr
              exact (Option.some.inj hr).symm
            subst hrf
            go_wp2_with fail
            go_ret
            exact ⟨rfl,below_step HBW.out hB⟩
          | true=>
            obtain ⟨a,ha,la,hcase⟩:=check_end root rate ds r hr ⟨HV.out,HRT.out.1,HRT.out.2⟩ hrt
            have HC:=Lib.hid hcase
            clear hr hcase hrt
            go_wp2_with fail
            refine (lAll_calls _ a ha la _ hA).mono ?_
            rintro e_W6 W6 ⟨v6,rfl,hown6,hb_W6⟩
            refine bea1 hb_W6 hA hB kp ?_;clear hb_W6 hA hB kp c_kp;intro z_W6 hA hB kp c_kp
            have HX6:=Lib.hid (Rx.of_own hown6)
            have HDB:=Lib.hid ((Rx.of_own HDW.out.b).below hB)
            clear hown6
            go_wp2_with fail
            refine rC (eqItem_calls _ _ a (docsM ds) la (by omega) _ HX6.out (by rw [hdl];exact HDB.out)) fun W7 hb_W7=> ?_
            refine bea1 hb_W7 hA hB kp ?_;clear hb_W7 hA hB kp c_kp;intro z_W7 hA hB kp c_kp
            rcases HC.out with ⟨e,rfl⟩|⟨e,b,hb,lb,hcase⟩
            · rw [e]
              clear e HC
              go_wp2_with fail
              go_ret
              exact ⟨rfl,below_step HBW.out hB⟩
            rw [e]
            have HC2:=Lib.hid hcase
            clear e HC hcase
            go_wp2_with fail
            refine (wAll_calls _ b hb lb _ hA).mono ?_
            rintro e_W8 W8 ⟨v8,rfl,hown8,hb_W8⟩
            refine bea1 hb_W8 hA hB kp ?_;clear hb_W8 hA hB kp c_kp;intro z_W8 hA hB kp c_kp
            have HX8:=Lib.hid (Rx.of_own hown8)
            clear hown8
            go_wp2_with fail
            refine (rowsSymbols_calls _ (txt ds) (by rw [HTL.out];exact HN.out) H40.out _ (Rt.out.below hB)).mono ?_
            rintro e9 W9 ⟨v9,rfl,hown9,hb9⟩
            have HX9:=Lib.hid (HX8.out.below hb9)
            have HY9:=Lib.hid (Rx.of_own hown9)
            replace hA:=hA.below hb9
            replace hB:=below_step hB hb9
            replace kp:=keep_blk hb9 kp
            clear hb9 hown9 c_kp
            have c_kp:=f3 kp;have l_kpW9:=lt_of kp
            have hsy:((refSorted (txt ds)).map (symOf (txt ds))).length≤50000:=by rw [List.length_map];have:=sorted_small (txt ds);omega
            have HY9':Hid (Rx W9 1 v9 ((refSorted (txt ds)).map (symOf (txt ds))).length (((refSorted (txt ds)).map (symOf (txt ds))).map fun x=> .int .i64 x)):=Lib.hid (by rw [List.length_map];exact HY9.out)
            go_wp2_with fail
            refine rC (eqInt_calls _ _ b ((refSorted (txt ds)).map (symOf (txt ds))) lb hsy _ HX9.out HY9'.out) fun W10 hb_W10=> ?_
            refine bea1 hb_W10 hA hB kp ?_;clear hb_W10 hA hB kp c_kp;intro z_W10 hA hB kp c_kp
            rcases HC2.out with ⟨e,rfl⟩|⟨e,c,hcc,lc,hcase⟩
            · unfold symsM at e
              rw [e]
              clear e HC2
              go_wp2_with fail
              go_ret
              exact ⟨rfl,below_step HBW.out hB⟩
            unfold symsM at e
            rw [e]
            have HC3:=Lib.hid hcase
            clear e HC2 hcase
            go_wp2_with fail
            refine (bAll_calls _ c hcc lc _ hA).mono ?_
            rintro e_W11 W11 ⟨v11,rfl,hown11,hb_W11⟩
            refine bea1 hb_W11 hA hB kp ?_;clear hb_W11 hA hB kp c_kp;intro z_W11 hA hB kp c_kp
            have HX11:=Lib.hid (Rx.of_own hown11)
            have HRA:Hid (Rx W11 1 u14 (marksM rate (txt ds)).length ((marksM rate (txt ds)).map fun x=> .bool x)):=Lib.hid (by
              unfold marksM;rw [←HRR.out,List.length_map];exact (Rx.of_own HRM.out.a).below hB)
            have hml:(marksM rate (txt ds)).length≤50000:=by unfold marksM;rw [List.length_map];have:=sorted_small (txt ds);omega
            clear hown11
            go_wp2_with fail
            refine rC (eqBool_calls _ _ c (marksM rate (txt ds)) lc hml _ HX11.out HRA.out) fun W12 hb_W12=> ?_
            refine bea1 hb_W12 hA hB kp ?_;clear hb_W12 hA hB kp c_kp;intro z_W12 hA hB kp c_kp
            rcases HC3.out with ⟨e,rfl⟩|⟨e,d,hdd,ld,hrr⟩
            · rw [e]
              clear e HC3
              go_wp2_with fail
              go_ret
              exact ⟨rfl,below_step HBW.out hB⟩
            rw [e]
            have HC4:=Lib.hid hrr
            clear e HC3 hrr
            go_wp2_with fail
            refine (lAll_calls _ d hdd ld _ hA).mono ?_
            rintro e_W13 W13 ⟨v13,rfl,hown13,hb_W13⟩
            refine bea1 hb_W13 hA hB kp ?_;clear hb_W13 hA hB kp c_kp;intro z_W13 hA hB kp c_kp
            have HX13:=Lib.hid (Rx.of_own hown13)
            have HRB:Hid (Rx W13 2 u13 (spotsM rate ds).length (itemCells (spotsM rate ds))):=Lib.hid (by
              unfold spotsM;rw [←HRR.out,List.length_map];exact (Rx.of_own HRM.out.b).below hB)
            have hsl:(spotsM rate ds).length≤50000:=by unfold spotsM;rw [List.length_map];have h1:=sorted_small (txt ds);have h2:=List.length_filter_le (mkR rate) (refSorted (txt ds));omega
            clear hown13
            go_wp2_with fail
            refine rC (eqItem_calls _ _ d (spotsM rate ds) ld hsl _ HX13.out HRB.out) fun W14 hb_W14=> ?_
            refine bea1 hb_W14 hA hB kp ?_;clear hb_W14 hA hB kp c_kp;intro z_W14 hA hB kp c_kp
            go_wp2_with fail
            go_ret
            exact ⟨congrArg (fun b=>Ending.returned (.bool b)) HC4.out.symm,below_step HBW.out hB⟩
theorem check_calls (root rate : Int) (ds : Docs) (vl : Value) (r : Bool) (hr : vCheck s root rate ds = some r) (hn : ds.length ≤ 50000) (h40 : ∀ t, t ∈ txt ds → t.length ≤ 50000) (w : World) (hA : AP w ap s O) (hd : Rd2 w vl ds) :
    Calls Tryz.prog 20 #[ap, .int .i64 root, .int .i64 rate,vl] w fun e w'=>e= .returned (.bool r)∧Below w.heap.size w w':=by
  by_cases hc:vIs s root=true∧1≤rate∧rate≤16
  · exact check_yes root rate ds vl r hr hc hn h40 w hA hd
  · have : r = false := by
      unfold vCheck at hr
      rw [if_neg hc] at hr
      exact (Option.some.inj hr).symm
    rw [this]
    exact check_no root rate vl hc w hA
end
end
section
open Go.RowKit
attribute [local go_sem ↓] Go.wp_at_zero Go.wp_at_succ
attribute [local go_sem] str_len
theorem rd2_cells {W:World} {g:Nat} {cs:Array Value} {T:TypeId} {ds:Docs} (h:W.heap[g]? =some (.cells cs T (0,0))) (hc:cs=(docCells ds).toArray) (hl:ds.length≤1000):Rd2 W (.slice (some ⟨g,0,none⟩) ds.length ds.length) ds:=by
  subst hc
  have:=docCells_length ds
  exact rd2_own (base:=0) ⟨this, .inr ⟨g,ds.length,_,rfl,Nat.zero_le _,h,Nat.le_refl _,by unfold maxLen;omega,by simpa using this,List.take_of_length_le (by simp [this])⟩⟩
theorem alive_right:Right [(1,[97]),(2,[98,97])]:=⟨by decide+kernel,by decide,by decide⟩
theorem alive14_calls (w:World):Calls Tryz.prog 44 #[] w fun e w'=>e= .returned (.bool true)∧Below w.heap.size w w':=by
  have HR:=Lib.hid alive_right
  have HROW:Hid ((rowsM [(1,[97]),(2,[98,97])]).length=5):=Lib.hid (by rw [rows_tot alive_right];rfl)
  go_enter Tryz.func44,Tryz.ntmps44
  go_wp2_with fail
  refine (new_calls 2000 (by omega) (by omega) _).mono ?_
  rintro e1 W1 ⟨p,O,rfl,hA,hO,hb1⟩
  have HS:=Lib.hid (St.new hb1 hA hO)
  clear hA hO hb1
  go_wp2_with fail
  refine calls_gen fun V2 hV2=> ?_
  have HS2:=Lib.hid (HS.out.box _ hV2)
  have hz2:W1.heap.size<V2.heap.size:=by rw [hV2];simp
  clear hV2
  have kg:=HS2.out.at0
  refine (bldG_calls (ds:=[(1,[97]),(2,[98,97])]) 2000 (by omega) HS2.out 2 (by omega) (by omega) HR.out (by decide) (some ⟨W1.heap.size,0,none⟩) 2 (rd2_cells kg rfl (by decide)) (fun a ha _ O _ _ hL=>by cases ha;exact (hL _ (List.mem_singleton.2 rfl)).2)).mono ?_
  rintro e3 W3 ⟨root,s,rfl,hS,hI,hwt,hsz,hv,hroot⟩
  have hk:([(1,[97]),(2,[98,97])]:Docs)[0]? =some (1,[97]):=rfl
  obtain ⟨r,r1,r2,r3,r4,r5,r6⟩:=newC_in hI hv HR.out hk
  obtain ⟨c1,c2,c3⟩:=newC_T hI (by simp) hv hk
  have hbz:=hv.busy hI hwt
  rw [HROW.out] at hbz
  have hst:StageC (Ct.new s root 1 1 0) [root] [(1,[97]),(2,[98,97])] 0 (1,[97]) 2 5:= .inl ⟨0,by decide,rfl,c1⟩
  have hlf:=hst.left HR.out hk
  obtain ⟨f,f0,f1,f2⟩:=runC HR.out hk (by simp) 5 _ hst (by
    rw [HROW.out]
    show (s.keep root).busyN+5*costR 5≤(s.keep root).size
    rw [c3,c2.size,hsz]
    have:costR 5=115:=rfl
    simp only [List.length_cons,List.length_nil] at hbz
    omega)
  have hck:vCheck (f 5).s (f 5).root 2 [(2,[98,97])]=some true:=by
    rcases f2 with ⟨a,ha,hj,h3⟩|⟨m,hm,hj,h3⟩|⟨-, -,a,b, -⟩
    · have:([97]:List UInt8).length=1:=rfl
      simp only [this] at ha hj
      omega
    · omega
    · exact b.check_own a (HR.out.era 0) (by omega) (by omega)
  have HF:=Lib.hid f1;have HCK:=Lib.hid hck
  have HLF:Hid ((f 0).left=5):=Lib.hid (by rw [f0];exact hlf)
  have hcon:=hS.cut root 2 1 0 _ r r1 r2 r3 (by omega) (by omega) r4 r5
  rw [r6] at hcon
  have hcon2:Hid _:=Lib.hid hcon
  have HF0:=Lib.hid f0
  clear hS hI hwt hsz hv hroot hk r1 r2 r3 r4 r5 r6 c1 c2 c3 hbz hst hlf f0 f1 f2 hck hcon kg HS HS2
  go_wp2_with fail
  refine hcon2.out.mono ?_
  rintro e4 W4 ⟨b,rfl,h4⟩
  have H4:Hid (Sc w W4 (.pointer (some ⟨p,0,none⟩)) b (f 0) _):=Lib.hid (by rw [HF0.out];exact h4)
  clear h4 hcon2 HF0
  go_wp2_with fail
  refine (H4.out.read fun O A cap hT=>cLeft_calls _ hT).mono ?_
  rintro e5 W5 ⟨rfl,h5⟩
  have H5:=Lib.hid h5
  clear h5 H4
  rw [HLF.out]
  go_wp2_with fail
  go_loopg [7,8,9,41,42,43,44,45,46,47,48,49,50,51,52,53,54,55,56,57] 5 (fun m c c8 c9 d41 d42 d43 d44 d45 d46 d47 d48 d49 d50 d51 d52 d53 d54 d55 d56 d57 wr=> ∃k:Nat,c= .int .i64 (k:Int)∧k+m=5∧Hid (Sc w wr (.pointer (some ⟨p,0,none⟩)) b (f k) [(W1.heap.size, .cells #[.int .i64 1, .string ⟨#[97]⟩, .int .i64 2, .string ⟨#[98,97]⟩] 31 (0,0))]))
  case atStart=>exact ⟨0,rfl,by omega,H5⟩
  case round=>
    obtain ⟨k,rfl,hk,H⟩:=hrel
    by_cases hlt:k<5
    · obtain ⟨m,rfl⟩: ∃m,gk=m+1:=⟨gk - 1,by omega⟩
      obtain ⟨hok,hst⟩:=HF.out k hlt
      have n1:decide ((k:Int)<5)=true:=by simp;omega
      have e5:wrap64 ((k:Int)+1)=(k:Int)+1:=IntWalk.wrap64_in _ (by omega)
      have HE5:=Lib.hid e5
      have n3:(((k:Int)==4):Bool)=decide (k+1=5):=by
        by_cases e:k=4
        · subst e;rfl
        · rw [decide_eq_false (by omega),beq_eq_false_iff_ne];omega
      have HOK:=Lib.hid hok;have HST:=Lib.hid hst
      clear hok hst e5 hlt
      go_wp2_with fail
      refine (H.out.act fun O A cap hT hR=>cStep_calls (f k) HOK.out _ HST.out _ hT hR).mono ?_
      rintro e4 W6 ⟨rfl,h4⟩
      have H4:=Lib.hid h4
      clear h4
      dsimp only
      rw [←n3]
      go_wp2_with fail
      have e5:=HE5.out
      go_roundg m
      case measure=>omega
      case rel=>exact ⟨k+1,by first|rfl|(rw [e5];rfl),by omega,H4⟩
    · have n1:decide ((k:Int)<5)=false:=by simp;omega
      obtain rfl:k=5:=by omega
      go_upto_region 13 with fail
      have kg:=H.out.at0
      obtain ⟨c_kg,f_kg,l_kg⟩:=f3 kg
      clear kg
      refine wp_region_noPanic ?_
      refine wp_region_held_drew (S:=fun v=>Below wr.heap.size wr v∧(wr.heap.size≤v.heap.size)∧ ∀b o,b<wr.heap.size→v.cell? ⟨b,o,none⟩=wr.cell? ⟨b,o,none⟩) (by kernel_rfl) (HeldB.start wr) (fun hHeld=> ?_)
      have hB_d:Below wr.heap.size wr wr.drew:=(Below.refl _ _).drew
      generalize wr.drew=wrd at hHeld hB_d⊢
      refine ta 0 hHeld ?_
      refine ta 1 hHeld ?_
      refine ta 3 hHeld ?_
      refine ta 4 hHeld ?_
      refine ta 5 hHeld ?_
      refine wpAnyH_ready (rs:=[2,6]) (by kernel_rfl) (by simp) ?_
      refine ready_at rfl (fun K hK=> ?_) (ready_at rfl (fun K hK=> ?_) AllReadyH.nil)
      clear c_kg f_kg
      go_simp
      obtain ⟨O8,A8,cap8,hT8, -⟩:=(H.out.below hHeld.1).ex
      refine (cRoot_calls _ hT8).mono ?_
      rintro e8 w8 ⟨rfl,rfl⟩
      refine ho hK (hHeld) fun hHeld=> ?_
      clear hK K
      clear hT8
      refine rd 6 rfl fun K hK=> ?_
      go_simp
      refine ho hK (HeldB.alloc hHeld _) fun hHeld=> ?_
      clear hK K
      rotate_left
      clear c_kg f_kg
      go_simp
      refine ho hK (HeldB.alloc hHeld _) fun hHeld=> ?_
      clear hK K
      refine rd 2 rfl fun K hK=> ?_
      go_simp
      obtain ⟨O8,A8,cap8,hT8, -⟩:=(H.out.below hHeld.1).ex
      refine (cRoot_calls _ hT8).mono ?_
      rintro e8 w8 ⟨rfl,rfl⟩
      refine ho hK (hHeld) fun hHeld=> ?_
      clear hK K
      clear hT8
      iterate 2
        (skip
         refine rd 7 rfl fun K hK=> ?_
         go_simp
         obtain ⟨O9,A9,cap9,hT9, -⟩:=(H.out.below hHeld.1).ex
         refine (check_calls (f 5).root 2 [(2,[98,97])] _ true HCK.out (by simp) (by simp) _ hT9.hA (rd2_box (blk_new _ _ _ rfl))).mono ?_
         rintro e9 W9 ⟨rfl,hb9⟩
         refine ho hK (HeldB.call hHeld hb9) fun hHeld=> ?_
         clear hK K
         clear hT9 hb9
         refine rd 8 rfl fun K hK=> ?_
         go_simp
         refine ho hK hHeld fun hHeld=> ?_
         clear hK K
         refine wpAnyH_done (by kernel_rfl) ?_ _
         refine NoPanic.normal ?_
         have HBE:=Lib.hid (below_step H.out.bel hHeld.1)
         go_wp2_with fail
         go_ret
         exact ⟨rfl,HBE.out⟩)
end
section
open Go.RowKit
attribute [local go_sem ↓] Go.wp_at_zero Go.wp_at_succ
attribute [local go_sem] str_len
theorem lessD_take {ds:Docs} {id:Int} {i:Nat} {d:Int×List UInt8} (hd:ds[i]? =some d):lessD (ds.take (i+1)) id=lessD (ds.take i) id++(if d.1=id then [] else [d]):=by
  have hi:=(List.getElem?_eq_some_iff.1 hd).1
  unfold lessD
  rw [List.take_succ_eq_append_getElem hi,List.filter_append,(List.getElem_eq_iff hi).2 hd]
  congr 1
  by_cases e:d.1=id
  · rw [if_pos e,List.filter_cons_of_neg (by simpa using e)];rfl
  · rw [if_neg e,List.filter_cons_of_pos (by simpa using e)];rfl
end
section
open Go.RowKit
section
variable {w0 W : World} {ap : Value} {b : Nat} {x : Ct} {L : List (Nat × Obj)}
theorem Sc.rootE (h:Sc w0 W ap b x L) (v:World) (hv:HeldB W v):Calls Tryz.prog 48 #[.pointer (some ⟨b,0,none⟩)] v fun e w'=>e= .returned (.int .i64 x.root)∧Below v.heap.size v w':=by
  obtain ⟨O,A,cap,hT, -⟩:=(h.below hv.1).ex
  exact (cRoot_calls _ hT).mono fun e w' ⟨h1,h2⟩=>⟨h1,h2▸Below.refl _ _⟩
end
structure Pick (w:World) (A:Option Addr) (cap:Nat) (ds:Docs) (i:Int) (j:Nat) (d:Int×List UInt8):Prop where
  right:Right ds
  tot:tot ds≤60
  len:ds.length≤10
  pos:1≤ds.length
  rows:(rowsM ds).length≤70
  sel:ds[j]? =some d
  d40:d.2.length≤40
  ad: ∃ad,A=some ad
  num:wrap64 (i.tmod (ds.length:Int)+(ds.length:Int))=i.tmod (ds.length:Int)+(ds.length:Int)∧(i.tmod (ds.length:Int)+(ds.length:Int)) % (ds.length:Int)=(j:Int)∧(0:Int)≤i.tmod (ds.length:Int)+(ds.length:Int)∧(j:Int)<(ds.length:Int)∧((ds.length:Int)==0)=false
theorem Pick.cells {w W : World} {ad : Addr} {cap : Nat} {ds : Docs} {i : Int} {j : Nat} {d : Int × List UInt8} (h : Pick w (some ad) cap ds i j d) (hk : Rd2 W (.slice (some ad) ds.length cap) ds) :
    W.cell? (ad.add (j*2))=some (.int .i64 d.1)∧W.cell? ⟨(ad.add (j*2)).block,(ad.add (j*2)).off+1,none⟩=some (.string ⟨d.2.toArray⟩):=by
  obtain ⟨A',c',hv,h2⟩:=hk
  obtain ⟨rfl, -,rfl⟩:=Value.slice.inj hv
  obtain ⟨ad',ha, -,hc⟩:=h2 h.pos
  obtain rfl:=Option.some.inj ha
  exact (hc j d h.sel).2
theorem pick_of {w:World} {A:Option Addr} {cap:Nat} {ds:Docs} (hf:few ds=true) (hid:IdOk ds) (hpos:1≤ds.length) (i:Int) (hk:Rd2 w (.slice A ds.length cap) ds): ∃j d,Hid (Pick w A cap ds i j d):=by
  obtain ⟨hR,htot,hl10⟩:=few_right hf hid
  obtain ⟨t1,t2,j,hj,hjl⟩:=pick_at i ds.length (by omega)
  obtain ⟨d,hd⟩:=at_some hjl
  have h40:d.2.length≤40:=by have:=(right_len hR.right).2 j;rwa [show (txt ds).getD j []=d.2 by rw [List.getD,List.getElem?_map,hd];rfl] at this
  have hrows:=rows_tot hR
  refine ⟨j,d,Lib.hid ⟨hR,htot,hl10,hpos,by omega,hd,h40,?_,IntWalk.wrap64_in _ (by omega),hj,by omega,by omega,by rw [beq_eq_false_iff_ne];omega⟩⟩
  obtain ⟨A',c',hv,h2⟩:=hk
  obtain ⟨rfl, -,rfl⟩:=Value.slice.inj hv
  obtain ⟨ad,rfl, -⟩:=h2 (by omega)
  exact ⟨ad,rfl⟩
theorem Right.txt50 {ds:Docs} (hR:Right ds): ∀t,t∈txt ds→t.length≤50000:=fun t ht=>by
  obtain ⟨i,hi⟩:=List.getElem?_of_mem ht
  have:=(right_len hR.right).2 i
  rw [getD_at hi] at this;omega
theorem lessD_len (ds:Docs) (id:Int):(lessD ds id).length≤ds.length:=List.length_filter_le _ _
theorem Pick.less {w:World} {A:Option Addr} {cap:Nat} {ds:Docs} {i:Int} {j:Nat} {d:Int×List UInt8} (h:Pick w A cap ds i j d):lessD ds d.1=ds.eraseIdx j∧Right (lessD ds d.1)∧(lessD ds d.1).length≤50000∧ ∀t,t∈txt (lessD ds d.1)→t.length≤50000:=by
  have e:=lessD_era h.right h.sel
  have hR:Right (lessD ds d.1):=e▸h.right.era j
  exact ⟨e,hR,by have:=lessD_len ds d.1;have:=h.len;omega,hR.txt50⟩
end
section
open Go.RowKit
attribute [local go_sem ↓] Go.wp_at_zero Go.wp_at_succ
attribute [local go_sem] str_len
theorem without_own (v : Value) (ds : Docs) (id : Int) (hl : ds.length ≤ 50000) (w : World) (h : Rd2 w v ds) :
    Calls Tryz.prog 49 #[v, .int .i64 id] w fun e w'=> ∃A cap,e= .returned (.slice A (lessD ds id).length cap)∧w'.ownsRow w.heap.size 31 2 (.slice A (lessD ds id).length cap) (lessD ds id).length (docCells (lessD ds id))∧Below w.heap.size w w':=by
  have HK:=Lib.hid h
  obtain ⟨A,cap,rfl,h2⟩:=h
  clear h2
  go_enter Tryz.func49,Tryz.ntmps49
  go_wp2_with fail
  go_loopg [5,7,10] ds.length (fun k p z q wr=> ∃i:Nat,q= .int .i64 (i:Int)∧i+k=ds.length∧Hid (wr.ownsRow w.heap.size 31 2 p (lessD (ds.take i) id).length (docCells (lessD (ds.take i) id)))∧Hid (Below w.heap.size w wr))
  case atStart=>exact ⟨0,rfl,by omega,Lib.hid (own_nil _ _ _ _),Lib.hid (Below.refl _ _)⟩
  case round=>
    obtain ⟨i,rfl,hk,Hown,HB⟩:=hrel
    by_cases hlt:i<ds.length
    · obtain ⟨k,rfl⟩: ∃k,gk=k+1:=⟨gk - 1,by omega⟩
      obtain ⟨d,hd⟩:=at_some hlt
      obtain ⟨A',cap',hv,h2⟩:=HK.out.below HB.out
      obtain ⟨ad,rfl,hg,hc⟩:=h2 (by omega)
      obtain ⟨rfl, -,rfl⟩:=Value.slice.inj hv
      obtain ⟨c0,c1,c2⟩:=hc i d hd
      have n1:decide ((i:Int)<(ds.length:Int))=true:=by simpa using hlt
      have n2:(i:Int)<(ds.length:Int):=by omega
      have e3:wrap64 ((i:Int)+1)=(i:Int)+1:=IntWalk.wrap64_in _ (by omega)
      have htake:=Lib.hid (lessD_take (id:=id) hd)
      have hlen:(lessD (ds.take i) id).length≤i:=by
        unfold lessD
        refine Nat.le_trans (List.length_filter_le _ _) ?_
        rw [List.length_take];omega
      have hw0:=HB.out.size
      have E3:=Lib.hid e3
      obtain ⟨m,hm⟩: ∃m,(lessD (ds.take i) id).length=m:=⟨_,rfl⟩
      have hown:=Hown.out
      rw [hm] at hown hlen
      have HM:=Lib.hid hm;have Hown:=Lib.hid hown
      replace c2:wr.cell? ⟨(ad.add (i*2)).block,(ad.add (i*2)).off+1,none⟩=some (.string ⟨d.2.toArray⟩):=c2
      clear h2 hc hv hd hm hown
      by_cases he:d.1=id
      · have d1:(d.1 !=id)=false:=by simp [he]
        rw [if_pos he,List.append_nil] at htake
        clear he
        go_wp2_with fail
        refine handed_gen fun V hV=> ?_
        have hbV:Below wr.heap.size wr V:=by rw [hV];(repeat' first|with_reducible assumption|with_reducible exact Below.refl _ _|with_reducible refine Below.alloc ?_ ?_ _|with_reducible refine Below.setCell ?_ ?_ _|with_reducible refine below_drewN ?_ _|with_reducible refine Below.drew ?_|exact Nat.le_refl _|((try dsimp only);omega)|(simp only [siz_alloc,siz_set];omega))
        have HO:=Lib.hid (own_below Hown.out hbV)
        have HBV:=Lib.hid (below_step HB.out hbV)
        clear hV hbV
        go_roundg k
        case measure=>omega
        case rel=>exact ⟨i+1,by first|rfl|(rw [E3.out];rfl),by omega,Lib.hid (by rw [htake.out,HM.out];exact HO.out),HBV⟩
      · have d1:(d.1 !=id)=true:=by simpa using he
        rw [if_neg he] at htake
        clear he
        go_wp2_with (at_builtin;refine wpList_push _ (by rfl) _ _ 22 (by rfl) (w.heap.size) 31 (.agg #[.int .i64 0, .string ⟨#[]⟩]) 2 24 Tryz.underlying22 (by kernel_rfl) (by rfl) (by omega) _ _ _ (by rfl) (own_below Hown.out (bel)) _ (by rfl) (by first|rfl|(rw [siz_alloc];rfl)|(simp only [siz_alloc,siz_set];rfl)) (by simp [Value.oneCell']) (by unfold maxLen;omega) (by omega) (by simp only [siz_alloc,siz_set];omega) ?_;intro g_W c_W W5 hown_W hlow_W hlt_W)
        go_wp2_with fail
        have HB5:=Lib.hid (low_step HB.out (Nat.le_refl _) (Below.trans (bel) hlow_W))
        go_roundg k
        case measure=>omega
        case rel=>exact ⟨i+1,by first|rfl|(rw [E3.out];rfl),by omega,Lib.hid (by rw [htake.out,List.length_append,HM.out,docCells_append];exact hown_W),HB5⟩
    · have hi:i=ds.length:=by omega
      have n1:decide ((i:Int)<(ds.length:Int))=false:=by simpa using hlt
      have hown:=Hown.out
      rw [hi,List.take_length] at hown
      have HO:=Lib.hid hown
      clear hown Hown
      have hll:(lessD ds id).length≤50000:=Nat.le_trans (List.length_filter_le _ _) hl
      obtain ⟨A5,c5,hv5⟩: ∃A5 c5,u5= .slice A5 (lessD ds id).length c5:=by
        obtain ⟨-,A',cap',hv, -⟩:=Rx.of_own HO.out
        exact ⟨A',cap',hv⟩
      subst hv5
      go_wp2_with fail
      go_ret
      exact ⟨_,_,rfl,HO.out,HB.out⟩
end
section
open Go.RowKit Go.Maps
attribute [local go_sem ↓] Go.wp_at_zero Go.wp_at_succ
variable {ap : Value} {s : Ar} {O : Nat → Prop}
theorem keyed_int:Keyed Tryz.prog 3:=int_keyed Tryz.underlying3
theorem zero_int (w:World):(zeroValue 3).run Tryz.prog w= .ok (.int .i64 0) w:=by kernel_rfl
def Cm (w:World) (b n:Nat) (c:Int→Int):Prop:=
  ∃D:DataW Unit,w.ownsMap Tryz.prog 3 (plainElem Tryz.prog 3) b n D∧IsMap D∧ ∀k:Int,D.atKey (.int .i64 k) (.lit (.int .i64 0))= .lit (.int .i64 (c k))
theorem Cm.made (w:World):Cm (w.alloc (.map #[] 0)) w.heap.size 0 fun _=>0:=⟨.map [],World.ownsMap_made _ _ _ _,isMap_empty,fun _=>rfl⟩
theorem Cm.kept {w w':World} {b n:Nat} {c:Int→Int} {B:Nat} (h:Cm w b n c) (hB:B≤w.heap.size) (hb:Below w.heap.size w w'):Cm w' b n c:=by
  obtain ⟨D,h1,h2,h3⟩:=h
  exact ⟨D,h1.kept (row:=none) ⟨hb.os,hb.tape,hb.output,hb.size,fun i hi _=>hb.block i hi⟩ (by simp),h2,h3⟩
theorem Cm.look {w:World} {b n:Nat} {c:Int→Int} (h:Cm w b n c) (k:Int) (hk:(Lit.int .i64 k).wf=true):(Instr.lookup 136 (.map (some b)) (.int .i64 k) false).run Tryz.prog w= .ok (.int .i64 (c k)) w:=by
  obtain ⟨D,h1, -,h3⟩:=h
  obtain ⟨x,hrun,hat, -⟩:=h1.lookup_int keyed_int Tryz.underlying136 Tryz.underlying3 (zero_int w) (keyOf_int_mk Tryz.underlying3 hk)
  rw [h3] at hat
  cases hat
  exact hrun
def incF (c:Int→Int) (k:Int):Int→Int:=fun x=>if x=k then c k+1 else c x
theorem Cm.upd {w : World} {b n : Nat} {c : Int → Int} (h : Cm w b n c) (hn : n < 1000000) (k : Int) (hk : (Lit.int .i64 k).wf = true) (hc : 0 ≤ c k ∧ c k < 1000000) :
    ∃w',(Instr.mapUpdate 136 (.map (some b)) (.int .i64 k) (.int .i64 (c k+1))).run Tryz.prog w= .ok () w'∧Cm w' b (n+1) (incF c k)∧w.grownBy w' (some b):=by
  obtain ⟨D,h1,h2,h3⟩:=h
  have hw:(Lit.int .i64 (c k+1)).wf=true:=by simp [Lit.wf,IntKind.min,IntKind.max,IntKind.bits,IntKind.signed];omega
  obtain ⟨w',r1,r2,r3⟩:=h1.update keyed_int Tryz.underlying136 (by unfold maxLen;omega) (keyOf_int_mk Tryz.underlying3 hk) (plainElem_int Tryz.underlying3 hw)
  refine ⟨w',r1,⟨_,r2,h2.put _ _,fun x=> ?_⟩,r3⟩
  unfold incF
  by_cases e:x=k
  · subst e;rw [if_pos rfl,atKey_put_same h2 (show WideAt.IsKeyLit (Lit.int .i64 x) from trivial)]
  · rw [if_neg e,atKey_put_other (by intro q;cases q;exact e rfl),h3]
theorem kid_at4 (a b c d:Int) (w:World):((Instr.index 111 (.agg #[.int .i64 a, .int .i64 b, .int .i64 c, .int .i64 d]) (.int .i64 0)).run Tryz.prog w= .ok (.int .i64 a) w)∧((Instr.index 111 (.agg #[.int .i64 a, .int .i64 b, .int .i64 c, .int .i64 d]) (.int .i64 1)).run Tryz.prog w= .ok (.int .i64 b) w)∧((Instr.index 111 (.agg #[.int .i64 a, .int .i64 b, .int .i64 c, .int .i64 d]) (.int .i64 2)).run Tryz.prog w= .ok (.int .i64 c) w)∧((Instr.index 111 (.agg #[.int .i64 a, .int .i64 b, .int .i64 c, .int .i64 d]) (.int .i64 3)).run Tryz.prog w= .ok (.int .i64 d) w):=⟨by kernel_rfl,by kernel_rfl,by kernel_rfl,by kernel_rfl⟩
theorem kid_at (n:Nd) {i:Nat} (hi:i<4) (w:World):(Instr.index 111 (.agg #[.int .i64 n.k0, .int .i64 n.k1, .int .i64 n.k2, .int .i64 n.k3]) (.int .i64 (i:Int))).run Tryz.prog w= .ok (.int .i64 (n.kids.getD i 0)) w:=by
  obtain ⟨h0,h1,h2,h3⟩:=kid_at4 n.k0 n.k1 n.k2 n.k3 w
  have h4:i=0∨i=1∨i=2∨i=3:=by omega
  rcases h4 with rfl|rfl|rfl|rfl
  · exact h0
  · exact h1
  · exact h2
  · exact h3
theorem Cm.mono {w:World} {b n m:Nat} {c:Int→Int} (h:Cm w b n c) (hn:n≤m):Cm w b m c:=by
  obtain ⟨D,h1,h2⟩:=h
  exact ⟨D,h1.mono hn,h2⟩
theorem take_count (l:List Int) (i:Nat) (hi:i<l.length) (x:Int):(l.take (i+1)).count x=(l.take i).count x+(if x=l.getD i 0 then 1 else 0):=by
  rw [List.take_succ_eq_append_getElem hi,List.count_append]
  congr 1
  rw [List.getD_eq_getElem?_getD,List.getElem?_eq_getElem hi,Option.getD_some,List.count_singleton]
  by_cases e:x=l[i]
  · subst e;simp
  · rw [if_neg e,if_neg (by simpa using fun h=>e h.symm)]
theorem refsTo_no {used:Nat→Bool} {node:Nat→Nd} {h:Nat} (hu:used (h+1)=false) (x:Int):refsTo used node x (h+1)=refsTo used node x h:=by
  show refsTo used node x h+(if used (h+1) then (node (h+1)).kids.count x else 0)=_
  rw [hu,if_neg (by decide)];rfl
theorem refsTo_yes {used:Nat→Bool} {node:Nat→Nd} {h:Nat} (hu:used (h+1)=true) (x:Int):refsTo used node x (h+1)=refsTo used node x h+(node (h+1)).kids.count x:=by
  show refsTo used node x h+(if used (h+1) then (node (h+1)).kids.count x else 0)=_
  rw [hu,if_pos rfl]
theorem refsTo_nonneg (used:Nat→Bool) (node:Nat→Nd) (k:Int) (d:Nat) (hd:d≤6000):refsTo used node k d≤24000:=by have:=refsTo_le used node k d;omega
theorem Rx.cells {w:World} {b n cap:Nat} {cs:Array Value} {T:TypeId} {f:Nat×Nat} (h:w.heap[b]? =some (.cells cs T f)) (hn:cs.size=n):Rx w 1 (.slice (some ⟨b,0,none⟩) n cap) n cs.toList:=
  ⟨by simp [hn],_,cap,rfl,fun _=>⟨b,rfl,lt_of h,fun j _=>by rw [cells_of h];simp⟩⟩
def HeldAs (L H:List Int):Prop:= ∀k:Int,k≠0→L.count k=H.count k
theorem counted_calls {H : List Int} (hI : Inv s H) (L : List Int) (hL : HeldAs L H) (hl : L.length ≤ 1000) (v : Value) (w : World) (hA : AP w ap s O) (hv : Rx w 1 v L.length (L.map fun k => .int .i64 k)) :
    Calls Tryz.prog 50 #[ap,v] w fun e w'=>e= .returned (.bool true)∧Below w.heap.size w w':=by
  have hmm:= @run_makeMap Tryz.prog
  have hsz:=hI.wq.small
  have HI:=Lib.hid hI;have HL:=Lib.hid hL;have HA:=Lib.hid hA;have HV:=Lib.hid hv;have Hl:=Lib.hid hl;have HS:=Lib.hid hsz
  obtain ⟨-,A,cap,rfl, -⟩:=hv
  clear hI hL hA hl hsz
  go_enter Tryz.func50,Tryz.ntmps50
  go_wp2_with fail
  refine wp_gen fun V hV=> ?_
  have hBV:Below w.heap.size w V:=by rw [hV];exact below_box _ _
  have hM:Cm V w.heap.size 0 fun _=>0:=by rw [hV];exact Cm.made w
  have HBV:=Lib.hid hBV;have HM0:=Lib.hid hM
  clear hV hBV hM
  go_loopg [6] s.size (fun k c wr=> ∃h:Nat,c= .int .i64 ((h:Int)+1)∧h+k=s.size∧Hid (∃c,Cm wr w.heap.size (4*h) c∧ ∀x,c x=(refsTo s.used s.node x h:Int))∧Hid (Below w.heap.size w wr))
  case atStart=>exact ⟨0,rfl,by omega,Lib.hid ⟨_,HM0.out,fun _=>rfl⟩,HBV⟩
  case round=>
    obtain ⟨h,rfl,hk,HM,HB⟩:=hrel
    have hwr:=HA.out.below HB.out
    by_cases hle:h<s.size
    · obtain ⟨k,rfl⟩: ∃k,gk=k+1:=⟨gk - 1,by omega⟩
      have n1:decide ((h:Int)+1≤(s.size:Int))=true:=by simp;omega
      have e3:wrap64 ((h:Int)+1+1)=(h:Int)+1+1:=IntWalk.wrap64_in _ (by have:=HS.out;omega)
      have HE3:=Lib.hid e3;have Hle:=Lib.hid hle
      clear e3 hle
      go_wp2_with fail
      refine (size_calls _ hwr).mono ?_
      rintro e0 w0 ⟨rfl,rfl⟩
      go_wp2_with fail
      refine (aget_calls _ _ hwr).mono ?_
      rintro e1 W1 ⟨rfl,hb1⟩
      have HB1:=Lib.hid (below_step HB.out hb1)
      obtain ⟨c,hM,hc⟩:=HM.out
      have HM1:=Lib.hid (hM.kept (Nat.zero_le _) hb1)
      have HC:=Lib.hid hc
      clear hM hc HM
      have hnode:s.has ((h:Int)+1)=s.used (h+1):=by
        unfold Ar.has
        rw [show ((h:Int)+1).toNat=h+1 by omega,decide_eq_true (by omega:(1:Int)≤(h:Int)+1),decide_eq_true (by have:=Hle.out;omega:(h:Int)+1≤(s.size:Int)),Bool.true_and,Bool.true_and]
      clear hb1 hwr
      unfold Nd.val
      cases hh:s.has ((h:Int)+1) with
      | false=>
        rw [hh] at hnode
        have HC2:Hid (∀x,c x=(refsTo s.used s.node x (h+1):Int)):=Lib.hid fun x=>by rw [HC.out x,refsTo_no hnode.symm]
        clear hnode HC
        go_wp2_with fail
        have e3:=HE3.out
        go_roundg k
        case measure=>omega
        case rel=>exact ⟨h+1,by first|rfl|(rw [e3];rfl),by omega,Lib.hid ⟨c,(HM1.out.kept (Nat.zero_le _) (below_box _ _)).mono (by omega),HC2.out⟩,Lib.hid (below_step HB1.out (below_box _ _))⟩
      | true=>
        rw [hh] at hnode
        have hnd:=get_nat hh
        rw [show ((h:Int)+1).toNat=h+1 by omega] at hnd
        have hkid: ∀x∈(s.node (h+1)).kids,(Lit.int .i64 x).wf=true:=fun x hx=>by
          have:x=0∨s.has x=true:=by
            by_cases e:x=0
            · exact .inl e
            · exact .inr (HI.out.kid (h+1) (by omega) (by have:=Hle.out;omega) hnode.symm x hx e)
          have hs:=HS.out
          have:0≤x∧x≤6000:=by
            rcases this with e|e
            · omega
            · have:=has_iff.1 e;omega
          simp [Lit.wf,IntKind.min,IntKind.max,IntKind.bits,IntKind.signed];omega
        have HC2:Hid (∀x,(refsTo s.used s.node x (h+1):Int)=c x+(s.node (h+1)).kids.count x):=Lib.hid fun x=>by rw [HC.out x,refsTo_yes hnode.symm];omega
        have HKW:=Lib.hid hkid
        rw [hnd]
        generalize s.node (h+1)=nd at HC2 HKW⊢
        clear hnode hnd hkid hh
        have HC3:Hid (∀x,0≤c x∧c x≤24000):=Lib.hid fun x=>by rw [HC.out x];have:=refsTo_nonneg s.used s.node x h (by have:=HS.out;have:=Hle.out;omega);omega
        clear HC
        go_wp2_with fail
        refine wp_gen fun V1 hV1=> ?_
        have hbv:Below W1.heap.size W1 V1:=by rw [hV1];exact below_box _ _
        have HBV1:=Lib.hid (below_step HB1.out hbv)
        have HMV1:=Lib.hid (HM1.out.kept (Nat.zero_le _) hbv)
        clear hV1 hbv
        go_loopg [31] 4 (fun k2 j wr2=> ∃i:Nat,j= .int .i64 (i:Int)∧i+k2=4∧Hid (∃c2,Cm wr2 w.heap.size (4*h+i) c2∧ ∀x,c2 x=c x+((nd.kids.take i).count x:Int))∧Hid (Below w.heap.size w wr2))
        case atStart=>exact ⟨0,rfl,by omega,Lib.hid ⟨_,HMV1.out,fun x=>by simp⟩,HBV1⟩
        case round=>
          obtain ⟨i,rfl,hk2,HM2,HB2⟩:=hrel
          by_cases hi:i<4
          · obtain ⟨k2,rfl⟩: ∃j,gk=j+1:=⟨gk - 1,by omega⟩
            have n2:decide ((i:Int)<4)=true:=by simp;omega
            obtain ⟨c2,hM2,hc2⟩:=HM2.out
            have hx:=kid_at nd hi wr
            have hmem:nd.kids.getD i 0∈nd.kids:=by rw [List.getD_eq_getElem?_getD,List.getElem?_eq_getElem (by simpa [Nd.kids] using hi)];exact List.getElem_mem _
            have hwf:=HKW.out _ hmem
            have htc:=fun x=>take_count nd.kids i (by simpa [Nd.kids] using hi) x
            generalize nd.kids.getD i 0=y at hx hwf htc
            have hcb:0≤c2 y∧c2 y<1000000:=by rw [hc2 y];have:=HC3.out y;have:=List.count_le_length (a:=y) (l:=nd.kids.take i);rw [List.length_take] at this;omega
            have hlk:=hM2.look y hwf
            obtain ⟨w3,hup,hM3,hg3⟩:=hM2.upd (by have:=HS.out;have:=Hle.out;omega) y hwf hcb
            have e4:wrap64 (c2 y+1)=c2 y+1:=IntWalk.wrap64_in _ (by omega)
            have e5:wrap64 ((i:Int)+1)=(i:Int)+1:=IntWalk.wrap64_in _ (by omega)
            have HM3:Hid (∃c2,Cm w3 w.heap.size (4*h+(i+1)) c2∧ ∀x,c2 x=c x+((nd.kids.take (i+1)).count x:Int)):=Lib.hid ⟨_,hM3,fun x=>by
              unfold incF
              by_cases e:x=y
              · rw [if_pos e,hc2 y,htc x,if_pos e,e];omega
              · rw [if_neg e,hc2 x,htc x,if_neg e];omega⟩
            have HB3:=Lib.hid (HB2.out.grown hg3 HB2.out.size (fun j hj=>by cases hj;exact Nat.le_refl _))
            clear hM2 hc2 HM2 hmem hwf htc hcb hM3 hg3
            go_wp2_with fail
            go_roundg k2
            case measure=>omega
            case rel=>exact ⟨i+1,by first|rfl|(rw [e5];rfl),by omega,HM3,HB3⟩
          · have n2:decide ((i:Int)<4)=false:=by simp;omega
            obtain rfl:i=4:=by omega
            have HM4:Hid (∃c2,Cm wr w.heap.size (4*(h+1)) c2∧ ∀x,c2 x=(refsTo s.used s.node x (h+1):Int)):=Lib.hid (by
              obtain ⟨c2,a,b⟩:=HM2.out
              exact ⟨c2,a,fun x=>by rw [b x,HC2.out x];rfl⟩)
            clear HM2 hk2
            go_wp2_with fail
            have e3:=HE3.out
            go_roundg k
            case measure=>omega
            case rel=>exact ⟨h+1,by first|rfl|(rw [e3];rfl),by omega,HM4,HB2⟩
    · have n1:decide ((h:Int)+1≤(s.size:Int))=false:=by simp;omega
      obtain rfl:h=s.size:=by omega
      have HV1:=Lib.hid (HV.out.below HB.out)
      obtain ⟨c,hM,hc⟩:=HM.out
      have HM1:Hid (∃c,Cm wr w.heap.size (4*s.size) c∧ ∀x,c x=(s.refs x:Int)):=Lib.hid ⟨c,hM,hc⟩
      have HB1:=Lib.hid HB.out
      clear hM hc HM hk HB hwr
      go_wp2_with fail
      refine (size_calls _ (HA.out.below HB1.out)).mono ?_
      rintro e0 w0 ⟨rfl,rfl⟩
      go_wp2_with fail
      refine wp_gen fun V2 hV2=> ?_
      subst hV2
      have HX:=HV1
      obtain ⟨W2,hW2⟩: ∃W2,W2=V2:=⟨_,rfl⟩
      go_loopg [41] L.length (fun k c wr=> ∃i:Nat,c= .int .i64 (i:Int)∧i+k=L.length∧Hid (∃c,Cm wr w.heap.size (4*s.size+i) c∧ ∀x,x≠0→c x=(s.refs x:Int)+((L.take i).count x:Int))∧Hid (Below w.heap.size w wr))
      case atStart=>
        obtain ⟨c,hM,hc⟩:=HM1.out
        exact ⟨0,rfl,by omega,Lib.hid ⟨c,hM,fun x _=>by rw [hc x];simp⟩,HB1⟩
      case round=>
        obtain ⟨i,rfl,hk,HM,HB⟩:=hrel
        by_cases hi:i<L.length
        · obtain ⟨k,rfl⟩: ∃j,gk=j+1:=⟨gk - 1,by omega⟩
          have n1:decide ((i:Int)<(L.length:Int))=true:=by simp;omega
          have n2:(i:Int)<(L.length:Int):=by omega
          have e5:wrap64 ((i:Int)+1)=(i:Int)+1:=IntWalk.wrap64_in _ (by have:=Hl.out;omega)
          have HE5:=Lib.hid e5
          obtain ⟨x,hx⟩: ∃x,L[i]? =some x:=⟨_,List.getElem?_eq_getElem hi⟩
          have hgd:L.getD i 0=x:=by rw [List.getD_eq_getElem?_getD,hx];rfl
          have htc:=fun y=>take_count L i hi y
          rw [hgd] at htc
          obtain ⟨-,A',cap',hv',hcell⟩:=HV.out.below HB.out
          obtain ⟨rfl, -,rfl⟩:=Value.slice.inj hv'
          obtain ⟨g,rfl,hg,hcc⟩:=hcell (by omega)
          have qx:wr.cell? ⟨g,i,none⟩=some (.int .i64 x):=by rw [hcc i (by omega),List.getElem?_map,hx];rfl
          obtain ⟨c,hM,hc⟩:=HM.out
          clear hcc hcell hv' e5 hgd
          by_cases hx0:x=0
          · have n3:(x !=0)=false:=by simpa using hx0
            have HM2:Hid (∃c,Cm wr w.heap.size (4*s.size+(i+1)) c∧ ∀y,y≠0→c y=(s.refs y:Int)+((L.take (i+1)).count y:Int)):=Lib.hid ⟨c,hM.mono (by omega),fun y hy=>by rw [hc y hy,htc y,if_neg (by rw [hx0];exact hy)];omega⟩
            clear hM hc htc hx hx0 HM
            go_wp2_with fail
            have e5:=HE5.out
            go_roundg k
            case measure=>omega
            case rel=>exact ⟨i+1,by first|rfl|(rw [e5];rfl),by omega,HM2,HB⟩
          · have n3:(x !=0)=true:=by simpa using hx0
            have hxL:x∈L:=List.mem_of_getElem? hx
            have hxH:x∈H:=by
              have h1:=HL.out x hx0
              have h2:=List.count_pos_iff.2 hxL
              exact List.count_pos_iff.1 (by omega)
            have hhas:=HI.out.held x hxH hx0
            have hpos:=HI.out.pos hxH hx0
            have hn0:0≤s.cnt x:=by
              obtain ⟨m,e,m1,m2,m3⟩:=Ar.cnt_pos hpos
              rw [←m3,HI.out.cnt m m1 m2 (by have:=(has_iff.1 hhas).2.2;rwa [e,Int.toNat_natCast] at this)]
              exact Int.natCast_nonneg _
            have n4:decide (s.cnt x<1)=false:=by simp;omega
            have hwf:(Lit.int .i64 x).wf=true:=by have:=has_iff.1 hhas;have:=HS.out;simp [Lit.wf,IntKind.min,IntKind.max,IntKind.bits,IntKind.signed];omega
            have hcb:0≤c x∧c x<1000000:=by
              rw [hc x hx0]
              have h1:=HI.out.refs_le x
              have h2:=refsTo_nonneg s.used s.node x s.size HS.out
              have h3:=List.count_le_length (a:=x) (l:=L.take i)
              rw [List.length_take] at h3
              have:=Hl.out
              unfold Ar.refs
              omega
            have hlk:=hM.look x hwf
            obtain ⟨w3,hup,hM3,hg3⟩:=hM.upd (by have:=HS.out;have:=Hl.out;omega) x hwf hcb
            have e4:wrap64 (c x+1)=c x+1:=IntWalk.wrap64_in _ (by omega)
            have HM3:Hid (∃c,Cm w3 w.heap.size (4*s.size+(i+1)) c∧ ∀y,y≠0→c y=(s.refs y:Int)+((L.take (i+1)).count y:Int)):=Lib.hid ⟨_,hM3,fun y hy=>by
              unfold incF
              by_cases e:y=x
              · rw [if_pos e,e,hc x hx0,htc x,if_pos rfl];omega
              · rw [if_neg e,hc y hy,htc y,if_neg e];omega⟩
            have HB3:=Lib.hid (HB.out.grown hg3 HB.out.size (fun j hj=>by cases hj;exact Nat.le_refl _))
            clear hM hc htc hx HM hxL hxH hhas hpos hn0 hwf hcb hM3 hg3 hx0
            go_wp2_with fail
            refine (count_calls x _ (HA.out.below HB3.out)).mono ?_
            rintro e6 w6 ⟨rfl,rfl⟩
            clear hlk hup e4
            go_wp2_with fail
            have e5:=HE5.out
            go_roundg k
            case measure=>omega
            case rel=>exact ⟨i+1,by first|rfl|(rw [e5];rfl),by omega,HM3,HB3⟩
        · have n1:decide ((i:Int)<(L.length:Int))=false:=by simp;omega
          obtain rfl:i=L.length:=by omega
          have HM3:Hid (∃c n,n≤100000∧Cm wr w.heap.size n c∧ ∀y,y≠0→c y=(s.refs y:Int)+(L.count y:Int)):=Lib.hid (by
            obtain ⟨c,a,b⟩:=HM.out
            exact ⟨c,_,by have:=HS.out;have:=Hl.out;omega,a,fun y hy=>by rw [b y hy,List.take_length]⟩)
          have HB3:=Lib.hid HB.out
          clear HM HB hk hi
          go_wp2_with fail
          go_loopg [13] s.size (fun k d wr=> ∃h:Nat,d= .int .i64 ((h:Int)+1)∧h+k=s.size∧Hid (∃c n,n≤100000∧Cm wr w.heap.size n c∧ ∀y,y≠0→c y=(s.refs y:Int)+(L.count y:Int))∧Hid (Below w.heap.size w wr))
          case atStart=>exact ⟨0,rfl,by omega,HM3,HB3⟩
          case round=>
            obtain ⟨h,rfl,hk,HM,HB⟩:=hrel
            have hwr:=HA.out.below HB.out
            by_cases hle:h<s.size
            · obtain ⟨k,rfl⟩: ∃j,gk=j+1:=⟨gk - 1,by omega⟩
              have n1:decide ((h:Int)+1≤(s.size:Int))=true:=by simp;omega
              have e3:wrap64 ((h:Int)+1+1)=(h:Int)+1+1:=IntWalk.wrap64_in _ (by have:=HS.out;omega)
              have HE3:=Lib.hid e3
              have hcnt:s.cnt ((h:Int)+1)=s.count (h+1):=Ar.cnt_nat (n:=h+1) (by omega) (by omega)
              clear e3
              by_cases hc0:0<s.cnt ((h:Int)+1)
              · have hu : s.used (h + 1) = true := by
                  cases hu:s.used (h+1) with
                  | true=>rfl
                  | false=>rw [hcnt,HI.out.wq.free _ hu] at hc0;omega
                obtain ⟨c,n,hn,hM,hc⟩:=HM.out
                have heq:s.cnt ((h:Int)+1)=c ((h:Int)+1):=by
                  rw [hcnt,HI.out.cnt (h+1) (by omega) (by omega) hu,hc _ (by omega),HL.out _ (by omega)]
                  rw [show ((h+1:Nat):Int)=(h:Int)+1 by omega];omega
                have hlk:=hM.look ((h:Int)+1) (by have:=HS.out;simp [Lit.wf,IntKind.min,IntKind.max,IntKind.bits,IntKind.signed];omega)
                have n3:decide (0<s.cnt ((h:Int)+1))=true:=by simpa using hc0
                have n4:(s.cnt ((h:Int)+1) !=c ((h:Int)+1))=false:=by rw [heq];simp
                clear hM hc hcnt heq hc0 hu
                go_wp2_with fail
                refine (size_calls _ hwr).mono ?_
                rintro e0 w0 ⟨rfl,rfl⟩
                go_wp2_with fail
                refine (count_calls _ _ hwr).mono ?_
                rintro e1 w1 ⟨rfl,rfl⟩
                go_wp2_with fail
                have e3:=HE3.out
                go_roundg k
                case measure=>omega
                case rel=>exact ⟨h+1,by first|rfl|(rw [e3];rfl),by omega,HM,HB⟩
              · have n3:decide (0<s.cnt ((h:Int)+1))=false:=by simpa using hc0
                clear hcnt hc0
                go_wp2_with fail
                refine (size_calls _ hwr).mono ?_
                rintro e0 w0 ⟨rfl,rfl⟩
                go_wp2_with fail
                refine (count_calls _ _ hwr).mono ?_
                rintro e1 w1 ⟨rfl,rfl⟩
                go_wp2_with fail
                have e3:=HE3.out
                go_roundg k
                case measure=>omega
                case rel=>exact ⟨h+1,by first|rfl|(rw [e3];rfl),by omega,HM,HB⟩
            · have n1:decide ((h:Int)+1≤(s.size:Int))=false:=by simp;omega
              go_wp2_with fail
              refine (size_calls _ hwr).mono ?_
              rintro e0 w0 ⟨rfl,rfl⟩
              go_wp2_with fail
              go_ret
              exact ⟨rfl,HB.out⟩
end
section
open Go.RowKit
theorem right_snoc {ds:Docs} {d:Int×List UInt8} (hR:Right ds) (hl:ds.length<10) (h1:1≤d.1) (h2:d.1<9223372036854775808) (ht:d.2.length≤40) (hp: ∀y∈ds,y.1≠d.1):Right (ds++[d]):=by
  refine ⟨?_,fun y hy=> ?_,?_⟩
  · have h:=hR.right
    unfold refRight at h⊢
    simp only [Bool.and_eq_true,List.all_eq_true,decide_eq_true_eq] at h⊢
    refine ⟨fun t htm=> ?_,by simp;omega⟩
    rw [txt_snoc] at htm
    rcases List.mem_append.1 htm with h3|h3
    · exact h.1 t h3
    · rw [List.mem_singleton.1 h3];exact ht
  · rcases List.mem_append.1 hy with h3|h3
    · exact hR.id y h3
    · rw [List.mem_singleton.1 h3];exact ⟨h1,h2⟩
  · rw [List.map_append,List.nodup_append]
    refine ⟨hR.nodup,by simp,fun a ha b hb=> ?_⟩
    obtain ⟨y,hy,rfl⟩:=List.mem_map.1 ha
    simp at hb
    rw [hb];exact hp y hy
structure LoopT (s0:Ar) (root:Int) (ds:Docs) (d:Int×List UInt8) (rate:Int) (j:Nat) (x:Pt):Prop where
  st:Stage x [root] ds d rate j
  wt:x.s.wait=[]
  stay:Stay s0 x.s [root]
  src:x.src=root
  size:x.s.size=6000
  busy:8*x.s.busyN≤30000
section
variable {s0 : Ar} {root : Int} {ds : Docs} {d : Int × List UInt8} {rate : Int} {j : Nat} {x : Pt}
theorem LoopT.next (h : LoopT s0 root ds d rate (j + 1) x) (hj : 1 ≤ j) (hv : VR s0 root ds rate) (hRd : Right (ds ++ [d])) (hrows : (rowsM (ds ++ [d])).length ≤ 111) (hrows0 : (rowsM ds).length ≤ 70) (hl : ds.length < 10) (h1 : 1 ≤ rate) :
    PtIn x∧ ∃y u,x.step=some (false,0,y)∧y.s.work 1073741824=some u∧LoopT s0 root ds d rate j {y with s:=u.2}:=by
  obtain ⟨hin,y,u,e1,e2,e3,e4,e5, -,e7, -,e9, -⟩:=stage_step h.st hRd h1 (by simp) (by have:=h.busy;have:=h.size;unfold costR;omega)
  refine ⟨hin,y,u,by rw [e1,decide_eq_false (by omega)],e2,e3,e4,h.stay.trans e9,(e7 hj).trans h.src,e5.trans h.size,?_⟩
  have hz:Sz u.2 6128 root:=by
    obtain ⟨t,ht,hb⟩:=hv.sz
    exact ⟨t,ht.held (h.stay.trans e9) (by simp),by omega⟩
  have hb:=stage_busy (x:={y with s:=u.2}) (B:=6128) e3 hRd e4 (fun _=>by show Sz u.2 6128 y.src;rw [e7 hj,h.src];exact hz) (fun k hk=>by rw [List.mem_singleton.1 hk];exact hz)
  show 8*u.2.busyN≤30000
  replace hb:8*u.2.busyN≤_:=hb
  simp only [List.length_cons,List.length_nil] at hb
  omega
theorem stage_root {H:List Int} (h:Stage x H ds d rate (j+1)):x.root=0:=by
  rcases h with ⟨hj,h⟩|⟨a,hj,ha,h⟩|⟨hj, -⟩
  · exact h.root
  · exact h.root
  · omega
theorem LoopT.stop (h : LoopT s0 root ds d rate (j + 1) x) (hI : Inv s0 [root]) (hw : s0.wait = []) (hv : VR s0 root ds rate) (hR : Right ds) (h1 : 1 ≤ rate) (h2 : rate ≤ 16) :
    ∃u,x.stop.s.work 1073741824=some u∧x.stop.root=0∧u.2.busy=s0.busy∧(root≠0→u.2.cnt root=1)∧vCheck u.2 root rate ds=some true:=by
  obtain ⟨a1,a2, -⟩:=stage_stop h.st (by simp)
  obtain ⟨u,w1,w2,w3, -,w5⟩:=a1.work (by simp) 1073741824
  have hw2:=w5 (by omega)
  have hst:Stay s0 u.2 [root]:=(h.stay.trans ((a2.stay h.st.inv).mono fun k hk _=>Stage.list_mem x [root] (j+1) hk)).trans w3
  have hv2:VR u.2 root ds rate:=hv.move (fun t ht=>ht.held hst (by simp)) (fun e=>w2.pos (by simp) e)
  have hr0:=stage_root h.st
  refine ⟨u,w1,hr0,?_,cnt_one w2 hw2,hv2.check_own w2 hR h1 h2⟩
  rw [w2.busy,hI.busy]
  rw [hI.busy_same hw w2 hw2 hst]
end
end
section
open Go.RowKit
structure LoopB (sc other:Int) (ds0 ds:Docs) (d:Int×List UInt8) (rate:Int) (j:Nat) (x:Pt):Prop where
  st:Stage x [sc,other] ds d rate j
  src:1≤j→x.src=sc
  size:x.s.size=6000
  busy:8*x.s.busyN≤30000
  szs:Sz x.s 6688 sc
  szo:Sz x.s 6688 other
  vr:VR x.s other ds0 rate
section
variable {sc other : Int} {ds0 ds : Docs} {d : Int × List UInt8} {rate : Int} {j : Nat} {x : Pt}
theorem LoopB.next (h : LoopB sc other ds0 ds d rate (j + 1) x) (hRd : Right (ds ++ [d])) (hrows : (rowsM (ds ++ [d])).length ≤ 70) (hl : ds.length < 10) (h1 : 1 ≤ rate) :
    PtIn x∧ ∃y u,x.step=some (decide (j=0),0,y)∧y.s.work 1073741824=some u∧LoopB sc other ds0 ds d rate j {y with s:=u.2}:=by
  obtain ⟨hin,y,u,e1,e2,e3,e4,e5,e6,e7,e8, -,e10⟩:=stage_step h.st hRd h1 (by simp) (by have:=h.busy;have:=h.size;unfold costR;omega)
  have hzs:Sz u.2 6688 sc:=by
    obtain ⟨t,ht,hb⟩:=h.szs
    exact ⟨t,e10 sc t (Stage.list_mem y _ j (by simp)) ht,hb⟩
  have hzo:Sz u.2 6688 other:=by
    obtain ⟨t,ht,hb⟩:=h.szo
    exact ⟨t,e10 other t (Stage.list_mem y _ j (by simp)) ht,hb⟩
  refine ⟨hin,y,u,e1,e2,e3,fun q=>(e7 q).trans (h.src (by omega)),e5.trans h.size,?_,hzs,hzo,h.vr.move (fun t ht=>e10 other t (Stage.list_mem y _ j (by simp)) ht) (fun q=>e8.pos (Stage.list_mem y _ j (by simp)) q)⟩
  have hb:=stage_busy (x:={y with s:=u.2}) (B:=6688) e3 hRd e4 (fun q=>by show Sz u.2 6688 y.src;rw [e7 (by omega),h.src (by omega)];exact hzs) (fun k hk=>by
    rcases List.mem_cons.1 hk with e|hk
    · rw [e];exact hzs
    · rw [List.mem_singleton.1 hk];exact hzo)
  show 8*u.2.busyN≤30000
  replace hb:8*u.2.busyN≤_:=hb
  simp only [List.length_cons,List.length_nil] at hb
  omega
theorem LoopB.done (h : LoopB sc other ds0 ds d rate 0 x) (hR0 : Right ds0) (hRd : Right (ds ++ [d])) (h1 : 1 ≤ rate) (h2 : rate ≤ 16) :
    Inv x.s [other,sc,x.root]∧vCheck x.s x.root rate (ds++[d])=some true∧vCheck x.s other rate ds0=some true:=by
  rcases h.st with ⟨hj, -⟩|⟨a,hj, -⟩|⟨-,a,b,c,e⟩
  · omega
  · omega
  · refine ⟨c.perm ?_,e.check_own c hRd h1 h2,h.vr.check_own c hR0 h1 h2⟩
    exact (List.reverse_perm [x.root,sc,other]).symm
theorem LoopC.back {root : Int} {k : Nat} {x : Ct} (h : LoopC root [root] ds0 k d rate 0 x) (hR : Right ds0) (hk : ds0[k]? = some d) (h1 : 1 ≤ rate) (h2 : rate ≤ 16) (hr : (rowsM ds0).length ≤ 70) (hl : ds0.length ≤ 10) :
    LoopB x.root root ds0 (ds0.eraseIdx k) d rate (d.2.length+3) (Pt.new x.s x.root rate d.1 d.2)∧VR x.s x.root (ds0.eraseIdx k) rate∧Inv x.s [x.root,root]:=by
  obtain ⟨-,b,c, -, -⟩:=h.done hR h1 h2
  have hK:=keep1 (k:=x.root) b (by simp) (fun e=>b.pos (by simp) e)
  have hz1:Sz (x.s.keep x.root) 6688 x.root:=by
    obtain ⟨t,ht,hb⟩:=c.sz
    have h1:(rowsM (ds0.eraseIdx k)).length≤(rowsM ds0).length:=by rw [←rowsM_era hR hk];exact List.length_filter_le _ _
    have h2:=(List.eraseIdx_sublist ds0 k).length_le
    exact ⟨t,ht.grow hK.2.1,by omega⟩
  have hvr:=h.vr (by simp)
  have hz2:Sz (x.s.keep x.root) 6688 root:=by
    obtain ⟨t,ht,hb⟩:=hvr.sz
    exact ⟨t,ht.grow hK.2.1,by omega⟩
  refine ⟨⟨.inl ⟨rfl,hK.1,c.move (fun t ht=>ht.grow hK.2.1) (fun e=>hK.1.pos (by simp) e),rfl,rfl,rfl,rfl,rfl,rfl,rfl,rfl⟩,fun _=>rfl,(Ar.keep_size _ _).trans h.size,by show 8*(x.s.keep x.root).busyN≤30000;rw [hK.2.2.1];exact h.busy,hz1,hz2,hvr.move (fun t ht=>ht.grow hK.2.1) (fun e=>hK.1.pos (by simp) e)⟩,c,b⟩
theorem era_not {k:Nat} (hR:Right ds0) (hk:ds0[k]? =some d): ∀y∈ds0.eraseIdx k,y.1≠d.1:=fun y hy e=>by
  rw [←lessD_era hR hk] at hy
  unfold lessD at hy
  have:=(List.mem_filter.1 hy).2
  simp [e] at this
theorem back_right {k:Nat} (hR:Right ds0) (hk:ds0[k]? =some d) (hl:ds0.length≤10) (h40:d.2.length≤40):Right (ds0.eraseIdx k++[d])∧(ds0.eraseIdx k).length<10:=by
  have hk':=(List.getElem?_eq_some_iff.1 hk).1
  have hlen:(ds0.eraseIdx k).length<10:=by rw [List.length_eraseIdx,if_pos hk'];omega
  have hd:=hR.id d (List.mem_of_getElem? hk)
  exact ⟨right_snoc (hR.era k) hlen hd.1 hd.2 h40 (era_not hR hk),hlen⟩
theorem era_tot: ∀(l:Docs) (k:Nat) (d:Int×List UInt8),l[k]? =some d→tot (l.eraseIdx k++[d])=tot l
  | [],k,d,h=>by simp at h
  | y::l,0,d,h=>by
    obtain rfl:y=d:=by simpa using h
    rw [List.eraseIdx_cons_zero];unfold tot;simp;omega
  | y::l,k+1,d,h=>by
    have ih:=era_tot l k d (by simpa using h)
    rw [List.eraseIdx_cons_succ]
    unfold tot at ih⊢
    simp only [List.cons_append,List.map_cons,List.sum_cons] at ih⊢
    omega
theorem back_rows {k:Nat} (hR:Right ds0) (hk:ds0[k]? =some d) (hl:ds0.length≤10) (h40:d.2.length≤40) (htot:tot ds0≤60):(rowsM (ds0.eraseIdx k++[d])).length≤70:=by
  rw [rows_tot (back_right hR hk hl h40).1,era_tot ds0 k d hk]
  have hk':=(List.getElem?_eq_some_iff.1 hk).1
  rw [List.length_append,List.length_eraseIdx,if_pos hk'];simp;omega
end
end
section
open Go.RowKit Go.Sort
attribute [local go_sem ↓] Go.wp_at_zero Go.wp_at_succ
attribute [local go_sem] lt_s2 lt_s3 lt_s4 str_len
structure PB (w:World) (pb:Nat) (ap:Value) (x:Pt) (O:Nat→Prop):Prop where
  hA:AP w ap x.s O
  blk:w.heap[pb]? =some (.cells #[ap, .int .i64 x.src, .int .i64 x.rate, .int .i64 x.id,strOf x.text, .int .i64 x.p.wave, .int .i64 x.p.marks, .int .i64 x.p.spots, .int .i64 x.p.table, .int .i64 x.pos, .int .i64 x.row, .bool x.begun, .bool x.over, .int .i64 x.root] 125 (0,0))
  no: ¬O pb
def DidP (pb:Nat) (ap:Value) (x':Pt) (O:Nat→Prop) (w w':World):Prop:= ∃O',PB w' pb ap x' O'∧Fr (oneX pb) O O' w w'
theorem didp_gen {tb:Nat} {ap:Value} {x':Pt} {O:Nat→Prop} {w w':World} (h: ∀v,v=w'→DidP tb ap x' O w v):DidP tb ap x' O w w':=h w' rfl
variable {ap : Value} {O : Nat → Prop} {tb : Nat} {x : Pt}
theorem pRoot_calls (w : World) (hT : PB w tb ap x O) :
    Calls Tryz.prog 42 #[.pointer (some ⟨tb,0,none⟩)] w fun e w'=>e= .returned (.int .i64 x.root)∧w=w':=by
  go_enter Tryz.func42,Tryz.ntmps42
  have kt:=hT.blk
  have c_kt:=f3 kt;have l_ktw:=lt_of kt
  go_wp2_with fail
  go_ret
  exact ⟨rfl,rfl⟩
theorem holds_ints {w:World} {g:Nat} {zs:List Int} {T:TypeId} (hk:w.heap[g]? =some (.cells (zs.map (Value.int .i64)).toArray T (0,0))):Go.Sort.Holds (Value.int .i64) w g 0 zs.toArray:=fun j hj=>by
  have hj':j<zs.length:=by simpa using hj
  rw [Nat.zero_add,cells_of hk,free_of hk]
  refine ⟨?_,rfl⟩
  simp [hj']
theorem put_cells {zs ts:List Int} (hl:ts.length=zs.length):(Go.Sort.putCells (Value.int .i64) 0 ts.toArray (zs.map (Value.int .i64)).toArray)=(ts.map (Value.int .i64)).toArray:=by
  apply Array.ext
  · simp [Go.Sort.putCells,hl]
  · intro i h1 h2
    have h3:i<ts.length:=by simpa using h2
    simp [Go.Sort.putCells,h3]
theorem sortInt_calls (g : Nat) (zs : List Int) (T : TypeId) (w : World) (hk : w.heap[g]? = some (.cells (zs.map (Value.int .i64)).toArray T (0, 0))) (hl : zs.length ≤ 100) :
    Calls Tryz.prog 80 #[.slice (some ⟨g,0,none⟩) zs.length zs.length] w fun e w'=>e= .returned (.tuple #[])∧w.grownBy w' (some g)∧w'.heap[g]? =some (.cells ((sortI zs).map (Value.int .i64)).toArray T (0,0)):=by
  have hcon:=Any.slices_Sort_int Tryz.laySortInt g 0 zs.length zs w (holds_ints hk) (lt_of hk) (by omega)
  refine Calls.mono hcon ?_
  rintro e w' ⟨rfl,n,os,rfl⟩
  rw [merge_sortI]
  refine ⟨rfl,grownBy_sortedI _,?_⟩
  rw [heap_sortedI _ hk,put_cells (sortI_perm zs).length_eq]
theorem zero_gives (W:World) (x:Int):FnGives Tryz.prog 96 #[] #[.int .i64 x] (.bool (decide (x=0))) W:=by
  show Calls Tryz.prog 96 #[.int .i64 x] W _
  go_enter Tryz.func96,Tryz.ntmps96
  go_wp2
  go_ret
  exact ⟨rfl,0,rfl⟩
theorem delInt_calls (g : Nat) (zs : List Int) (T : TypeId) (w : World) (hk : w.heap[g]? = some (.cells (zs.map (Value.int .i64)).toArray T (0, 0))) (hl : zs.length ≤ 100) :
    Calls Tryz.prog 95 #[.slice (some ⟨g,0,none⟩) zs.length zs.length, .func (.func 96) #[] #[]] w fun e w'=>e= .returned (.slice (some ⟨g,0,none⟩) (zs.filter fun h=> !decide (h=0)).length zs.length)∧w.grownBy w' (some g)∧
      ∃ys:List Value,ys.length=zs.length∧ys.take (zs.filter fun h=> !decide (h=0)).length=(zs.filter fun h=> !decide (h=0)).map (Value.int .i64)∧w'.heap[g]? =some (.cells ys.toArray T (0,0)):=by
  have eg: ∀args w,(callFunc 96 args).run Tryz.prog w= .ok (.enter 96 args) w:=enters_of Tryz.func96 (by kernel_rfl) rfl
  have hcon:=AnyE.slices_DeleteFunc Tryz.layDelInt (Value.int .i64) (fun _=>rfl) (fun x=>decide (x=0)) 96 #[] eg 0 (fun w=>by kernel_rfl) g 0 zs.length zs.toArray w (fun W x _=>zero_gives W x) (fun n os dk x _=>zero_gives _ x) (holds_ints hk) (by simp;omega) (by simp)
  have hsz:zs.toArray.size=zs.length:=by simp
  have htl:zs.toArray.toList=zs:=rfl
  rw [hsz,htl] at hcon
  refine Calls.mono hcon ?_
  rintro e w' ⟨rfl,q,rfl⟩
  have hfl:=List.length_filter_le (fun x:Int=> !decide (x=0)) zs
  obtain ⟨ts,hts⟩: ∃ts,ts=(zs.filter fun x=> !decide (x=0))++List.replicate (zs.length - (zs.filter fun x=> !decide (x=0)).length) 0:=⟨_,rfl⟩
  have htl:ts.length=zs.length:=by rw [hts];simp;omega
  rw [←hts]
  have hgr:w.grownBy (putRow (Value.int .i64) (Go.Sort.ahead w q) g 0 ts.toArray) (some g):=by
    rw [←grow_nil (putRow _ _ _ _ _)];exact grownBy_sortedI _
  refine ⟨rfl,hgr,ts.map (Value.int .i64),by rw [List.length_map,htl],?_,?_⟩
  · rw [←List.map_take,hts,List.take_left']
    rfl
  · rw [←grow_nil (putRow _ _ _ _ _),heap_sortedI _ hk,put_cells htl]
theorem pHeld_calls (w : World) (hT : PB w tb ap x O) :
    Calls Tryz.prog 43 #[.pointer (some ⟨tb,0,none⟩)] w fun e w'=> ∃v,e= .returned v∧w'.ownsRow w.heap.size 3 1 v x.held.length (x.held.map (Value.int .i64))∧Below w.heap.size w w':=by
  have kt:=hT.blk
  unfold Pt.held
  cases hov:x.over with
  | true=>
    rw [hov] at kt
    go_enter Tryz.func43,Tryz.ntmps43
    have c_kt:=f3 kt;have l_ktw:=lt_of kt
    go_wp2_with fail
    go_ret
    exact ⟨_,rfl,World.ownsRow_nil _ _ _ _,Below.refl _ _⟩
  | false=>
    rw [hov] at kt
    rw [if_neg (by decide)]
    obtain ⟨zs,hzs⟩: ∃zs,[x.src,x.p.wave,x.p.marks,x.p.spots,x.p.table]=zs:=⟨_,rfl⟩
    have HZ:=Lib.hid hzs
    have hz5:zs.length=5:=by rw [←hzs];rfl
    rw [hzs]
    clear hzs
    go_enter Tryz.func43,Tryz.ntmps43
    have c_kt:=f3 kt;have l_ktw:=lt_of kt
    go_wp2_with fail
    refine wg fun V hV_V=> ?_
    have hB:=Below.refl w.heap.size w
    refine neb1 hV_V hB kt ?_;clear hB kt c_kt;intro z_V hB kt c_kt
    clear hV_V
    refine dr (fun v=>Sm v V (tb)∧(V.heap.size≤v.heap.size)∧True) ⟨fun _=>rfl,Nat.le_refl _,trivial⟩ fun Vd hV_Vd hHeld=> ?_
    have v_kt:=c_kt.1
    refine neb1 hV_Vd hB kt ?_;clear hB kt c_kt;intro z_Vd hB kt c_kt
    clear hV_Vd
    refine ta 0 hHeld ?_
    refine ta 1 hHeld ?_
    refine ta 2 hHeld ?_
    refine ta 3 hHeld ?_
    refine ta 4 hHeld ?_
    refine ta 5 hHeld ?_
    refine ta 6 hHeld ?_
    refine ta 7 hHeld ?_
    refine ta 8 hHeld ?_
    refine ta 9 hHeld ?_
    refine ta 10 hHeld ?_
    refine ta 11 hHeld ?_
    refine ta 12 hHeld ?_
    refine ta 13 hHeld ?_
    refine ta 14 hHeld ?_
    refine ta 15 hHeld ?_
    refine ta 16 hHeld ?_
    refine ta 17 hHeld ?_
    refine ta 18 hHeld ?_
    refine ta 19 hHeld ?_
    refine ta 20 hHeld ?_
    refine ta 21 hHeld ?_
    refine ta 22 hHeld ?_
    refine ta 23 hHeld ?_
    refine rd 24 rfl fun K hK=> ?_
    go_simp
    refine gen_app (K:=K) (fun D hV_D=> ?_)
    refine neb1 hV_D hB kt ?_;clear hB kt c_kt;intro z_D hB kt c_kt
    obtain ⟨kn,c_kn,l_knD⟩:=nM hV_D (Vd.heap.size)
    clear hV_D
    refine ho hK (⟨vv c_kt v_kt,by omega,trivial⟩) fun hHeld=> ?_
    clear hK K
    refine rd 25 rfl fun K hK=> ?_
    go_simp
    refine ho hK hHeld fun hHeld=> ?_
    clear hK K
    refine wd ?_
    have hgw:w.heap.size≤Vd.heap.size:=by omega
    have kz:D.heap[Vd.heap.size]? =some (.cells (zs.map (Value.int .i64)).toArray 3 (0,0)):=by rw [kn,←HZ.out];rfl
    have hc1:=sortInt_calls Vd.heap.size zs 3 D kz (by omega)
    rw [hz5] at hc1
    clear kt kn c_kt c_kn v_kt hHeld kz
    generalize Vd.heap.size=g at hc1 hgw⊢
    go_wp2_with fail
    refine hc1.mono ?_
    rintro e1 W1 ⟨rfl,hg1,hk1⟩
    have hs5:(sortI zs).length=5:=by rw [(sortI_perm zs).length_eq,hz5]
    have hc2:=delInt_calls g (sortI zs) 3 W1 hk1 (by omega)
    rw [hs5] at hc2
    have hB1:=hB.grown hg1 hB.size (fun j hj=>by cases hj;exact hgw)
    have HB1:=Lib.hid hB1
    clear hc1 hg1 hk1 hB hB1
    go_wp2_with fail
    refine hc2.mono ?_
    rintro e2 W2 ⟨rfl,hg2,ys,hy1,hy2,hk2⟩
    have HB2:=Lib.hid (HB1.out.grown hg2 HB1.out.size (fun j hj=>by cases hj;exact hgw))
    have hfl:=List.length_filter_le (fun h:Int=> !decide (h=0)) (sortI zs)
    clear hc2 hg2
    go_wp2_with fail
    go_ret
    refine ⟨_,rfl,⟨by simp, .inr ⟨g,5,ys.toArray,rfl,hgw,hk2,by omega,by unfold maxLen;omega,by simp [hy1],by rw [Nat.mul_one,←hy2]⟩⟩,HB2.out⟩
end
section
open Go.RowKit Go.Sort
attribute [local go_sem ↓] Go.wp_at_zero Go.wp_at_succ
attribute [local go_sem] lt_s2 lt_s3 lt_s4 str_len
variable {s : Ar} {O : Nat → Prop}
theorem symText_calls (t:List UInt8) (w:World):Calls Tryz.prog 90 #[strOf t] w fun e w'=>e= .returned (.bool (decide (t.length≤40)))∧w=w':=by
  go_enter Tryz.func90,Tryz.ntmps90
  go_wp2_with fail
  go_ret
  refine ⟨ret_bool ?_,rfl⟩
  simp only [Int.ofNat_le,decide_eq_decide]
  omega
theorem pNew_yes (p : Addr) (root rate id : Int) (t : List UInt8) (l : List (Int × Int)) (hl : lAll s (vOf s root).table = some l) (hll : l.length ≤ 50000)
    (hvi:vIs s root=true) (h1:1≤rate) (h2:rate≤16) (h3:1≤id) (hpl:(placeIn id l 0).2=false) (h4:t.length≤40) (h10:vDocs s root<10) (w:World) (hA:AP w (.pointer (some p)) s O):
    Calls Tryz.prog 40 #[.pointer (some p), .int .i64 root, .int .i64 rate, .int .i64 id,strOf t] w fun e w'=> ∃b O',e= .returned (.tuple #[.pointer (some ⟨b,0,none⟩), .int .i64 0])∧w.heap.size≤b∧PB w' b (.pointer (some p)) (Pt.new s root rate id t) O'∧Fr noX O O' w w':=by
  have Hl:=Lib.hid hl;have Hll:=Lib.hid hll
  have d1:decide (rate<1)=false:=by simp;omega
  have d2:decide (16<rate)=false:=by simp;omega
  have d3:decide (id<1)=false:=by simp;omega
  have d4:decide (t.length≤40)=true:=by simpa using h4
  have d5:decide (10≤vDocs s root)=false:=by simp;omega
  clear hl hll h1 h2 h3 h4 h10
  go_enter Tryz.func40,Tryz.ntmps40
  go_wp2_with fail
  refine cg fun V hV_V=> ?_
  have hF:=Fr.refl (noX) O w
  refine nef0 hV_V hA hF ?_;clear hA hF;intro z_V hA hF
  clear hV_V
  refine rC (vOf_calls root _ hA) fun W1 hb_W1=> ?_
  refine bef0 hb_W1 hA hF ?_;clear hb_W1 hA hF;intro z_W1 hA hF
  unfold Parts.val
  rw [hvi]
  go_wp2_with fail
  refine calls_gen fun V2 hV_V2=> ?_
  refine nnf0 hV_V2 hA hF ?_;clear hA hF;intro hn_V2 z_V2 hA hF
  obtain ⟨kp,c_kp,o_kp,l_kpV2⟩:=nN hn_V2 hV_V2 (W1.heap.size)
  clear hV_V2 hn_V2
  refine rC (tPlace_calls _ id l Hl.out Hll.out _ hA) fun W3 hb_W3=> ?_
  refine bef1 hb_W3 hA hF kp ?_;clear hb_W3 hA hF kp c_kp;intro z_W3 hA hF kp c_kp
  rw [hpl]
  go_wp2_with fail
  refine (symText_calls t _).mono ?_
  rintro e4 w4 ⟨rfl,rfl⟩
  rw [d4]
  go_wp2_with fail
  refine cg fun V4 hV_V4=> ?_
  refine nef1 hV_V4 hA hF kp ?_;clear hA hF kp c_kp;intro z_V4 hA hF kp c_kp
  clear hV_V4
  refine rC (vDocs_calls root _ hA) fun W5 hb_W5=> ?_
  refine bef1 hb_W5 hA hF kp ?_;clear hb_W5 hA hF kp c_kp;intro z_W5 hA hF kp c_kp
  go_wp2_with fail
  refine cg fun V6 hV_V6=> ?_
  refine nef0 hV_V6 hA hF ?_;clear hA hF c_kp kp;intro z_V6 hA hF
  clear hV_V6
  refine wC (keep_calls _ _ hA) fun W7 O1 hA_W7 hf_W7=> ?_
  refine wif0 hf_W7 hF ?_;clear hA hF hf_W7;intro z_W7 hF;have hA:=hA_W7;clear hA_W7
  unfold strOf
  go_wp2_with fail
  go_ret2
  refine ⟨W7.heap.size,O1,rfl,by have:=hF.size;omega,?_,hF.alloc _⟩
  exact ⟨hA.alloc _,blk_new _ _ _ rfl,hA.new (Nat.le_refl _)⟩
end
section
open Go.RowKit Go.Sort
attribute [local go_sem ↓] Go.wp_at_zero Go.wp_at_succ
attribute [local go_sem] lt_s2 lt_s3 lt_s4 str_len
variable {ap : Value} {O : Nat → Prop} {tb : Nat}
theorem pSwap_calls (x : Pt) (i : Nat) (hi : i < 4) (r : Int × Int × Ar) (w : World) (hT : PB w tb ap { x with s := r.2.2 } O) :
    Calls Tryz.prog 136 #[.pointer (some ⟨tb,0,none⟩), .pointer (some ⟨tb,5+i,none⟩), .int .i64 r.1, .int .i64 r.2.1] w fun e w'=>e= .returned (.int .i64 (x.swap i r).1)∧DidP tb ap (x.swap i r).2 O w w':=by
  obtain ⟨h,e,s⟩:=r
  dsimp only at hT⊢
  by_cases he:e=0
  · subst he
    have E1:Hid (x.swap i (h,0,s)=(0,{x with s:=s.drop (x.p.at i),p:=x.p.put i h})):=Lib.hid (by unfold Pt.swap;rw [if_pos rfl])
    rw [E1.out]
    have h4:i=0∨i=1∨i=2∨i=3:=by omega
    clear hi E1
    rcases h4 with rfl|rfl|rfl|rfl<;>
    (skip
     go_enter Tryz.func136,Tryz.ntmps136
     have hA:=hT.hA
     have kt:=hT.blk
     have o_kt:=hT.no
     have c_kt:=f3 kt;have l_ktw:=lt_of kt
     go_wp2_with fail
     refine wg fun V hV_V=> ?_
     have hF:=Fr.refl ((oneX tb)) O w
     refine nef1 hV_V hA hF kt ?_;clear hA hF kt c_kt;intro z_V hA hF kt c_kt
     clear hV_V
     refine dr (fun v=>Sm v V (tb)∧(V.heap.size≤v.heap.size)∧True) ⟨fun _=>rfl,Nat.le_refl _,trivial⟩ fun Vd hV_Vd hHeld=> ?_
     have v_kt:=c_kt.1
     refine nef1 hV_Vd hA hF kt ?_;clear hA hF kt c_kt;intro z_Vd hA hF kt c_kt
     clear hV_Vd
     refine ta 0 hHeld ?_
     refine ta 1 hHeld ?_
     refine ta 2 hHeld ?_
     refine ta 3 hHeld ?_
     refine ta 4 hHeld ?_
     refine ta 5 hHeld ?_
     refine ta 6 hHeld ?_
     refine rd 7 rfl fun K hK=> ?_
     go_simp
     try simp only [IntWalk.i64_left]
     refine wC (drop_calls _ _ hA) fun W O1 hA_W hf_W=> ?_
     refine wif1 hf_W hF kt o_kt ?_;clear hA hF kt o_kt c_kt hf_W;intro z_W hF kt c_kt o_kt;have hA:=hA_W;clear hA_W
     refine ho hK ⟨vv c_kt v_kt,by omega,trivial⟩ fun hHeld=> ?_
     clear hK K
     refine wd ?_
     go_wp2_with fail
     go_ret
     refine ⟨rfl,?_⟩
     refine didp_gen (fun V2 hV_V2=> ?_)
     refine nef1 hV_V2 hA hF kt ?_;clear hA hF kt c_kt;intro z_V2 hA hF kt c_kt
     clear hV_V2
     exact ⟨_,⟨hA,kt,o_kt⟩,hF⟩
     done)
  · have d1:(e==0)=false:=by simpa using he
    have E1:Hid (x.swap i (h,e,s)=(e,{x with s:=s})):=Lib.hid (by unfold Pt.swap;rw [if_neg he])
    rw [E1.out]
    clear he
    go_enter Tryz.func136,Tryz.ntmps136
    have hA:=hT.hA
    have kt:=hT.blk
    have o_kt:=hT.no
    have c_kt:=f3 kt;have l_ktw:=lt_of kt
    go_wp2_with fail
    go_ret
    exact ⟨rfl,O,⟨hA,kt,o_kt⟩,Fr.refl _ _ _⟩
def Pt.drops (x:Pt) (l:List Int):Pt:={x with s:=x.s.dropAll l}
theorem pStop_calls (x : Pt) (w : World) (hT : PB w tb ap x O) :
    Calls Tryz.prog 94 #[.pointer (some ⟨tb,0,none⟩)] w fun e w'=>e= .returned (.tuple #[])∧DidP tb ap x.stop O w w':=by
  obtain ⟨l,hl⟩: ∃l,x.held=l:=⟨_,rfl⟩
  have hl5:l.length≤5:=by
    rw [←hl];unfold Pt.held
    split
    · simp
    · refine Nat.le_trans (List.length_filter_le _ _) ?_
      rw [(sortI_perm _).length_eq];simp
  have Hst:Hid (x.stop={x with s:=x.s.dropAll l,over:=true,p:=Parts.zero}):=Lib.hid (by unfold Pt.stop;rw [hl])
  go_enter Tryz.func94,Tryz.ntmps94
  go_wp2_with fail
  refine (pHeld_calls _ hT).mono ?_
  rintro e0 W0 ⟨v,rfl,hown,hb0⟩
  rw [hl] at hown
  have hF0:Fr (oneX tb) O O w W0:=(Fr.refl _ _ _).below hb0
  have hT0:PB W0 tb ap x O:=⟨hT.hA.below hb0,keep_blk hb0 hT.blk,hT.no⟩
  have HT0:=Lib.hid hT0;have HF0:=Lib.hid hF0
  have hrow:(v= .slice none 0 0∧l=[])∨ ∃g cap cs,v= .slice (some ⟨g,0,none⟩) l.length cap∧W0.heap[g]? =some (.cells cs 3 (0,0))∧(∀j (h:j<l.length),cs[j]? =some (.int .i64 l[j]))∧ ¬O g∧g≠tb:=by
    rcases hown.2 with ⟨h1,h2⟩|⟨g,cap,cur,h1,h2,h3,h4,h5,h6,h7⟩
    · exact .inl ⟨h1,List.length_eq_zero_iff.1 h2⟩
    · refine .inr ⟨g,cap,cur,h1,h3,fun j hj=> ?_,fun hO=> ?_,fun e=> ?_⟩
      · have:=congrArg (fun l=>l[j]?) h7
        simp only [Nat.mul_one,List.getElem?_take_of_lt hj,List.getElem?_map,List.getElem?_eq_getElem hj,Option.map_some] at this
        rw [←this];simp
      · have:=hT.hA.lt hO;omega
      · have:=lt_of hT.blk;omega
  clear hT hown hb0 hT0 hF0 hl
  rcases hrow with ⟨rfl,rfl⟩|⟨g,cap,cs,rfl,hcs,hcell,hov,hne⟩
  · have kt:=HT0.out.blk
    have c_kt:=f3 kt;have l_ktW0:=lt_of kt
    go_wp2_with fail
    go_loopw [7] (fun c wr=>c= .int .i64 0∧wr=W0) (fun _ _=>0)
    case atStart=>exact ⟨rfl,rfl⟩
    case round=>
      obtain ⟨rfl,rfl⟩:=hrel
      go_wp2_with fail
      go_end0
      rw [Hst.out]
      refine ⟨rfl,?_⟩
      have hA:=HT0.out.hA
      have o_kt:=HT0.out.no
      have hF:=HF0.out
      refine didp_gen (fun V2 hV_V2=> ?_)
      refine nef1 hV_V2 hA hF kt ?_;clear hA hF kt c_kt;intro z_V2 hA hF kt c_kt
      clear hV_V2
      exact ⟨_,⟨hA,kt,o_kt⟩,hF⟩
  · have kt:=HT0.out.blk
    have c_kt:=f3 kt;have l_ktW0:=lt_of kt
    have Hcell:=Lib.hid hcell
    clear hcell
    go_wp2_with fail
    go_loopw [7] (fun c wr=> ∃i:Nat,i≤l.length∧c= .int .i64 i∧wr.heap[g]? =some (.cells cs 3 (0,0))∧ ∃O',PB wr tb ap (x.drops (l.take i)) O'∧Fr (oneX tb) O O' w wr∧ ¬O' g) (fun c _=>l.length - (intOf c).toNat)
    case atStart=>exact ⟨0,Nat.zero_le _,rfl,hcs,O,HT0.out,HF0.out,hov⟩
    case round=>
      obtain ⟨i,hi,rfl,hcs',O',hT',hF',hov'⟩:=hrel
      clear kt c_kt
      by_cases hlt:i<l.length
      · have d1:decide (i<l.length)=true:=by simpa using hlt
        have cb:=cells_of hcs'
        have ci:wr.cell? ⟨g,i,none⟩=some (.int .i64 l[i]):=by rw [cb];exact Hcell.out i hlt
        have kt:=hT'.blk
        have HT:=Lib.hid hT';have HF:=Lib.hid hF'
        have HD:Hid ((x.drops (l.take (i+1))).s=((x.drops (l.take i)).s).drop l[i]):=Lib.hid (drop_take x.s l i hlt)
        clear hT' hF' cb
        have c_kt:=f3 kt;have l_ktwr:=lt_of kt
        go_wp2_with fail
        refine (drop_calls _ _ HT.out.hA).mono ?_
        rintro e w1 ⟨rfl,O1,hA1,hf1⟩
        clear kt c_kt
        go_wp2_with fail
        go_roundw
        case rel=>
          refine ⟨i+1,by omega,by go_num,hf1.keep hcs' hov' (fun h=>h),O1,⟨?_,hf1.keep HT.out.blk HT.out.no (fun h=>h),hf1.not_own (lt_of HT.out.blk) HT.out.no⟩,HF.out.trans hf1.widen,hf1.not_own (lt_of hcs') hov'⟩
          rw [HD.out];exact hA1
        case measure=>simp [intOf];omega
      · have d1:decide (i<l.length)=false:=by simpa using hlt
        obtain rfl:i=l.length:=by omega
        rw [List.take_length] at hT'
        have kt:=hT'.blk
        have hA:AP wr ap (x.s.dropAll l) O':=hT'.hA
        have o_kt:=hT'.no
        have hF:=hF'
        have c_kt:=f3 kt;have l_ktwr:=lt_of kt
        go_wp2_with fail
        go_end0
        rw [Hst.out]
        refine ⟨rfl,?_⟩
        refine didp_gen (fun V3 hV_V3=> ?_)
        replace kt:=kK hV_V3 kt
        exact ⟨O',⟨(nA hV_V3:AP V3 ap (x.s.dropAll l) O'),kt,o_kt⟩,nF hV_V3⟩
end
end Go.Proofs.YtlboaaldggpjeaaGreat

/- Part 1 of what PutSide needs: the walks of the program's functions, and plain facts. -/
import Derived.Test.YtjeofpkhgmefgaaGreatCoreM8
set_option linter.unusedSimpArgs false
set_option linter.unusedVariables false
set_option linter.unnecessarySimpa false
namespace Go.Proofs.YtjeofpkhgmefgaaGreat
open Go.RowKit
section
variable {ap : Value} {s : Ar} {X O O' O0 : Nat → Prop} {W0 : World} {B0 : Nat}
theorem Rd.at_ {w:World} {A:Option Addr} {n:Nat} {xs:List Value} (h:Rd w A n xs) {k:Nat} (hk:k<n): ∃ad,A=some ad∧ ∀u,xs[k]? =some u→w.cell? (ad.add k)=some u:=by
  obtain ⟨ad,e,_,hc⟩:=h.2 (by omega)
  exact ⟨ad,e,fun u hu=>hc k u hu⟩
theorem read_bools {H : Type} {enc : TypeId × Value → H} {P : Program} {w : World} {held : Bool} {t e : TypeId} {A : Option Addr} {len cap : Nat} {d : DataW H} {p : List MemPlace} (ht : P.underlying t = some (.slice e)) (he : P.underlying e = some .bool) (hc : P.cellsOf e = 1)
    (h:DataW.Trod enc P w 0 (fun _=>true) held t (.slice A len cap) d p): ∃l:List Bool,l.length=len∧Rd w A len (l.map .bool):=by
  obtain ⟨m,hm⟩:=h
  have hlt:=DataW.trod_lt m _ _ _ hm
  simp only [Value.cells] at hm
  rcases Deep.open_bools ht he hc hm with ⟨h1,_⟩|⟨a,l',c',B,h1,_,hl,_,hx,hcell⟩
  · simp only [List.cons.injEq,Value.slice.injEq,and_true] at h1
    obtain ⟨rfl,rfl,rfl⟩:=h1
    exact ⟨[],rfl,rfl,fun h=>absurd h (by omega)⟩
  · simp only [List.cons.injEq,Value.slice.injEq,and_true] at h1
    obtain ⟨rfl,rfl,rfl⟩:=h1
    refine ⟨(List.range len).map B,by simp,by simp,fun hn=>⟨a,rfl,?_,fun j u hu=> ?_⟩⟩
    · simp only [Prod.mk.injEq] at hx
      exact hlt (.cell a.block a.off) (by rw [hx.2];exact MemPlace.mem_row.2 ⟨0,by omega,by simp⟩)
    · simp only [List.map_map,List.getElem?_map,Option.map_eq_some_iff] at hu
      obtain ⟨i,hi,rfl⟩:=hu
      obtain ⟨h2,h3⟩:=List.getElem?_eq_some_iff.1 hi
      simp at h2 h3
      subst h3
      exact hcell j (by omega)
end
def ptObj (ap:Value) (x:Pt):Obj:= .cells #[ap, .int .i64 x.src, .int .i64 x.rate, .int .i64 x.id,strOf x.text, .int .i64 x.p.wave, .int .i64 x.p.marks, .int .i64 x.p.spots, .int .i64 x.p.table, .int .i64 x.pos, .int .i64 x.row, .bool x.begun, .bool x.over, .int .i64 x.root] 114 (0,0)
section
variable {w0 W : World} {ap : Value} {b c : Nat} {x y : Pt}
theorem Sp.flip (h:Sp w0 W ap b x [(c,ptObj ap y)]) (hc:w0.heap.size≤c):Sp w0 W ap c {y with s:=x.s} [(b,ptObj ap x)]:=by
  obtain ⟨O,hA,hO,hL⟩:=h.ex
  obtain ⟨h1,h2,h3⟩:=hL (c,ptObj ap y) (by simp)
  refine ⟨⟨O,⟨hA.hA,h1,h2⟩,hO,fun z hz=> ?_⟩,h.bel,hc⟩
  rw [List.mem_singleton.1 hz]
  exact ⟨hA.blk,hA.no,fun e=>h3 e.symm⟩
theorem Sp.stx (h:Sp w0 W ap b x []):St w0 W ap x.s [(b,ptObj ap x)]:=by
  obtain ⟨O,hA,hO,hL⟩:=h.ex
  refine ⟨⟨O,hA.hA,hO,fun z hz=> ?_⟩,h.bel⟩
  rw [List.mem_singleton.1 hz]
  exact ⟨hA.blk,hA.no⟩
variable {f : FuncId} {args : Array Value} {r : Ending} {P : Program}
theorem Sp.same2 (h:Sp w0 W ap b x [(c,ptObj ap y)]) (hc:w0.heap.size≤c) (hs: ∀O,PB W c ap {y with s:=x.s} O→Calls P f args W fun e w'=>e=r∧W=w'):Calls P f args W fun e w'=>e=r∧Sp w0 w' ap b x [(c,ptObj ap y)]:=by
  obtain ⟨O,hA, -⟩:=(h.flip hc).ex
  exact (hs O hA).mono fun e w' ⟨he,hb⟩=>⟨he,hb▸h⟩
end
end Go.Proofs.YtjeofpkhgmefgaaGreat
namespace Go.Proofs.YtjeofpkhgmefgaaGreat
open Go.RowKit
def own (x:Pt) (j:Nat):List Int:=Stage.list x [] j
theorem list_own (x:Pt) (H:List Int) (j:Nat):Stage.list x H j=own x j++H:=by
  unfold own Stage.list
  split
  · rfl
  · split<;>rfl
theorem own_len (x:Pt) (j:Nat):(own x j).length≤5:=by have:=Stage.list_len x [] j;unfold own;simpa using this
theorem Stage.move {x:Pt} {H H':List Int} {ds:Docs} {d:Int×List UInt8} {rate:Int} {j:Nat} {s':Ar} (h:Stage x H ds d rate j) (hI:Inv s' (own x j++H')) (hr: ∀k t,k∈own x j→Rep x.s k t→Rep s' k t):Stage {x with s:=s'} H' ds d rate j:=by
  rcases h with ⟨hj,h⟩|⟨a,hj,ha,h⟩|⟨hj,o,r0,hI0,hv⟩
  · have e:own x j=[x.src]:=by unfold own Stage.list;rw [if_neg (by omega),h.begun,if_neg (by decide)]
    rw [e] at hI hr
    exact .inl ⟨hj,hI,h.vr.move (fun t ht=>hr _ t (by simp) ht) (fun q=>hI.pos (by simp) q),h.id,h.text,h.rt,h.begun,h.over,h.root,h.pos,h.p0⟩
  · have e:own x j=[x.p.wave,x.p.marks,x.p.spots,x.p.table,x.src]:=by unfold own Stage.list;rw [if_neg (by omega),h.begun,if_pos rfl]
    rw [e] at hI hr
    refine .inr (.inl ⟨a,hj,ha,hI,?_,?_,?_,?_,h.id,h.text,h.rt,h.begun,h.over,h.root,h.pos,h.row⟩)
    · obtain ⟨t,p,q⟩:=h.w;exact ⟨t,hr _ t (by simp) p,q⟩
    · obtain ⟨t,p,q⟩:=h.m;exact ⟨t,hr _ t (by simp) p,q⟩
    · obtain ⟨t,p,q⟩:=h.sp;exact ⟨t,hr _ t (by simp) p,q⟩
    · obtain ⟨t,p,q⟩:=h.t;exact ⟨t,hr _ t (by simp) p,q⟩
  · have e:own x j=[x.root]:=by unfold own Stage.list;rw [if_pos hj]
    rw [e] at hI hr
    exact .inr (.inr ⟨hj,o,r0,hI,hv.move (fun t ht=>hr _ t (by simp) ht) (fun q=>hI.pos (by simp) q)⟩)
theorem Reps.append {s:Ar}: ∀{A B:List Int} {T U:List Tr},Reps s A T→Reps s B U→Reps s (A++B) (T++U)
  | [],B,[],U,_,h=>h
  | a::A,B,t::T,U,h,k=>⟨h.1,Reps.append h.2 k⟩
  | [],B,t::T,U,h,_=>h.elim
  | a::A,B,[],U,h,_=>h.elim
theorem sizes_append (T U:List Tr):sizes (T++U)=sizes T+sizes U:=by unfold sizes;simp
theorem stage_reps {x : Pt} {H : List Int} {ds : Docs} {d : Int × List UInt8} {rate : Int} {j B : Nat} (h : Stage x H ds d rate j) (hR : Right (ds ++ [d])) (hs : j ≠ 0 → Sz x.s B x.src) :
    ∃T,Reps x.s (own x j) T∧8*sizes T≤B+2048+56*(rowsM (ds++[d])).length+16*(ds.length+1):=by
  rcases h with ⟨hj,h⟩|⟨a,hj,ha,h⟩|⟨hj, -, -,hI,hv⟩
  · have e:own x j=[x.src]:=by unfold own Stage.list;rw [if_neg (by omega),h.begun,if_neg (by decide)]
    rw [e]
    obtain ⟨t0,r0,b0⟩:=hs (by omega)
    exact ⟨[t0],⟨r0,trivial⟩,by simp [sizes];omega⟩
  · have e:own x j=[x.p.wave,x.p.marks,x.p.spots,x.p.table,x.src]:=by unfold own Stage.list;rw [if_neg (by omega),h.begun,if_pos rfl]
    rw [e]
    obtain ⟨t0,r0,b0⟩:=hs (by omega)
    obtain ⟨t1,a1,b1⟩:=h.w
    obtain ⟨t2,a2,b2⟩:=h.m
    obtain ⟨t3,a3,b3⟩:=h.sp
    obtain ⟨t4,a4,b4⟩:=h.t
    refine ⟨[t1,t2,t3,t4,t0],⟨a1,a2,a3,a4,r0,trivial⟩,?_⟩
    have e:sizes [t1,t2,t3,t4,t0]=t1.size+(t2.size+(t3.size+(t4.size+t0.size))):=by simp [sizes]
    have c1:=b1.size;have c2:=b2.size;have c3:=b3.size;have c4:=b4.size
    have l1:=rowS_length rate (partX ds d a)
    have l2:(rowW (partX ds d a)).length=(partX ds d a).length:=by simp [rowW]
    have l3:(rowM rate (partX ds d a)).length=(partX ds d a).length:=by simp [rowM]
    have l4:(docsM (ds++[d])).length=ds.length+1:=by simp [docsM]
    have l5:=partX_le hR.right a
    omega
  · have e:own x j=[x.root]:=by unfold own Stage.list;rw [if_pos hj]
    rw [e]
    obtain ⟨t0,r0,b0⟩:=hv.sz
    refine ⟨[t0],⟨r0,trivial⟩,?_⟩
    rw [List.length_append,List.length_cons,List.length_nil] at b0
    simp [sizes];omega
structure Side (x y:Pt) (root:Int) (ds:Docs) (dx dy:Int×List UInt8) (rate:Int) (jx jy:Nat):Prop where
  sx:Stage x (own y jy++[root]) ds dx rate jx
  sy:Stage {y with s:=x.s} (own x jx++[root]) ds dy rate jy
  srx:1≤jx→x.src=root
  sry:1≤jy→y.src=root
  size:x.s.size=6000
  busy:x.s.busyN≤4408
  vr:VR x.s root ds rate
section
variable {x y : Pt} {root : Int} {ds : Docs} {dx dy : Int × List UInt8} {rate : Int} {jx jy : Nat}
theorem Side.swap (h:Side x y root ds dx dy rate jx jy):Side {y with s:=x.s} x root ds dy dx rate jy jx:=
  ⟨h.sy,h.sx,h.sry,h.srx,h.size,h.busy,h.vr⟩
theorem Side.next (h : Side x y root ds dx dy rate (jx + 1) jy) (hRx : Right (ds ++ [dx])) (hRy : Right (ds ++ [dy])) (hx : (rowsM (ds ++ [dx])).length ≤ 111) (hy : (rowsM (ds ++ [dy])).length ≤ 111) (hr0 : (rowsM ds).length ≤ 70) (hl : ds.length < 10) (h1 : 1 ≤ rate) :
    PtIn x∧ ∃x1 u,x.step=some (decide (jx=0),0,x1)∧x1.s.work 1073741824=some u∧Side {x1 with s:=u.2} y root ds dx dy rate jx jy:=by
  have hol:=own_len y jy
  obtain ⟨hin,x1,u,e1,e2,e3,e4,e5,e6,e7,e8,e9, -⟩:=stage_step h.sx hRx h1 (by rw [List.length_append,List.length_singleton];omega) (by have:=h.busy;have:=h.size;unfold costR;omega)
  have hroot:root∈own y jy++[root]:=by simp
  rw [list_own] at e8
  have hI:Inv u.2 (own y jy++(own x1 jx++[root])):=e8.perm (by
    rw [←List.append_assoc,←List.append_assoc]
    exact (List.perm_append_comm).append_right _)
  have hsy:Stage {y with s:=u.2} (own x1 jx++[root]) ds dy rate jy:=h.sy.move hI fun k t hk ht=>ht.held e9 (by rw [List.mem_append];exact .inl hk)
  have hv:VR u.2 root ds rate:=h.vr.move (fun t ht=>ht.held e9 hroot) (fun q=>hI.pos (by simp) q)
  refine ⟨hin,x1,u,e1,e2,e3,hsy,fun q=>(e7 q).trans (h.srx (by omega)),h.sry,e5.trans h.size,?_,hv⟩
  have hz:Sz u.2 6128 root:=by
    obtain ⟨t,a,b⟩:=hv.sz
    exact ⟨t,a,by omega⟩
  obtain ⟨Tx,tx1,tx2⟩:=stage_reps (x:={x1 with s:=u.2}) (B:=6128) e3 hRx (fun q=>by show Sz u.2 6128 x1.src;rw [e7 (by omega),h.srx (by omega)];exact hz)
  obtain ⟨Ty,ty1,ty2⟩:=stage_reps (x:={y with s:=u.2}) (B:=6128) hsy hRy (fun q=>by show Sz u.2 6128 y.src;rw [h.sry (by omega)];exact hz)
  obtain ⟨t0,r0,b0⟩:=hz
  have hb:=hI.busy_le e4 (T:=Ty++(Tx++[t0])) (Reps.append ty1 (Reps.append tx1 ⟨r0,trivial⟩))
  rw [sizes_append,sizes_append] at hb
  have e:sizes [t0]=t0.size:=by simp [sizes]
  show u.2.busyN≤4408
  omega
theorem Side.done (h : Side x y root ds dx dy rate 0 0) (hRx : Right (ds ++ [dx])) (hRy : Right (ds ++ [dy])) (hR : Right ds) (h1 : 1 ≤ rate) (h2 : rate ≤ 16) :
    vCheck x.s x.root rate (ds++[dx])=some true∧vCheck x.s y.root rate (ds++[dy])=some true∧vCheck x.s root rate ds=some true∧Inv x.s [root,x.root,y.root]:=by
  obtain ⟨hj, -⟩|⟨a,hj, -⟩|⟨-, -, -,hI,hv⟩:=h.sx
  · omega
  · omega
  obtain ⟨hj, -⟩|⟨a,hj, -⟩|⟨-, -, -,hI2,hv2⟩:=h.sy
  · omega
  · omega
  refine ⟨hv.check_own hI hRx h1 h2,hv2.check_own hI2 hRy h1 h2,h.vr.check_own hI hR h1 h2,?_⟩
  have e:own y 0=[y.root]:=by unfold own Stage.list;rw [if_pos rfl]
  rw [e] at hI
  refine hI.perm ?_
  have e1:x.root::([y.root]++[root])=[x.root,y.root]++[root]:=rfl
  have e2:[root,x.root,y.root]=[root]++[x.root,y.root]:=rfl
  rw [e1,e2];exact List.perm_append_comm
theorem Side.start {s : Ar} (hI : Inv s [root]) (hw : s.wait = []) (hv : VR s root ds rate) (hz : s.size = 6000) (hr : (rowsM ds).length ≤ 70) (hl : ds.length < 10) :
    Side {Pt.new s root rate dx.1 dx.2 with s:=(s.keep root).keep root} (Pt.new (s.keep root) root rate dy.1 dy.2) root ds dx dy rate (dx.2.length+3) (dy.2.length+3)∧Inv (s.keep root) [root,root]∧VR (s.keep root) root ds rate:=by
  have k1:=keep1 (k:=root) hI (by simp) (fun e=>hI.pos (by simp) e)
  have k2:=keep1 (k:=root) k1.1 (by simp) (fun e=>k1.1.pos (by simp) e)
  have hv1:VR (s.keep root) root ds rate:=hv.move (fun t ht=>ht.grow k1.2.1) (fun e=>k1.1.pos (by simp) e)
  have hv2:VR ((s.keep root).keep root) root ds rate:=hv1.move (fun t ht=>ht.grow k2.2.1) (fun e=>k2.1.pos (by simp) e)
  have hb:=hv.busy hI hw
  have eo: ∀(z:Pt) (n:Nat),z.begun=false→z.src=root→own z (n+3)=[root]:=fun z n hb hs=>by unfold own Stage.list;rw [if_neg (by omega),hb,if_neg (by decide),hs]
  have ex:=eo {Pt.new s root rate dx.1 dx.2 with s:=(s.keep root).keep root} dx.2.length rfl rfl
  have ey:=eo (Pt.new (s.keep root) root rate dy.1 dy.2) dy.2.length rfl rfl
  refine ⟨⟨.inl ⟨rfl,?_,hv2,rfl,rfl,rfl,rfl,rfl,rfl,rfl,rfl⟩, .inl ⟨rfl,?_,hv2,rfl,rfl,rfl,rfl,rfl,rfl,rfl,rfl⟩,fun _=>rfl,fun _=>rfl,?_,?_,hv2⟩,k1.1,hv1⟩
  · rw [ey];exact k2.1
  · rw [ex];exact k2.1
  · show ((s.keep root).keep root).size=6000
    rw [Ar.keep_size,Ar.keep_size,hz]
  · show ((s.keep root).keep root).busyN≤4408
    rw [k2.2.2.1,k1.2.2.1];omega
theorem Side.lefts (h:Side x y root ds dx dy rate jx jy) (h1:dx.2.length≤40) (h2:dy.2.length≤40):x.left=(jx:Int)∧y.left=(jy:Int):=⟨h.sx.left h1,h.sy.left h2⟩
end
end Go.Proofs.YtjeofpkhgmefgaaGreat
namespace Go.Proofs.YtjeofpkhgmefgaaGreat
open Go.RowKit
theorem wpList_if {P:Program} {ops:Array Oper} {Q:Exit→Act→World→Prop} {rest:List Oper} {o:Oper} {a:Act} {w:World} (h:if Region.wanted o (yielded ops a.tmps)=true then Oper.wp P o a w (wpList P ops Q rest) Q else wpList P ops Q rest (a.put o.dst undef) w):wpList P ops Q (o::rest) a w:=by
  unfold wpList
  by_cases hw:Region.wanted o (yielded ops a.tmps)=true
  · rw [if_pos hw] at h⊢;exact .inl h
  · rw [if_neg hw] at h⊢;exact h
theorem placeZ_neg (id:Int): ∀(l:Docs) (i:Int),0≤i→placeZ id l i<0→ ∀y∈l,y.1≠id
  | [],_,_,_,y,hy=>by cases hy
  | d::l,i,hi,h,y,hy=>by
    unfold placeZ at h
    by_cases e:d.1=id
    · rw [if_pos e] at h;omega
    · rw [if_neg e] at h
      rcases List.mem_cons.1 hy with rfl|hy
      · exact e
      · exact placeZ_neg id l (i+1) (by omega) h y hy
theorem txt40 {ds:Docs} (hR:Right ds): ∀t,t∈txt ds→t.length≤50000:=fun t ht=>by
  obtain ⟨i,hi⟩:=List.getElem?_of_mem ht
  have:=(right_len hR.right).2 i
  rw [getD_at hi] at this;omega
end Go.Proofs.YtjeofpkhgmefgaaGreat
namespace Go.Proofs.YtjeofpkhgmefgaaGreat
open Go.RowKit
attribute [local go_sem ↓] Go.wp_at_zero Go.wp_at_succ
attribute [local go_sem] str_len
theorem side_num {k n:Nat} (hk:k≤86):wrap64 ((k:Int)+1)=(k:Int)+1∧decide ((200:Int)<(k:Int))=false:=⟨IntWalk.wrap64_in _ (by omega),by simp;omega⟩
theorem side_cases (T : List Bool) (k jx jy : Nat) (hm : jx + jy ≠ 0) :
    (∃ix,jx=ix+1∧((jx:Int)==0)=false∧((T[k]? =some false∧k<T.length∧decide ((k:Int)<(T.length:Int))=true)∨(T[k]? =some true∧k<T.length∧decide ((k:Int)<(T.length:Int))=true∧decide (0<(jy:Int))=false∧ ¬0<jy)∨(¬k<T.length∧decide ((k:Int)<(T.length:Int))=false)))∨
    (∃iy,jy=iy+1∧((T[k]? =some true∧k<T.length∧decide ((k:Int)<(T.length:Int))=true∧decide (0<(jy:Int))=true∧0<jy)∨(T[k]? =some false∧k<T.length∧decide ((k:Int)<(T.length:Int))=true∧((jx:Int)==0)=true)∨(¬k<T.length∧decide ((k:Int)<(T.length:Int))=false∧((jx:Int)==0)=true))):=by
  have e2: ∀n:Nat,n≠0→((n:Int)==0)=false:=fun n h=>by rw [beq_eq_false_iff_ne];omega
  have e3: ∀n:Nat,n=0→((n:Int)==0)=true:=fun n h=>by rw [beq_iff_eq];omega
  by_cases hk:k<T.length
  · have d1:decide ((k:Int)<(T.length:Int))=true:=by simpa using hk
    obtain ⟨b,hb⟩: ∃b,T[k]? =some b:=⟨_,List.getElem?_eq_getElem hk⟩
    cases b with
    | true=>
      by_cases hy:jy=0
      · exact .inl ⟨jx - 1,by omega,e2 _ (by omega), .inr (.inl ⟨hb,hk,d1,by simp;omega,by omega⟩)⟩
      · exact .inr ⟨jy - 1,by omega, .inl ⟨hb,hk,d1,by simp;omega,by omega⟩⟩
    | false=>
      by_cases hx:jx=0
      · exact .inr ⟨jy - 1,by omega, .inr (.inl ⟨hb,hk,d1,e3 _ hx⟩)⟩
      · exact .inl ⟨jx - 1,by omega,e2 _ hx, .inl ⟨hb,hk,d1⟩⟩
  · have d1:decide ((k:Int)<(T.length:Int))=false:=by simpa using hk
    by_cases hx:jx=0
    · exact .inr ⟨jy - 1,by omega, .inr (.inr ⟨hk,d1,e3 _ hx⟩)⟩
    · exact .inl ⟨jx - 1,by omega,e2 _ hx, .inr (.inr ⟨hk,d1⟩)⟩
set_option maxRecDepth 100000 in
set_option maxHeartbeats 8000000 in
theorem putSide_walk (A : Option Addr) (cap : Nat) (ds : Docs) (tx ty : List UInt8) (rate : Int) (A4 : Option Addr) (cap4 : Nat) (T : List Bool) (hl : ds.length ≤ maxLen) (hid : IdOk ds) (htx : tx.length ≤ maxLen) (hty : ty.length ≤ maxLen) (w : World) (h : Rd2 w (.slice A ds.length cap) ds) (hT : Rd w A4 T.length (T.map .bool)) :
    Calls Tryz.prog 7 #[.slice A ds.length cap,strOf tx,strOf ty, .int .i64 rate, .slice A4 T.length cap4] w fun e w'=>e= .returned (.bool true)∧Below w.heap.size w w':=by
  have HK:=Lib.hid h;clear h
  have HTT:=Lib.hid hT;clear hT
  cases hf:few ds with
  | false=>
    have Hf:=Lib.hid hf;clear hf
    go_enter Tryz.func7,Tryz.ntmps7
    go_wp2_with fail
    refine (few_calls _ ds hl _ HK.out).mono ?_
    rintro e0 W0 ⟨rfl,hb1⟩
    rw [Hf.out]
    have HB0:=Lib.hid hb1;clear hb1
    go_wp2_with fail
    refine (alive13_calls _).mono ?_
    rintro e1 W1 ⟨rfl,hb1⟩
    have HB1:=Lib.hid (below_step HB0.out hb1);clear hb1
    go_wp2_with fail
    go_ret
    exact ⟨rfl,HB1.out⟩
  | true=>
    obtain ⟨hR,htot,hl10⟩:=few_right hf hid
    have Hf:=Lib.hid hf;clear hf
    obtain ⟨D1,hD1⟩: ∃D1:Int,D1=1048576:=⟨_,rfl⟩
    have HD:=Lib.hid hD1
    obtain ⟨P,hP⟩: ∃P,placeZ D1 ds 0=P:=⟨_,rfl⟩
    have HP:Hid (placeZ 1048576 ds 0=P):=Lib.hid (by rw [←hD1];exact hP)
    have HL10:Hid (ds.length≤50000):=Lib.hid (by omega)
    have hcase : (decide (10 ≤ (ds.length : Int)) = true ∨ (decide (10 ≤ (ds.length : Int)) = false ∧ (decide (0 ≤ P) = true ∨ (decide (0 ≤ P) = false ∧ (decide (40 < (tx.length : Int)) = true ∨ (decide (40 < (tx.length : Int)) = false ∧ (decide (40 < (ty.length : Int)) = true ∨ (decide (40 < (ty.length : Int)) = false ∧ (decide (rate < 1) = true ∨ (decide (rate < 1) = false ∧ (decide (16 < rate) = true ∨ (decide (16 < rate) = false ∧ decide (100 < (T.length : Int)) = true)))))))))))) ∨
        (decide (10≤(ds.length:Int))=false∧decide (0≤P)=false∧decide (40<(tx.length:Int))=false∧decide (40<(ty.length:Int))=false∧decide (rate<1)=false∧decide (16<rate)=false∧decide (100<(T.length:Int))=false):=by
      clear hD1 HD hP HP
      simp only [decide_eq_true_eq,decide_eq_false_iff_not];omega
    rcases hcase with hno|⟨d0,d1,d2,d3,d4,d5,d6⟩
    · clear hR htot hl10 hP hD1
      rcases hno with d0|⟨d0,d1|⟨d1,d2|⟨d2,d3|⟨d3,d4|⟨d4,d5|⟨d5,d6⟩⟩⟩⟩⟩⟩<;>
      (go_enter Tryz.func7,Tryz.ntmps7
       go_wp2_with fail
       refine (few_calls _ ds hl _ HK.out).mono ?_
       rintro e0 W0 ⟨rfl,hb1⟩
       rw [Hf.out]
       have HB0:=Lib.hid hb1;clear hb1
       go_wp2_with fail
       first
         | (refine (place_calls _ ds 1048576 HL10.out _ (HK.out.below HB0.out)).mono ?_
            rintro e1 W1 ⟨rfl,hb1⟩
            rw [HP.out]
            have HB1:=Lib.hid (below_step HB0.out hb1)
            clear hb1
            go_wp2_with fail
            refine (alive13_calls _).mono ?_
            rintro e2 W2 ⟨rfl,hb2⟩
            have HB2:=Lib.hid (below_step HB1.out hb2)
            clear hb2
            go_wp2_with fail
            go_ret
            exact ⟨rfl,HB2.out⟩)
         | (refine (alive13_calls _).mono ?_
            rintro e2 W2 ⟨rfl,hb2⟩
            have HB2:=Lib.hid (below_step HB0.out hb2)
            clear hb2
            go_wp2_with fail
            go_ret
            exact ⟨rfl,HB2.out⟩))
    have hb8:ds.length<10∧P<0∧tx.length≤40∧ty.length≤40∧1≤rate∧rate≤16∧T.length≤100:=by
      clear hD1 HD hP HP
      simp only [decide_eq_false_iff_not] at d0 d1 d2 d3 d4 d5 d6;omega
    obtain ⟨n1,n2,n3,n4,n5,n6,n7⟩:=hb8
    have hnot:=placeZ_neg D1 ds 0 (by omega) (by rw [hP];exact n2)
    have hD1p:1≤D1∧D1<9223372036854775808:=by rw [hD1];decide
    obtain ⟨dx,hdx⟩: ∃d:Int×List UInt8,d=(D1,tx):=⟨_,rfl⟩
    obtain ⟨dy,hdy⟩: ∃d:Int×List UInt8,d=(D1,ty):=⟨_,rfl⟩
    have hRx:Right (ds++[dx]):=right_snoc hR n1 (by rw [hdx];exact hD1p.1) (by rw [hdx];exact hD1p.2) (by rw [hdx];exact n3) (by rw [hdx];exact hnot)
    have hRy:Right (ds++[dy]):=right_snoc hR n1 (by rw [hdy];exact hD1p.1) (by rw [hdy];exact hD1p.2) (by rw [hdy];exact n4) (by rw [hdy];exact hnot)
    have hrx:=rows_tot hRx
    have hry:=rows_tot hRy
    have hrows0:=rows_tot hR
    have htx2:tot (ds++[dx])=tot ds+tx.length:=by rw [hdx];unfold tot;simp
    have hty2:tot (ds++[dy])=tot ds+ty.length:=by rw [hdy];unfold tot;simp
    have HR:=Lib.hid hR;have HRx:=Lib.hid hRx;have HRy:=Lib.hid hRy;have HT:=Lib.hid htot;have HN:=Lib.hid hnot
    have HRows:Hid ((rowsM (ds++[dx])).length≤111∧(rowsM (ds++[dy])).length≤111∧(rowsM ds).length≤70):=Lib.hid ⟨by rw [hrx,htx2];simp;omega,by rw [hry,hty2];simp;omega,by rw [hrows0];omega⟩
    have H1:=Lib.hid n1;have H2:=Lib.hid n5;have H3:=Lib.hid n6;have H4:=Lib.hid n3;have H5:=Lib.hid n4;have HDp:=Lib.hid hD1p
    have Hdx:=Lib.hid hdx;have Hdy:=Lib.hid hdy
    clear hR htot hl10 hP hRx hRy hrx hry hrows0 htx2 hty2 hnot n1 n2 n3 n4 n5 n6 n7 hdx hdy hD1 hD1p
    go_enter Tryz.func7,Tryz.ntmps7
    go_wp2_with fail
    refine (few_calls _ ds hl _ HK.out).mono ?_
    rintro e0 W0 ⟨rfl,hb1⟩
    rw [Hf.out]
    have HB0:=Lib.hid hb1;clear hb1
    go_wp2_with fail
    refine (place_calls _ ds 1048576 HL10.out _ (HK.out.below HB0.out)).mono ?_
    rintro e1 W1 ⟨rfl,hb1⟩
    rw [HP.out]
    have HB1:=Lib.hid (below_step HB0.out hb1)
    clear hb1
    go_wp2_with fail
    refine (alive13_calls _).mono ?_
    rintro e2 W2 ⟨rfl,hb2⟩
    have HB2:=Lib.hid (below_step HB1.out hb2)
    clear hb2 d0 d1 d2 d3 d4 d5 d6
    go_wp2_with fail
    refine (new_calls 6000 (by omega) (by omega) _).mono ?_
    rintro e3 W3 ⟨p,O,rfl,hA,hO,hb3⟩
    have HS:Hid (St w W3 (.pointer (some ⟨p,0,none⟩)) (Ar.new 6000) []):=Lib.hid (St.new (below_step HB2.out hb3) hA fun b hb=>Nat.le_trans HB2.out.size (hO b hb))
    clear hA hO hb3
    go_wp2_with fail
    refine (bldS_calls 6000 (by omega) (by omega) HS.out rate H2.out (by have:=H3.out;omega) ds HR.out HT.out A cap HK.out).mono ?_
    rintro e4 W4 ⟨root,s,rfl,hS,hI,hwt,hsz,hv,hroot⟩
    have HS4:=Lib.hid hS;have HI:=Lib.hid hI;have HV:=Lib.hid hv
    obtain ⟨q1,q2,q3⟩:=Side.start (dx:=dx) (dy:=dy) hI hwt hv hsz HRows.out.2.2 H1.out
    have HPI:Hid ((placeIn D1 (docsM ds) 0).2=false):=Lib.hid (by rw [placeIn_none D1 (docsM ds) 0 (fun y hy=>by unfold docsM at hy;obtain ⟨z,hz,rfl⟩:=List.mem_map.1 hy;exact HN.out z hz)])
    have hcon:=HS4.out.put root rate D1 tx (docsM ds) (HV.out.all HI.out (by have:=H1.out;omega)) (by simp [docsM];have:=H1.out;omega) (vr_is HI.out HV.out HR.out) H2.out H3.out HDp.out.1 HPI.out H4.out (by rw [HV.out.docs HI.out (by have:=H1.out;omega)];have:=H1.out;omega)
    have HQ2:=Lib.hid q2;have HQ3:=Lib.hid q3
    have ex1:dx.1=D1:=by rw [Hdx.out]
    have ex2:dx.2=tx:=by rw [Hdx.out]
    have ey1:dy.1=D1:=by rw [Hdy.out]
    have ey2:dy.2=ty:=by rw [Hdy.out]
    rw [ex1,ex2,ey1,ey2] at q1
    obtain ⟨x0,hx0⟩: ∃x0,Pt.new s root rate D1 tx=x0:=⟨_,rfl⟩
    have hxs:s.keep root=x0.s:=by rw [←hx0];rfl
    rw [hxs] at HQ2 HQ3 q1
    rw [hx0] at hcon q1
    rw [HD.out] at hcon
    have HCON:=Lib.hid hcon;have HQ1:=Lib.hid q1
    clear hcon hx0 hxs ex1 ex2 ey1 ey2 q1 q2 q3 hS hI hwt hsz hv hroot HS
    go_wp2_with fail
    refine HCON.out.mono ?_
    rintro e5 W5 ⟨b,rfl,h5⟩
    have H5':=Lib.hid h5
    have hcon:=h5.stx.put root rate D1 ty (docsM ds) (HQ3.out.all HQ2.out (by have:=H1.out;omega)) (by simp [docsM];have:=H1.out;omega) (vr_is HQ2.out HQ3.out HR.out) H2.out H3.out HDp.out.1 HPI.out H5.out (by rw [HQ3.out.docs HQ2.out (by have:=H1.out;omega)];have:=H1.out;omega)
    obtain ⟨y0,hy0⟩: ∃y0,Pt.new x0.s root rate D1 ty=y0:=⟨_,rfl⟩
    have hys:x0.s.keep root=y0.s:=by rw [←hy0];rfl
    have hq:=HQ1.out
    rw [hy0] at hcon hq
    rw [hys] at hq
    rw [HD.out] at hcon
    have HQ1':=Lib.hid hq
    have HCON2:=Lib.hid hcon
    have HBb:=Lib.hid h5.own
    clear hcon hq hy0 hys HQ1 HCON h5
    go_wp2_with fail
    refine HCON2.out.mono ?_
    rintro e6 W6 ⟨c,rfl,h6⟩
    have HCc:=Lib.hid h6.own
    have H6':=Lib.hid (h6.flip HBb.out)
    clear h6 HCON2 H5' HQ2 HQ3 HS4
    go_wp2_with fail
    obtain ⟨K,hK⟩: ∃K,(tx.length+3)+(ty.length+3)=K:=⟨_,rfl⟩
    have HKK:Hid (K≤86):=Lib.hid (by have:=H4.out;have:=H5.out;omega)
    go_loopg [18] K (fun m c18 wr=> ∃(k jx jy:Nat) (x y:Pt),c18= .int .i64 (k:Int)∧jx+jy=m∧k+m=K∧Hid (Sp w wr (.pointer (some ⟨p,0,none⟩)) b x [(c,ptObj (.pointer (some ⟨p,0,none⟩)) y)]∧Side x y root ds dx dy rate jx jy))
    case atStart=>exact ⟨0,tx.length+3,ty.length+3,_,_,rfl,hK,by omega,Lib.hid ⟨H6'.out,HQ1'.out⟩⟩
    case round=>
      obtain ⟨k,jx,jy,x,y,rfl,hm,hk,HX⟩:=hrel
      clear hK HQ1' H6'
      have hxl:dx.2.length≤40:=by rw [Hdx.out];exact H4.out
      have hyl:dy.2.length≤40:=by rw [Hdy.out];exact H5.out
      have HLx:Hid (x.left=(jx:Int)):=Lib.hid (HX.out.2.lefts hxl hyl).1
      have HLy:Hid (({y with s:=x.s}:Pt).left=(jy:Int)):=Lib.hid (HX.out.2.lefts hxl hyl).2
      have HW:Hid (wrap64 ((jx:Int)+(jy:Int))=((jx+jy:Nat):Int)):=Lib.hid (by rw [IntWalk.wrap64_in _ (by have:=HKK.out;omega)];omega)
      clear hxl hyl
      by_cases hm0:gk=0
      · have hz:jx=0∧jy=0:=by omega
        obtain ⟨rfl,rfl⟩:=hz
        obtain ⟨z1,z2,z3,z4⟩:=HX.out.2.done HRx.out HRy.out HR.out H2.out H3.out
        have hd2:dx=(1048576,tx):=by rw [Hdx.out,HD.out]
        have hd3:dy=(1048576,ty):=by rw [Hdy.out,HD.out]
        have h40x:=txt40 HRx.out
        have h40y:=txt40 HRy.out
        rw [hd2] at z1 h40x
        rw [hd3] at z2 h40y
        have HZ1:=Lib.hid z1;have HZ2:=Lib.hid z2;have HZ3:=Lib.hid z3;have HZ4:=Lib.hid z4;have H40x:=Lib.hid h40x;have H40y:=Lib.hid h40y
        clear z1 z2 z3 z4 hd2 hd3 h40x h40y hm hk hm0 HW
        unfold strOf
        go_wp2_with fail
        refine (HX.out.1.same fun O hT=>pLeft_calls _ hT).mono ?_
        rintro e8 W8 ⟨rfl,h8⟩
        rw [HLx.out]
        have H8:=Lib.hid h8;clear h8
        go_wp2_with fail
        refine (H8.out.same2 HCc.out fun O hT=>pLeft_calls _ hT).mono ?_
        rintro e9 W9 ⟨rfl,h9⟩
        rw [HLy.out]
        have H9:=Lib.hid h9;clear h9 H8
        go_wp2_with fail
        refine (H9.out.same fun O hT=>pRoot_calls _ hT).mono ?_
        rintro e10 W10 ⟨rfl,h10⟩
        have H10:=Lib.hid h10;clear h10 H9
        go_wp2_with (at_builtin;first
          | (refine wpList_if ?_;refine step_moreN (by rfl) _ _ 22 (by rfl) (base:=W10.heap.size) (e:=42) (.agg #[.int .i64 0, .string ⟨#[]⟩]) 2 24 (by omega) Tryz.underlying22 (by kernel_rfl) (by rfl) (v:= .slice none 0 0) (by rfl) (own_nil _ _ _ _) (by rfl) (rds_docs (HK.out.below H10.out.bel)) (docCells_one ds) (nm:=ds.length) (by omega) (by have:=H1.out;omega) (by omega) (Nat.le_refl _) ?_;intro A4H10 c4 X1 hown4 hlow4 hkeep4;obtain ⟨v4,hv4⟩: ∃v4,Value.slice A4H10 ds.length c4=v4:=⟨_,rfl⟩;rw [hv4] at hown4⊢;clear hv4)
          | (refine wpList_if ?_;refine step_moreN (by rfl) _ _ 22 (by rfl) (base:=W10.heap.size) (e:=42) (.agg #[.int .i64 0, .string ⟨#[]⟩]) 2 24 (by omega) Tryz.underlying22 (by kernel_rfl) (by rfl) (v:=v4) (by rfl) (hown4.alloc _) (by rfl) (rds_one X1 #[.int .i64 1048576,strOf tx] 42 2 rfl) (docCells_one [(1048576,tx)]) (nm:=ds.length+1) (by omega) (by have:=H1.out;omega) (by omega) (by have:=hlow4.size;rw [siz_alloc];omega) ?_;intro A5 c5 X2 hown5 hlow5 hkeep5))
        have HD2:Hid (Rd2 X2 (.slice A5 (ds.length+1) c5) (ds++[(1048576,tx)])):=Lib.hid (rd2_own (ds:=ds++[(1048576,tx)]) (by rw [docCells_append,List.length_append];exact hown5))
        have H10b:=Lib.hid (H10.out.below ((hlow4.alloc hlow4.size _).trans hlow5))
        clear hown4 hlow4 hkeep4 hown5 hlow5 hkeep5 H10
        refine (H10b.out.read fun O hT=>check_calls x.root rate (ds++[(1048576,tx)]) _ true HZ1.out (by rw [List.length_append];have:=H1.out;simp;omega) H40x.out _ hT.hA HD2.out).mono ?_
        rintro e11 W11 ⟨rfl,h11⟩
        have H11:=Lib.hid h11
        clear h11 H10b HD2
        go_wp2_with fail
        refine (H11.out.same2 HCc.out fun O hT=>pRoot_calls _ hT).mono ?_
        rintro e12 W12 ⟨rfl,h12⟩
        have H12:=Lib.hid h12;clear h12 H11
        dsimp only
        go_wp2_with (at_builtin;first
          | (refine wpList_if ?_;refine step_moreN (by rfl) _ _ 22 (by rfl) (base:=W12.heap.size) (e:=42) (.agg #[.int .i64 0, .string ⟨#[]⟩]) 2 24 (by omega) Tryz.underlying22 (by kernel_rfl) (by rfl) (v:= .slice none 0 0) (by rfl) (own_nil _ _ _ _) (by rfl) (rds_docs (HK.out.below H12.out.bel)) (docCells_one ds) (nm:=ds.length) (by omega) (by have:=H1.out;omega) (by omega) (Nat.le_refl _) ?_;intro A4H12 c4 X1 hown4 hlow4 hkeep4;obtain ⟨v4,hv4⟩: ∃v4,Value.slice A4H12 ds.length c4=v4:=⟨_,rfl⟩;rw [hv4] at hown4⊢;clear hv4)
          | (refine wpList_if ?_;refine step_moreN (by rfl) _ _ 22 (by rfl) (base:=W12.heap.size) (e:=42) (.agg #[.int .i64 0, .string ⟨#[]⟩]) 2 24 (by omega) Tryz.underlying22 (by kernel_rfl) (by rfl) (v:=v4) (by rfl) (hown4.alloc _) (by rfl) (rds_one X1 #[.int .i64 1048576,strOf ty] 42 2 rfl) (docCells_one [(1048576,ty)]) (nm:=ds.length+1) (by omega) (by have:=H1.out;omega) (by omega) (by have:=hlow4.size;rw [siz_alloc];omega) ?_;intro A5 c5 X2 hown5 hlow5 hkeep5))
        have HD2:Hid (Rd2 X2 (.slice A5 (ds.length+1) c5) (ds++[(1048576,ty)])):=Lib.hid (rd2_own (ds:=ds++[(1048576,ty)]) (by rw [docCells_append,List.length_append];exact hown5))
        have H12b:=Lib.hid (H12.out.below ((hlow4.alloc hlow4.size _).trans hlow5))
        clear hown4 hlow4 hkeep4 hown5 hlow5 hkeep5 H12
        refine (H12b.out.read fun O hT=>check_calls y.root rate (ds++[(1048576,ty)]) _ true HZ2.out (by rw [List.length_append];have:=H1.out;simp;omega) H40y.out _ hT.hA HD2.out).mono ?_
        rintro e13 W13 ⟨rfl,h13⟩
        have H13:=Lib.hid h13
        clear h13 H12b HD2
        go_wp2_with fail
        refine (H13.out.read fun O hT=>check_calls root rate ds _ true HZ3.out HL10.out (txt40 HR.out) _ hT.hA (HK.out.below H13.out.bel)).mono ?_
        rintro e14 W14 ⟨rfl,h14⟩
        have H14:=Lib.hid h14
        clear h14 H13
        go_wp2_with fail
        refine (H14.out.same fun O hT=>pRoot_calls _ hT).mono ?_
        rintro e15 W15 ⟨rfl,h15⟩
        have H15:=Lib.hid h15;clear h15 H14
        go_wp2_with fail
        refine (H15.out.same2 HCc.out fun O hT=>pRoot_calls _ hT).mono ?_
        rintro e16 W16 ⟨rfl,h16⟩
        have H16:=Lib.hid h16;clear h16 H15
        dsimp only
        go_wp2_with fail
        refine calls_gen fun V hV=> ?_
        have H17:=Lib.hid (H16.out.st.box _ hV)
        clear hV H16
        refine (H17.out.read fun O hA=>counted_calls HZ4.out [root,x.root,y.root] (fun _ _=>rfl) (by simp) _ _ hA (Rx.cells H17.out.at0 rfl)).mono ?_
        rintro e18 W18 ⟨rfl,h18⟩
        have H18:=Lib.hid h18
        clear h18 H17
        go_wp2_with fail
        go_ret
        exact ⟨rfl,H18.out.bel⟩
      · have n0:decide (0<((jx+jy:Nat):Int))=true:=by simp;omega
        have hc:=side_cases T k jx jy (by omega)
        obtain ⟨m,rfl⟩: ∃m,gk=m+1:=⟨gk - 1,by omega⟩
        have E200:Hid (wrap64 ((k:Int)+1)=(k:Int)+1∧decide ((200:Int)<(k:Int))=false):=Lib.hid (side_num (n:=0) (by have:=HKK.out;omega))
        have HM:=Lib.hid hm;have Hk:=Lib.hid hk
        have HCELL:Hid (∀b W,Below w.heap.size w W→T[k]? =some b→ ∃ad,A4=some ad∧W.cell? (ad.add k)=some (.bool b)):=Lib.hid fun b W hW hb=>by
          obtain ⟨ad,e,hc⟩:=(HTT.out.below hW).at_ (List.getElem?_eq_some_iff.1 hb).1
          exact ⟨ad,e,hc _ (by rw [List.getElem?_map,hb];rfl)⟩
        have hw:=HW.out
        obtain ⟨M,hM⟩: ∃M,jx+jy=M:=⟨_,rfl⟩
        have n0':0<M:=by omega
        rw [hM] at hw n0
        clear hm hk hm0 hM HW
        rcases hc with ⟨ix,hix,g2,hc⟩|⟨iy,hiy,hc⟩
        · have hs:=HX.out.2
          rw [hix] at hs
          obtain ⟨hin,x1,u,y4,y5,y6⟩:=hs.next HRx.out HRy.out HRows.out.1 HRows.out.2.1 HRows.out.2.2 H1.out H2.out
          have HY4:=Lib.hid y4;have HY5:=Lib.hid y5;have HY6:=Lib.hid y6
          have HOK:Hid (PtOk x):=Lib.hid ⟨hin.1,hin.2.1,hin.2.2.1,hin.2.2.2⟩
          have HIX:=Lib.hid hix
          clear y4 y5 y6 hin hs hix
          rcases hc with ⟨hb,d2,d1⟩|⟨hb,d2,d1,g1,g3⟩|⟨d2,d1⟩
          · have HB:=Lib.hid hb
            clear hb
            go_wp2_with fail
            refine (HX.out.1.same fun O hT=>pLeft_calls _ hT).mono ?_
            rintro e8 W8 ⟨rfl,h8⟩
            rw [HLx.out]
            have H8:=Lib.hid h8;clear h8
            go_wp2_with fail
            refine (H8.out.same2 HCc.out fun O hT=>pLeft_calls _ hT).mono ?_
            rintro e9 W9 ⟨rfl,h9⟩
            rw [HLy.out]
            have H9:=Lib.hid h9;clear h9 H8
            obtain ⟨ad,rfl,hcc⟩:=HCELL.out _ _ H9.out.bel HB.out
            clear HCELL
            go_wp2_with fail
            refine (H9.out.same fun O hT=>pLeft_calls _ hT).mono ?_
            rintro e10 W10 ⟨rfl,h10⟩
            rw [HLx.out]
            replace H9:=Lib.hid h10;clear h10
            go_wp2_with fail
            refine (H9.out.act fun O hT=>pStep_calls x HOK.out _ HY4.out _ hT).mono ?_
            rintro e11 W11 ⟨rfl,h11⟩
            have H11:=Lib.hid h11
            clear h11 H9 hw
            have e200:=E200.out.2
            go_wp2_with fail
            clear e200
            refine (H11.out.write fun O hA=>work_calls _ _ HY5.out _ hA).mono ?_
            rintro e12 W12 ⟨rfl,h12⟩
            have H12:=Lib.hid h12
            clear h12 H11
            go_wp2_with fail
            have e6:=E200.out.1
            go_roundg m
            case measure=>exact Nat.lt_succ_self _
            case rel=>exact ⟨k+1,ix,jy,_,y,by first|rfl|(rw [e6];rfl),by have:=HM.out;have:=HIX.out;omega,by have:=Hk.out;omega,Lib.hid ⟨H12.out,HY6.out⟩⟩
          · have HB:=Lib.hid hb
            clear hb
            go_wp2_with fail
            refine (HX.out.1.same fun O hT=>pLeft_calls _ hT).mono ?_
            rintro e8 W8 ⟨rfl,h8⟩
            rw [HLx.out]
            have H8:=Lib.hid h8;clear h8
            go_wp2_with fail
            refine (H8.out.same2 HCc.out fun O hT=>pLeft_calls _ hT).mono ?_
            rintro e9 W9 ⟨rfl,h9⟩
            rw [HLy.out]
            have H9:=Lib.hid h9;clear h9 H8
            obtain ⟨ad,rfl,hcc⟩:=HCELL.out _ _ H9.out.bel HB.out
            clear HCELL
            go_wp2_with fail
            refine (H9.out.same2 HCc.out fun O hT=>pLeft_calls _ hT).mono ?_
            rintro e10 W10 ⟨rfl,h10⟩
            rw [HLy.out]
            replace H9:=Lib.hid h10;clear h10
            go_wp2_with fail
            refine (H9.out.same fun O hT=>pLeft_calls _ hT).mono ?_
            rintro e10 W10 ⟨rfl,h10⟩
            rw [HLx.out]
            replace H9:=Lib.hid h10;clear h10
            go_wp2_with fail
            refine (H9.out.act fun O hT=>pStep_calls x HOK.out _ HY4.out _ hT).mono ?_
            rintro e11 W11 ⟨rfl,h11⟩
            have H11:=Lib.hid h11
            clear h11 H9 hw
            have e200:=E200.out.2
            go_wp2_with fail
            clear e200
            refine (H11.out.write fun O hA=>work_calls _ _ HY5.out _ hA).mono ?_
            rintro e12 W12 ⟨rfl,h12⟩
            have H12:=Lib.hid h12
            clear h12 H11
            go_wp2_with fail
            have e6:=E200.out.1
            go_roundg m
            case measure=>exact Nat.lt_succ_self _
            case rel=>exact ⟨k+1,ix,jy,_,y,by first|rfl|(rw [e6];rfl),by have:=HM.out;have:=HIX.out;omega,by have:=Hk.out;omega,Lib.hid ⟨H12.out,HY6.out⟩⟩
          · go_wp2_with fail
            refine (HX.out.1.same fun O hT=>pLeft_calls _ hT).mono ?_
            rintro e8 W8 ⟨rfl,h8⟩
            rw [HLx.out]
            have H8:=Lib.hid h8;clear h8
            go_wp2_with fail
            refine (H8.out.same2 HCc.out fun O hT=>pLeft_calls _ hT).mono ?_
            rintro e9 W9 ⟨rfl,h9⟩
            rw [HLy.out]
            have H9:=Lib.hid h9;clear h9 H8
            clear HCELL
            go_wp2_with fail
            refine (H9.out.same fun O hT=>pLeft_calls _ hT).mono ?_
            rintro e10 W10 ⟨rfl,h10⟩
            rw [HLx.out]
            replace H9:=Lib.hid h10;clear h10
            go_wp2_with fail
            refine (H9.out.act fun O hT=>pStep_calls x HOK.out _ HY4.out _ hT).mono ?_
            rintro e11 W11 ⟨rfl,h11⟩
            have H11:=Lib.hid h11
            clear h11 H9 hw
            have e200:=E200.out.2
            go_wp2_with fail
            clear e200
            refine (H11.out.write fun O hA=>work_calls _ _ HY5.out _ hA).mono ?_
            rintro e12 W12 ⟨rfl,h12⟩
            have H12:=Lib.hid h12
            clear h12 H11
            go_wp2_with fail
            have e6:=E200.out.1
            go_roundg m
            case measure=>exact Nat.lt_succ_self _
            case rel=>exact ⟨k+1,ix,jy,_,y,by first|rfl|(rw [e6];rfl),by have:=HM.out;have:=HIX.out;omega,by have:=Hk.out;omega,Lib.hid ⟨H12.out,HY6.out⟩⟩
        · have hs:=HX.out.2.swap
          rw [hiy] at hs
          obtain ⟨hin,y1,u,y4,y5,y6⟩:=hs.next HRy.out HRx.out HRows.out.2.1 HRows.out.1 HRows.out.2.2 H1.out H2.out
          have HY4:=Lib.hid y4;have HY5:=Lib.hid y5;have HY6:=Lib.hid y6
          have HOK:Hid (PtOk {y with s:=x.s}):=Lib.hid ⟨hin.1,hin.2.1,hin.2.2.1,hin.2.2.2⟩
          have HIY:=Lib.hid hiy
          clear y4 y5 y6 hin hs hiy
          rcases hc with ⟨hb,d2,d1,g1,g3⟩|⟨hb,d2,d1,g1⟩|⟨d2,d1,g1⟩
          · have HB:=Lib.hid hb
            clear hb
            go_wp2_with fail
            refine (HX.out.1.same fun O hT=>pLeft_calls _ hT).mono ?_
            rintro e8 W8 ⟨rfl,h8⟩
            rw [HLx.out]
            have H8:=Lib.hid h8;clear h8
            go_wp2_with fail
            refine (H8.out.same2 HCc.out fun O hT=>pLeft_calls _ hT).mono ?_
            rintro e9 W9 ⟨rfl,h9⟩
            rw [HLy.out]
            have H9:=Lib.hid h9;clear h9 H8
            obtain ⟨ad,rfl,hcc⟩:=HCELL.out _ _ H9.out.bel HB.out
            clear HCELL
            go_wp2_with fail
            refine (H9.out.same2 HCc.out fun O hT=>pLeft_calls _ hT).mono ?_
            rintro e10 W10 ⟨rfl,h10⟩
            rw [HLy.out]
            replace H9:=Lib.hid h10;clear h10
            go_wp2_with fail
            refine ((H9.out.flip HCc.out).act fun O hT=>pStep_calls {y with s:=x.s} HOK.out _ HY4.out _ hT).mono ?_
            rintro e11 W11 ⟨rfl,h11⟩
            have H11:=Lib.hid (h11.flip HBb.out)
            clear h11 H9 hw
            have e200:=E200.out.2
            go_wp2_with fail
            clear e200
            refine (H11.out.write fun O hA=>work_calls _ _ HY5.out _ hA).mono ?_
            rintro e12 W12 ⟨rfl,h12⟩
            have H12:=Lib.hid h12
            clear h12 H11
            go_wp2_with fail
            have e6:=E200.out.1
            go_roundg m
            case measure=>exact Nat.lt_succ_self _
            case rel=>exact ⟨k+1,jx,iy,_,{y1 with s:=u.2},by first|rfl|(rw [e6];rfl),by have:=HM.out;have:=HIY.out;omega,by have:=Hk.out;omega,Lib.hid ⟨H12.out,HY6.out.swap⟩⟩
          · have HB:=Lib.hid hb
            clear hb
            go_wp2_with fail
            refine (HX.out.1.same fun O hT=>pLeft_calls _ hT).mono ?_
            rintro e8 W8 ⟨rfl,h8⟩
            rw [HLx.out]
            have H8:=Lib.hid h8;clear h8
            go_wp2_with fail
            refine (H8.out.same2 HCc.out fun O hT=>pLeft_calls _ hT).mono ?_
            rintro e9 W9 ⟨rfl,h9⟩
            rw [HLy.out]
            have H9:=Lib.hid h9;clear h9 H8
            obtain ⟨ad,rfl,hcc⟩:=HCELL.out _ _ H9.out.bel HB.out
            clear HCELL
            go_wp2_with fail
            refine (H9.out.same fun O hT=>pLeft_calls _ hT).mono ?_
            rintro e10 W10 ⟨rfl,h10⟩
            rw [HLx.out]
            replace H9:=Lib.hid h10;clear h10
            go_wp2_with fail
            refine ((H9.out.flip HCc.out).act fun O hT=>pStep_calls {y with s:=x.s} HOK.out _ HY4.out _ hT).mono ?_
            rintro e11 W11 ⟨rfl,h11⟩
            have H11:=Lib.hid (h11.flip HBb.out)
            clear h11 H9 hw
            have e200:=E200.out.2
            go_wp2_with fail
            clear e200
            refine (H11.out.write fun O hA=>work_calls _ _ HY5.out _ hA).mono ?_
            rintro e12 W12 ⟨rfl,h12⟩
            have H12:=Lib.hid h12
            clear h12 H11
            go_wp2_with fail
            have e6:=E200.out.1
            go_roundg m
            case measure=>exact Nat.lt_succ_self _
            case rel=>exact ⟨k+1,jx,iy,_,{y1 with s:=u.2},by first|rfl|(rw [e6];rfl),by have:=HM.out;have:=HIY.out;omega,by have:=Hk.out;omega,Lib.hid ⟨H12.out,HY6.out.swap⟩⟩
          · go_wp2_with fail
            refine (HX.out.1.same fun O hT=>pLeft_calls _ hT).mono ?_
            rintro e8 W8 ⟨rfl,h8⟩
            rw [HLx.out]
            have H8:=Lib.hid h8;clear h8
            go_wp2_with fail
            refine (H8.out.same2 HCc.out fun O hT=>pLeft_calls _ hT).mono ?_
            rintro e9 W9 ⟨rfl,h9⟩
            rw [HLy.out]
            have H9:=Lib.hid h9;clear h9 H8
            clear HCELL
            go_wp2_with fail
            refine (H9.out.same fun O hT=>pLeft_calls _ hT).mono ?_
            rintro e10 W10 ⟨rfl,h10⟩
            rw [HLx.out]
            replace H9:=Lib.hid h10;clear h10
            go_wp2_with fail
            refine ((H9.out.flip HCc.out).act fun O hT=>pStep_calls {y with s:=x.s} HOK.out _ HY4.out _ hT).mono ?_
            rintro e11 W11 ⟨rfl,h11⟩
            have H11:=Lib.hid (h11.flip HBb.out)
            clear h11 H9 hw
            have e200:=E200.out.2
            go_wp2_with fail
            clear e200
            refine (H11.out.write fun O hA=>work_calls _ _ HY5.out _ hA).mono ?_
            rintro e12 W12 ⟨rfl,h12⟩
            have H12:=Lib.hid h12
            clear h12 H11
            go_wp2_with fail
            have e6:=E200.out.1
            go_roundg m
            case measure=>exact Nat.lt_succ_self _
            case rel=>exact ⟨k+1,jx,iy,_,{y1 with s:=u.2},by first|rfl|(rw [e6];rfl),by have:=HM.out;have:=HIY.out;omega,by have:=Hk.out;omega,Lib.hid ⟨H12.out,HY6.out.swap⟩⟩
end Go.Proofs.YtjeofpkhgmefgaaGreat

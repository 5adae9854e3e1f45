/- Part 8 of what these laws needs: the walks of the program's functions, and plain facts. -/
import Derived.Test.YtjeofpkhgmefgaaGreatCoreM7
set_option linter.unusedSimpArgs false
set_option linter.unusedVariables false
set_option linter.unnecessarySimpa false
namespace Go.Proofs.YtjeofpkhgmefgaaGreat
open Go.RowKit
structure P0 (x:Pt) (H:List Int) (ds:Docs) (d:Int×List UInt8) (rate:Int):Prop where
  inv:Inv x.s (x.src::H)
  vr:VR x.s x.src ds rate
  id:x.id=d.1
  text:x.text=d.2
  rt:x.rate=rate
  begun:x.begun=false
  over:x.over=false
  root:x.root=0
  pos:x.pos=(d.2.length:Int)
  p0:x.p=Parts.zero
theorem inv_filter {s:Ar} {H:List Int}: ∀(l:List Int),Inv s (l++H)→Inv s ((l.filter fun h=> !decide (h=0))++H)
  | [],h=>h
  | k::l,h=>by
    rw [List.filter_cons]
    by_cases hk:k=0
    · rw [hk] at h
      rw [if_neg (by simp [hk])]
      exact inv_filter l (Inv.tail_zero h)
    · rw [if_pos (by simp [hk])]
      have h1:Inv s (l++(k::H)):=h.perm List.perm_middle.symm
      have h2:=inv_filter l h1
      exact h2.perm List.perm_middle
theorem insI_perm' (x:Int): ∀l:List Int,(insI x l).Perm (x::l)
  | []=>List.Perm.refl _
  | y::l=>by
    unfold insI
    split
    · exact List.Perm.refl _
    · exact ((insI_perm' x l).cons y).trans (List.Perm.swap x y l)
theorem sortI_perm': ∀l:List Int,(sortI l).Perm l
  | []=>List.Perm.refl _
  | x::l=>(insI_perm' x (sortI l)).trans ((sortI_perm' l).cons x)
theorem stop_T {x:Pt} {H:List Int} (h:Inv x.s (x.src::x.p.wave::x.p.marks::x.p.spots::x.p.table::H)) (ho:x.over=false):Inv x.stop.s H∧Grow x.s x.stop.s∧x.stop.s.busyN=x.s.busyN:=by
  have hh:x.held=(sortI [x.src,x.p.wave,x.p.marks,x.p.spots,x.p.table]).filter fun h=> !decide (h=0):=by unfold Pt.held;rw [ho,if_neg (by decide)]
  show Inv (x.s.dropAll x.held) H∧Grow x.s (x.s.dropAll x.held)∧(x.s.dropAll x.held).busyN=_
  rw [hh]
  have h1:Inv x.s ([x.src,x.p.wave,x.p.marks,x.p.spots,x.p.table]++H):=h
  have h2:Inv x.s (sortI [x.src,x.p.wave,x.p.marks,x.p.spots,x.p.table]++H):=h1.perm ((sortI_perm' _).symm.append_right H)
  exact ⟨Inv.dropAll (inv_filter _ h2),Grow.dropAll _ _,busyN_dropAll _ _⟩
theorem keep1 {s:Ar} {H:List Int} {k:Int} (h:Inv s H) (hH:H.length≤900000) (hk:k≠0→s.cnt k≠0):Inv (s.keep k) (k::H)∧Grow s (s.keep k)∧(s.keep k).busyN=s.busyN∧ ∀j,s.cnt j≠0→(s.keep k).cnt j≠0:=by
  by_cases e:k=0
  · subst e
    rw [keep_zero]
    exact ⟨h.zero_cons (by omega),Grow.refl _,rfl,fun j hj=>hj⟩
  · have hI:=h.keep (by omega) (hk e)
    refine ⟨hI,Grow.keep _ _,busyN_keep _ _,fun j hj=> ?_⟩
    exact h.live hI (Grow.keep _ _) (fun y=>by rw [List.count_cons];omega) hj
theorem begin_T {x : Pt} {H : List Int} {ds : Docs} {d : Int × List UInt8} {rate : Int} (h : P0 x H ds d rate) (hR : Right (ds ++ [d])) (hH : H.length ≤ 900) :
    ∃r,x.begin=some r∧Grow x.s r.2.s∧r.2.s.busyN≤x.s.busyN+40∧
      ((r.1=0∧r.2.src=x.src∧Pv r.2 (x.src::H) ds d rate (d.2.length+1))∨(r.1=2∧x.s.size<x.s.busyN+40∧Pe x r.2 (x.src::H))):=by
  have hlen:=hR.len
  rw [List.length_append,List.length_cons,List.length_nil] at hlen
  have hrd:refRight (txt ds)=true:=by
    have:=hR.right
    unfold refRight at this⊢
    simp only [Bool.and_eq_true,List.all_eq_true,decide_eq_true_eq] at this⊢
    refine ⟨fun t ht=>this.1 t (by rw [txt_snoc];exact List.mem_append.2 (.inl ht)),by rw [List.length_map];omega⟩
  obtain ⟨pw,pm,psp,pt,hvi⟩:=h.vr.parts h.inv (by omega)
  obtain ⟨q,hq⟩: ∃q,vOf x.s x.src=q:=⟨_,rfl⟩
  rw [hq] at pw pm psp pt
  have k1:=keep1 h.inv (by simp;omega) pw.live
  have k2:=keep1 k1.1 (by simp;omega) (fun e=>k1.2.2.2 _ (pm.live e))
  have k3:=keep1 k2.1 (by simp;omega) (fun e=>k2.2.2.2 _ (k1.2.2.2 _ (psp.live e)))
  have k4:=keep1 k3.1 (by simp;omega) (fun e=>k3.2.2.2 _ (k2.2.2.2 _ (k1.2.2.2 _ (pt.live e))))
  have hkp:keepP x.s q=(((x.s.keep q.wave).keep q.marks).keep q.spots).keep q.table:=rfl
  have hG:Grow x.s (keepP x.s q):=((k1.2.1.trans k2.2.1).trans k3.2.1).trans k4.2.1
  have hB:(keepP x.s q).busyN=x.s.busyN:=by rw [hkp,k4.2.2.1,k3.2.2.1,k2.2.2.1,k1.2.2.1]
  have hI:Inv (keepP x.s q) (q.wave::q.marks::q.spots::q.table::x.src::H):=k4.1.perm (by
    have e1:(q.table::q.spots::q.marks::q.wave::x.src::H)=[q.table,q.spots,q.marks,q.wave]++(x.src::H):=rfl
    have e2:(q.wave::q.marks::q.spots::q.table::x.src::H)=[q.wave,q.marks,q.spots,q.table]++(x.src::H):=rfl
    rw [e1,e2]
    refine List.Perm.append_right _ ?_
    have:[q.wave,q.marks,q.spots,q.table]=[q.table,q.spots,q.marks,q.wave].reverse:=rfl
    rw [this]
    exact (List.reverse_perm _).symm)
  obtain ⟨s1,hs1⟩: ∃s1,keepP x.s q=s1:=⟨_,rfl⟩
  rw [hs1] at hG hB hI
  clear hkp k1 k2 k3 k4
  have hlt:LR s1 q.table (docsM ds):=⟨by obtain ⟨t,a,b⟩:=pt.ex;exact ⟨t,a.grow hG,b⟩,fun e=>hI.pos (by simp) e,by simp [docsM];omega⟩
  have hd:=hR.id d (by simp)
  have h40:=(right_len hR.right).2 ds.length
  rw [getD_at txt_new] at h40
  have hnn: ∀y∈docsM ds,y.1≠d.1:=fun y hy e=>by
    unfold docsM at hy
    obtain ⟨z,hz,rfl⟩:=List.mem_map.1 hy
    have hn:=hR.nodup
    rw [List.map_append,List.nodup_append] at hn
    exact hn.2.2 z.1 (List.mem_map.2 ⟨z,hz,rfl⟩) d.1 (by simp) e
  have hdl:(docsM ds).length=ds.length:=by simp [docsM]
  obtain ⟨r,e1,R⟩:=tAdd_R hI (by simp;omega) hlt (x:=(d.1,(d.2.length:Int))) ⟨hd.1,hd.2,by omega,by omega⟩ hnn (by omega)
  have hst:x.start={x with s:=s1,p:=q,begun:=true,row:=(ds.length:Int)}:=by
    unfold Pt.start
    rw [hq]
    rw [hs1,hlt.len hI,hdl]
  have hb:x.begin=some (x.start.swap 3 r):=by
    unfold Pt.begin
    rw [hst]
    dsimp only
    rw [hlt.all hI,Option.bind_some,if_pos (by omega),h.id,h.text,e1];rfl
  obtain ⟨i1,g1,c1,q1⟩:=swap_T (H1:=[q.wave,q.marks,q.spots]) (H2:=x.src::H) R
  have E:=swap_eq x.start 3 r
  have hat:x.start.p.at 3=q.table:=by rw [hst];rfl
  rw [hat] at E
  rw [hb,E]
  generalize nextA true q.table r=n1 at*
  rw [hst]
  have hgs:=hG.size
  refine ⟨_,rfl,hG.trans g1,by dsimp only;omega,?_⟩
  rcases q1 with ⟨z,t1,p1,p2⟩|⟨z,a2,a3⟩
  · refine .inl ⟨by rw [if_pos z],rfl,?_⟩
    have hX:=partX_old (d:=d) hrd
    have hdn:docsM (ds++[d])=docsM ds++[(d.1,(d.2.length:Int))]:=by unfold docsM;simp
    refine ⟨?_,?_,?_,?_,?_,h.id,h.text,h.rt,rfl,h.over,h.root,?_,?_⟩
    · exact i1.perm (by exact List.Perm.refl _)
    · show HasW n1.2.2 q.wave _
      rw [hX];obtain ⟨t,a,b⟩:=pw.ex;exact ⟨t,(a.grow hG).grow g1,b⟩
    · show HasB n1.2.2 q.marks _
      rw [hX];obtain ⟨t,a,b⟩:=pm.ex;exact ⟨t,(a.grow hG).grow g1,b⟩
    · show HasL n1.2.2 q.spots _
      rw [hX];obtain ⟨t,a,b⟩:=psp.ex;exact ⟨t,(a.grow hG).grow g1,b⟩
    · show HasL n1.2.2 n1.1 _
      rw [hdn];exact ⟨t1,p1,p2⟩
    · show x.pos=((d.2.length+1:Nat):Int) - 1
      rw [h.pos];omega
    · intro _
      show (ds.length:Int)=_
      rw [show d.2.length+1 - 1=d.2.length by omega,rowI_end]
  · refine .inr ⟨by rw [if_neg (by omega)];exact z,by omega,⟨?_,rfl,h.over,rfl⟩⟩
    exact i1.perm (List.Perm.refl _)
theorem end_T {x : Pt} {H : List Int} {ds : Docs} {d : Int × List UInt8} {rate : Int} (h : Pv x (x.src :: H) ds d rate 0) (hR : Right (ds ++ [d])) (hH : H.length ≤ 900) :
    ∃e y,x.step=some (true,e,y)∧Grow x.s y.s∧y.s.busyN≤x.s.busyN+1∧y.over=true∧
      ((e=0∧y.root≠0∧Inv y.s (y.root::H)∧VR y.s y.root (ds++[d]) rate)∨(e=2∧y.root=0∧x.s.busyN=x.s.size∧Inv y.s H)):=by
  obtain ⟨tt,ht1,ht2⟩:=h.t
  have htn:x.p.table≠0:=by
    rcases ht2 with ⟨-,q⟩|ht2
    · unfold docsM at q;simp at q
    · exact ht1.ne_ofL ht2
  have hmk:vMake x.s x.p=x.s.make ⟨6,x.p.wave,x.p.marks,x.p.spots,x.p.table,0,0⟩:=by
    unfold vMake;rw [if_neg (fun q=>htn q.2.2.2)]
  have hst:x.step=some (true,(vMake x.s x.p).2.1,({x with s:=(vMake x.s x.p).2.2,root:=(vMake x.s x.p).1}:Pt).stop):=by
    unfold Pt.step
    rw [h.over,if_neg (by decide),h.begun,if_pos rfl,if_neg (by have:=h.pos;omega)]
  rw [hst,hmk]
  rcases h.inv.make (by simp;omega) ⟨6,x.p.wave,x.p.marks,x.p.spots,x.p.table,0,0⟩ ⟨by dsimp only;omega,by dsimp only;omega⟩ U64.zero (fun k hk h0=>h.inv.pos (by simp [Nd.kids] at hk;simp;rcases hk with q|q|q|q<;>simp [q]) h0) with ⟨m1,m2⟩|⟨f,f1,f2,f3,m1,m2,m3,m4,m5,m6,m7⟩
  · rw [m1]
    have hI:Inv x.s (x.src::x.p.wave::x.p.marks::x.p.spots::x.p.table::H):=h.inv.perm (by
      have e1:(x.p.wave::x.p.marks::x.p.spots::x.p.table::x.src::H)=[x.p.wave,x.p.marks,x.p.spots,x.p.table]++x.src::H:=rfl
      rw [e1];exact List.perm_middle)
    obtain ⟨s1,s2,s3⟩:=stop_T (x:={x with s:=x.s,root:=0}) hI h.over
    exact ⟨_,_,rfl,s2,Nat.le_trans (Nat.le_of_eq s3) (Nat.le_succ _),rfl, .inr ⟨rfl,rfl,m2,s1⟩⟩
  · generalize x.s.make ⟨6,x.p.wave,x.p.marks,x.p.spots,x.p.table,0,0⟩=r at*
    have hI:Inv r.2.2 (x.src::x.p.wave::x.p.marks::x.p.spots::x.p.table::((f:Int)::H)):=m3.perm (by
      have e1:((f:Int)::x.p.wave::x.p.marks::x.p.spots::x.p.table::x.src::H)=[(f:Int),x.p.wave,x.p.marks,x.p.spots,x.p.table]++x.src::H:=rfl
      rw [e1]
      refine List.perm_middle.trans (List.Perm.cons _ ?_)
      show ((f:Int)::([x.p.wave,x.p.marks,x.p.spots,x.p.table]++H)).Perm ([x.p.wave,x.p.marks,x.p.spots,x.p.table]++(f:Int)::H)
      exact List.perm_middle.symm)
    obtain ⟨s1,s2,s3⟩:=stop_T (x:={x with s:=r.2.2,root:=r.1}) hI h.over
    have hf0:(f:Int)≠0:=by omega
    have hfh:r.2.2.has (f:Int)=true:=has_iff.2 ⟨by omega,by rw [m4.size];omega,by simpa using m5⟩
    obtain ⟨tw,w1,w2⟩:=h.w
    obtain ⟨tm,n1,n2⟩:=h.m
    obtain ⟨tsp,p1,p2⟩:=h.sp
    have hX:=partX_new hR.right
    rw [hX] at w2 n2 p2
    have hrep:Rep r.2.2 (f:Int) (.nd 6 0 0 tw tm tsp tt):= .nd hfh (by rw [get_nat hfh,Int.toNat_natCast,m6]) (w1.grow m4) (n1.grow m4) (p1.grow m4) (ht1.grow m4)
    refine ⟨_,_,rfl,m4.trans s2,?_,rfl, .inl ⟨m2,?_,?_,?_⟩⟩
    · rw [s3];exact Nat.le_of_eq m7
    · show r.1≠0
      rw [m1];exact hf0
    · show Inv _ (r.1::H)
      rw [m1];exact s1
    · show VR _ r.1 _ _
      rw [m1]
      exact ⟨.inr ⟨_,hrep.grow s2,tw,tm,tsp,tt,rfl,w2,n2,p2,ht2⟩,fun _=>s1.pos (by simp) hf0⟩
end Go.Proofs.YtjeofpkhgmefgaaGreat
namespace Go.Proofs.YtjeofpkhgmefgaaGreat
open Go.RowKit
theorem VR.move {s s':Ar} {h:Int} {ds:Docs} {rate:Int} (hv:VR s h ds rate) (hr: ∀t,Rep s h t→Rep s' h t) (hl:h≠0→s'.cnt h≠0):VR s' h ds rate:=by
  refine ⟨?_,hl⟩
  rcases hv.ex with h0|⟨t,ht,hvt⟩
  · exact .inl h0
  · exact .inr ⟨t,hr t ht,hvt⟩
def Stage (x:Pt) (H:List Int) (ds:Docs) (d:Int×List UInt8) (rate:Int) (j:Nat):Prop:=
  (j=d.2.length+3∧P0 x H ds d rate)∨(∃a,j=a+1∧a≤d.2.length+1∧Pv x (x.src::H) ds d rate a)∨(j=0∧x.over=true∧x.root≠0∧Inv x.s (x.root::H)∧VR x.s x.root (ds++[d]) rate)
section
variable {x : Pt} {H : List Int} {ds : Docs} {d : Int × List UInt8} {rate : Int}
theorem Stage.left {j:Nat} (h:Stage x H ds d rate j) (hl:d.2.length≤40):x.left=(j:Int):=by
  unfold Pt.left
  rcases h with ⟨rfl,h⟩|⟨a,rfl,ha,h⟩|⟨rfl,h, -⟩
  · rw [h.over,if_neg (by decide),h.begun,if_neg (by decide),h.text,w64 (by omega) (by omega)];omega
  · rw [h.over,if_neg (by decide),h.begun,if_pos rfl,h.pos,w64 (by omega) (by omega)];omega
  · rw [h,if_pos rfl];rfl
def Stage.list (x:Pt) (H:List Int) (j:Nat):List Int:=if j=0 then x.root::H else if x.begun then x.p.wave::x.p.marks::x.p.spots::x.p.table::x.src::H else x.src::H
theorem Stage.list_len (x:Pt) (H:List Int) (j:Nat):(Stage.list x H j).length≤H.length+5:=by
  unfold Stage.list
  split
  · simp
  · split<;>simp
theorem Stage.list_mem (x:Pt) (H:List Int) (j:Nat) {k:Int} (hk:k∈H):k∈Stage.list x H j:=by
  unfold Stage.list
  split
  · simp [hk]
  · split<;>simp [hk]
theorem Stage.inv {j:Nat} (h:Stage x H ds d rate j):Inv x.s (Stage.list x H j):=by
  unfold Stage.list
  rcases h with ⟨rfl,h⟩|⟨a,rfl,ha,h⟩|⟨rfl,h,h2,h3, -⟩
  · rw [if_neg (by omega),h.begun,if_neg (by decide)];exact h.inv
  · rw [if_neg (by omega),h.begun,if_pos rfl];exact h.inv
  · rw [if_pos rfl];exact h3
theorem Pv.work {a:Nat} (h:Pv x H ds d rate a) {s':Ar} (hI:Inv s' (x.p.wave::x.p.marks::x.p.spots::x.p.table::H)) (hs:Stay x.s s' (x.p.wave::x.p.marks::x.p.spots::x.p.table::H)):Pv {x with s:=s'} H ds d rate a:=
  ⟨hI,h.w.stay hs (by simp),h.m.stay hs (by simp),h.sp.stay hs (by simp),h.t.stay hs (by simp),h.id,h.text,h.rt,h.begun,h.over,h.root,h.pos,h.row⟩
theorem partX_le (hR:refRight (txt (ds++[d]))=true) (a:Nat):(partX ds d a).length≤(rowsM (ds++[d])).length:=by
  rw [←partX_new hR]
  unfold partX
  rw [List.length_map,List.length_map,part_zero txt_len]
  exact List.length_filter_le _ _
def PtIn (x:Pt):Prop:= -1≤x.pos∧x.pos≤x.text.length∧x.text.length≤50000∧1≤x.rate
theorem stage_step {j : Nat} (h : Stage x H ds d rate (j + 1)) (hR : Right (ds ++ [d])) (hr1 : 1 ≤ rate) (hH : H.length ≤ 900) (hroom : x.s.busyN + costR (rowsM (ds ++ [d])).length ≤ x.s.size) :
    PtIn x∧ ∃y u,x.step=some (decide (j=0),0,y)∧y.s.work 1073741824=some u∧Stage {y with s:=u.2} H ds d rate j∧u.2.wait=[]∧u.2.size=x.s.size∧
      Stage y H ds d rate j∧(1≤j→y.src=x.src)∧Inv u.2 (Stage.list y H j)∧Stay x.s u.2 H∧ ∀k t,k∈Stage.list y H j→Rep x.s k t→Rep u.2 k t:=by
  have h40:=(right_len hR.right).2 ds.length
  rw [getD_at txt_new] at h40
  have key:PtIn x∧ ∃y,x.step=some (decide (j=0),0,y)∧Grow x.s y.s∧Stage y H ds d rate j∧(1≤j→y.begun=true∧y.src=x.src):=by
    rcases h with ⟨hj,h⟩|⟨a,hj,ha,h⟩|⟨hj, -⟩
    · obtain rfl:j=d.2.length+2:=by omega
      refine ⟨⟨by rw [h.pos];omega,by rw [h.pos,h.text];exact Int.le_refl _,by rw [h.text];omega,by rw [h.rt];exact hr1⟩,?_⟩
      obtain ⟨r,e1,g1,c1,q1⟩:=begin_T h hR hH
      rcases q1 with ⟨z,hs,hp⟩|⟨-,hf, -⟩
      · refine ⟨r.2,?_,g1, .inr (.inl ⟨d.2.length+1,rfl,Nat.le_refl _,by rw [hs];exact hp⟩),fun _=>⟨hp.begun,hs⟩⟩
        unfold Pt.step
        rw [h.over,if_neg (by decide),h.begun,if_neg (by decide),e1]
        show some (Pt.asked r)=_
        unfold Pt.asked
        rw [if_pos z,hp.over,decide_eq_false (by omega)]
      · unfold costR at hroom;omega
    · obtain rfl:j=a:=by omega
      refine ⟨⟨by rw [h.pos];omega,by rw [h.pos,h.text];omega,by rw [h.text];omega,by rw [h.rt];exact hr1⟩,?_⟩
      cases j with
      | zero=>
        obtain ⟨e,y,e1,g1,c1,o1,q1⟩:=end_T h hR hH
        rcases q1 with ⟨rfl,hr0,hI,hv⟩|⟨-, -,hf, -⟩
        · exact ⟨y,by rw [e1];rfl,g1, .inr (.inr ⟨rfl,o1,hr0,hI,hv⟩),fun q=>by omega⟩
        · unfold costR at hroom;omega
      | succ b=>
        obtain ⟨r,e1,g1,c1,q1⟩:=pinsert_T h hR (by omega) (by simp;omega)
        rcases q1 with ⟨z,hs,hp⟩|⟨-,hf, -⟩
        · refine ⟨r.2,?_,g1, .inr (.inl ⟨b,rfl,by omega,by rw [hs];exact hp⟩),fun _=>⟨hp.begun,hs⟩⟩
          unfold Pt.step
          rw [h.over,if_neg (by decide),h.begun,if_pos rfl,if_pos (by rw [h.pos];omega),e1]
          show some (Pt.asked r)=_
          unfold Pt.asked
          rw [if_pos z,hp.over,decide_eq_false (by omega)]
        · have:=partX_le hR.right (b+1)
          unfold costR at hroom hf;omega
    · omega
  have hx0:=h.inv
  obtain ⟨hin,y,e1,g1,hy,hyb⟩:=key
  refine ⟨hin,y,?_⟩
  have hI:=hy.inv
  obtain ⟨u,w1,w2,w3, -,w5⟩:=hI.work (by have:=Stage.list_len y H j;omega) 1073741824
  refine ⟨u,e1,w1,?_,w5 (by omega),w3.size.trans g1.size,hy,fun q=>(hyb q).2,w2,((g1.stay hx0).mono fun k hk _=>Stage.list_mem x H (j+1) hk).trans (w3.mono fun k hk _=>Stage.list_mem y H j hk),fun k t hk ht=>(ht.grow g1).held w3 hk⟩
  rcases hy with ⟨hj,h0⟩|⟨a,hj,ha,hp⟩|⟨hj,o,r0,hI0,hv⟩
  · exact absurd (hyb (by omega)).1 (by rw [h0.begun];decide)
  · refine .inr (.inl ⟨a,hj,ha,?_⟩)
    unfold Stage.list at w2 w3
    rw [if_neg (by omega),hp.begun,if_pos rfl] at w2 w3
    exact hp.work w2 w3
  · subst hj
    unfold Stage.list at w2 w3
    rw [if_pos rfl] at w2 w3
    exact .inr (.inr ⟨rfl,o,r0,w2,hv.move (fun t ht=>ht.held w3 (by simp)) (fun q=>w2.pos (by simp) q)⟩)
theorem stage_stop {j:Nat} (h:Stage x H ds d rate (j+1)) (hH:H.length≤900):Inv x.stop.s H∧Grow x.s x.stop.s∧x.over=false:=by
  rcases h with ⟨hj,h⟩|⟨a,hj,ha,h⟩|⟨hj, -⟩
  · have hI : Inv x.s (x.src :: x.p.wave :: x.p.marks :: x.p.spots :: x.p.table :: H) := by
      rw [h.p0]
      have h1:=(((h.inv.zero_cons (by simp;omega)).zero_cons (by simp;omega)).zero_cons (by simp;omega)).zero_cons (by simp;omega)
      refine h1.perm ?_
      have e1:((0:Int)::0::0::0::x.src::H)=[0,0,0,0]++x.src::H:=rfl
      rw [e1];exact List.perm_middle
    obtain ⟨a,b, -⟩:=stop_T hI h.over
    exact ⟨a,b,h.over⟩
  · have hI : Inv x.s (x.src :: x.p.wave :: x.p.marks :: x.p.spots :: x.p.table :: H) := h.inv.perm (by
      have e1:(x.p.wave::x.p.marks::x.p.spots::x.p.table::x.src::H)=[x.p.wave,x.p.marks,x.p.spots,x.p.table]++x.src::H:=rfl
      rw [e1];exact List.perm_middle)
    obtain ⟨a,b, -⟩:=stop_T hI h.over
    exact ⟨a,b,h.over⟩
  · omega
theorem root_refs1 {s:Ar} {root:Int} (hI:Inv s [root]) (hw:s.wait=[]) (h0:root≠0):s.refs root=0:=by
  obtain ⟨rk,hrk⟩:=hI.rank
  have hlt: ∀{x k:Int},s.has x=true→k∈(s.get x).kids→k≠0→rk k.toNat<rk x.toNat:=fun {x k} hx hkx hk0=>by
    obtain ⟨n,rfl,n1,n2,n3⟩:=has_nat hx
    rw [get_nat hx,Int.toNat_natCast] at hkx
    rw [Int.toNat_natCast]
    exact hrk n n1 n2 n3 k hkx hk0
  have hall: ∀x,Rc s [root] x→rk x.toNat≤rk root.toNat:=fun x hx=>by
    induction hx with
    | held h1 h2=>rw [List.mem_singleton.1 h1];exact Nat.le_refl _
    | @kid y k hr h1 h2 ih=>exact Nat.le_of_lt (Nat.lt_of_lt_of_le (hlt (hI.rc hr).1 h1 h2) ih)
  refine refsTo_zero _ _ _ _ fun n n1 n2 n3 hm=> ?_
  have hn:s.has (n:Int)=true:=has_iff.2 ⟨by omega,by omega,by simpa using n3⟩
  have hm':root∈(s.get (n:Int)).kids:=by rw [get_nat hn,Int.toNat_natCast];exact hm
  have h1:=hlt hn hm' h0
  have h2:=hall _ (hI.reached hw hn)
  omega
theorem cnt_one {s:Ar} {root:Int} (hI:Inv s [root]) (hw:s.wait=[]) (h0:root≠0):s.cnt root=1:=by
  obtain ⟨n,rfl,n1,n2,n3⟩:=has_nat (hI.held root (by simp) h0)
  rw [Ar.cnt_nat n1 n2,hI.cnt n n1 n2 n3,root_refs1 hI hw h0]
  simp
def Sz (s:Ar) (B:Nat) (k:Int):Prop:= ∃t,Rep s k t∧8*t.size≤B
theorem VR.sz {s:Ar} {k:Int} {ds':Docs} {rate':Int} (hv:VR s k ds' rate'):Sz s (2048+56*(rowsM ds').length+16*ds'.length) k:=by
  rcases hv.ex with ⟨rfl,rfl⟩|⟨t,hr,tw,tm,tsp,tt,rfl,h1,h2,h3,h4⟩
  · exact ⟨.nil, .nil,by simp [Tr.size]⟩
  · refine ⟨_,hr,?_⟩
    simp only [Tr.size]
    have a1:=h1.size;have a2:=h2.size;have a3:=h3.size;have a4:=h4.size
    have b1:=rowS_length rate' (rowsM ds')
    have b2:(rowW (rowsM ds')).length=(rowsM ds').length:=by simp [rowW]
    have b3:(rowM rate' (rowsM ds')).length=(rowsM ds').length:=by simp [rowM]
    have b4:(docsM ds').length=ds'.length:=by simp [docsM]
    omega
theorem sz_reps {s:Ar} {B:Nat}: ∀{H:List Int},(∀k∈H,Sz s B k)→ ∃T,Reps s H T∧8*sizes T≤H.length*B
  | [],_=>⟨[],trivial,by simp [sizes]⟩
  | k::H,h=>by
    obtain ⟨t,a,b⟩:=h k (by simp)
    obtain ⟨T,c,e⟩:=sz_reps (H:=H) fun q hq=>h q (by simp [hq])
    refine ⟨t::T,⟨a,c⟩,?_⟩
    have e1:sizes (t::T)=t.size+sizes T:=by simp [sizes]
    have e2:(H.length+1)*B=H.length*B+B:=Nat.succ_mul _ _
    rw [e1,List.length_cons,e2]
    omega
theorem stage_busy {j B : Nat} (h : Stage x H ds d rate j) (hR : Right (ds ++ [d])) (hw : x.s.wait = []) (hs : j ≠ 0 → Sz x.s B x.src) (hH : ∀ k ∈ H, Sz x.s B k) :
    8*x.s.busyN≤(H.length+1)*B+2048+56*(rowsM (ds++[d])).length+16*(ds.length+1):=by
  obtain ⟨T,hT1,hT2⟩:=sz_reps hH
  have e2:(H.length+1)*B=H.length*B+B:=Nat.succ_mul _ _
  rw [e2]
  rcases h with ⟨rfl,h⟩|⟨a,rfl,ha,h⟩|⟨rfl, -, -,hI,hv⟩
  · obtain ⟨t0,r0,b0⟩:=hs (by omega)
    have:=h.inv.busy_le hw (T:=t0::T) ⟨r0,hT1⟩
    have e:sizes (t0::T)=t0.size+sizes T:=by simp [sizes]
    omega
  · obtain ⟨t0,r0,b0⟩:=hs (by omega)
    obtain ⟨t1,a1,b1⟩:=h.w
    obtain ⟨t2,a2,b2⟩:=h.m
    obtain ⟨t3,a3,b3⟩:=h.sp
    obtain ⟨t4,a4,b4⟩:=h.t
    have:=h.inv.busy_le hw (T:=t1::t2::t3::t4::t0::T) ⟨a1,a2,a3,a4,r0,hT1⟩
    have e:sizes (t1::t2::t3::t4::t0::T)=t1.size+(t2.size+(t3.size+(t4.size+(t0.size+sizes T)))):=by simp [sizes]
    have c1:=b1.size;have c2:=b2.size;have c3:=b3.size;have c4:=b4.size
    have l1:=rowS_length rate (partX ds d a)
    have l2:(rowW (partX ds d a)).length=(partX ds d a).length:=by simp [rowW]
    have l3:(rowM rate (partX ds d a)).length=(partX ds d a).length:=by simp [rowM]
    have l4:(docsM (ds++[d])).length=ds.length+1:=by simp [docsM]
    have l5:=partX_le hR.right a
    omega
  · obtain ⟨t0,r0,b0⟩:=hv.sz
    have:=hI.busy_le hw (T:=t0::T) ⟨r0,hT1⟩
    have e:sizes (t0::T)=t0.size+sizes T:=by simp [sizes]
    rw [List.length_append,List.length_cons,List.length_nil] at b0
    omega
theorem new_T {s:Ar} {root:Int} (hI:Inv s [root]) (hw:s.wait=[]) (hv:VR s root ds rate):Stage (Pt.new s root rate d.1 d.2) [root] ds d rate (d.2.length+3)∧(Pt.new s root rate d.1 d.2).s.wait=[]∧Stay s (Pt.new s root rate d.1 d.2).s [root]∧(Pt.new s root rate d.1 d.2).s.size=s.size∧(Pt.new s root rate d.1 d.2).s.busyN=s.busyN∧(root≠0→(Pt.new s root rate d.1 d.2).s.cnt root=2):=by
  have hk:=keep1 (k:=root) hI (by simp) (fun e=>hI.pos (by simp) e)
  have hwt:(s.keep root).wait=s.wait:=by unfold Ar.keep;split<;>rfl
  refine ⟨.inl ⟨rfl,hk.1,hv.move (fun t ht=>ht.grow hk.2.1) (fun e=>hk.1.pos (by simp) e),rfl,rfl,rfl,rfl,rfl,rfl,rfl,rfl⟩,by show (s.keep root).wait=[];rw [hwt,hw],hk.2.1.stay hI,Ar.keep_size _ _,hk.2.2.1,fun h0=> ?_⟩
  have h1:=cnt_one hI hw h0
  obtain ⟨n,rfl,n1,n2,n3⟩:=has_nat (hI.held root (by simp) h0)
  show (s.keep (n:Int)).cnt (n:Int)=2
  unfold Ar.keep
  rw [if_neg (by rw [h1];decide),h1]
  unfold Ar.cnt
  rw [if_pos (by dsimp only;omega)]
  dsimp only
  rw [Int.toNat_natCast,upd_self]
  exact w64 (by omega) (by omega)
end
end Go.Proofs.YtjeofpkhgmefgaaGreat
namespace Go.Proofs.YtjeofpkhgmefgaaGreat
open Go.RowKit
theorem right_snoc {ds:Docs} {d:Int×List UInt8} (hR:Right ds) (hl:ds.length<10) (h1:1≤d.1) (h2:d.1<9223372036854775808) (ht:d.2.length≤40) (hp: ∀y∈ds,y.1≠d.1):Right (ds++[d]):=by
  refine ⟨?_,fun y hy=> ?_,?_⟩
  · have h:=hR.right
    unfold refRight at h⊢
    simp only [Bool.and_eq_true,List.all_eq_true,decide_eq_true_eq] at h⊢
    refine ⟨fun t htm=> ?_,by simp;omega⟩
    rw [txt_snoc] at htm
    rcases List.mem_append.1 htm with h3|h3
    · exact h.1 t h3
    · rw [List.mem_singleton.1 h3];exact ht
  · rcases List.mem_append.1 hy with h3|h3
    · exact hR.id y h3
    · rw [List.mem_singleton.1 h3];exact ⟨h1,h2⟩
  · rw [List.map_append,List.nodup_append]
    refine ⟨hR.nodup,by simp,fun a ha b hb=> ?_⟩
    obtain ⟨y,hy,rfl⟩:=List.mem_map.1 ha
    simp at hb
    rw [hb];exact hp y hy
structure LoopT (s0:Ar) (root:Int) (ds:Docs) (d:Int×List UInt8) (rate:Int) (j:Nat) (x:Pt):Prop where
  st:Stage x [root] ds d rate j
  wt:x.s.wait=[]
  stay:Stay s0 x.s [root]
  src:x.src=root
  size:x.s.size=6000
  busy:8*x.s.busyN≤30000
section
variable {s0 : Ar} {root : Int} {ds : Docs} {d : Int × List UInt8} {rate : Int} {j : Nat} {x : Pt}
theorem LoopT.next (h : LoopT s0 root ds d rate (j + 1) x) (hj : 1 ≤ j) (hv : VR s0 root ds rate) (hRd : Right (ds ++ [d])) (hrows : (rowsM (ds ++ [d])).length ≤ 111) (hrows0 : (rowsM ds).length ≤ 70) (hl : ds.length < 10) (h1 : 1 ≤ rate) :
    PtIn x∧ ∃y u,x.step=some (false,0,y)∧y.s.work 1073741824=some u∧LoopT s0 root ds d rate j {y with s:=u.2}:=by
  obtain ⟨hin,y,u,e1,e2,e3,e4,e5, -,e7, -,e9, -⟩:=stage_step h.st hRd h1 (by simp) (by have:=h.busy;have:=h.size;unfold costR;omega)
  refine ⟨hin,y,u,by rw [e1,decide_eq_false (by omega)],e2,e3,e4,h.stay.trans e9,(e7 hj).trans h.src,e5.trans h.size,?_⟩
  have hz:Sz u.2 6128 root:=by
    obtain ⟨t,ht,hb⟩:=hv.sz
    exact ⟨t,ht.held (h.stay.trans e9) (by simp),by omega⟩
  have hb:=stage_busy (x:={y with s:=u.2}) (B:=6128) e3 hRd e4 (fun _=>by show Sz u.2 6128 y.src;rw [e7 hj,h.src];exact hz) (fun k hk=>by rw [List.mem_singleton.1 hk];exact hz)
  show 8*u.2.busyN≤30000
  replace hb:8*u.2.busyN≤_:=hb
  simp only [List.length_cons,List.length_nil] at hb
  omega
theorem stage_root {H:List Int} (h:Stage x H ds d rate (j+1)):x.root=0:=by
  rcases h with ⟨hj,h⟩|⟨a,hj,ha,h⟩|⟨hj, -⟩
  · exact h.root
  · exact h.root
  · omega
theorem stop_stop (x:Pt):x.stop.stop=x.stop:=by
  have e:x.stop.held=[]:=rfl
  show {x.stop with s:=x.stop.s.dropAll x.stop.held,over:=true,p:=Parts.zero}=_
  rw [e];rfl
theorem step_stop (x:Pt):x.stop.step=some (true,10,x.stop):=rfl
theorem LoopT.stop (h : LoopT s0 root ds d rate (j + 1) x) (hI : Inv s0 [root]) (hw : s0.wait = []) (hv : VR s0 root ds rate) (hR : Right ds) (h1 : 1 ≤ rate) (h2 : rate ≤ 16) :
    ∃u,x.stop.s.work 1073741824=some u∧x.stop.root=0∧u.2.busy=s0.busy∧(root≠0→u.2.cnt root=1)∧vCheck u.2 root rate ds=some true:=by
  obtain ⟨a1,a2, -⟩:=stage_stop h.st (by simp)
  obtain ⟨u,w1,w2,w3, -,w5⟩:=a1.work (by simp) 1073741824
  have hw2:=w5 (by omega)
  have hst:Stay s0 u.2 [root]:=(h.stay.trans ((a2.stay h.st.inv).mono fun k hk _=>Stage.list_mem x [root] (j+1) hk)).trans w3
  have hv2:VR u.2 root ds rate:=hv.move (fun t ht=>ht.held hst (by simp)) (fun e=>w2.pos (by simp) e)
  have hr0:=stage_root h.st
  refine ⟨u,w1,hr0,?_,cnt_one w2 hw2,hv2.check_own w2 hR h1 h2⟩
  rw [w2.busy,hI.busy]
  rw [hI.busy_same hw w2 hw2 hst]
theorem LoopT.nextK {k M : Nat} (h : LoopT s0 root ds d rate (d.2.length + 3 - k) x) (hk : k < M) (hM : M ≤ d.2.length + 2) (hv : VR s0 root ds rate) (hRd : Right (ds ++ [d])) (hrows : (rowsM (ds ++ [d])).length ≤ 111) (hrows0 : (rowsM ds).length ≤ 70) (hl : ds.length < 10) (h1 : 1 ≤ rate) :
    PtIn x∧ ∃y u,x.step=some (false,0,y)∧y.s.work 1073741824=some u∧LoopT s0 root ds d rate (d.2.length+3 - (k+1)) {y with s:=u.2}:=by
  rw [show d.2.length+3 - k=(d.2.length+3 - (k+1))+1 by omega] at h
  exact h.next (by omega) hv hRd hrows hrows0 hl h1
theorem LoopT.stopK {k : Nat} (h : LoopT s0 root ds d rate (d.2.length + 3 - k) x) (hM : k ≤ d.2.length + 2) (hI : Inv s0 [root]) (hw : s0.wait = []) (hv : VR s0 root ds rate) (hR : Right ds) (h1 : 1 ≤ rate) (h2 : rate ≤ 16) :
    ∃u,x.stop.s.work 1073741824=some u∧x.stop.root=0∧u.2.busy=s0.busy∧(root≠0→u.2.cnt root=1)∧vCheck u.2 root rate ds=some true:=by
  rw [show d.2.length+3 - k=(d.2.length+2 - k)+1 by omega] at h
  exact h.stop hI hw hv hR h1 h2
theorem LoopT.okK {k:Nat} (h:LoopT s0 root ds d rate (d.2.length+3 - k) x) (hM:k≤d.2.length+2) (h1:1≤rate) (hd:d.2.length≤40):PtIn x:=by
  rw [show d.2.length+3 - k=(d.2.length+2 - k)+1 by omega] at h
  rcases h.st with ⟨hj,h⟩|⟨a,hj,ha,h⟩|⟨hj, -⟩
  · exact ⟨by rw [h.pos];omega,by rw [h.pos,h.text];exact Int.le_refl _,by rw [h.text];omega,by rw [h.rt];exact h1⟩
  · exact ⟨by rw [h.pos];omega,by rw [h.pos,h.text];omega,by rw [h.text];omega,by rw [h.rt];exact h1⟩
  · omega
theorem step_num {k gk M n:Nat} (hk:k+gk=M) (hkm:k<M) (hM:M≤n+2) (hn:n≤40):(∃m,gk=m+1)∧wrap64 ((k:Int)+1)=(k:Int)+1∧decide ((k:Int)<(M:Int))=true:=by
  refine ⟨⟨gk - 1,by omega⟩,IntWalk.wrap64_in _ (by omega),by simpa using hkm⟩
theorem step_end {k gk M:Nat} (hk:k+gk=M) (hkm: ¬k<M):k=M∧decide ((M:Int)<(M:Int))=false:=⟨by omega,by simp⟩
theorem step_more {k m M:Nat} (hk:k+(m+1)=M):k+1+m=M∧m<m+1:=⟨by omega,by omega⟩
end
end Go.Proofs.YtjeofpkhgmefgaaGreat
namespace Go.Proofs.YtjeofpkhgmefgaaGreat
open Go.RowKit
structure LoopS (s0:Ar) (root:Int) (ds:Docs) (d:Int×List UInt8) (rate:Int) (j:Nat) (x:Pt):Prop where
  st:Stage x [root] ds d rate j
  wt:x.s.wait=[]
  stay:Stay s0 x.s [root]
  src:1≤j→x.src=root
  size:x.s.size=6000
  busy:8*x.s.busyN≤30000
section
variable {s0 : Ar} {root : Int} {ds : Docs} {d : Int × List UInt8} {rate : Int} {j : Nat} {x : Pt}
theorem LoopS.next (h : LoopS s0 root ds d rate (j + 1) x) (hv : VR s0 root ds rate) (hRd : Right (ds ++ [d])) (hrows : (rowsM (ds ++ [d])).length ≤ 111) (hrows0 : (rowsM ds).length ≤ 70) (hl : ds.length < 10) (h1 : 1 ≤ rate) :
    PtIn x∧ ∃y u,x.step=some (decide (j=0),0,y)∧y.s.work 1073741824=some u∧LoopS s0 root ds d rate j {y with s:=u.2}:=by
  obtain ⟨hin,y,u,e1,e2,e3,e4,e5, -,e7, -,e9, -⟩:=stage_step h.st hRd h1 (by simp) (by have:=h.busy;have:=h.size;unfold costR;omega)
  refine ⟨hin,y,u,e1,e2,e3,e4,h.stay.trans e9,fun q=>(e7 q).trans (h.src (by omega)),e5.trans h.size,?_⟩
  have hz:Sz u.2 6128 root:=by
    obtain ⟨t,ht,hb⟩:=hv.sz
    exact ⟨t,ht.held (h.stay.trans e9) (by simp),by omega⟩
  have hb:=stage_busy (x:={y with s:=u.2}) (B:=6128) e3 hRd e4 (fun q=>by show Sz u.2 6128 y.src;rw [e7 (by omega),h.src (by omega)];exact hz) (fun k hk=>by rw [List.mem_singleton.1 hk];exact hz)
  show 8*u.2.busyN≤30000
  replace hb:8*u.2.busyN≤_:=hb
  simp only [List.length_cons,List.length_nil] at hb
  omega
theorem held_inv {H:List Int} (h:Stage x H ds d rate (j+1)) (hH:H.length≤900):Inv x.s (x.held++H)∧x.held.length≤5:=by
  have key:Inv x.s (x.src::x.p.wave::x.p.marks::x.p.spots::x.p.table::H)∧x.over=false:=by
    rcases h with ⟨hj,h⟩|⟨a,hj,ha,h⟩|⟨hj, -⟩
    · refine ⟨?_,h.over⟩
      rw [h.p0]
      have h1:=(((h.inv.zero_cons (by simp;omega)).zero_cons (by simp;omega)).zero_cons (by simp;omega)).zero_cons (by simp;omega)
      refine h1.perm ?_
      have e1:((0:Int)::0::0::0::x.src::H)=[0,0,0,0]++x.src::H:=rfl
      rw [e1];exact List.perm_middle
    · exact ⟨h.inv.perm (by
        have e1:(x.p.wave::x.p.marks::x.p.spots::x.p.table::x.src::H)=[x.p.wave,x.p.marks,x.p.spots,x.p.table]++x.src::H:=rfl
        rw [e1];exact List.perm_middle),h.over⟩
    · omega
  have e:x.held=(sortI [x.src,x.p.wave,x.p.marks,x.p.spots,x.p.table]).filter fun h=> !decide (h=0):=by
    unfold Pt.held;rw [key.2,if_neg (by decide)]
  have hp:=sortI_perm' [x.src,x.p.wave,x.p.marks,x.p.spots,x.p.table]
  refine ⟨?_,?_⟩
  · rw [e]
    refine inv_filter _ ?_
    have h1:Inv x.s ([x.src,x.p.wave,x.p.marks,x.p.spots,x.p.table]++H):=key.1
    exact h1.perm (hp.symm.append_right H)
  · rw [e]
    refine Nat.le_trans (List.length_filter_le _ _) ?_
    rw [hp.length_eq];simp
theorem LoopS.done (h : LoopS s0 root ds d rate 0 x) (hv : VR s0 root ds rate) (hR : Right ds) (hRd : Right (ds ++ [d])) (h1 : 1 ≤ rate) (h2 : rate ≤ 16) :
    x.over=true∧x.root≠0∧Inv x.s [x.root,root]∧vCheck x.s x.root rate (ds++[d])=some true∧vCheck x.s root rate ds=some true∧x.s.cntE x.root=0∧(root≠0→(x.s.drop x.root).cntE root=0)∧
      ∃u,((x.s.drop x.root).drop root).work 1073741824=some u∧u.2.busy=0:=by
  obtain ⟨o,r0,hI,hv2⟩:x.over=true∧x.root≠0∧Inv x.s [x.root,root]∧VR x.s x.root (ds++[d]) rate:=by
    rcases h.st with ⟨hj, -⟩|⟨a,hj, -⟩|⟨-,h⟩
    · omega
    · omega
    · exact h
  have hI2:=hI.drop
  have hI3:=hI2.drop
  obtain ⟨u,w1,w2,w3, -,w5⟩:=hI3.work (by simp) 1073741824
  have hw:=w5 (by omega)
  have hz:=w2.busy_le hw (T:=[]) trivial
  have hv3:VR x.s root ds rate:=hv.move (fun t ht=>ht.held h.stay (by simp)) (fun e=>hI.pos (by simp) e)
  refine ⟨o,r0,hI,hv2.check_own hI hRd h1 h2,hv3.check_own hI hR h1 h2,?_,fun e=> ?_,u,w1,?_⟩
  · unfold Ar.cntE;rw [if_neg (hI.pos (by simp) r0)]
  · unfold Ar.cntE;rw [if_neg (hI2.pos (by simp) e)]
  · rw [w2.busy]
    simp [sizes] at hz
    rw [hz];rfl
theorem tell_num {k gk N:Nat} (hk:k+gk=N) (hkN:k<N) (hN:N≤43):(∃m,gk=m+1)∧wrap64 ((k:Int)+1)=(k:Int)+1∧decide ((k:Int)<(N:Int))=true∧wrap64 ((N:Int) - (k:Int))=((N - k:Nat):Int)∧wrap64 ((N:Int) - 1)=(N:Int) - 1∧((((k:Int)==(N:Int) - 1):Bool)=decide (N - (k+1)=0)):=by
  refine ⟨⟨gk - 1,by omega⟩,IntWalk.wrap64_in _ (by omega),by simpa using hkN,by rw [IntWalk.wrap64_in _ (by omega)];omega,IntWalk.wrap64_in _ (by omega),?_⟩
  by_cases e:N - (k+1)=0
  · rw [decide_eq_true e,beq_iff_eq];omega
  · rw [decide_eq_false e,beq_eq_false_iff_ne];omega
theorem LoopS.nextK {k N : Nat} (h : LoopS s0 root ds d rate (N - k) x) (hkN : k < N) (hv : VR s0 root ds rate) (hRd : Right (ds ++ [d])) (hrows : (rowsM (ds ++ [d])).length ≤ 111) (hrows0 : (rowsM ds).length ≤ 70) (hl : ds.length < 10) (h1 : 1 ≤ rate) (h40 : d.2.length ≤ 40) :
    PtIn x∧x.left=((N - k:Nat):Int)∧(Inv x.s (x.held++[root])∧x.held.length≤5)∧ ∃y u,x.step=some (decide (N - (k+1)=0),0,y)∧y.s.work 1073741824=some u∧LoopS s0 root ds d rate (N - (k+1)) {y with s:=u.2}:=by
  have e:N - k=(N - (k+1))+1:=by omega
  rw [e] at h⊢
  obtain ⟨a,b⟩:=h.next hv hRd hrows hrows0 hl h1
  exact ⟨a,h.st.left h40,held_inv h.st (by simp),b⟩
end
end Go.Proofs.YtjeofpkhgmefgaaGreat
namespace Go.Proofs.YtjeofpkhgmefgaaGreat
open Go.RowKit
structure LoopG (root:Int) (H:List Int) (ds:Docs) (d:Int×List UInt8) (rate:Int) (j:Nat) (x:Pt):Prop where
  st:Stage x H ds d rate j
  src:1≤j→x.src=root
  size:x.s.size=6000
  busy:8*x.s.busyN≤30000
  sz:1≤j∨root∈H→Sz x.s 6128 root
  hH:H=[]∨H=[root]
section
variable {root : Int} {H : List Int} {ds : Docs} {d : Int × List UInt8} {rate : Int} {j : Nat} {x : Pt}
theorem LoopG.len (h:LoopG root H ds d rate j x):H.length≤1:=by rcases h.hH with e|e<;>rw [e]<;>simp
theorem Stage.src_mem (h:Stage x H ds d rate j) (hj:1≤j):x.src∈Stage.list x H j:=by
  unfold Stage.list
  rw [if_neg (by omega)]
  split<;>simp
theorem LoopG.next (h : LoopG root H ds d rate (j + 1) x) (hRd : Right (ds ++ [d])) (hrows : (rowsM (ds ++ [d])).length ≤ 111) (hl : ds.length < 10) (h1 : 1 ≤ rate) :
    PtIn x∧ ∃y u,x.step=some (decide (j=0),0,y)∧y.s.work 1073741824=some u∧LoopG root H ds d rate j {y with s:=u.2}:=by
  have hlen:=h.len
  obtain ⟨hin,y,u,e1,e2,e3,e4,e5,e6,e7, -, -,e10⟩:=stage_step h.st hRd h1 (by omega) (by have:=h.busy;have:=h.size;unfold costR;omega)
  have hz:1≤j∨root∈H→Sz u.2 6128 root:=fun hq=>by
    obtain ⟨t,ht,hb⟩:=h.sz (.inl (by omega))
    refine ⟨t,e10 root t ?_ ht,hb⟩
    rcases hq with hq|hq
    · have:=e6.src_mem hq
      rw [e7 hq,h.src (by omega)] at this
      exact this
    · exact Stage.list_mem y H j hq
  refine ⟨hin,y,u,e1,e2,e3,fun q=>(e7 q).trans (h.src (by omega)),e5.trans h.size,?_,hz,h.hH⟩
  have hb:=stage_busy (x:={y with s:=u.2}) (B:=6128) e3 hRd e4 (fun q=>by show Sz u.2 6128 y.src;rw [e7 (by omega),h.src (by omega)];exact hz (.inl (by omega))) (fun k hk=>by
    have hk':k=root:=by rcases h.hH with e|e<;>rw [e] at hk<;>simp at hk;exact hk
    rw [hk'] at hk⊢
    exact hz (.inr hk))
  show 8*u.2.busyN≤30000
  replace hb:8*u.2.busyN≤_:=hb
  have:(H.length+1)*6128≤2*6128:=Nat.mul_le_mul_right _ (by omega)
  omega
theorem LoopG.done (h : LoopG root H ds d rate 0 x) (hRd : Right (ds ++ [d])) (h1 : 1 ≤ rate) (h2 : rate ≤ 16) :
    x.over=true∧x.root≠0∧Inv x.s (x.root::H)∧VR x.s x.root (ds++[d]) rate∧vCheck x.s x.root rate (ds++[d])=some true:=by
  rcases h.st with ⟨hj, -⟩|⟨a,hj, -⟩|⟨-,a,b,c,e⟩
  · omega
  · omega
  · exact ⟨a,b,c,e,e.check_own c hRd h1 h2⟩
theorem LoopG.held (h:LoopG root [] ds d rate (j+1) x):Inv x.s x.held∧x.held.length≤5∧(root≠0→1≤x.s.cnt root):=by
  obtain ⟨a,b⟩:=held_inv h.st (by simp)
  rw [List.append_nil] at a
  refine ⟨a,b,fun h0=> ?_⟩
  have hI:=h.st.inv
  have hm:=h.st.src_mem (by omega)
  rw [h.src (by omega)] at hm
  have:=hI.cpos (hI.held root hm h0) (hI.pos hm h0)
  omega
end
end Go.Proofs.YtjeofpkhgmefgaaGreat

/- Part 1 of what CutPut needs: the walks of the program's functions, and plain facts. -/
import Derived.Test.YtlboaaldggpjeaaGreatCoreM9
import Derived.Deep.Slices
import Derived.Deep.Fields
import Derived.ChangeSame
import Derived.WideShapes
import Derived.ChangeSlices
set_option linter.unusedSimpArgs false
set_option linter.unusedVariables false
set_option linter.unnecessarySimpa false
namespace Go.Proofs.YtlboaaldggpjeaaGreat
open Go.RowKit Go.ChangeShapes Go.WideShapes Go.Deep
section
variable {ap : Value} {s : Ar} {X O O' O0 : Nat → Prop} {W0 : World} {B0 : Nat}
theorem Rd.at_ {w:World} {A:Option Addr} {n:Nat} {xs:List Value} (h:Rd w A n xs) {k:Nat} (hk:k<n): ∃ad,A=some ad∧ ∀u,xs[k]? =some u→w.cell? (ad.add k)=some u:=by
  obtain ⟨ad,e,_,hc⟩:=h.2 (by omega)
  exact ⟨ad,e,fun u hu=>hc k u hu⟩
end
section
variable {H : Type} {enc : TypeId × Value → H} {P : Program} {w : World} {base : Nat} {spare : Nat → Bool} {held : Bool}
theorem open_slice_fields14 {t e : TypeId} {fs : Array Field} {fuel : Nat} {cs : List Value} {x : DataW H × List MemPlace} (ht : P.underlying t = some (.slice e)) (he : P.underlying e = some (.struct fs))
    (hone:oneCellFields P fs=true) (hC:P.cellsOf e=fs.size) (h:DataW.trod enc P w base spare held fuel t cs=some x):
    (cs=[.slice none 0 0]∧x=(.nil,[]))∨
    ∃(a:Addr) (len cap m:Nat) (D:Nat→DataW H) (Pl:Nat→List MemPlace),cs=[.slice (some a) len cap]∧base≤a.block∧len≤cap∧cap≤maxLen∧m=(if spare a.block then cap else len)∧
      x=(.slice ((List.range len).map D) ((List.range (m - len)).map fun j=>D (len+j)),MemPlace.row a (m*fs.size)++(List.range m).flatMap Pl)∧
      ∀i,i<m→ ∃(ys:List (DataW H×List MemPlace)) (n:Nat),D i= .agg (ys.map (·.1))∧Pl i=ys.flatMap (·.2)∧ys.length=fs.size∧
        ∀(j:Nat) (f:Field),fs[j]? =some f→ ∃(v:Value) (y:DataW H×List MemPlace),w.cell? (a.add (i*fs.size+j))=some v∧ys[j]? =some y∧DataW.trod enc P w base spare held n f.type [v]=some y:=by
  rcases open_slice ht h with h0|⟨a,len,cap,m,n,D,Pl,hcs,hb,hl,hm,hmm,hx,hi⟩
  · exact .inl h0
  · refine .inr ⟨a,len,cap,m,D,Pl,hcs,hb,hl,hm,hmm,by rw [hC] at hx;exact hx,fun i him=> ?_⟩
    obtain ⟨cs',hc,ht'⟩:=hi i him
    rw [hC] at hc
    obtain ⟨ys,n',hn',hy,hlen,hyl,hf⟩:=DataW.trod_struct he ht'
    obtain ⟨_,hcl,hat⟩:=World.cells?_some hc
    simp only [Prod.mk.injEq] at hy
    refine ⟨ys,n',hy.1,hy.2,hyl,fun j f hj=> ?_⟩
    obtain ⟨ho,hk⟩:=hone_of hone j f hj
    have hjl:j<fs.size:=(Array.getElem?_eq_some_iff.1 hj).1
    have hcell:=hat j hjl
    have hv:cs'[j]? =some (cs'[j]'(by omega)):=List.getElem?_eq_getElem (by omega)
    have h1:=hf j f hj
    rw [ho,hk] at h1
    have hone':(cs'.drop j).take 1=[cs'[j]'(by omega)]:=by
      rw [List.drop_eq_getElem_cons (by omega)]
      rfl
    rw [hone'] at h1
    have hys:ys[j]? =some (ys[j]'(by omega)):=List.getElem?_eq_getElem (by omega)
    refine ⟨_,_,?_,hys,h1.trans hys⟩
    rw [←Go.Deep.add_add,hcell,hv]
end
theorem str_of14 (s:ByteArray):Value.string s=strOf s.data.toList:=by unfold strOf;cases s;rfl
theorem add_one14 (a:Addr) (n:Nat):(⟨(a.add n).block,(a.add n).off+1,none⟩:Addr)=a.add (n+1):=by
  unfold Addr.add
  rw [if_neg (by omega: ¬n+1=0)]
  split
  · rename_i h;subst h;rfl
  · rfl
theorem read_docs14 {H : Type} {enc : TypeId × Value → H} {P : Program} {w : World} {held : Bool} {t e : TypeId} {f0 f1 : Field} {A : Option Addr} {len cap : Nat} {d : DataW H} {p : List MemPlace}
    (ht:P.underlying t=some (.slice e)) (he:P.underlying e=some (.struct #[f0,f1])) (hone:oneCellFields P #[f0,f1]=true) (hC:P.cellsOf e=2) (h0:P.underlying f0.type=some (.int .i64)) (h1:P.underlying f1.type=some .string)
    (h:DataW.Trod enc P w 0 (fun _=>true) held t (.slice A len cap) d p): ∃ds:List (Int×List UInt8),ds.length=len∧ds.length≤maxLen∧Rd2 w (.slice A len cap) ds∧IdOk ds:=by
  obtain ⟨m,hm⟩:=h
  have hlt:=DataW.trod_lt m _ _ _ hm
  simp only [Value.cells] at hm
  rcases open_slice_fields14 ht he hone hC hm with ⟨hc, -⟩|⟨a,l',c',m',D,Pl,hc, -,hl,hcm,hmm,hx,hi⟩
  · simp only [List.cons.injEq,Value.slice.injEq,and_true] at hc
    obtain ⟨rfl,rfl,rfl⟩:=hc
    exact ⟨[],rfl,by simp,⟨none,0,rfl,fun h=>absurd h (by simp)⟩,fun d hd=>by cases hd⟩
  · simp only [List.cons.injEq,Value.slice.injEq,and_true] at hc
    obtain ⟨rfl,rfl,rfl⟩:=hc
    have hmc:len≤m':=by rw [hmm];split<;>omega
    have key: ∀i,i<len→ ∃x:Int×List UInt8,(a.add (i*2)).block<w.heap.size∧w.cell? (a.add (i*2))=some (.int .i64 x.1)∧w.cell? ⟨(a.add (i*2)).block,(a.add (i*2)).off+1,none⟩=some (strOf x.2)∧(Lit.int .i64 x.1).wf=true:=by
      intro i hil
      obtain ⟨ys,n, -, -, -,hf⟩:=hi i (by omega)
      obtain ⟨v0,y0,c0, -,t0⟩:=hf 0 f0 rfl
      obtain ⟨v1,y1,c1, -,t1⟩:=hf 1 f1 rfl
      obtain ⟨x0,e0, -,w0⟩:=DataW.trod_int h0 t0
      obtain ⟨x1,e1, -, -⟩:=DataW.trod_string h1 t1
      simp only [List.cons.injEq,and_true] at e0 e1
      subst e0 e1
      refine ⟨(x0,x1.data.toList),?_,c0,?_,w0⟩
      · exact World.block_lt_of_cell? w _ c0
      · rw [←str_of14,add_one14];exact c1
    have hget: ∀i,(h:i<len)→((List.range len).map fun i=>if h:i<len then (key i h).choose else ((0:Int),([]:List UInt8)))[i]? =some (key i h).choose:=fun i h=>by
      rw [List.getElem?_map,List.getElem?_range h,Option.map_some,dif_pos h]
    have hlen:((List.range len).map fun i=>if h:i<len then (key i h).choose else ((0:Int),([]:List UInt8))).length=len:=by simp
    refine ⟨_,hlen,by rw [hlen];omega,⟨some a,cap,by rw [hlen],fun hn=>⟨a,rfl,?_,fun i d hd=> ?_⟩⟩,fun d hd=> ?_⟩
    · rw [hlen] at hn
      have:=(key 0 hn).choose_spec.1
      simpa [Addr.add] using this
    · have hil:i<len:=by rw [←hlen];exact (List.getElem?_eq_some_iff.1 hd).1
      rw [hget i hil] at hd
      obtain rfl:=Option.some.inj hd
      obtain ⟨a1,a2,a3, -⟩:=(key i hil).choose_spec
      exact ⟨a1,a2,a3⟩
    · obtain ⟨i,hi⟩:=List.getElem?_of_mem hd
      have hil:i<len:=by rw [←hlen];exact (List.getElem?_eq_some_iff.1 hi).1
      rw [hget i hil] at hi
      obtain rfl:=Option.some.inj hi
      exact (key i hil).choose_spec.2.2.2
end Go.Proofs.YtlboaaldggpjeaaGreat
namespace Go.Proofs.YtlboaaldggpjeaaGreat
open Go.RowKit
attribute [local go_sem ↓] Go.wp_at_zero Go.wp_at_succ
attribute [local go_sem] str_len
set_option maxRecDepth 100000 in
set_option maxHeartbeats 2000000 in
theorem without_own (v : Value) (ds : Docs) (id : Int) (hl : ds.length ≤ 50000) (w : World) (h : Rd2 w v ds) :
    Calls Tryz.prog 49 #[v, .int .i64 id] w fun e w'=> ∃A cap,e= .returned (.slice A (lessD ds id).length cap)∧w'.ownsRow w.heap.size 31 2 (.slice A (lessD ds id).length cap) (lessD ds id).length (docCells (lessD ds id))∧Below w.heap.size w w':=by
  have HK:=Lib.hid h
  obtain ⟨A,cap,rfl,h2⟩:=h
  clear h2
  go_enter Tryz.func49,Tryz.ntmps49
  go_wp2_with fail
  go_loopg [5,7,10] ds.length (fun k p z q wr=> ∃i:Nat,q= .int .i64 (i:Int)∧i+k=ds.length∧Hid (wr.ownsRow w.heap.size 31 2 p (lessD (ds.take i) id).length (docCells (lessD (ds.take i) id)))∧Hid (Below w.heap.size w wr))
  case atStart=>exact ⟨0,rfl,by omega,Lib.hid (own_nil _ _ _ _),Lib.hid (Below.refl _ _)⟩
  case round=>
    obtain ⟨i,rfl,hk,Hown,HB⟩:=hrel
    by_cases hlt:i<ds.length
    · obtain ⟨k,rfl⟩: ∃k,gk=k+1:=⟨gk - 1,by omega⟩
      obtain ⟨d,hd⟩:=at_some hlt
      obtain ⟨A',cap',hv,h2⟩:=HK.out.below HB.out
      obtain ⟨ad,rfl,hg,hc⟩:=h2 (by omega)
      obtain ⟨rfl, -,rfl⟩:=Value.slice.inj hv
      obtain ⟨c0,c1,c2⟩:=hc i d hd
      have n1:decide ((i:Int)<(ds.length:Int))=true:=by simpa using hlt
      have n2:(i:Int)<(ds.length:Int):=by omega
      have e3:wrap64 ((i:Int)+1)=(i:Int)+1:=IntWalk.wrap64_in _ (by omega)
      have htake:=Lib.hid (lessD_take (id:=id) hd)
      have hlen:(lessD (ds.take i) id).length≤i:=by
        unfold lessD
        refine Nat.le_trans (List.length_filter_le _ _) ?_
        rw [List.length_take];omega
      have hw0:=HB.out.size
      have E3:=Lib.hid e3
      obtain ⟨m,hm⟩: ∃m,(lessD (ds.take i) id).length=m:=⟨_,rfl⟩
      have hown:=Hown.out
      rw [hm] at hown hlen
      have HM:=Lib.hid hm;have Hown:=Lib.hid hown
      replace c2:wr.cell? ⟨(ad.add (i*2)).block,(ad.add (i*2)).off+1,none⟩=some (.string ⟨d.2.toArray⟩):=c2
      clear h2 hc hv hd hm hown
      by_cases he:d.1=id
      · have d1:(d.1 !=id)=false:=by simp [he]
        rw [if_pos he,List.append_nil] at htake
        clear he
        go_wp2_with fail
        refine handed_gen fun V hV=> ?_
        have hbV:Below wr.heap.size wr V:=by rw [hV];(repeat' first|with_reducible assumption|with_reducible exact Below.refl _ _|with_reducible refine Below.alloc ?_ ?_ _|with_reducible refine Below.setCell ?_ ?_ _|with_reducible refine below_drewN ?_ _|with_reducible refine Below.drew ?_|exact Nat.le_refl _|((try dsimp only);omega)|(simp only [siz_alloc,siz_set];omega))
        have HO:=Lib.hid (own_below Hown.out hbV)
        have HBV:=Lib.hid (below_step HB.out hbV)
        clear hV hbV
        go_roundg k
        case measure=>omega
        case rel=>exact ⟨i+1,by first|rfl|(rw [E3.out];rfl),by omega,Lib.hid (by rw [htake.out,HM.out];exact HO.out),HBV⟩
      · have d1:(d.1 !=id)=true:=by simpa using he
        rw [if_neg he] at htake
        clear he
        go_wp2_with (at_builtin;refine wpList_push _ (by rfl) _ _ 22 (by rfl) (w.heap.size) 31 (.agg #[.int .i64 0, .string ⟨#[]⟩]) 2 24 Tryz.underlying22 (by kernel_rfl) (by rfl) (by omega) _ _ _ (by rfl) (own_below Hown.out (by (repeat' first|with_reducible assumption|with_reducible exact Below.refl _ _|with_reducible refine Below.alloc ?_ ?_ _|with_reducible refine Below.setCell ?_ ?_ _|with_reducible refine below_drewN ?_ _|with_reducible refine Below.drew ?_|exact Nat.le_refl _|((try dsimp only);omega)|(simp only [siz_alloc,siz_set];omega)))) _ (by rfl) (by first|rfl|(rw [siz_alloc];rfl)|(simp only [siz_alloc,siz_set];rfl)) (by simp [Value.oneCell']) (by unfold maxLen;omega) (by omega) (by simp only [siz_alloc,siz_set];omega) ?_;intro g_W c_W W5 hown_W hlow_W hlt_W)
        go_wp2_with fail
        have HB5:=Lib.hid (low_step HB.out (Nat.le_refl _) (Below.trans (by (repeat' first|with_reducible assumption|with_reducible exact Below.refl _ _|with_reducible refine Below.alloc ?_ ?_ _|with_reducible refine Below.setCell ?_ ?_ _|with_reducible refine below_drewN ?_ _|with_reducible refine Below.drew ?_|exact Nat.le_refl _|((try dsimp only);omega)|(simp only [siz_alloc,siz_set];omega))) hlow_W))
        go_roundg k
        case measure=>omega
        case rel=>exact ⟨i+1,by first|rfl|(rw [E3.out];rfl),by omega,Lib.hid (by rw [htake.out,List.length_append,HM.out,docCells_append];exact hown_W),HB5⟩
    · have hi:i=ds.length:=by omega
      have n1:decide ((i:Int)<(ds.length:Int))=false:=by simpa using hlt
      have hown:=Hown.out
      rw [hi,List.take_length] at hown
      have HO:=Lib.hid hown
      clear hown Hown
      have hll:(lessD ds id).length≤50000:=Nat.le_trans (List.length_filter_le _ _) hl
      obtain ⟨A5,c5,hv5⟩: ∃A5 c5,u5= .slice A5 (lessD ds id).length c5:=by
        obtain ⟨-,A',cap',hv, -⟩:=Rx.of_own HO.out
        exact ⟨A',cap',hv⟩
      subst hv5
      go_wp2_with fail
      go_ret
      exact ⟨_,_,rfl,HO.out,HB.out⟩
end Go.Proofs.YtlboaaldggpjeaaGreat
namespace Go.Proofs.YtlboaaldggpjeaaGreat
open Go.RowKit
theorem read_ints {H : Type} {enc : TypeId × Value → H} {P : Program} {w : World} {held : Bool} {t e : TypeId} {A : Option Addr} {len cap : Nat} {d : DataW H} {p : List MemPlace} (ht : P.underlying t = some (.slice e)) (he : P.underlying e = some (.int .i64)) (hc : P.cellsOf e = 1)
    (h:DataW.Trod enc P w 0 (fun _=>true) held t (.slice A len cap) d p): ∃l:List Int,l.length=len∧Rd w A len (l.map (.int .i64)):=by
  obtain ⟨m,hm⟩:=h
  have hlt:=DataW.trod_lt m _ _ _ hm
  simp only [Value.cells] at hm
  rcases ChangeShapes.open_ints ht he hc hm with ⟨h1,_⟩|⟨a,l',c',zs,h1,_,hl,_,hz,hx,hcell, -⟩
  · simp only [List.cons.injEq,Value.slice.injEq,and_true] at h1
    obtain ⟨rfl,rfl,rfl⟩:=h1
    exact ⟨[],rfl,rfl,fun h=>absurd h (by omega)⟩
  · simp only [List.cons.injEq,Value.slice.injEq,and_true] at h1
    obtain ⟨rfl,rfl,rfl⟩:=h1
    simp only [if_true] at hz
    have htl:(zs.take len).length=len:=by rw [List.length_take];omega
    refine ⟨zs.take len,htl,by rw [List.length_map,htl],fun hn=>⟨a,rfl,?_,fun j u hu=> ?_⟩⟩
    · simp only [Prod.mk.injEq] at hx
      exact hlt (.cell a.block a.off) (by rw [hx.2];exact MemPlace.mem_row.2 ⟨0,by omega,by simp⟩)
    · simp only [List.getElem?_map,Option.map_eq_some_iff] at hu
      obtain ⟨i,hi,rfl⟩:=hu
      have hj:j<len:=by have:=(List.getElem?_eq_some_iff.1 hi).1;omega
      rw [List.getElem?_take_of_lt hj] at hi
      rw [hcell j (by omega)]
      simp [List.getD_eq_getElem?_getD,hi]
end Go.Proofs.YtlboaaldggpjeaaGreat
namespace Go.Proofs.YtlboaaldggpjeaaGreat
open Go.RowKit
attribute [local go_sem ↓] Go.wp_at_zero Go.wp_at_succ
attribute [local go_sem] str_len
def Has (w0:World) (L:List (Nat×Obj)) (v:Value) (ds:Docs):Prop:= ∀(W:World) (ap:Value) (s:Ar),St w0 W ap s L→Rd2 W v ds
theorem St.fresh {w0 W W':World} {ap:Value} {s:Ar} {L:List (Nat×Obj)} {v:Value} {ds:Docs} (h:St w0 W ap s L) (ho:W'.ownsRow W.heap.size 31 2 v ds.length (docCells ds)) (hb:Below W.heap.size W W'): ∃L',St w0 W' ap s L'∧Has w0 L' v ds:=by
  obtain ⟨O,hA,hO,hL⟩:=h.ex
  rcases ho.2 with ⟨rfl,h0⟩|⟨g,cap,cur,rfl,hge,hc,h1,h2,h3,h4⟩
  · refine ⟨[],⟨⟨O,hA.below hb,hO,fun _ q=>by cases q⟩,below_step h.bel hb⟩,fun W2 ap2 s2 _=> ?_⟩
    rw [List.length_eq_zero_iff.1 h0] at*
    exact ⟨none,0,rfl,fun q=>by simp at q⟩
  · refine ⟨[(g, .cells cur 31 (0,0))],⟨⟨O,hA.below hb,hO,fun y hy=> ?_⟩,below_step h.bel hb⟩,fun W2 ap2 s2 hS=> ?_⟩
    · obtain rfl:=List.mem_singleton.1 hy
      exact ⟨hc,hA.new hge⟩
    · exact rd2_own (base:=0) ⟨ho.1, .inr ⟨g,cap,cur,rfl,Nat.zero_le _,hS.at0,h1,h2,h3,h4⟩⟩
theorem vr_ne {s:Ar} {root:Int} {ds:Docs} {rate:Int} (hv:VR s root ds rate) (hne:ds≠[]):root≠0:=by
  rcases hv.ex with ⟨-,q⟩|⟨t,ht,tw,tm,tsp,tt,rfl, -⟩
  · exact absurd q hne
  · intro h0
    rw [h0] at ht;cases ht with
    | nd hh=>cases hh
structure Between (s:Ar) (root:Int) (ds:Docs) (rate:Int):Prop where
  inv:Inv s [root]
  vr:VR s root ds rate
  size:s.size=6000
  busy:8*s.busyN≤30000
  right:Right ds
  rows:(rowsM ds).length≤80
  len:ds.length≤10
theorem LoopC.between {root:Int} {ds:Docs} {k:Nat} {d:Int×List UInt8} {rate:Int} {x:Ct} (h:LoopC root [root] ds k d rate 0 x) (hR:Right ds) (hk:ds[k]? =some d) (h1:1≤rate) (h2:rate≤16) (hr:(rowsM ds).length≤80) (hl:ds.length≤10):Between (x.s.drop root) x.root (lessD ds d.1) rate:=by
  obtain ⟨-,b,c, -, -⟩:=h.done hR h1 h2
  have hI:Inv (x.s.drop root) [x.root]:=(b.perm (List.Perm.swap _ _ _)).drop
  rw [lessD_era hR hk]
  refine ⟨hI,c.move (fun t ht=>ht.grow (Grow.drop _ _)) (fun q=>hI.pos (by simp) q),(Grow.drop x.s root).size.trans h.size,by rw [busyN_drop];exact h.busy,hR.era k,?_,?_⟩
  · rw [←rowsM_era hR hk];exact Nat.le_trans (List.length_filter_le _ _) hr
  · exact Nat.le_trans (List.eraseIdx_sublist ds k).length_le hl
theorem Between.last {s:Ar} {root:Int} {ds:Docs} {rate:Int} (h:Between s root ds rate):(root≠0→s.cntE root=0)∧ ∃u,(s.drop root).work 1073741824=some u∧u.2.busy=0:=by
  have hI2:=h.inv.drop
  obtain ⟨u,w1,w2,w3, -,w5⟩:=hI2.work (by simp) 1073741824
  have hw:=w5 (by omega)
  have hz:=w2.busy_le hw (T:=[]) trivial
  refine ⟨fun e=>by unfold Ar.cntE;rw [if_neg (h.inv.pos (by simp) e)],u,w1,?_⟩
  rw [w2.busy]
  simp [sizes] at hz
  rw [hz];rfl
theorem pick2 {w0 : World} {A : Option Addr} {cap : Nat} {ds : Docs} {L : List (Nat × Obj)} (hpos : 1 ≤ ds.length) (hl : ds.length ≤ 10) (i : Int) {W : World} {ap : Value} {s : Ar} (hS : St w0 W ap s L) (h : Has w0 L (.slice A ds.length cap) ds) :
    ∃ad j d,A=some ad∧ds[j]? =some d∧W.cell? (ad.add (j*2))=some (.int .i64 d.1)∧wrap64 (i.tmod (ds.length:Int)+(ds.length:Int))=i.tmod (ds.length:Int)+(ds.length:Int)∧(i.tmod (ds.length:Int)+(ds.length:Int)) % (ds.length:Int)=(j:Int)∧(0:Int)≤i.tmod (ds.length:Int)+(ds.length:Int)∧(j:Int)<(ds.length:Int)∧((ds.length:Int)==0)=false:=by
  obtain ⟨t1,t2,j,hj,hjl⟩:=pick_at i ds.length (by omega)
  obtain ⟨d,hd⟩:=at_some hjl
  obtain ⟨A',c',hv,h2⟩:=h W ap s hS
  obtain ⟨rfl, -,rfl⟩:=Value.slice.inj hv
  obtain ⟨ad,rfl, -,hc⟩:=h2 (by omega)
  exact ⟨ad,j,d,rfl,hd,(hc j d hd).2.1,IntWalk.wrap64_in _ (by omega),hj,by omega,by omega,by rw [beq_eq_false_iff_ne];omega⟩
set_option maxRecDepth 100000 in
set_option maxHeartbeats 8000000 in
theorem cutPut_walk (A : Option Addr) (cap : Nat) (ds : Docs) (rate : Int) (B : Option Addr) (capB : Nat) (zs : List Int) (hl : ds.length ≤ maxLen) (hid : IdOk ds) (w : World) (h : Rd2 w (.slice A ds.length cap) ds) (hz : Rd w B zs.length (zs.map (.int .i64))) :
    Calls Tryz.prog 11 #[.slice A ds.length cap, .int .i64 rate, .slice B zs.length capB] w fun e w'=>e= .returned (.bool true)∧Below w.heap.size w w':=by
  have HK:=Lib.hid h;have HZ:=Lib.hid hz;clear h hz
  cases hf:few ds with
  | false=>
    have Hf:=Lib.hid hf;clear hf
    go_enter Tryz.func11,Tryz.ntmps11
    go_wp2_with fail
    refine (few_calls _ ds hl _ HK.out).mono ?_
    rintro e0 W0 ⟨rfl,hb1⟩
    rw [Hf.out]
    have HB0:=Lib.hid hb1;clear hb1
    go_wp2_with fail
    refine (alive14_calls _).mono ?_
    rintro e1 W1 ⟨rfl,hb1⟩
    have HB1:=Lib.hid (below_step HB0.out hb1);clear hb1
    go_wp2_with fail
    go_ret
    exact ⟨rfl,HB1.out⟩
  | true=>
    have Hf:=Lib.hid hf
    obtain ⟨hR,htot,hl10⟩:=few_right hf hid
    have hrows:=rows_tot hR
    have e10:decide (10<(ds.length:Int))=false:=by simp only [decide_eq_false_iff_not];omega
    have hcase : (decide (rate < 1) = true ∨ (decide (rate < 1) = false ∧ (decide (16 < rate) = true ∨ (decide (16 < rate) = false ∧ decide (20 < (zs.length : Int)) = true)))) ∨
        (decide (rate<1)=false∧decide (16<rate)=false∧decide (20<(zs.length:Int))=false):=by
      simp only [decide_eq_true_eq,decide_eq_false_iff_not];omega
    rcases hcase with hno|⟨d1,d2,d3⟩
    · clear hf hR htot hl10 hrows
      rcases hno with d1|⟨d1,d2|⟨d2,d3⟩⟩<;>
      (go_enter Tryz.func11,Tryz.ntmps11
       go_wp2_with fail
       refine (few_calls _ ds hl _ HK.out).mono ?_
       rintro e0 W0 ⟨rfl,hb1⟩
       rw [Hf.out]
       have HB0:=Lib.hid hb1;clear hb1
       go_wp2_with fail
       refine (alive14_calls _).mono ?_
       rintro e2 W2 ⟨rfl,hb2⟩
       have HB2:=Lib.hid (below_step HB0.out hb2)
       clear hb2
       go_wp2_with fail
       go_ret
       exact ⟨rfl,HB2.out⟩)
    have hb8:1≤rate∧rate≤16∧zs.length≤20:=by
      simp only [decide_eq_false_iff_not] at d1 d2 d3;omega
    have H2:=Lib.hid hb8.1;have H3:=Lib.hid hb8.2.1;have HZL:=Lib.hid hb8.2.2
    have HR:=Lib.hid hR;have HT:=Lib.hid htot;have H10:=Lib.hid hl10
    have HRW:Hid ((rowsM ds).length≤70):=Lib.hid (by omega)
    clear hf hb8 hR htot hl10 hrows
    go_enter Tryz.func11,Tryz.ntmps11
    go_wp2_with fail
    refine (few_calls _ ds hl _ HK.out).mono ?_
    rintro e0 W0 ⟨rfl,hb1⟩
    rw [Hf.out]
    have HB0:=Lib.hid hb1;clear hb1
    go_wp2_with fail
    refine (alive14_calls _).mono ?_
    rintro e2 W2 ⟨rfl,hb2⟩
    have HB2:=Lib.hid (below_step HB0.out hb2)
    clear hb2 d1 d2 d3 e10
    go_wp2_with fail
    refine (new_calls 6000 (by omega) (by omega) _).mono ?_
    rintro e3 W3 ⟨p,O,rfl,hA,hO,hb3⟩
    have HS3:Hid (St w W3 (.pointer (some ⟨p,0,none⟩)) (Ar.new 6000) []):=Lib.hid (St.new (below_step HB2.out hb3) hA fun b hb=>Nat.le_trans HB2.out.size (hO b hb))
    clear hA hO hb3
    go_wp2_with fail
    refine (bldS_calls 6000 (by omega) (by omega) HS3.out rate H2.out (by have:=H3.out;omega) ds HR.out HT.out A cap HK.out).mono ?_
    rintro e4 W4 ⟨root,s,rfl,hS,hI,hwt,hsz,hv,hroot⟩
    have hbz:=hv.busy hI hwt
    have HBT:Hid (Between s root ds rate):=Lib.hid ⟨hI,hv,hsz,by have:=HRW.out;have:=H10.out;omega,HR.out,by have:=HRW.out;omega,H10.out⟩
    have HHS:Hid (Has w [] (.slice A ds.length cap) ds):=Lib.hid (fun W ap s hS=>HK.out.below hS.bel)
    have HS4:=Lib.hid hS
    clear hS hI hwt hsz hv hroot hbz HS3
    go_wp2_with fail
    go_loopg [8,10,12,13,14,15,16,56] zs.length (fun m c8 c10 c12 c13 c14 c15 c16 c56 wr=> ∃(i:Nat) (root:Int) (s:Ar) (ds':Docs) (A':Option Addr) (cap':Nat) (L:List (Nat×Obj)),c8= .int .i64 root∧c10= .slice A' ds'.length cap'∧c56= .int .i64 (i:Int)∧i+m=zs.length∧Hid (St w wr (.pointer (some ⟨p,0,none⟩)) s L∧Has w L (.slice A' ds'.length cap') ds'∧Between s root ds' rate))
    case atStart=>exact ⟨0,root,s,ds,A,cap,[],rfl,rfl,rfl,by omega,Lib.hid ⟨HS4.out,HHS.out,HBT.out⟩⟩
    case round=>
      clear HS4 HBT HHS
      obtain ⟨i,root,s,ds',A',cap',L,rfl,rfl,rfl,hk,HX⟩:=hrel
      by_cases hmain:i<zs.length∧ds'≠[]
      · obtain ⟨hi,hne⟩:=hmain
        obtain ⟨m,rfl⟩: ∃m,gk=m+1:=⟨gk - 1,by omega⟩
        obtain ⟨o,ho⟩: ∃o,zs[i]? =some o:=⟨_,List.getElem?_eq_getElem hi⟩
        have hpos:1≤ds'.length:=List.length_pos_iff.2 hne
        obtain ⟨ad,j,d,hA',hd,c1,p1,p2,p3,p4,p5⟩:=pick2 hpos HX.out.2.2.len o HX.out.1 HX.out.2.1
        subst hA'
        obtain ⟨bd,hB,hcB⟩:=(HZ.out.below HX.out.1.bel).at_ hi
        subst hB
        have co:wr.cell? (bd.add i)=some (.int .i64 o):=hcB _ (by rw [List.getElem?_map,ho];rfl)
        have n1:decide ((i:Int)<(zs.length:Int))=true:=by simpa using hi
        have n2:(i:Int)<(zs.length:Int):=by omega
        have e5:wrap64 ((i:Int)+1)=(i:Int)+1:=IntWalk.wrap64_in _ (by have:=HZL.out;omega)
        have HE5:=Lib.hid e5
        have HBT:=HX.out.2.2
        obtain ⟨r,r1,r2,r3,r4,r5,r6⟩:=newC_in HBT.inv HBT.vr HBT.right hd
        have hcon:=HX.out.1.cut root rate d.1 (j:Int) (docsM ds') r r1 r2 r3 H2.out H3.out r4 r5
        rw [r6] at hcon
        have hlg:=newC0_T HBT.inv HBT.vr HBT.size HBT.busy hd HBT.rows HBT.len
        obtain ⟨x0,hx0⟩: ∃x0,Ct.new s root d.1 (d.2.length:Int) (j:Int)=x0:=⟨_,rfl⟩
        rw [hx0] at hcon hlg
        have HCON:=Lib.hid hcon;have HLG:=Lib.hid hlg;have HD:=Lib.hid hd
        have HR0:=Lib.hid (vr_ne HBT.vr hne)
        have HRT:=Lib.hid HBT.right;have HRS:=Lib.hid HBT.rows;have HLN:=Lib.hid HBT.len
        have HAS:=Lib.hid HX.out.2.1
        have HKM:=Lib.hid (show i+1+m=zs.length∧m<m+1 by omega)
        clear hcB ho e5 HBT r1 r2 r3 r4 r5 r6 hcon hlg hx0 hd hne hk hi
        go_wp2_with fail
        refine HCON.out.mono ?_
        rintro e6 W6 ⟨b,rfl,h6⟩
        have H6:=Lib.hid h6
        clear h6 HCON HX c1 co p1 p2 p3 p4 p5 n1 n2 hpos
        go_wp2_with fail
        go_loopg [15,16] (2*d.2.length+3) (fun m c15 c16 wr=> ∃x,c16= .bool (decide (m=0))∧Hid (Sc w wr (.pointer (some ⟨p,0,none⟩)) b x L∧LoopC root [root] ds' j d rate m x))
        case atStart=>exact ⟨x0,by simp,Lib.hid ⟨H6.out,HLG.out⟩⟩
        case round=>
          obtain ⟨x,rfl,HX⟩:=hrel
          clear H6 HLG
          cases gk with
          | succ m2=>
            have d0:decide (m2+1=0)=false:=by simp
            rw [d0]
            obtain ⟨y,u,y4,y5,y6, -, -, -⟩:=HX.out.2.next HRT.out HD.out HRS.out HLN.out
            have HY4:=Lib.hid y4;have HY5:=Lib.hid y5;have HY6:=Lib.hid y6
            have HOK:Hid (CtOk x):=Lib.hid (HX.out.2.st.ok HRT.out HD.out)
            clear y4 y5 y6 d0
            go_wp2_with fail
            refine (HX.out.1.act fun O A cap hT hR=>cStep_calls x HOK.out _ HY4.out _ hT hR).mono ?_
            rintro e11 W11 ⟨rfl,h11⟩
            have H11:=Lib.hid h11
            clear h11
            go_wp2_with fail
            refine (H11.out.write fun O hA=>work_calls _ _ HY5.out _ hA).mono ?_
            rintro e12 W12 ⟨rfl,h12⟩
            have H12:=Lib.hid h12
            clear h12 H11
            go_wp2_with fail
            go_roundg m2
            case measure=>omega
            case rel=>exact ⟨_,rfl,Lib.hid ⟨H12.out,HY6.out⟩⟩
          | zero=>
            have d0:decide ((0:Nat)=0)=true:=rfl
            rw [d0]
            have hb:=HX.out.2.between HRT.out HD.out H2.out H3.out HRS.out HLN.out
            have hc0:x.s.cntE root=0:=by
              obtain ⟨-,z2, -, -, -⟩:=HX.out.2.done HRT.out H2.out H3.out
              unfold Ar.cntE;rw [if_neg (z2.pos (by simp) HR0.out)]
            have hck:=hb.vr.check_own hb.inv hb.right H2.out H3.out
            have HB:=Lib.hid hb;have HC0:=Lib.hid hc0;have HCK:=Lib.hid hck
            have HL5:Hid (ds'.length≤50000):=Lib.hid (by have:=HLN.out;omega)
            have HL6:Hid ((lessD ds' d.1).length≤50000):=Lib.hid (by have:=hb.len;omega)
            clear hb hc0 hck d0
            go_wp2_with fail
            refine (HX.out.1.write fun O hA=>drop_calls root _ hA).mono ?_
            rintro e11 W11 ⟨rfl,h11⟩
            have H11:=Lib.hid h11
            clear h11
            rw [HC0.out]
            go_wp2_with fail
            refine (H11.out.same fun O A cap hT=>cRoot_calls _ hT).mono ?_
            rintro e12 W12 ⟨rfl,h12⟩
            obtain ⟨A12,cap12,hst⟩:=h12.st
            have H12:=Lib.hid (hst.less (L':=L) (fun y hy=>List.mem_cons_of_mem _ hy))
            clear h12 hst H11
            go_wp2_with fail
            refine (without_own _ ds' d.1 HL5.out _ (HAS.out _ _ _ H12.out)).mono ?_
            rintro e14 W14 ⟨A14,c14,rfl,hown14,hb14⟩
            obtain ⟨L2,hS14,hA14⟩:=H12.out.fresh hown14 hb14
            have H14:=Lib.hid hS14;have HA14:=Lib.hid hA14
            clear hown14 hb14 hS14 hA14 H12
            go_wp2_with fail
            refine (H14.out.read fun O hA=>check_calls x.root rate (lessD ds' d.1) _ true HCK.out HL6.out HB.out.right.txt50 _ hA (HA14.out _ _ _ H14.out)).mono ?_
            rintro e15 W15 ⟨rfl,h15⟩
            have H15:=Lib.hid h15
            clear h15 H14
            go_wp2_with fail
            have e5:=HE5.out
            go_roundg m
            case measure=>exact HKM.out.2
            case rel=>exact ⟨i+1,x.root,_,lessD ds' d.1,A14,c14,L2,rfl,rfl,by first|rfl|(rw [e5];rfl),HKM.out.1,Lib.hid ⟨H15.out,HA14.out,HB.out⟩⟩
      · have hexit : (i < zs.length ∧ ds' = []) ∨ ¬ i < zs.length := by
          by_cases h1:i<zs.length
          · exact .inl ⟨h1,Classical.byContradiction fun h2=>hmain ⟨h1,h2⟩⟩
          · exact .inr h1
        obtain ⟨f1,u,f2,f3⟩:=HX.out.2.2.last
        have F1:=Lib.hid f1;have F2:=Lib.hid f2;have F3:=Lib.hid f3
        clear f1 f2 f3 hmain hk
        have hroot:((root !=0)=false∧Hid (root=0))∨((root !=0)=true∧Hid (root≠0)):=by
          by_cases e:root=0
          · exact .inl ⟨by simpa using e,Lib.hid e⟩
          · exact .inr ⟨by simpa using e,Lib.hid e⟩
        rcases hexit with ⟨h1,h2⟩|h1
        · subst h2
          obtain ⟨o,ho⟩: ∃o,zs[i]? =some o:=⟨_,List.getElem?_eq_getElem h1⟩
          obtain ⟨bd,hB,hcB⟩:=(HZ.out.below HX.out.1.bel).at_ h1
          subst hB
          have co:wr.cell? (bd.add i)=some (.int .i64 o):=hcB _ (by rw [List.getElem?_map,ho];rfl)
          have n1:decide ((i:Int)<(zs.length:Int))=true:=by simpa using h1
          have n2:(i:Int)<(zs.length:Int):=by omega
          clear hcB ho
          rcases hroot with ⟨d9,h9⟩|⟨d9,h9⟩
          · have f2:=F2.out
            rw [h9.out,drop_zero] at f2
            have F2':=Lib.hid f2
            clear f2
            go_wp2_with fail
            refine (HX.out.1.write fun O hA=>work_calls _ _ F2'.out _ hA).mono ?_
            rintro e20 W20 ⟨rfl,h20⟩
            have H20:=Lib.hid h20
            clear h20
            go_wp2_with fail
            refine (H20.out.same fun O hA=>used_calls _ hA).mono ?_
            rintro e21 W21 ⟨rfl,h21⟩
            have H21:=Lib.hid h21
            clear h21 H20
            rw [F3.out]
            go_wp2_with fail
            go_ret
            exact ⟨rfl,H21.out.bel⟩
          · have F1':=Lib.hid (F1.out h9.out)
            go_wp2_with fail
            refine (HX.out.1.write fun O hA=>drop_calls root _ hA).mono ?_
            rintro e19 W19 ⟨rfl,h19⟩
            have H19:=Lib.hid h19
            clear h19
            rw [F1'.out]
            go_wp2_with fail
            refine (H19.out.write fun O hA=>work_calls _ _ F2.out _ hA).mono ?_
            rintro e20 W20 ⟨rfl,h20⟩
            have H20:=Lib.hid h20
            clear h20 H19
            go_wp2_with fail
            refine (H20.out.same fun O hA=>used_calls _ hA).mono ?_
            rintro e21 W21 ⟨rfl,h21⟩
            have H21:=Lib.hid h21
            clear h21 H20
            rw [F3.out]
            go_wp2_with fail
            go_ret
            exact ⟨rfl,H21.out.bel⟩
        · have n1:decide ((i:Int)<(zs.length:Int))=false:=by simp only [decide_eq_false_iff_not];omega
          rcases hroot with ⟨d9,h9⟩|⟨d9,h9⟩
          · have f2:=F2.out
            rw [h9.out,drop_zero] at f2
            have F2':=Lib.hid f2
            clear f2
            go_wp2_with fail
            refine (HX.out.1.write fun O hA=>work_calls _ _ F2'.out _ hA).mono ?_
            rintro e20 W20 ⟨rfl,h20⟩
            have H20:=Lib.hid h20
            clear h20
            go_wp2_with fail
            refine (H20.out.same fun O hA=>used_calls _ hA).mono ?_
            rintro e21 W21 ⟨rfl,h21⟩
            have H21:=Lib.hid h21
            clear h21 H20
            rw [F3.out]
            go_wp2_with fail
            go_ret
            exact ⟨rfl,H21.out.bel⟩
          · have F1':=Lib.hid (F1.out h9.out)
            go_wp2_with fail
            refine (HX.out.1.write fun O hA=>drop_calls root _ hA).mono ?_
            rintro e19 W19 ⟨rfl,h19⟩
            have H19:=Lib.hid h19
            clear h19
            rw [F1'.out]
            go_wp2_with fail
            refine (H19.out.write fun O hA=>work_calls _ _ F2.out _ hA).mono ?_
            rintro e20 W20 ⟨rfl,h20⟩
            have H20:=Lib.hid h20
            clear h20 H19
            go_wp2_with fail
            refine (H20.out.same fun O hA=>used_calls _ hA).mono ?_
            rintro e21 W21 ⟨rfl,h21⟩
            have H21:=Lib.hid h21
            clear h21 H20
            rw [F3.out]
            go_wp2_with fail
            go_ret
            exact ⟨rfl,H21.out.bel⟩
end Go.Proofs.YtlboaaldggpjeaaGreat
